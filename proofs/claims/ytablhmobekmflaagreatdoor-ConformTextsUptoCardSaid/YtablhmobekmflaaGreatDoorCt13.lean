/- Texts laid together. -/
import Derived.Test.YtablhmobekmflaaGreatDoorCt12
import Derived.Test.YtablhmobekmflaaGreatDoorCt04
import Derived.Test.YtablhmobekmflaaGreatDoorCt08
import Derived.Test.YtablhmobekmflaaGreatDoorCt03
import Derived.Test.YtablhmobekmflaaGreatDoorCt11
import Derived.OwnWalk
set_option linter.unusedVariables false
set_option linter.unusedSimpArgs false
namespace Go.Proofs.YtablhmobekmflaaGreatDoor
section
open Go.RowKit
structure RDoc where
 reel : ByteArray
 doc : Doc
structure Fat where
 reel : ByteArray
 id : Int
 parts : List Int
 lost : Int
 short : List Int
def allR (l : List RDoc) : List Reg := l.flatMap fun d => d.doc.regs
def rdNext (rate : Int) (drop : Bool) (p : Option ByteArray) (d : RDoc) : Int :=
 if nameB d.reel = false then 5 else if (p.map fun q => Op.bytesLess d.reel.toList q.toList || d.reel.toList == q.toList) = some true then 8 else if d.doc.err ≠ 0 then d.doc.err else if ¬ (d.doc.rate = rate ∧ d.doc.drop = drop) then 13 else 0
def rdLoop (rate : Int) (drop : Bool) : Option ByteArray → List RDoc → Int
 | _, [] => 0
 | p, d :: l => if rdNext rate drop p d ≠ 0 then rdNext rate drop p d else rdLoop rate drop (some d.reel) l
def prevR (l : List RDoc) : Nat → Option ByteArray | 0 => none | k + 1 => (l[k]?).map (·.reel)
theorem rd_step {rate : Int} {drop : Bool} {l : List RDoc} {k : Nat} {d : RDoc} {E : Int} (hd : l[k]? = some d) (hP : E = rdLoop rate drop (prevR l k) (l.drop k)) :
 (rdNext rate drop (prevR l k) d ≠ 0 → E = rdNext rate drop (prevR l k) d) ∧ (rdNext rate drop (prevR l k) d = 0 → E = rdLoop rate drop (prevR l (k + 1)) (l.drop (k + 1))) := by
 rw [drop_at l k d hd] at hP
 unfold rdLoop at hP
 have hn : prevR l (k + 1) = some d.reel := by simp [prevR, hd]
 refine ⟨fun h => by rw [if_pos h] at hP; exact hP, fun h => by rw [if_neg (by simpa using h)] at hP; rw [hP, hn]⟩
theorem rd_all {rate : Int} {drop : Bool} : ∀ {l : List RDoc} {p : Option ByteArray}, rdLoop rate drop p l = 0 → ∀ d ∈ l, nameB d.reel = true ∧ d.doc.err = 0 ∧ d.doc.rate = rate ∧ d.doc.drop = drop
 | [], _, _, d, hd => by simp at hd
 | x :: l, p, h, d, hd => by
  unfold rdLoop at h
  split at h
  · rename_i h1; exact absurd h h1
  · rename_i h1
    rcases List.mem_cons.1 hd with rfl | hd
    · have h1 : rdNext rate drop p d = 0 := by simpa using h1
      unfold rdNext at h1
      split at h1
      · omega
      · split at h1
        · omega
        · split at h1
          · rename_i h2; exact absurd h1 h2
          · split at h1
            · omega
            · rename_i h2 h3 h4 h5
              exact ⟨by simpa using h2, by simpa using h4, by simpa using h5⟩
    · exact rd_all h d hd
def regE (l : List Reg) : Int := match refR l with | none => 16 | some m => if 16 < m.length then 9 else 0
def conErr (docs : List RDoc) (e : Edl) : Int :=
 if edlErr e ≠ 0 then edlErr e else if 16 < docs.length then 9 else if rdLoop e.rate e.drop none docs ≠ 0 then rdLoop e.rate e.drop none docs else regE (allR docs)
theorem conErr_ok {docs : List RDoc} {e : Edl} (h : conErr docs e = 0) : edlErr e = 0 ∧ ¬ 16 < docs.length ∧ rdLoop e.rate e.drop none docs = 0 ∧ ∃ m, refR (allR docs) = some m ∧ ¬ 16 < m.length := by
 unfold conErr at h
 split at h
 · rename_i h1; exact absurd h h1
 · split at h
   · omega
   · split at h
     · rename_i h1; exact absurd h h1
     · rename_i h1 h2 h3
       refine ⟨by simpa using h1, h2, by simpa using h3, ?_⟩
       unfold regE at h
       split at h
       · omega
       · rename_i m hm
         split at h
         · omega
         · exact ⟨m, hm, by assumption⟩
def langD : List RDoc → ByteArray
 | [] => ⟨#[]⟩
 | d :: r => if r.all (fun x => decide (x.doc.lang = d.doc.lang)) = true then d.doc.lang else ⟨#[]⟩
def partE (c : Cut) (x : Ev) : Option Spn := if reachP c.pc x.inn < reachP c.pc x.out then some ⟨reachP c.pc x.inn, reachP c.pc x.out⟩ else none
structure ConSt where
 evs : List Ev
 fats : List Fat
def Fat.note (f : Fat) (id : Int) (sh : Bool) : Fat := ⟨f.reel, f.id, f.parts ++ [id], f.lost, if sh = true then f.short ++ [id] else f.short⟩
def Ev.as (x : Ev) (id : Int) (s : Spn) : Ev := ⟨id, s.inn, s.out, x.region, x.kind, x.speaker, x.rows⟩
def conStep (c : Cut) (least : Int) (i : Nat) (x : Ev) (s : ConSt) : ConSt :=
 match partE c x with
 | none => s
 | some p => ⟨s.evs ++ [x.as ((s.evs.length : Int) + 1) p], s.fats.modify i fun f => f.note ((s.evs.length : Int) + 1) (decide (p.out - p.inn < least))⟩
def conEvs (c : Cut) (least : Int) : Nat → List Ev → ConSt → ConSt
 | _, [], s => s
 | i, x :: l, s => conEvs c least (i + 1) l (conStep c least i x s)
theorem conEvs_snoc (c : Cut) (least : Int) : ∀ (l : List Ev) (i : Nat) (x : Ev) (s : ConSt), conEvs c least i (l ++ [x]) s = conStep c least (i + l.length) x (conEvs c least i l s)
 | [], i, x, s => by simp [conEvs]
 | y :: l, i, x, s => by
  simp only [List.cons_append, conEvs, List.length_cons]
  rw [conEvs_snoc c least l (i + 1) x, show i + 1 + l.length = i + (l.length + 1) by omega]
theorem conEvs_take {c : Cut} {least : Int} {l : List Ev} {k i : Nat} {x : Ev} {s : ConSt} (hx : l[k]? = some x) : conEvs c least i (l.take (k + 1)) s = conStep c least (i + k) x (conEvs c least i (l.take k) s) := by
 have := (List.getElem?_eq_some_iff.1 hx).1
 rw [take_snoc' _ _ _ hx, conEvs_snoc, List.length_take, Nat.min_eq_left (by omega)]
def findRd (l : List RDoc) (s : ByteArray) : Option Nat := l.findIdx? fun d => decide (d.reel = s)
def offR (l : List RDoc) (k : Nat) : Nat := ((l.take k).map fun d => d.doc.evs.length).sum
def evsR (l : List RDoc) (k : Nat) : List Ev := match l[k]? with | some d => d.doc.evs | none => []
def conCut (docs : List RDoc) (least : Int) (s : ConSt) (c : Cut) : ConSt :=
 match findRd docs c.reel with
 | none => s
 | some k => conEvs c least (offR docs k) (evsR docs k) s
def conCuts (docs : List RDoc) (least : Int) (l : List Cut) (s : ConSt) : ConSt := l.foldl (conCut docs least) s
theorem conCuts_take {docs : List RDoc} {least : Int} {l : List Cut} {k : Nat} {c : Cut} {s : ConSt} (hc : l[k]? = some c) : conCuts docs least (l.take (k + 1)) s = conCut docs least (conCuts docs least (l.take k) s) c := by
 unfold conCuts
 rw [take_snoc' _ _ _ hc, List.foldl_append]
 rfl
def fatsD (e : Edl) (d : RDoc) : List Fat := d.doc.evs.map fun x => ⟨d.reel, x.id, [], lostS ⟨x.inn, x.out⟩ (plE e d.reel), []⟩
def fatsR (e : Edl) (docs : List RDoc) : List Fat := docs.flatMap (fatsD e)
def conSt (docs : List RDoc) (e : Edl) (least : Int) : ConSt := conCuts docs least (joinC e.cuts) ⟨[], fatsR e docs⟩
def conE (docs : List RDoc) (e : Edl) (least : Int) : Int := if conErr docs e ≠ 0 then conErr docs e else if least < 0 then 2 else if 400 < (conSt docs e least).evs.length then 9 else 0
def Doc.blank : Doc := ⟨⟨#[]⟩, ⟨#[]⟩, 0, false, 0, [], [], []⟩
def conDoc (docs : List RDoc) (e : Edl) (least : Int) : Doc := if conE docs e least = 0 then ⟨e.title, langD docs, e.rate, e.drop, (conSt docs e least).evs.length, (refR (allR docs)).getD [], (conSt docs e least).evs, []⟩ else Doc.blank
def conFats (docs : List RDoc) (e : Edl) (least : Int) : List Fat := if conE docs e least = 0 then (conSt docs e least).fats else []
theorem conStep_len (c : Cut) (least : Int) (i : Nat) (x : Ev) (s : ConSt) : (conStep c least i x s).evs.length ≤ s.evs.length + 1 ∧ (conStep c least i x s).fats.length = s.fats.length := by
 unfold conStep
 split <;> simp
theorem conEvs_len (c : Cut) (least : Int) : ∀ (l : List Ev) (i : Nat) (s : ConSt), (conEvs c least i l s).evs.length ≤ s.evs.length + l.length ∧ (conEvs c least i l s).fats.length = s.fats.length
 | [], i, s => ⟨by simp [conEvs], rfl⟩
 | x :: l, i, s => by
  have h1 := conStep_len c least i x s
  have h2 := conEvs_len c least l (i + 1) (conStep c least i x s)
  simp only [conEvs, List.length_cons]
  exact ⟨by omega, by omega⟩
theorem fats_take {e : Edl} {l : List RDoc} {k : Nat} {d : RDoc} (h : l[k]? = some d) : fatsR e (l.take (k + 1)) = fatsR e (l.take k) ++ fatsD e d := by
 unfold fatsR
 rw [take_snoc' _ _ _ h]; simp
theorem fats_len (e : Edl) (l : List RDoc) : ∀ k, (fatsR e (l.take k)).length = offR l k := by
 intro k
 unfold fatsR offR
 rw [List.length_flatMap]
 congr 1
 apply List.map_congr_left
 intro d _
 unfold fatsD
 rw [List.length_map]
end
section
open Go.RowKit
def RDoc.cells (d : RDoc) (h : DocH) : Array Value := #[.string d.reel, .string d.doc.title, .string d.doc.lang, .int .u8 d.doc.rate, .bool d.doc.drop, .int .i64 d.doc.last, .slice h.ra h.rn h.rc, .slice h.ea h.en h.ec, .slice h.ca h.cn h.cc]
structure DocSz (h : DocH) : Prop where
 r : h.rn ≤ 1000000
 e : h.en ≤ 1000000
 c : h.cn ≤ 1000000
def RDocC (w : World) (b o : Nat) (d : RDoc) : Prop := ∃ h : DocH, (∀ j u, (d.cells h).toList[j]? = some u → w.cell? ⟨b, o + j, none⟩ = some u) ∧ DocAt w d.doc h ∧ DocSz h
theorem RDocC.stays : Stays RDocC := fun _ _ _ _ _ k ⟨h, h1, h2, h3⟩ => ⟨h, fun j u hu => k.cell (h1 j u hu), h2.ext k, h3⟩
def RDocsAt (w : World) (A : Option Addr) (n : Nat) (l : List RDoc) : Prop := Sl w 9 RDocC A n l
theorem RDocsAt.ext {w w1 : World} {A : Option Addr} {n : Nat} {l : List RDoc} (h : RDocsAt w A n l) (k : Ext w w1) : RDocsAt w1 A n l := Sl.ext RDocC.stays h k
structure RDocsFit (l : List RDoc) : Prop where
 reel : ∀ d ∈ l, d.reel.size ≤ 9223372036854775807
 doc : ∀ d ∈ l, DocFit d.doc
theorem RDocsAt.at9 {w : World} {A : Option Addr} {n : Nat} {l : List RDoc} (h : RDocsAt w A n l) {i : Nat} (hi : i < n) : ∃ b off d k, A = some ⟨b, off, none⟩ ∧ l[i]? = some d ∧ DocAt w d.doc k ∧ DocSz k ∧
 (w.cell? ⟨b, off + i * 9, none⟩ = some (.string d.reel) ∧ w.cell? ⟨b, off + i * 9 + 1, none⟩ = some (.string d.doc.title) ∧ w.cell? ⟨b, off + i * 9 + 2, none⟩ = some (.string d.doc.lang) ∧ w.cell? ⟨b, off + i * 9 + 3, none⟩ = some (.int .u8 d.doc.rate) ∧
  w.cell? ⟨b, off + i * 9 + 4, none⟩ = some (.bool d.doc.drop) ∧ w.cell? ⟨b, off + i * 9 + 5, none⟩ = some (.int .i64 d.doc.last) ∧ w.cell? ⟨b, off + i * 9 + 6, none⟩ = some (.slice k.ra k.rn k.rc) ∧ w.cell? ⟨b, off + i * 9 + 7, none⟩ = some (.slice k.ea k.en k.ec) ∧ w.cell? ⟨b, off + i * 9 + 8, none⟩ = some (.slice k.ca k.cn k.cc)) := by
 obtain ⟨b, off, d, hA, hd, k, hC, h1, h2⟩ := h.at_ hi
 exact ⟨b, off, d, k, hA, hd, h1, h2, by simpa using hC 0 _ rfl, hC 1 _ rfl, hC 2 _ rfl, hC 3 _ rfl, hC 4 _ rfl, hC 5 _ rfl, hC 6 _ rfl, hC 7 _ rfl, hC 8 _ rfl⟩
end
section
open Go.RowKit
def RCloneRel (w : World) (rows : List Row) (n : Nat) (v i : Value) (wr : World) : Prop :=
 ∃ (k : Nat) (hs : List Hd), k ≤ n ∧ i = .int .i64 k ∧ hs.length = k ∧ wr.ownsRow w.heap.size 174 1 v k (hs.flatMap fun h => [Hd.val h]) ∧ Ext w wr ∧ Goods wr hs (rows.take k) ∧
  (∀ g, v.ownBlock = some g → ∀ h ∈ hs, Apart g h) ∧ (∀ h ∈ hs, Fresh wr 171 w.heap.size h.1)
theorem Good.grown {w w1 : World} {h : Hd} {r : Row} {row : Option Nat} (g : Good w h r) (hg : w.grownBy w1 row) (hp : ∀ q, row = some q → Apart q h) : Good w1 h r :=
 ⟨g.1, g.2.1, Sl.keep g.2.2 fun hn b off hA o x hx => by
  have hb : b < w.heap.size := World.block_lt_of_cell? w _ hx.1
  have key : ∀ q v, w.cell? ⟨b, q, none⟩ = some v → w1.cell? ⟨b, q, none⟩ = some v := fun q v hv =>
   (World.cell?_of_block (w := w) (a := ⟨b, q, none⟩) (hg.block b hb (fun e => hp b e.symm hn _ hA rfl))).trans hv
  exact ⟨key _ _ hx.1, key _ _ hx.2.1, key _ _ hx.2.2.1, key _ _ hx.2.2.2.1, key _ _ hx.2.2.2.2⟩⟩
end
section
open Go.RowKit
theorem RowsFresh.put {w : World} {L : Nat} {A : Option Addr} {n : Nat} {l : List Row} (h : RowsFresh w L A n l) {g : Nat} {t : TypeId} {cs : Array Value} (hB : Blk w g t cs) (cs' : Array Value) (h1 : 174 ≠ t) (h2 : 171 ≠ t) : RowsFresh (putB w g t cs') L A n l := by
 obtain ⟨hs, a1, a2, a3, a4, a5⟩ := h
 refine ⟨hs, Sl.keep a1 fun _ b off hA o x hx j u hu => ?_, fun i hd r a b => ?_, a3, a4.put hB cs' h1, fun x hx => (a5 x hx).put hB cs' h2⟩
 · have hb : b ≠ g := Typed.ne (a4 _ hA).2 hB.typed h1
   rw [putB_cell_other (p := ⟨b, o + j, none⟩) hb]; exact hx j u hu
 · have gd := a2 i hd r a b
   refine ⟨gd.1, gd.2.1, Sl.keep gd.2.2 fun _ b' off hA o x hx => ?_⟩
   have hb : b' ≠ g := Typed.ne (a5 hd (List.mem_of_getElem? a) _ hA).2 hB.typed h2
   have key : ∀ q v, w.cell? ⟨b', q, none⟩ = some v → (putB w g t cs').cell? ⟨b', q, none⟩ = some v := fun q v hv => by rw [putB_cell_other (p := ⟨b', q, none⟩) hb]; exact hv
   exact ⟨key _ _ hx.1, key _ _ hx.2.1, key _ _ hx.2.2.1, key _ _ hx.2.2.2.1, key _ _ hx.2.2.2.2⟩
theorem own_put {w : World} {L : Nat} {e : TypeId} {size : Nat} {v : Value} {n : Nat} {xs : List Value} (h : w.ownsRow L e size v n xs) {g : Nat} {t : TypeId} {cs : Array Value} (hB : Blk w g t cs) (cs' : Array Value) (hne : e ≠ t) : (putB w g t cs').ownsRow L e size v n xs := by
 have ht := own_typed h
 refine ⟨h.1, ?_⟩
 rcases h.2 with hn | ⟨g', cap, cur, rfl, hb, hg, rest⟩
 · exact .inl hn
 · refine .inr ⟨g', cap, cur, rfl, hb, ?_, rest⟩
   have : g ≠ g' := fun e => Typed.ne (ht g' rfl) hB.typed hne e.symm
   unfold putB
   simp only
   rw [Array.getElem?_setIfInBounds_ne this]
   exact hg
theorem RowsOwn.put {w : World} {L : Nat} {A : Option Addr} {n c : Nat} {l : List Row} (h : RowsOwn w L A n c l) {g : Nat} {t : TypeId} {cs : Array Value} (hB : Blk w g t cs) (cs' : Array Value) (h1 : 174 ≠ t) (h2 : 171 ≠ t) : RowsOwn (putB w g t cs') L A n c l := by
 obtain ⟨hs, a1, a2, a3, a4, a5⟩ := h
 refine ⟨hs, own_put a1 hB cs' h1, a2, fun i hd r a b => ?_, a4, fun x hx => (a5 x hx).put hB cs' h2⟩
 have gd := a3 i hd r a b
 refine ⟨gd.1, gd.2.1, Sl.keep gd.2.2 fun _ b' off hA o x hx => ?_⟩
 have hb : b' ≠ g := Typed.ne (a5 hd (List.mem_of_getElem? a) _ hA).2 hB.typed h2
 have key : ∀ q v, w.cell? ⟨b', q, none⟩ = some v → (putB w g t cs').cell? ⟨b', q, none⟩ = some v := fun q v hv => by rw [putB_cell_other (p := ⟨b', q, none⟩) hb]; exact hv
 exact ⟨key _ _ hx.1, key _ _ hx.2.1, key _ _ hx.2.2.1, key _ _ hx.2.2.2.1, key _ _ hx.2.2.2.2⟩
theorem size_event : (Tryz.prog.info? 64).map (·.size) = some 7 := by kernel_rfl
def evZero : Array Value := #[.int .i64 0, .int .i64 0, .int .i64 0, .string ⟨#[]⟩, .int .u8 0, .string ⟨#[]⟩, .slice none 0 0]
def EClPost (e : Ev) (n : Nat) (w : World) (en : Ending) (w' : World) : Prop :=
 ∃ A c, en = .returned (.agg (e.cells A n c)) ∧ n ≤ c ∧ RowsFresh w' w.heap.size A n e.rows ∧ Ext w w'
def EOwnPost (e : Ev) (n : Nat) (w : World) (en : Ending) (w' : World) : Prop :=
 ∃ A c, en = .returned (.agg (e.cells A n c)) ∧ n ≤ c ∧ RowsOwn w' w.heap.size A n c e.rows ∧ Ext w w'
set_option maxRecDepth 100000 in
set_option maxHeartbeats 2000000 in
theorem EClone_own (e : Ev) (A : Option Addr) (n c : Nat) (w : World) (he : EvAt w e A n c) :
 Calls Tryz.prog 119 #[.agg (e.cells A n c)] w (EOwnPost e n w) := by
 have hn24 := he.2.2
 have HE := Lib.hid he
 clear he
 have hx0 := ((Ext.refl w).alloc (.cells (e.cells A n c) 64)).alloc (.cells evZero 64)
 unfold Ev.cells evZero at hx0
 have HX0 := Lib.hid hx0
 clear hx0
 unfold Ev.cells
 go_enter Tryz.func119, Tryz.ntmps119
 go_wp2_with fail
 refine (SClone_own A n c e.rows _ (HE.out.1.ext HX0.out) hn24).mono ?_
 rintro en w1 ⟨A1, c1, rfl, hnc1, hrf, hx1⟩
 have HB0 := Lib.hid (Blk.ext ((Blk.new w 64 #[.int .i64 e.id, .int .i64 e.inn, .int .i64 e.out, .string e.region, .int .u8 e.kind, .string e.speaker, .slice A n c]).alloc _) hx1)
 have HB1 := Lib.hid (Blk.ext (Blk.new' (g := w.heap.size + 1) (by simp)) hx1)
 have hc0 := fun o => HB0.out.cell o
 have hf0 := fun o => HB0.out.frozen o
 have hset := fun u => setCell_put HB0.out 6 u
 have HRF := Lib.hid hrf
 clear hrf
 simp at hset
 go_wp2_with (first | (refine wpList_loadB rfl 64 (.tmp 1) rfl w.heap.size 64 _ _ (by exact rfl) (by exact HB0.out.put _) Tryz.underlying64 rfl (by exact size_event) ?_) | (refine wpList_storeB rfl 64 (.tmp 2) (.tmp 7) rfl (w.heap.size + 1) 64 _ _ (by exact rfl) (by exact rfl) (by exact HB1.out.put_other (by omega) _) (by exact rfl) (by exact size_event) (by simp [Value.oneCell']) ?_))
 refine bodyPost_ret (v := .agg (e.cells A1 n c1)) ?_ rfl ⟨A1, c1, rfl, hnc1, ?_, ?_⟩
 · exact results_B (P := Tryz.prog) Tryz.results119 (g := w.heap.size + 1) rfl (by exact (HB1.out.put_other (by omega) _).put _) Tryz.underlying64 rfl size_event
 · exact (RowsOwn.put (RowsOwn.put HRF.out HB0.out _ (by decide) (by decide)) (HB1.out.put_other (by omega) _) _ (by decide) (by decide)).le (by simp only [World.size_alloc]; omega)
 · exact (((HX0.out.trans hx1)).put (Nat.le_refl _) _ _).put (by omega) _ _
theorem EClone_any (e : Ev) (A : Option Addr) (n c : Nat) (w : World) (he : EvAt w e A n c) : Calls Tryz.prog 119 #[.agg (e.cells A n c)] w (EClPost e n w) :=
 (EClone_own e A n c w he).mono fun _ _ ⟨A1, c1, h1, h2, h3, h4⟩ => ⟨A1, c1, h1, h2, h3.fresh, h4⟩
end
section
open Go.RowKit
section
variable {T T' : TypeId} {w w1 w2 : World} {L n : Nat} {A : Option Addr}
theorem Fresh.kb (h : Fresh w T L A) (k : KB T w w1) : Fresh w1 T L A := fun ad e => ⟨(h ad e).1, (h ad e).2.kb k⟩
theorem own_kb {size : Nat} {v : Value} {xs : List Value} (h : w.ownsRow L T size v n xs) (k : KB T w w1) : w1.ownsRow L T size v n xs := by
 refine ⟨h.1, ?_⟩
 rcases h.2 with hn | ⟨g, cap, cur, rfl, hb, hg, rest⟩
 · exact .inl hn
 · exact .inr ⟨g, cap, cur, rfl, hb, k _ _ hg, rest⟩
end
theorem RowsFresh.kb {w w1 : World} {L : Nat} {A : Option Addr} {n : Nat} {l : List Row} (h : RowsFresh w L A n l) (k1 : KB 174 w w1) (k2 : KB 171 w w1) : RowsFresh w1 L A n l := by
 obtain ⟨hs, a1, a2, a3, a4, a5⟩ := h
 refine ⟨hs, Sl.keep a1 fun _ b off hA o x hx j u hu => ?_, fun i hd r a b => ?_, a3, a4.kb k1, fun x hx => (a5 x hx).kb k2⟩
 · rw [(a4 _ hA).2.cell_kb k1]; exact hx j u hu
 · have gd := a2 i hd r a b
   refine ⟨gd.1, gd.2.1, Sl.keep gd.2.2 fun _ b' off hA o x hx => ?_⟩
   have key : ∀ q v, w.cell? ⟨b', q, none⟩ = some v → w1.cell? ⟨b', q, none⟩ = some v := fun q v hv => by rw [((a5 hd (List.mem_of_getElem? a)) _ hA).2.cell_kb k2]; exact hv
   exact ⟨key _ _ hx.1, key _ _ hx.2.1, key _ _ hx.2.2.1, key _ _ hx.2.2.2.1, key _ _ hx.2.2.2.2⟩
theorem flat_set {α : Type} {f : α → List Value} {size : Nat} (hf : ∀ x, (f x).length = size) : ∀ (l : List α) (k j : Nat) (x y : α) (u : Value), l[k]? = some x → f y = (f x).set j u → j < size → (l.flatMap f).set (k * size + j) u = (l.set k y).flatMap f
 | [], k, j, x, y, u, h, _, _ => by simp at h
 | z :: l, 0, j, x, y, u, h, hy, hj => by
  simp at h; subst h
  rw [List.flatMap_cons, List.set_cons_zero, List.flatMap_cons, hy, Nat.zero_mul, Nat.zero_add, List.set_append, if_pos (by rw [hf]; exact hj)]
 | z :: l, k + 1, j, x, y, u, h, hy, hj => by
  have hz := hf z
  rw [List.flatMap_cons, List.set_cons_succ, List.flatMap_cons, List.set_append, if_neg (by rw [hz, Nat.add_mul]; omega), ← flat_set hf l k j x y u (by simpa using h) hy hj]
  congr 2
  rw [hz, Nat.add_mul]; omega
def setMany : List Value → Nat → List Value → List Value
 | xs, _, [] => xs
 | xs, j, v :: vs => setMany (xs.set j v) (j + 1) vs
theorem setMany_split : ∀ (vs pre old post : List Value), old.length = vs.length → setMany (pre ++ old ++ post) pre.length vs = pre ++ vs ++ post
 | [], pre, old, post, h => by
  obtain rfl : old = [] := List.eq_nil_of_length_eq_zero h
  rfl
 | v :: vs, pre, [], post, h => by simp at h
 | v :: vs, pre, o :: old, post, h => by
  have e : (pre ++ o :: old ++ post).set pre.length v = (pre ++ [v]) ++ old ++ post := by simp [List.set_append]
  have := setMany_split vs (pre ++ [v]) old post (by simpa using h)
  rw [List.length_append, List.length_singleton] at this
  rw [setMany, e, this]
  simp
theorem flat_setMany {α : Type} {f : α → List Value} {size : Nat} (hf : ∀ x, (f x).length = size) (l : List α) (k : Nat) (y : α) (hk : k < l.length) : setMany (l.flatMap f) (k * size) (f y) = (l.set k y).flatMap f := by
 have e1 : l = l.take k ++ l[k] :: l.drop (k + 1) := by rw [← List.drop_eq_getElem_cons hk, List.take_append_drop]
 have e2 : l.set k y = l.take k ++ y :: l.drop (k + 1) := by rw [List.set_eq_take_append_cons_drop, if_pos hk]
 have hl : ((l.take k).flatMap f).length = k * size := by rw [flatMap_len f size hf, List.length_take, Nat.min_eq_left (by omega)]
 rw [e2, List.flatMap_append, List.flatMap_cons]
 conv => lhs; rw [e1]
 rw [List.flatMap_append, List.flatMap_cons, ← hl, ← List.append_assoc, setMany_split _ _ _ _ (by rw [hf, hf]), List.append_assoc]
theorem own_sets {L size n cap g : Nat} {T : TypeId} : ∀ (vs : List Value) (j : Nat) (w : World) (xs : List Value), w.ownsRow L T size (.slice (some ⟨g, 0, none⟩) n cap) n xs →
 (w.setCells g j vs).ownsRow L T size (.slice (some ⟨g, 0, none⟩) n cap) n (setMany xs j vs)
 | [], _, _, _, h => h
 | v :: vs, j, w, xs, h => own_sets vs (j + 1) _ _ (h.stored j v).1
theorem ext_sets {w0 : World} {g : Nat} (hg : w0.heap.size ≤ g) : ∀ (vs : List Value) (j : Nat) (w : World), Ext w0 w → Ext w0 (w.setCells g j vs)
 | [], _, _, h => h
 | v :: vs, j, w, h => ext_sets hg vs (j + 1) _ (h.setCell hg v)
structure EH where
 id : Int
 inn : Int
 out : Int
 region : ByteArray
 kind : Int
 speaker : ByteArray
 A : Option Addr
 n : Nat
 c : Nat
def EH.vals (h : EH) : List Value := [.int .i64 h.id, .int .i64 h.inn, .int .i64 h.out, .string h.region, .int .u8 h.kind, .string h.speaker, .slice h.A h.n h.c]
def EH.of (e : Ev) (A : Option Addr) (n c : Nat) : EH := ⟨e.id, e.inn, e.out, e.region, e.kind, e.speaker, A, n, c⟩
theorem EH.of_vals (e : Ev) (A : Option Addr) (n c : Nat) : (EH.of e A n c).vals = (e.cells A n c).toList := rfl
theorem EH.len (h : EH) : h.vals.length = 7 := rfl
def Reg.vals (r : Reg) : List Value := [.string r.name, .int .i64 r.top, .int .i64 r.height, .int .i64 r.left, .int .i64 r.width, .int .u8 r.align, .bool r.bottom]
def EGood (w : World) (L : Nat) (h : EH) (e : Ev) : Prop := h = EH.of e h.A h.n h.c ∧ h.n ≤ h.c ∧ h.n * 24 ≤ 140737488355328 ∧ RowsFresh w L h.A h.n e.rows
theorem EGood.kb {w w1 : World} {L : Nat} {h : EH} {e : Ev} (g : EGood w L h e) (k1 : KB 174 w w1) (k2 : KB 171 w w1) : EGood w1 L h e := ⟨g.1, g.2.1, g.2.2.1, g.2.2.2.kb k1 k2⟩
theorem EGood.ext {w w1 : World} {L : Nat} {h : EH} {e : Ev} (g : EGood w L h e) (k : Ext w w1) : EGood w1 L h e := g.kb (KB.ext k) (KB.ext k)
theorem EGood.le {w : World} {L L' : Nat} {h : EH} {e : Ev} (g : EGood w L h e) (hl : L' ≤ L) : EGood w L' h e := ⟨g.1, g.2.1, g.2.2.1, g.2.2.2.le hl⟩
theorem EGood.at_ {w : World} {L : Nat} {h : EH} {e : Ev} (g : EGood w L h e) : EvAt w e h.A h.n h.c := ⟨g.2.2.2.rows, g.2.1, g.2.2.1⟩
def EvsOwn (w : World) (L : Nat) (v : Value) (n : Nat) (l : List Ev) : Prop :=
 ∃ hs : List EH, w.ownsRow L 64 7 v n (hs.flatMap EH.vals) ∧ hs.length = n ∧ l.length = n ∧ ∀ (i : Nat) (h : EH) (e : Ev), hs[i]? = some h → l[i]? = some e → EGood w L h e
section
variable {w w1 : World} {L L' n c : Nat} {A : Option Addr} {v : Value} {l : List Ev}
theorem EvsOwn.ext (h : EvsOwn w L v n l) (k : Ext w w1) : EvsOwn w1 L v n l := by
 obtain ⟨hs, h1, h2, h3, h4⟩ := h
 exact ⟨hs, own_ext h1 k, h2, h3, fun i x e a b => (h4 i x e a b).ext k⟩
theorem EvsOwn.kb (h : EvsOwn w L v n l) (k0 : KB 64 w w1) (k1 : KB 174 w w1) (k2 : KB 171 w w1) : EvsOwn w1 L v n l := by
 obtain ⟨hs, h1, h2, h3, h4⟩ := h
 exact ⟨hs, own_kb h1 k0, h2, h3, fun i x e a b => (h4 i x e a b).kb k1 k2⟩
theorem EvsOwn.le (h : EvsOwn w L v n l) (hl : L' ≤ L) : EvsOwn w L' v n l := by
 obtain ⟨hs, h1, h2, h3, h4⟩ := h
 exact ⟨hs, own_le h1 hl, h2, h3, fun i x e a b => (h4 i x e a b).le hl⟩
theorem EvsOwn.len (h : EvsOwn w L v n l) : l.length = n := h.elim fun _ h => h.2.2.1
theorem EvsOwn.nil (w : World) (L : Nat) : EvsOwn w L (.slice none 0 0) 0 [] := ⟨[], ⟨rfl, .inl ⟨rfl, rfl⟩⟩, rfl, rfl, fun i x e a _ => by simp at a⟩
theorem EvsOwn.at_ (h : EvsOwn w L v n l) : ∃ A c, v = .slice A n c ∧ n ≤ c ∧ c ≤ maxLen ∧ EvsAt w A n l := by
 obtain ⟨hs, h1, h2, h3, h4⟩ := h
 obtain ⟨A, c, hv, hc, hm, hsl, _⟩ := own_sl (f := EH.vals) (size := 7) EH.len h2 h1
 refine ⟨A, c, hv, hc, hm, h3, fun hn => ?_⟩
 obtain ⟨b, off, hA, hcs⟩ := hsl.2 hn
 refine ⟨b, off, hA, fun i e he => ?_⟩
 have hi : i < hs.length := by rw [h2, ← h3]; exact (List.getElem?_eq_some_iff.1 he).1
 have hx : hs[i]? = some hs[i] := List.getElem?_eq_getElem hi
 have g := h4 i _ e hx he
 refine ⟨hs[i].A, hs[i].n, hs[i].c, fun j u hu => ?_, g.at_⟩
 refine hcs i _ hx j u ?_
 rw [g.1, EH.of_vals]
 exact hu
theorem EvsOwn.evs (h : EvsOwn w L (.slice A n c) n l) : EvsAt w A n l := by
 obtain ⟨A', c', hv, _, _, h1⟩ := h.at_
 cases hv
 exact h1
theorem EvsOwn.set {g k : Nat} {e : Ev} {A' : Option Addr} {n' c' : Nat} (h : EvsOwn w L (.slice (some ⟨g, 0, none⟩) n c) n l) (hk : k < n) (hL : L ≤ g) (hg : EGood w L (EH.of e A' n' c') e) :
 EvsOwn (w.setCells g (k * 7) (e.cells A' n' c').toList) L (.slice (some ⟨g, 0, none⟩) n c) n (l.set k e) := by
 obtain ⟨hs, h1, h2, h3, h4⟩ := h
 have hty : Typed w 64 g := own_typed h1 g rfl
 refine ⟨hs.set k (EH.of e A' n' c'), ?_, by simpa using h2, by simpa using h3, fun i x y hx hy => ?_⟩
 · rw [← flat_setMany EH.len hs k (EH.of e A' n' c') (by omega)]
   exact own_sets _ _ _ _ h1
 · have k1 : KB 174 w (w.setCells g (k * 7) (e.cells A' n' c').toList) := KB.sets (T' := 64) (by decide) _ _ _ hty
   have k2 : KB 171 w (w.setCells g (k * 7) (e.cells A' n' c').toList) := KB.sets (T' := 64) (by decide) _ _ _ hty
   by_cases hik : k = i
   · subst hik
     rw [List.getElem?_set_self (by omega)] at hx hy
     cases hx
     cases hy
     exact hg.kb k1 k2
   · rw [List.getElem?_set_ne hik] at hx hy
     exact (h4 i x y hx hy).kb k1 k2
theorem EvsOwn.snoc {k : Nat} {e : Ev} {v' : Value} {A' : Option Addr} {n' c' : Nat} (h : EvsOwn w L v k l) (hg : EGood w L (EH.of e A' n' c') e) (hgr : w.grownBy w1 v.ownBlock)
 (hO : ∀ xs, w.ownsRow L 64 7 v k xs → w1.ownsRow L 64 7 v' (k + 1) (xs ++ (e.cells A' n' c').toList)) : EvsOwn w1 L v' (k + 1) (l ++ [e]) := by
 obtain ⟨hs, h1, h2, h3, h4⟩ := h
 have hty : ∀ q, v.ownBlock = some q → Typed w 64 q := own_typed h1
 have k1 : KB 174 w w1 := KB.grown hgr hty (by decide)
 have k2 : KB 171 w w1 := KB.grown hgr hty (by decide)
 refine ⟨hs ++ [EH.of e A' n' c'], ?_, by simp [h2], by simp [h3], fun i x y hx hy => ?_⟩
 · rw [List.flatMap_append]
   have := hO _ h1
   simpa [EH.of_vals] using this
 · by_cases hik : i < k
   · rw [List.getElem?_append_left (by omega)] at hx hy
     exact (h4 i x y hx hy).kb k1 k2
   · have hik' : i = k := by
      have := (List.getElem?_eq_some_iff.1 hx).1
      simp [h2] at this
      omega
     subst hik'
     rw [List.getElem?_append_right (by omega)] at hx hy
     simp only [h2, h3, Nat.sub_self, List.getElem?_cons_zero, Option.some.injEq] at hx hy
     subst hx hy
     exact hg.kb k1 k2
end
structure DocOwn (w : World) (L : Nat) (d : Doc) (h : DocH) : Prop where
 regs : w.ownsRow L 105 7 (.slice h.ra h.rn h.rc) h.rn (d.regs.flatMap Reg.vals)
 rlen : d.regs.length = h.rn
 evs : EvsOwn w L (.slice h.ea h.en h.ec) h.en d.evs
 coms : w.ownsRow L 152 8 (.slice h.ca h.cn h.cc) h.cn (d.coms.flatMap Com.vals)
 clen : d.coms.length = h.cn
theorem DocOwn.ext {w w1 : World} {L : Nat} {d : Doc} {h : DocH} (o : DocOwn w L d h) (k : Ext w w1) : DocOwn w1 L d h := ⟨own_ext o.regs k, o.rlen, o.evs.ext k, own_ext o.coms k, o.clen⟩
theorem DocOwn.kb {w w1 : World} {L : Nat} {d : Doc} {h : DocH} (o : DocOwn w L d h) (k1 : KB 105 w w1) (k2 : KB 64 w w1) (k3 : KB 174 w w1) (k4 : KB 171 w w1) (k5 : KB 152 w w1) : DocOwn w1 L d h :=
 ⟨own_kb o.regs k1, o.rlen, o.evs.kb k2 k3 k4, own_kb o.coms k5, o.clen⟩
theorem DocOwn.put {w : World} {L : Nat} {d : Doc} {h : DocH} (o : DocOwn w L d h) {g : Nat} {cs : Array Value} (hB : Blk w g 52 cs) (cs' : Array Value) : DocOwn (putB w g 52 cs') L d h :=
 o.kb (KB.put hB (by decide)) (KB.put hB (by decide)) (KB.put hB (by decide)) (KB.put hB (by decide)) (KB.put hB (by decide))
theorem DocOwn.le {w : World} {L L' : Nat} {d : Doc} {h : DocH} (o : DocOwn w L d h) (hl : L' ≤ L) : DocOwn w L' d h := ⟨own_le o.regs hl, o.rlen, o.evs.le hl, own_le o.coms hl, o.clen⟩
theorem regC_cells {w : World} {b o : Nat} {r : Reg} (h : Cells Reg.vals w b o r) : RegC w b o r := ⟨h 0 _ rfl, h 1 _ rfl, h 2 _ rfl, h 3 _ rfl, h 4 _ rfl, h 5 _ rfl, h 6 _ rfl⟩
theorem cells_regC {w : World} {b o : Nat} {r : Reg} (h : RegC w b o r) : Cells Reg.vals w b o r := by
 obtain ⟨h0, h1, h2, h3, h4, h5, h6⟩ := h
 intro j u hu
 match j, hu with
 | 0, hu => simp [Reg.vals] at hu; subst hu; exact h0
 | 1, hu => simp [Reg.vals] at hu; subst hu; exact h1
 | 2, hu => simp [Reg.vals] at hu; subst hu; exact h2
 | 3, hu => simp [Reg.vals] at hu; subst hu; exact h3
 | 4, hu => simp [Reg.vals] at hu; subst hu; exact h4
 | 5, hu => simp [Reg.vals] at hu; subst hu; exact h5
 | 6, hu => simp [Reg.vals] at hu; subst hu; exact h6
 | j + 7, hu => simp [Reg.vals] at hu
theorem own_slice {α : Type} {f : α → List Value} {size : Nat} (hf : ∀ x, (f x).length = size) {w : World} {base : Nat} {e : TypeId} {A : Option Addr} {c n : Nat} {l : List α} (hl : l.length = n)
 (h : w.ownsRow base e size (.slice A n c) n (l.flatMap f)) : n ≤ c ∧ c ≤ maxLen ∧ Sl w size (Cells f) A n l := by
 obtain ⟨A', c', hv, h1, h2, h3, _⟩ := own_sl hf hl h
 cases hv
 exact ⟨h1, h2, h3⟩
theorem DocOwn.at_ {w : World} {L : Nat} {d : Doc} {h : DocH} (o : DocOwn w L d h) : DocAt w d h :=
 ⟨Sl.change (own_slice (f := Reg.vals) (fun _ => rfl) o.rlen o.regs).2.2 fun _ _ _ => regC_cells, o.evs.evs, (own_slice (f := Com.vals) (fun _ => rfl) o.clen o.coms).2.2⟩
end
section
open Go.RowKit
def intV (x : Int) : List Value := [.int .i64 x]
def IntA (w : World) (A : Option Addr) (n : Nat) (l : List Int) : Prop := Sl w 1 (Cells intV) A n l
theorem IntA.ext {w w1 : World} {A : Option Addr} {n : Nat} {l : List Int} (h : IntA w A n l) (k : Ext w w1) : IntA w1 A n l := Sl.ext (Cells.stays _) h k
structure FH where
 reel : ByteArray
 id : Int
 p : Value
 lost : Int
 s : Value
def FH.vals (h : FH) : List Value := [.string h.reel, .int .i64 h.id, h.p, .int .i64 h.lost, h.s]
theorem FH.len (h : FH) : h.vals.length = 5 := rfl
def FH.slot (h : FH) (b : Bool) : Value := if b = true then h.s else h.p
def Fat.slot (f : Fat) (b : Bool) : List Int := if b = true then f.short else f.parts
def FH.put (h : FH) (b : Bool) (v : Value) : FH := if b = true then { h with s := v } else { h with p := v }
def Fat.push (f : Fat) (b : Bool) (x : Int) : Fat := if b = true then { f with short := f.short ++ [x] } else { f with parts := f.parts ++ [x] }
def slotO (b : Bool) : Nat := if b = true then 4 else 2
theorem note_push (f : Fat) (id : Int) (sh : Bool) : f.note id sh = if sh = true then (f.push false id).push true id else f.push false id := by
 cases sh <;> simp [Fat.note, Fat.push]
theorem FH.put_vals (h : FH) (b : Bool) (v : Value) : (h.put b v).vals = h.vals.set (slotO b) v := by cases b <;> rfl
theorem FH.put_slot (h : FH) (b c : Bool) (v : Value) : (h.put b v).slot c = if b = c then v else h.slot c := by cases b <;> cases c <;> rfl
theorem Fat.push_slot (f : Fat) (b c : Bool) (x : Int) : (f.push b x).slot c = if b = c then f.slot c ++ [x] else f.slot c := by cases b <;> cases c <;> rfl
def FatC (w : World) (b o : Nat) (f : Fat) : Prop :=
 ∃ pA pc sA sc, (∀ j u, [Value.string f.reel, .int .i64 f.id, .slice pA f.parts.length pc, .int .i64 f.lost, .slice sA f.short.length sc][j]? = some u → w.cell? ⟨b, o + j, none⟩ = some u) ∧
  IntA w pA f.parts.length f.parts ∧ IntA w sA f.short.length f.short ∧ f.parts.length ≤ pc ∧ f.short.length ≤ sc
theorem FatC.stays : Stays FatC := fun _ _ _ _ _ k ⟨pA, pc, sA, sc, h1, h2, h3, h4⟩ => ⟨pA, pc, sA, sc, fun j u hu => k.cell (h1 j u hu), h2.ext k, h3.ext k, h4⟩
def FatsAt (w : World) (A : Option Addr) (n : Nat) (l : List Fat) : Prop := Sl w 5 FatC A n l
theorem FatsAt.ext {w w1 : World} {A : Option Addr} {n : Nat} {l : List Fat} (h : FatsAt w A n l) (k : Ext w w1) : FatsAt w1 A n l := Sl.ext FatC.stays h k
structure FGood (w : World) (L : Nat) (h : FH) (f : Fat) : Prop where
 reel : h.reel = f.reel
 id : h.id = f.id
 lost : h.lost = f.lost
 row : ∀ b, w.ownsRow L 2 1 (h.slot b) (f.slot b).length ((f.slot b).flatMap intV)
def Sep (hs : List FH) : Prop := ∀ (i j : Nat) (b c : Bool) (h k : FH), hs[i]? = some h → hs[j]? = some k → ¬ (i = j ∧ b = c) → ∀ q, (h.slot b).ownBlock = some q → (k.slot c).ownBlock ≠ some q
def FatsOwn (w : World) (L L2 : Nat) (v : Value) (l : List Fat) : Prop :=
 ∃ hs : List FH, w.ownsRow L 67 5 v l.length (hs.flatMap FH.vals) ∧ hs.length = l.length ∧ (∀ (i : Nat) (h : FH) (f : Fat), hs[i]? = some h → l[i]? = some f → FGood w L2 h f) ∧ Sep hs
section
variable {w w1 : World} {L L2 : Nat} {v : Value} {l : List Fat}
theorem FGood.kb {h : FH} {f : Fat} (g : FGood w L h f) (k : KB 2 w w1) : FGood w1 L h f := ⟨g.reel, g.id, g.lost, fun b => own_kb (g.row b) k⟩
theorem FatsOwn.kb (h : FatsOwn w L L2 v l) (k1 : KB 67 w w1) (k2 : KB 2 w w1) : FatsOwn w1 L L2 v l := by
 obtain ⟨hs, h1, h2, h3, h4⟩ := h
 exact ⟨hs, own_kb h1 k1, h2, fun i x f a b => (h3 i x f a b).kb k2, h4⟩
theorem FatsOwn.ext (h : FatsOwn w L L2 v l) (k : Ext w w1) : FatsOwn w1 L L2 v l := h.kb (KB.ext k) (KB.ext k)
theorem FatsOwn.nil (w : World) (L L2 : Nat) : FatsOwn w L L2 (.slice none 0 0) [] := ⟨[], ⟨rfl, .inl ⟨rfl, rfl⟩⟩, rfl, fun i x f a _ => by simp at a, fun i j b c h k a _ => by simp at a⟩
theorem own_other {size n : Nat} {T : TypeId} {u : Value} {xs : List Value} {row : Option Nat} (h : w.ownsRow L T size u n xs) (hg : w.grownBy w1 row) (hne : ∀ q, u.ownBlock = some q → row = some q → False) : w1.ownsRow L T size u n xs := by
 refine ⟨h.1, ?_⟩
 rcases h.2 with hn | ⟨g, cap, cur, rfl, hb, hgc, rest⟩
 · exact .inl hn
 · exact .inr ⟨g, cap, cur, rfl, hb, (hg.block g (Array.getElem?_eq_some_iff.1 hgc).1 (fun e => hne g rfl e.symm)).trans hgc, rest⟩
theorem FatsOwn.snoc {r : ByteArray} {id lost : Int} {v' : Value} (h : FatsOwn w L L2 v l) (hgr : w.grownBy w1 v.ownBlock)
 (hO : ∀ xs, w.ownsRow L 67 5 v l.length xs → w1.ownsRow L 67 5 v' (l.length + 1) (xs ++ [.string r, .int .i64 id, .slice none 0 0, .int .i64 lost, .slice none 0 0])) : FatsOwn w1 L L2 v' (l ++ [⟨r, id, [], lost, []⟩]) := by
 obtain ⟨hs, h1, h2, h3, h4⟩ := h
 have k : KB 2 w w1 := KB.grown hgr (own_typed h1) (by decide)
 have hN : ∀ b, (FH.mk r id (.slice none 0 0) lost (.slice none 0 0)).slot b = .slice none 0 0 := fun b => by cases b <;> rfl
 refine ⟨hs ++ [⟨r, id, .slice none 0 0, lost, .slice none 0 0⟩], ?_, by simp [h2], fun i x f hx hf => ?_, fun i j b c x y hx hy hne q hq => ?_⟩
 · rw [List.flatMap_append, List.length_append]
   simpa [FH.vals] using hO _ h1
 · by_cases hi : i < l.length
   · rw [List.getElem?_append_left (by omega)] at hx hf
     exact (h3 i x f hx hf).kb k
   · have hi' : i = l.length := by
      have := (List.getElem?_eq_some_iff.1 hf).1
      simp at this
      omega
     subst hi'
     rw [List.getElem?_append_right (by omega)] at hx hf
     simp only [h2, Nat.sub_self, List.getElem?_cons_zero, Option.some.injEq] at hx hf
     subst hx hf
     refine ⟨rfl, rfl, rfl, fun b => ?_⟩
     rw [hN]
     cases b <;> exact ⟨rfl, .inl ⟨rfl, rfl⟩⟩
 · have hold : ∀ (i : Nat) (x : FH) (b : Bool), (hs ++ [FH.mk r id (.slice none 0 0) lost (.slice none 0 0)])[i]? = some x → ∀ q, (x.slot b).ownBlock = some q → hs[i]? = some x := fun i x b hx q hq => by
    by_cases hi : i < hs.length
    · rwa [List.getElem?_append_left hi] at hx
    · rw [List.getElem?_append_right (by omega)] at hx
      have := List.mem_of_getElem? hx
      simp at this
      subst this
      rw [hN] at hq
      simp [Value.ownBlock] at hq
   intro hq'
   exact h4 i j b c x y (hold i x b hx q hq) (hold j y c hy q hq') hne q hq hq'
theorem FatsOwn.at_ {g n c i : Nat} {f : Fat} (hv : v = .slice (some ⟨g, 0, none⟩) n c) (h : FatsOwn w L L2 v l) (hf : l[i]? = some f) : ∃ x : FH, FGood w L2 x f ∧ L ≤ g ∧ Typed w 67 g ∧
 (∀ j u, x.vals[j]? = some u → w.cell? ⟨g, i * 5 + j, none⟩ = some u) ∧
 ∀ (b : Bool) (w5 w1 : World) (v' : Value) (y : Int), Ext w w5 → w5.grownBy w1 (x.slot b).ownBlock → w1.ownsRow L2 2 1 v' ((f.slot b).length + 1) ((f.slot b).flatMap intV ++ [.int .i64 y]) → (v'.ownBlock = (x.slot b).ownBlock ∨ v'.ownBlock = some w5.heap.size) →
  FatsOwn (w1.setCell ⟨g, i * 5 + slotO b, none⟩ v') L L2 v (l.modify i fun f => f.push b y) := by
 obtain ⟨hs, h1, h2, h3, h4⟩ := h
 subst hv
 have hi : i < l.length := (List.getElem?_eq_some_iff.1 hf).1
 have hx : hs[i]? = some hs[i] := List.getElem?_eq_getElem (by omega)
 have hg := h3 i hs[i] f hx hf
 have hty : Typed w 67 g := own_typed h1 g rfl
 refine ⟨hs[i], hg, own_lt h1 g rfl, hty, fun j u hu => ?_, fun b w5 w1 v' y qx hgr ho hloc => ?_⟩
 · obtain ⟨A', c', hv', -, -, hS, -⟩ := own_sl (f := FH.vals) (size := 5) FH.len h2 h1
   cases hv'
   obtain ⟨b', off, hA, hC⟩ := hS.2 (by omega)
   cases hA
   have := hC i _ hx j u hu
   rwa [Nat.zero_add] at this
 · have hn : n = l.length := by
    rcases h1.2 with ⟨hv, -⟩ | ⟨g', cap, cur, hv, -⟩
    · cases hv
    · injection hv
   subst hn
   replace h1 := own_ext h1 qx
   replace h3 := fun (i : Nat) (h : FH) (f : Fat) a b => (h3 i h f a b).kb (KB.ext qx)
   replace hg := hg.kb (KB.ext qx)
   replace hty := hty.ext qx
   have hslot : ∀ q, ((hs[i]'(by omega)).slot b).ownBlock = some q → Typed w5 2 q := own_typed (hg.row b)
   have hkF : KB 67 w5 w1 := KB.grown hgr hslot (by decide)
   have hty1 : Typed w1 67 g := hty.kb hkF
   have hk2 : KB 2 w1 (w1.setCell ⟨g, i * 5 + slotO b, none⟩ v') := KB.set hty1 (by decide)
   have h1' := own_kb h1 hkF
   have hfl := flat_set (f := FH.vals) (size := 5) FH.len hs i (slotO b) hs[i] (hs[i].put b v') v' hx (FH.put_vals _ _ _) (by cases b <;> decide)
   refine ⟨hs.set i (hs[i].put b v'), ?_, by simp [h2], fun j x f' hxj hfj => ?_, fun j k a d x z hxj hzk hne q hq hq' => ?_⟩
   · rw [List.length_modify, ← hfl]
     exact (h1'.stored (i * 5 + slotO b) v').1
   · rw [List.getElem?_modify] at hfj
     by_cases hij : i = j
     · subst hij
       rw [List.getElem?_set_self (by omega)] at hxj
       simp only [if_pos, hf, Option.map_eq_map, Option.map_some, Option.some.injEq] at hfj
       cases hxj
       subst hfj
       refine ⟨?_, ?_, ?_, fun d => ?_⟩
       · have := hg.reel; cases b <;> exact this
       · have := hg.id; cases b <;> exact this
       · have := hg.lost; cases b <;> exact this
       · rw [FH.put_slot, Fat.push_slot]
         by_cases hbd : b = d
         · subst hbd
           rw [if_pos rfl, if_pos rfl, List.length_append, List.flatMap_append]
           exact own_kb ho hk2
         · rw [if_neg hbd, if_neg hbd]
           refine own_kb ?_ hk2
           exact own_other (hg.row d) hgr (fun q hq1 hq2 => h4 i i b d _ _ hx hx (fun e => hbd e.2) q hq2 hq1)
     · rw [List.getElem?_set_ne hij] at hxj
       have hfj' : l[j]? = some f' := by simpa [hij] using hfj
       have hgj := h3 j x f' hxj hfj'
       refine ⟨hgj.reel, hgj.id, hgj.lost, fun d => ?_⟩
       refine own_kb ?_ hk2
       exact own_other (hgj.row d) hgr (fun q hq1 hq2 => h4 i j b d _ _ hx hxj (fun e => hij e.1) q hq2 hq1)
   · have key : ∀ (j : Nat) (a : Bool) (x : FH), (hs.set i (hs[i].put b v'))[j]? = some x → ((i = j ∧ b = a) ∧ x.slot a = v') ∨ (¬ (i = j ∧ b = a) ∧ ∃ y, hs[j]? = some y ∧ x.slot a = y.slot a) := by
      intro j a x hxj
      by_cases hij : i = j
      · subst hij
        rw [List.getElem?_set_self (by omega)] at hxj
        cases hxj
        rw [FH.put_slot]
        by_cases hba : b = a
        · exact .inl ⟨⟨rfl, hba⟩, by rw [if_pos hba]⟩
        · exact .inr ⟨fun e => hba e.2, hs[i], hx, by rw [if_neg hba]⟩
      · rw [List.getElem?_set_ne hij] at hxj
        exact .inr ⟨fun e => hij e.1, x, hxj, rfl⟩
     have hlt : ∀ (j : Nat) (a : Bool) (y : FH), hs[j]? = some y → ∀ q, (y.slot a).ownBlock = some q → q < w5.heap.size := fun j a y hy q hq => by
      have hj := (List.getElem?_eq_some_iff.1 hy).1
      exact (own_typed ((h3 j y l[j] hy (List.getElem?_eq_getElem (by omega))).row a) q hq).lt
     rcases key j a x hxj with ⟨e1, ex⟩ | ⟨e1, y1, hy1, ex⟩ <;> rcases key k d z hzk with ⟨e2, ez⟩ | ⟨e2, y2, hy2, ez⟩
     · exact hne ⟨e1.1.symm.trans e2.1, e1.2.symm.trans e2.2⟩
     · rw [ex] at hq
       rw [ez] at hq'
       rcases hloc with hl | hl
       · rw [hl] at hq
         exact h4 i k b d _ _ hx hy2 e2 q hq hq'
       · rw [hl] at hq
         cases hq
         have := hlt k d y2 hy2 _ hq'
         omega
     · rw [ex] at hq
       rw [ez] at hq'
       rcases hloc with hl | hl
       · rw [hl] at hq'
         exact h4 i j b a _ _ hx hy1 e1 q hq' hq
       · rw [hl] at hq'
         cases hq'
         have := hlt j a y1 hy1 _ hq
         omega
     · rw [ex] at hq
       rw [ez] at hq'
       exact h4 j k a d _ _ hy1 hy2 hne q hq hq'
theorem FatsOwn.read (h : FatsOwn w L L2 v l) : ∃ A c, v = .slice A l.length c ∧ l.length ≤ c ∧ FatsAt w A l.length l ∧ ∀ ad, A = some ad → L ≤ ad.block := by
 obtain ⟨hs, h1, h2, h3, -⟩ := h
 obtain ⟨A, c, hv, hc, -, hS, hfr⟩ := own_sl (f := FH.vals) (size := 5) FH.len h2 h1
 refine ⟨A, c, hv, hc, ⟨rfl, fun hn => ?_⟩, hfr⟩
 obtain ⟨b, off, hA, hC⟩ := hS.2 hn
 refine ⟨b, off, hA, fun i f hf => ?_⟩
 have hi := (List.getElem?_eq_some_iff.1 hf).1
 have hx : hs[i]? = some hs[i] := List.getElem?_eq_getElem (by omega)
 have hg := h3 i _ f hx hf
 obtain ⟨pA, pc, hp, hpc, -, hpS, -⟩ := own_sl (f := intV) (size := 1) (fun _ => rfl) rfl (hg.row false)
 obtain ⟨sA, sc, hs', hsc, -, hsS, -⟩ := own_sl (f := intV) (size := 1) (fun _ => rfl) rfl (hg.row true)
 refine ⟨pA, pc, sA, sc, fun j u hu => hC i _ hx j u ?_, hpS, hsS, hpc, hsc⟩
 rw [← hu]
 have e1 : hs[i].p = .slice pA f.parts.length pc := hp
 have e2 : hs[i].s = .slice sA f.short.length sc := hs'
 unfold FH.vals
 rw [hg.reel, hg.id, hg.lost, e1, e2]
end
end
section
open Go.RowKit
def nIx (l : List Int) (x : Int) : Int := match l.findIdx? (fun y => decide (y = x)) with | some k => (k : Int) | none => -1
theorem nIx_has (l : List Int) (x : Int) : decide (nIx l x ≥ 0) = decide (x ∈ l) := by
 unfold nIx
 cases h : l.findIdx? (fun y => decide (y = x)) with
 | none =>
  have := List.findIdx?_eq_none_iff.1 h
  have hg : ¬ x ∈ l := fun hg => by
   have := this x hg
   simp at this
  simp [hg]
 | some k =>
  obtain ⟨hk, h1, -⟩ := List.findIdx?_eq_some_iff_getElem.1 h
  have h1 : l[k] = x := by simpa using h1
  have hg : x ∈ l := by rw [← h1]; exact List.getElem_mem hk
  simp [hg]
theorem nIx_step {l : List Int} {k : Nat} {y x : Int} (hx : l[k]? = some y) (hp : ∀ z ∈ l.take k, z ≠ x) : (y = x → nIx l x = k) ∧ (y ≠ x → ∀ z ∈ l.take (k + 1), z ≠ x) := by
 obtain ⟨hk, hxk⟩ := List.getElem?_eq_some_iff.1 hx
 refine ⟨fun h => ?_, fun h z hz => ?_⟩
 · have : l.findIdx? (fun y => decide (y = x)) = some k := List.findIdx?_eq_some_iff_getElem.2 ⟨hk, by simp [hxk, h], fun j hj => by
    have := hp l[j] (List.mem_take_iff_getElem.2 ⟨j, by omega, rfl⟩)
    simp [this]⟩
   unfold nIx
   rw [this]
 · rw [take_snoc' _ _ _ hx] at hz
   rcases List.mem_append.1 hz with hz | hz
   · exact hp z hz
   · simp at hz; subst hz; exact h
theorem nIx_none {l : List Int} {x : Int} (hp : ∀ z ∈ l, z ≠ x) : nIx l x = -1 := by
 unfold nIx
 rw [List.findIdx?_eq_none_iff.2 (fun z hz => by simpa using hp z hz)]
def NiRel (w : World) (n : Nat) (l : List Int) (x : Int) (i : Value) (wr : World) : Prop := ∃ k : Nat, k ≤ n ∧ i = .int .i64 k ∧ Ext w wr ∧ ∀ y ∈ l.take k, y ≠ x
theorem IntA.at1 {w : World} {A : Option Addr} {n : Nat} {l : List Int} (h : IntA w A n l) {i : Nat} (hi : i < n) : ∃ b off x, A = some ⟨b, off, none⟩ ∧ l[i]? = some x ∧ w.cell? ⟨b, off + i, none⟩ = some (.int .i64 x) := by
 obtain ⟨b, off, x, hA, hx, hC⟩ := h.at_ hi
 exact ⟨b, off, x, hA, hx, by have := hC 0 _ rfl; simpa using this⟩
set_option maxRecDepth 100000 in
set_option maxHeartbeats 4000000 in
theorem NIndex_any (A : Option Addr) (n c : Nat) (l : List Int) (x : Int) (w : World) (hl : IntA w A n l) (hn : n ≤ 4611686018427387904) :
 Calls Tryz.prog 121 #[.slice A n c, .int .i64 x] w fun e w' => e = .returned (.int .i64 (nIx l x)) ∧ Ext w w' := by
 have HL := Lib.hid hl
 have HLn := Lib.hid hl.len
 clear hl
 go_enter Tryz.func121, Tryz.ntmps121
 go_wp2_with fail
 go_loopw [8] (fun i wr => NiRel w n l x i wr) (fun i _ => n - (intOf i).toNat)
 case atStart => exact ⟨0, Nat.zero_le _, rfl, Ext.refl _, by simp⟩
 case round =>
  obtain ⟨k, hk, rfl, hx, hp⟩ := hrel
  have HX := Lib.hid hx
  have HP := Lib.hid hp
  clear hx hp
  by_cases hlt : k < n
  · obtain ⟨b, off, r, rfl, hr, c0⟩ := (HL.out.ext HX.out).at1 hlt
    have HS := Lib.hid (nIx_step hr HP.out)
    have hk0 : (0 : Int) ≤ (k : Int) := by omega
    have hk1 : (k : Int) < (n : Int) := by omega
    clear hr
    by_cases hq : r = x
    · have HT := Lib.hid (HS.out.1 hq)
      have he : (x == r) = true := by simpa using hq.symm
      clear hq
      go_wp2_with fail
      go_ret
      exact ⟨ret_int HT.out.symm, HX.out⟩
    · have HT := Lib.hid (HS.out.2 hq)
      have he : (x == r) = false := by simpa using fun h => hq (Eq.symm h)
      clear hq
      go_wp2_with fail
      exact ⟨⟨k + 1, by omega, by go_num, HX.out, HT.out⟩, by simp [intOf]; omega⟩
  · have hkn : k = n := by omega
    subst hkn
    have HT : Hid (nIx l x = -1) := nIx_none (fun y hy => HP.out y (by rwa [List.take_of_length_le (by have := HLn.out; omega)]))
    go_wp2_with fail
    go_ret
    exact ⟨ret_int HT.out.symm, HX.out⟩
set_option maxHeartbeats 1000000 in
theorem NContains_any (A : Option Addr) (n c : Nat) (l : List Int) (x : Int) (w : World) (hl : IntA w A n l) (hn : n ≤ 4611686018427387904) :
 Calls Tryz.prog 60 #[.slice A n c, .int .i64 x] w fun e w' => e = .returned (.bool (decide (x ∈ l))) ∧ Ext w w' := by
 have HI := Lib.hid (NIndex_any A n c l x w hl hn)
 have HF := Lib.hid (nIx_has l x)
 clear hl
 generalize nIx l x = ix at *
 go_enter Tryz.func60, Tryz.ntmps60
 go_wp2_with fail
 refine HI.out.mono ?_
 rintro e w1 ⟨rfl, hx⟩
 have HX1 := Lib.hid hx
 clear hx
 go_wp2_with fail
 go_ret
 exact ⟨ret_bool HF.out, HX1.out⟩
def orig (l : List Fat) (id : Int) : ByteArray × Int × Bool := match l.find? (fun f => decide (id ∈ f.parts)) with | some f => (f.reel, f.id, true) | none => (⟨#[]⟩, 0, false)
theorem orig_drop {l : List Fat} {k : Nat} {f : Fat} {id : Int} (h : l[k]? = some f) : orig (l.drop k) id = if id ∈ f.parts then (f.reel, f.id, true) else orig (l.drop (k + 1)) id := by
 rw [drop_at l k f h]
 unfold orig
 rw [List.find?_cons]
 by_cases hc : id ∈ f.parts
 · simp [hc]
 · simp [hc]
def OrRel (w : World) (n : Nat) (l : List Fat) (id : Int) (i : Value) (wr : World) : Prop := ∃ k : Nat, k ≤ n ∧ i = .int .i64 k ∧ Ext w wr ∧ orig l id = orig (l.drop k) id
structure FatsFit (l : List Fat) : Prop where
 parts : ∀ f ∈ l, f.parts.length ≤ 4611686018427387904
 short : ∀ f ∈ l, f.short.length ≤ 4611686018427387904
theorem FatsAt.at5 {w : World} {A : Option Addr} {n : Nat} {l : List Fat} (h : FatsAt w A n l) {i : Nat} (hi : i < n) : ∃ b off f pA pc sA sc, A = some ⟨b, off, none⟩ ∧ l[i]? = some f ∧ IntA w pA f.parts.length f.parts ∧ IntA w sA f.short.length f.short ∧
 (w.cell? ⟨b, off + i * 5, none⟩ = some (.string f.reel) ∧ w.cell? ⟨b, off + i * 5 + 1, none⟩ = some (.int .i64 f.id) ∧ w.cell? ⟨b, off + i * 5 + 2, none⟩ = some (.slice pA f.parts.length pc) ∧ w.cell? ⟨b, off + i * 5 + 3, none⟩ = some (.int .i64 f.lost) ∧ w.cell? ⟨b, off + i * 5 + 4, none⟩ = some (.slice sA f.short.length sc)) := by
 obtain ⟨b, off, f, hA, hf, pA, pc, sA, sc, hC, h1, h2, -, -⟩ := h.at_ hi
 exact ⟨b, off, f, pA, pc, sA, sc, hA, hf, h1, h2, by simpa using hC 0 _ rfl, hC 1 _ rfl, hC 2 _ rfl, hC 3 _ rfl, hC 4 _ rfl⟩
set_option maxRecDepth 100000 in
set_option maxHeartbeats 4000000 in
theorem Origin_any (A : Option Addr) (n c : Nat) (l : List Fat) (id : Int) (w : World) (hl : FatsAt w A n l) (hn : n ≤ 1000000) (hf : FatsFit l) :
 Calls Tryz.prog 27 #[.slice A n c, .int .i64 id] w fun e w' => e = .returned (.tuple #[.string (orig l id).1, .int .i64 (orig l id).2.1, .bool (orig l id).2.2]) ∧ Ext w w' := by
 have HL := Lib.hid hl
 have HLn := Lib.hid hl.len
 have HF := Lib.hid hf
 clear hl hf
 go_enter Tryz.func27, Tryz.ntmps27
 go_wp2_with fail
 go_loopw [11] (fun i wr => OrRel w n l id i wr) (fun i _ => n - (intOf i).toNat)
 case atStart => exact ⟨0, Nat.zero_le _, rfl, Ext.refl _, by simp⟩
 case round =>
  obtain ⟨k, hk, rfl, hx, hp⟩ := hrel
  have HX := Lib.hid hx
  have HP := Lib.hid hp
  clear hx hp
  by_cases hlt : k < n
  · obtain ⟨b, off, f, pA, pc, sA, sc, rfl, hfk, hP1, -, c0, c1, c2, c3, c4⟩ := (HL.out.ext HX.out).at5 hlt
    have HD := Lib.hid (orig_drop (id := id) hfk)
    have HBf := Lib.hid (Blk.new wr 67 #[.string f.reel, .int .i64 f.id, .slice pA f.parts.length pc, .int .i64 f.lost, .slice sA f.short.length sc])
    have HXf := Lib.hid ((Ext.refl wr).alloc (.cells #[.string f.reel, .int .i64 f.id, .slice pA f.parts.length pc, .int .i64 f.lost, .slice sA f.short.length sc] 67))
    have HC := Lib.hid (NContains_any pA f.parts.length pc f.parts id _ (hP1.ext HXf.out) (HF.out.parts f (List.mem_of_getElem? hfk)))
    clear hfk hP1
    obtain ⟨np, hnp⟩ : ∃ np, np = f.parts.length := ⟨_, rfl⟩
    rw [← hnp] at HBf HXf HC c2
    clear hnp
    go_wp2_with fail
    refine HC.out.mono ?_
    rintro e w2 ⟨rfl, hx2⟩
    have HX2 := Lib.hid (HXf.out.trans hx2)
    have HB2 := Lib.hid (HBf.out.ext hx2)
    have hcl := fun o => HB2.out.cell o
    clear hx2 HC
    by_cases hin : id ∈ f.parts
    · have g1 : decide (id ∈ f.parts) = true := decide_eq_true hin
      have HR : Hid (orig l id = (f.reel, f.id, true)) := by show _ = _; rw [HP.out, HD.out, if_pos hin]
      clear hin
      go_wp2_with fail
      go_quiet (fail)
      go_wp2_with fail
      go_ret3
      exact ⟨by rw [HR.out]; rfl, (HX.out.trans HX2.out).drewN _⟩
    · have g1 : decide (id ∈ f.parts) = false := decide_eq_false hin
      have HR : Hid (orig l id = orig (l.drop (k + 1)) id) := by show _ = _; rw [HP.out, HD.out, if_neg hin]
      clear hin
      go_wp2_with fail
      exact ⟨⟨k + 1, by omega, by go_num, HX.out.trans HX2.out, HR.out⟩, by simp [intOf]; omega⟩
  · have hkn : k = n := by omega
    subst hkn
    have HR : Hid (orig l id = (⟨#[]⟩, 0, false)) := by show _ = _; rw [HP.out, List.drop_eq_nil_of_le (by have := HLn.out; omega)]; rfl
    go_wp2_with fail
    go_ret3
    exact ⟨by rw [HR.out]; rfl, HX.out⟩
end
end Go.Proofs.YtablhmobekmflaaGreatDoor