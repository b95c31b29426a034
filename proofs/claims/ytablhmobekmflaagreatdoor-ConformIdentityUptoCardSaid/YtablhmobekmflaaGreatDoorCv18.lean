/- Laid together: What the walks of Conform carry: the map of the first fates, rows that grow. What stores into rows of one type leave as it is; a variable made and filled in a drawn region; a map from numbers to numbers. What the walks of Conform carry through the cuts. The walks of conform.lang, slices.IndexFunc at documents of reels, and of the reference's lang, place. -/
import Derived.Test.YtablhmobekmflaaGreatDoorCv14
import Derived.StringKeys
import Derived.Test.YtablhmobekmflaaGreatDoorCv05
import Derived.Test.YtablhmobekmflaaGreatDoorCv06
import Derived.Test.YtablhmobekmflaaGreatDoorCv11
import Derived.Test.YtablhmobekmflaaGreatDoorCv12
import Derived.Test.YtablhmobekmflaaGreatDoorCv13
import Derived.Test.YtablhmobekmflaaGreatDoorCv17
set_option linter.unusedVariables false
set_option linter.unusedSimpArgs false
/-! ConM -/
namespace Go.Proofs.YtablhmobekmflaaGreatDoor
open Go.RowKit Go.Maps
theorem keyStr : Keyed Tryz.prog 9 := string_keyed Tryz.underlying9
theorem keyStr_of {s : ByteArray} (h : s.size ≤ 16) : keyOf Tryz.prog 9 (.string s) = some (.string s.data.toList) := WideMaps.keyOf_string_mk Tryz.underlying9 (by unfold maxLen; omega)
/-- block B is a map that leads the reels of the first k documents to the places of their first fates -/
def MapS (w : World) (B : Nat) (l : List RDoc) (k : Nat) : Prop := ∃ (n : Nat) (D : DataW Unit), w.ownsMap Tryz.prog 9 (plainElem Tryz.prog 3) B n D ∧ n ≤ k ∧ IsMap D ∧
 ∀ (j : Nat) (d : RDoc), j < k → l[j]? = some d → D.atKey (.string d.reel.data.toList) (.lit (.int .i64 0)) = .lit (.int .i64 (offR l j))
theorem MapS.made (w : World) (l : List RDoc) : MapS (w.alloc (.map #[] 0)) w.heap.size l 0 :=
 ⟨0, .map [], World.ownsMap_made w _ _ _, Nat.le_refl _, isMap_empty, fun _ _ h => by omega⟩
theorem MapS.km {w w1 : World} {B k : Nat} {l : List RDoc} (h : MapS w B l k) (q : KM w w1) : MapS w1 B l k := by
 obtain ⟨n, D, ⟨es, cl, h1, h2⟩, h3⟩ := h
 exact ⟨n, D, ⟨es, cl, q B es cl h1, h2⟩, h3⟩
theorem MapS.lt {w : World} {B k : Nat} {l : List RDoc} (h : MapS w B l k) : B < w.heap.size := by
 obtain ⟨n, D, h1, _⟩ := h
 exact h1.lt
theorem MapS.ext {w w1 : World} {B k : Nat} {l : List RDoc} (h : MapS w B l k) (q : Ext w w1) : MapS w1 B l k := h.km (Only.ext (T := 0) q).km
theorem MapS.put {w1 : World} {B n k : Nat} {l : List RDoc} {D : DataW Unit} {d : RDoc} (hn : n ≤ k) (hm : IsMap D)
 (ha : ∀ (j : Nat) (d : RDoc), j < k → l[j]? = some d → D.atKey (.string d.reel.data.toList) (.lit (.int .i64 0)) = .lit (.int .i64 (offR l j)))
 (hd : l[k]? = some d) (hs : d.reel.size ≤ 16) (hne : ∀ (j : Nat) (x : RDoc), j < k → l[j]? = some x → x.reel ≠ d.reel)
 (h : w1.ownsMap Tryz.prog 9 (plainElem Tryz.prog 3) B (n + 1) (D.put (.string d.reel.data.toList) (.lit (.int .i64 (offR l k))))) : MapS w1 B l (k + 1) := by
 refine ⟨n + 1, _, h, by omega, hm.put _ _, fun j x hj hx => ?_⟩
 by_cases hjk : j = k
 · subst hjk
   rw [hd] at hx
   cases hx
   exact atKey_put_same hm (keyStr.key (keyStr_of hs)) _ _
 · have hn2 := hne j x (by omega) hx
   rw [atKey_put_other]
   · exact ha j x (by omega) hx
   · intro he
     apply hn2
     simp only [Lit.string.injEq] at he
     cases hx1 : x.reel with
     | mk a =>
      cases hd1 : d.reel with
      | mk b =>
       rw [hx1, hd1] at he
       simp only at he
       congr 1
       exact Array.toList_inj.1 he
theorem own_unique {w : World} {L size n : Nat} {T : TypeId} {v : Value} {xs ys : List Value} (h : w.ownsRow L T size v n xs) (k : w.ownsRow L T size v n ys) : xs = ys := by
 rcases h.2 with ⟨hv, hn⟩ | ⟨g, cap, cur, hv, -, hb, -, -, -, ht⟩
 · have h1 := h.1
   have h2 := k.1
   rw [hn, Nat.zero_mul] at h1 h2
   rw [List.length_eq_zero_iff.1 h1, List.length_eq_zero_iff.1 h2]
 · rcases k.2 with ⟨hv', -⟩ | ⟨g', cap', cur', hv', -, hb', -, -, -, ht'⟩
   · rw [hv] at hv'; cases hv'
   · rw [hv] at hv'
     cases hv'
     rw [hb] at hb'
     cases hb'
     rw [← ht, ← ht']
/-- what is left as it was: all blocks but those of R -/
structure Keep (R : Nat → Prop) (w w' : World) : Prop where
 size : w.heap.size ≤ w'.heap.size
 same : ∀ q, q < w.heap.size → ¬ R q → w'.heap[q]? = w.heap[q]?
section
variable {R : Nat → Prop} {w w1 w2 : World}
theorem Keep.refl (w : World) : Keep R w w := ⟨Nat.le_refl _, fun _ _ _ => rfl⟩
theorem Keep.ext (k : Keep R w w1) (e : Ext w1 w2) : Keep R w w2 := ⟨Nat.le_trans k.size e.size, fun q hq hr => (e.block q (Nat.lt_of_lt_of_le hq k.size)).trans (k.same q hq hr)⟩
theorem Keep.grown {row : Option Nat} (k : Keep R w w1) (g : w1.grownBy w2 row) (h : ∀ q, row = some q → R q ∨ w.heap.size ≤ q) : Keep R w w2 := by
 refine ⟨Nat.le_trans k.size g.size, fun q hq hr => (g.block q (Nat.lt_of_lt_of_le hq k.size) (fun e => ?_)).trans (k.same q hq hr)⟩
 rcases h q e.symm with h | h
 · exact hr h
 · omega
theorem Keep.set {p : Addr} {u : Value} (k : Keep R w w1) (h : R p.block ∨ w.heap.size ≤ p.block) : Keep R w (w1.setCell p u) := by
 refine ⟨by simpa [World.setCell] using k.size, fun q hq hr => ?_⟩
 rw [← k.same q hq hr]
 unfold World.setCell
 simp only [Array.getElem?_modify]
 rw [if_neg]
 rintro rfl
 rcases h with h | h
 · exact hr h
 · omega
theorem Keep.put {g : Nat} {T : TypeId} {cs : Array Value} (k : Keep R w w1) (h : R g ∨ w.heap.size ≤ g) : Keep R w (putB w1 g T cs) := by
 refine ⟨by simpa [putB] using k.size, fun q hq hr => ?_⟩
 rw [← k.same q hq hr]
 unfold putB
 simp only
 rw [Array.getElem?_setIfInBounds_ne]
 rintro rfl
 rcases h with h | h
 · exact hr h
 · omega
theorem Keep.blk {g : Nat} {T : TypeId} {cs : Array Value} (k : Keep R w w1) (h : Blk w g T cs) (hr : ¬ R g) : Blk w1 g T cs := (k.same g h.lt hr).trans h
theorem Keep.cell {b o : Nat} {u : Value} (k : Keep R w w1) (hr : ¬ R b) (h : w.cell? ⟨b, o, none⟩ = some u) : w1.cell? ⟨b, o, none⟩ = some u := by
 have hb : b < w.heap.size := World.block_lt_of_cell? w _ h
 have := k.same b hb hr
 simp only [World.cell?] at h ⊢
 rw [this]
 exact h
theorem Keep.cells {α : Type} {f : α → List Value} {size n : Nat} {A : Option Addr} {l : List α} (k : Keep R w w1) (h : Sl w size (Cells f) A n l) (hr : ∀ ad, A = some ad → ¬ R ad.block) : Sl w1 size (Cells f) A n l := by
 refine ⟨h.1, fun hn => ?_⟩
 obtain ⟨b, off, hA, hC⟩ := h.2 hn
 exact ⟨b, off, hA, fun i x hx j u hu => k.cell (hr _ hA) (hC i x hx j u hu)⟩
theorem Keep.map {B q : Nat} {l : List RDoc} (k : Keep R w w1) (h : MapS w B l q) (hr : ¬ R B) : MapS w1 B l q := by
 have hl := h.lt
 obtain ⟨n, D, ⟨es, cl, h1, h2⟩, h3⟩ := h
 exact ⟨n, D, ⟨es, cl, (k.same B hl hr).trans h1, h2⟩, h3⟩
end
theorem wp_append1q {P : Program} {o : Oper} {a : Act} {w : World} {K : Act → World → Prop} {Q : Exit → Act → World → Prop} (s x : Operand) (t : TypeId)
 (ho : o.op = .call { callee := .builtin .append, args := #[s, x], argTypes := #[t, t] })
 {base : Nat} {e : TypeId} {z : Value} {size bytes : Nat} (inf : (P.info? e).map (fun i => (i.zero, i.size, i.bytes)) = some (some z, size, bytes)) (ht : P.underlying t = some (.slice e)) (hzs : z.cells.size = size) (hsz : 0 < size)
 {v : Value} {n : Nat} {xs : List Value} (hown : w.ownsRow base e size v n xs) (hs : a.eval s = v) (g : Nat) (news : Array Value) (hx : a.eval x = .slice (some ⟨g, 0, none⟩) 1 1) (hB : Blk w g e news) (hl : news.size = size) (h1 : news.all (·.oneCell') = true)
 (hroom : (n + 1) * bytes ≤ 140737488355328) (hmax : n + 1 ≤ maxLen) (hbase : base ≤ w.heap.size)
 (h : ∀ v' w', w'.ownsRow base e size v' (n + 1) (xs ++ news.toList) → w.grownBy w' v.ownBlock → (v'.ownBlock = v.ownBlock ∨ v'.ownBlock = some w.heap.size) → K (a.put o.dst v') w') : o.wp P a w K Q := by
 obtain ⟨i, hi, hz0, hz1, hz2⟩ := info_parts inf
 obtain ⟨v', w', hrun, h2, h3, _, h5⟩ := run_append_own_at (P := P) w base t o.type e i z size bytes ht hi hz0 hz1 hz2 hzs hsz v n xs hown ⟨g, 0, none⟩ 1 1 news.toList (by simpa using hl)
  (fun j u hu => by rw [Addr.add_mid, Nat.zero_add, hB.cell]; simpa using hu) (fun u hu => (Array.all_eq_true_iff_forall_mem.1 h1) u (by simpa using hu)) hmax hroom hbase
 unfold Oper.wp execOp
 simp only [ho, resolve, invoke, builtin, Sem.run_bind, Sem.run_pure, Result.andThen_ok, List.map_toArray, List.map_cons, List.map_nil, hs, hx, hrun]
 exact h v' w' h2 h3 h5
/-- 'out = append(out, x)' behind a call, in a drawn region, at any type -/
def PgS (T : TypeId) (size : Nat) (cells : Array Value) (base : Nat) (v : Value) (k : Nat) (xs : List Value) (W : World) : List Value → World → Prop
 | [], w' => Ext W w'
 | [_], w' => Ext W w'
 | [_, u1], w' => (∃ g, u1 = .slice (some ⟨g, 0, none⟩) 1 1 ∧ Blk w' g T cells) ∧ Ext W w'
 | [_, _, u2], w' => ∃ w5, Ext W w5 ∧ w5.grownBy w' v.ownBlock ∧ (u2.ownBlock = v.ownBlock ∨ u2.ownBlock = some w5.heap.size) ∧ w'.ownsRow base T size u2 (k + 1) (xs ++ cells.toList)
 | [_, _, u2, u3], w' => u3 = u2 ∧ ∃ w5, Ext W w5 ∧ w5.grownBy w' v.ownBlock ∧ (u2.ownBlock = v.ownBlock ∨ u2.ownBlock = some w5.heap.size) ∧ w'.ownsRow base T size u2 (k + 1) (xs ++ cells.toList)
 | _, _ => False
structure PgJ (T : TypeId) (size : Nat) (r : Int) (cells : Array Value) (base : Nat) (v : Value) (k : Nat) (xs : List Value) (W : World) (us : List Value) (w' : World) : Prop where
 only : Only T W w'
 val : ∀ u, us[0]? = some u → u = .int .i64 r
 st : PgS T size cells base v k xs W us w'
section
variable {T : TypeId} {size : Nat} {r : Int} {cells : Array Value} {base k : Nat} {v : Value} {xs : List Value} {W w' w2 : World} {u0 u1 u2 : Value}
theorem PgJ.start (W : World) : PgJ T size r cells base v k xs W [] W.drew := ⟨Only.ext (Ext.refl W).drew, fun u h => by simp at h, (Ext.refl W).drew⟩
theorem PgJ.call (h : PgJ T size r cells base v k xs W [] w') (hx : Ext w' w2) : PgJ T size r cells base v k xs W ([] ++ [.int .i64 r]) w2 :=
 ⟨h.only.trans (Only.ext hx), fun u hu => by simpa using hu.symm, Ext.trans h.st hx⟩
theorem PgJ.build (h : PgJ T size r cells base v k xs W [u0] w') : PgJ T size r cells base v k xs W ([u0] ++ [.slice (some ⟨w'.heap.size, 0, none⟩) 1 1]) (w'.alloc (.cells cells T)) :=
 ⟨h.only.trans (Only.ext ((Ext.refl w').alloc _)), fun u hu => h.val u (by simpa using hu), ⟨⟨_, rfl, Blk.new w' _ _⟩, Ext.alloc h.st _⟩⟩
theorem PgJ.app (h : PgJ T size r cells base v k xs W [u0, u1] w') (hv : ∀ q, v.ownBlock = some q → Typed w' T q) (hg : w'.grownBy w2 v.ownBlock) (hloc : u2.ownBlock = v.ownBlock ∨ u2.ownBlock = some w'.heap.size) (ho : w2.ownsRow base T size u2 (k + 1) (xs ++ cells.toList)) : PgJ T size r cells base v k xs W ([u0, u1] ++ [u2]) w2 :=
 ⟨h.only.trans (Only.grown hg hv), fun u hu => h.val u (by simpa using hu), ⟨w', h.st.2, hg, hloc, ho⟩⟩
theorem PgJ.asg (h : PgJ T size r cells base v k xs W [u0, u1, u2] w') : PgJ T size r cells base v k xs W ([u0, u1, u2] ++ [u2]) w' := ⟨h.only, fun u hu => h.val u (by simpa using hu), ⟨rfl, h.st⟩⟩
end
theorem info_fate : (Tryz.prog.info? 67).map (fun i => (i.zero, i.size, i.bytes)) = some (some (.agg #[.string ⟨#[]⟩, .int .i64 0, .slice none 0 0, .int .i64 0, .slice none 0 0]), 5, 80) := by kernel_rfl
theorem size_ev : (Tryz.prog.info? 64).map (·.size) = some 7 := by kernel_rfl
theorem results_B_tt {P : Program} {fn : Func} {p u v : Tmp} {ty : TypeId} (h : fn.results = #[.cell p ty, .tmp u, .tmp v]) {tmps : Array Value} {w : World} {g : Nat} {t : TypeId} {cs : Array Value} {d : TypeDesc} (hp : tmps.getD p undef = .pointer (some ⟨g, 0, none⟩))
 (hB : Blk w g t cs) (hu : P.underlying ty = some d) (hd : d.isRow = true) (hi : (P.info? ty).map (·.size) = some cs.size) : (results fn tmps).run P w = .ok (.tuple #[.agg cs, tmps.getD u undef, tmps.getD v undef]) w := by
 have h1 := run_loadVarB (P := P) g t ty cs d hB hu hd hi
 simp only [results, h]
 have e : tmps[p]?.getD undef = .pointer (some ⟨g, 0, none⟩) := by simpa using hp
 simp [Sem.run_bind, e, run_asAddr, h1]
theorem offR_le : ∀ {docs : List RDoc} {q : Nat}, (∀ d ∈ docs, d.doc.evs.length ≤ q) → ∀ k, offR docs k ≤ k * q
 | [], q, _, k => by unfold offR; simp
 | d :: l, q, h, 0 => by unfold offR; simp
 | d :: l, q, h, k + 1 => by
  have h1 := h d (by simp)
  have h2 := offR_le (docs := l) (fun x hx => h x (by simp [hx])) k
  have e : offR (d :: l) (k + 1) = d.doc.evs.length + offR l k := by unfold offR; simp
  rw [e, Nat.succ_mul]
  omega
theorem FatsOwn.app {w w5 w1 : World} {L L2 : Nat} {v v' : Value} {l : List Fat} {r : ByteArray} {id lost : Int} {xs : List Value} (h : FatsOwn w L L2 v l) (h1 : w.ownsRow L 67 5 v l.length xs) (hx : Ext w w5) (hgr : w5.grownBy w1 v.ownBlock)
 (hO : w1.ownsRow L 67 5 v' (l.length + 1) (xs ++ [.string r, .int .i64 id, .slice none 0 0, .int .i64 lost, .slice none 0 0])) : FatsOwn w1 L L2 v' (l ++ [⟨r, id, [], lost, []⟩]) :=
 (h.ext hx).snoc hgr (fun ys hy => by rw [own_unique hy (own_ext h1 hx)]; exact hO)
theorem FatsOwn.xs {w : World} {L L2 : Nat} {v : Value} {l : List Fat} (h : FatsOwn w L L2 v l) : ∃ xs, w.ownsRow L 67 5 v l.length xs := h.elim fun _ h => ⟨_, h.1⟩
theorem fatsD_take {e : Edl} {d : RDoc} {j : Nat} {x : Ev} (h : d.doc.evs[j]? = some x) : (fatsD e d).take (j + 1) = (fatsD e d).take j ++ [⟨d.reel, x.id, [], lostS ⟨x.inn, x.out⟩ (plE e d.reel), []⟩] := by
 have : (fatsD e d)[j]? = some ⟨d.reel, x.id, [], lostS ⟨x.inn, x.out⟩ (plE e d.reel), []⟩ := by unfold fatsD; rw [List.getElem?_map, h]; rfl
 exact take_snoc' _ _ _ this
theorem fatsD_len (e : Edl) (d : RDoc) : (fatsD e d).length = d.doc.evs.length := by unfold fatsD; rw [List.length_map]
theorem wp_alloc_docC {o : Oper} {a : Act} {w : World} {K : Act → World → Prop} {Q : Exit → Act → World → Prop} (ho : o.op = .alloc 52) (h : K (a.put o.dst (.pointer (some ⟨w.heap.size, 0, none⟩))) (w.alloc (.cells docZero 52))) : o.wp Tryz.prog a w K Q := by
 obtain ⟨dst, op, ty, pos, after, guard⟩ := o
 simp only at ho
 subst ho
 unfold docZero at h
 go_simp
 exact h
/-- the cells of the document that a conform makes -/
def oCells (e : Edl) (s : ByteArray) (last : Int) (r v : Value) : Array Value := #[.string e.title, .string s, .int .u8 e.rate, .bool e.drop, .int .i64 last, r, v, .slice none 0 0]
/-- 'out := api.Document{.., Lang: lang(docs), .., Regions: regions(docs)}', in a drawn region -/
structure OdJ (al : Nat) (s : ByteArray) (C : Value → Array Value) (n : Nat) (xs : List Value) (W : World) (us : List Value) (gs : Nat → Option Nat) (w' : World) : Prop where
 ext : Ext W w'
 blk : ∀ g, gs al = some g → W.heap.size ≤ g ∧ Blk w' g 52 (if us.length ≤ 3 then docZero else C (us.getD 1 undef))
 str : ∀ u, us[0]? = some u → u = .string s
 own : 2 ≤ us.length → w'.ownsRow W.heap.size 105 7 (us.getD 1 undef) n xs
 agg : 3 ≤ us.length → us.getD 2 undef = .agg (C (us.getD 1 undef))
section
variable {al n : Nat} {s : ByteArray} {C : Value → Array Value} {xs : List Value} {W w' w2 : World} {us : List Value} {gs : Nat → Option Nat} {u0 u1 u2 : Value}
theorem OdJ.start (W : World) : OdJ al s C n xs W [] (fun _ => none) W.drew :=
 ⟨(Ext.refl W).drew, fun g h => (by have h2 : (none : Option Nat) = some g := h; exact absurd h2 (by simp)), fun u h => by simp at h, fun h => by simp at h, fun h => by simp at h⟩
theorem OdJ.alloc (j : OdJ al s C n xs W us gs w') (hl : us.length ≤ 3) : OdJ al s C n xs W us (upd gs al w'.heap.size) (w'.alloc (.cells docZero 52)) := by
 refine ⟨j.ext.alloc _, fun g hg => ?_, j.str, fun h => own_ext (j.own h) ((Ext.refl _).alloc _), j.agg⟩
 rw [upd_self] at hg
 cases hg
 exact ⟨j.ext.size, by rw [if_pos hl]; exact Blk.new _ _ _⟩
theorem OdJ.c0 (j : OdJ al s C n xs W [] gs w') (hx : Ext w' w2) : OdJ al s C n xs W ([] ++ [.string s]) gs w2 :=
 ⟨j.ext.trans hx, fun g hg => ⟨(j.blk g hg).1, (j.blk g hg).2.ext hx⟩, fun u hu => by simpa using hu.symm, fun h => by simp at h, fun h => by simp at h⟩
theorem OdJ.c1 (j : OdJ al s C n xs W [u0] gs w') (hx : Ext w' w2) (ho : w2.ownsRow w'.heap.size 105 7 u1 n xs) : OdJ al s C n xs W ([u0] ++ [u1]) gs w2 :=
 ⟨j.ext.trans hx, fun g hg => ⟨(j.blk g hg).1, (j.blk g hg).2.ext hx⟩, fun u hu => j.str u (by simpa using hu), fun _ => own_le ho j.ext.size, fun h => by simp at h⟩
theorem OdJ.c2 (j : OdJ al s C n xs W [u0, u1] gs w') : OdJ al s C n xs W ([u0, u1] ++ [.agg (C u1)]) gs w' :=
 ⟨j.ext, fun g hg => ⟨(j.blk g hg).1, (j.blk g hg).2⟩, fun u hu => j.str u (by simpa using hu), fun _ => j.own (Nat.le_refl _), fun _ => rfl⟩
theorem OdJ.c3 {g : Nat} {v : Value} (j : OdJ al s C n xs W [u0, u1, u2] gs w') (hg : gs al = some g) : OdJ al s C n xs W ([u0, u1, u2] ++ [v]) gs (putB w' g 52 (C u1)) := by
 have hb := (j.blk g hg).2
 refine ⟨j.ext.put (j.blk g hg).1 _ _, fun g' hg' => ?_, fun u hu => j.str u (by simpa using hu), fun _ => own_kb (j.own (by simp)) (KB.put hb (by decide)), fun _ => j.agg (by simp)⟩
 rw [hg] at hg'
 cases hg'
 exact ⟨(j.blk g hg).1, hb.put _⟩
end
theorem own_isSl {w : World} {L n size : Nat} {T : TypeId} {v : Value} {xs : List Value} (h : w.ownsRow L T size v n xs) : ∃ A c, v = .slice A n c := by
 rcases h.2 with ⟨rfl, rfl⟩ | ⟨g, cap, cur, rfl, -⟩
 · exact ⟨none, 0, rfl⟩
 · exact ⟨_, cap, rfl⟩
end Go.Proofs.YtablhmobekmflaaGreatDoor
/-! Kept -/
namespace Go.Proofs.YtablhmobekmflaaGreatDoor
open Go.RowKit Go.Maps
section
variable {T T' : TypeId} {w w1 w2 : World}
end
/-- a map that leads each number of the events l to its place and one -/
def MapI (w : World) (T : TypeId) (B : Nat) (l : List Ev) : Prop := ∃ (n : Nat) (D : DataW Unit), w.ownsMap Tryz.prog 2 (plainElem Tryz.prog T) B n D ∧ n ≤ l.length ∧ IsMap D ∧
 ∀ id k, IW id → findE l id = some k → D.atKey (.int .i64 id) (.lit (.int .i64 0)) = .lit (.int .i64 ((k : Int) + 1))
theorem MapI.made (w : World) (T : TypeId) : MapI (w.alloc (.map #[] 0)) T w.heap.size [] :=
 ⟨0, .map [], World.ownsMap_made w _ _ _, Nat.le_refl _, isMap_empty, fun _ _ _ h => by simp [findE] at h⟩
theorem MapI.km {w w1 : World} {T : TypeId} {B : Nat} {l : List Ev} (h : MapI w T B l) (k : KM w w1) : MapI w1 T B l := by
 obtain ⟨n, D, ⟨es, cl, h1, h2⟩, h3⟩ := h
 exact ⟨n, D, ⟨es, cl, k B es cl h1, h2⟩, h3⟩
theorem MapI.ext {w w1 : World} {T : TypeId} {B : Nat} {l : List Ev} (h : MapI w T B l) (k : Ext w w1) : MapI w1 T B l := h.km (Only.ext (T := 0) k).km
theorem MapI.put {w1 : World} {T : TypeId} {B n : Nat} {l : List Ev} {D : DataW Unit} {x : Ev} (hn : n ≤ l.length) (hm : IsMap D)
 (ha : ∀ id k, IW id → findE l id = some k → D.atKey (.int .i64 id) (.lit (.int .i64 0)) = .lit (.int .i64 ((k : Int) + 1))) (hx : IW x.id) (hno : findE l x.id = none)
 (h : w1.ownsMap Tryz.prog 2 (plainElem Tryz.prog T) B (n + 1) (D.put (.int .i64 x.id) (.lit (.int .i64 ((l.length : Int) + 1))))) : MapI w1 T B (l ++ [x]) := by
 refine ⟨n + 1, _, h, by simp; omega, hm.put _ _, fun id k hid hk => ?_⟩
 rw [findE_snoc] at hk
 by_cases he : id = x.id
 · subst he
   rw [hno] at hk
   simp at hk
   subst hk
   exact atKey_put_same hm hx.isKey _ _
 · rw [atKey_put_other (by simpa using he)]
   refine ha id k hid ?_
   cases hf : findE l id with
   | some j => rw [hf] at hk; simpa using hk
   | none => rw [hf] at hk; simp [Ne.symm he] at hk
/-- a variable that is made at whatever time and filled at the chain's place p -/
structure VarJ (T : TypeId) (al p : Nat) (cs0 cs1 : Array Value) (r0 : Value) (W : World) (us : List Value) (gs : Nat → Option Nat) (w : World) : Prop where
 ext : Ext W w
 val : ∀ u, us[0]? = some u → u = r0
 va : ∀ g, gs al = some g → W.heap.size ≤ g ∧ Blk w g T (if us.length ≤ p then cs0 else cs1)
section
variable {T : TypeId} {al p : Nat} {cs0 cs1 : Array Value} {r0 : Value} {W w w2 : World} {us : List Value} {gs : Nat → Option Nat} {v : Value}
theorem VarJ.start (W : World) : VarJ T al p cs0 cs1 r0 W [] (fun _ => none) W.drew := ⟨(Ext.refl W).drew, fun u hu => by simp at hu, fun g h => by cases h⟩
theorem VarJ.alloc (h : VarJ T al p cs0 cs1 r0 W us gs w) (hl : us.length ≤ p) : VarJ T al p cs0 cs1 r0 W us (upd gs al w.heap.size) (w.alloc (.cells cs0 T)) := by
 refine ⟨h.ext.alloc _, h.val, fun g hg => ?_⟩
 rw [upd_self] at hg
 obtain rfl : w.heap.size = g := Option.some.inj hg
 rw [if_pos hl]
 exact ⟨h.ext.size, Blk.new w _ _⟩
theorem VarJ.call (h : VarJ T al p cs0 cs1 r0 W [] gs w) (hl : 0 < p) (hx : Ext w w2) (hv : v = r0) : VarJ T al p cs0 cs1 r0 W ([] ++ [v]) gs w2 := by
 refine ⟨h.ext.trans hx, fun u hu => by simp at hu; subst hu; exact hv, fun g hg => ?_⟩
 obtain ⟨h1, h2⟩ := h.va g hg
 rw [if_pos (by simp)] at h2
 rw [if_pos (by simp; omega)]
 exact ⟨h1, h2.ext hx⟩
theorem VarJ.blk {g : Nat} (h : VarJ T al p cs0 cs1 r0 W us gs w) (hg : gs al = some g) (hl : us.length ≤ p) : Blk w g T cs0 := by
 have := (h.va g hg).2
 rwa [if_pos hl] at this
theorem VarJ.store {g : Nat} (h : VarJ T al p cs0 cs1 r0 W us gs w) (hg : gs al = some g) (hl : us.length = p) (hv : us = [] → v = r0) : VarJ T al p cs0 cs1 r0 W (us ++ [v]) gs (putB w g T cs1) := by
 obtain ⟨h1, h2⟩ := h.va g hg
 refine ⟨h.ext.put h1 _ _, fun u hu => ?_, fun g' hg' => ?_⟩
 · cases us with
   | nil => simp at hu; subst hu; exact hv rfl
   | cons a us => exact h.val u (by simpa using hu)
 · rw [hg] at hg'
   obtain rfl := Option.some.inj hg'
   rw [if_neg (by simp; omega)]
   exact ⟨h1, (h.blk hg (by omega)).put _⟩
end
/-- an element of a list of events of one's own -/
theorem EvsOwn.head {w : World} {L n c k : Nat} {A : Option Addr} {l : List Ev} {e : Ev} (h : EvsOwn w L (.slice A n c) n l) (hk : l[k]? = some e) : ∃ g A' n' c', A = some ⟨g, 0, none⟩ ∧ L ≤ g ∧ g < w.heap.size ∧ Typed w 64 g ∧
 (∀ j u, (e.cells A' n' c').toList[j]? = some u → w.cell? ⟨g, k * 7 + j, none⟩ = some u) ∧ (∀ j, w.frozen? ⟨g, j, none⟩ = false) ∧ EGood w L (EH.of e A' n' c') e := by
 obtain ⟨hs, h1, h2, h3, h4⟩ := h
 have hkn : k < n := by rw [← h3]; exact (List.getElem?_eq_some_iff.1 hk).1
 obtain ⟨g, cap, hv, hb, hlt⟩ := own_form h1 (by omega)
 injection hv with hA hn hc
 subst hA hc
 obtain ⟨x, hx⟩ : ∃ x, hs[k]? = some x := ⟨_, List.getElem?_eq_getElem (by omega)⟩
 have hg := h4 k x e hx hk
 refine ⟨g, x.A, x.n, x.c, rfl, hb, hlt, own_typed h1 g rfl, fun j u hu => ?_, fun j => h1.frozenAt j, by rw [← hg.1]; exact hg⟩
 have hj : j < 7 := (List.getElem?_eq_some_iff.1 hu).1
 rw [h1.cellAt (k * 7 + j) (by omega), flatMap_at EH.vals 7 EH.len hs k x j hx hj, hg.1, EH.of_vals]
 exact hu
/-- 'out = append(out, x)' in a drawn region: the element is built, appended, assigned -/
structure ApJ (T : TypeId) (size : Nat) (cells : Array Value) (base : Nat) (v : Value) (k : Nat) (xs : List Value) (W : World) (us : List Value) (w' : World) : Prop where
 only : Only T W w'
 nil : us = [] → Ext W w'
 one : ∀ u, us = [u] → ∃ g, u = .slice (some ⟨g, 0, none⟩) 1 1 ∧ W.heap.size ≤ g ∧ Blk w' g T cells ∧ Ext W w'
 two : ∀ u u1, us = [u, u1] → ∃ w5, Ext W w5 ∧ w5.grownBy w' v.ownBlock ∧ w'.ownsRow base T size u1 (k + 1) (xs ++ cells.toList)
 three : ∀ u u1 u2, us = [u, u1, u2] → u2 = u1 ∧ ∃ w5, Ext W w5 ∧ w5.grownBy w' v.ownBlock ∧ w'.ownsRow base T size u1 (k + 1) (xs ++ cells.toList)
section
variable {T : TypeId} {size : Nat} {cells : Array Value} {base : Nat} {v : Value} {k : Nat} {xs : List Value} {W w' w2 : World} {u0 u1 : Value}
theorem ApJ.start (W : World) : ApJ T size cells base v k xs W [] W.drew := ⟨Only.ext (Ext.refl W).drew, fun _ => (Ext.refl W).drew, fun u h => by simp at h, fun u u1 h => by simp at h, fun u u1 u2 h => by simp at h⟩
theorem ApJ.build (h : ApJ T size cells base v k xs W [] w') : ApJ T size cells base v k xs W ([] ++ [.slice (some ⟨w'.heap.size, 0, none⟩) 1 1]) (w'.alloc (.cells cells T)) :=
 ⟨Only.ext ((h.nil rfl).alloc _), fun h => by simp at h, fun u hu => by simp at hu; subst hu; exact ⟨_, rfl, (h.nil rfl).size, Blk.new w' _ _, (h.nil rfl).alloc _⟩, fun u u1 h => by simp at h, fun u u1 u2 h => by simp at h⟩
theorem ApJ.app (hx : Ext W w') (hv : ∀ q, v.ownBlock = some q → Typed w' T q) (hg : w'.grownBy w2 v.ownBlock) (ho : w2.ownsRow base T size u1 (k + 1) (xs ++ cells.toList)) : ApJ T size cells base v k xs W ([u0] ++ [u1]) w2 :=
 ⟨(Only.ext hx).trans (Only.grown hg hv), fun h => by simp at h, fun u h => by simp at h, fun u u1 h => by simp at h; obtain ⟨rfl, rfl⟩ := h; exact ⟨w', hx, hg, ho⟩, fun u u1 u2 h => by simp at h⟩
theorem ApJ.asg (h : ApJ T size cells base v k xs W [u0, u1] w') : ApJ T size cells base v k xs W ([u0, u1] ++ [u1]) w' :=
 ⟨h.only, fun h => by simp at h, fun u h => by simp at h, fun u u1 h => by simp at h, fun a b c e => by simp at e; obtain ⟨rfl, rfl, rfl⟩ := e; exact ⟨rfl, h.two _ _ rfl⟩⟩
end
/-- an event's number and span are stored, one after the other, in a drawn region -/
structure StJ (g o : Nat) (i a b : Value) (W : World) (us : List Value) (w' : World) : Prop where
 only : Only 64 W w'
 nil : us = [] → Ext W w'
 one : ∀ u, us = [u] → ∃ w5, Ext W w5 ∧ w' = w5.setCell ⟨g, o, none⟩ i
 two : ∀ u u1, us = [u, u1] → ∃ w5, Ext W w5 ∧ w' = w5.setCells g o [i, a, b]
section
variable {g o : Nat} {i a b : Value} {W w' : World} {u0 u1 : Value}
theorem StJ.start (W : World) : StJ g o i a b W [] W.drew := ⟨Only.ext (Ext.refl W).drew, fun _ => (Ext.refl W).drew, fun u h => by simp at h, fun u u1 h => by simp at h⟩
theorem StJ.first (h : StJ g o i a b W [] w') (hT : Typed W 64 g) : StJ g o i a b W ([] ++ [u0]) (w'.setCell ⟨g, o, none⟩ i) :=
 ⟨(Only.ext (h.nil rfl)).trans (Only.set (p := ⟨g, o, none⟩) (hT.ext (h.nil rfl))), fun h => by simp at h, fun u hu => ⟨w', h.nil rfl, rfl⟩, fun u u1 h => by simp at h⟩
theorem StJ.second (h : StJ g o i a b W [u0] w') (hT : Typed W 64 g) : StJ g o i a b W ([u0] ++ [u1]) (w'.setCells g (o + 1) [a, b]) := by
 obtain ⟨w5, hx, rfl⟩ := h.one u0 rfl
 exact ⟨h.only.trans (Only.sets _ _ _ ((hT.ext hx).setCell _ _)), fun h => by simp at h, fun u h => by simp at h, fun u v e => ⟨w5, hx, rfl⟩⟩
end
end Go.Proofs.YtablhmobekmflaaGreatDoor
/-! ConN -/
namespace Go.Proofs.YtablhmobekmflaaGreatDoor
open Go.RowKit Go.Maps
theorem own_same {w w1 : World} {L size n : Nat} {T : TypeId} {v : Value} {xs : List Value} (h : w.ownsRow L T size v n xs) (k : ∀ q, v.ownBlock = some q → w1.heap[q]? = w.heap[q]?) : w1.ownsRow L T size v n xs := by
 refine ⟨h.1, ?_⟩
 rcases h.2 with hn | ⟨g, cap, cur, rfl, hb, hg, rest⟩
 · exact .inl hn
 · exact .inr ⟨g, cap, cur, rfl, hb, (k g rfl).trans hg, rest⟩
theorem EvsOwn.same {w w1 : World} {L n : Nat} {v : Value} {l : List Ev} (h : EvsOwn w L v n l) (k : ∀ q, v.ownBlock = some q → w1.heap[q]? = w.heap[q]?) (k1 : KB 174 w w1) (k2 : KB 171 w w1) : EvsOwn w1 L v n l := by
 obtain ⟨hs, h1, h2, h3, h4⟩ := h
 exact ⟨hs, own_same h1 k, h2, h3, fun i x e a b => (h4 i x e a b).kb k1 k2⟩
theorem EvsOwn.typed {w : World} {L n : Nat} {v : Value} {l : List Ev} (h : EvsOwn w L v n l) : ∀ q, v.ownBlock = some q → Typed w 64 q := by
 obtain ⟨hs, h1, -⟩ := h
 exact own_typed h1
theorem EvsOwn.low {w : World} {L n : Nat} {v : Value} {l : List Ev} (h : EvsOwn w L v n l) : ∀ q, v.ownBlock = some q → L ≤ q := by
 obtain ⟨hs, h1, -⟩ := h
 exact own_lt h1
/-- the state of a conform: the document in block gD, its events in a row of their own, the fates -/
structure MnF (w wJ : World) (gD : Nat) (uF ur : Value) (e : Edl) (lg : ByteArray) (mR : List Reg) (X : Nat → Prop) (vE : Value) (last : Int) (s : ConSt) (wr : World) : Prop where
 ext : Ext w wr
 keep : Keep (fun q => q = gD ∨ uF.ownBlock = some q) wJ wr
 doc : Blk wr gD 52 (oCells e lg last ur vE)
 evs : EvsOwn wr wJ.heap.size vE s.evs.length s.evs
 sep : ∀ q, vE.ownBlock = some q → ¬ X q
 fats : FatsOwn wr w.heap.size wJ.heap.size uF s.fats
 regs : wr.ownsRow w.heap.size 105 7 ur mR.length (mR.flatMap Reg.vals)
section
variable {w wJ wr w2 : World} {gD : Nat} {uF ur vE : Value} {e : Edl} {lg : ByteArray} {mR : List Reg} {X : Nat → Prop} {last : Int} {s : ConSt}
theorem MnF.step (h : MnF w wJ gD uF ur e lg mR X vE last s wr) (q : Ext wr w2) : MnF w wJ gD uF ur e lg mR X vE last s w2 :=
 ⟨h.ext.trans q, h.keep.ext q, h.doc.ext q, h.evs.ext q, h.sep, h.fats.ext q, own_ext h.regs q⟩
theorem MnF.putDoc (h : MnF w wJ gD uF ur e lg mR X vE last s wr) (hw : w.heap.size ≤ gD) (last' : Int) : MnF w wJ gD uF ur e lg mR X vE last' s (putB wr gD 52 (oCells e lg last' ur vE)) :=
 ⟨h.ext.put hw _ _, h.keep.put (.inl (.inl rfl)), h.doc.put _, h.evs.kb (KB.put h.doc (by decide)) (KB.put h.doc (by decide)) (KB.put h.doc (by decide)), h.sep, h.fats.kb (KB.put h.doc (by decide)) (KB.put h.doc (by decide)), own_kb h.regs (KB.put h.doc (by decide))⟩
theorem MnF.poke {g : Nat} {cs cs' : Array Value} (h : MnF w wJ gD uF ur e lg mR X vE last s wr) (hB : Blk wr g 64 cs) (hw : w.heap.size ≤ g) (hJ : wJ.heap.size ≤ g) (hne : ∀ q, vE.ownBlock = some q → q ≠ g) : MnF w wJ gD uF ur e lg mR X vE last s (putB wr g 64 cs') := by
 refine ⟨h.ext.put hw _ _, h.keep.put (.inr hJ), h.doc.kb (KB.put hB (by decide)), h.evs.same (fun q hq => ?_) (KB.put hB (by decide)) (KB.put hB (by decide)), h.sep, h.fats.kb (KB.put hB (by decide)) (KB.put hB (by decide)), own_kb h.regs (KB.put hB (by decide))⟩
 unfold putB
 simp only
 rw [Array.getElem?_setIfInBounds_ne (fun e => hne q hq e.symm)]
/-- an event is appended, and the row kept in the document -/
theorem MnF.app {w5 : World} {v' : Value} {x : Ev} {A' : Option Addr} {n' c' : Nat} (h : MnF w wJ gD uF ur e lg mR X vE last s wr) (hw : w.heap.size ≤ gD) (hJw : w.heap.size ≤ wJ.heap.size) (q : Ext wr w5) (hg : w5.grownBy w2 vE.ownBlock) (hX : ∀ q, X q → q < w5.heap.size) (hE : EGood w5 wJ.heap.size (EH.of x A' n' c') x)
 (hloc : v'.ownBlock = vE.ownBlock ∨ v'.ownBlock = some w5.heap.size) (hO : ∀ xs, w5.ownsRow wJ.heap.size 64 7 vE s.evs.length xs → w2.ownsRow wJ.heap.size 64 7 v' (s.evs.length + 1) (xs ++ (x.cells A' n' c').toList)) :
 MnF w wJ gD uF ur e lg mR X v' last ⟨s.evs ++ [x], s.fats⟩ (putB w2 gD 52 (oCells e lg last ur v')) := by
 have h5 := h.step q
 have ho := Only.grown hg h5.evs.typed
 have hD := h5.doc.only ho (by decide)
 refine ⟨(Ext.grown h5.ext hg (fun q hq => Nat.le_trans hJw (h5.evs.low q hq))).put hw _ _, (h5.keep.grown hg (fun q hq => .inr (h5.evs.low q hq))).put (.inl (.inl rfl)), hD.put _, ?_, fun q hq => ?_, (h5.fats.kb (ho.kb _ (by decide)) (ho.kb _ (by decide))).kb (KB.put hD (by decide)) (KB.put hD (by decide)), own_kb (own_kb h5.regs (ho.kb _ (by decide))) (KB.put hD (by decide))⟩
 · have := (h5.evs.snoc hE hg hO).kb (KB.put (cs' := oCells e lg last ur v') hD (by decide)) (KB.put (cs' := oCells e lg last ur v') hD (by decide)) (KB.put (cs' := oCells e lg last ur v') hD (by decide))
   simpa using this
 · rcases hloc with hl | hl
   · rw [hl] at hq; exact h.sep q hq
   · rw [hl] at hq
     cases hq
     intro hx
     exact Nat.lt_irrefl _ (hX _ hx)
/-- a number is noted in a fate -/
theorem MnF.note {w5 w6 : World} {v' : Value} {gF nF cF i : Nat} {f : Fat} {b : Bool} {y : Int} {x : FH} (h : MnF w wJ gD uF ur e lg mR X vE last s wr) (hJw : w.heap.size ≤ wJ.heap.size) (hF : uF = .slice (some ⟨gF, 0, none⟩) nF cF) (hTy : Typed wr 67 gF) (hLg : w.heap.size ≤ gF) (hG : FGood wr wJ.heap.size x f) (q : Ext wr w5) (hg : w5.grownBy w6 (x.slot b).ownBlock)
 (hnew : FatsOwn (w6.setCell ⟨gF, i * 5 + slotO b, none⟩ v') w.heap.size wJ.heap.size uF (s.fats.modify i fun f => f.push b y)) :
 MnF w wJ gD uF ur e lg mR X vE last ⟨s.evs, s.fats.modify i fun f => f.push b y⟩ (w6.setCell ⟨gF, i * 5 + slotO b, none⟩ v') := by
 have h5 := h.step q
 have hG5 : ∀ b, w5.ownsRow wJ.heap.size 2 1 (x.slot b) (f.slot b).length ((f.slot b).flatMap intV) := fun b => own_ext (hG.row b) q
 have ho := Only.grown hg (own_typed (hG5 b))
 have hT6 : Typed w6 67 gF := (hTy.ext q).kb (ho.kb _ (by decide))
 have ho2 : Only 67 w6 (w6.setCell ⟨gF, i * 5 + slotO b, none⟩ v') := Only.set hT6
 refine ⟨(Ext.grown h5.ext hg (fun q hq => Nat.le_trans hJw (own_lt (hG5 b) q hq))).setCell hLg _, (h5.keep.grown hg (fun q hq => .inr (own_lt (hG5 b) q hq))).set (.inl (.inr (by rw [hF]; rfl))), (h5.doc.only ho (by decide)).only ho2 (by decide), ?_, h.sep, hnew, own_kb (own_kb h5.regs (ho.kb _ (by decide))) (ho2.kb _ (by decide))⟩
 exact (h5.evs.kb (ho.kb _ (by decide)) (ho.kb _ (by decide)) (ho.kb _ (by decide))).kb (ho2.kb _ (by decide)) (ho2.kb _ (by decide)) (ho2.kb _ (by decide))
end
theorem MnF.final {w wJ wr : World} {gD gz : Nat} {uF ur vE : Value} {e : Edl} {lg : ByteArray} {mR : List Reg} {X : Nat → Prop} {last : Int} {s : ConSt} {cs : Array Value} (h : MnF w wJ gD uF ur e lg mR X vE last s wr) (hZ : Blk wr gz 52 cs) (cs' : Array Value) :
 EvsOwn (putB wr gz 52 cs') wJ.heap.size vE s.evs.length s.evs ∧ FatsOwn (putB wr gz 52 cs') w.heap.size wJ.heap.size uF s.fats ∧ (putB wr gz 52 cs').ownsRow w.heap.size 105 7 ur mR.length (mR.flatMap Reg.vals) :=
 ⟨h.evs.kb (KB.put hZ (by decide)) (KB.put hZ (by decide)) (KB.put hZ (by decide)), h.fats.kb (KB.put hZ (by decide)) (KB.put hZ (by decide)), own_kb h.regs (KB.put hZ (by decide))⟩
theorem MnF.weaken {w wJ wr : World} {gD : Nat} {uF ur vE : Value} {e : Edl} {lg : ByteArray} {mR : List Reg} {X : Nat → Prop} {last : Int} {s : ConSt} (h : MnF w wJ gD uF ur e lg mR X vE last s wr) : MnF w wJ gD uF ur e lg mR (fun _ => False) vE last s wr :=
 ⟨h.ext, h.keep, h.doc, h.evs, fun _ _ h => h, h.fats, h.regs⟩
def MnSt (w wJ : World) (gD : Nat) (uF ur : Value) (e : Edl) (lg : ByteArray) (mR : List Reg) (X : Nat → Prop) (s : ConSt) (wr : World) : Prop := ∃ vE, MnF w wJ gD uF ur e lg mR X vE s.evs.length s wr
/-- the rows of numbers that a part is noted in: append, then store, in a drawn region -/
structure NtJ (base : Nat) (v : Value) (n : Nat) (xs : List Value) (y : Int) (p : Addr) (W : World) (us : List Value) (w' : World) : Prop where
 only : us.length ≤ 2 → Only 2 W w'
 e0 : us.length = 0 → Ext W w'
 e1 : us.length = 1 → Ext W w' ∧ ∃ g, us.getD 0 undef = .slice (some ⟨g, 0, none⟩) 1 1 ∧ Blk w' g 2 #[.int .i64 y]
 e2 : us.length = 2 → ∃ w5, Ext W w5 ∧ w5.grownBy w' v.ownBlock ∧ ((us.getD 1 undef).ownBlock = v.ownBlock ∨ (us.getD 1 undef).ownBlock = some w5.heap.size) ∧ w'.ownsRow base 2 1 (us.getD 1 undef) (n + 1) (xs ++ [.int .i64 y])
 e3 : us.length = 3 → ∃ w5 w6, Ext W w5 ∧ w5.grownBy w6 v.ownBlock ∧ ((us.getD 1 undef).ownBlock = v.ownBlock ∨ (us.getD 1 undef).ownBlock = some w5.heap.size) ∧ w6.ownsRow base 2 1 (us.getD 1 undef) (n + 1) (xs ++ [.int .i64 y]) ∧ w' = w6.setCell p (us.getD 1 undef)
section
variable {base n : Nat} {v : Value} {xs : List Value} {y : Int} {p : Addr} {W w' w2 : World} {u0 u1 u2 : Value}
theorem NtJ.start (W : World) : NtJ base v n xs y p W [] W.drew := ⟨fun _ => Only.ext (Ext.refl W).drew, fun _ => (Ext.refl W).drew, fun h => by simp at h, fun h => by simp at h, fun h => by simp at h⟩
theorem NtJ.build (h : NtJ base v n xs y p W [] w') : NtJ base v n xs y p W ([] ++ [.slice (some ⟨w'.heap.size, 0, none⟩) 1 1]) (w'.alloc (.cells #[.int .i64 y] 2)) :=
 ⟨fun _ => (h.only (by simp)).trans (Only.ext ((Ext.refl w').alloc _)), fun h => by simp at h, fun _ => ⟨(h.e0 rfl).alloc _, ⟨_, rfl, Blk.new w' _ _⟩⟩, fun h => by simp at h, fun h => by simp at h⟩
theorem NtJ.app (h : NtJ base v n xs y p W [u0] w') (hv : ∀ q, v.ownBlock = some q → Typed w' 2 q) (hg : w'.grownBy w2 v.ownBlock) (hloc : u1.ownBlock = v.ownBlock ∨ u1.ownBlock = some w'.heap.size) (ho : w2.ownsRow base 2 1 u1 (n + 1) (xs ++ [.int .i64 y])) : NtJ base v n xs y p W ([u0] ++ [u1]) w2 :=
 ⟨fun _ => (h.only (by simp)).trans (Only.grown hg hv), fun h => by simp at h, fun h => by simp at h, fun _ => ⟨w', (h.e1 rfl).1, hg, hloc, ho⟩, fun h => by simp at h⟩
theorem NtJ.store (h : NtJ base v n xs y p W [u0, u1] w') : NtJ base v n xs y p W ([u0, u1] ++ [u2]) (w'.setCell p u1) := by
 obtain ⟨w5, a, b, c, d⟩ := h.e2 rfl
 exact ⟨fun h => by simp at h, fun h => by simp at h, fun h => by simp at h, fun h => by simp at h, fun _ => ⟨w5, w', a, b, c, d, rfl⟩⟩
end
/-- two stores into a block of an event, one after the other, in a drawn region -/
structure E2K (C : Nat) (cs1 cs2 : Array Value) (W : World) (us : List Value) (w' : World) : Prop where
 only : Only 64 W w'
 nil : us = [] → Ext W w'
 one : ∀ u, us = [u] → ∃ w5, Ext W w5 ∧ w' = putB w5 C 64 cs1
 two : ∀ u u1, us = [u, u1] → ∃ w5, Ext W w5 ∧ w' = putB w5 C 64 cs2
section
variable {C : Nat} {cs0 cs1 cs2 : Array Value} {W w' : World} {u0 u1 : Value}
theorem E2K.start (W : World) : E2K C cs1 cs2 W [] W.drew := ⟨Only.ext (Ext.refl W).drew, fun _ => (Ext.refl W).drew, fun u h => by simp at h, fun u u1 h => by simp at h⟩
theorem E2K.first (h : E2K C cs1 cs2 W [] w') (hB : Blk W C 64 cs0) : E2K C cs1 cs2 W ([] ++ [u0]) (putB w' C 64 cs1) :=
 ⟨(Only.ext (h.nil rfl)).trans (Only.put (hB.ext (h.nil rfl))), fun h => by simp at h, fun u hu => ⟨w', h.nil rfl, rfl⟩, fun u u1 h => by simp at h⟩
theorem E2K.second (h : E2K C cs1 cs2 W [u0] w') (hB : Blk W C 64 cs0) : E2K C cs1 cs2 W ([u0] ++ [u1]) (putB w' C 64 cs2) := by
 obtain ⟨w5, hx, rfl⟩ := h.one u0 rfl
 refine ⟨h.only.trans (Only.put ((hB.ext hx).put cs1)), fun h => by simp at h, fun u h => by simp at h, fun u v e => ⟨w5, hx, by rw [putB_putB]⟩⟩
end
theorem conCut_len {docs : List RDoc} (h : ∀ d ∈ docs, d.doc.evs.length ≤ 400) (least : Int) (s : ConSt) (c : Cut) : (conCut docs least s c).evs.length ≤ s.evs.length + 400 ∧ (conCut docs least s c).fats.length = s.fats.length := by
 unfold conCut
 cases findRd docs c.reel with
 | none => simp
 | some k =>
  have h1 := conEvs_len c least (evsR docs k) (offR docs k) s
  have h2 : (evsR docs k).length ≤ 400 := by
   unfold evsR
   cases hk : docs[k]? with
   | none => simp
   | some d => exact h d (List.mem_of_getElem? hk)
  exact ⟨Nat.le_trans h1.1 (by omega), h1.2⟩
theorem conCuts_len {docs : List RDoc} (h : ∀ d ∈ docs, d.doc.evs.length ≤ 400) (least : Int) : ∀ (l : List Cut) (s : ConSt), (conCuts docs least l s).evs.length ≤ s.evs.length + l.length * 400 ∧ (conCuts docs least l s).fats.length = s.fats.length
 | [], s => by simp [conCuts]
 | c :: l, s => by
  have h1 := conCut_len h least s c
  have h2 := conCuts_len h least l (conCut docs least s c)
  have e : conCuts docs least (c :: l) s = conCuts docs least l (conCut docs least s c) := rfl
  rw [e, List.length_cons, Nat.succ_mul]
  omega
def Mn1Rel (w wJ : World) (gD : Nat) (uF ur : Value) (e : Edl) (lg : ByteArray) (mR : List Reg) (docs : List RDoc) (least : Int) (cuts : List Cut) (s0 : ConSt) (n : Nat) (i : Value) (wr : World) : Prop :=
 ∃ k : Nat, k ≤ n ∧ i = .int .i64 k ∧ MnSt w wJ gD uF ur e lg mR (fun _ => False) (conCuts docs least (cuts.take k) s0) wr
def Mn2Rel (w wJ : World) (gD : Nat) (uF ur : Value) (e : Edl) (lg : ByteArray) (mR : List Reg) (c : Cut) (least : Int) (off : Nat) (evs : List Ev) (s0 : ConSt) (vC : Value) (gc n : Nat) (i : Value) (wr : World) : Prop :=
 ∃ j : Nat, j ≤ n ∧ i = .int .i64 j ∧ MnSt w wJ gD uF ur e lg mR (fun q => vC.ownBlock = some q) (conEvs c least off (evs.take j) s0) wr ∧ EvsOwn wr wJ.heap.size vC n evs ∧ Blk wr gc 91 c.cells
theorem joinC_ok {e : Edl} (h : edlErr e = 0) : ∀ c ∈ joinC e.cuts, c.pc.Ok := by
 intro c hc
 have h1 := join_ok h
 have h2 := (edlErr_ok h1).2.2.2.2.1
 rw [joinE_ok h] at h2
 exact cut_pc_ok (cutsErr_ok h2 c hc).1 (dayOf_bd _ _)
theorem joinC_few {e : Edl} (h : edlErr e = 0) : (joinC e.cuts).length ≤ 64 := by
 have h1 := joinC_len e.cuts e.cuts.length (Nat.le_refl _)
 rw [List.take_length] at h1
 have := (edlErr_ok h).2.2.2.1
 omega
theorem fats_in {e : Edl} {docs : List RDoc} {z j : Nat} {x : RDoc} {y : Ev} (hx : docs[z]? = some x) (hy : x.doc.evs[j]? = some y) : offR docs z + j < (fatsR e docs).length := by
 have h1 := (List.getElem?_eq_some_iff.1 (keys_at hx hy)).1
 have h2 := congrArg List.length (keys_fats e docs)
 rw [List.length_map] at h2
 omega
theorem modify_two {l : List Fat} {i : Nat} {f g : Fat → Fat} : (l.modify i f).modify i g = l.modify i fun x => g (f x) := by
 apply List.ext_getElem?
 intro j
 rw [List.getElem?_modify, List.getElem?_modify, List.getElem?_modify]
 cases l[j]? with
 | none => rfl
 | some x => by_cases h : i = j <;> simp [h]
theorem modify_note (l : List Fat) (i : Nat) (id : Int) (sh : Bool) : (l.modify i fun f => f.note id sh) = if sh = true then (l.modify i fun f => f.push false id).modify i (fun f => f.push true id) else l.modify i fun f => f.push false id := by
 cases sh with
 | false => simp only [note_push]; rfl
 | true => rw [if_pos rfl, modify_two]; simp only [note_push]; rfl
theorem EvsOwn.row {w : World} {L n : Nat} {v : Value} {l : List Ev} (h : EvsOwn w L v n l) : ∃ xs, w.ownsRow L 64 7 v n xs := h.elim fun _ h => ⟨_, h.1⟩
theorem map_notCells {w : World} {B q : Nat} {l : List RDoc} {T : TypeId} (h : MapS w B l q) (k : Typed w T B) : False := by
 obtain ⟨n, D, ⟨es, cl, h1, -⟩, -⟩ := h
 obtain ⟨cur, h2⟩ := k
 rw [h1] at h2
 cases h2
theorem info_evC : (Tryz.prog.info? 64).map (fun i => (i.zero, i.size, i.bytes)) = some (some (.agg #[.int .i64 0, .int .i64 0, .int .i64 0, .string ⟨#[]⟩, .int .u8 0, .string ⟨#[]⟩, .slice none 0 0]), 7, 88) := by kernel_rfl
theorem EGood.as {w : World} {L : Nat} {x : Ev} {A : Option Addr} {n c : Nat} (h : EGood w L (EH.of x A n c) x) (id : Int) (s : Spn) : EGood w L (EH.of (x.as id s) A n c) (x.as id s) := ⟨rfl, h.2.1, h.2.2.1, h.2.2.2⟩
theorem putB_keep {w : World} {g q : Nat} {T : TypeId} {cs : Array Value} (h : q ≠ g) : (putB w g T cs).heap[q]? = w.heap[q]? := by
 unfold putB
 simp only
 rw [Array.getElem?_setIfInBounds_ne (fun e => h e.symm)]
theorem Blk.awayC {w w1 : World} {g : Nat} {t : TypeId} {cs : Array Value} {row : Option Nat} (h : Blk w g t cs) (hg : w.grownBy w1 row) (hne : ∀ q, row = some q → q ≠ g) : Blk w1 g t cs := (hg.block g h.lt (fun e => hne g e.symm rfl)).trans h
/-- no fate has more parts than there are events -/
def PL (s : ConSt) : Prop := ∀ f ∈ s.fats, f.parts.length ≤ s.evs.length ∧ f.short.length ≤ s.evs.length
theorem PL.step {s : ConSt} (h : PL s) (c : Cut) (least : Int) (i : Nat) (x : Ev) : PL (conStep c least i x s) := by
 unfold conStep
 cases partE c x with
 | none => exact h
 | some p =>
  intro f hf
  obtain ⟨j, hj⟩ := List.getElem?_of_mem hf
  simp only [List.getElem?_modify] at hj
  cases hk : s.fats[j]? with
  | none => rw [hk] at hj; simp at hj
  | some g =>
   have hg := h g (List.mem_of_getElem? hk)
   rw [hk] at hj
   simp only [List.length_append, List.length_singleton]
   by_cases hij : i = j
   · simp [hij] at hj
     subst hj
     unfold Fat.note
     simp only [List.length_append, List.length_singleton]
     refine ⟨by omega, ?_⟩
     split
     · simp; omega
     · omega
   · simp [hij] at hj
     subst hj
     omega
theorem PL.evs {c : Cut} {least : Int} : ∀ {l : List Ev} {i : Nat} {s : ConSt}, PL s → PL (conEvs c least i l s)
 | [], _, _, h => h
 | x :: l, i, s, h => PL.evs (l := l) (i := i + 1) (h.step c least i x)
theorem PL.cuts {docs : List RDoc} {least : Int} : ∀ {l : List Cut} {s : ConSt}, PL s → PL (conCuts docs least l s)
 | [], _, h => h
 | c :: l, s, h => by
  show PL (conCuts docs least l (conCut docs least s c))
  refine PL.cuts ?_
  unfold conCut
  cases findRd docs c.reel with
  | none => exact h
  | some k => exact PL.evs h
theorem PL.start (e : Edl) (docs : List RDoc) : PL ⟨[], fatsR e docs⟩ := fun f hf => by
 obtain ⟨d, -, hf⟩ := List.mem_flatMap.1 hf
 obtain ⟨x, -, rfl⟩ := List.mem_map.1 hf
 simp
theorem info_intC : (Tryz.prog.info? 2).map (fun i => (i.zero, i.size, i.bytes)) = some (some (.int .i64 0), 1, 8) := by kernel_rfl
end Go.Proofs.YtablhmobekmflaaGreatDoor
/-! LngD -/
namespace Go.Proofs.YtablhmobekmflaaGreatDoor
open Go.RowKit
theorem lang_all {docs : List RDoc} {s : ByteArray} (h0 : docs = [] → s = ⟨#[]⟩) (h : ∀ d ∈ docs, d.doc.lang = s) : langD docs = s := by
 cases docs with
 | nil => exact (h0 rfl).symm
 | cons d r =>
  have hd := h d (by simp)
  simp only [langD]
  rw [if_pos]
  · exact hd
  · rw [List.all_eq_true]
    intro x hx
    simp [h x (by simp [hx]), hd]
theorem lang_two {docs : List RDoc} {a b : RDoc} (ha : a ∈ docs) (hb : b ∈ docs) (hne : a.doc.lang ≠ b.doc.lang) : langD docs = ⟨#[]⟩ := by
 cases docs with
 | nil => simp at ha
 | cons d r =>
  simp only [langD]
  rw [if_neg]
  intro h
  rw [List.all_eq_true] at h
  have h2 : ∀ x ∈ d :: r, x.doc.lang = d.doc.lang := fun x hx => by
   rcases List.mem_cons.1 hx with rfl | hx
   · rfl
   · simpa using h x hx
  exact hne ((h2 a ha).trans (h2 b hb).symm)
def LgRel (w : World) (n : Nat) (l : List RDoc) (v i : Value) (wr : World) : Prop :=
 ∃ (k : Nat) (s : ByteArray), k ≤ n ∧ i = .int .i64 k ∧ v = .string s ∧ Ext w wr ∧ (k = 0 → s = ⟨#[]⟩) ∧ ∀ d ∈ l.take k, d.doc.lang = s
set_option maxRecDepth 100000 in
set_option maxHeartbeats 4000000 in
theorem Lang_any (A : Option Addr) (n c : Nat) (l : List RDoc) (w : World) (hl : RDocsAt w A n l) (hn : n ≤ 1000000) :
 Calls Tryz.prog 54 #[.slice A n c] w fun e w' => e = .returned (.string (langD l)) ∧ Ext w w' := by
 have HL := Lib.hid hl
 have HLn := Lib.hid hl.len
 clear hl
 go_enter Tryz.func54, Tryz.ntmps54
 go_wp2_with fail
 go_loopw [3, 8] (fun v i wr => LgRel w n l v i wr) (fun _ i _ => n - (intOf i).toNat)
 case atStart => exact ⟨0, ⟨#[]⟩, Nat.zero_le _, rfl, rfl, Ext.refl _, fun _ => rfl, by simp⟩
 case round =>
  obtain ⟨k, s, hk, rfl, rfl, hx, h0, ha⟩ := hrel
  have HX := Lib.hid hx
  have H0 := Lib.hid h0
  have HA := Lib.hid ha
  clear hx h0 ha
  by_cases hlt : k < n
  · obtain ⟨b, off, x, h, rfl, hxk, -, -, c0, c1, c2, c3, c4, c5, c6, c7, c8⟩ := (HL.out.ext HX.out).at9 hlt
    obtain ⟨ra, rn, rc, ea, en, ec, ca, cn, cc⟩ := h
    have HK := Lib.hid hxk
    have HXd := Lib.hid (HX.out.alloc (.cells (x.cells ⟨ra, rn, rc, ea, en, ec, ca, cn, cc⟩) 58))
    unfold RDoc.cells at HXd
    dsimp only at HXd
    clear hxk
    by_cases hk0 : 0 < k
    · have g1 : decide ((k : Int) > 0) = true := decide_eq_true (by omega)
      have g1' : decide ((0 : Int) < (k : Int)) = true := decide_eq_true (by omega)
      by_cases hq : x.doc.lang = s
      · have g2 : (x.doc.lang.toList == s.toList) = true := by rw [hq]; simp
        have HA1 : Hid (∀ d ∈ l.take (k + 1), d.doc.lang = s) := fun d hd => by
         rw [take_snoc' _ _ _ HK.out] at hd
         rcases List.mem_append.1 hd with hd | hd
         · exact HA.out d hd
         · simp at hd; subst hd; exact hq
        have HQ := Lib.hid hq
        clear hq
        go_wp2_with fail
        exact ⟨⟨k + 1, s, by omega, by go_num, by rw [HQ.out], HXd.out, fun h => by omega, HA1.out⟩, by simp [intOf]; omega⟩
      · have g2 : (x.doc.lang.toList == s.toList) = false := by rw [bs_eq]; simpa using hq
        have HR : Hid (langD l = ⟨#[]⟩) := by
         show _ = _
         obtain ⟨y, hy⟩ := getElem_ltq (l := l) (p := 0) (by have := HLn.out; omega)
         have hy1 : y ∈ l.take k := List.mem_of_getElem? (i := 0) (by rw [List.getElem?_take, if_pos hk0]; exact hy)
         exact lang_two (List.mem_of_getElem? HK.out) (List.mem_of_getElem? hy) (by rw [HA.out y hy1]; exact hq)
        clear hq
        go_wp2_with fail
        go_ret
        exact ⟨by rw [HR.out]; rfl, HXd.out⟩
    · have hk00 : k = 0 := by omega
      subst hk00
      simp only [Nat.zero_mul, Nat.add_zero] at c0 c1 c2 c3 c4 c5 c6 c7 c8
      have HA1 : Hid (∀ d ∈ l.take 1, d.doc.lang = x.doc.lang) := fun d hd => by
       have h1 := take_snoc' l 0 _ HK.out
       rw [h1] at hd
       simp at hd; subst hd; rfl
      go_wp2_with fail
      exact ⟨⟨1, x.doc.lang, by omega, by go_num, rfl, HXd.out, fun h => by omega, HA1.out⟩, by simp [intOf]; omega⟩
  · have hkn : k = n := by omega
    subst hkn
    have HR : Hid (langD l = s) := lang_all (fun h => H0.out (by have := HLn.out; rw [h] at this; simpa using this.symm)) (fun d hd => HA.out d (by rwa [List.take_of_length_le (by have := HLn.out; omega)]))
    go_wp2_with fail
    go_ret
    exact ⟨by rw [HR.out]; rfl, HX.out⟩
def LrRel (w : World) (n : Nat) (l : List RDoc) (s : ByteArray) (i : Value) (wr : World) : Prop := ∃ k : Nat, k ≤ n ∧ i = .int .i64 k ∧ Ext w wr ∧ ∀ d ∈ l.take k, d.doc.lang = s
def ixD (l : List RDoc) (s : ByteArray) : Int := match findRd l s with | some k => (k : Int) | none => -1
theorem ixD_step {l : List RDoc} {k : Nat} {x : RDoc} {s : ByteArray} (hx : l[k]? = some x) (hp : ∀ y ∈ l.take k, y.reel ≠ s) : (x.reel = s → ixD l s = k) ∧ (x.reel ≠ s → ∀ y ∈ l.take (k + 1), y.reel ≠ s) := by
 obtain ⟨hk, hxk⟩ := List.getElem?_eq_some_iff.1 hx
 refine ⟨fun h => ?_, fun h y hy => ?_⟩
 · have : findRd l s = some k := List.findIdx?_eq_some_iff_getElem.2 ⟨hk, by simp [hxk, h], fun j hj => by
    have := hp l[j] (List.mem_take_iff_getElem.2 ⟨j, by omega, rfl⟩)
    simp [this]⟩
   unfold ixD
   rw [this]
 · rw [take_snoc' _ _ _ hx] at hy
   rcases List.mem_append.1 hy with hy | hy
   · exact hp y hy
   · simp at hy; subst hy; exact h
theorem ixD_none {l : List RDoc} {s : ByteArray} (hp : ∀ y ∈ l, y.reel ≠ s) : ixD l s = -1 := by
 unfold ixD findRd
 rw [List.findIdx?_eq_none_iff.2 (fun y hy => by simpa using hp y hy)]
def PlRel (w : World) (n : Nat) (l : List RDoc) (s : ByteArray) (i : Value) (wr : World) : Prop := ∃ k : Nat, k ≤ n ∧ i = .int .i64 k ∧ Ext w wr ∧ ∀ y ∈ l.take k, y.reel ≠ s
set_option maxHeartbeats 1000000 in
theorem Conform1_any (x : RDoc) (h : DocH) (g : Nat) (c : Cut) (w : World) (hB : Blk w g 91 c.cells) :
 Calls Tryz.prog 57 #[.agg (x.cells h), .pointer (some ⟨g, 0, none⟩)] w fun e w' => e = .returned (.bool (x.reel.toList == c.reel.toList)) ∧ Ext w w' := by
 have HX := Lib.hid ((Ext.refl w).alloc (.cells (x.cells h) 58))
 have hg : ∀ o, (w.alloc o).cell? ⟨g, 1, none⟩ = some (.string c.reel) := fun o => (hB.alloc o).cell 1
 have hlt := hB.lt
 clear hB
 unfold RDoc.cells at *
 go_enter Tryz.func57, Tryz.ntmps57
 go_wp2_with fail
 go_ret
 exact ⟨rfl, HX.out⟩
set_option maxRecDepth 100000 in
set_option maxHeartbeats 4000000 in
theorem IndexDoc_any (A : Option Addr) (n cp : Nat) (l : List RDoc) (g : Nat) (c : Cut) (w : World) (hl : RDocsAt w A n l) (hn : n ≤ 1000000) (hB : Blk w g 91 c.cells) :
 Calls Tryz.prog 56 #[.slice A n cp, .func (.func 57) #[] #[.pointer (some ⟨g, 0, none⟩)]] w fun e w' => e = .returned (.int .i64 (ixD l c.reel)) ∧ Ext w w' := by
 have HL := Lib.hid hl
 have HLn := Lib.hid hl.len
 have HBg := Lib.hid hB
 clear hl hB
 go_enter Tryz.func56, Tryz.ntmps56
 go_wp2_with fail
 go_loopw [8] (fun i wr => PlRel w n l c.reel i wr) (fun i _ => n - (intOf i).toNat)
 case atStart => exact ⟨0, Nat.zero_le _, rfl, Ext.refl _, by simp⟩
 case round =>
  obtain ⟨k, hk, rfl, hx, hp⟩ := hrel
  have HX := Lib.hid hx
  have HP := Lib.hid hp
  clear hx hp
  by_cases hlt : k < n
  · obtain ⟨b, off, x, h, rfl, hxk, -, -, c0, c1, c2, c3, c4, c5, c6, c7, c8⟩ := (HL.out.ext HX.out).at9 hlt
    have HS := Lib.hid (ixD_step hxk HP.out)
    have HCl := Lib.hid (Conform1_any x h g c wr (HBg.out.ext HX.out))
    obtain ⟨ra, rn, rc, ea, en, ec, ca, cn, cc⟩ := h
    unfold RDoc.cells at HCl
    dsimp only at HCl
    clear hxk
    by_cases hq : x.reel = c.reel
    · have g2 : (x.reel.toList == c.reel.toList) = true := by rw [hq]; simp
      have HT := Lib.hid (HS.out.1 hq)
      rw [g2] at HCl
      clear hq g2
      go_wp2_with fail
      refine HCl.out.mono ?_
      rintro en' w2 ⟨rfl, hx2⟩
      go_wp2_with fail
      go_ret
      exact ⟨ret_int HT.out.symm, HX.out.trans hx2⟩
    · have g2 : (x.reel.toList == c.reel.toList) = false := by rw [bs_eq]; simpa using hq
      have HT := Lib.hid (HS.out.2 hq)
      rw [g2] at HCl
      clear hq g2
      go_wp2_with fail
      refine HCl.out.mono ?_
      rintro en' w2 ⟨rfl, hx2⟩
      go_wp2_with fail
      exact ⟨⟨k + 1, by omega, by go_num, HX.out.trans hx2, HT.out⟩, by simp [intOf]; omega⟩
  · have hkn : k = n := by omega
    subst hkn
    have HT : Hid (ixD l c.reel = -1) := ixD_none (fun y hy => HP.out y (by rwa [List.take_of_length_le (by have := HLn.out; omega)]))
    go_wp2_with fail
    go_ret
    exact ⟨ret_int HT.out.symm, HX.out⟩
end Go.Proofs.YtablhmobekmflaaGreatDoor