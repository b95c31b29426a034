/- Laid together: Accepted lists of events, plainly (parts of XValP that need no other text of chapter 12). Conforming: the reference's way to note parts is the program's, plainly. Conforming: the parts as a list, the fates by it; plainly. The example of the chapter, plainly. The walk of document.Clone. -/
import Derived.Test.YtablhmobekmflaaGreatDoorCv15
import Derived.Test.YtablhmobekmflaaGreatDoorCv14
import Derived.Sort.Walk0
import Derived.Test.YtablhmobekmflaaGreatDoorCv16
import Derived.Test.YtablhmobekmflaaGreatDoorCv08
import Derived.Test.YtablhmobekmflaaGreatDoorCv10
import Derived.Test.YtablhmobekmflaaGreatDoorCv06
import Derived.Test.YtablhmobekmflaaGreatDoorCv01
set_option linter.unusedVariables false
set_option linter.unusedSimpArgs false
/-! EvV -/
namespace Go.Proofs.YtablhmobekmflaaGreatDoor
open Go.RowKit
theorem less_tr {x y z : Ev} (h : lessB x y = true) (k : lessB y z = true) : lessB x z = true := by
 unfold lessB at *
 simp only [decide_eq_true_eq] at *
 omega
structure EvsV (regs : List Reg) (last : Int) (l : List Ev) : Prop where
 each : ∀ x ∈ l, x.err regs = 0 ∧ x.id ≤ last
 srt : l.Pairwise fun x y => lessB x y = true
 ids : l.Pairwise fun x y => x.id ≠ y.id
theorem findE_none {l : List Ev} {id : Int} (h : findE l id = none) : ∀ e ∈ l, e.id ≠ id := fun e he => by
 have := List.findIdx?_eq_none_iff.1 h e he
 simpa using this
theorem none_findE {l : List Ev} {id : Int} (h : ∀ e ∈ l, e.id ≠ id) : findE l id = none :=
 List.findIdx?_eq_none_iff.2 fun e he => by simpa using h e he
theorem evs_v {regs : List Reg} {last : Int} {l : List Ev} (h : evsLoop regs last [] l = 0) : EvsV regs last l := by
 have hk := evs_ok h
 have hids : ∀ i j (hi : i < l.length) (hj : j < l.length), i < j → l[i].id ≠ l[j].id := fun i j hi hj hij => by
  have := (hk j l[j] (List.getElem?_eq_getElem hj)).2.2.2
  rw [List.nil_append] at this
  exact findE_none this l[i] (List.mem_of_getElem? (i := i) (by rw [List.getElem?_take, if_pos hij]; exact List.getElem?_eq_getElem hi))
 refine ⟨fun x hx => ?_, ?_, List.pairwise_iff_getElem.2 hids⟩
 · obtain ⟨i, hi⟩ := List.getElem?_of_mem hx
   exact ⟨(hk i x hi).1, (hk i x hi).2.1⟩
 · have hs : ∀ j (hj : j + 1 < l.length), lessB l[j] l[j + 1] = true := fun j hj => by
    have h1 := (hk (j + 1) l[j + 1] (List.getElem?_eq_getElem hj)).2.2.1
    rw [List.nil_append, List.getLast?_eq_getElem?, List.length_take, Nat.min_eq_left (by omega), List.getElem?_take, if_pos (by omega), Nat.add_sub_cancel, List.getElem?_eq_getElem (show j < l.length by omega)] at h1
    simpa using h1
   have hd : ∀ d i (hj : i + d + 1 < l.length), lessB (l[i]'(by omega)) l[i + d + 1] = true := by
    intro d
    induction d with
    | zero => intro i hj; exact hs i hj
    | succ d ih => intro i hj; exact less_tr (ih i (by omega)) (hs (i + d + 1) hj)
   refine List.pairwise_iff_getElem.2 fun i j hi hj hij => ?_
   have := hd (j - i - 1) i (by omega)
   have e : i + (j - i - 1) + 1 = j := by omega
   simp only [e] at this
   exact this
theorem v_evs {regs : List Reg} {last : Int} {l : List Ev} (h : EvsV regs last l) : evsLoop regs last [] l = 0 := by
 refine evs_all fun k x hx => ?_
 obtain ⟨hk, hxk⟩ := List.getElem?_eq_some_iff.1 hx
 have hm := h.each x (List.mem_of_getElem? hx)
 unfold evErr
 rw [List.nil_append, if_neg (by simpa using hm.1), if_neg (by omega), if_neg, if_neg]
 · rw [none_findE (fun e he => ?_)]
   · simp
   · obtain ⟨i, hi, he'⟩ := List.mem_take_iff_getElem.1 he
     have := List.pairwise_iff_getElem.1 h.ids i k (by omega) hk (by omega)
     rw [he', hxk] at this
     exact this
 · intro hc
   cases k with
   | zero => simp at hc
   | succ j =>
    rw [List.getLast?_eq_getElem?, List.length_take, Nat.min_eq_left (by omega), List.getElem?_take, if_pos (by omega), Nat.add_sub_cancel, List.getElem?_eq_getElem (show j < l.length by omega)] at hc
    have := List.pairwise_iff_getElem.1 h.srt j (j + 1) (by omega) hk (by omega)
    rw [hxk] at this
    simp [this] at hc
end Go.Proofs.YtablhmobekmflaaGreatDoor
/-! ConQ -/
namespace Go.Proofs.YtablhmobekmflaaGreatDoor
open Go.RowKit
/-- every fate of a reel and a number is noted -/
def noteAll (r : ByteArray) (id : Int) (pid : Int) (sh : Bool) (l : List Fat) : List Fat := l.map fun f => if f.reel = r ∧ f.id = id then f.note pid sh else f
def refCStep (c : Cut) (least : Int) (x : Ev) (s : ConSt) : ConSt :=
 match partE c x with
 | none => s
 | some p => ⟨s.evs ++ [x.as ((s.evs.length : Int) + 1) p], noteAll c.reel x.id ((s.evs.length : Int) + 1) (decide (p.out - p.inn < least)) s.fats⟩
def refEvs (c : Cut) (least : Int) (l : List Ev) (s : ConSt) : ConSt := l.foldl (fun s x => refCStep c least x s) s
def refCut (docs : List RDoc) (least : Int) (s : ConSt) (c : Cut) : ConSt :=
 match findRd docs c.reel with
 | none => s
 | some k => refEvs c least (evsR docs k) s
def refCuts (docs : List RDoc) (least : Int) (l : List Cut) (s : ConSt) : ConSt := l.foldl (refCut docs least) s
def Fat.key (f : Fat) : ByteArray × Int := (f.reel, f.id)
/-- the fates of a document lie where they are looked for -/
def keysR (docs : List RDoc) : List (ByteArray × Int) := docs.flatMap fun d => d.doc.evs.map fun x => (d.reel, x.id)
theorem keys_fats (e : Edl) (docs : List RDoc) : (fatsR e docs).map Fat.key = keysR docs := by
 unfold fatsR keysR
 rw [List.map_flatMap]
 congr 1
 funext d
 unfold fatsD
 rw [List.map_map]
 rfl
theorem keys_at : ∀ {docs : List RDoc} {k j : Nat} {d : RDoc} {x : Ev}, docs[k]? = some d → d.doc.evs[j]? = some x → (keysR docs)[offR docs k + j]? = some (d.reel, x.id)
 | [], k, j, d, x, h, _ => by simp at h
 | y :: docs, 0, j, d, x, h, hx => by
  simp at h; subst h
  have hj := (List.getElem?_eq_some_iff.1 hx).1
  unfold keysR offR
  rw [List.flatMap_cons, List.take_zero, List.map_nil, List.sum_nil, Nat.zero_add, List.getElem?_append_left (by simpa using hj), List.getElem?_map, hx]
  rfl
 | y :: docs, k + 1, j, d, x, h, hx => by
  rw [List.getElem?_cons_succ] at h
  have ih := keys_at h hx
  have ho : offR (y :: docs) (k + 1) = y.doc.evs.length + offR docs k := by unfold offR; simp
  have hk : keysR (y :: docs) = (y.doc.evs.map fun x => (y.reel, x.id)) ++ keysR docs := by unfold keysR; rw [List.flatMap_cons]
  rw [hk, ho, Nat.add_assoc, List.getElem?_append_right (by simp), List.length_map, Nat.add_sub_cancel_left]
  exact ih
theorem findRd_at {docs : List RDoc} {s : ByteArray} {k : Nat} (h : findRd docs s = some k) : ∃ d, docs[k]? = some d ∧ d.reel = s := by
 obtain ⟨hk, h1, -⟩ := List.findIdx?_eq_some_iff_getElem.1 h
 exact ⟨docs[k], List.getElem?_eq_getElem hk, by simpa using h1⟩
/-- accepted documents have different reels -/
theorem rd_reels {rate : Int} {drop : Bool} : ∀ {l : List RDoc} {p : Option ByteArray}, rdLoop rate drop p l = 0 → (∀ q, p = some q → ∀ d ∈ l, q.toList < d.reel.toList) ∧ l.Pairwise fun a b => a.reel.toList < b.reel.toList
 | [], p, _ => ⟨fun _ _ d hd => by simp at hd, List.Pairwise.nil⟩
 | x :: l, p, h => by
  unfold rdLoop at h
  split at h
  · rename_i h1; exact absurd h h1
  · rename_i h1
    have h1 : rdNext rate drop p x = 0 := by simpa using h1
    obtain ⟨k1, k2⟩ := rd_reels h
    have hlt : ∀ q, p = some q → q.toList < x.reel.toList := fun q hq => by
     subst hq
     unfold rdNext at h1
     split at h1
     · omega
     · split at h1
       · omega
       · rename_i h3
         simp only [Option.map_some, Option.some.injEq, Bool.or_eq_true, beq_iff_eq, not_or, Bool.not_eq_true] at h3
         obtain ⟨h4, h5⟩ := h3
         rw [Go.Proofs.bytesLess_eq] at h4
         have h6 : ¬ x.reel.toList < q.toList := by simpa using h4
         exact Bs.lt_of_le_of_ne (List.not_lt.1 h6) (fun e => h5 e.symm)
    refine ⟨fun q hq d hd => ?_, List.pairwise_cons.2 ⟨fun d hd => k1 x.reel rfl d hd, k2⟩⟩
    rcases List.mem_cons.1 hd with rfl | hd
    · exact hlt q hq
    · exact Bs.lt_trans (hlt q hq) (k1 x.reel rfl d hd)
end Go.Proofs.YtablhmobekmflaaGreatDoor
/-! ConE -/
namespace Go.Proofs.YtablhmobekmflaaGreatDoor
open Go.RowKit
/-- a part: the place of its fate, its cut, its event, its frames -/
structure Ent where
 i : Nat
 c : Cut
 x : Ev
 p : Spn
def entAt (c : Cut) (i : Nat) (x : Ev) : List Ent := match partE c x with | none => [] | some p => [⟨i, c, x, p⟩]
def entEvs (c : Cut) : Nat → List Ev → List Ent
 | _, [] => []
 | i, x :: l => entAt c i x ++ entEvs c (i + 1) l
def entC (docs : List RDoc) (c : Cut) : List Ent := match findRd docs c.reel with | none => [] | some k => entEvs c (offR docs k) (evsR docs k)
def ents (docs : List RDoc) (l : List Cut) : List Ent := l.flatMap (entC docs)
def addE (least : Int) (s : ConSt) (t : Ent) : ConSt := ⟨s.evs ++ [t.x.as ((s.evs.length : Int) + 1) t.p], s.fats.modify t.i fun f => f.note ((s.evs.length : Int) + 1) (decide (t.p.out - t.p.inn < least))⟩
theorem conStep_add (c : Cut) (least : Int) (i : Nat) (x : Ev) (s : ConSt) : conStep c least i x s = (entAt c i x).foldl (addE least) s := by
 unfold conStep entAt
 cases partE c x <;> rfl
theorem conEvs_add (c : Cut) (least : Int) : ∀ (l : List Ev) (i : Nat) (s : ConSt), conEvs c least i l s = (entEvs c i l).foldl (addE least) s
 | [], _, _ => rfl
 | x :: l, i, s => by
  simp only [conEvs, entEvs, List.foldl_append]
  rw [← conStep_add]
  exact conEvs_add c least l (i + 1) _
theorem conCuts_add (docs : List RDoc) (least : Int) : ∀ (l : List Cut) (s : ConSt), conCuts docs least l s = (ents docs l).foldl (addE least) s
 | [], _ => rfl
 | c :: l, s => by
  have h : conCut docs least s c = (entC docs c).foldl (addE least) s := by
   unfold conCut entC
   cases findRd docs c.reel with
   | none => rfl
   | some k => exact conEvs_add _ _ _ _ _
  show conCuts docs least l (conCut docs least s c) = _
  rw [h, conCuts_add docs least l]
  unfold ents
  rw [List.flatMap_cons, List.foldl_append]
def evsOf (l : List Ent) : List Ev := l.mapIdx fun j t => t.x.as ((j : Int) + 1) t.p
/-- the numbers of the parts of a kind -/
def idsW (q : Ent → Bool) (l : List Ent) : List Int := (l.zipIdx.filter fun u => q u.1).map fun u => (u.2 : Int) + 1
def atI (i : Nat) (t : Ent) : Bool := decide (t.i = i)
def shI (least : Int) (t : Ent) : Bool := decide (t.p.out - t.p.inn < least)
def fatOf (least : Int) (l : List Ent) (i : Nat) (f : Fat) : Fat := ⟨f.reel, f.id, idsW (atI i) l, f.lost, idsW (fun t => atI i t && shI least t) l⟩
theorem evsOf_snoc (l : List Ent) (t : Ent) : evsOf (l ++ [t]) = evsOf l ++ [t.x.as ((l.length : Int) + 1) t.p] := by simp [evsOf, List.mapIdx_append]
theorem evsOf_len (l : List Ent) : (evsOf l).length = l.length := by simp [evsOf]
theorem idsW_snoc (q : Ent → Bool) (l : List Ent) (t : Ent) : idsW q (l ++ [t]) = idsW q l ++ if q t = true then [(l.length : Int) + 1] else [] := by
 unfold idsW
 rw [List.zipIdx_append, List.filter_append, List.map_append]
 simp only [List.zipIdx_cons, List.zipIdx_nil, Nat.zero_add, List.filter_cons, List.filter_nil]
 split <;> simp
theorem snoc_ind {α : Type} {P : List α → Prop} (h0 : P []) (h1 : ∀ l x, P l → P (l ++ [x])) (l : List α) : P l := by
 have : ∀ n, P (l.take n) := by
  intro n
  induction n with
  | zero => simpa using h0
  | succ n ih =>
   by_cases hn : n < l.length
   · rw [take_snoc' l n l[n] (List.getElem?_eq_getElem hn)]; exact h1 _ _ ih
   · rw [List.take_of_length_le (by omega)]; rw [List.take_of_length_le (by omega)] at ih; exact ih
 simpa using this l.length
theorem con_shape (least : Int) (F : List Fat) (hF : ∀ f ∈ F, f.parts = [] ∧ f.short = []) (l : List Ent) : l.foldl (addE least) ⟨[], F⟩ = ⟨evsOf l, F.mapIdx (fatOf least l)⟩ := by
 refine snoc_ind (P := fun l => l.foldl (addE least) ⟨[], F⟩ = ⟨evsOf l, F.mapIdx (fatOf least l)⟩) ?_ (fun l t ih => ?_) l
 · simp only [List.foldl_nil]
   congr 1
   apply List.ext_getElem?
   intro j
   rw [List.getElem?_mapIdx]
   cases hj : F[j]? with
   | none => rfl
   | some f =>
    obtain ⟨h1, h2⟩ := hF f (List.mem_of_getElem? hj)
    obtain ⟨r, i, p, k, s⟩ := f
    simp only at h1 h2
    subst h1 h2
    rfl
 · rw [List.foldl_append, ih]
   simp only [List.foldl_cons, List.foldl_nil, addE, evsOf_len]
   rw [evsOf_snoc]
   congr 1
   apply List.ext_getElem?
   intro j
   rw [List.getElem?_modify, List.getElem?_mapIdx, List.getElem?_mapIdx]
   cases hj : F[j]? with
   | none => simp
   | some f =>
    simp only [Option.map_some]
    by_cases h : t.i = j
    · subst h
      simp only [if_true, fatOf, Fat.note, idsW_snoc, Option.some.injEq]
      cases hs : shI least t <;> simp [atI, shI] at hs ⊢ <;> simp [hs, atI, shI]
    · simp only [h, if_false, fatOf, idsW_snoc]
      simp [atI, h]
theorem fats_blank (e : Edl) (docs : List RDoc) : ∀ f ∈ fatsR e docs, f.parts = [] ∧ f.short = [] := by
 intro f hf
 obtain ⟨d, _, hf⟩ := List.mem_flatMap.1 hf
 obtain ⟨x, _, rfl⟩ := List.mem_map.1 hf
 exact ⟨rfl, rfl⟩
theorem conSt_shape (docs : List RDoc) (e : Edl) (least : Int) : conSt docs e least = ⟨evsOf (ents docs (joinC e.cuts)), (fatsR e docs).mapIdx (fatOf least (ents docs (joinC e.cuts)))⟩ := by
 unfold conSt
 rw [conCuts_add]
 exact con_shape least _ (fats_blank e docs) _
theorem quo_ceil {a b m : Int} (hb : 1 ≤ b) (ha : 0 ≤ a) : quoI a b 3 ≤ m ↔ a ≤ m * b := by
 have h1 : b * (a / b) + a % b = a := Int.mul_ediv_add_emod a b
 have h2 : 0 ≤ a % b := Int.emod_nonneg _ (by omega)
 have h3 : a % b < b := Int.emod_lt_of_pos _ (by omega)
 have h0 : quoI a b 3 = if a % b = 0 then a / b else a / b + 1 := by
  unfold quoI awayB
  by_cases h : a % b = 0
  · rw [if_pos h]; simp [h]
  · rw [if_neg h]; simp [h]
 rw [h0]
 generalize a / b = q at *
 generalize a % b = r at *
 constructor
 · intro h
   split at h
   · have := Int.mul_le_mul_of_nonneg_right h (show 0 ≤ b by omega)
     rw [Int.mul_comm q b] at this
     omega
   · have := Int.mul_le_mul_of_nonneg_right h (show 0 ≤ b by omega)
     rw [Int.add_mul, Int.one_mul, Int.mul_comm q b] at this
     omega
 · intro h
   rcases Int.lt_or_le m q with hm | hm
   · have := Int.mul_le_mul_of_nonneg_right (show m + 1 ≤ q by omega) (show 0 ≤ b by omega)
     rw [Int.add_mul, Int.one_mul, Int.mul_comm q b] at this
     omega
   · split
     · exact hm
     · rename_i hr
       rcases Int.lt_or_le q m with hm2 | hm2
       · omega
       · have he : m = q := by omega
         subst he
         rw [Int.mul_comm m b] at h
         omega
theorem reach_iff {p : Pc} (hp : p.Ok) {v t : Int} (h1 : p.inn ≤ t) (h2 : t < p.out) : reachP p v ≤ t ↔ v ≤ toP p t := by
 have hd := hp.d1
 have hn0 := hp.n0
 have hq : 0 ≤ (t - p.inn) * p.n / p.d := Int.ediv_nonneg (Int.mul_nonneg (by omega) hn0) (by omega)
 unfold reachP toP
 split
 · constructor <;> intro _ <;> omega
 · rename_i hv
   split
   · rename_i hn
     rw [hn, Int.mul_zero, Int.zero_ediv]
     constructor <;> intro _ <;> omega
   · rename_i hn
     have hmin : min (p.inn + quoI ((v - p.dst) * p.d) p.n 3) p.out ≤ t ↔ quoI ((v - p.dst) * p.d) p.n 3 ≤ t - p.inn := by omega
     rw [hmin, quo_ceil (by omega) (Int.mul_nonneg (by omega) (by omega))]
     have := Int.le_ediv_iff_mul_le (a := v - p.dst) (b := (t - p.inn) * p.n) (c := p.d) (by omega)
     rw [← this]
     omega
theorem reach_bd {p : Pc} (hp : p.Ok) (v : Int) : p.inn ≤ reachP p v ∧ reachP p v ≤ p.out := by
 have h1 := hp.io
 unfold reachP
 split
 · omega
 · rename_i hv
   split
   · omega
   · rename_i hn
     have := hp.n0
     have := hp.d1
     have hq := (quoI_bd ((v - p.dst) * p.d) p.n 3 (Int.mul_nonneg (by omega) (by omega)) (by omega)).1
     omega
theorem reach_mono {p : Pc} (hp : p.Ok) {u v : Int} (h : u ≤ v) : reachP p u ≤ reachP p v := by
 have h1 := reach_bd hp u
 have h2 := reach_bd hp v
 rcases Int.lt_or_le (reachP p v) p.out with h3 | h3
 · exact (reach_iff hp h2.1 h3).2 (Int.le_trans h ((reach_iff hp h2.1 h3).1 (Int.le_refl _)))
 · omega
theorem part_iff {c : Cut} (hp : c.pc.Ok) {x : Ev} {t : Int} (h1 : c.inn ≤ t) (h2 : t < c.out) : (∃ p, partE c x = some p ∧ p.inn ≤ t ∧ t < p.out) ↔ x.inn ≤ srcAt c t ∧ srcAt c t < x.out := by
 have ha := reach_iff hp (v := x.inn) (t := t) h1 h2
 have hb := reach_iff hp (v := x.out) (t := t) h1 h2
 have he : toP c.pc t = srcAt c t := rfl
 rw [he] at ha hb
 unfold partE
 constructor
 · rintro ⟨p, hpp, h3, h4⟩
   split at hpp
   · cases hpp
     simp only at h3 h4
     omega
   · cases hpp
 · intro h
   refine ⟨⟨reachP c.pc x.inn, reachP c.pc x.out⟩, ?_, ?_, ?_⟩
   · rw [if_pos (by omega)]
   · simp only; omega
   · simp only; omega
theorem part_bd {c : Cut} (hp : c.pc.Ok) {x : Ev} {p : Spn} (h : partE c x = some p) : c.inn ≤ p.inn ∧ p.inn < p.out ∧ p.out ≤ c.out := by
 unfold partE at h
 split at h
 · cases h
   have h1 := reach_bd hp x.inn
   have h2 := reach_bd hp x.out
   exact ⟨h1.1, by assumption, h2.2⟩
 · cases h
end Go.Proofs.YtablhmobekmflaaGreatDoor
/-! AwkP -/
namespace Go.Proofs.YtablhmobekmflaaGreatDoor
open Go.RowKit
def xRun : Run := ⟨⟨#[72, 105]⟩, 0, false, false, ⟨#[]⟩⟩
def xE1 : Ev := ⟨1, 10, 30, ⟨#[]⟩, 1, ⟨#[]⟩, [[xRun]]⟩
def xE2 : Ev := ⟨2, 40, 50, ⟨#[]⟩, 1, ⟨#[]⟩, [[xRun]]⟩
def xDoc : Doc := ⟨⟨#[]⟩, ⟨#[]⟩, 3, false, 2, [], [xE1, xE2], []⟩
def xDocs : List RDoc := [⟨⟨#[65]⟩, xDoc⟩]
def xC1 : Cut := ⟨1, ⟨#[65]⟩, 0, 0, 20, 1, 1⟩
def xC2 : Cut := ⟨2, ⟨#[65]⟩, 25, 20, 30, 1, 1⟩
def xEdl : Edl := ⟨⟨#[]⟩, 3, false, [xC1, xC2]⟩
def xF1 : Fat := ⟨⟨#[65]⟩, 1, [1, 2], 5, [2]⟩
def xF2 : Fat := ⟨⟨#[65]⟩, 2, [], 10, []⟩
def xOut : Doc := ⟨⟨#[]⟩, ⟨#[]⟩, 3, false, 2, [], [xE1.as 1 ⟨10, 20⟩, xE1.as 2 ⟨20, 25⟩], []⟩
theorem xRd : rdLoop 3 false none xDocs = 0 := by kernel_rfl
theorem xVld : vld xEdl.title = true := by kernel_rfl
theorem xRok : rateOkB xEdl.rate xEdl.drop = true := by kernel_rfl
theorem xCuts : cutsErr (dayOf xEdl.rate xEdl.drop) 0 0 xEdl.cuts = 0 := by kernel_rfl
theorem cnt_le (ss : List Bs) : cnt ss ≤ ss.length := by
 unfold cnt
 rw [← len_srt ss]
 generalize srt ss = zs
 have h : ∀ m, (Lib.compactUpTo zs.toArray m).length ≤ m := by
  intro m
  induction m with
  | zero => simp [Lib.compactUpTo]
  | succ m ih =>
   rw [Lib.compactUpTo_succ, List.length_append]
   split <;> simp <;> omega
 unfold Lib.compact
 exact Nat.le_trans (h _) (by simp)
theorem xCnt : ¬ 16 < cnt xEdl.names := by
 have h := cnt_le xEdl.names
 have : xEdl.names.length = 2 := rfl
 omega
theorem xEdl_err : edlErr xEdl = 0 := edl_ok xVld (by decide) xRok (by decide) xCuts xCnt
theorem xText : textF [xF1, xF2] = [65, 32, 49, 32, 83, 80, 76, 73, 84, 32, 50, 32, 53, 32, 49, 10, 65, 32, 50, 32, 68, 82, 79, 80, 80, 69, 68, 32, 48, 32, 49, 48, 32, 48, 10] := by kernel_rfl
theorem xOrig : orig [xF1, xF2] 2 = (⟨#[65]⟩, 1, true) := by kernel_rfl
theorem xPlJ : joinS (plC xEdl.cuts ⟨#[65]⟩) = [⟨0, 20⟩, ⟨25, 35⟩] := by kernel_rfl
theorem xPl : plE xEdl ⟨#[65]⟩ = [⟨0, 20⟩, ⟨25, 35⟩] := by unfold plE; rw [if_pos xEdl_err, xPlJ]
theorem xJoin : joinC xEdl.cuts = [xC1, xC2] := by kernel_rfl
theorem xErr : conErr xDocs xEdl = 0 := by
 unfold conErr
 rw [if_neg (by simp [xEdl_err]), if_neg (by decide), if_neg (by rw [show xEdl.rate = 3 from rfl, show xEdl.drop = false from rfl, xRd]; decide)]
 kernel_rfl
theorem xLost1 : lostS ⟨10, 30⟩ [⟨0, 20⟩, ⟨25, 35⟩] = 5 := by kernel_rfl
theorem xLost2 : lostS ⟨40, 50⟩ [⟨0, 20⟩, ⟨25, 35⟩] = 10 := by kernel_rfl
theorem xFats : fatsR xEdl xDocs = [⟨⟨#[65]⟩, 1, [], 5, []⟩, ⟨⟨#[65]⟩, 2, [], 10, []⟩] := by
 show [Fat.mk ⟨#[65]⟩ 1 [] (lostS ⟨10, 30⟩ (plE xEdl ⟨#[65]⟩)) [], Fat.mk ⟨#[65]⟩ 2 [] (lostS ⟨40, 50⟩ (plE xEdl ⟨#[65]⟩)) []] = _
 rw [xPl, xLost1, xLost2]
theorem xSt0 : conCuts xDocs 6 [xC1, xC2] ⟨[], [⟨⟨#[65]⟩, 1, [], 5, []⟩, ⟨⟨#[65]⟩, 2, [], 10, []⟩]⟩ = ⟨[xE1.as 1 ⟨10, 20⟩, xE1.as 2 ⟨20, 25⟩], [xF1, xF2]⟩ := by kernel_rfl
theorem xSt : conSt xDocs xEdl 6 = ⟨[xE1.as 1 ⟨10, 20⟩, xE1.as 2 ⟨20, 25⟩], [xF1, xF2]⟩ := by unfold conSt; rw [xJoin, xFats, xSt0]
theorem xE : conE xDocs xEdl 6 = 0 := by
 unfold conE
 rw [if_neg (by simp [xErr]), if_neg (by decide), xSt]
 rfl
theorem xConDoc : conDoc xDocs xEdl 6 = xOut := by
 unfold conDoc
 rw [if_pos xE, xSt]
 rfl
theorem xConFats : conFats xDocs xEdl 6 = [xF1, xF2] := by unfold conFats; rw [if_pos xE, xSt]
theorem xFit : RDocsFit xDocs := by
 refine ⟨fun d hd => ?_, fun d hd => ?_⟩
 · simp [xDocs] at hd; subst hd; decide
 · simp [xDocs] at hd
   subst hd
   have hev : ∀ e ∈ xDoc.evs, e = xE1 ∨ e = xE2 := fun e he => by simpa [xDoc] using he
   have hrow : ∀ r ∈ [[xRun]], RowSmall r := fun r hr => by
    simp at hr; subst hr
    refine ⟨by decide, fun x hx => ?_⟩
    simp at hx; subst hx
    exact ⟨by decide, by decide⟩
   refine ⟨⟨by decide, by decide, by decide, by decide⟩, (fun r hr => by cases hr), (fun e he => ?_), (fun e he => ?_), (fun c hc => by cases hc)⟩
   · rcases hev e he with rfl | rfl
     · exact ⟨⟨by decide, by decide, hrow⟩, by decide⟩
     · exact ⟨⟨by decide, by decide, hrow⟩, by decide⟩
   · rcases hev e he with rfl | rfl
     · exact ⟨by decide, by decide⟩
     · exact ⟨by decide, by decide⟩
theorem xEdlOk : EdlOk xEdl := ⟨by decide, by decide, by decide, fun c hc => by
 have : c = xC1 ∨ c = xC2 := by simpa [xEdl] using hc
 rcases this with rfl | rfl
 · exact ⟨⟨by decide, by decide⟩, ⟨by decide, by decide⟩, ⟨by decide, by decide⟩, ⟨by decide, by decide⟩, ⟨by decide, by decide⟩, ⟨by decide, by decide⟩, by decide⟩
 · exact ⟨⟨by decide, by decide⟩, ⟨by decide, by decide⟩, ⟨by decide, by decide⟩, ⟨by decide, by decide⟩, ⟨by decide, by decide⟩, ⟨by decide, by decide⟩, by decide⟩⟩
theorem xTx : FatsTx [xF1, xF2] := by
 refine ⟨fun f hf => ?_, fun f hf => ?_, ⟨fun f hf => ?_, fun f hf => ?_⟩, by rw [xText]; decide⟩
 all_goals
  have : f = xF1 ∨ f = xF2 := by simpa using hf
  rcases this with rfl | rfl <;> decide
end Go.Proofs.YtablhmobekmflaaGreatDoor
/-! DocCl -/
namespace Go.Proofs.YtablhmobekmflaaGreatDoor
open Go.RowKit
/-- a document's cells, its three slices given -/
def Doc.cells3 (d : Doc) (r e c : Value) : Array Value := #[.string d.title, .string d.lang, .int .u8 d.rate, .bool d.drop, .int .i64 d.last, r, e, c]
def docZero : Array Value := #[.string ⟨#[]⟩, .string ⟨#[]⟩, .int .u8 0, .bool false, .int .i64 0, .slice none 0 0, .slice none 0 0, .slice none 0 0]
def clCells (d : Doc) (h : DocH) : List Value → Array Value
 | [u0, _, _] => d.cells3 u0 (.slice h.ea h.en h.ec) (.slice h.ca h.cn h.cc)
 | [u0, u1, _, _] => d.cells3 u0 (.slice h.ea h.en h.ec) u1
 | _ => d.cells h
structure ClJ (d : Doc) (h : DocH) (w W0 : World) (us : List Value) (w' : World) : Prop where
 ext : Ext w w'
 blk : Blk w' w.heap.size 52 (clCells d h us)
 zero : Blk w' (w.heap.size + 1) 52 docZero
 regs : ∀ u, us[0]? = some u → ∃ A c, u = .slice A h.rn c ∧ w'.ownsRow w.heap.size 105 7 u h.rn (d.regs.flatMap Reg.vals)
 coms : ∀ u, us[1]? = some u → ∃ A c, u = .slice A h.cn c ∧ w'.ownsRow w.heap.size 152 8 u h.cn (d.coms.flatMap Com.vals)
theorem clCells_2 (d : Doc) (h : DocH) (u0 u1 : Value) : clCells d h [u0, u1] = d.cells h := rfl
theorem ClJ.call0 {d : Doc} {h : DocH} {w W0 w' w2 : World} (j : ClJ d h w W0 [] w') {A : Option Addr} {c : Nat} (hx : Ext w' w2) (ho : w2.ownsRow w'.heap.size 105 7 (.slice A h.rn c) h.rn (d.regs.flatMap Reg.vals)) : ClJ d h w W0 ([] ++ [.slice A h.rn c]) w2 :=
 ⟨j.ext.trans hx, j.blk.ext hx, j.zero.ext hx, fun u hu => by simp at hu; subst hu; exact ⟨A, c, rfl, own_le ho j.ext.size⟩, fun u hu => by simp at hu⟩
theorem ClJ.call1 {d : Doc} {h : DocH} {w W0 w' w2 : World} {u0 : Value} (j : ClJ d h w W0 [u0] w') {A : Option Addr} {c : Nat} (hx : Ext w' w2) (ho : w2.ownsRow w'.heap.size 152 8 (.slice A h.cn c) h.cn (d.coms.flatMap Com.vals)) : ClJ d h w W0 ([u0] ++ [.slice A h.cn c]) w2 :=
 ⟨j.ext.trans hx, j.blk.ext hx, j.zero.ext hx, fun u hu => by obtain ⟨A', c', h1, h2⟩ := j.regs u (by simpa using hu); exact ⟨A', c', h1, own_ext h2 hx⟩, fun u hu => by simp at hu; subst hu; exact ⟨A, c, rfl, own_le ho j.ext.size⟩⟩
theorem ClJ.put {d : Doc} {h : DocH} {w W0 w' : World} {us : List Value} (j : ClJ d h w W0 us w') (v : Value) (hv : us.length = 2 ∨ us.length = 3) : ClJ d h w W0 (us ++ [v]) (putB w' w.heap.size 52 (clCells d h (us ++ [v]))) := by
 refine ⟨j.ext.put (Nat.le_refl _) _ _, j.blk.put _, j.zero.put_other (by omega) _, fun u hu => ?_, fun u hu => ?_⟩
 · obtain ⟨A', c', h1, h2⟩ := j.regs u (by rw [← hu, List.getElem?_append_left (by omega)])
   exact ⟨A', c', h1, own_kb h2 (KB.put j.blk (by decide))⟩
 · obtain ⟨A', c', h1, h2⟩ := j.coms u (by rw [← hu, List.getElem?_append_left (by omega)])
   exact ⟨A', c', h1, own_kb h2 (KB.put j.blk (by decide))⟩
/-- one event is copied -/
structure CeJ (e : Ev) (g k n' : Nat) (w4 : World) (us : List Value) (w' : World) : Prop where
 nil : us = [] → Ext w4 w'
 one : ∀ u0, us = [u0] → ∃ A2 c2, u0 = .agg (e.cells A2 n' c2) ∧ n' ≤ c2 ∧ RowsFresh w' w4.heap.size A2 n' e.rows ∧ Ext w4 w'
 two : ∀ u0 u1, us = [u0, u1] → ∃ A2 c2 w5, u0 = .agg (e.cells A2 n' c2) ∧ n' ≤ c2 ∧ RowsFresh w5 w4.heap.size A2 n' e.rows ∧ Ext w4 w5 ∧ w' = w5.setCells g (k * 7) (e.cells A2 n' c2).toList
structure DClRel (d : Doc) (h : DocH) (w : World) (v0 : Value) (v1 : Value) (ea : Option Addr) (ec : Nat) (i : Value) (wr : World) : Prop where
 ext : Ext w wr
 blk : Blk wr w.heap.size 52 (d.cells3 v0 (.slice ea h.en ec) v1)
 zero : Blk wr (w.heap.size + 1) 52 docZero
 regs : wr.ownsRow w.heap.size 105 7 v0 h.rn (d.regs.flatMap Reg.vals)
 coms : wr.ownsRow w.heap.size 152 8 v1 h.cn (d.coms.flatMap Com.vals)
 more : ∃ (k : Nat) (hs : List EH), k ≤ h.en ∧ i = .int .i64 k ∧ hs.length = h.en ∧ wr.ownsRow w.heap.size 64 7 (.slice ea h.en ec) h.en (hs.flatMap EH.vals) ∧
  ∀ (j : Nat) (x : EH) (e : Ev), hs[j]? = some x → d.evs[j]? = some e → (j < k → EGood wr w.heap.size x e) ∧ (k ≤ j → ∃ A n c, x = EH.of e A n c ∧ EvAt w e A n c)
theorem DClRel.step {d : Doc} {h : DocH} {w wr w4 w5 : World} {v0 v1 : Value} {g ec k n' c2 : Nat} {A2 : Option Addr} {hs : List EH} {e : Ev} (hgw : w.heap.size ≤ g) (h1 : Ext w wr) (h2 : Blk wr w.heap.size 52 (d.cells3 v0 (.slice (some ⟨g, 0, none⟩) h.en ec) v1))
 (h3 : Blk wr (w.heap.size + 1) 52 docZero) (h4 : wr.ownsRow w.heap.size 105 7 v0 h.rn (d.regs.flatMap Reg.vals)) (h5 : wr.ownsRow w.heap.size 152 8 v1 h.cn (d.coms.flatMap Com.vals))
 (hk : k < h.en) (hl : hs.length = h.en) (h6 : wr.ownsRow w.heap.size 64 7 (.slice (some ⟨g, 0, none⟩) h.en ec) h.en (hs.flatMap EH.vals))
 (h7 : ∀ (j : Nat) (x : EH) (e : Ev), hs[j]? = some x → d.evs[j]? = some e → (j < k → EGood wr w.heap.size x e) ∧ (k ≤ j → ∃ A n c, x = EH.of e A n c ∧ EvAt w e A n c))
 (he : d.evs[k]? = some e) (h8 : Ext wr w5) (hw4 : wr.heap.size ≤ w4.heap.size) (hnc : n' ≤ c2) (hn24 : n' * 24 ≤ 140737488355328) (hf : RowsFresh w5 w4.heap.size A2 n' e.rows) :
 DClRel d h w v0 v1 (some ⟨g, 0, none⟩) ec (.int .i64 ((k : Int) + 1)) (w5.setCells g (k * 7) (e.cells A2 n' c2).toList) := by
 have hty : Typed w5 64 g := (own_typed h6 g rfl).ext h8
 have kb : ∀ {T : TypeId}, T ≠ 64 → KB T w5 (w5.setCells g (k * 7) (e.cells A2 n' c2).toList) := fun hne => KB.sets hne _ _ _ hty
 have hB : ∀ {b : Nat} {cs : Array Value}, Blk wr b 52 cs → Blk (w5.setCells g (k * 7) (e.cells A2 n' c2).toList) b 52 cs := fun hb => kb (by decide) _ _ (hb.ext h8)
 refine ⟨ext_sets hgw _ _ _ (h1.trans h8), hB h2, hB h3, own_kb (own_ext h4 h8) (kb (by decide)), own_kb (own_ext h5 h8) (kb (by decide)), k + 1, hs.set k (EH.of e A2 n' c2), by omega, by simp, by simpa using hl, ?_, fun j x y hx hy => ?_⟩
 · rw [← flat_setMany EH.len hs k (EH.of e A2 n' c2) (by omega)]
   exact own_sets _ _ _ _ (own_ext h6 h8)
 · by_cases hkj : k = j
   · subst hkj
     rw [List.getElem?_set_self (by omega)] at hx
     cases hx
     rw [he] at hy
     cases hy
     exact ⟨fun _ => EGood.kb (w := w5) ⟨rfl, hnc, hn24, hf.le (by have := h1.size; omega)⟩ (kb (by decide)) (kb (by decide)), fun hh => by omega⟩
   · rw [List.getElem?_set_ne hkj] at hx
     obtain ⟨a1, a2⟩ := h7 j x y hx hy
     exact ⟨fun hh => ((a1 (by omega)).ext h8).kb (kb (by decide)) (kb (by decide)), fun hh => a2 (by omega)⟩
/-- what a copy of a document comes to -/
def DClPost (d : Doc) (w : World) (en : Ending) (w' : World) : Prop := ∃ h', en = .returned (.agg (d.cells h')) ∧ DocOwn w' w.heap.size d h' ∧ Ext w w'
theorem EH.cells_at {hs : List EH} {n g c L : Nat} {w : World} (h : w.ownsRow L 64 7 (.slice (some ⟨g, 0, none⟩) n c) n (hs.flatMap EH.vals)) {k : Nat} {x : EH} (hx : hs[k]? = some x) (hk : k < n) {j : Nat} (hj : j < 7) : w.cell? ⟨g, k * 7 + j, none⟩ = x.vals[j]? := by
 rw [h.cellAt (k * 7 + j) (by omega), flatMap_at EH.vals 7 EH.len hs k x j hx hj]
theorem size_docI : (Tryz.prog.info? 52).map (·.size) = some 8 := by kernel_rfl
set_option maxRecDepth 100000 in
set_option maxHeartbeats 4000000 in
theorem DClone_any (d : Doc) (h : DocH) (w : World) (hat : DocAt w d h) (hr : h.rn * 56 ≤ 140737488355328) (hen : h.en * 88 ≤ 140737488355328) (hcn : h.cn * 72 ≤ 140737488355328) :
 Calls Tryz.prog 58 #[.agg (d.cells h)] w (DClPost d w) := by
 have HX := Lib.hid (((Ext.refl w).alloc (.cells (d.cells h) 52)).alloc (.cells docZero 52))
 have HB := Lib.hid ((Blk.new w 52 (d.cells h)).alloc (.cells docZero 52))
 have HZ := Lib.hid (Blk.new' (w := w.alloc (.cells (d.cells h) 52)) (g := w.heap.size + 1) (t := 52) (cs := docZero) (by simp))
 have HAt := Lib.hid hat
 have HRl := Lib.hid hat.regs.len
 have HCl := Lib.hid hat.coms.len
 have HEl := Lib.hid hat.evs.len
 clear hat
 unfold Doc.cells docZero at HX HB HZ
 unfold Doc.cells
 go_enter Tryz.func58, Tryz.ntmps58
 go_wp2_with fail
 refine wp_region_links [some 5, some 6, some 7, some 8, some 9, some 10, some 11, none, some 12, none] [[], [0], [1], [], [3], [4, 2], [0, 1, 2, 3, 4], [6, 2, 5, 0, 1, 2, 3, 4], [0, 1, 2, 3, 4, 5, 6, 7], [8, 5, 7, 0, 1, 2, 3, 4, 5, 6, 7]] [2, 5, 7, 9] [.pointer (some ⟨w.heap.size, 5, none⟩), .slice h.ra h.rn h.rc, undef, .pointer (some ⟨w.heap.size, 7, none⟩), .slice h.ca h.cn h.cc, undef, .pointer (some ⟨w.heap.size, 5, none⟩), undef, .pointer (some ⟨w.heap.size, 7, none⟩), undef] (ClJ d h w w) (by kernel_rfl) (by kernel_rfl) (by kernel_rfl) (by kernel_rfl) (by kernel_rfl) (by kernel_rfl) (by kernel_rfl) (by decide) ?_ ?_ ?_ ?_
 · exact ⟨HX.out.drew, HB.out.drew, HZ.out.drew, fun u hu => by simp at hu, fun u hu => by simp at hu⟩
 · intro i o ho hc a w' us K' hJ hF hlim hk
   match i, ho with
   | 0, ho =>
    simp only [List.getElem?_toArray, List.getElem?_cons_zero, List.getElem?_cons_succ, Option.some.injEq] at ho
    subst ho
    have e1 := hF.old 1 (.pointer (some ⟨w.heap.size, 0, none⟩)) rfl rfl
    simp only [Act.eval] at e1
    clear hF hlim hJ
    go_simp
    exact hk
   | 1, ho =>
    simp only [List.getElem?_toArray, List.getElem?_cons_zero, List.getElem?_cons_succ, Option.some.injEq] at ho
    subst ho
    have e5 := hF.pure 0 5 (.pointer (some ⟨w.heap.size, 5, none⟩)) rfl rfl rfl rfl
    have hcl : w'.cell? ⟨w.heap.size, 5, none⟩ = some (.slice h.ra h.rn h.rc) := by
     have hb := hJ.blk
     have hl0 := hlim 0 2 rfl rfl
     match us, hl0, hb with
     | [], _, hb => exact hb.cell 5
     | [_], hl0, hb => first | exact hb.cell 5 | exact absurd hl0 (by simp)
     | _ :: _ :: us, hl0, _ => exact absurd hl0 (by simp)
    have hlim : True := trivial
    simp only [Act.eval] at e5
    clear hF hlim hJ
    go_simp
    exact hk
   | 2, ho => simp at hc
   | 3, ho =>
    simp only [List.getElem?_toArray, List.getElem?_cons_zero, List.getElem?_cons_succ, Option.some.injEq] at ho
    subst ho
    have e1 := hF.old 1 (.pointer (some ⟨w.heap.size, 0, none⟩)) rfl rfl
    simp only [Act.eval] at e1
    clear hF hlim hJ
    go_simp
    exact hk
   | 4, ho =>
    simp only [List.getElem?_toArray, List.getElem?_cons_zero, List.getElem?_cons_succ, Option.some.injEq] at ho
    subst ho
    have e8 := hF.pure 3 8 (.pointer (some ⟨w.heap.size, 7, none⟩)) rfl rfl rfl rfl
    have hcl : w'.cell? ⟨w.heap.size, 7, none⟩ = some (.slice h.ca h.cn h.cc) := by
     have hb := hJ.blk
     have hl0 := hlim 1 5 rfl rfl
     match us, hl0, hb with
     | [], _, hb => exact hb.cell 7
     | [_], hl0, hb => first | exact hb.cell 7 | exact absurd hl0 (by simp)
     | _ :: _ :: us, hl0, _ => exact absurd hl0 (by simp)
    have hlim : True := trivial
    simp only [Act.eval] at e8
    clear hF hlim hJ
    go_simp
    exact hk
   | 5, ho => simp at hc
   | 6, ho =>
    simp only [List.getElem?_toArray, List.getElem?_cons_zero, List.getElem?_cons_succ, Option.some.injEq] at ho
    subst ho
    have e1 := hF.old 1 (.pointer (some ⟨w.heap.size, 0, none⟩)) rfl rfl
    simp only [Act.eval] at e1
    clear hF hlim hJ
    go_simp
    exact hk
   | 7, ho => simp at hc
   | 8, ho =>
    simp only [List.getElem?_toArray, List.getElem?_cons_zero, List.getElem?_cons_succ, Option.some.injEq] at ho
    subst ho
    have e1 := hF.old 1 (.pointer (some ⟨w.heap.size, 0, none⟩)) rfl rfl
    simp only [Act.eval] at e1
    clear hF hlim hJ
    go_simp
    exact hk
   | 9, ho => simp at hc
   | i + 10, ho => simp at ho
 · intro p c' o hp ho a w' us K' hl hJ hF hk
   match p, hp with
   | 0, hp =>
    obtain rfl : 2 = c' := by simpa using hp
    simp only [List.getElem?_toArray, List.getElem?_cons_zero, List.getElem?_cons_succ, Option.some.injEq] at ho
    subst ho
    obtain rfl : us = [] := List.eq_nil_of_length_eq_zero hl
    have e6 := hF.pure 1 6 (.slice h.ra h.rn h.rc) rfl rfl rfl rfl
    refine wp_call1 rfl e6 Tryz.call116 (CloneRegs_any h.ra h.rn h.rc d.regs w' (RegsAt.vals (HAt.out.regs.ext hJ.ext)) hr) ?_
    rintro en w4 ⟨A4, c4, rfl, ho4, hx4⟩
    exact ⟨_, rfl, hk _ _ (hJ.call0 hx4 ho4)⟩
   | 1, hp =>
    obtain rfl : 5 = c' := by simpa using hp
    simp only [List.getElem?_toArray, List.getElem?_cons_zero, List.getElem?_cons_succ, Option.some.injEq] at ho
    subst ho
    obtain ⟨u0, rfl⟩ := list_1 hl
    have e9 := hF.pure 4 9 (.slice h.ca h.cn h.cc) rfl rfl rfl rfl
    refine wp_call1 rfl e9 Tryz.call117 (CloneComs_any h.ca h.cn h.cc d.coms w' (HAt.out.coms.ext hJ.ext) hcn) ?_
    rintro en w4 ⟨A4, c4, rfl, ho4, hx4⟩
    exact ⟨_, rfl, hk _ _ (hJ.call1 hx4 ho4)⟩
   | 2, hp =>
    obtain rfl : 7 = c' := by simpa using hp
    simp only [List.getElem?_toArray, List.getElem?_cons_zero, List.getElem?_cons_succ, Option.some.injEq] at ho
    subst ho
    obtain ⟨u0, u1, rfl⟩ := list_2 hl
    obtain ⟨A9, c9, hu9, _⟩ := hJ.regs u0 rfl
    have e11 := hF.pure 6 11 (.pointer (some ⟨w.heap.size, 5, none⟩)) rfl rfl rfl rfl
    have e7 := hF.link 0 2 7 _ rfl rfl rfl rfl
    subst hu9
    have hput := hJ.put undef (.inl rfl)
    have hb := hJ.blk
    rw [clCells_2] at hb
    have hcl := hb.cell 5
    have hfr := hb.frozen 5
    have hset := setCell_put hb 5 (.slice A9 h.rn c9)
    unfold Doc.cells at hcl hset
    simp at hset
    have HK := Lib.hid (hk undef _ hput)
    unfold clCells Doc.cells3 at HK
    clear hput hb hk hF hJ
    simp only [Act.eval] at e11 e7
    go_simp
    exact HK.out
   | 3, hp =>
    obtain rfl : 9 = c' := by simpa using hp
    simp only [List.getElem?_toArray, List.getElem?_cons_zero, List.getElem?_cons_succ, Option.some.injEq] at ho
    subst ho
    obtain ⟨u0, u1, u2, rfl⟩ := list_3 hl
    obtain ⟨A9, c9, hu9, _⟩ := hJ.coms u1 rfl
    have e12 := hF.pure 8 12 (.pointer (some ⟨w.heap.size, 7, none⟩)) rfl rfl rfl rfl
    have e10 := hF.link 1 5 10 _ rfl rfl rfl rfl
    subst hu9
    have hput := hJ.put undef (.inr rfl)
    have hb := hJ.blk
    unfold clCells at hb
    have hcl := hb.cell 7
    have hfr := hb.frozen 7
    have hset := setCell_put hb 7 (.slice A9 h.cn c9)
    unfold Doc.cells3 at hcl hset
    simp at hset
    have HK := Lib.hid (hk undef _ hput)
    unfold clCells Doc.cells3 at HK
    clear hput hb hk hF hJ
    simp only [Act.eval] at e12 e10
    go_simp
    exact HK.out
   | p + 4, hp => simp at hp
 intro us W1 hl hJ
 obtain ⟨u0, u1, u2, u3, rfl⟩ := list_4 hl
 rename_i hK
 refine hK _ _ ?_
 clear hK
 generalize hL : frameL _ _ _ _ = L
 obtain rfl : L = [(5, .pointer (some ⟨w.heap.size, 5, none⟩)), (6, .slice h.ra h.rn h.rc), (7, u0), (8, .pointer (some ⟨w.heap.size, 7, none⟩)), (9, .slice h.ca h.cn h.cc), (10, u1), (11, .pointer (some ⟨w.heap.size, 5, none⟩)), (12, .pointer (some ⟨w.heap.size, 7, none⟩))] := hL.symm.trans (by kernel_rfl)
 clear hL hl
 simp only [Act.put, List.foldl_cons, List.foldl_nil, List.setIfInBounds_toArray, List.set_cons_zero, List.set_cons_succ]
 obtain ⟨A0, c0, hu0, ho0⟩ := hJ.regs u0 rfl
 obtain ⟨A1, c1, hu1, ho1⟩ := hJ.coms u1 rfl
 subst hu0 hu1
 have hx1 := hJ.ext
 have hb1 : Blk W1 w.heap.size 52 (d.cells3 (.slice A0 h.rn c0) (.slice h.ea h.en h.ec) (.slice A1 h.cn c1)) := hJ.blk
 have hz1 := hJ.zero
 clear hJ
 obtain ⟨hs0, hsl0, hgd0⟩ := evs_heads HAt.out.evs
 have HHs := Lib.hid hsl0
 have HGd := Lib.hid hgd0
 clear hsl0 hgd0
 have HX1 := Lib.hid hx1
 have HB1 := Lib.hid hb1
 have HZ1 := Lib.hid hz1
 have HR1 := Lib.hid ho0
 have HC1 := Lib.hid ho1
 clear hx1 hb1 hz1 ho0 ho1
 have hc1 := fun o => HB1.out.cell o
 unfold Doc.cells3 at hc1
 go_wp2_with fail
 refine (CloneEHs_any h.ea h.en h.ec hs0 _ (Sl.ext (Cells.stays _) HHs.out HX1.out) hen).mono ?_
 rintro en w2 ⟨ea, ec, rfl, hown2, hx2⟩
 have HX2 := Lib.hid (HX1.out.trans hx2)
 have HB2 := Lib.hid (HB1.out.ext hx2)
 have HZ2 := Lib.hid (HZ1.out.ext hx2)
 have HR2 := Lib.hid (own_ext HR1.out hx2)
 have HC2 := Lib.hid (own_ext HC1.out hx2)
 have HO2 := Lib.hid (own_le hown2 HX1.out.size)
 clear hx2 hown2 hc1
 have hc2 := fun o => HB2.out.cell o
 have hf2 := fun o => HB2.out.frozen o
 have hs2 := fun u => setCell_put HB2.out 6 u
 have HB3 := Lib.hid (HB2.out.put (d.cells3 (.slice A0 h.rn c0) (.slice ea h.en ec) (.slice A1 h.cn c1)))
 unfold Doc.cells3 at hc2 hs2
 simp at hs2
 have hc3 := fun o => HB3.out.cell o
 unfold Doc.cells3 at hc3
 go_wp2_with fail
 clear hc2 hf2 hs2 hc3
 go_loopw [20] (fun i wr => DClRel d h w (.slice A0 h.rn c0) (.slice A1 h.cn c1) ea ec i wr) (fun i _ => h.en - (intOf i).toNat)
 case atStart =>
  refine ⟨HX2.out.put (Nat.le_refl _) _ _, HB3.out, HZ2.out.put_other (by omega) _, own_kb HR2.out (KB.put HB2.out (by decide)), own_kb HC2.out (KB.put HB2.out (by decide)), 0, hs0, Nat.zero_le _, rfl, HHs.out.len, own_kb HO2.out (KB.put HB2.out (by decide)), fun j x e hx he => ⟨fun hh => by omega, fun _ => ?_⟩⟩
  have := HGd.out j x e hx he
  exact ⟨_, _, _, this.1, this.2⟩
 case round =>
  obtain ⟨hx, hb, hz, hor, hoc, k, hs, hk, rfl, hsl, hoe, hall⟩ := hrel
  have HXr := Lib.hid hx
  have HBr := Lib.hid hb
  have HZr := Lib.hid hz
  have HRr := Lib.hid hor
  have HCr := Lib.hid hoc
  have HOr := Lib.hid hoe
  have HAl := Lib.hid hall
  have HSl := Lib.hid hsl
  clear hx hb hz hor hoc hsl hoe hall
  have hcr := fun o => HBr.out.cell o
  unfold Doc.cells3 at hcr
  by_cases hlt : k < h.en
  · obtain ⟨g, cp, hv, hgb, hglt⟩ := own_form HOr.out (by omega)
    have hA1 : ea = some ⟨g, 0, none⟩ := by injection hv
    subst hA1
    obtain ⟨x, hxx⟩ : ∃ x, hs[k]? = some x := ⟨_, List.getElem?_eq_getElem (by rw [HSl.out]; exact hlt)⟩
    obtain ⟨e, hee⟩ : ∃ e, d.evs[k]? = some e := ⟨_, List.getElem?_eq_getElem (by rw [HEl.out]; exact hlt)⟩
    obtain ⟨A', n', c', rfl, hev⟩ := (HAl.out k x e hxx hee).2 (Nat.le_refl _)
    have HCk := Lib.hid (fun (j : Nat) (hj : j < 7) => EH.cells_at HOr.out hxx hlt (j := j) hj)
    have HEe := Lib.hid hee
    have HEv := Lib.hid hev
    have hn24 := hev.2.2
    have c0 : wr.cell? ⟨g, k * 7, none⟩ = some (.int .i64 e.id) := by have := HCk.out 0 (by omega); simpa [EH.vals, EH.of] using this
    have c1' : wr.cell? ⟨g, k * 7 + 1, none⟩ = some (.int .i64 e.inn) := HCk.out 1 (by omega)
    have c2' : wr.cell? ⟨g, k * 7 + 2, none⟩ = some (.int .i64 e.out) := HCk.out 2 (by omega)
    have c3' : wr.cell? ⟨g, k * 7 + 3, none⟩ = some (.string e.region) := HCk.out 3 (by omega)
    have c4' : wr.cell? ⟨g, k * 7 + 4, none⟩ = some (.int .u8 e.kind) := HCk.out 4 (by omega)
    have c5' : wr.cell? ⟨g, k * 7 + 5, none⟩ = some (.string e.speaker) := HCk.out 5 (by omega)
    have c6' : wr.cell? ⟨g, k * 7 + 6, none⟩ = some (.slice A' n' c') := HCk.out 6 (by omega)
    clear hxx hee hev
    go_wp2_with fail
    clear c0 c1' c2' c3' c4' c5' c6' hcr
    have HB4 := Lib.hid (HBr.out.alloc (.cells #[.int .i64 e.id, .int .i64 e.inn, .int .i64 e.out, .string e.region, .int .u8 e.kind, .string e.speaker, .slice A' n' c'] 64))
    have HE4 := Lib.hid (Blk.new wr 64 #[.int .i64 e.id, .int .i64 e.inn, .int .i64 e.out, .string e.region, .int .u8 e.kind, .string e.speaker, .slice A' n' c'])
    have HX4 := Lib.hid ((Ext.refl wr).alloc (.cells #[.int .i64 e.id, .int .i64 e.inn, .int .i64 e.out, .string e.region, .int .u8 e.kind, .string e.speaker, .slice A' n' c'] 64))
    have hsz4 := HX4.out.size
    generalize hw4 : wr.alloc (.cells #[.int .i64 e.id, .int .i64 e.inn, .int .i64 e.out, .string e.region, .int .u8 e.kind, .string e.speaker, .slice A' n' c'] 64) = w4 at *
    refine wp_region_links [some 25, some 26, some 27, some 28, some 29, some 30, none] [[], [0], [], [], [3], [1, 2, 0, 1, 2, 3, 4], [5, 4, 4, 0, 1, 2, 3, 4]] [4, 6] [.pointer (some ⟨w.heap.size, 6, none⟩), .slice (some ⟨g, 0, none⟩) h.en ec, .int .i64 (k : Int), .agg #[.int .i64 e.id, .int .i64 e.inn, .int .i64 e.out, .string e.region, .int .u8 e.kind, .string e.speaker, .slice A' n' c'], undef, .pointer (some ⟨g, k * 7, none⟩), undef] (CeJ e g k n' w4) (by kernel_rfl) (by kernel_rfl) (by kernel_rfl) (by kernel_rfl) (by kernel_rfl) (by kernel_rfl) (by kernel_rfl) (by decide) ?_ ?_ ?_ ?_
    · exact ⟨fun _ => (Ext.refl w4).drew, fun u hu => by simp at hu, fun u v hu => by simp at hu⟩
    · intro i o ho hc a w' us K' hJ hF hlim hk
      match i, ho with
      | 0, ho =>
       simp only [List.getElem?_toArray, List.getElem?_cons_zero, List.getElem?_cons_succ, Option.some.injEq] at ho
       subst ho
       have e1 := hF.old 1 (.pointer (some ⟨w.heap.size, 0, none⟩)) rfl rfl
       simp only [Act.eval] at e1
       clear hF hlim hJ
       go_simp
       exact hk
      | 1, ho =>
       simp only [List.getElem?_toArray, List.getElem?_cons_zero, List.getElem?_cons_succ, Option.some.injEq] at ho
       subst ho
       have e25 := hF.pure 0 25 (.pointer (some ⟨w.heap.size, 6, none⟩)) rfl rfl rfl rfl
       have hX6 : ∃ w6, Ext w4 w6 ∧ KB 52 w6 w' := by
        have hl1 := hlim 1 6 rfl rfl
        match us, hl1, hJ with
        | [], _, hJ => exact ⟨w', hJ.nil rfl, KB.refl _⟩
        | [u], _, hJ => obtain ⟨_, _, _, _, _, h4⟩ := hJ.one u rfl; exact ⟨w', h4, KB.refl _⟩
        | _ :: _ :: _, hl1, _ => exact absurd hl1 (by simp)
       obtain ⟨w6, hX6, hK6⟩ := hX6
       have hcl : w'.cell? ⟨w.heap.size, 6, none⟩ = some (.slice (some ⟨g, 0, none⟩) h.en ec) := Blk.cell (hK6 _ _ (HB4.out.ext hX6)) 6
       clear hX6 hK6
       simp only [Act.eval] at e25
       clear hF hlim hJ
       go_simp
       exact hk
      | 2, ho =>
       simp only [List.getElem?_toArray, List.getElem?_cons_zero, List.getElem?_cons_succ, Option.some.injEq] at ho
       subst ho
       have e3 := hF.old 3 (.int .i64 (k : Int)) rfl rfl
       simp only [Act.eval] at e3
       clear hF hlim hJ
       go_simp
       exact hk
      | 3, ho =>
       simp only [List.getElem?_toArray, List.getElem?_cons_zero, List.getElem?_cons_succ, Option.some.injEq] at ho
       subst ho
       have e4 := hF.old 4 (.pointer (some ⟨wr.heap.size, 0, none⟩)) rfl rfl
       have hX6 : Ext w4 w' := by
        have hl0 := hlim 0 4 rfl rfl
        exact hJ.nil (List.eq_nil_of_length_eq_zero (by omega))
       exact wp_loadBk 64 (.tmp 4) rfl _ 64 _ _ e4 (HE4.out.ext hX6) Tryz.underlying64 rfl (by exact size_event) hk
      | 4, ho => simp at hc
      | 5, ho =>
       simp only [List.getElem?_toArray, List.getElem?_cons_zero, List.getElem?_cons_succ, Option.some.injEq] at ho
       subst ho
       have e26 := hF.pure 1 26 (.slice (some ⟨g, 0, none⟩) h.en ec) rfl rfl rfl rfl
       have e27 := hF.pure 2 27 (.int .i64 (k : Int)) rfl rfl rfl rfl
       exact wp_ix_ev rfl e26 e27 hlt (by rw [Nat.zero_add]; exact hk)
      | 6, ho => simp at hc
      | i + 7, ho => simp at ho
    · intro p c' o hp ho a w' us K' hl hJ hF hk
      match p, hp with
      | 0, hp =>
       obtain rfl : 4 = c' := by simpa using hp
       simp only [List.getElem?_toArray, List.getElem?_cons_zero, List.getElem?_cons_succ, Option.some.injEq] at ho
       subst ho
       obtain rfl : us = [] := List.eq_nil_of_length_eq_zero hl
       have e28 := hF.pure 3 28 (.agg #[.int .i64 e.id, .int .i64 e.inn, .int .i64 e.out, .string e.region, .int .u8 e.kind, .string e.speaker, .slice A' n' c']) rfl rfl rfl rfl
       have hX6 := hJ.nil rfl
       refine wp_call1 rfl e28 Tryz.call119 (EClone_any e A' n' c' w' (HEv.out.ext (HXr.out.trans (HX4.out.trans hX6)))) ?_
       rintro en w8 ⟨A8, c8, rfl, hnc8, hrf8, hx8⟩
       exact ⟨_, rfl, hk _ _ ⟨fun h => absurd h (by simp), fun u hu => by simp at hu; subst hu; exact ⟨A8, c8, rfl, hnc8, hrf8.le hX6.size, hX6.trans hx8⟩, fun u v hu => by simp at hu⟩⟩
      | 1, hp =>
       obtain rfl : 6 = c' := by simpa using hp
       simp only [List.getElem?_toArray, List.getElem?_cons_zero, List.getElem?_cons_succ, Option.some.injEq] at ho
       subst ho
       obtain ⟨u0, rfl⟩ := list_1 hl
       obtain ⟨A2, c2, hu9, hnc, hrf, hx9⟩ := hJ.one u0 rfl
       subst hu9
       have e30 := hF.pure 5 30 (.pointer (some ⟨g, k * 7, none⟩)) rfl rfl rfl rfl
       have e29 := hF.link 0 4 29 _ rfl rfl rfl rfl
       refine wp_store_mid 64 (.tmp 30) (.tmp 29) rfl g (k * 7) (e.cells A2 n' c2) e30 e29 (fun j hj => ?_) (by exact size_event) (by simp [Ev.cells, Value.oneCell']) ?_
       · have hO9 := own_ext (own_ext HOr.out HX4.out) hx9
         have hj7 : j < 7 := hj
         have h8 : k * 7 + j < (hs.flatMap EH.vals).length := by rw [hO9.1]; omega
         exact ⟨by rw [hO9.cellAt _ (by omega), List.getElem?_eq_getElem h8]; rfl, hO9.frozenAt _⟩
       · exact hk undef _ ⟨fun h => absurd h (by simp), fun u hu => by simp at hu, fun u v hu => by simp at hu; obtain ⟨rfl, rfl⟩ := hu; exact ⟨A2, c2, w', rfl, hnc, hrf, hx9, rfl⟩⟩
      | p + 2, hp => simp at hp
    intro us W9 hl hJ
    obtain ⟨u0_1, u1_1, rfl⟩ := list_2 hl
    rename_i hK
    refine hK _ _ ?_
    clear hK
    generalize hL : frameL _ _ _ _ = L
    obtain rfl : L = [(25, .pointer (some ⟨w.heap.size, 6, none⟩)), (26, .slice (some ⟨g, 0, none⟩) h.en ec), (27, .int .i64 (k : Int)), (28, .agg #[.int .i64 e.id, .int .i64 e.inn, .int .i64 e.out, .string e.region, .int .u8 e.kind, .string e.speaker, .slice A' n' c']), (29, u0_1), (30, .pointer (some ⟨g, k * 7, none⟩))] := hL.symm.trans (by kernel_rfl)
    clear hL hl
    simp only [Act.put, List.foldl_cons, List.foldl_nil, List.setIfInBounds_toArray, List.set_cons_zero, List.set_cons_succ]
    obtain ⟨A2, c2, w5, rfl, hnc2, hrf2, hx5, rfl⟩ := hJ.two u0_1 u1_1 rfl
    clear hJ
    go_wp2_with fail
    exact ⟨DClRel.step hgb HXr.out HBr.out HZr.out HRr.out HCr.out hlt HSl.out HOr.out HAl.out HEe.out (HX4.out.trans hx5) hsz4 hnc2 hn24 hrf2, by simp [intOf]; omega⟩
  · have hkn : k = h.en := by omega
    subst hkn
    unfold Doc.cells3 at HBr
    unfold docZero at HZr
    clear hcr
    go_wp2_with (first | (refine wpList_loadB rfl 52 (.tmp 1) rfl w.heap.size 52 _ _ (by exact rfl) (by exact HBr.out) Tryz.underlying52 rfl (by exact size_docI) ?_) | (refine wpList_storeB rfl 52 (.tmp 2) (.tmp 32) rfl (w.heap.size + 1) 52 _ _ (by exact rfl) (by exact rfl) (by exact HZr.out) (by exact rfl) (by exact size_docI) (by simp [Value.oneCell']) ?_))
    refine bodyPost_ret (v := .agg (d.cells ⟨A0, h.rn, c0, ea, h.en, ec, A1, h.cn, c1⟩)) ?_ rfl ⟨⟨A0, h.rn, c0, ea, h.en, ec, A1, h.cn, c1⟩, rfl, ?_, ?_⟩
    · exact results_B (P := Tryz.prog) Tryz.results58 (g := w.heap.size + 1) rfl (by exact HZr.out.put _) Tryz.underlying52 rfl size_docI
    · refine DocOwn.put (h := ⟨A0, h.rn, c0, ea, h.en, ec, A1, h.cn, c1⟩) (cs := docZero) ⟨HRr.out, HRl.out, ⟨hs, HOr.out, HSl.out, HEl.out, fun i x e hx he => (HAl.out i x e hx he).1 (by have := (List.getElem?_eq_some_iff.1 hx).1; have := HSl.out; omega)⟩, HCr.out, HCl.out⟩ HZr.out _
    · exact HXr.out.put (by omega) _ _
end Go.Proofs.YtablhmobekmflaaGreatDoor