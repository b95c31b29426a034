/- Laid together: What Insert, Put, Remove and Shift lead to is accepted again, with the other events as they were: plainly. slices.SortFunc of comments, at the comparison of comment.Open. The walk of comment.Open. The walk of the reference's ahead. A drawn region whose operations with effects stand in a chain, and that makes blocks besides, at whatever time: a value for each block (variables, slices). The walk of the reference's Sort. -/
import Derived.Test.YtagfedbdakmlgaaGreatDoorLi13
import Derived.Test.YtagfedbdakmlgaaGreatDoorLi14
import Derived.Shelf.SlSortCmp.WholeK
import Derived.Shelf.SlSortCmp.NoneTotal
import Derived.Test.YtagfedbdakmlgaaGreatDoorLi08
import Derived.Test.YtagfedbdakmlgaaGreatDoorLi10
import Derived.Test.YtagfedbdakmlgaaGreatDoorLi09
import Derived.Test.YtagfedbdakmlgaaGreatDoorLi05

/-! ValP -/
namespace Go.Proofs.YtagfedbdakmlgaaGreatDoor
set_option linter.unusedVariables false
set_option linter.unusedSimpArgs false
open Go.RowKit
theorem insS_perm {α : Type} {lt : α → α → Bool} (x : α) : ∀ l : List α, (Stb.insS lt x l).Perm (x :: l)
  | [] => .refl _
  | y :: l => by
    unfold Stb.insS
    split
    · exact .refl _
    · exact ((insS_perm x l).cons y).trans (.swap x y l)
theorem foldS_perm {α : Type} {lt : α → α → Bool} : ∀ (l acc : List α), (l.foldl (fun acc x => Stb.insS lt x acc) acc).Perm (acc ++ l)
  | [], acc => by simp
  | x :: l, acc => by
    rw [List.foldl_cons]
    refine (foldS_perm l _).trans ?_
    refine ((insS_perm x acc).append_right l).trans ?_
    rw [List.cons_append]
    exact List.perm_middle.symm
theorem srtE_perm (l : List Ev) : (srtE l).Perm l := by
  have := foldS_perm (lt := lessB) l []
  simpa [srtE, Stb.sortS] using this
theorem less_or {x y : Ev} (h : lessB y x = false) (hne : x.id ≠ y.id) : lessB x y = true := by
  unfold lessB at *
  simp only [decide_eq_true_eq, decide_eq_false_iff_not] at *
  omega
theorem less_tr {x y z : Ev} (h : lessB x y = true) (k : lessB y z = true) : lessB x z = true := by
  unfold lessB at *
  simp only [decide_eq_true_eq] at *
  omega
structure EvsV (regs : List Reg) (last : Int) (l : List Ev) : Prop where
  each : ∀ x ∈ l, x.err regs = 0 ∧ x.id ≤ last
  srt : l.Pairwise fun x y => lessB x y = true
  ids : l.Pairwise fun x y => x.id ≠ y.id
theorem findE_none {l : List Ev} {id : Int} (h : findE l id = none) : ∀ e ∈ l, e.id ≠ id := fun e he => by
  have := List.findIdx?_eq_none_iff.1 h e he
  simpa using this
theorem none_findE {l : List Ev} {id : Int} (h : ∀ e ∈ l, e.id ≠ id) : findE l id = none :=
  List.findIdx?_eq_none_iff.2 fun e he => by simpa using h e he
theorem findE_mem {l : List Ev} {id : Int} {k : Nat} (h : findE l id = some k) : ∃ e, l[k]? = some e ∧ e ∈ l ∧ e.id = id := by
  obtain ⟨hk, h1, -⟩ := List.findIdx?_eq_some_iff_getElem.1 h
  exact ⟨l[k], List.getElem?_eq_getElem hk, List.getElem_mem hk, by simpa using h1⟩
theorem pair_ids {l : List Ev} (h : l.Pairwise fun x y => x.id ≠ y.id) {x y : Ev} (hx : x ∈ l) (hy : y ∈ l) (he : x.id = y.id) : x = y := by
  obtain ⟨i, hi, rfl⟩ := List.mem_iff_getElem.1 hx
  obtain ⟨j, hj, rfl⟩ := List.mem_iff_getElem.1 hy
  rw [List.pairwise_iff_getElem] at h
  rcases Nat.lt_trichotomy i j with c | c | c
  · exact absurd he (h i j hi hj c)
  · subst c; rfl
  · exact absurd he.symm (h j i hj hi c)
theorem mem_findE {l : List Ev} (h : l.Pairwise fun x y => x.id ≠ y.id) {x : Ev} (hx : x ∈ l) : ∃ k, findE l x.id = some k ∧ l[k]? = some x := by
  cases hf : findE l x.id with
  | none => exact absurd rfl (findE_none hf x hx)
  | some k =>
    obtain ⟨e, h1, h2, h3⟩ := findE_mem hf
    exact ⟨k, rfl, by rw [h1, pair_ids h h2 hx h3]⟩
theorem evs_v {regs : List Reg} {last : Int} {l : List Ev} (h : evsLoop regs last [] l = 0) : EvsV regs last l := by
  have hk := evs_ok h
  have hids : ∀ i j (hi : i < l.length) (hj : j < l.length), i < j → l[i].id ≠ l[j].id := fun i j hi hj hij => by
    have := (hk j l[j] (List.getElem?_eq_getElem hj)).2.2.2
    rw [List.nil_append] at this
    exact findE_none this l[i] (List.mem_of_getElem? (i := i) (by rw [List.getElem?_take, if_pos hij]; exact List.getElem?_eq_getElem hi))
  refine ⟨fun x hx => ?_, ?_, List.pairwise_iff_getElem.2 hids⟩
  · obtain ⟨i, hi⟩ := List.getElem?_of_mem hx
    exact ⟨(hk i x hi).1, (hk i x hi).2.1⟩
  · have hs : ∀ j (hj : j + 1 < l.length), lessB l[j] l[j + 1] = true := fun j hj => by
      have h1 := (hk (j + 1) l[j + 1] (List.getElem?_eq_getElem hj)).2.2.1
      rw [List.nil_append, List.getLast?_eq_getElem?, List.length_take, Nat.min_eq_left (by omega), List.getElem?_take, if_pos (by omega), Nat.add_sub_cancel, List.getElem?_eq_getElem (show j < l.length by omega)] at h1
      simpa using h1
    have hd : ∀ d i (hj : i + d + 1 < l.length), lessB (l[i]'(by omega)) l[i + d + 1] = true := by
      intro d
      induction d with
      | zero => intro i hj; exact hs i hj
      | succ d ih => intro i hj; exact less_tr (ih i (by omega)) (hs (i + d + 1) hj)
    refine List.pairwise_iff_getElem.2 fun i j hi hj hij => ?_
    have := hd (j - i - 1) i (by omega)
    have e : i + (j - i - 1) + 1 = j := by omega
    simp only [e] at this
    exact this
theorem v_evs {regs : List Reg} {last : Int} {l : List Ev} (h : EvsV regs last l) : evsLoop regs last [] l = 0 := by
  refine evs_all fun k x hx => ?_
  obtain ⟨hk, hxk⟩ := List.getElem?_eq_some_iff.1 hx
  have hm := h.each x (List.mem_of_getElem? hx)
  unfold evErr
  rw [List.nil_append, if_neg (by simpa using hm.1), if_neg (by omega), if_neg, if_neg]
  · rw [none_findE (fun e he => ?_)]
    · simp
    · obtain ⟨i, hi, he'⟩ := List.mem_take_iff_getElem.1 he
      have := List.pairwise_iff_getElem.1 h.ids i k (by omega) hk (by omega)
      rw [he', hxk] at this
      exact this
  · intro hc
    cases k with
    | zero => simp at hc
    | succ j =>
      rw [List.getLast?_eq_getElem?, List.length_take, Nat.min_eq_left (by omega), List.getElem?_take, if_pos (by omega), Nat.add_sub_cancel, List.getElem?_eq_getElem (show j < l.length by omega)] at hc
      have := List.pairwise_iff_getElem.1 h.srt j (j + 1) (by omega) hk (by omega)
      rw [hxk] at this
      simp [this] at hc
theorem EvsV.sorted {regs : List Reg} {last : Int} {l : List Ev} (h : ∀ x ∈ l, x.err regs = 0 ∧ x.id ≤ last) (hi : l.Pairwise fun x y => x.id ≠ y.id) : EvsV regs last (srtE l) := by
  have hp := srtE_perm l
  have hi' : (srtE l).Pairwise fun x y => x.id ≠ y.id := (hp.pairwise_iff (fun {x y} (h : x.id ≠ y.id) => Ne.symm h)).2 hi
  refine ⟨fun x hx => h x (hp.mem_iff.1 hx), ?_, hi'⟩
  have hs := (Stb.sortS_spec lessB_sw l).1
  exact (hs.and hi').imp fun {x y} ⟨h1, h2⟩ => less_or h1 h2
structure ComV (last : Int) (evs : List Ev) (c : Com) : Prop where
  id1 : 1 ≤ c.id
  id2 : c.id ≤ last
  free : ∀ e ∈ evs, e.id ≠ c.id
  ev1 : 1 ≤ c.ev
  ev2 : c.ev ≤ last
  lostV : c.lost = true → c.fr = 0 ∧ c.til = 0
  anch : c.lost = false → ∃ e ∈ evs, e.id = c.ev ∧ 0 ≤ c.fr ∧ c.fr < c.til ∧ c.til ≤ e.len
  rest : nameB c.author = true ∧ vld c.text = true ∧ c.text.toList.isEmpty = false ∧ c.text.size ≤ 400
structure ComsV (last : Int) (evs : List Ev) (l : List Com) : Prop where
  each : ∀ c ∈ l, ComV last evs c
  srt : l.Pairwise fun a b => a.id < b.id
theorem coms_v {last : Int} {evs : List Ev} {l : List Com} (h : comsLoop last evs none l = 0) : ComsV last evs l := by
  have hk := coms_ok h
  refine ⟨fun c hc => ?_, ?_⟩
  · obtain ⟨i, hi⟩ := List.getElem?_of_mem hc
    obtain ⟨h1, h2, -, h4, h5, h6, h7, h8, h9⟩ := com_ok (hk i c hi)
    obtain ⟨a1, a2, a3, a4⟩ := anchor_ok h5
    refine ⟨h1, h2, findE_none h4, a1, a2, a3, fun hl => ?_, h6, h7, h8, h9⟩
    obtain ⟨k, e, f1, f2, f3⟩ := a4 hl
    obtain ⟨e', g1, g2, g3⟩ := findE_mem f1
    rw [f2] at g1
    cases g1
    exact ⟨e, g2, g3, f3⟩
  · have hs : ∀ j (hj : j + 1 < l.length), l[j].id < l[j + 1].id := fun j hj => by
      have h1 := (com_ok (hk (j + 1) l[j + 1] (List.getElem?_eq_getElem hj))).2.2.1
      simp only [prevC, List.getElem?_eq_getElem (show j < l.length by omega), Option.map_some, Option.some.injEq, decide_eq_true_eq] at h1
      omega
    have hd : ∀ d i (hj : i + d + 1 < l.length), (l[i]'(by omega)).id < l[i + d + 1].id := by
      intro d
      induction d with
      | zero => intro i hj; exact hs i hj
      | succ d ih => intro i hj; exact Int.lt_trans (ih i (by omega)) (hs (i + d + 1) hj)
    refine List.pairwise_iff_getElem.2 fun i j hi hj hij => ?_
    have := hd (j - i - 1) i (by omega)
    have e : i + (j - i - 1) + 1 = j := by omega
    simp only [e] at this
    exact this
theorem ComV.err0 {last : Int} {evs : List Ev} {c : Com} (h : ComV last evs c) (ids : evs.Pairwise fun x y => x.id ≠ y.id) {p : Option Int} (hp : ∀ q, p = some q → q < c.id) : c.err last evs p = 0 := by
  have h1 := h.id1
  have h2 := h.id2
  have hA : c.anchorErr last evs = 0 := by
    have h3 := h.ev1
    have h4 := h.ev2
    unfold Com.anchorErr
    rw [if_neg (by omega)]
    cases hl : c.lost with
    | true => have := h.lostV hl; rw [if_pos rfl, if_neg (by omega)]
    | false =>
      obtain ⟨e, he, e1, e2, e3, e4⟩ := h.anch hl
      obtain ⟨k, f1, f2⟩ := mem_findE ids he
      rw [e1] at f1
      rw [if_neg (by simp), f1]
      simp only
      rw [if_neg]
      rw [f2]
      simp only [Option.map_some, Option.some.injEq, decide_eq_true_eq]
      omega
  unfold Com.err
  rw [if_neg (by omega), if_neg, none_findE h.free, if_neg (by simp), hA, if_neg (by simp), h.rest.1, if_neg (by simp), h.rest.2.1, if_neg (by simp), h.rest.2.2.1, if_neg (by simp), if_neg (by have := h.rest.2.2.2; omega)]
  cases p with
  | none => simp
  | some q => have := hp q rfl; simp; omega
theorem v_coms {last : Int} {evs : List Ev} (ids : evs.Pairwise fun x y => x.id ≠ y.id) : ∀ {l : List Com} {p : Option Int}, (∀ q, p = some q → ∀ c ∈ l, q < c.id) → ComsV last evs l → comsLoop last evs p l = 0
  | [], p, _, _ => by simp [comsLoop]
  | c :: l, p, hp, h => by
    have he := (h.each c (by simp)).err0 ids (p := p) (fun q hq => hp q hq c (by simp))
    rw [coms_cons, if_neg (by simpa using he)]
    have hs := List.pairwise_cons.1 h.srt
    exact v_coms ids (fun q hq c' hc' => by cases hq; exact hs.1 c' hc') ⟨fun c' hc' => h.each c' (by simp [hc']), hs.2⟩
structure DocV (d : Doc) : Prop where
  head : d.headErr = 0
  regs : regsErr d.regs = 0
  en : d.evs.length ≤ 400
  evs : EvsV d.regs d.last d.evs
  cn : d.coms.length ≤ 64
  coms : ComsV d.last d.evs d.coms
theorem doc_v {d : Doc} (h : d.err = 0) : DocV d := by
  obtain ⟨h1, h2, h3, h4, h5, h6⟩ := doc_ok h
  exact ⟨h1, h2, h3, evs_v h4, h5, coms_v h6⟩
theorem DocV.ok {d : Doc} (h : DocV d) : d.err = 0 := by
  unfold Doc.err
  have h3 := h.en
  have h5 := h.cn
  rw [if_neg (by simpa using h.head), if_neg (by simpa using h.regs), if_neg (by omega), if_neg (by simpa using v_evs h.evs), if_neg (by omega)]
  exact v_coms h.evs.ids (fun q hq => by cases hq) h.coms
theorem ComV.mono {last last' : Int} {evs evs' : List Ev} {c : Com} (h : ComV last evs c) (hl : last ≤ last') (hf : ∀ e ∈ evs', e.id ≠ c.id) (ha : ∀ e ∈ evs, e.id = c.ev → ∃ e' ∈ evs', e'.id = e.id ∧ e'.len = e.len) : ComV last' evs' c := by
  refine ⟨h.id1, Int.le_trans h.id2 hl, hf, h.ev1, Int.le_trans h.ev2 hl, h.lostV, fun hlo => ?_, h.rest⟩
  obtain ⟨e, he, e1, e2, e3, e4⟩ := h.anch hlo
  obtain ⟨e', f0, f1, f2⟩ := ha e he e1
  exact ⟨e', f0, by rw [f1, e1], e2, e3, by rw [f2]; exact e4⟩
section
variable {d : Doc} {e : Ev}
end
end Go.Proofs.YtagfedbdakmlgaaGreatDoor

/-! OpnS -/
namespace Go.Proofs.YtagfedbdakmlgaaGreatDoor
set_option linter.unusedVariables false
set_option linter.unusedSimpArgs false
open Go.RowKit Go.Sort
instance comInh : Inhabited Com := ⟨⟨0, 0, 0, 0, ⟨#[]⟩, ⟨#[]⟩, false, false⟩⟩
/-- an open comment stands ahead of another one -/
def ltC (evs : List Ev) (x y : Com) : Bool := decide (findI evs x.ev < findI evs y.ev ∨ findI evs x.ev = findI evs y.ev ∧ (x.fr < y.fr ∨ x.fr = y.fr ∧ x.id < y.id))
theorem ltOf_cmpC (evs : List Ev) (x y : Com) : ltOf (cmpC evs) x y = ltC evs x y := by
  unfold ltOf cmpC or3 cmpI ltC
  generalize findI evs x.ev = a
  generalize findI evs y.ev = b
  apply decide_eq_decide.2
  repeat' split
  all_goals omega
theorem ltOf_C (evs : List Ev) : ltOf (cmpC evs) = ltC evs := by funext x y; exact ltOf_cmpC evs x y
theorem ltC_swo (evs : List Ev) : SWO (ltC evs) where
  irrefl x := by unfold ltC; simp
  trans x y z h1 h2 := by unfold ltC at *; simp only [decide_eq_true_eq] at *; omega
  ntrans x y z h1 h2 := by unfold ltC at *; simp only [decide_eq_false_iff_not] at *; omega
theorem ltC_sw (evs : List Ev) : Stb.SW (ltC evs) := ⟨fun x y h => by unfold ltC at *; simp only [decide_eq_true_eq, decide_eq_false_iff_not] at *; omega, fun x y z h k => by unfold ltC at *; simp only [decide_eq_false_iff_not] at *; omega⟩
def srtC (evs : List Ev) (l : List Com) : List Com := Stb.sortS (ltC evs) l
theorem srtC_perm (evs : List Ev) (l : List Com) : (srtC evs l).Perm l := by
  have := foldS_perm (lt := ltC evs) l []
  simpa [srtC, Stb.sortS] using this
/-- a sorted list with the same comments is the sorted list -/
theorem srtC_uniq {evs : List Ev} {l l' : List Com} (hp : l'.Perm l) (hs : l'.Pairwise fun x y => ltC evs y x = false) (hid : l.Pairwise fun x y => x.id ≠ y.id) : l' = srtC evs l := by
  refine List.Perm.eq_of_pairwise (le := fun x y => ltC evs y x = false) (fun a b ha hb h1 h2 => ?_) hs (Stb.sortS_spec (ltC_sw evs) l).1 (hp.trans (srtC_perm evs l).symm)
  have ha' : a ∈ l := hp.mem_iff.1 ha
  have hb' : b ∈ l := (srtC_perm evs l).mem_iff.1 hb
  have he : a.id = b.id := by
    unfold ltC at h1 h2
    simp only [decide_eq_false_iff_not] at h1 h2
    omega
  obtain ⟨i, hi, rfl⟩ := List.mem_iff_getElem.1 ha'
  obtain ⟨j, hj, rfl⟩ := List.mem_iff_getElem.1 hb'
  rw [List.pairwise_iff_getElem] at hid
  rcases Nat.lt_trichotomy i j with c | c | c
  · exact absurd he (hid i j hi hj c)
  · subst c; rfl
  · exact absurd he.symm (hid j i hj hi c)
theorem arr_sorted {lt : Com → Com → Bool} {d : Array Com} (h : SortedIn lt 0 d.size d) : d.toList.Pairwise fun x y => lt y x = false := by
  refine List.pairwise_iff_getElem.2 fun i j hi hj hij => ?_
  have hi' : i < d.size := by simpa using hi
  have hj' : j < d.size := by simpa using hj
  have := h i j (Nat.zero_le _) hij hj'
  rw [getElem!_pos d j hj', getElem!_pos d i hi'] at this
  simpa using this
theorem com_ones' (x : Com) : ∀ v ∈ x.vals, v.oneCell' = true := by
  intro v hv
  simp only [Com.vals, List.mem_cons, List.not_mem_nil, or_false] at hv
  rcases hv with rfl | rfl | rfl | rfl | rfl | rfl | rfl | rfl <;> rfl
theorem openC_enter : ∀ args w, (callFunc 118 args).run Tryz.prog w = .ok (.enter 118 args) w := Go.Proofs.enters_of Tryz.func118 (by kernel_rfl) rfl
theorem swk_ext {w0 w : World} {L g n c m : Nat} {l : List Com} {os : Array Obj} {dk : Array Com} (hx : Ext w0 w) (hL : w0.heap.size ≤ L) (h1 : w.ownsRow L 78 8 (.slice (some ⟨g, 0, none⟩) n c) n (l.flatMap Com.vals)) : Ext w0 (sortWorldK Com.vals 8 w g 0 m dk os) :=
  hx.grown (swk_grown (enc := Com.vals) (k := 8) (g := g) (l := dk.toList) ⟨m, os, by simp⟩) (fun q hq => by cases hq; have := own_lt h1 g rfl; omega)
theorem SortC_own {w0 w : World} {L g n c gd : Nat} {l : List Com} {d : Doc} {h : DocH} (hx : Ext w0 w) (hL : w0.heap.size ≤ L) (h1 : w.ownsRow L 78 8 (.slice (some ⟨g, 0, none⟩) n c) n (l.flatMap Com.vals)) (hl : l.length = n) (hn : n < 4611686018427387904)
    (hat : EvsAt w0 h.ea h.en d.evs) (he : h.en ≤ 4611686018427387904) (hBd : Blk w0 gd 27 (d.cells h)) (hid : l.Pairwise fun x y => x.id ≠ y.id) :
    Calls Tryz.prog 117 #[.slice (some ⟨g, 0, none⟩) n c, .func (.func 118) #[] #[.pointer (some ⟨gd, 0, none⟩)]] w fun e w' => e = .returned (.tuple #[]) ∧ Ext w0 w' ∧ w'.ownsRow L 78 8 (.slice (some ⟨g, 0, none⟩) n c) n ((srtC d.evs l).flatMap Com.vals) := by
  have hLg : L ≤ g := own_lt h1 g rfl
  have hg : g < w.heap.size := by
    rcases h1.2 with ⟨hv, -⟩ | ⟨g', cap, cur, hv, -, hb, -⟩
    · cases hv
    · cases hv; exact (Array.getElem?_eq_some_iff.1 hb).1
  have hz : l.toArray.size = n := by simp [hl]
  have hH := own_holds (enc := Com.vals) (k := 8) (fun _ => rfl) h1 hl
  have hcmp : CmpLays Tryz.prog 118 #[.pointer (some ⟨gd, 0, none⟩)] Com.vals 8 (cmpC d.evs) g 0 l.toArray.size w := fun m os dk hs x y => by
    have hxW := swk_ext (m := m) (os := os) (dk := dk) hx hL h1
    exact (OpenC_any d h x y gd _ (hat.ext hxW) he (hBd.ext hxW)).mono fun e w' ⟨he, hx⟩ => ⟨he, hx.grow⟩
  have hcon := AnyQ.slices_SortFunc Tryz.srtCom 8 Tryz.isAgg78 Tryz.sizeOf78 Com.vals (fun _ => rfl) com_ones' (cmpC d.evs) (by rw [ltOf_C]; exact ltC_swo d.evs) 118 #[.pointer (some ⟨gd, 0, none⟩)] g 0 c l.toArray w openC_enter hcmp hH hg (by rw [hz]; exact hn)
  rw [hz, ltOf_C] at hcon
  refine Calls.mono hcon ?_
  rintro e w' ⟨rfl, d', m, os, hp, hs, rfl⟩
  obtain ⟨hsz, -, hperm⟩ := hp
  have hd : d'.size = n := by rw [hsz, hz]
  have e1 : d'.extract 0 n = d' := by rw [← hd]; exact Array.extract_size
  have e2 : l.toArray.extract 0 n = l.toArray := by rw [← hz]; exact Array.extract_size
  rw [e1, e2] at hperm
  have hu : d'.toList = srtC d.evs l := srtC_uniq (by simpa using hperm) (arr_sorted (by rw [hd]; exact hs)) hid
  have hS : SWK Com.vals 8 w g 0 d'.toList.toArray (sortWorldK Com.vals 8 w g 0 m d' os) := ⟨m, os, by simp⟩
  have hO := swk_own (enc := Com.vals) (fun _ => rfl) h1 hS (by simpa using hd)
  rw [hu] at hO
  exact ⟨rfl, swk_ext hx hL h1, hO⟩
end Go.Proofs.YtagfedbdakmlgaaGreatDoor

/-! OpnD -/
namespace Go.Proofs.YtagfedbdakmlgaaGreatDoor
set_option linter.unusedVariables false
set_option linter.unusedSimpArgs false
open Go.RowKit Go.Sort
/-- the numbers of the open comments, in order -/
def Doc.opn (d : Doc) : List Int := if d.err ≠ 0 then [] else (srtC d.evs (openL d.coms)).map (·.id)
def OpnPost (L : List Int) (w : World) (en : Ending) (w' : World) : Prop := ∃ A c, en = .returned (.slice A L.length c) ∧ IntsAt w' A L.length L ∧ L.length ≤ c ∧ Ext w w'
theorem info_i64 : (Tryz.prog.info? 2).map (fun i => (i.zero, i.size, i.bytes)) = some (some (.int .i64 0), 1, 8) := by kernel_rfl
theorem open_ids {d : Doc} (h : d.err = 0) : (openL d.coms).Pairwise fun x y => x.id ≠ y.id :=
  ((doc_v h).coms.srt.imp fun {a b} hab => by omega).sublist List.filter_sublist
set_option maxRecDepth 100000 in
set_option maxHeartbeats 1000000 in
theorem DelF_nil (c : Nat) (w : World) :
    Calls Tryz.prog 114 #[.slice none 0 c, .func (.func 116) #[] #[]] w fun en w' => en = .returned (.slice none 0 c) ∧ Ext w w' := by
  have HIx := Lib.hid (OIndex_any none 0 c [] w Sl.nil (by omega))
  have hg : goneInt [] = -1 := rfl
  rw [hg] at HIx
  clear hg
  go_enter Tryz.func114, Tryz.ntmps114
  go_wp2_with fail
  refine HIx.out.mono ?_
  rintro en w1 ⟨rfl, hx1⟩
  go_wp2_with fail
  go_ret
  exact ⟨rfl, hx1⟩
theorem SortNoneC (F : Value) (w : World) : Calls Tryz.prog 117 #[.slice none 0 0, F] w fun e w' => e = .returned (.tuple #[]) ∧ w' = w := AnyF.slices_SortFunc_none Tryz.srtCom none 0 F w
def OpLoop (l : List Int) (w : World) (v i : Value) (wr : World) : Prop := ∃ k : Nat, k ≤ l.length ∧ i = .int .i64 k ∧ Ext w wr ∧ wr.ownsRow w.heap.size 2 1 v k ((l.take k).flatMap fun x => [Value.int .i64 x])
/-- the clone of the comments without those that are done or lost, sorted -/
theorem OpenSorted_any (d : Doc) (h : DocH) (w : World) (gd : Nat) (hat : DocAt w d h) (hn : h.en ≤ 1000000) (hcn : h.cn ≤ 1000000) (hok : d.err = 0) (hBd : Blk w gd 27 (d.cells h)) {A : Option Addr} {c : Nat} {w1 : World} (hx : Ext w w1) (ho : w1.ownsRow w.heap.size 78 8 (.slice A h.cn c) h.cn (d.coms.flatMap Com.vals)) :
    Calls Tryz.prog 114 #[.slice A h.cn c, .func (.func 116) #[] #[]] w1 fun en w2 => ∃ A2 c2, en = .returned (.slice A2 (openL d.coms).length c2) ∧ Ext w w2 ∧
      Calls Tryz.prog 117 #[.slice A2 (openL d.coms).length c2, .func (.func 118) #[] #[.pointer (some ⟨gd, 0, none⟩)]] w2 fun e w3 => e = .returned (.tuple #[]) ∧ Ext w w3 ∧ w3.ownsRow w.heap.size 78 8 (.slice A2 (openL d.coms).length c2) (openL d.coms).length ((srtC d.evs (openL d.coms)).flatMap Com.vals) := by
  have hl : d.coms.length = h.cn := hat.coms.len
  rcases ho.2 with ⟨hv, hn0⟩ | ⟨g, cap, cur, hv, -⟩
  · injection hv with e1 e2 e3
    subst e1
    have hd : d.coms = [] := List.eq_nil_of_length_eq_zero (by omega)
    rw [hn0, e3, hd]
    refine (DelF_nil 0 w1).mono ?_
    rintro en w2 ⟨rfl, hx2⟩
    refine ⟨none, 0, rfl, hx.trans hx2, ?_⟩
    refine (SortNoneC (.func (.func 118) #[] #[.pointer (some ⟨gd, 0, none⟩)]) w2).mono ?_
    rintro e w3 ⟨rfl, rfl⟩
    exact ⟨rfl, hx.trans hx2, ⟨rfl, .inl ⟨rfl, rfl⟩⟩⟩
  · injection hv with e1 e2 e3
    subst e1
    refine (DelF_any hx (Nat.le_refl _) ho hl (by omega)).mono ?_
    rintro en w2 ⟨rfl, hx2, ho2⟩
    refine ⟨_, _, rfl, hx2, ?_⟩
    have hle : (openL d.coms).length ≤ h.cn := by rw [← hl]; exact List.length_filter_le _ _
    exact SortC_own (d := d) (h := h) (gd := gd) hx2 (Nat.le_refl _) ho2 rfl (by omega) hat.evs (by omega) hBd (open_ids hok)
set_option maxRecDepth 100000 in
set_option maxHeartbeats 4000000 in
theorem COpen_any (d : Doc) (h : DocH) (w : World) (hE : Env w) (hat : DocAt w d h) (hf : DocFit d) (hrn : h.rn ≤ 9223372036854775807) (hn : h.en ≤ 1000000) (hcn : h.cn ≤ 1000000) :
    Calls Tryz.prog 53 #[.agg (d.cells h)] w (OpnPost d.opn w) := by
  obtain ⟨W1, hW1⟩ : ∃ W1, W1 = w.alloc (.cells (d.cells h) 27) := ⟨_, rfl⟩
  have HX : Hid (Ext w W1) := by show Ext _ _; rw [hW1]; exact (Ext.refl w).alloc _
  have HB : Hid (Blk W1 w.heap.size 27 (d.cells h)) := by show Blk _ _ _ _; rw [hW1]; exact Blk.new w _ _
  have HCk := Lib.hid (DCheck_any d h W1 (hE.ext HX.out) (hat.ext HX.out) hf hrn hn (by omega))
  have HV1 : d.err ≠ 0 → d.opn = [] := fun h => by unfold Doc.opn; rw [if_pos h]
  have HV2 : d.err = 0 → d.opn = (srtC d.evs (openL d.coms)).map (·.id) := fun h => by unfold Doc.opn; rw [if_neg (by simpa using h)]
  have HAt := Lib.hid hat
  have HFu := Lib.hid (fun w' (hx : Ext w w') (hok : d.err = 0) (hB : Blk w' w.heap.size 27 (d.cells h)) => fun {A : Option Addr} {c : Nat} {w1 : World} => OpenSorted_any d h w' w.heap.size (hat.ext hx) hn hcn hok hB (A := A) (c := c) (w1 := w1))
  have HCl := Lib.hid (fun w' (hx : Ext w w') => CloneComs_any h.ca h.cn h.cc d.coms w' (hat.ext hx).coms (by omega))
  clear hE hat hf hrn
  obtain ⟨hra, nr, hrc, hea, hen, hec, hca, nc, hcc⟩ := h
  unfold CloneComsPost at HCl
  unfold Doc.cells at HB HCk hW1 HFu ⊢
  dsimp only at HB HCk hW1 HFu hn hcn HCl ⊢
  go_enter Tryz.func53, Tryz.ntmps53
  go_upto_region 1 with fail
  rw [← hW1]
  clear hW1
  go_wp2_with (refine wpList_loadB rfl 27 (.tmp 1) rfl (w.heap.size) 27 _ _ (by exact rfl) (by exact HB.out) Tryz.underlying27 rfl (by exact size_docI) ?_)
  refine HCk.out.mono ?_
  rintro en w2 ⟨rfl, hx2⟩
  have HX2 := Lib.hid (HX.out.trans hx2)
  have HB2 := Lib.hid (HB.out.ext hx2)
  clear hx2 HX HB HCk
  by_cases he : d.err = 0
  case neg =>
    have hne : (d.err != 0) = true := by simpa using he
    have HV := Lib.hid (HV1 he)
    clear he HV1 HV2
    go_wp2_with fail
    go_ret
    refine ⟨none, 0, ?_, ?_, ?_, HX2.out⟩ <;> rw [HV.out]
    · rfl
    · exact Sl.nil
    · exact Nat.le_refl _
  have HV := Lib.hid (HV2 he)
  have HOk := Lib.hid he
  rw [he]
  clear he HV1 HV2
  have hcb := fun o => HB2.out.cell o
  go_wp2_with fail
  refine (HCl.out _ HX2.out).mono ?_
  rintro en w3 ⟨A3, c3, rfl, ho3, hx3⟩
  have HD := Lib.hid (HFu.out w2 HX2.out HOk.out HB2.out hx3 ho3)
  clear hcb
  go_wp2_with fail
  refine HD.out.mono ?_
  rintro en w4 ⟨A4, c4, rfl, hx4, hS4⟩
  have HS4 := Lib.hid hS4
  have HB4 := Lib.hid (HB2.out.ext hx4)
  clear hS4 HD ho3 hx3
  go_wp2_with fail
  refine HS4.out.mono ?_
  rintro en w5 ⟨rfl, hx5, ho5⟩
  have hlen : (srtC d.evs (openL d.coms)).length = (openL d.coms).length := (srtC_perm _ _).length_eq
  have hl0 : d.coms.length = nc := HAt.out.coms.len
  have hle : (openL d.coms).length ≤ nc := by rw [← hl0]; exact List.length_filter_le _ _
  obtain ⟨A5, c5, hv5, hc5, -, hsl5, -⟩ := own_sl (f := Com.vals) (size := 8) (fun _ => rfl) hlen ho5
  injection hv5 with e1 e2 e3
  subst e1
  have HSl : Hid (ComsAt w5 A4 (openL d.coms).length (srtC d.evs (openL d.coms))) := hsl5
  have HX5 := Lib.hid (HX2.out.trans hx5)
  clear hx4 hx5 ho5 hsl5 HS4 HB4 HB2 HX2
  generalize (openL d.coms).length = m at *
  generalize srtC d.evs (openL d.coms) = S at *
  have hml : (S.map (·.id)).length = m := by rw [List.length_map]; exact hlen
  go_wp2_with fail
  go_loopw [4, 19] (fun v i wr => OpLoop (S.map (·.id)) w5 v i wr) (fun _ i _ => m - (intOf i).toNat)
  case atStart => exact ⟨0, Nat.zero_le _, rfl, Ext.refl _, ⟨rfl, .inl ⟨rfl, rfl⟩⟩⟩
  case round =>
    obtain ⟨k, hk, rfl, hx, hown⟩ := hrel
    have HO := Lib.hid hown
    clear hown
    by_cases hlt : k < m
    · obtain ⟨b, off, x, hA4, hxx, c0, c1, c2, c3', c4', c5', c6, c7⟩ := (HSl.out.ext hx).at8 hlt
      subst hA4
      have hids : (S.map (·.id))[k]? = some x.id := by rw [List.getElem?_map, hxx]; rfl
      have HT := Lib.hid (take_snoc' _ k _ hids)
      have hk0 : (0 : Int) ≤ (k : Int) := by omega
      have hk1 : (k : Int) < (m : Int) := by omega
      clear hxx hids
      go_upto_region 9 with fail
      clear c0 c1 c2 c3' c4' c5' c6 c7
      have HX1 := Lib.hid (hx.alloc (.cells #[.int .i64 x.id, .int .i64 x.ev, .int .i64 x.fr, .int .i64 x.til, .string x.author, .string x.text, .bool x.done, .bool x.lost] 78))
      have HO1 := Lib.hid (HO.out.alloc (.cells #[.int .i64 x.id, .int .i64 x.ev, .int .i64 x.fr, .int .i64 x.til, .string x.author, .string x.text, .bool x.done, .bool x.lost] 78))
      have HBx := Lib.hid (Blk.new wr 78 #[.int .i64 x.id, .int .i64 x.ev, .int .i64 x.fr, .int .i64 x.til, .string x.author, .string x.text, .bool x.done, .bool x.lost])
      have hszr := hx.size
      obtain ⟨Wx, hWx⟩ : ∃ Wx, Wx = wr.alloc (.cells #[.int .i64 x.id, .int .i64 x.ev, .int .i64 x.fr, .int .i64 x.til, .string x.author, .string x.text, .bool x.done, .bool x.lost] 78) := ⟨_, rfl⟩
      rw [← hWx] at HX1 HO1 HBx ⊢
      clear hWx
      have hcx := fun o => HBx.out.cell o
      have hszW := HX1.out.size
      go_wp2_with (at_builtin; refine wpList_append1 rfl (.tmp 23) (.tmp 26) 72 rfl info_i64 Tryz.underlying72 rfl (by decide) (HO1.out.alloc _) (by exact rfl) Wx.heap.size _ (by exact rfl) (by exact Blk.new' rfl) (by exact rfl) (by simp [Value.oneCell']) (by omega) (by simp [maxLen]; omega) (by simp; omega) ?_; intro v' w6 hown3 hgr)
      refine ⟨⟨k + 1, by omega, by go_num, (HX1.out.alloc _).grown hgr (fun q hq => own_lt HO1.out q hq), ?_⟩, by simp [intOf]; omega⟩
      rw [HT.out, List.flatMap_append]
      exact hown3
    · obtain rfl : k = m := by omega
      have HT : Hid ((S.map (·.id)).take k = S.map (·.id)) := List.take_of_length_le (by omega)
      have hO2 := HO.out
      rw [HT.out] at hO2
      obtain ⟨A6, c6, rfl, hc6, -, hsl, -⟩ := own_sl (f := fun x : Int => [Value.int .i64 x]) (size := 1) (fun _ => rfl) hml hO2
      have HS := Lib.hid hsl
      have HL := Lib.hid hml
      have HX7 := Lib.hid (HX5.out.trans hx)
      clear HO hO2 hsl hx hml
      go_wp2_with fail
      go_ret
      refine ⟨A6, c6, ?_, ?_, ?_, HX7.out⟩ <;> rw [HV.out, HL.out]
      · rfl
      · exact HS.out
      · exact hc6
end Go.Proofs.YtagfedbdakmlgaaGreatDoor

/-! AheadR -/
namespace Go.Proofs.YtagfedbdakmlgaaGreatDoor
set_option linter.unusedVariables false
set_option linter.unusedSimpArgs false
open Go.RowKit
set_option maxRecDepth 100000 in
set_option maxHeartbeats 4000000 in
theorem R14Ahead_any (d : Doc) (h : DocH) (x y : Com) (w : World) (hat : EvsAt w h.ea h.en d.evs) (hn : h.en ≤ 1000000) :
    Calls Tryz.prog 120 #[.agg (d.cells h), .agg #[.int .i64 x.id, .int .i64 x.ev, .int .i64 x.fr, .int .i64 x.til, .string x.author, .string x.text, .bool x.done, .bool x.lost], .agg #[.int .i64 y.id, .int .i64 y.ev, .int .i64 y.fr, .int .i64 y.til, .string y.author, .string y.text, .bool y.done, .bool y.lost]] w fun e w' => e = .returned (.bool (ltC d.evs x y)) ∧ Ext w w' := by
  obtain ⟨W3, hW3⟩ : ∃ W3, W3 = ((w.alloc (.cells (d.cells h) 27)).alloc (.cells #[.int .i64 x.id, .int .i64 x.ev, .int .i64 x.fr, .int .i64 x.til, .string x.author, .string x.text, .bool x.done, .bool x.lost] 78)).alloc (.cells #[.int .i64 y.id, .int .i64 y.ev, .int .i64 y.fr, .int .i64 y.til, .string y.author, .string y.text, .bool y.done, .bool y.lost] 78) := ⟨_, rfl⟩
  have HX : Hid (Ext w W3) := by show Ext _ _; rw [hW3]; exact (((Ext.refl w).alloc _).alloc _).alloc _
  have HBd : Hid (Blk W3 w.heap.size 27 (d.cells h)) := by show Blk _ _ _ _; rw [hW3]; exact ((Blk.new w _ _).alloc _).alloc _
  have HBx : Hid (Blk W3 (w.heap.size + 1) 78 #[.int .i64 x.id, .int .i64 x.ev, .int .i64 x.fr, .int .i64 x.til, .string x.author, .string x.text, .bool x.done, .bool x.lost]) := by show Blk _ _ _ _; rw [hW3]; exact Blk.alloc (Blk.new' (by simp)) _
  have HBy : Hid (Blk W3 (w.heap.size + 2) 78 #[.int .i64 y.id, .int .i64 y.ev, .int .i64 y.fr, .int .i64 y.til, .string y.author, .string y.text, .bool y.done, .bool y.lost]) := by show Blk _ _ _ _; rw [hW3]; exact Blk.new' (by simp)
  have HFx := Lib.hid (fun w' (hx : Ext W3 w') => R12Find_any d h x.ev w' (hat.ext (HX.out.trans hx)) hn)
  have HFy := Lib.hid (fun w' (hx : Ext W3 w') => R12Find_any d h y.ev w' (hat.ext (HX.out.trans hx)) hn)
  clear hat
  obtain ⟨hra, nr, hrc, hea, hen, hec, hca, nc, hcc⟩ := h
  unfold Doc.cells at *
  dsimp only at *
  have hST : QSt [(fun (u : Value) (_ : World) => u = .int .i64 (findI d.evs x.ev)), (fun (u : Value) (_ : World) => u = .int .i64 (findI d.evs y.ev)), (fun (u : Value) (_ : World) => u = .int .i64 (findI d.evs x.ev)), (fun (u : Value) (_ : World) => u = .int .i64 (findI d.evs y.ev))] := by
    intro p hp u w w' hx h
    simp only [List.mem_cons, List.not_mem_nil, or_false] at hp
    rcases hp with rfl | rfl | rfl | rfl <;> exact h
  go_enter Tryz.func120, Tryz.ntmps120
  go_upto_region 1 with fail
  rw [← hW3]
  clear hW3
  refine wp_region_links [some 9, some 10, some 11, some 12, some 13, some 14, some 15, some 16, some 7, some 8] [[], [], [1], [0, 2], [], [], [5], [4, 6, 3], [3, 7, 0, 1, 2, 3], [7, 8, 0, 1, 2, 3, 4, 5, 6, 7, 8]] [3, 7, 8, 9] [.agg #[.string d.title, .string d.lang, .int .u8 d.rate, .bool d.drop, .int .i64 d.last, .slice hra nr hrc, .slice hea hen hec, .slice hca nc hcc], .pointer (some ⟨w.heap.size + 1, 1, none⟩), .int .i64 x.ev, undef, .agg #[.string d.title, .string d.lang, .int .u8 d.rate, .bool d.drop, .int .i64 d.last, .slice hra nr hrc, .slice hea hen hec, .slice hca nc hcc], .pointer (some ⟨w.heap.size + 2, 1, none⟩), .int .i64 y.ev, undef, undef, undef] (QJ [(fun (u : Value) (_ : World) => u = .int .i64 (findI d.evs x.ev)), (fun (u : Value) (_ : World) => u = .int .i64 (findI d.evs y.ev)), (fun (u : Value) (_ : World) => u = .int .i64 (findI d.evs x.ev)), (fun (u : Value) (_ : World) => u = .int .i64 (findI d.evs y.ev))] W3) (by kernel_rfl) (by kernel_rfl) (by kernel_rfl) (by kernel_rfl) (by kernel_rfl) (by kernel_rfl) (by kernel_rfl) (by decide) ?_ ?_ ?_ ?_
  · exact QJ.start _ W3
  · intro i o ho hc a w' us K' hJ hF hlim hk
    match i, ho with
    | 0, ho =>
      simp only [List.getElem?_toArray, List.getElem?_cons_zero, List.getElem?_cons_succ, Option.some.injEq] at ho
      subst ho
      have e3 := hF.old 3 (.pointer (some ⟨w.heap.size, 0, none⟩)) rfl rfl
      exact wp_loadBk 27 (.tmp 3) rfl _ 27 _ _ e3 (HBd.out.ext hJ.ext) Tryz.underlying27 rfl (by exact size_docI) hk
    | 1, ho =>
      simp only [List.getElem?_toArray, List.getElem?_cons_zero, List.getElem?_cons_succ, Option.some.injEq] at ho
      subst ho
      have e4 := hF.old 4 (.pointer (some ⟨w.heap.size + 1, 0, none⟩)) rfl rfl
      simp only [Act.eval] at e4
      clear hF hlim hJ
      go_simp
      exact hk
    | 2, ho =>
      simp only [List.getElem?_toArray, List.getElem?_cons_zero, List.getElem?_cons_succ, Option.some.injEq] at ho
      subst ho
      have e10 := hF.pure 1 10 (.pointer (some ⟨w.heap.size + 1, 1, none⟩)) rfl rfl rfl rfl
      have hcl : w'.cell? ⟨w.heap.size + 1, 1, none⟩ = some (.int .i64 x.ev) := (HBx.out.ext hJ.ext).cell 1
      simp only [Act.eval] at e10
      clear hF hlim hJ
      go_simp
      exact hk
    | 3, ho => simp at hc
    | 4, ho =>
      simp only [List.getElem?_toArray, List.getElem?_cons_zero, List.getElem?_cons_succ, Option.some.injEq] at ho
      subst ho
      have e3 := hF.old 3 (.pointer (some ⟨w.heap.size, 0, none⟩)) rfl rfl
      exact wp_loadBk 27 (.tmp 3) rfl _ 27 _ _ e3 (HBd.out.ext hJ.ext) Tryz.underlying27 rfl (by exact size_docI) hk
    | 5, ho =>
      simp only [List.getElem?_toArray, List.getElem?_cons_zero, List.getElem?_cons_succ, Option.some.injEq] at ho
      subst ho
      have e5 := hF.old 5 (.pointer (some ⟨w.heap.size + 2, 0, none⟩)) rfl rfl
      simp only [Act.eval] at e5
      clear hF hlim hJ
      go_simp
      exact hk
    | 6, ho =>
      simp only [List.getElem?_toArray, List.getElem?_cons_zero, List.getElem?_cons_succ, Option.some.injEq] at ho
      subst ho
      have e14 := hF.pure 5 14 (.pointer (some ⟨w.heap.size + 2, 1, none⟩)) rfl rfl rfl rfl
      have hcl : w'.cell? ⟨w.heap.size + 2, 1, none⟩ = some (.int .i64 y.ev) := (HBy.out.ext hJ.ext).cell 1
      simp only [Act.eval] at e14
      clear hF hlim hJ
      go_simp
      exact hk
    | 7, ho => simp at hc
    | 8, ho => simp at hc
    | 9, ho => simp at hc
    | i + 10, ho => simp at ho
  · intro p c' o hp ho a w' us K' hl hJ hF hk
    match p, hp with
    | 0, hp =>
      obtain rfl : 3 = c' := by simpa using hp
      simp only [List.getElem?_toArray, List.getElem?_cons_zero, List.getElem?_cons_succ, Option.some.injEq] at ho
      subst ho
      obtain rfl : us = [] := List.eq_nil_of_length_eq_zero hl
      have e9 := hF.pure 0 9 (.agg #[.string d.title, .string d.lang, .int .u8 d.rate, .bool d.drop, .int .i64 d.last, .slice hra nr hrc, .slice hea hen hec, .slice hca nc hcc]) rfl rfl rfl rfl
      have e11 := hF.pure 2 11 (.int .i64 x.ev) rfl rfl rfl rfl
      exact wp_call2 rfl e9 e11 Tryz.call39 (HFx.out w' hJ.ext) (fun w2 hx2 => hk _ w2 (hJ.push hST hx2 (fun p hp => by cases hp; rfl)))
    | 1, hp =>
      obtain rfl : 7 = c' := by simpa using hp
      simp only [List.getElem?_toArray, List.getElem?_cons_zero, List.getElem?_cons_succ, Option.some.injEq] at ho
      subst ho
      obtain ⟨u0, rfl⟩ := list_1 hl
      have e13 := hF.pure 4 13 (.agg #[.string d.title, .string d.lang, .int .u8 d.rate, .bool d.drop, .int .i64 d.last, .slice hra nr hrc, .slice hea hen hec, .slice hca nc hcc]) rfl rfl rfl rfl
      have e15 := hF.pure 6 15 (.int .i64 y.ev) rfl rfl rfl rfl
      exact wp_call2 rfl e13 e15 Tryz.call39 (HFy.out w' hJ.ext) (fun w2 hx2 => hk _ w2 (hJ.push hST hx2 (fun p hp => by cases hp; rfl)))
    | 2, hp =>
      obtain rfl : 8 = c' := by simpa using hp
      simp only [List.getElem?_toArray, List.getElem?_cons_zero, List.getElem?_cons_succ, Option.some.injEq] at ho
      subst ho
      obtain ⟨u0, u1, rfl⟩ := list_2 hl
      have e12 := hF.link 0 3 12 _ rfl rfl rfl rfl
      have hu9 : u0 = .int .i64 (findI d.evs x.ev) := hJ.val 0 u0 _ rfl rfl
      rw [hu9] at e12
      have HK := Lib.hid (hk (.int .i64 (findI d.evs x.ev)) w' (hJ.push hST (Ext.refl _) (fun p hp => by cases hp; rfl)))
      clear hk hF hJ hu9
      simp only [Act.eval] at e12
      go_simp
      exact HK.out
    | 3, hp =>
      obtain rfl : 9 = c' := by simpa using hp
      simp only [List.getElem?_toArray, List.getElem?_cons_zero, List.getElem?_cons_succ, Option.some.injEq] at ho
      subst ho
      obtain ⟨u0, u1, u2, rfl⟩ := list_3 hl
      have e16 := hF.link 1 7 16 _ rfl rfl rfl rfl
      have hu9 : u1 = .int .i64 (findI d.evs y.ev) := hJ.val 1 u1 _ rfl rfl
      rw [hu9] at e16
      have HK := Lib.hid (hk (.int .i64 (findI d.evs y.ev)) w' (hJ.push hST (Ext.refl _) (fun p hp => by cases hp; rfl)))
      clear hk hF hJ hu9
      simp only [Act.eval] at e16
      go_simp
      exact HK.out
    | p + 4, hp => simp at hp
  intro us w9 hl hJ
  obtain ⟨u0, u1, u2, u3, rfl⟩ := list_4 hl
  first | (rename_i hK; refine hK _ _ ?_; clear hK) | (rename_i hK hK_1; refine hK _ _ ?_; clear hK) | (rename_i hK hK_1 hK_2; refine hK _ _ ?_; clear hK) | (rename_i hK hK_1 hK_2 hK_3; refine hK _ _ ?_; clear hK)
  generalize hL : frameL _ _ _ _ = L
  obtain rfl : L = [(9, .agg #[.string d.title, .string d.lang, .int .u8 d.rate, .bool d.drop, .int .i64 d.last, .slice hra nr hrc, .slice hea hen hec, .slice hca nc hcc]), (10, .pointer (some ⟨w.heap.size + 1, 1, none⟩)), (11, .int .i64 x.ev), (12, u0), (13, .agg #[.string d.title, .string d.lang, .int .u8 d.rate, .bool d.drop, .int .i64 d.last, .slice hra nr hrc, .slice hea hen hec, .slice hca nc hcc]), (14, .pointer (some ⟨w.heap.size + 2, 1, none⟩)), (15, .int .i64 y.ev), (16, u1), (7, u2), (8, u3)] := hL.symm.trans (by kernel_rfl)
  clear hL hl
  simp only [Act.put, List.foldl_cons, List.foldl_nil, List.setIfInBounds_toArray, List.set_cons_zero, List.set_cons_succ]
  have hu2 : u2 = .int .i64 (findI d.evs x.ev) := hJ.val 2 u2 _ rfl rfl
  have hu3 : u3 = .int .i64 (findI d.evs y.ev) := hJ.val 3 u3 _ rfl rfl
  subst hu2 hu3
  have HX9 := Lib.hid (HX.out.trans hJ.ext)
  have HBx9 := Lib.hid (HBx.out.ext hJ.ext)
  have HBy9 := Lib.hid (HBy.out.ext hJ.ext)
  have HL : Hid (ltC d.evs x y = decide (findI d.evs x.ev < findI d.evs y.ev ∨ findI d.evs x.ev = findI d.evs y.ev ∧ (x.fr < y.fr ∨ x.fr = y.fr ∧ x.id < y.id))) := rfl
  clear hJ hST HFx HFy HBx HBy HX
  generalize findI d.evs x.ev = a9 at *
  generalize findI d.evs y.ev = b9 at *
  have hcx := fun o => HBx9.out.cell o
  have hcy := fun o => HBy9.out.cell o
  by_cases h1 : a9 = b9
  · subst h1
    by_cases h2 : x.fr = y.fr
    · have h2b : (x.fr != y.fr) = false := by simpa using h2
      have HL2 : Hid (ltC d.evs x y = decide (x.id < y.id)) := by show _ = _; rw [HL.out]; apply decide_eq_decide.2; omega
      clear h2
      go_wp2_with fail
      go_ret
      exact ⟨ret_bool (by rw [HL2.out]), HX9.out⟩
    · have h2b : (x.fr != y.fr) = true := by simpa using h2
      have HL2 : Hid (ltC d.evs x y = decide (x.fr < y.fr)) := by show _ = _; rw [HL.out]; apply decide_eq_decide.2; omega
      clear h2
      go_wp2_with fail
      go_ret
      exact ⟨ret_bool (by rw [HL2.out]), HX9.out⟩
  · have h1b : (a9 != b9) = true := by simpa using h1
    have HL2 : Hid (ltC d.evs x y = decide (a9 < b9)) := by show _ = _; rw [HL.out]; apply decide_eq_decide.2; omega
    clear h1
    go_wp2_with fail
    go_ret
    exact ⟨ret_bool (by rw [HL2.out]), HX9.out⟩
end Go.Proofs.YtagfedbdakmlgaaGreatDoor

/-! AllocS -/
namespace Go.Proofs.YtagfedbdakmlgaaGreatDoor
set_option linter.unusedVariables false
set_option linter.unusedSimpArgs false
open Go.RowKit
def valS (av : Nat → Nat → Value) (chain al : List Nat) (pv us : List Value) (gs : Nat → Option Nat) (j : Nat) : Value :=
  match chain.idxOf? j with
  | some i => us.getD i undef
  | none => if al.contains j then ((gs j).map (av j)).getD undef else pv.getD j undef
def AlInvS (av : Nat → Nat → Value) (ops : Array Oper) (chain al : List Nat) (pv : List Value) (a0 : Act) (J : List Value → (Nat → Option Nat) → World → Prop) (l : Array Bool) (a : Act) (w : World) : Prop :=
  l.size = ops.size ∧ a.defers = a0.defers ∧ a.tmps.size = a0.tmps.size ∧ (∀ s, (∀ j, dstO ops j = some s → l.getD j false = false) → a.tmps[s]? = a0.tmps[s]?) ∧
  (∀ j o, l.getD j false = true → ops[j]? = some o → ∀ d ∈ o.after, Region.binds .any d = true → l.getD d.on false = true) ∧
  ∃ (us : List Value) (gs : Nat → Option Nat), us.length ≤ chain.length ∧ (∀ i c, chain[i]? = some c → (l.getD c false = true ↔ i < us.length)) ∧ (∀ j, al.contains j = true → (l.getD j false = true ↔ (gs j).isSome = true)) ∧
    (∀ j s, l.getD j false = true → dstO ops j = some s → a.tmps[s]? = some (valS av chain al pv us gs j)) ∧ J us gs w
/-- what an operation finds in the frame, by the region's tables -/
structure SeesS (av : Nat → Nat → Value) (slots : List (Option Nat)) (deps : List (List Nat)) (chain al : List Nat) (pv us : List Value) (gs : Nat → Option Nat) (a0 a : Act) (i : Nat) : Prop where
  old : ∀ (s : Nat) (v : Value), slots.contains (some s) = false → a0.eval (.tmp s) = v → a.eval (.tmp s) = v
  pure : ∀ (j s : Nat) (v : Value), (deps.getD i []).contains j = true → slots[j]? = some (some s) → chain.contains j = false → al.contains j = false → pv[j]? = some v → a.eval (.tmp s) = v
  link : ∀ (p j s : Nat) (v : Value), chain[p]? = some j → (deps.getD i []).contains j = true → slots[j]? = some (some s) → us[p]? = some v → a.eval (.tmp s) = v
  ptr : ∀ (j s : Nat), (deps.getD i []).contains j = true → slots[j]? = some (some s) → chain.contains j = false → al.contains j = true → ∃ g, gs j = some g ∧ a.eval (.tmp s) = av j g
  made : ∀ (j : Nat), (deps.getD i []).contains j = true → al.contains j = true → (gs j).isSome = true
  did : ∀ (p j : Nat), chain[p]? = some j → (deps.getD i []).contains j = true → p < us.length
  olds : ∀ (p j s : Nat) (v : Value), chain[p]? = some j → slots[j]? = some (some s) → us.length ≤ p → a0.eval (.tmp s) = v → a.eval (.tmp s) = v
def frameS (av : Nat → Nat → Value) (ops : Array Oper) (chain al : List Nat) (pv us : List Value) (gs : Nat → Option Nat) : List (Nat × Value) := (List.range ops.size).filterMap fun j => (dstO ops j).map fun s => (s, valS av chain al pv us gs j)
theorem wp_region_allocS {P : Program} {ops : Array Oper} {Q : Exit → Act → World → Prop} {id : Nat} {a0 : Act} {W : World} (slots : List (Option Nat)) (deps : List (List Nat)) (chain al : List Nat) (pv : List Value) (av : Nat → Nat → Value) (obj : Nat → Obj) (J : List Value → (Nat → Option Nat) → World → Prop) (hm : P.follows .mixedOrders = true) (hdst : dstOK2 ops a0.tmps.size = true) (hord : ordB 0 ops.toList = true)
    (hs : ops.toList.map (·.dst) = slots) (hd : ops.toList.map depsOf = deps) (hg : ops.toList.all (fun o => o.guard.isNone) = true) (hch : chainB ops chain = true) (hnd : chain.Nodup) (hal : (al.all fun j => decide (j < ops.size) && !chain.contains j) = true) (h0 : J [] (fun _ => none) W.drew)
    (halloc : ∀ (i : Nat) (o : Oper), ops[i]? = some o → al.contains i = true → ∀ (a : Act) (w : World) (us : List Value) (gs : Nat → Option Nat) (K : Act → World → Prop), SeesS av slots deps chain al pv us gs a0 a i → K (a.put o.dst (av i w.heap.size)) (w.alloc (obj i)) → Oper.wp P o a w K Q)
    (hJal : ∀ (i : Nat), al.contains i = true → ∀ us gs w, J us gs w → gs i = none → (∀ p c, chain[p]? = some c → (deps.getD c []).contains i = true → us.length ≤ p) → J us (upd gs i w.heap.size) (w.alloc (obj i)))
    (hpure : ∀ (i : Nat) (o : Oper), ops[i]? = some o → chain.contains i = false → al.contains i = false → ∀ (a : Act) (w : World) (us : List Value) (gs : Nat → Option Nat) (K : Act → World → Prop), J us gs w → SeesS av slots deps chain al pv us gs a0 a i → (∀ p c, chain[p]? = some c → (deps.getD c []).contains i = true → us.length ≤ p) → K (a.put o.dst (pv.getD i undef)) w → Oper.wp P o a w K Q)
    (hlink : ∀ (p c : Nat) (o : Oper), chain[p]? = some c → ops[c]? = some o → ∀ (a : Act) (w : World) (us : List Value) (gs : Nat → Option Nat) (K : Act → World → Prop), us.length = p → J us gs w → SeesS av slots deps chain al pv us gs a0 a c → (∀ v w', J (us ++ [v]) gs w' → K (a.put o.dst v) w') → Oper.wp P o a w K Q)
    (hQ : ∀ us gs w, us.length = chain.length → (∀ j, al.contains j = true → (gs j).isSome = true) → J us gs w → Q .normal { a0 with tmps := (frameS av ops chain al pv us gs).foldl (fun t p => t.setIfInBounds p.1 p.2) a0.tmps } w) :
    (Code.region id ops true).wp P Q a0 W := by
  have hgd : ∀ (i : Nat) (o : Oper), ops[i]? = some o → o.guard = none := fun i o ho => by
    have := List.all_eq_true.1 hg o (by simpa using Array.mem_of_getElem? ho)
    simpa using this
  have hdep : ∀ (i : Nat) (o : Oper), ops[i]? = some o → deps.getD i [] = depsOf o := fun i o ho => by
    rw [← hd, List.getD_eq_getElem?_getD, List.getElem?_map]
    have : ops.toList[i]? = some o := by simpa using ho
    rw [this]; rfl
  have hsl : ∀ j s, slots[j]? = some (some s) → dstO ops j = some s := fun j s h => by
    rw [← hs, List.getElem?_map, Option.map_eq_some_iff] at h
    obtain ⟨o', h1, h2⟩ := h
    have h1' : ops[j]? = some o' := by simpa using h1
    simp [dstO, h1', h2]
  have hallt : ∀ j, al.contains j = true → j < ops.size ∧ chain.contains j = false := fun j hj => by
    have := List.all_eq_true.1 hal j (by simpa using hj)
    simpa using this
  refine wp_region_any hm ?_
  refine wpAny_inv (AlInvS av ops chain al pv a0 J) (fun l a w h => h.1) ?_ (hordB hord) ?_ _ _ _ _ (by simp) ?_
  · intro l a w hI i o ho hl hall K hK
    obtain ⟨hsz0, hdf, hsz, hnot, hcl, us, gs, hul, hcu, hga, hval, hJ⟩ := hI
    have hi : i < ops.size := (Array.getElem?_eq_some_iff.1 ho).1
    have hnl := not_listed hl
    have hself : (l.setIfInBounds i true).getD i false = true := getD_set_self (by omega)
    have hdone : ∀ j, (deps.getD i []).contains j = true → l.getD j false = true := fun j hj => by
      rw [hdep i o ho] at hj
      obtain ⟨d, hd1, hd2, hd3⟩ := edge_of (edge_deps hj)
      rw [← hd3]
      exact hall d hd1 hd2
    have hfind : SeesS av slots deps chain al pv us gs a0 a i := by
      refine ⟨fun s v hc hv => ?_, fun j s v he hj hc ha hv => ?_, fun p j s v hp he hj hv => ?_, fun j s he hj hc ha => ?_, fun j he ha => (hga j ha).1 (hdone j he), fun p j hp he => (hcu p j hp).1 (hdone j he), fun p j s v hp hj hl0 hv => by
        have := hnot s fun j' hj' => by
          have e : j' = j := dst_inj hdst hj' (hsl j s hj)
          subst e
          cases hx : l.getD j' false
          · rfl
          · exact absurd ((hcu p _ hp).1 hx) (by omega)
        rw [← hv]
        simp [Act.eval, this]⟩
      · have hn : some s ∉ ops.toList.map (·.dst) := by rw [hs]; simpa using hc
        have := hnot s (fun j hj => by
          unfold dstO at hj
          rw [Option.bind_eq_some_iff] at hj
          obtain ⟨o', h1, h2⟩ := hj
          exact absurd (List.mem_map.2 ⟨o', by simpa using Array.mem_of_getElem? h1, h2⟩) hn)
        rw [← hv]
        simp [Act.eval, this]
      · refine eval_of ?_
        rw [hval j s (hdone j he) (hsl j s hj)]
        have : chain.idxOf? j = none := idxOf_none (by simpa using hc)
        simp only [valS, this, ha]
        simp [hv]
      · refine eval_of ?_
        rw [hval j s (hdone j he) (hsl j s hj)]
        have : chain.idxOf? j = some p := idxOf_some hnd hp
        simp only [valS, this]
        simp [hv]
      · obtain ⟨g, hg'⟩ := Option.isSome_iff_exists.1 ((hga j ha).1 (hdone j he))
        refine ⟨g, hg', eval_of ?_⟩
        rw [hval j s (hdone j he) (hsl j s hj)]
        have : chain.idxOf? j = none := idxOf_none (by simpa using hc)
        simp only [valS, this, ha, hg']
        rfl
    have hclosed : ∀ j o', (l.setIfInBounds i true).getD j false = true → ops[j]? = some o' → ∀ d ∈ o'.after, Region.binds .any d = true → (l.setIfInBounds i true).getD d.on false = true := by
      intro j o' hj ho' d hd hb
      have mono : ∀ k, l.getD k false = true → (l.setIfInBounds i true).getD k false = true := fun k hk => by
        by_cases hik : i = k
        · subst hik; exact hself
        · rw [getD_set_other hik]; exact hk
      by_cases hij : i = j
      · subst hij
        rw [ho] at ho'
        cases ho'
        exact mono _ (hall d hd hb)
      · rw [getD_set_other hij] at hj
        exact mono _ (hcl j o' hj ho' d hd hb)
    have hput : ∀ v s, (∀ j, dstO ops j = some s → (l.setIfInBounds i true).getD j false = false) → (a.put o.dst v).tmps[s]? = a0.tmps[s]? := fun v s hsn => by
      have hsn' : ∀ j, dstO ops j = some s → l.getD j false = false := fun j hj => by
        have h1 := hsn j hj
        by_cases hij : i = j
        · subst hij; rw [hself] at h1; cases h1
        · rwa [getD_set_other hij] at h1
      cases hd : o.dst with
      | none => simp only [Act.put]; exact hnot s hsn'
      | some t =>
        have : dstO ops i = some t := by unfold dstO; rw [ho]; exact hd
        have hts : t ≠ s := fun e => by
          have h1 := hsn i (by rw [this, e])
          rw [hself] at h1; cases h1
        simp only [Act.put]
        rw [Array.getElem?_setIfInBounds_ne hts]
        exact hnot s hsn'
    have hputd : ∀ v, (a.put o.dst v).defers = a0.defers ∧ (a.put o.dst v).tmps.size = a0.tmps.size := fun v => by
      cases hd : o.dst with
      | none => exact ⟨hdf, hsz⟩
      | some t => exact ⟨hdf, by simpa [Act.put] using hsz⟩
    have hputv : ∀ us' gs' v, valS av chain al pv us' gs' i = v → (∀ j, l.getD j false = true → valS av chain al pv us' gs' j = valS av chain al pv us gs j) → ∀ j s, (l.setIfInBounds i true).getD j false = true → dstO ops j = some s → (a.put o.dst v).tmps[s]? = some (valS av chain al pv us' gs' j) := by
      intro us' gs' v hv hsame j s hj hd
      by_cases hij : i = j
      · subst hij
        have hod : o.dst = some s := by unfold dstO at hd; rw [ho] at hd; exact hd
        rw [hod, hv]
        have := dst_lt hdst hd
        simp [Act.put, hsz, this]
      · rw [getD_set_other hij] at hj
        rw [hsame j hj]
        cases hod : o.dst with
        | none => simp only [Act.put]; exact hval j s hj hd
        | some t =>
          have h1 : dstO ops i = some t := by unfold dstO; rw [ho]; exact hod
          have hts : t ≠ s := fun e => hij (dst_inj hdst h1 (by rw [hd, e]))
          simp only [Act.put]
          rw [Array.getElem?_setIfInBounds_ne hts]
          exact hval j s hj hd
    have hlim : i ∉ chain → ∀ p c, chain[p]? = some c → (deps.getD c []).contains i = true → us.length ≤ p := fun hic p c hp he => by
      rcases Nat.lt_or_ge p us.length with h | h
      · have hclt := chainB_lt hch hp
        have hoc : ops[c]? = some ops[c] := by simp [hclt]
        rw [hdep c _ hoc] at he
        obtain ⟨d, hd1, hd2, hd3⟩ := edge_of (edge_deps he)
        have := hcl c _ ((hcu p c hp).2 h) hoc d hd1 hd2
        rw [hd3, hnl] at this
        cases this
      · exact h
    refine want_none (hgd i o ho) ?_
    by_cases hc : i ∈ chain
    · obtain ⟨p, hp⟩ := List.getElem?_of_mem hc
      have hle : us.length ≤ p := by
        rcases Nat.lt_or_ge p us.length with h | h
        · have := (hcu p i hp).2 h
          rw [hnl] at this
          cases this
        · exact h
      have hge : p ≤ us.length := by
        cases p with
        | zero => omega
        | succ q =>
          have hpl := (List.getElem?_eq_some_iff.1 hp).1
          have hq : chain[q]? = some chain[q] := List.getElem?_eq_getElem (by omega)
          obtain ⟨o', ho', he⟩ := chainB_edge hch hq hp
          rw [ho] at ho'
          cases ho'
          obtain ⟨d, hd1, hd2, hd3⟩ := edge_of he
          have := (hcu q _ hq).1 (by rw [← hd3]; exact hall d hd1 hd2)
          omega
      have hpl := (List.getElem?_eq_some_iff.1 hp).1
      refine hlink p i o hp ho a w us gs K (by omega) hJ hfind (fun v w' hJ' => ?_)
      apply hK
      have hlen : (us ++ [v]).length = us.length + 1 := by simp
      refine ⟨by simpa using hsz0, (hputd v).1, (hputd v).2, hput v, hclosed, us ++ [v], gs, by rw [hlen]; omega, fun q c hq => ?_, fun j hj => ?_, hputv _ gs v ?_ ?_, hJ'⟩
      · rw [hlen]
        by_cases hic : i = c
        · subst hic
          have : q = p := by
            have h1 := idxOf_some hnd hq
            have h2 := idxOf_some hnd hp
            rw [h1] at h2
            exact Option.some.inj h2
          rw [hself]
          simp
          omega
        · rw [getD_set_other hic, hcu q c hq]
          have : q ≠ p := fun e => hic (by rw [e, hp] at hq; exact Option.some.inj hq)
          omega
      · have : i ≠ j := fun e => by
          have := (hallt j hj).2
          rw [← e] at this
          exact absurd hc (by simpa using this)
        rw [getD_set_other this]
        exact hga j hj
      · simp only [valS, idxOf_some hnd hp]
        rw [List.getD_eq_getElem?_getD, List.getElem?_append_right (by omega)]
        have : p - us.length = 0 := by omega
        simp [this]
      · intro j hj
        unfold valS
        cases hx : chain.idxOf? j with
        | none => rfl
        | some q =>
          have hq : chain[q]? = some j := by
            obtain ⟨h1, h2, _⟩ := List.idxOf?_eq_some_iff.1 hx
            rw [List.getElem?_eq_getElem h1, h2]
          have := (hcu q j hq).1 hj
          simp only [List.getD_eq_getElem?_getD]
          rw [List.getElem?_append_left this]
    · have hcf : chain.contains i = false := by simpa using hc
      have hcq : ∀ q c, chain[q]? = some c → ((l.setIfInBounds i true).getD c false = true ↔ q < us.length) := fun q c hq => by
        have : i ≠ c := fun e => hc (by rw [e]; exact List.mem_of_getElem? hq)
        rw [getD_set_other this]
        exact hcu q c hq
      cases ha : al.contains i with
      | true =>
        have hgn : gs i = none := by
          have := hga i ha
          rw [hnl] at this
          cases h : gs i with
          | none => rfl
          | some g => rw [h] at this; simp at this
        refine halloc i o ho ha a w us gs K hfind ?_
        apply hK
        refine ⟨by simpa using hsz0, (hputd _).1, (hputd _).2, hput _, hclosed, us, upd gs i w.heap.size, hul, hcq, fun j hj => ?_, hputv us _ _ ?_ (fun j hj => ?_), hJal i ha us gs w hJ hgn (hlim hc)⟩
        · by_cases hij : j = i
          · subst hij
            rw [hself, upd_self]
            simp
          · rw [getD_set_other (Ne.symm hij), upd_other _ hij]
            exact hga j hj
        · simp only [valS, idxOf_none hc, ha, upd_self]
          rfl
        · have hij : j ≠ i := fun e => by rw [e, hnl] at hj; cases hj
          simp only [valS, upd_other _ hij]
      | false =>
        refine hpure i o ho hcf ha a w us gs K hJ hfind (hlim hc) ?_
        apply hK
        refine ⟨by simpa using hsz0, (hputd _).1, (hputd _).2, hput _, hclosed, us, gs, hul, hcq, fun j hj => ?_, hputv us gs _ ?_ (fun _ _ => rfl), hJ⟩
        · have : i ≠ j := fun e => by rw [e, hj] at ha; cases ha
          rw [getD_set_other this]
          exact hga j hj
        · simp only [valS, idxOf_none hc, ha]
          rfl
  · rintro l a w ⟨hsz0, hdf, hsz, hnot, hcl, us, gs, hul, hcu, hga, hval, hJ⟩ hall
    have hlen : us.length = chain.length := by
      rcases Nat.lt_or_ge us.length chain.length with h | h
      · have hq : chain[us.length]? = some chain[us.length] := List.getElem?_eq_getElem h
        have := (hcu _ _ hq).1 (hall _ (chainB_lt hch hq))
        omega
      · omega
    have hfr := frame_eq (a0 := a0.tmps) (frameS av ops chain al pv us gs) a.tmps a0.tmps hsz (fun p hp => by
      obtain ⟨j, hj, hv⟩ := List.mem_filterMap.1 hp
      rw [Option.map_eq_some_iff] at hv
      obtain ⟨s, hd, rfl⟩ := hv
      exact hval j s (hall j (by simpa using hj)) hd) (fun s hsn => hnot s fun j hj => absurd (by
        have hjl : j < ops.size := by
          unfold dstO at hj
          rw [Option.bind_eq_some_iff] at hj
          obtain ⟨o', h1, _⟩ := hj
          exact (Array.getElem?_eq_some_iff.1 h1).1
        rw [List.mem_map]
        exact ⟨(s, valS av chain al pv us gs j), List.mem_filterMap.2 ⟨j, by simpa using hjl, by rw [hj]; rfl⟩, rfl⟩) hsn)
    have : a = { a0 with tmps := (frameS av ops chain al pv us gs).foldl (fun t p => t.setIfInBounds p.1 p.2) a0.tmps } := by
      obtain ⟨at_, ad⟩ := a
      simp only at hfr hdf
      rw [hfr, hdf]
    rw [this]
    exact hQ us gs w hlen (fun j hj => (hga j hj).1 (hall j (hallt j hj).1)) hJ
  · refine ⟨by simp, rfl, rfl, fun _ _ => rfl, fun j o h => ?_, [], fun _ => none, by simp, fun i c hc => ?_, fun j hj => ?_, fun j s h => ?_, h0⟩
    · simp [Array.getElem?_replicate] at h
      split at h <;> simp at h
    · have : (Array.replicate ops.size false).getD c false = false := by
        simp [Array.getElem?_replicate]
        split <;> rfl
      rw [this]
      simp
    · have : (Array.replicate ops.size false).getD j false = false := by
        simp [Array.getElem?_replicate]
        split <;> rfl
      rw [this]
      simp
    · simp [Array.getElem?_replicate] at h
      split at h <;> simp at h
end Go.Proofs.YtagfedbdakmlgaaGreatDoor

/-! SortR -/
namespace Go.Proofs.YtagfedbdakmlgaaGreatDoor
set_option linter.unusedVariables false
set_option linter.unusedSimpArgs false
open Go.RowKit
theorem sl_take {α : Type} {C : World → Nat → Nat → α → Prop} {w : World} {s : Nat} {A : Option Addr} {n j : Nat} {l : List α} (h : Sl w s C A n l) (hj : j ≤ n) : Sl w s C A j (l.take j) := by
  refine ⟨by rw [List.length_take, h.1]; omega, fun h0 => ?_⟩
  obtain ⟨b, off, hA, hc⟩ := h.2 (by omega)
  refine ⟨b, off, hA, fun i x hx => hc i x ?_⟩
  rw [List.getElem?_take] at hx
  split at hx
  · exact hx
  · cases hx
theorem sl_drop {α : Type} {C : World → Nat → Nat → α → Prop} {w : World} {s g c n j : Nat} {l : List α} (h : Sl w s C (some ⟨g, 0, none⟩) n l) (hj : j ≤ n) (hc : n ≤ c) : Sl w s C (if c = j then (some ⟨g, 0, none⟩ : Option Addr) else some ⟨g, j * s, none⟩) (n - j) (l.drop j) := by
  refine ⟨by rw [List.length_drop, h.1], fun h0 => ?_⟩
  obtain ⟨b, off, hA, hC⟩ := h.2 (by omega)
  cases hA
  refine ⟨g, j * s, by rw [if_neg (by omega)], fun i x hx => ?_⟩
  rw [List.getElem?_drop] at hx
  have := hC (j + i) x hx
  rwa [Nat.zero_add, Nat.add_mul] at this
/-- the three appends around the copy of an event, in a drawn region -/
def InsJ (W : World) (hs : List EH) (j m : Nat) (x : Ev) (n' : Nat) (us : List Value) (w' : World) : Prop := Ext W w' ∧ match us with
  | [] => True
  | [u0] => w'.ownsRow W.heap.size 66 7 u0 j ((hs.take j).flatMap EH.vals)
  | [u0, u1] => w'.ownsRow W.heap.size 66 7 u0 j ((hs.take j).flatMap EH.vals) ∧ ∃ A5 c5, u1 = .agg (x.cells A5 n' c5) ∧ n' ≤ c5 ∧ RowsFresh w' W.heap.size A5 n' x.rows
  | [u0, _, u2] => w'.ownsRow W.heap.size 66 7 u0 j ((hs.take j).flatMap EH.vals) ∧ ∃ A5 c5 g5, n' ≤ c5 ∧ RowsFresh w' W.heap.size A5 n' x.rows ∧ u2 = .slice (some ⟨g5, 0, none⟩) 1 1 ∧ Blk w' g5 66 (x.cells A5 n' c5)
  | [_, _, _, u3] => ∃ A5 c5, n' ≤ c5 ∧ RowsFresh w' W.heap.size A5 n' x.rows ∧ w'.ownsRow W.heap.size 66 7 u3 (j + 1) ((hs.take j).flatMap EH.vals ++ (x.cells A5 n' c5).toList)
  | [_, _, _, _, u4] => ∃ A5 c5, n' ≤ c5 ∧ RowsFresh w' W.heap.size A5 n' x.rows ∧ w'.ownsRow W.heap.size 66 7 u4 (j + 1 + m) ((hs.take j).flatMap EH.vals ++ (x.cells A5 n' c5).toList ++ (hs.drop j).flatMap EH.vals)
  | [_, _, _, _, u4, u5] => u5 = u4 ∧ ∃ A5 c5, n' ≤ c5 ∧ RowsFresh w' W.heap.size A5 n' x.rows ∧ w'.ownsRow W.heap.size 66 7 u4 (j + 1 + m) ((hs.take j).flatMap EH.vals ++ (x.cells A5 n' c5).toList ++ (hs.drop j).flatMap EH.vals)
  | _ => False
/-- the search for an event's place -/
def InsRel (M : List Ev) (x : Ev) (k : Nat) (W : World) (s6 : Value) (wr : World) : Prop := ∃ j : Nat, s6 = .int .i64 j ∧ j ≤ k ∧ Ext W wr ∧ (∀ (p : Nat) (y : Ev), j ≤ p → M[p]? = some y → lessB x y = true)
def RSortLoop (l : List Ev) (n : Nat) (w : World) (v i : Value) (wr : World) : Prop := ∃ k : Nat, k ≤ n ∧ i = .int .i64 k ∧ Ext w wr ∧ EvsOwn wr w.heap.size v k (srtE (l.take k))
end Go.Proofs.YtagfedbdakmlgaaGreatDoor
