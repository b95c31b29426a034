/- Laid together: What Insert, Put, Remove and Shift lead to is accepted again, with the other events as they were: plainly. slices.SortFunc of comments, at the comparison of comment.Open. The walk of comment.Open. Arguments of chapter 14 (and 12), opened: a remark, numbers, strings. The characters of a text that is laid together of valid ones: an accepted event's length is the number of characters of its text. What the law DocumentValid asks of Insert, Put, Remove and Shift: plainly. -/
import Derived.Test.YtagfedbdakmlgaaGreatDoorSt15
import Derived.Test.YtagfedbdakmlgaaGreatDoorSt16
import Derived.Test.YtagfedbdakmlgaaGreatDoorSt18
import Derived.Shelf.SlSortCmp.WholeK
import Derived.Shelf.SlSortCmp.NoneTotal
import Derived.Test.YtagfedbdakmlgaaGreatDoorSt08
import Derived.Test.YtagfedbdakmlgaaGreatDoorSt10
import Derived.Test.YtagfedbdakmlgaaGreatDoorSt12

/-! ValP -/
namespace Go.Proofs.YtagfedbdakmlgaaGreatDoor
set_option linter.unusedVariables false
set_option linter.unusedSimpArgs false
open Go.RowKit
theorem insS_perm {α : Type} {lt : α → α → Bool} (x : α) : ∀ l : List α, (Stb.insS lt x l).Perm (x :: l)
  | [] => .refl _
  | y :: l => by
    unfold Stb.insS
    split
    · exact .refl _
    · exact ((insS_perm x l).cons y).trans (.swap x y l)
theorem foldS_perm {α : Type} {lt : α → α → Bool} : ∀ (l acc : List α), (l.foldl (fun acc x => Stb.insS lt x acc) acc).Perm (acc ++ l)
  | [], acc => by simp
  | x :: l, acc => by
    rw [List.foldl_cons]
    refine (foldS_perm l _).trans ?_
    refine ((insS_perm x acc).append_right l).trans ?_
    rw [List.cons_append]
    exact List.perm_middle.symm
theorem srtE_perm (l : List Ev) : (srtE l).Perm l := by
  have := foldS_perm (lt := lessB) l []
  simpa [srtE, Stb.sortS] using this
theorem less_or {x y : Ev} (h : lessB y x = false) (hne : x.id ≠ y.id) : lessB x y = true := by
  unfold lessB at *
  simp only [decide_eq_true_eq, decide_eq_false_iff_not] at *
  omega
theorem less_tr {x y z : Ev} (h : lessB x y = true) (k : lessB y z = true) : lessB x z = true := by
  unfold lessB at *
  simp only [decide_eq_true_eq] at *
  omega
structure EvsV (regs : List Reg) (last : Int) (l : List Ev) : Prop where
  each : ∀ x ∈ l, x.err regs = 0 ∧ x.id ≤ last
  srt : l.Pairwise fun x y => lessB x y = true
  ids : l.Pairwise fun x y => x.id ≠ y.id
theorem findE_none {l : List Ev} {id : Int} (h : findE l id = none) : ∀ e ∈ l, e.id ≠ id := fun e he => by
  have := List.findIdx?_eq_none_iff.1 h e he
  simpa using this
theorem none_findE {l : List Ev} {id : Int} (h : ∀ e ∈ l, e.id ≠ id) : findE l id = none :=
  List.findIdx?_eq_none_iff.2 fun e he => by simpa using h e he
theorem findE_mem {l : List Ev} {id : Int} {k : Nat} (h : findE l id = some k) : ∃ e, l[k]? = some e ∧ e ∈ l ∧ e.id = id := by
  obtain ⟨hk, h1, -⟩ := List.findIdx?_eq_some_iff_getElem.1 h
  exact ⟨l[k], List.getElem?_eq_getElem hk, List.getElem_mem hk, by simpa using h1⟩
theorem pair_ids {l : List Ev} (h : l.Pairwise fun x y => x.id ≠ y.id) {x y : Ev} (hx : x ∈ l) (hy : y ∈ l) (he : x.id = y.id) : x = y := by
  obtain ⟨i, hi, rfl⟩ := List.mem_iff_getElem.1 hx
  obtain ⟨j, hj, rfl⟩ := List.mem_iff_getElem.1 hy
  rw [List.pairwise_iff_getElem] at h
  rcases Nat.lt_trichotomy i j with c | c | c
  · exact absurd he (h i j hi hj c)
  · subst c; rfl
  · exact absurd he.symm (h j i hj hi c)
theorem mem_findE {l : List Ev} (h : l.Pairwise fun x y => x.id ≠ y.id) {x : Ev} (hx : x ∈ l) : ∃ k, findE l x.id = some k ∧ l[k]? = some x := by
  cases hf : findE l x.id with
  | none => exact absurd rfl (findE_none hf x hx)
  | some k =>
    obtain ⟨e, h1, h2, h3⟩ := findE_mem hf
    exact ⟨k, rfl, by rw [h1, pair_ids h h2 hx h3]⟩
theorem evs_v {regs : List Reg} {last : Int} {l : List Ev} (h : evsLoop regs last [] l = 0) : EvsV regs last l := by
  have hk := evs_ok h
  have hids : ∀ i j (hi : i < l.length) (hj : j < l.length), i < j → l[i].id ≠ l[j].id := fun i j hi hj hij => by
    have := (hk j l[j] (List.getElem?_eq_getElem hj)).2.2.2
    rw [List.nil_append] at this
    exact findE_none this l[i] (List.mem_of_getElem? (i := i) (by rw [List.getElem?_take, if_pos hij]; exact List.getElem?_eq_getElem hi))
  refine ⟨fun x hx => ?_, ?_, List.pairwise_iff_getElem.2 hids⟩
  · obtain ⟨i, hi⟩ := List.getElem?_of_mem hx
    exact ⟨(hk i x hi).1, (hk i x hi).2.1⟩
  · have hs : ∀ j (hj : j + 1 < l.length), lessB l[j] l[j + 1] = true := fun j hj => by
      have h1 := (hk (j + 1) l[j + 1] (List.getElem?_eq_getElem hj)).2.2.1
      rw [List.nil_append, List.getLast?_eq_getElem?, List.length_take, Nat.min_eq_left (by omega), List.getElem?_take, if_pos (by omega), Nat.add_sub_cancel, List.getElem?_eq_getElem (show j < l.length by omega)] at h1
      simpa using h1
    have hd : ∀ d i (hj : i + d + 1 < l.length), lessB (l[i]'(by omega)) l[i + d + 1] = true := by
      intro d
      induction d with
      | zero => intro i hj; exact hs i hj
      | succ d ih => intro i hj; exact less_tr (ih i (by omega)) (hs (i + d + 1) hj)
    refine List.pairwise_iff_getElem.2 fun i j hi hj hij => ?_
    have := hd (j - i - 1) i (by omega)
    have e : i + (j - i - 1) + 1 = j := by omega
    simp only [e] at this
    exact this
theorem v_evs {regs : List Reg} {last : Int} {l : List Ev} (h : EvsV regs last l) : evsLoop regs last [] l = 0 := by
  refine evs_all fun k x hx => ?_
  obtain ⟨hk, hxk⟩ := List.getElem?_eq_some_iff.1 hx
  have hm := h.each x (List.mem_of_getElem? hx)
  unfold evErr
  rw [List.nil_append, if_neg (by simpa using hm.1), if_neg (by omega), if_neg, if_neg]
  · rw [none_findE (fun e he => ?_)]
    · simp
    · obtain ⟨i, hi, he'⟩ := List.mem_take_iff_getElem.1 he
      have := List.pairwise_iff_getElem.1 h.ids i k (by omega) hk (by omega)
      rw [he', hxk] at this
      exact this
  · intro hc
    cases k with
    | zero => simp at hc
    | succ j =>
      rw [List.getLast?_eq_getElem?, List.length_take, Nat.min_eq_left (by omega), List.getElem?_take, if_pos (by omega), Nat.add_sub_cancel, List.getElem?_eq_getElem (show j < l.length by omega)] at hc
      have := List.pairwise_iff_getElem.1 h.srt j (j + 1) (by omega) hk (by omega)
      rw [hxk] at this
      simp [this] at hc
theorem EvsV.sorted {regs : List Reg} {last : Int} {l : List Ev} (h : ∀ x ∈ l, x.err regs = 0 ∧ x.id ≤ last) (hi : l.Pairwise fun x y => x.id ≠ y.id) : EvsV regs last (srtE l) := by
  have hp := srtE_perm l
  have hi' : (srtE l).Pairwise fun x y => x.id ≠ y.id := (hp.pairwise_iff (fun {x y} (h : x.id ≠ y.id) => Ne.symm h)).2 hi
  refine ⟨fun x hx => h x (hp.mem_iff.1 hx), ?_, hi'⟩
  have hs := (Stb.sortS_spec lessB_sw l).1
  exact (hs.and hi').imp fun {x y} ⟨h1, h2⟩ => less_or h1 h2
structure ComV (last : Int) (evs : List Ev) (c : Com) : Prop where
  id1 : 1 ≤ c.id
  id2 : c.id ≤ last
  free : ∀ e ∈ evs, e.id ≠ c.id
  ev1 : 1 ≤ c.ev
  ev2 : c.ev ≤ last
  lostV : c.lost = true → c.fr = 0 ∧ c.til = 0
  anch : c.lost = false → ∃ e ∈ evs, e.id = c.ev ∧ 0 ≤ c.fr ∧ c.fr < c.til ∧ c.til ≤ e.len
  rest : nameB c.author = true ∧ vld c.text = true ∧ c.text.toList.isEmpty = false ∧ c.text.size ≤ 400
structure ComsV (last : Int) (evs : List Ev) (l : List Com) : Prop where
  each : ∀ c ∈ l, ComV last evs c
  srt : l.Pairwise fun a b => a.id < b.id
theorem coms_v {last : Int} {evs : List Ev} {l : List Com} (h : comsLoop last evs none l = 0) : ComsV last evs l := by
  have hk := coms_ok h
  refine ⟨fun c hc => ?_, ?_⟩
  · obtain ⟨i, hi⟩ := List.getElem?_of_mem hc
    obtain ⟨h1, h2, -, h4, h5, h6, h7, h8, h9⟩ := com_ok (hk i c hi)
    obtain ⟨a1, a2, a3, a4⟩ := anchor_ok h5
    refine ⟨h1, h2, findE_none h4, a1, a2, a3, fun hl => ?_, h6, h7, h8, h9⟩
    obtain ⟨k, e, f1, f2, f3⟩ := a4 hl
    obtain ⟨e', g1, g2, g3⟩ := findE_mem f1
    rw [f2] at g1
    cases g1
    exact ⟨e, g2, g3, f3⟩
  · have hs : ∀ j (hj : j + 1 < l.length), l[j].id < l[j + 1].id := fun j hj => by
      have h1 := (com_ok (hk (j + 1) l[j + 1] (List.getElem?_eq_getElem hj))).2.2.1
      simp only [prevC, List.getElem?_eq_getElem (show j < l.length by omega), Option.map_some, Option.some.injEq, decide_eq_true_eq] at h1
      omega
    have hd : ∀ d i (hj : i + d + 1 < l.length), (l[i]'(by omega)).id < l[i + d + 1].id := by
      intro d
      induction d with
      | zero => intro i hj; exact hs i hj
      | succ d ih => intro i hj; exact Int.lt_trans (ih i (by omega)) (hs (i + d + 1) hj)
    refine List.pairwise_iff_getElem.2 fun i j hi hj hij => ?_
    have := hd (j - i - 1) i (by omega)
    have e : i + (j - i - 1) + 1 = j := by omega
    simp only [e] at this
    exact this
theorem ComV.err0 {last : Int} {evs : List Ev} {c : Com} (h : ComV last evs c) (ids : evs.Pairwise fun x y => x.id ≠ y.id) {p : Option Int} (hp : ∀ q, p = some q → q < c.id) : c.err last evs p = 0 := by
  have h1 := h.id1
  have h2 := h.id2
  have hA : c.anchorErr last evs = 0 := by
    have h3 := h.ev1
    have h4 := h.ev2
    unfold Com.anchorErr
    rw [if_neg (by omega)]
    cases hl : c.lost with
    | true => have := h.lostV hl; rw [if_pos rfl, if_neg (by omega)]
    | false =>
      obtain ⟨e, he, e1, e2, e3, e4⟩ := h.anch hl
      obtain ⟨k, f1, f2⟩ := mem_findE ids he
      rw [e1] at f1
      rw [if_neg (by simp), f1]
      simp only
      rw [if_neg]
      rw [f2]
      simp only [Option.map_some, Option.some.injEq, decide_eq_true_eq]
      omega
  unfold Com.err
  rw [if_neg (by omega), if_neg, none_findE h.free, if_neg (by simp), hA, if_neg (by simp), h.rest.1, if_neg (by simp), h.rest.2.1, if_neg (by simp), h.rest.2.2.1, if_neg (by simp), if_neg (by have := h.rest.2.2.2; omega)]
  cases p with
  | none => simp
  | some q => have := hp q rfl; simp; omega
theorem v_coms {last : Int} {evs : List Ev} (ids : evs.Pairwise fun x y => x.id ≠ y.id) : ∀ {l : List Com} {p : Option Int}, (∀ q, p = some q → ∀ c ∈ l, q < c.id) → ComsV last evs l → comsLoop last evs p l = 0
  | [], p, _, _ => by simp [comsLoop]
  | c :: l, p, hp, h => by
    have he := (h.each c (by simp)).err0 ids (p := p) (fun q hq => hp q hq c (by simp))
    rw [coms_cons, if_neg (by simpa using he)]
    have hs := List.pairwise_cons.1 h.srt
    exact v_coms ids (fun q hq c' hc' => by cases hq; exact hs.1 c' hc') ⟨fun c' hc' => h.each c' (by simp [hc']), hs.2⟩
structure DocV (d : Doc) : Prop where
  head : d.headErr = 0
  regs : regsErr d.regs = 0
  en : d.evs.length ≤ 400
  evs : EvsV d.regs d.last d.evs
  cn : d.coms.length ≤ 64
  coms : ComsV d.last d.evs d.coms
theorem doc_v {d : Doc} (h : d.err = 0) : DocV d := by
  obtain ⟨h1, h2, h3, h4, h5, h6⟩ := doc_ok h
  exact ⟨h1, h2, h3, evs_v h4, h5, coms_v h6⟩
theorem DocV.ok {d : Doc} (h : DocV d) : d.err = 0 := by
  unfold Doc.err
  have h3 := h.en
  have h5 := h.cn
  rw [if_neg (by simpa using h.head), if_neg (by simpa using h.regs), if_neg (by omega), if_neg (by simpa using v_evs h.evs), if_neg (by omega)]
  exact v_coms h.evs.ids (fun q hq => by cases hq) h.coms
theorem head_lastV {d : Doc} (h : d.headErr = 0) {d' : Doc} (h1 : d'.title = d.title) (h2 : d'.lang = d.lang) (h3 : d'.rate = d.rate) (h4 : d'.drop = d.drop) (h5 : 0 ≤ d'.last) (h6 : d'.last ≤ 1099511627776) : d'.headErr = 0 := by
  obtain ⟨a1, a2, a3, a4, a5, a6⟩ := head_ok' h
  unfold Doc.headErr
  rw [h1, h2, h3, h4, if_neg (by simp [a1]), if_neg (by omega), if_neg a3, if_neg (by simp [a4]), if_neg (by omega)]
theorem ComV.mono {last last' : Int} {evs evs' : List Ev} {c : Com} (h : ComV last evs c) (hl : last ≤ last') (hf : ∀ e ∈ evs', e.id ≠ c.id) (ha : ∀ e ∈ evs, e.id = c.ev → ∃ e' ∈ evs', e'.id = e.id ∧ e'.len = e.len) : ComV last' evs' c := by
  refine ⟨h.id1, Int.le_trans h.id2 hl, hf, h.ev1, Int.le_trans h.ev2 hl, h.lostV, fun hlo => ?_, h.rest⟩
  obtain ⟨e, he, e1, e2, e3, e4⟩ := h.anch hlo
  obtain ⟨e', f0, f1, f2⟩ := ha e he e1
  exact ⟨e', f0, by rw [f1, e1], e2, e3, by rw [f2]; exact e4⟩
section
variable {d : Doc} {e : Ev}
theorem pair_snoc {α : Type} {R : α → α → Prop} {l : List α} {x : α} (h : l.Pairwise R) (hx : ∀ y ∈ l, R y x) : (l ++ [x]).Pairwise R := by
  rw [List.pairwise_append]
  exact ⟨h, by simp, fun y hy z hz => by rw [List.mem_singleton] at hz; subst hz; exact hx y hy⟩
theorem lose_id (id : Int) (c : Com) : (c.lose id).id = c.id := by unfold Com.lose; split <;> rfl
theorem cut_mem {l : List Ev} {k : Nat} {x y : Ev} (hk : l[k]? = some x) (hy : y ∈ l) (hne : y ≠ x) : y ∈ l.take k ++ l.drop (k + 1) := by
  obtain ⟨i, hi⟩ := List.getElem?_of_mem hy
  rw [List.mem_append]
  rcases Nat.lt_trichotomy i k with c | c | c
  · exact .inl (List.mem_of_getElem? (i := i) (by rw [List.getElem?_take, if_pos c]; exact hi))
  · subst c; rw [hk] at hi; cases hi; exact absurd rfl hne
  · exact .inr (List.mem_of_getElem? (i := i - (k + 1)) (by rw [List.getElem?_drop, show k + 1 + (i - (k + 1)) = i by omega]; exact hi))
theorem cut_sub {α : Type} (l : List α) (k : Nat) : (l.take k ++ l.drop (k + 1)).Sublist l := by
  rw [← List.eraseIdx_eq_take_drop_succ]; exact List.eraseIdx_sublist l k
theorem rem_v {id : Int} {k : Nat} (h : d.err = 0) (hk : findE d.evs id = some k) : DocV ((d.cutE k).withComs (d.coms.map (Com.lose id))) := by
  have hv := doc_v h
  obtain ⟨x, hx, hxm, hxi⟩ := findE_mem hk
  have hsub := cut_sub d.evs k
  refine ⟨hv.head, hv.regs, Nat.le_trans hsub.length_le hv.en, ⟨fun y hy => hv.evs.each y (hsub.subset hy), hv.evs.srt.sublist hsub, hv.evs.ids.sublist hsub⟩, by show (d.coms.map _).length ≤ 64; rw [List.length_map]; exact hv.cn, fun c hc => ?_, ?_⟩
  · obtain ⟨c0, hc0, rfl⟩ := List.mem_map.1 hc
    have h0 := hv.coms.each c0 hc0
    by_cases he : c0.ev = id
    · have e1 : c0.lose id = ⟨c0.id, c0.ev, 0, 0, c0.author, c0.text, c0.done, true⟩ := by unfold Com.lose; rw [if_pos he]
      rw [e1]
      exact ⟨h0.id1, h0.id2, fun e he => h0.free e (hsub.subset he), h0.ev1, h0.ev2, fun _ => ⟨rfl, rfl⟩, fun hl => (by cases hl), h0.rest⟩
    · have e1 : c0.lose id = c0 := by unfold Com.lose; rw [if_neg he]
      rw [e1]
      refine h0.mono (Int.le_refl _) (fun e he => h0.free e (hsub.subset he)) fun e hem hee => ⟨e, cut_mem hx hem (fun hh => he (by rw [← hee, hh, hxi])), rfl, rfl⟩
  · show (d.coms.map _).Pairwise _
    rw [List.pairwise_map]
    exact hv.coms.srt.imp fun {a b} h => by rw [lose_id, lose_id]; exact h
theorem rem_get {id : Int} {k : Nat} (h : d.err = 0) (hk : findE d.evs id = some k) {x : Ev} (hx : x ∈ d.evs) (hne : x.id ≠ id) : ∃ j, findE (d.cutE k).evs x.id = some j ∧ (d.cutE k).evs[j]? = some x := by
  obtain ⟨y, hy, hym, hyi⟩ := findE_mem hk
  exact mem_findE (l := (d.cutE k).evs) (rem_v h hk).evs.ids (cut_mem hy hx (fun hh => hne (by rw [hh, hyi])))
theorem set_ids {l : List Ev} {k : Nat} {x e : Ev} (hk : l[k]? = some x) (he : e.id = x.id) : (l.set k e).map (·.id) = l.map (·.id) := by
  apply List.ext_getElem?
  intro i
  rw [List.getElem?_map, List.getElem?_map]
  by_cases hi : k = i
  · subst hi
    rw [List.getElem?_set_self (List.getElem?_eq_some_iff.1 hk).1, hk]
    simp [he]
  · rw [List.getElem?_set_ne hi]
theorem set_mem {l : List Ev} {k : Nat} {x e y : Ev} (hk : l[k]? = some x) (hy : y ∈ l) (hne : y ≠ x) : y ∈ l.set k e := by
  obtain ⟨i, hi⟩ := List.getElem?_of_mem hy
  by_cases hik : k = i
  · subst hik; rw [hk] at hi; cases hi; exact absurd rfl hne
  · exact List.mem_of_getElem? (i := i) (by rw [List.getElem?_set_ne hik]; exact hi)
theorem set_self_mem {l : List Ev} {k : Nat} {x e : Ev} (hk : l[k]? = some x) : e ∈ l.set k e :=
  List.mem_of_getElem? (i := k) (List.getElem?_set_self (List.getElem?_eq_some_iff.1 hk).1)
theorem onto_ids (id : Int) (a b : List Int) (c : Com) : (c.onto id a b).id = c.id := by
  unfold Com.onto
  split
  · unfold Com.fol Com.moved
    repeat' split
    all_goals rfl
  · rfl
theorem put_v {x : Ev} {k : Nat} (h : d.err = 0) (hk : findE d.evs e.id = some k) (he : e.err d.regs = 0) (hx : d.evs[k]? = some x) (lx : x.len = x.chars.length) (le : e.len = e.chars.length) (bx : x.chars.length ≤ 35184372088831) (be : e.chars.length ≤ 35184372088831) : DocV (d.putD e x k) := by
  have hv := doc_v h
  obtain ⟨x', hx', hxm, hxi⟩ := findE_mem hk
  rw [hx] at hx'
  cases hx'
  have hids : (d.evs.set k e).Pairwise fun x y => x.id ≠ y.id := by
    have h1 : (d.evs.map (·.id)).Pairwise (· ≠ ·) := List.pairwise_map.2 hv.evs.ids
    rw [← set_ids hx hxi.symm] at h1
    exact List.pairwise_map.1 h1
  have hmem : ∀ y, y ∈ srtE (d.evs.set k e) → y ∈ d.evs ∨ y = e := fun y hy => by
    rw [(srtE_perm _).mem_iff] at hy
    exact List.mem_or_eq_of_mem_set hy
  have hto : ∀ y ∈ d.evs, y.id ≠ e.id → y ∈ srtE (d.evs.set k e) := fun y hy hne => (srtE_perm _).mem_iff.2 (set_mem hx hy (fun hh => hne (by rw [hh, hxi])))
  have heS : e ∈ srtE (d.evs.set k e) := (srtE_perm _).mem_iff.2 (set_self_mem hx)
  refine ⟨hv.head, hv.regs, ?_, EvsV.sorted (fun y hy => ?_) hids, by show (d.coms.map _).length ≤ 64; rw [List.length_map]; exact hv.cn, fun c hc => ?_, ?_⟩
  · show (srtE _).length ≤ 400
    rw [(srtE_perm _).length_eq, List.length_set]; exact hv.en
  · rcases List.mem_or_eq_of_mem_set hy with h1 | rfl
    · exact hv.evs.each y h1
    · exact ⟨he, by have := (hv.evs.each x hxm).2; rw [hxi] at this; exact this⟩
  · obtain ⟨c0, hc0, rfl⟩ := List.mem_map.1 hc
    have h0 := hv.coms.each c0 hc0
    have hfree : ∀ y ∈ srtE (d.evs.set k e), y.id ≠ c0.id := fun y hy => by
      rcases hmem y hy with h1 | rfl
      · exact h0.free y h1
      · have := h0.free x hxm; rw [hxi] at this; exact this
    by_cases hce : c0.ev = e.id
    · have e1 : c0.onto e.id x.chars e.chars = c0.fol x.chars e.chars := by unfold Com.onto; rw [if_pos hce]
      rw [e1]
      unfold Com.fol
      by_cases hlo : c0.lost = true
      · rw [if_pos hlo]
        exact ⟨h0.id1, h0.id2, hfree, h0.ev1, h0.ev2, h0.lostV, fun hl => (by rw [hlo] at hl; cases hl), h0.rest⟩
      · rw [if_neg hlo]
        have hlo' : c0.lost = false := by simpa using hlo
        obtain ⟨y, hy, y1, y2, y3, y4⟩ := h0.anch hlo'
        have hyx : y = x := pair_ids hv.evs.ids hy hxm (by rw [y1, hce, hxi])
        subst hyx
        have p1 := Mv.pre_le y.chars e.chars
        have s1 := Mv.suf_le y.chars e.chars (Mv.pre y.chars e.chars)
        have hb := kept_bd (n := y.chars.length) (m := e.chars.length) (p := Mv.pre y.chars e.chars) (s := Mv.suf y.chars e.chars (Mv.pre y.chars e.chars)) (F := c0.fr) (T := c0.til) bx be (by omega) (by omega) y2 y3 (by rw [← lx]; exact y4)
        generalize wfrom y.chars.length e.chars.length (Mv.pre y.chars e.chars) (Mv.suf y.chars e.chars (Mv.pre y.chars e.chars)) c0.fr = F at *
        generalize wto y.chars.length e.chars.length (Mv.pre y.chars e.chars) (Mv.suf y.chars e.chars (Mv.pre y.chars e.chars)) c0.til = T at *
        unfold Com.moved
        split
        · exact ⟨h0.id1, h0.id2, hfree, h0.ev1, h0.ev2, fun _ => ⟨rfl, rfl⟩, fun hl => (by cases hl), h0.rest⟩
        · rename_i hft
          exact ⟨h0.id1, h0.id2, hfree, h0.ev1, h0.ev2, fun hl => (by rw [hlo'] at hl; cases hl), fun _ => ⟨e, heS, hce.symm, hb.1, by show F < T; omega, by show T ≤ e.len; rw [le]; exact hb.2⟩, h0.rest⟩
    · have e1 : c0.onto e.id x.chars e.chars = c0 := by unfold Com.onto; rw [if_neg hce]
      rw [e1]
      exact h0.mono (Int.le_refl _) hfree fun y hy hye => ⟨y, hto y hy (by rw [hye]; exact hce), rfl, rfl⟩
  · show (d.coms.map _).Pairwise _
    rw [List.pairwise_map]
    exact hv.coms.srt.imp fun {a b} h => by rw [onto_ids, onto_ids]; exact h
theorem put_get {x y : Ev} {k : Nat} (hv : DocV (d.putD e x k)) (hk : findE d.evs e.id = some k) (hx : d.evs[k]? = some x) (hy : y ∈ d.evs) (hne : y.id ≠ e.id) : ∃ j, findE (d.putD e x k).evs y.id = some j ∧ (d.putD e x k).evs[j]? = some y := by
  obtain ⟨x', hx', hxm, hxi⟩ := findE_mem hk
  rw [hx] at hx'
  cases hx'
  exact mem_findE hv.evs.ids ((srtE_perm _).mem_iff.2 (set_mem hx hy (fun hh => hne (by rw [hh, hxi]))))
end
end Go.Proofs.YtagfedbdakmlgaaGreatDoor

/-! OpnS -/
namespace Go.Proofs.YtagfedbdakmlgaaGreatDoor
set_option linter.unusedVariables false
set_option linter.unusedSimpArgs false
open Go.RowKit Go.Sort
instance comInh : Inhabited Com := ⟨⟨0, 0, 0, 0, ⟨#[]⟩, ⟨#[]⟩, false, false⟩⟩
/-- an open comment stands ahead of another one -/
def ltC (evs : List Ev) (x y : Com) : Bool := decide (findI evs x.ev < findI evs y.ev ∨ findI evs x.ev = findI evs y.ev ∧ (x.fr < y.fr ∨ x.fr = y.fr ∧ x.id < y.id))
theorem ltOf_cmpC (evs : List Ev) (x y : Com) : ltOf (cmpC evs) x y = ltC evs x y := by
  unfold ltOf cmpC or3 cmpI ltC
  generalize findI evs x.ev = a
  generalize findI evs y.ev = b
  apply decide_eq_decide.2
  repeat' split
  all_goals omega
theorem ltOf_C (evs : List Ev) : ltOf (cmpC evs) = ltC evs := by funext x y; exact ltOf_cmpC evs x y
theorem ltC_swo (evs : List Ev) : SWO (ltC evs) where
  irrefl x := by unfold ltC; simp
  trans x y z h1 h2 := by unfold ltC at *; simp only [decide_eq_true_eq] at *; omega
  ntrans x y z h1 h2 := by unfold ltC at *; simp only [decide_eq_false_iff_not] at *; omega
theorem ltC_sw (evs : List Ev) : Stb.SW (ltC evs) := ⟨fun x y h => by unfold ltC at *; simp only [decide_eq_true_eq, decide_eq_false_iff_not] at *; omega, fun x y z h k => by unfold ltC at *; simp only [decide_eq_false_iff_not] at *; omega⟩
def srtC (evs : List Ev) (l : List Com) : List Com := Stb.sortS (ltC evs) l
theorem srtC_perm (evs : List Ev) (l : List Com) : (srtC evs l).Perm l := by
  have := foldS_perm (lt := ltC evs) l []
  simpa [srtC, Stb.sortS] using this
/-- a sorted list with the same comments is the sorted list -/
theorem srtC_uniq {evs : List Ev} {l l' : List Com} (hp : l'.Perm l) (hs : l'.Pairwise fun x y => ltC evs y x = false) (hid : l.Pairwise fun x y => x.id ≠ y.id) : l' = srtC evs l := by
  refine List.Perm.eq_of_pairwise (le := fun x y => ltC evs y x = false) (fun a b ha hb h1 h2 => ?_) hs (Stb.sortS_spec (ltC_sw evs) l).1 (hp.trans (srtC_perm evs l).symm)
  have ha' : a ∈ l := hp.mem_iff.1 ha
  have hb' : b ∈ l := (srtC_perm evs l).mem_iff.1 hb
  have he : a.id = b.id := by
    unfold ltC at h1 h2
    simp only [decide_eq_false_iff_not] at h1 h2
    omega
  obtain ⟨i, hi, rfl⟩ := List.mem_iff_getElem.1 ha'
  obtain ⟨j, hj, rfl⟩ := List.mem_iff_getElem.1 hb'
  rw [List.pairwise_iff_getElem] at hid
  rcases Nat.lt_trichotomy i j with c | c | c
  · exact absurd he (hid i j hi hj c)
  · subst c; rfl
  · exact absurd he.symm (hid j i hj hi c)
theorem arr_sorted {lt : Com → Com → Bool} {d : Array Com} (h : SortedIn lt 0 d.size d) : d.toList.Pairwise fun x y => lt y x = false := by
  refine List.pairwise_iff_getElem.2 fun i j hi hj hij => ?_
  have hi' : i < d.size := by simpa using hi
  have hj' : j < d.size := by simpa using hj
  have := h i j (Nat.zero_le _) hij hj'
  rw [getElem!_pos d j hj', getElem!_pos d i hi'] at this
  simpa using this
theorem com_ones' (x : Com) : ∀ v ∈ x.vals, v.oneCell' = true := by
  intro v hv
  simp only [Com.vals, List.mem_cons, List.not_mem_nil, or_false] at hv
  rcases hv with rfl | rfl | rfl | rfl | rfl | rfl | rfl | rfl <;> rfl
theorem openC_enter : ∀ args w, (callFunc 118 args).run Tryz.prog w = .ok (.enter 118 args) w := Go.Proofs.enters_of Tryz.func118 (by kernel_rfl) rfl
theorem swk_ext {w0 w : World} {L g n c m : Nat} {l : List Com} {os : Array Obj} {dk : Array Com} (hx : Ext w0 w) (hL : w0.heap.size ≤ L) (h1 : w.ownsRow L 78 8 (.slice (some ⟨g, 0, none⟩) n c) n (l.flatMap Com.vals)) : Ext w0 (sortWorldK Com.vals 8 w g 0 m dk os) :=
  hx.grown (swk_grown (enc := Com.vals) (k := 8) (g := g) (l := dk.toList) ⟨m, os, by simp⟩) (fun q hq => by cases hq; have := own_lt h1 g rfl; omega)
theorem SortC_own {w0 w : World} {L g n c gd : Nat} {l : List Com} {d : Doc} {h : DocH} (hx : Ext w0 w) (hL : w0.heap.size ≤ L) (h1 : w.ownsRow L 78 8 (.slice (some ⟨g, 0, none⟩) n c) n (l.flatMap Com.vals)) (hl : l.length = n) (hn : n < 4611686018427387904)
    (hat : EvsAt w0 h.ea h.en d.evs) (he : h.en ≤ 4611686018427387904) (hBd : Blk w0 gd 27 (d.cells h)) (hid : l.Pairwise fun x y => x.id ≠ y.id) :
    Calls Tryz.prog 117 #[.slice (some ⟨g, 0, none⟩) n c, .func (.func 118) #[] #[.pointer (some ⟨gd, 0, none⟩)]] w fun e w' => e = .returned (.tuple #[]) ∧ Ext w0 w' ∧ w'.ownsRow L 78 8 (.slice (some ⟨g, 0, none⟩) n c) n ((srtC d.evs l).flatMap Com.vals) := by
  have hLg : L ≤ g := own_lt h1 g rfl
  have hg : g < w.heap.size := by
    rcases h1.2 with ⟨hv, -⟩ | ⟨g', cap, cur, hv, -, hb, -⟩
    · cases hv
    · cases hv; exact (Array.getElem?_eq_some_iff.1 hb).1
  have hz : l.toArray.size = n := by simp [hl]
  have hH := own_holds (enc := Com.vals) (k := 8) (fun _ => rfl) h1 hl
  have hcmp : CmpLays Tryz.prog 118 #[.pointer (some ⟨gd, 0, none⟩)] Com.vals 8 (cmpC d.evs) g 0 l.toArray.size w := fun m os dk hs x y => by
    have hxW := swk_ext (m := m) (os := os) (dk := dk) hx hL h1
    exact (OpenC_any d h x y gd _ (hat.ext hxW) he (hBd.ext hxW)).mono fun e w' ⟨he, hx⟩ => ⟨he, hx.grow⟩
  have hcon := AnyQ.slices_SortFunc Tryz.srtCom 8 Tryz.isAgg78 Tryz.sizeOf78 Com.vals (fun _ => rfl) com_ones' (cmpC d.evs) (by rw [ltOf_C]; exact ltC_swo d.evs) 118 #[.pointer (some ⟨gd, 0, none⟩)] g 0 c l.toArray w openC_enter hcmp hH hg (by rw [hz]; exact hn)
  rw [hz, ltOf_C] at hcon
  refine Calls.mono hcon ?_
  rintro e w' ⟨rfl, d', m, os, hp, hs, rfl⟩
  obtain ⟨hsz, -, hperm⟩ := hp
  have hd : d'.size = n := by rw [hsz, hz]
  have e1 : d'.extract 0 n = d' := by rw [← hd]; exact Array.extract_size
  have e2 : l.toArray.extract 0 n = l.toArray := by rw [← hz]; exact Array.extract_size
  rw [e1, e2] at hperm
  have hu : d'.toList = srtC d.evs l := srtC_uniq (by simpa using hperm) (arr_sorted (by rw [hd]; exact hs)) hid
  have hS : SWK Com.vals 8 w g 0 d'.toList.toArray (sortWorldK Com.vals 8 w g 0 m d' os) := ⟨m, os, by simp⟩
  have hO := swk_own (enc := Com.vals) (fun _ => rfl) h1 hS (by simpa using hd)
  rw [hu] at hO
  exact ⟨rfl, swk_ext hx hL h1, hO⟩
end Go.Proofs.YtagfedbdakmlgaaGreatDoor

/-! OpnD -/
namespace Go.Proofs.YtagfedbdakmlgaaGreatDoor
set_option linter.unusedVariables false
set_option linter.unusedSimpArgs false
open Go.RowKit Go.Sort
/-- the numbers of the open comments, in order -/
def Doc.opn (d : Doc) : List Int := if d.err ≠ 0 then [] else (srtC d.evs (openL d.coms)).map (·.id)
def OpnPost (L : List Int) (w : World) (en : Ending) (w' : World) : Prop := ∃ A c, en = .returned (.slice A L.length c) ∧ IntsAt w' A L.length L ∧ L.length ≤ c ∧ Ext w w'
theorem info_i64 : (Tryz.prog.info? 2).map (fun i => (i.zero, i.size, i.bytes)) = some (some (.int .i64 0), 1, 8) := by kernel_rfl
theorem open_ids {d : Doc} (h : d.err = 0) : (openL d.coms).Pairwise fun x y => x.id ≠ y.id :=
  ((doc_v h).coms.srt.imp fun {a b} hab => by omega).sublist List.filter_sublist
set_option maxRecDepth 100000 in
set_option maxHeartbeats 1000000 in
theorem DelF_nil (c : Nat) (w : World) :
    Calls Tryz.prog 114 #[.slice none 0 c, .func (.func 116) #[] #[]] w fun en w' => en = .returned (.slice none 0 c) ∧ Ext w w' := by
  have HIx := Lib.hid (OIndex_any none 0 c [] w Sl.nil (by omega))
  have hg : goneInt [] = -1 := rfl
  rw [hg] at HIx
  clear hg
  go_enter Tryz.func114, Tryz.ntmps114
  go_wp2_with fail
  refine HIx.out.mono ?_
  rintro en w1 ⟨rfl, hx1⟩
  go_wp2_with fail
  go_ret
  exact ⟨rfl, hx1⟩
theorem SortNoneC (F : Value) (w : World) : Calls Tryz.prog 117 #[.slice none 0 0, F] w fun e w' => e = .returned (.tuple #[]) ∧ w' = w := AnyF.slices_SortFunc_none Tryz.srtCom none 0 F w
def OpLoop (l : List Int) (w : World) (v i : Value) (wr : World) : Prop := ∃ k : Nat, k ≤ l.length ∧ i = .int .i64 k ∧ Ext w wr ∧ wr.ownsRow w.heap.size 2 1 v k ((l.take k).flatMap fun x => [Value.int .i64 x])
/-- the clone of the comments without those that are done or lost, sorted -/
theorem OpenSorted_any (d : Doc) (h : DocH) (w : World) (gd : Nat) (hat : DocAt w d h) (hn : h.en ≤ 1000000) (hcn : h.cn ≤ 1000000) (hok : d.err = 0) (hBd : Blk w gd 27 (d.cells h)) {A : Option Addr} {c : Nat} {w1 : World} (hx : Ext w w1) (ho : w1.ownsRow w.heap.size 78 8 (.slice A h.cn c) h.cn (d.coms.flatMap Com.vals)) :
    Calls Tryz.prog 114 #[.slice A h.cn c, .func (.func 116) #[] #[]] w1 fun en w2 => ∃ A2 c2, en = .returned (.slice A2 (openL d.coms).length c2) ∧ Ext w w2 ∧
      Calls Tryz.prog 117 #[.slice A2 (openL d.coms).length c2, .func (.func 118) #[] #[.pointer (some ⟨gd, 0, none⟩)]] w2 fun e w3 => e = .returned (.tuple #[]) ∧ Ext w w3 ∧ w3.ownsRow w.heap.size 78 8 (.slice A2 (openL d.coms).length c2) (openL d.coms).length ((srtC d.evs (openL d.coms)).flatMap Com.vals) := by
  have hl : d.coms.length = h.cn := hat.coms.len
  rcases ho.2 with ⟨hv, hn0⟩ | ⟨g, cap, cur, hv, -⟩
  · injection hv with e1 e2 e3
    subst e1
    have hd : d.coms = [] := List.eq_nil_of_length_eq_zero (by omega)
    rw [hn0, e3, hd]
    refine (DelF_nil 0 w1).mono ?_
    rintro en w2 ⟨rfl, hx2⟩
    refine ⟨none, 0, rfl, hx.trans hx2, ?_⟩
    refine (SortNoneC (.func (.func 118) #[] #[.pointer (some ⟨gd, 0, none⟩)]) w2).mono ?_
    rintro e w3 ⟨rfl, rfl⟩
    exact ⟨rfl, hx.trans hx2, ⟨rfl, .inl ⟨rfl, rfl⟩⟩⟩
  · injection hv with e1 e2 e3
    subst e1
    refine (DelF_any hx (Nat.le_refl _) ho hl (by omega)).mono ?_
    rintro en w2 ⟨rfl, hx2, ho2⟩
    refine ⟨_, _, rfl, hx2, ?_⟩
    have hle : (openL d.coms).length ≤ h.cn := by rw [← hl]; exact List.length_filter_le _ _
    exact SortC_own (d := d) (h := h) (gd := gd) hx2 (Nat.le_refl _) ho2 rfl (by omega) hat.evs (by omega) hBd (open_ids hok)
set_option maxRecDepth 100000 in
set_option maxHeartbeats 4000000 in
theorem COpen_any (d : Doc) (h : DocH) (w : World) (hE : Env w) (hat : DocAt w d h) (hf : DocFit d) (hrn : h.rn ≤ 9223372036854775807) (hn : h.en ≤ 1000000) (hcn : h.cn ≤ 1000000) :
    Calls Tryz.prog 53 #[.agg (d.cells h)] w (OpnPost d.opn w) := by
  obtain ⟨W1, hW1⟩ : ∃ W1, W1 = w.alloc (.cells (d.cells h) 27) := ⟨_, rfl⟩
  have HX : Hid (Ext w W1) := by show Ext _ _; rw [hW1]; exact (Ext.refl w).alloc _
  have HB : Hid (Blk W1 w.heap.size 27 (d.cells h)) := by show Blk _ _ _ _; rw [hW1]; exact Blk.new w _ _
  have HCk := Lib.hid (DCheck_any d h W1 (hE.ext HX.out) (hat.ext HX.out) hf hrn hn (by omega))
  have HV1 : d.err ≠ 0 → d.opn = [] := fun h => by unfold Doc.opn; rw [if_pos h]
  have HV2 : d.err = 0 → d.opn = (srtC d.evs (openL d.coms)).map (·.id) := fun h => by unfold Doc.opn; rw [if_neg (by simpa using h)]
  have HAt := Lib.hid hat
  have HFu := Lib.hid (fun w' (hx : Ext w w') (hok : d.err = 0) (hB : Blk w' w.heap.size 27 (d.cells h)) => fun {A : Option Addr} {c : Nat} {w1 : World} => OpenSorted_any d h w' w.heap.size (hat.ext hx) hn hcn hok hB (A := A) (c := c) (w1 := w1))
  have HCl := Lib.hid (fun w' (hx : Ext w w') => CloneComs_any h.ca h.cn h.cc d.coms w' (hat.ext hx).coms (by omega))
  clear hE hat hf hrn
  obtain ⟨hra, nr, hrc, hea, hen, hec, hca, nc, hcc⟩ := h
  unfold CloneComsPost at HCl
  unfold Doc.cells at HB HCk hW1 HFu ⊢
  dsimp only at HB HCk hW1 HFu hn hcn HCl ⊢
  go_enter Tryz.func53, Tryz.ntmps53
  go_upto_region 1 with fail
  rw [← hW1]
  clear hW1
  go_wp2_with (refine wpList_loadB rfl 27 (.tmp 1) rfl (w.heap.size) 27 _ _ (by exact rfl) (by exact HB.out) Tryz.underlying27 rfl (by exact size_docI) ?_)
  refine HCk.out.mono ?_
  rintro en w2 ⟨rfl, hx2⟩
  have HX2 := Lib.hid (HX.out.trans hx2)
  have HB2 := Lib.hid (HB.out.ext hx2)
  clear hx2 HX HB HCk
  by_cases he : d.err = 0
  case neg =>
    have hne : (d.err != 0) = true := by simpa using he
    have HV := Lib.hid (HV1 he)
    clear he HV1 HV2
    go_wp2_with fail
    go_ret
    refine ⟨none, 0, ?_, ?_, ?_, HX2.out⟩ <;> rw [HV.out]
    · rfl
    · exact Sl.nil
    · exact Nat.le_refl _
  have HV := Lib.hid (HV2 he)
  have HOk := Lib.hid he
  rw [he]
  clear he HV1 HV2
  have hcb := fun o => HB2.out.cell o
  go_wp2_with fail
  refine (HCl.out _ HX2.out).mono ?_
  rintro en w3 ⟨A3, c3, rfl, ho3, hx3⟩
  have HD := Lib.hid (HFu.out w2 HX2.out HOk.out HB2.out hx3 ho3)
  clear hcb
  go_wp2_with fail
  refine HD.out.mono ?_
  rintro en w4 ⟨A4, c4, rfl, hx4, hS4⟩
  have HS4 := Lib.hid hS4
  have HB4 := Lib.hid (HB2.out.ext hx4)
  clear hS4 HD ho3 hx3
  go_wp2_with fail
  refine HS4.out.mono ?_
  rintro en w5 ⟨rfl, hx5, ho5⟩
  have hlen : (srtC d.evs (openL d.coms)).length = (openL d.coms).length := (srtC_perm _ _).length_eq
  have hl0 : d.coms.length = nc := HAt.out.coms.len
  have hle : (openL d.coms).length ≤ nc := by rw [← hl0]; exact List.length_filter_le _ _
  obtain ⟨A5, c5, hv5, hc5, -, hsl5, -⟩ := own_sl (f := Com.vals) (size := 8) (fun _ => rfl) hlen ho5
  injection hv5 with e1 e2 e3
  subst e1
  have HSl : Hid (ComsAt w5 A4 (openL d.coms).length (srtC d.evs (openL d.coms))) := hsl5
  have HX5 := Lib.hid (HX2.out.trans hx5)
  clear hx4 hx5 ho5 hsl5 HS4 HB4 HB2 HX2
  generalize (openL d.coms).length = m at *
  generalize srtC d.evs (openL d.coms) = S at *
  have hml : (S.map (·.id)).length = m := by rw [List.length_map]; exact hlen
  go_wp2_with fail
  go_loopw [4, 19] (fun v i wr => OpLoop (S.map (·.id)) w5 v i wr) (fun _ i _ => m - (intOf i).toNat)
  case atStart => exact ⟨0, Nat.zero_le _, rfl, Ext.refl _, ⟨rfl, .inl ⟨rfl, rfl⟩⟩⟩
  case round =>
    obtain ⟨k, hk, rfl, hx, hown⟩ := hrel
    have HO := Lib.hid hown
    clear hown
    by_cases hlt : k < m
    · obtain ⟨b, off, x, hA4, hxx, c0, c1, c2, c3', c4', c5', c6, c7⟩ := (HSl.out.ext hx).at8 hlt
      subst hA4
      have hids : (S.map (·.id))[k]? = some x.id := by rw [List.getElem?_map, hxx]; rfl
      have HT := Lib.hid (take_snoc' _ k _ hids)
      have hk0 : (0 : Int) ≤ (k : Int) := by omega
      have hk1 : (k : Int) < (m : Int) := by omega
      clear hxx hids
      go_upto_region 9 with fail
      clear c0 c1 c2 c3' c4' c5' c6 c7
      have HX1 := Lib.hid (hx.alloc (.cells #[.int .i64 x.id, .int .i64 x.ev, .int .i64 x.fr, .int .i64 x.til, .string x.author, .string x.text, .bool x.done, .bool x.lost] 78))
      have HO1 := Lib.hid (HO.out.alloc (.cells #[.int .i64 x.id, .int .i64 x.ev, .int .i64 x.fr, .int .i64 x.til, .string x.author, .string x.text, .bool x.done, .bool x.lost] 78))
      have HBx := Lib.hid (Blk.new wr 78 #[.int .i64 x.id, .int .i64 x.ev, .int .i64 x.fr, .int .i64 x.til, .string x.author, .string x.text, .bool x.done, .bool x.lost])
      have hszr := hx.size
      obtain ⟨Wx, hWx⟩ : ∃ Wx, Wx = wr.alloc (.cells #[.int .i64 x.id, .int .i64 x.ev, .int .i64 x.fr, .int .i64 x.til, .string x.author, .string x.text, .bool x.done, .bool x.lost] 78) := ⟨_, rfl⟩
      rw [← hWx] at HX1 HO1 HBx ⊢
      clear hWx
      have hcx := fun o => HBx.out.cell o
      have hszW := HX1.out.size
      go_wp2_with (at_builtin; refine wpList_append1 rfl (.tmp 23) (.tmp 26) 72 rfl info_i64 Tryz.underlying72 rfl (by decide) (HO1.out.alloc _) (by exact rfl) Wx.heap.size _ (by exact rfl) (by exact Blk.new' rfl) (by exact rfl) (by simp [Value.oneCell']) (by omega) (by simp [maxLen]; omega) (by simp; omega) ?_; intro v' w6 hown3 hgr)
      refine ⟨⟨k + 1, by omega, by go_num, (HX1.out.alloc _).grown hgr (fun q hq => own_lt HO1.out q hq), ?_⟩, by simp [intOf]; omega⟩
      rw [HT.out, List.flatMap_append]
      exact hown3
    · obtain rfl : k = m := by omega
      have HT : Hid ((S.map (·.id)).take k = S.map (·.id)) := List.take_of_length_le (by omega)
      have hO2 := HO.out
      rw [HT.out] at hO2
      obtain ⟨A6, c6, rfl, hc6, -, hsl, -⟩ := own_sl (f := fun x : Int => [Value.int .i64 x]) (size := 1) (fun _ => rfl) hml hO2
      have HS := Lib.hid hsl
      have HL := Lib.hid hml
      have HX7 := Lib.hid (HX5.out.trans hx)
      clear HO hO2 hsl hx hml
      go_wp2_with fail
      go_ret
      refine ⟨A6, c6, ?_, ?_, ?_, HX7.out⟩ <;> rw [HV.out, HL.out]
      · rfl
      · exact HS.out
      · exact hc6
end Go.Proofs.YtagfedbdakmlgaaGreatDoor

/-! OpenC -/
namespace Go.Proofs.YtagfedbdakmlgaaGreatDoor
set_option linter.unusedVariables false
set_option linter.unusedSimpArgs false
open Go.RowKit Go.ChangeShapes Go.WideShapes Go.ChangeAt
set_option maxRecDepth 100000
theorem cells_remark : Tryz.prog.cellsOf 29 = 5 := by kernel_rfl
theorem arg_remark {H : Type} {enc : TypeId × Value → H} {W : World} {base : Nat} {v : Value} {d : DataW H} {p : List MemPlace} (hv : Value.okWide Tryz.prog W .any base 29 v) (h : DataW.Trod enc Tryz.prog W 0 (fun _ => true) true 29 v d p)
    (hw : ∀ n ∈ d.weights Tryz.prog 29, n ≤ reachBytes) : ∃ (ev fr til : Int) (au tx : ByteArray), v = .agg #[.int .i64 ev, .int .i64 fr, .int .i64 til, .string au, .string tx] ∧ IW ev ∧ IW fr ∧ IW til ∧ au.size ≤ 140737488351232 ∧ tx.size ≤ 140737488351232 := by
  obtain ⟨cs, rfl⟩ := agg_of_cells Tryz.underlying29 hv
  obtain ⟨fuel, h⟩ := h
  obtain ⟨hl, hf⟩ := Opens.fields Tryz.underlying29 h hw
  rw [cells_remark] at hl
  obtain ⟨v0, v1, v2, v3, v4, he⟩ := list_5 hl
  obtain ⟨a0, h0, s0⟩ := hf 0 _ rfl (Opens.int Tryz.underlying2)
  obtain ⟨a1, h1, s1⟩ := hf 1 _ rfl (Opens.int Tryz.underlying3)
  obtain ⟨a2, h2, s2⟩ := hf 2 _ rfl (Opens.int Tryz.underlying3)
  obtain ⟨a3, h3, s3⟩ := hf 3 _ rfl (Opens.string Tryz.underlying9)
  obtain ⟨a4, h4, s4⟩ := hf 4 _ rfl (Opens.string Tryz.underlying9)
  rw [he] at h0 h1 h2 h3 h4
  simp [cells_int64, cells_int, cells_string] at h0 h1 h2 h3 h4
  subst h0 h1 h2 h3 h4
  refine ⟨a0, a1, a2, a3, a4, ?_, bounds_i64 s0, bounds_i64 s1, bounds_i64 s2, s3, s4⟩
  have : cs = #[.int .i64 a0, .int .i64 a1, .int .i64 a2, .string a3, .string a4] := Array.toList_inj.1 he
  rw [this]
/-- the lists of a document of one's own are short -/
def DocShort (d : Doc) : Prop := d.regs.length ≤ 16 ∧ d.evs.length ≤ 1000000 ∧ d.coms.length ≤ 1000000
theorem DocOwn.short {w : World} {L : Nat} {d : Doc} {h : DocH} (o : DocOwn w L d h) (s : DocShort d) : h.rn ≤ 1000000000 ∧ h.en ≤ 1000000000 ∧ h.cn ≤ 1000000000 := by
  have h1 := o.rlen
  have h2 := o.evs.len
  have h3 := o.clen
  obtain ⟨s1, s2, s3⟩ := s
  omega
theorem regs_short {l : List Reg} (h : regsErr l = 0) : l.length ≤ 16 := by
  unfold regsErr at h
  split at h
  · simp at h
  · omega
theorem valid_short {d : Doc} (h : d.err = 0) : DocShort d := by
  have := doc_ok h
  exact ⟨regs_short this.2.1, by omega, by omega⟩
end Go.Proofs.YtagfedbdakmlgaaGreatDoor

/-! CntP -/
namespace Go.Proofs.YtagfedbdakmlgaaGreatDoor
set_option linter.unusedVariables false
set_option linter.unusedSimpArgs false
open Go.RowKit
theorem decodeL_append (l m : List UInt8) (hne : l ≠ []) (h : ¬ ((Lib.decodeL l).1 = 65533 ∧ (Lib.decodeL l).2 = 1)) : Lib.decodeL (l ++ m) = Lib.decodeL l := by
  have hl : 0 < l.length := List.length_pos_iff.2 hne
  have g : ∀ i, i < l.length → (l ++ m).getD i 0 = l.getD i 0 := fun i hi => by simp [List.getD, List.getElem?_append_left hi]
  rw [Lib.decodeL_N] at h
  rw [Lib.decodeL_N (l ++ m), Lib.decodeL_N l, List.length_append, g 0 hl]
  rcases Lib.decodeN_shape l.length (l.getD 0 0).toNat (l.getD 1 0).toNat (l.getD 2 0).toNat (l.getD 3 0).toNat with ⟨c, e⟩ | ⟨c1, c2, c3, cv, e⟩ | ⟨c1, c2, c3, c4, cv, cs, e⟩ | ⟨c1, c2, c3, c4, c5, cv, cw, e⟩ | e
  · rw [e]; unfold Lib.decodeN; rw [if_pos c]
  · rw [e, g 1 c2]; unfold Lib.decodeN; rw [if_neg (by omega), if_pos ⟨c1, by omega, c3⟩, if_pos cv]
  · rw [e, g 1 (by omega), g 2 c2]; unfold Lib.decodeN; rw [if_neg (by omega), if_neg (by omega), if_pos ⟨c1, ⟨by omega, c3⟩, by omega, c4⟩, if_pos ⟨cv, by omega⟩]
  · rw [e, g 1 (by omega), g 2 (by omega), g 3 c2]; unfold Lib.decodeN; rw [if_neg (by omega), if_neg (by omega), if_neg (by omega), if_pos ⟨c1, ⟨by omega, c3⟩, ⟨by omega, c4⟩, by omega, c5⟩, if_pos ⟨cv, by omega⟩]
  · exact absurd (by rw [e]; exact ⟨rfl, rfl⟩) h
def cntG : Nat → List UInt8 → Nat
  | 0, _ => 0
  | f + 1, l => if l = [] then 0 else 1 + cntG f (l.drop (Lib.decodeL l).2)
def cnt (l : List UInt8) : Nat := cntG l.length l
theorem cntG_fuel : ∀ (f g : Nat) (l : List UInt8), l.length ≤ f → l.length ≤ g → cntG f l = cntG g l
  | 0, 0, _, _, _ => rfl
  | 0, g + 1, l, h, _ => by
    obtain rfl : l = [] := List.eq_nil_of_length_eq_zero (by omega)
    simp [cntG]
  | f + 1, 0, l, _, h => by
    obtain rfl : l = [] := List.eq_nil_of_length_eq_zero (by omega)
    simp [cntG]
  | f + 1, g + 1, l, hf, hg => by
    unfold cntG
    by_cases hne : l = []
    · simp [hne]
    · have hw := Lib.decodeL_width l
      have hl : 0 < l.length := List.length_pos_iff.2 hne
      rw [if_neg hne, if_neg hne, cntG_fuel f g _ (by rw [List.length_drop]; omega) (by rw [List.length_drop]; omega)]
theorem cnt_nil : cnt [] = 0 := rfl
theorem cnt_step (l : List UInt8) (hne : l ≠ []) : cnt l = 1 + cnt (l.drop (Lib.decodeL l).2) := by
  have hw := Lib.decodeL_width l
  have hl : 0 < l.length := List.length_pos_iff.2 hne
  unfold cnt
  obtain ⟨k, hk⟩ : ∃ k, l.length = k + 1 := ⟨l.length - 1, by omega⟩
  conv => lhs; rw [hk]; unfold cntG
  rw [if_neg hne, cntG_fuel k _ _ (by rw [List.length_drop]; omega) (Nat.le_refl _)]
theorem cnt_append (m : List UInt8) : ∀ (f : Nat) (l : List UInt8), l.length ≤ f → Lib.validD l = true → cnt (l ++ m) = cnt l + cnt m ∧ Lib.validD (l ++ m) = Lib.validD m
  | 0, l, h, _ => by
    obtain rfl : l = [] := List.eq_nil_of_length_eq_zero (by omega)
    simp [cnt_nil]
  | f + 1, l, h, hv => by
    by_cases hne : l = []
    · subst hne; simp [cnt_nil]
    · have hw := Lib.decodeL_width l
      have hle := Lib.decodeL_le l hne
      have hl : 0 < l.length := List.length_pos_iff.2 hne
      rw [Lib.validD_step l hne] at hv
      split at hv
      · cases hv
      · rename_i hn
        have ha := decodeL_append l m hne hn
        have hne2 : l ++ m ≠ [] := by simp [hne]
        obtain ⟨i1, i2⟩ := cnt_append m f (l.drop (Lib.decodeL l).2) (by rw [List.length_drop]; omega) hv
        have hd : (l ++ m).drop (Lib.decodeL l).2 = l.drop (Lib.decodeL l).2 ++ m := List.drop_append_of_le_length hle
        rw [cnt_step _ hne2, cnt_step l hne, Lib.validD_step _ hne2, ha, hd, i1, i2, if_neg hn]
        exact ⟨by omega, rfl⟩
theorem cnt_app {l : List UInt8} (m : List UInt8) (hv : Lib.validD l = true) : cnt (l ++ m) = cnt l + cnt m := (cnt_append m l.length l (Nat.le_refl _) hv).1
theorem valid_app {l m : List UInt8} (hv : Lib.validD l = true) (hm : Lib.validD m = true) : Lib.validD (l ++ m) = true := by rw [(cnt_append m l.length l (Nat.le_refl _) hv).2]; exact hm
theorem size_list (s : ByteArray) : s.data.toList.length = s.size := by cases s; simp [ByteArray.size]
theorem runes_cnt (s : ByteArray) : ∀ (f pos : Nat), s.size - pos ≤ f → (runes s pos).length = cnt (s.data.toList.drop pos)
  | f, pos, h => by
    by_cases hp : pos < s.size
    · have hw := Lib.decode_width_pos s pos hp
      have hne : s.data.toList.drop pos ≠ [] := fun he => by
        have := congrArg List.length he
        rw [List.length_drop, size_list] at this
        simp at this; omega
      rw [runes_step s pos hp, List.length_cons, cnt_step _ hne, Lib.decodeL_drop, List.drop_drop]
      cases f with
      | zero => omega
      | succ f => rw [runes_cnt s f _ (by omega)]; omega
    · rw [runes_end s pos hp, List.drop_eq_nil_of_le (by rw [size_list]; omega)]; rfl
theorem count_cnt (s : ByteArray) : ∀ (f pos : Nat), s.size - pos ≤ f → Lib.runeCountFrom s f pos = cnt (s.data.toList.drop pos)
  | f, pos, h => by
    by_cases hp : pos < s.size
    · have hw := Lib.decode_width_pos s pos hp
      have hne : s.data.toList.drop pos ≠ [] := fun he => by
        have := congrArg List.length he
        rw [List.length_drop, size_list] at this
        simp at this; omega
      cases f with
      | zero => omega
      | succ f =>
        unfold Lib.runeCountFrom
        rw [if_pos hp, cnt_step _ hne, Lib.decodeL_drop, List.drop_drop, count_cnt s f _ (by omega)]
    · rw [Lib.runeCountFrom_end s f pos hp, List.drop_eq_nil_of_le (by rw [size_list]; omega)]; rfl
theorem clen_cnt {s : ByteArray} (h : 0 ≤ clen s) : Lib.validD s.data.toList = true ∧ clen s = cnt s.data.toList := by
  unfold clen at *
  split at h
  · rename_i hv
    rw [if_pos hv]
    unfold vld at hv
    rw [Bool.and_eq_true] at hv
    refine ⟨hv.1, ?_⟩
    have := count_cnt s s.size 0 (by omega)
    unfold Lib.runeCount
    rw [this]; simp
  · omega
theorem row_cnt : ∀ {l : Row}, 0 ≤ rowLen l → Lib.validD (rowText l) = true ∧ rowLen l = cnt (rowText l)
  | [], _ => ⟨Lib.validD_nil, rfl⟩
  | r :: l, h => by
    unfold rowLen at h ⊢
    split at h
    · omega
    · rename_i h1
      split at h
      · omega
      · rename_i h2
        rw [if_neg h1, if_neg h2]
        obtain ⟨v1, c1⟩ := clen_cnt (s := r.text) (by omega)
        obtain ⟨v2, c2⟩ := row_cnt (l := l) (by omega)
        have e : rowText (r :: l) = r.text.data.toList ++ rowText l := by simp [rowText, List.flatMap_cons]
        rw [e]
        exact ⟨valid_app v1 v2, by rw [cnt_app _ v1, c1, c2]; simp⟩
theorem lf_valid : Lib.validD [10] = true := by rw [Lib.validD_cons 10 [] (by decide)]; exact Lib.validD_nil
theorem lf_cnt : cnt [10] = 1 := by rw [cnt_step _ (by simp), Lib.decodeL_ascii 10 [] (by decide)]; rfl
theorem tail_cnt : ∀ {l : List Row}, (∀ r ∈ l, 0 ≤ rowLen r) → Lib.validD (Lib.joinTail [10] (l.map rowText)) = true ∧ ∀ s : Int, lenSum s (l.map rowLen) + l.length = s + cnt (Lib.joinTail [10] (l.map rowText))
  | [], _ => ⟨Lib.validD_nil, fun s => by simp [lenSum, Lib.joinTail, cnt_nil]⟩
  | r :: l, h => by
    have h0 := h r (by simp)
    obtain ⟨v1, c1⟩ := row_cnt h0
    obtain ⟨v2, c2⟩ := tail_cnt (l := l) (fun x hx => h x (by simp [hx]))
    have e : Lib.joinTail [10] ((r :: l).map rowText) = [10] ++ (rowText r ++ Lib.joinTail [10] (l.map rowText)) := by simp [Lib.joinTail]
    rw [e]
    refine ⟨valid_app lf_valid (valid_app v1 v2), fun s => ?_⟩
    rw [cnt_app _ lf_valid, cnt_app _ v1, lf_cnt, List.map_cons]
    unfold lenSum
    rw [if_neg (by omega)]
    have := c2 (s + rowLen r)
    rw [List.length_cons]
    omega
theorem len_chars {e : Ev} {regs : List Reg} (h : e.err regs = 0) : e.len = e.chars.length := by
  have ho := Ev.ok_of h
  obtain ⟨rg, -, -, -, hr⟩ := ho.found
  have hne := ho.some_
  unfold Ev.len Ev.chars
  rw [runes_cnt _ _ 0 (Nat.le_refl _)]
  unfold Ev.text
  cases hl : e.rows with
  | nil => rw [hl] at hne; exact absurd rfl hne
  | cons r l =>
    rw [hl] at hr
    obtain ⟨v1, c1⟩ := row_cnt (hr r (by simp)).1
    obtain ⟨v2, c2⟩ := tail_cnt (l := l) (fun x hx => (hr x (by simp [hx])).1)
    rw [List.map_cons, List.map_cons, Lib.join_cons]
    show _ = ((cnt (List.drop 0 (rowText r ++ Lib.joinTail [10] (l.map rowText)).toArray.toList) : Nat) : Int)
    rw [List.drop_zero, List.toList_toArray, cnt_app _ v1]
    unfold lenSum
    have h0 := (hr r (by simp)).1
    rw [if_neg (by omega)]
    have := c2 (max (((r :: l).length : Int) - 1) 0 + rowLen r)
    rw [List.length_cons] at this ⊢
    omega
end Go.Proofs.YtagfedbdakmlgaaGreatDoor

/-! ValL -/
namespace Go.Proofs.YtagfedbdakmlgaaGreatDoor
set_option linter.unusedVariables false
set_option linter.unusedSimpArgs false
open Go.RowKit
/-- what is accepted, and laid together of small parts, may be checked -/
theorem fit_of {d d' : Doc} (hf : DocFit d) (h : DocV d') (h1 : d'.title = d.title) (h2 : d'.lang = d.lang) (h3 : d'.rate = d.rate) (h4 : d'.regs = d.regs) (hev : ∀ x ∈ d'.evs, EvSmall x ∧ x.bytes ≤ 1099511627776) (hc : ∀ c ∈ d'.coms, c.author.size ≤ 9223372036854775807 ∧ c.text.size ≤ 9223372036854775807) : DocFit d' := by
  have hl := (head_ok' h.head).2.2.2.2
  refine ⟨⟨by rw [h3]; exact hf.ok.r0, by rw [h3]; exact hf.ok.r1, by rw [h1]; exact hf.ok.title, by rw [h2]; exact hf.ok.lang⟩, by rw [h4]; exact hf.regs, hev, fun x hx => ?_, fun c hcm => ?_⟩
  · have := ev_ok (h.evs.each x hx).1
    unfold IW; omega
  · have hv := h.coms.each c hcm
    have a1 := hv.id1
    have a2 := hv.id2
    have a3 := hv.ev1
    have a4 := hv.ev2
    exact ⟨by unfold IW; omega, by unfold IW; omega, hc c hcm⟩
def EvIn (l l' : List Ev) (id : Int) : Prop := ∀ x ∈ l, x.id ≠ id → ∃ k, findE l' x.id = some k ∧ l'[k]? = some x
section
variable {d : Doc} {e : Ev}
theorem lose_texts (id : Int) (c : Com) : (c.lose id).author = c.author ∧ (c.lose id).text = c.text := by unfold Com.lose; split <;> exact ⟨rfl, rfl⟩
theorem onto_texts (id : Int) (a b : List Int) (c : Com) : (c.onto id a b).author = c.author ∧ (c.onto id a b).text = c.text := by
  unfold Com.onto
  split
  · unfold Com.fol Com.moved
    repeat' split
    all_goals exact ⟨rfl, rfl⟩
  · exact ⟨rfl, rfl⟩
theorem remX_ok {id : Int} (h : (d.remX id).2 = 0) : d.err = 0 ∧ ∃ k, findE d.evs id = some k ∧ d.remX id = ((d.cutE k).withComs (d.coms.map (Com.lose id)), 0) := by
  by_cases h1 : d.err = 0
  · cases hk : findE d.evs id with
    | none => rw [rem_2 h1 hk] at h; simp at h
    | some k => exact ⟨h1, k, rfl, rem_3 h1 hk⟩
  · rw [rem_1 h1] at h; exact absurd h h1
theorem val_rem {id : Int} (hf : DocFit d) (h : (d.remX id).2 = 0) : (d.remX id).1.err = 0 ∧ (d.remX id).1.evs.length + 1 = d.evs.length ∧ DocFit (d.remX id).1 ∧ EvIn d.evs (d.remX id).1.evs id := by
  obtain ⟨h1, k, hk, h2⟩ := remX_ok h
  rw [h2]
  have hv := rem_v h1 hk
  obtain ⟨x, hx, -, -⟩ := findE_mem hk
  have hkl := (List.getElem?_eq_some_iff.1 hx).1
  refine ⟨hv.ok, ?_, fit_of hf hv rfl rfl rfl rfl (fun x hx => hf.evs x ((cut_sub d.evs k).subset hx)) (fun c hc => ?_), fun x hx hne => rem_get h1 hk hx hne⟩
  · show (d.evs.take k ++ d.evs.drop (k + 1)).length + 1 = _
    rw [List.length_append, List.length_take, List.length_drop]; omega
  · obtain ⟨c0, hc0, rfl⟩ := List.mem_map.1 hc
    rw [(lose_texts id c0).1, (lose_texts id c0).2]
    exact (hf.coms c0 hc0).2.2
theorem putX_ok (h : (d.putX e).2 = 0) : d.err = 0 ∧ e.err d.regs = 0 ∧ ∃ k x, findE d.evs e.id = some k ∧ d.evs[k]? = some x ∧ d.putX e = (d.putD e x k, 0) := by
  by_cases h1 : d.err = 0
  · cases hk : findE d.evs e.id with
    | none => rw [put_2 h1 hk] at h; simp at h
    | some k =>
      by_cases h3 : e.err d.regs = 0
      · obtain ⟨x, hx, -, -⟩ := findE_mem hk
        exact ⟨h1, h3, k, x, rfl, hx, put_4 h1 hk h3 hx⟩
      · rw [put_3 h1 hk h3] at h; exact absurd h h3
  · rw [put_1 h1] at h; exact absurd h h1
theorem chars_le {x : Ev} {regs : List Reg} (h : x.err regs = 0) (hb : x.bytes ≤ 1099511627776) : x.chars.length ≤ 35184372088831 := by
  have hs := text_size x (n := x.rows.length) hb (by have := (Ev.ok_of h).few; omega) rfl
  have := runes_len ⟨x.text.toArray⟩
  unfold Ev.chars
  omega
theorem val_put (hf : DocFit d) (hes : EvSmall e) (hby : e.bytes ≤ 1099511627776) (h : (d.putX e).2 = 0) : (d.putX e).1.err = 0 ∧ (d.putX e).1.evs.length = d.evs.length ∧ DocFit (d.putX e).1 ∧ EvIn d.evs (d.putX e).1.evs e.id := by
  obtain ⟨h1, h3, k, x, hk, hx, h2⟩ := putX_ok h
  rw [h2]
  have hxm := List.mem_of_getElem? hx
  have hxe := ((doc_v h1).evs.each x hxm).1
  have hv := put_v h1 hk h3 hx (len_chars hxe) (len_chars h3) (chars_le hxe (hf.evs x hxm).2) (chars_le h3 hby)
  refine ⟨hv.ok, ?_, fit_of hf hv rfl rfl rfl rfl (fun y hy => ?_) (fun c hc => ?_), fun y hy hne => put_get hv hk hx hy hne⟩
  · show (srtE _).length = _
    rw [(srtE_perm _).length_eq, List.length_set]
  · rcases List.mem_or_eq_of_mem_set ((srtE_perm _).mem_iff.1 hy) with hy' | rfl
    · exact hf.evs y hy'
    · exact ⟨hes, hby⟩
  · obtain ⟨c0, hc0, rfl⟩ := List.mem_map.1 hc
    rw [(onto_texts _ _ _ c0).1, (onto_texts _ _ _ c0).2]
    exact (hf.coms c0 hc0).2.2
end
end Go.Proofs.YtagfedbdakmlgaaGreatDoor
