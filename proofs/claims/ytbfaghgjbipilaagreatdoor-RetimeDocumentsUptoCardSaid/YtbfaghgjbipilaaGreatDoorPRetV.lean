/- A document in another rate is accepted; its drifts are small: plainly. -/
import Derived.Test.YtbfaghgjbipilaaGreatDoorPk13
namespace Go.Proofs.YtbfaghgjbipilaaGreatDoor
set_option linter.unusedVariables false
set_option linter.unusedSimpArgs false
open Go.RowKit

theorem quo_le {x y d : Int} (hx : 0 ≤ x) (hd : 0 < d) (hxy : x ≤ y) : quoI x d 2 ≤ quoI y d 2 := by
  obtain ⟨a1, a2, _⟩ := quo_near hx hd
  obtain ⟨b1, b2, _⟩ := quo_near (show 0 ≤ y by omega) hd
  by_cases hlt : quoI x d 2 ≤ quoI y d 2
  · exact hlt
  · have hq : quoI y d 2 + 1 ≤ quoI x d 2 := by omega
    have h5 : (quoI y d 2 + 1) * d ≤ quoI x d 2 * d := Int.mul_le_mul_of_nonneg_right hq (by omega)
    rw [Int.add_mul, Int.one_mul] at h5
    have hxy2 : x = y := by omega
    rw [hxy2] at hlt
    omega
/-- the spans keep their order -/
theorem span_le {a b m i o i2 o2 : Int} (hm : m = 1 ∨ m = 2) (h1 : (spanT a b i o m).2 = 0) (h2 : (spanT a b i2 o2 m).2 = 0) (hi : i ≤ i2) : (spanT a b i o m).1.1 ≤ (spanT a b i2 o2 m).1.1 := by
  rcases hm with rfl | rfl
  · obtain ⟨ha, hb, h3, _, _, c1, _, e1, _⟩ := spanT_time h1
    obtain ⟨_, _, _, _, _, c2, _, e2, _⟩ := spanT_time h2
    obtain ⟨_, _, _, p1, _, p3, _⟩ := convT_ok c1
    obtain ⟨_, _, _, _, _, p6, _⟩ := convT_ok c2
    obtain ⟨t1, t2⟩ := ticks_bd ha
    obtain ⟨t3, t4⟩ := ticks_bd hb
    rw [e1, e2]
    dsimp only
    rw [p3, p6]
    exact quo_le p1 (by omega) (Int.mul_le_mul_of_nonneg_right hi (by omega))
  · rw [spanT_frames h1, spanT_frames h2]; exact hi
/-- with the times kept the drifts are at most half a frame -/
theorem drift_in {a b i o : Int} (h : (spanT a b i o 1).2 = 0) : 2 * ((spanT a b i o 1).1.1 * rTicks b - i * rTicks a) ≤ rTicks b ∧ -2 * ((spanT a b i o 1).1.1 * rTicks b - i * rTicks a) ≤ rTicks b := by
  obtain ⟨ha, hb, _, _, _, c1, _, e1, _⟩ := spanT_time h
  obtain ⟨_, _, _, p1, _, p3, _⟩ := convT_ok c1
  obtain ⟨t3, t4⟩ := ticks_bd hb
  have := quo_near p1 (show 0 < rTicks b by omega)
  rw [e1]
  dsimp only
  rw [p3]
  omega
theorem drift_out {a b i o : Int} (h : (spanT a b i o 1).2 = 0) (h1 : (spanT a b i o 1).1.2 - (spanT a b i o 1).1.1 ≠ 1) : 2 * ((spanT a b i o 1).1.2 * rTicks b - o * rTicks a) ≤ rTicks b ∧ -2 * ((spanT a b i o 1).1.2 * rTicks b - o * rTicks a) ≤ rTicks b := by
  obtain ⟨ha, hb, _, _, _, _, c2, e1, _⟩ := spanT_time h
  obtain ⟨_, _, _, p1, _, p3, _⟩ := convT_ok c2
  obtain ⟨t3, t4⟩ := ticks_bd hb
  have := quo_near p1 (show 0 < rTicks b by omega)
  rw [e1] at h1 ⊢
  dsimp only at h1 ⊢
  have hmx : max (convT a b o 2).1 ((convT a b i 2).1 + 1) = (convT a b o 2).1 := by omega
  rw [hmx, p3]
  omega
theorem ev_err_same {x y : Ev} {regs : List Reg} (h : x.err regs = 0) (h1 : 1 ≤ y.id) (h2 : y.id ≤ 1099511627776) (h3 : spansB y.inn y.out = true) (e1 : y.region = x.region) (e2 : y.kind = x.kind) (e3 : y.speaker = x.speaker) (e4 : y.rows = x.rows) : y.err regs = 0 := by
  obtain ⟨g1, g2, g3⟩ := ev_ok h
  unfold Ev.err at h ⊢
  rw [if_neg (by rw [g3]; simp; omega)] at h
  rw [if_neg (by rw [h3]; simp; omega), e1, e2, e3, e4]
  exact h
theorem retEvs_at {a b m : Int} {l : List Ev} {k : Nat} {y : Ev} (h : (retEvs a b m l)[k]? = some y) : ∃ x, l[k]? = some x ∧ y = retEv a b m k x := by
  unfold retEvs at h
  rw [List.getElem?_mapIdx, Option.map_eq_some_iff] at h
  obtain ⟨x, hx, rfl⟩ := h
  exact ⟨x, hx, rfl⟩
theorem retEvs_len (a b m : Int) (l : List Ev) : (retEvs a b m l).length = l.length := by simp [retEvs]
theorem retEvs_take (a b m : Int) (l : List Ev) (k : Nat) : (retEvs a b m l).take k = retEvs a b m (l.take k) := by
  apply List.ext_getElem?
  intro i
  unfold retEvs
  rw [List.getElem?_take, List.getElem?_mapIdx, List.getElem?_mapIdx, List.getElem?_take]
  split <;> rfl
theorem find_retE (a b m : Int) (l : List Ev) (id : Int) : findE (retEvs a b m l) id = if 1 ≤ id ∧ id ≤ l.length then some (id - 1).toNat else none := by
  unfold findE
  by_cases h : 1 ≤ id ∧ id ≤ l.length
  · rw [if_pos h, List.findIdx?_eq_some_iff_getElem]
    have hk : (id - 1).toNat < l.length := by omega
    refine ⟨by rw [retEvs_len]; exact hk, ?_, fun j hj => ?_⟩
    · simp [retEvs, retEv]; omega
    · simp [retEvs, retEv]; omega
  · rw [if_neg h, List.findIdx?_eq_none_iff]
    intro y hy
    obtain ⟨k, hk⟩ := List.getElem?_of_mem hy
    obtain ⟨x, hx, rfl⟩ := retEvs_at hk
    have := (List.getElem?_eq_some_iff.1 hx).1
    simp [retEv]
    omega
theorem ev_len_same {x y : Ev} (h : y.rows = x.rows) : y.len = x.len := by unfold Ev.len; rw [h]
section
variable {d : Doc} {b m : Int} {drop : Bool}
theorem retE_ok (h : d.retE b drop m = 0) : d.err = 0 ∧ rateOkB b drop = true ∧ (m = 1 ∨ m = 2) ∧ retErr d.rate b m d.evs = 0 := by
  unfold Doc.retE at h
  split at h
  · rename_i h1; exact absurd h h1
  · rename_i h1
    split at h
    · simp at h
    · rename_i h2
      split at h
      · simp at h
      · rename_i h3
        exact ⟨by simpa using h1, by simpa using h2, Classical.not_not.1 h3, h⟩
theorem ret_evs_ok (h : d.retE b drop m = 0) {last' : Int} (hl : (d.evs.length : Int) ≤ last') : evsLoop d.regs last' [] (retEvs d.rate b m d.evs) = 0 := by
  obtain ⟨h0, hr, hm, he⟩ := retE_ok h
  obtain ⟨_, _, k3, k4, _, _⟩ := doc_ok h0
  refine evs_all fun k y hy => ?_
  obtain ⟨x, hx, rfl⟩ := retEvs_at hy
  have hk := (List.getElem?_eq_some_iff.1 hx).1
  obtain ⟨x1, x2, x3, x4⟩ := evs_ok k4 k x hx
  have hsx := retErr_all he x (List.mem_of_getElem? hx)
  obtain ⟨_, _, s1, s2, s3⟩ := spanT_bd (a := d.rate) (b := b) (i := x.inn) (o := x.out) (m := m) hsx
  rw [List.nil_append, retEvs_take]
  refine ev_5 (ev_err_same x1 ?_ ?_ ?_ rfl rfl rfl rfl) ?_ ?_ ?_
  · show 1 ≤ (k : Int) + 1; omega
  · show (k : Int) + 1 ≤ _; omega
  · show spansB (x.span d.rate b m).1.1 (x.span d.rate b m).1.2 = true
    unfold spansB
    exact decide_eq_true ⟨s1, s2, s3⟩
  · show ¬ last' < (k : Int) + 1; omega
  · cases k with
    | zero => simp [retEvs]
    | succ j =>
      obtain ⟨p, hp⟩ : ∃ p, d.evs[j]? = some p := ⟨_, List.getElem?_eq_getElem (by omega)⟩
      have hsp := retErr_all he p (List.mem_of_getElem? hp)
      rw [List.nil_append, take_snoc' d.evs j p hp] at x3
      simp at x3
      have hpx : p.inn ≤ x.inn := by
        have := of_decide_eq_true (show decide (p.inn < x.inn ∨ p.inn = x.inn ∧ p.id < x.id) = true from x3)
        omega
      have hle := span_le (a := d.rate) (b := b) (m := m) (i := p.inn) (o := p.out) (i2 := x.inn) (o2 := x.out) hm hsp hsx hpx
      rw [show retEvs d.rate b m (d.evs.take (j + 1)) = retEvs d.rate b m (d.evs.take j) ++ [retEv d.rate b m j p] from mapIdx_take _ hp]
      simp
      show lessB (retEv d.rate b m j p) (retEv d.rate b m (j + 1) x) = true
      unfold lessB
      refine decide_eq_true ?_
      show (spanT d.rate b p.inn p.out m).1.1 < (spanT d.rate b x.inn x.out m).1.1 ∨ (spanT d.rate b p.inn p.out m).1.1 = (spanT d.rate b x.inn x.out m).1.1 ∧ (j : Int) + 1 < ((j + 1 : Nat) : Int) + 1
      omega
  · show (findE _ ((k : Int) + 1)).isSome = false
    rw [find_retE, if_neg (by rw [List.length_take]; omega)]
    rfl
/-- what a comment that is not lost must have -/
def Com.Good (c : Com) (evs : List Ev) : Prop := (∃ k e, findE evs c.ev = some k ∧ evs[k]? = some e ∧ 0 ≤ c.fr ∧ c.fr < c.til ∧ c.til ≤ e.len) ∧ nameB c.author = true ∧ vld c.text = true ∧ c.text.toList.isEmpty = false ∧ c.text.size ≤ 400
theorem retComs_ok {a : Int} {last' : Int} {evs : List Ev} (hl : (evs.length : Int) ≤ last') : ∀ (l : List Com) (p : Int) (q : Option Int), (∀ v, q = some v → v ≤ p) → (evs.length : Int) ≤ p → p + liveN l ≤ last' → (∀ c ∈ l, c.lost = false → c.Good evs) →
    comsLoop last' (retEvs a b m evs) q (retComs evs p l) = 0
  | [], _, _, _, _, _, _ => rfl
  | c :: l, p, q, hq, hp, hlv, hc => by
    rw [retComs]
    cases hlo : c.lost
    case true =>
      rw [if_pos rfl]
      have e : liveN (c :: l) = liveN l := by simp [liveN, List.filter_cons, hlo]
      rw [e] at hlv
      exact retComs_ok (a := a) hl l p q hq hp hlv fun x hx => hc x (List.mem_cons_of_mem _ hx)
    case false =>
      rw [if_neg (by decide)]
      have e : (liveN (c :: l) : Int) = 1 + liveN l := by simp [liveN, List.filter_cons, hlo]; omega
      rw [e] at hlv
      have hge : (0 : Int) ≤ liveN l := by omega
      obtain ⟨⟨k, ev, hf, hk, f1, f2, f3⟩, g1, g2, g3, g4⟩ := hc c (List.mem_cons_self ..) hlo
      have hkl := findE_lt hf
      have hn : newId evs c.ev = (k : Int) + 1 := by unfold newId; rw [hf]
      have hrec := retComs_ok (a := a) hl l (p + 1) (some (p + 1)) (fun v hv => by cases hv; exact Int.le_refl _) (by omega) (by omega) fun x hx => hc x (List.mem_cons_of_mem _ hx)
      rw [coms_cons, hn]
      have hfd : findE (retEvs a b m evs) (p + 1) = none := by rw [find_retE, if_neg (by omega)]
      have hfe : findE (retEvs a b m evs) ((k : Int) + 1) = some k := by rw [find_retE, if_pos (by omega)]; congr 1; omega
      have hat : (retEvs a b m evs)[k]? = some (retEv a b m k ev) := by unfold retEvs; rw [List.getElem?_mapIdx, hk]; rfl
      have ha : (Com.mk (p + 1) ((k : Int) + 1) c.fr c.til c.author c.text c.done false).anchorErr last' (retEvs a b m evs) = 0 := by
        rw [anc_some (k := k) (e := retEv a b m k ev) (by show ¬ ((k : Int) + 1 < 1 ∨ last' < (k : Int) + 1); omega) rfl hfe hat]
        rw [ev_len_same (x := ev) (y := retEv a b m k ev) rfl]
        exact if_neg (by show ¬ (c.fr < 0 ∨ c.til ≤ c.fr ∨ ev.len < c.til); omega)
      have he : (Com.mk (p + 1) ((k : Int) + 1) c.fr c.til c.author c.text c.done false).err last' (retEvs a b m evs) q = 0 := by
        rw [com_r (by show ¬ (p + 1 < 1 ∨ last' < p + 1); omega) ?_ (by rw [show (Com.mk (p + 1) ((k : Int) + 1) c.fr c.til c.author c.text c.done false).id = p + 1 from rfl, hfd]; rfl) ha]
        · show (if nameB c.author = false then (5 : Int) else if vld c.text = false then 10 else if c.text.toList.isEmpty = true then 4 else if 400 < c.text.size then 9 else 0) = 0
          rw [if_neg (by simp [g1]), if_neg (by simp [g2]), if_neg (by simp [g3]), if_neg (by omega)]
        · cases q with
          | none => simp
          | some v => have := hq v rfl; simp; omega
      rw [he]
      exact hrec
theorem ret_ok (h : d.retE b drop m = 0) : (d.ret b drop m).err = 0 := by
  obtain ⟨h0, hr, hm, he⟩ := retE_ok h
  obtain ⟨k1, k2, k3, k4, k5, k6⟩ := doc_ok h0
  obtain ⟨t1, t2, t3, _, _, _⟩ := head_ok' k1
  have hlv := liveN_le d.coms
  have hh : (d.ret b drop m).headErr = 0 := head_ok (d := d.ret b drop m) t1 (by show ¬ 400 < d.title.size; omega) t3 hr (by show ¬ ((d.evs.length : Int) + liveN d.coms < 0 ∨ 1099511627776 < (d.evs.length : Int) + liveN d.coms); omega)
  rw [doc_5 hh (show regsErr (d.ret b drop m).regs = 0 from k2) (by show ¬ 400 < (retEvs d.rate b m d.evs).length; rw [retEvs_len]; omega) (ret_evs_ok h (by show (d.evs.length : Int) ≤ (d.evs.length : Int) + liveN d.coms; omega))]
  unfold comsErr
  have hcl : (d.ret b drop m).coms.length = liveN d.coms := retComs_len _ _ _
  rw [if_neg (by rw [hcl]; omega)]
  refine retComs_ok (by show (d.evs.length : Int) ≤ (d.evs.length : Int) + liveN d.coms; omega) d.coms d.evs.length none (fun v hv => by cases hv) (Int.le_refl _) (Int.le_refl _) fun c hc hlo => ?_
  obtain ⟨j, hj⟩ := List.getElem?_of_mem hc
  obtain ⟨_, _, _, _, y5, y6, y7, y8, y9⟩ := com_ok (coms_ok k6 j c hj)
  obtain ⟨_, _, _, z4⟩ := anchor_ok y5
  exact ⟨z4 hlo, y6, y7, y8, y9⟩
theorem retComs_mem {evs : List Ev} : ∀ {l : List Com} {p : Int} {c' : Com}, c' ∈ retComs evs p l → ∃ c ∈ l, c'.author = c.author ∧ c'.text = c.text ∧ p + 1 ≤ c'.id ∧ c'.id ≤ p + liveN l ∧ c'.ev = newId evs c.ev
  | [], _, _, h => by simp [retComs] at h
  | c :: l, p, c', h => by
    rw [retComs] at h
    cases hlo : c.lost
    · rw [hlo, if_neg (by decide)] at h
      have e : (liveN (c :: l) : Int) = 1 + liveN l := by simp [liveN, List.filter_cons, hlo]; omega
      rcases List.mem_cons.1 h with rfl | h
      · exact ⟨c, List.mem_cons_self .., rfl, rfl, Int.le_refl _, by rw [e]; show p + 1 ≤ _; omega, rfl⟩
      · obtain ⟨x, hx, e1, e2, e3, e4, e5⟩ := retComs_mem h
        exact ⟨x, List.mem_cons_of_mem _ hx, e1, e2, by omega, by rw [e]; omega, e5⟩
    · rw [hlo, if_pos rfl] at h
      have e : liveN (c :: l) = liveN l := by simp [liveN, List.filter_cons, hlo]
      obtain ⟨x, hx, e1, e2, e3, e4, e5⟩ := retComs_mem h
      exact ⟨x, List.mem_cons_of_mem _ hx, e1, e2, e3, by rw [e]; omega, e5⟩
theorem newId_bd (evs : List Ev) (id : Int) : 0 ≤ newId evs id ∧ newId evs id ≤ evs.length := by
  unfold newId
  cases h : findE evs id with
  | none => simp
  | some k => have := findE_lt h; simp; omega
theorem ret_fit (hf : DocFit d) (h : d.retE b drop m = 0) (b0 : 0 ≤ b) (b1 : b ≤ 255) : DocFit (d.ret b drop m) := by
  obtain ⟨h0, _, _, _⟩ := retE_ok h
  obtain ⟨_, _, k3, _, k5, _⟩ := doc_ok h0
  have hlv := liveN_le d.coms
  refine ⟨⟨b0, b1, hf.ok.title, hf.ok.lang⟩, hf.regs, fun y hy => ?_, fun y hy => ?_, fun c hc => ?_⟩
  · obtain ⟨k, hk⟩ := List.getElem?_of_mem (show y ∈ retEvs d.rate b m d.evs from hy)
    obtain ⟨x, hx, rfl⟩ := retEvs_at hk
    exact hf.evs x (List.mem_of_getElem? hx)
  · obtain ⟨k, hk⟩ := List.getElem?_of_mem (show y ∈ retEvs d.rate b m d.evs from hy)
    obtain ⟨x, hx, rfl⟩ := retEvs_at hk
    have := (List.getElem?_eq_some_iff.1 hx).1
    show -9223372036854775808 ≤ (k : Int) + 1 ∧ (k : Int) + 1 ≤ 9223372036854775807
    omega
  · obtain ⟨x, hx, e1, e2, e3, e4, e5⟩ := retComs_mem (show c ∈ retComs d.evs d.evs.length d.coms from hc)
    obtain ⟨_, _, f3, f4⟩ := hf.coms x hx
    have := newId_bd d.evs x.ev
    refine ⟨?_, ?_, by rw [e1]; exact f3, by rw [e2]; exact f4⟩
    · show -9223372036854775808 ≤ c.id ∧ c.id ≤ 9223372036854775807; omega
    · show -9223372036854775808 ≤ c.ev ∧ c.ev ≤ 9223372036854775807; omega
end
end Go.Proofs.YtbfaghgjbipilaaGreatDoor
