/- The plain law of EventReturns: the parts of a valid event are valid, share its frames and rows, and give it back when they are joined. No walk here. -/
import Derived.Test.YtcgflkmkdpgchaaDoorEventD
import Derived.Test.YtcgflkmkdpgchaaDoorJoinA
namespace Go.Proofs.YtcgflkmkdpgchaaDoor
set_option linter.unusedVariables false
set_option linter.unusedSimpArgs false
open Go.RowKit

theorem lensErr_zero {r : Reg} : ∀ {l : List Int}, r.lensErr l = 0 → ∀ x ∈ l, 0 ≤ x ∧ x ≤ r.width
  | [], _, x, hx => by cases hx
  | n :: l, h, x, hx => by
    unfold Reg.lensErr at h
    split at h
    · omega
    · split at h
      · omega
      · rcases List.mem_cons.1 hx with rfl | hx
        · omega
        · exact lensErr_zero h x hx
theorem lensErr_of {r : Reg} : ∀ {l : List Int}, (∀ x ∈ l, 0 ≤ x ∧ x ≤ r.width) → r.lensErr l = 0
  | [], _ => rfl
  | n :: l, h => by
    have h1 := h n (List.mem_cons_self ..)
    unfold Reg.lensErr
    rw [if_neg (by omega), if_neg (by omega)]
    exact lensErr_of fun x hx => h x (List.mem_cons_of_mem _ hx)
theorem rowsErr_zero : ∀ {l : List Row}, rowsErr l = 0 → ∀ r ∈ l, rowErrE r = 0
  | [], _, r, hr => by cases hr
  | x :: l, h, r, hr => by
    unfold rowsErr at h
    split at h
    · rename_i hx
      rcases List.mem_cons.1 hr with rfl | hr
      · exact hx
      · exact rowsErr_zero h r hr
    · rename_i hx; exact absurd h hx
theorem rowsErr_of : ∀ {l : List Row}, (∀ r ∈ l, rowErrE r = 0) → rowsErr l = 0
  | [], _ => rfl
  | x :: l, h => by
    unfold rowsErr
    rw [if_pos (h x (List.mem_cons_self ..))]
    exact rowsErr_of fun r hr => h r (List.mem_cons_of_mem _ hr)

/-- what a valid event is -/
structure Ev.Ok (e : Ev) (regs : List Reg) : Prop where
  id1 : 1 ≤ e.id
  id2 : e.id ≤ 1099511627776
  span : spansB e.inn e.out = true
  found : ∃ r, findR regs e.region = some r ∧ r.usable = true ∧ (e.rows.length : Int) ≤ r.height ∧ ∀ x ∈ e.rows, 0 ≤ rowLen x ∧ rowLen x ≤ r.width
  kind : noKind e.kind = false
  name : ¬ (e.speaker.toList.isEmpty = false ∧ nameB e.speaker = false)
  some_ : e.rows.length ≠ 0
  few : e.rows.length ≤ 4
  rows : ∀ r ∈ e.rows, rowErrE r = 0

theorem Ev.ok_of {e : Ev} {regs : List Reg} (h : e.err regs = 0) : e.Ok regs := by
  unfold Ev.err at h
  split at h
  · omega
  · rename_i h1
    split at h
    · omega
    · rename_i r hr
      split at h
      · omega
      · rename_i h2
        split at h
        · omega
        · rename_i h3
          split at h
          · omega
          · rename_i h4
            split at h
            · rename_i h5; exact absurd h h5
            · rename_i h5
              unfold Reg.place at h
              split at h
              · omega
              · rename_i h6
                split at h
                · omega
                · rename_i h7
                  have hz := lensErr_zero h
                  refine ⟨by omega, by omega, by cases hs : spansB e.inn e.out <;> simp_all, ⟨r, hr, by simpa using h6, by simpa using h7, fun x hx => hz _ (List.mem_map.2 ⟨x, hx, rfl⟩)⟩, by simpa using h2, h3, by omega, by omega, rowsErr_zero (by simpa using h5)⟩
theorem Ev.err_of {e : Ev} {regs : List Reg} (h : e.Ok regs) : e.err regs = 0 := by
  obtain ⟨h1, h2, h3, ⟨r, hr, hu, hh, hw⟩, h4, h5, h6, h7, h8⟩ := h
  have hp : r.place (e.rows.map rowLen) = 0 := by
    unfold Reg.place
    rw [if_neg (by simp [hu]), if_neg (by simpa using hh)]
    exact lensErr_of fun x hx => by
      obtain ⟨y, hy, rfl⟩ := List.mem_map.1 hx
      exact hw y hy
  unfold Ev.err
  rw [if_neg (by rw [h3]; simp; omega), hr]
  simp only
  rw [if_neg (by simp [h4]), if_neg h5, if_neg (by omega), if_neg (by rw [rowsErr_of h8]; simp)]
  exact hp
/-- an event with some of the rows of a valid one -/
theorem Ev.Ok.part {e f : Ev} {regs : List Reg} (h : e.Ok regs) (h1 : 1 ≤ f.id) (h2 : f.id ≤ 1099511627776) (h3 : spansB f.inn f.out = true) (hr : f.region = e.region) (hk : f.kind = e.kind) (hs : f.speaker = e.speaker) (hl : f.rows.length ≠ 0) (hle : f.rows.length ≤ e.rows.length) (hsub : ∀ r ∈ f.rows, r ∈ e.rows) : f.Ok regs := by
  obtain ⟨_, _, _, ⟨r, hr', hu, hh, hw⟩, h4, h5, h6, h7, h8⟩ := h
  exact ⟨h1, h2, h3, ⟨r, by rw [hr]; exact hr', hu, by omega, fun x hx => hw x (hsub x hx)⟩, by rw [hk]; exact h4, by rw [hs]; exact h5, hl, by omega, fun x hx => h8 x (hsub x hx)⟩

theorem split_ok {e : Ev} {frame row id : Int} (h : e.splitErr frame row id = 0) : 1 ≤ row ∧ row < e.rows.length ∧ e.inn < frame ∧ frame < e.out ∧ 1 ≤ id ∧ id ≤ 1099511627776 ∧ id ≠ e.id := by
  unfold Ev.splitErr at h
  split at h
  · omega
  · split at h
    · omega
    · split at h
      · omega
      · omega

theorem span_of {i o : Int} (h : spansB i o = true) : 0 ≤ i ∧ i < o ∧ o ≤ 5184000 := of_decide_eq_true h
theorem of_span {i o : Int} (h : 0 ≤ i ∧ i < o ∧ o ≤ 5184000) : spansB i o = true := decide_eq_true h

theorem left_ok {e : Ev} {regs : List Reg} {frame row id : Int} (h : e.Ok regs) (hs : e.splitErr frame row id = 0) : (e.left frame row.toNat).Ok regs := by
  obtain ⟨h1, h2, h3, h4, h5, h6, h7⟩ := split_ok hs
  have hsp := span_of h.span
  refine h.part h.id1 h.id2 (of_span (show 0 ≤ e.inn ∧ e.inn < frame ∧ frame ≤ 5184000 by omega)) rfl rfl rfl ?_ ?_ fun r hr => List.mem_of_mem_take hr
  · show (e.rows.take row.toNat).length ≠ 0
    rw [List.length_take]; omega
  · show (e.rows.take row.toNat).length ≤ _
    rw [List.length_take]; omega
theorem right_ok {e : Ev} {regs : List Reg} {frame row id : Int} (h : e.Ok regs) (hs : e.splitErr frame row id = 0) : (e.right frame row.toNat id).Ok regs := by
  obtain ⟨h1, h2, h3, h4, h5, h6, h7⟩ := split_ok hs
  have hsp := span_of h.span
  refine h.part h5 h6 (of_span (show 0 ≤ frame ∧ frame < e.out ∧ e.out ≤ 5184000 by omega)) rfl rfl rfl ?_ ?_ fun r hr => List.mem_of_mem_drop hr
  · show (e.rows.drop row.toNat).length ≠ 0
    rw [List.length_drop]; omega
  · show (e.rows.drop row.toNat).length ≤ _
    rw [List.length_drop]; omega

theorem lenSum_of : ∀ {l : List Int} (s : Int), (∀ x ∈ l, 0 ≤ x) → lenSum s l = s + l.sum
  | [], s, _ => by simp [lenSum]
  | n :: l, s, h => by
    have h1 := h n (List.mem_cons_self ..)
    unfold lenSum
    rw [if_neg (by omega), lenSum_of (s + n) fun x hx => h x (List.mem_cons_of_mem _ hx), List.sum_cons]
    omega
theorem Ev.Ok.len {e : Ev} {regs : List Reg} (h : e.Ok regs) : e.len = (e.rows.length : Int) - 1 + (e.rows.map rowLen).sum := by
  obtain ⟨_, _, _, hw⟩ := h.found
  unfold Ev.len
  rw [lenSum_of _ (fun x hx => by obtain ⟨y, hy, rfl⟩ := List.mem_map.1 hx; exact (hw.2 y hy).1)]
  have := h.some_
  omega
theorem Ev.Ok.frames {e : Ev} {regs : List Reg} (h : e.Ok regs) : e.frames = e.out - e.inn := by unfold Ev.frames; rw [if_pos h.span]

theorem parts_frames {e : Ev} {regs : List Reg} {frame row id : Int} (h : e.Ok regs) (hs : e.splitErr frame row id = 0) : (e.left frame row.toNat).frames + (e.right frame row.toNat id).frames = e.frames := by
  rw [(left_ok h hs).frames, (right_ok h hs).frames, h.frames]
  show frame - e.inn + (e.out - frame) = _
  omega
theorem parts_len {e : Ev} {regs : List Reg} {frame row id : Int} (h : e.Ok regs) (hs : e.splitErr frame row id = 0) : (e.left frame row.toNat).len + 1 + (e.right frame row.toNat id).len = e.len := by
  rw [(left_ok h hs).len, (right_ok h hs).len, h.len]
  show ((e.rows.take row.toNat).length : Int) - 1 + ((e.rows.take row.toNat).map rowLen).sum + 1 + (((e.rows.drop row.toNat).length : Int) - 1 + ((e.rows.drop row.toNat).map rowLen).sum) = _
  have e1 : (e.rows.map rowLen).sum = ((e.rows.take row.toNat).map rowLen).sum + ((e.rows.drop row.toNat).map rowLen).sum := by
    conv => lhs; rw [← List.take_append_drop row.toNat e.rows]
    rw [List.map_append, List.sum_append]
  have e2 : e.rows.length = (e.rows.take row.toNat).length + (e.rows.drop row.toNat).length := by
    rw [← List.length_append, List.take_append_drop]
  rw [e1]
  omega
theorem parts_err {e : Ev} {regs : List Reg} {frame row id : Int} (h : e.Ok regs) (hs : e.splitErr frame row id = 0) : (e.left frame row.toNat).joinErr (e.right frame row.toNat id) = 0 := by
  obtain ⟨h1, h2, h3, h4, h5, h6, h7⟩ := split_ok hs
  have hl : lessB (e.left frame row.toNat) (e.right frame row.toNat id) = true := by
    unfold lessB
    exact decide_eq_true (.inl (show e.inn < frame from h3))
  have e2 : (e.left frame row.toNat).rows.length + (e.right frame row.toNat id).rows.length = e.rows.length := by
    show (e.rows.take row.toNat).length + (e.rows.drop row.toNat).length = _
    rw [← List.length_append, List.take_append_drop]
  have := h.few
  unfold Ev.joinErr
  rw [hl, if_neg (by decide), if_neg (by omega)]
theorem parts_join {e : Ev} {regs : List Reg} {frame row id : Int} (h : e.Ok regs) (hs : e.splitErr frame row id = 0) : (e.left frame row.toNat).join (e.right frame row.toNat id) = e := by
  obtain ⟨h1, h2, h3, h4, h5, h6, h7⟩ := split_ok hs
  unfold Ev.join
  rw [if_pos (parts_err h hs)]
  unfold Ev.joined Ev.left Ev.right
  obtain ⟨i, a, b, r, k, s, rows⟩ := e
  simp only at *
  rw [List.take_append_drop, Int.min_eq_left (by omega), Int.max_eq_right (by omega)]

theorem ok_len_bounds {e : Ev} {regs : List Reg} (h : e.Ok regs) : 0 ≤ e.len ∧ e.len ≤ 200 := by
  obtain ⟨r, hr, hu, hh, hw⟩ := h.found
  have hb := usable_bounds hu
  have key : ∀ l : List Row, (∀ x ∈ l, 0 ≤ rowLen x ∧ rowLen x ≤ r.width) → 0 ≤ (l.map rowLen).sum ∧ (l.map rowLen).sum ≤ l.length * 32 := by
    intro l
    induction l with
    | nil => intro _; simp
    | cons x l ih =>
      intro hx
      have h1 := hx x (List.mem_cons_self ..)
      have h2 := ih fun y hy => hx y (List.mem_cons_of_mem _ hy)
      simp only [List.map_cons, List.sum_cons, List.length_cons]
      omega
  have := key e.rows hw
  have h1 := h.some_
  have h2 := h.few
  rw [h.len]
  omega
theorem ok_frames_bounds {e : Ev} {regs : List Reg} (h : e.Ok regs) : 0 ≤ e.frames ∧ e.frames ≤ 5184000 := by
  have := span_of h.span
  rw [h.frames]
  omega
end Go.Proofs.YtcgflkmkdpgchaaDoor
