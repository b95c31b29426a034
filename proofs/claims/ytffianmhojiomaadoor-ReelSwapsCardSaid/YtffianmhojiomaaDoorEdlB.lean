/- The walks of edl.checkCut and of the reference's single. -/
import Derived.Test.YtffianmhojiomaaDoorEdlA
namespace Go.Proofs.YtffianmhojiomaaDoor
set_option linter.unusedVariables false
set_option linter.unusedSimpArgs false
open Go.RowKit

theorem cutErr_name {c : Cut} {day : Int} (h : nameB c.reel = false) : cutErr c day = 5 := by unfold cutErr; rw [if_pos h]
theorem cutErr_span {c : Cut} {day : Int} (h : nameB c.reel = true) (h1 : c.out ≤ c.inn) : cutErr c day = 1 := by unfold cutErr; rw [if_neg (by simp [h]), if_pos h1]
theorem cutErr_day {c : Cut} {day : Int} (h : nameB c.reel = true) (h1 : ¬ c.out ≤ c.inn) (h2 : c.inn < 0 ∨ day ≤ c.out) : cutErr c day = 2 := by unfold cutErr; rw [if_neg (by simp [h]), if_neg h1, if_pos h2]
theorem cutErr_speed {c : Cut} {day : Int} (h : nameB c.reel = true) (h1 : ¬ c.out ≤ c.inn) (h2 : ¬ (c.inn < 0 ∨ day ≤ c.out)) (h3 : speedB c = false) : cutErr c day = 3 := by unfold cutErr; rw [if_neg (by simp [h]), if_neg h1, if_neg h2, if_pos h3]
theorem cutErr_src {c : Cut} {day : Int} (h : nameB c.reel = true) (h1 : ¬ c.out ≤ c.inn) (h2 : ¬ (c.inn < 0 ∨ day ≤ c.out)) (h3 : speedB c = true) (h4 : c.src < 0 ∨ day ≤ c.src ∨ day ≤ srcAt c (c.out - 1)) : cutErr c day = 2 := by unfold cutErr; rw [if_neg (by simp [h]), if_neg h1, if_neg h2, if_neg (by simp [h3]), if_pos h4]
theorem cutErr_ok {c : Cut} {day : Int} (h : nameB c.reel = true) (h1 : ¬ c.out ≤ c.inn) (h2 : ¬ (c.inn < 0 ∨ day ≤ c.out)) (h3 : speedB c = true) (h4 : ¬ (c.src < 0 ∨ day ≤ c.src ∨ day ≤ srcAt c (c.out - 1))) : cutErr c day = 0 := by unfold cutErr; rw [if_neg (by simp [h]), if_neg h1, if_neg h2, if_neg (by simp [h3]), if_neg h4]
theorem speedB_bad {c : Cut} (h : ratioB c.n c.d = true) (h2 : c.n < 0 ∨ 8 < c.n ∨ 8 < c.d) : speedB c = false := by unfold speedB; rw [h, decide_eq_false (by omega)]; rfl
theorem speedB_ratio {c : Cut} (h : ratioB c.n c.d = false) : speedB c = false := by unfold speedB; rw [h]; rfl
theorem speedB_ok {c : Cut} (h : ratioB c.n c.d = true) (h1 : 0 ≤ c.n) (h2 : c.n ≤ 8) (h3 : c.d ≤ 8) : speedB c = true := by unfold speedB; rw [h, decide_eq_true ⟨h1, h2, h3⟩]; rfl

theorem size_cut : (Tryd.prog.info? 67).map (·.size) = some 7 := by kernel_rfl
set_option maxRecDepth 100000 in
set_option maxHeartbeats 4000000 in
theorem checkCut_any (c : Cut) (day : Int) (w : World) (hf : c.Fits) (hd9 : day ≤ 5184000) :
    Calls Tryd.prog 40 #[.agg c.cells, .int .i64 day] w fun e w' => e = .returned (.int .i64 (cutErr c day)) ∧ Ext w w' := by
  obtain ⟨num, rl, src, inn, out, n, d⟩ := c
  obtain ⟨f1, f2, f3, f4, f5, f6, f7⟩ := hf
  unfold I64 at *
  dsimp only at *
  have HX := Lib.hid ((Ext.refl w).alloc (.cells #[.int .i64 num, .string rl, .int .i64 src, .int .i64 inn, .int .i64 out, .int .i64 n, .int .i64 d] 67))
  have HB := Lib.hid (Blk.new w 67 #[.int .i64 num, .string rl, .int .i64 src, .int .i64 inn, .int .i64 out, .int .i64 n, .int .i64 d])
  have HNm := Lib.hid (@cutErr_name ⟨num, rl, src, inn, out, n, d⟩ day)
  have HSp := Lib.hid (@cutErr_span ⟨num, rl, src, inn, out, n, d⟩ day)
  have HDy := Lib.hid (@cutErr_day ⟨num, rl, src, inn, out, n, d⟩ day)
  have HSd := Lib.hid (@cutErr_speed ⟨num, rl, src, inn, out, n, d⟩ day)
  have HSr := Lib.hid (@cutErr_src ⟨num, rl, src, inn, out, n, d⟩ day)
  have HOk := Lib.hid (@cutErr_ok ⟨num, rl, src, inn, out, n, d⟩ day)
  have HBd := Lib.hid (@speedB_bad ⟨num, rl, src, inn, out, n, d⟩)
  have HRt := Lib.hid (@speedB_ratio ⟨num, rl, src, inn, out, n, d⟩)
  have HSo := Lib.hid (@speedB_ok ⟨num, rl, src, inn, out, n, d⟩)
  dsimp only at HNm HSp HDy HSd HSr HOk HBd HRt HSo
  unfold Cut.cells
  dsimp only
  go_enter Tryd.func40, Tryd.ntmps40
  go_wp2_with fail
  refine (Name_any rl _ (by omega)).mono ?_
  rintro e w1 ⟨rfl, rfl⟩
  have HB1 := HB
  cases hnm : nameB rl
  · have HN := Lib.hid hnm
    clear hnm
    go_wp2_with fail
    go_ret
    exact ⟨ret_int (by rw [HNm.out HN.out]), HX.out⟩
  have HN := Lib.hid hnm
  clear hnm
  by_cases h1 : out ≤ inn
  · skip
    go_wp2_with fail
    go_ret
    exact ⟨ret_int (by rw [HSp.out HN.out h1]), HX.out⟩
  by_cases h2 : inn < 0
  · skip
    go_wp2_with fail
    go_ret
    exact ⟨ret_int (by rw [HDy.out HN.out h1 (.inl h2)]), HX.out⟩
  by_cases h3 : day ≤ out
  · skip
    go_wp2_with fail
    go_ret
    exact ⟨ret_int (by rw [HDy.out HN.out h1 (.inr h3)]), HX.out⟩
  have HD2 : Hid (¬ (inn < 0 ∨ day ≤ out)) := by show ¬ _; omega
  have h1n : ¬ out ≤ inn := h1
  have HO1 := Lib.hid h1n
  go_wp2_with fail
  refine (RatValid_any n d _).mono ?_
  rintro e w2 ⟨rfl, hx2⟩
  have HX2 := Lib.hid (HX.out.trans hx2)
  have HB2 := Lib.hid (HB1.out.ext hx2)
  have hcell := fun o => HB2.out.cell o
  cases hrt : ratioB n d
  · have HR := Lib.hid hrt
    clear hrt
    go_wp2_with fail
    go_ret
    exact ⟨ret_int (by rw [HSd.out HN.out HO1.out HD2.out (HRt.out HR.out)]), HX2.out⟩
  have HR := Lib.hid hrt
  clear hrt
  by_cases h4 : n < 0
  · skip
    go_wp2_with fail
    go_ret
    exact ⟨ret_int (by rw [HSd.out HN.out HO1.out HD2.out (HBd.out HR.out (.inl h4))]), HX2.out⟩
  by_cases h5 : 8 < n
  · skip
    go_wp2_with fail
    go_ret
    exact ⟨ret_int (by rw [HSd.out HN.out HO1.out HD2.out (HBd.out HR.out (.inr (.inl h5)))]), HX2.out⟩
  by_cases h6 : 8 < d
  · skip
    go_wp2_with fail
    go_ret
    exact ⟨ret_int (by rw [HSd.out HN.out HO1.out HD2.out (HBd.out HR.out (.inr (.inr h6)))]), HX2.out⟩
  have HSO := Lib.hid (HSo.out HR.out (by omega) (by omega) (by omega))
  have HTr := speedB_true HSO.out
  dsimp only at HTr
  obtain ⟨t1, t2, t3, t4⟩ := HTr
  by_cases h7 : src < 0
  · skip
    go_wp2_with fail
    go_ret
    exact ⟨ret_int (by rw [HSr.out HN.out HO1.out HD2.out HSO.out (.inl h7)]), HX2.out⟩
  by_cases h8 : day ≤ src
  · skip
    go_wp2_with fail
    go_ret
    exact ⟨ret_int (by rw [HSr.out HN.out HO1.out HD2.out HSO.out (.inr (.inl h8))]), HX2.out⟩
  go_wp2_with (refine wpList_loadB rfl 67 (.tmp 2) rfl w.heap.size 67 _ _ (by exact rfl) (by exact HB2.out) Tryd.underlying67 rfl (by exact size_cut) ?_)
  refine (last_any ⟨num, rl, src, inn, out, n, d⟩ _ (by refine ⟨?_, ?_, ?_, ?_, ?_, ?_, ?_, ?_, ?_⟩ <;> dsimp only <;> omega)).mono ?_
  rintro e w3 ⟨rfl, hx3⟩
  by_cases h9 : day ≤ srcAt ⟨num, rl, src, inn, out, n, d⟩ (out - 1)
  · skip
    go_wp2_with fail
    go_ret
    exact ⟨ret_int (by rw [HSr.out HN.out HO1.out HD2.out HSO.out (.inr (.inr h9))]), HX2.out.trans hx3⟩
  have HE : Hid (¬ (src < 0 ∨ day ≤ src ∨ day ≤ srcAt ⟨num, rl, src, inn, out, n, d⟩ (out - 1))) := by show ¬ _; omega
  go_wp2_with fail
  go_ret
  exact ⟨ret_int (by rw [HOk.out HN.out HO1.out HD2.out HSO.out HE.out]), HX2.out.trans hx3⟩
/-- the first error of a cut behind a number -/
def singleErr (c : Cut) (last day : Int) : Int := if c.num < 1 ∨ 999 < c.num then 2 else if c.num ≤ last then 8 else cutErr c day
set_option maxRecDepth 100000 in
set_option maxHeartbeats 4000000 in
theorem single_any (c : Cut) (last day : Int) (w : World) (hf : c.Fits) (hd9 : day ≤ 5184000) :
    Calls Tryd.prog 48 #[.agg c.cells, .int .i64 last, .int .i64 day] w fun e w' => e = .returned (.int .i64 (singleErr c last day)) ∧ Ext w w' := by
  obtain ⟨num, rl, src, inn, out, n, d⟩ := c
  obtain ⟨f1, f2, f3, f4, f5, f6, f7⟩ := hf
  unfold I64 at *
  dsimp only at *
  have HX := Lib.hid ((Ext.refl w).alloc (.cells #[.int .i64 num, .string rl, .int .i64 src, .int .i64 inn, .int .i64 out, .int .i64 n, .int .i64 d] 67))
  have HB := Lib.hid (Blk.new w 67 #[.int .i64 num, .string rl, .int .i64 src, .int .i64 inn, .int .i64 out, .int .i64 n, .int .i64 d])
  have HNm := Lib.hid (@cutErr_name ⟨num, rl, src, inn, out, n, d⟩ day)
  have HSp := Lib.hid (@cutErr_span ⟨num, rl, src, inn, out, n, d⟩ day)
  have HDy := Lib.hid (@cutErr_day ⟨num, rl, src, inn, out, n, d⟩ day)
  have HSd := Lib.hid (@cutErr_speed ⟨num, rl, src, inn, out, n, d⟩ day)
  have HSr := Lib.hid (@cutErr_src ⟨num, rl, src, inn, out, n, d⟩ day)
  have HOk := Lib.hid (@cutErr_ok ⟨num, rl, src, inn, out, n, d⟩ day)
  have HBd := Lib.hid (@speedB_bad ⟨num, rl, src, inn, out, n, d⟩)
  have HRt := Lib.hid (@speedB_ratio ⟨num, rl, src, inn, out, n, d⟩)
  have HSo := Lib.hid (@speedB_ok ⟨num, rl, src, inn, out, n, d⟩)
  dsimp only at HNm HSp HDy HSd HSr HOk HBd HRt HSo
  have HS1 : Hid (num < 1 ∨ 999 < num → singleErr ⟨num, rl, src, inn, out, n, d⟩ last day = 2) := fun h => by unfold singleErr; rw [if_pos h]
  have HS2 : Hid (¬ (num < 1 ∨ 999 < num) → num ≤ last → singleErr ⟨num, rl, src, inn, out, n, d⟩ last day = 8) := fun h h2 => by unfold singleErr; rw [if_neg h, if_pos h2]
  have HS3 : Hid (¬ (num < 1 ∨ 999 < num) → ¬ num ≤ last → singleErr ⟨num, rl, src, inn, out, n, d⟩ last day = cutErr ⟨num, rl, src, inn, out, n, d⟩ day) := fun h h2 => by unfold singleErr; rw [if_neg h, if_neg h2]
  unfold Cut.cells
  dsimp only
  go_enter Tryd.func48, Tryd.ntmps48
  by_cases hn1 : num < 1
  · go_wp2_with fail
    go_ret
    exact ⟨ret_int (by rw [HS1.out (by omega)]), HX.out⟩
  by_cases hn2 : 999 < num
  · go_wp2_with fail
    go_ret
    exact ⟨ret_int (by rw [HS1.out (by omega)]), HX.out⟩
  by_cases hn3 : num ≤ last
  · go_wp2_with fail
    go_ret
    exact ⟨ret_int (by rw [HS2.out (by omega) hn3]), HX.out⟩
  go_wp2_with fail
  refine (RName_any rl _ (by omega)).mono ?_
  rintro e w1 ⟨rfl, hx1⟩
  have HB1 := Lib.hid (HB.out.ext hx1)
  have HX1 := Lib.hid (HX.out.trans hx1)
  have hcell := fun o => HB1.out.cell o
  cases hnm : nameB rl
  · have HN := Lib.hid hnm
    clear hnm
    go_wp2_with fail
    go_ret
    exact ⟨ret_int (by rw [HS3.out (by omega) (by omega), HNm.out HN.out]), HX1.out⟩
  have HN := Lib.hid hnm
  clear hnm
  by_cases h1 : out ≤ inn
  · skip
    go_wp2_with fail
    go_ret
    exact ⟨ret_int (by rw [HS3.out (by omega) (by omega), HSp.out HN.out h1]), HX1.out⟩
  by_cases h2 : inn < 0
  · skip
    go_wp2_with fail
    go_ret
    exact ⟨ret_int (by rw [HS3.out (by omega) (by omega), HDy.out HN.out h1 (.inl h2)]), HX1.out⟩
  by_cases h3 : day ≤ out
  · skip
    go_wp2_with fail
    go_ret
    exact ⟨ret_int (by rw [HS3.out (by omega) (by omega), HDy.out HN.out h1 (.inr h3)]), HX1.out⟩
  have HD2 : Hid (¬ (inn < 0 ∨ day ≤ out)) := by show ¬ _; omega
  have h1n : ¬ out ≤ inn := h1
  have HO1 := Lib.hid h1n
  go_wp2_with fail
  refine (RRatValid_any n d _).mono ?_
  rintro e w2 ⟨rfl, hx2⟩
  have HX2 := Lib.hid (HX1.out.trans hx2)
  have HB2 := Lib.hid (HB1.out.ext hx2)
  clear hcell
  have hcell := fun o => HB2.out.cell o
  cases hrt : ratioB n d
  · have HR := Lib.hid hrt
    clear hrt
    go_wp2_with fail
    go_ret
    exact ⟨ret_int (by rw [HS3.out (by omega) (by omega), HSd.out HN.out HO1.out HD2.out (HRt.out HR.out)]), HX2.out⟩
  have HR := Lib.hid hrt
  clear hrt
  by_cases h4 : n < 0
  · skip
    go_wp2_with fail
    go_ret
    exact ⟨ret_int (by rw [HS3.out (by omega) (by omega), HSd.out HN.out HO1.out HD2.out (HBd.out HR.out (.inl h4))]), HX2.out⟩
  by_cases h5 : 8 < n
  · skip
    go_wp2_with fail
    go_ret
    exact ⟨ret_int (by rw [HS3.out (by omega) (by omega), HSd.out HN.out HO1.out HD2.out (HBd.out HR.out (.inr (.inl h5)))]), HX2.out⟩
  by_cases h6 : 8 < d
  · skip
    go_wp2_with fail
    go_ret
    exact ⟨ret_int (by rw [HS3.out (by omega) (by omega), HSd.out HN.out HO1.out HD2.out (HBd.out HR.out (.inr (.inr h6)))]), HX2.out⟩
  have HSO := Lib.hid (HSo.out HR.out (by omega) (by omega) (by omega))
  have HTr := speedB_true HSO.out
  dsimp only at HTr
  obtain ⟨t1, t2, t3, t4⟩ := HTr
  by_cases h7 : src < 0
  · skip
    go_wp2_with fail
    go_ret
    exact ⟨ret_int (by rw [HS3.out (by omega) (by omega), HSr.out HN.out HO1.out HD2.out HSO.out (.inl h7)]), HX2.out⟩
  by_cases h8 : day ≤ src
  · skip
    go_wp2_with fail
    go_ret
    exact ⟨ret_int (by rw [HS3.out (by omega) (by omega), HSr.out HN.out HO1.out HD2.out HSO.out (.inr (.inl h8))]), HX2.out⟩
  go_wp2_with (refine wpList_loadB rfl 67 (.tmp 3) rfl w.heap.size 67 _ _ (by exact rfl) (by exact HB2.out) Tryd.underlying67 rfl (by exact size_cut) ?_)
  refine (Played_any ⟨num, rl, src, inn, out, n, d⟩ (out - 1) _ (by refine ⟨?_, ?_, ?_, ?_, ?_, ?_, ?_, ?_, ?_⟩ <;> dsimp only <;> omega) (by show inn ≤ out - 1; omega) (by show out - 1 < out; omega)).mono ?_
  rintro e w3 ⟨rfl, hx3⟩
  by_cases h9 : day ≤ srcAt ⟨num, rl, src, inn, out, n, d⟩ (out - 1)
  · skip
    go_wp2_with fail
    go_ret
    exact ⟨ret_int (by rw [HS3.out (by omega) (by omega), HSr.out HN.out HO1.out HD2.out HSO.out (.inr (.inr h9))]), HX2.out.trans hx3⟩
  have HE : Hid (¬ (src < 0 ∨ day ≤ src ∨ day ≤ srcAt ⟨num, rl, src, inn, out, n, d⟩ (out - 1))) := by show ¬ _; omega
  go_wp2_with fail
  go_ret
  exact ⟨ret_int (by rw [HS3.out (by omega) (by omega), HOk.out HN.out HO1.out HD2.out HSO.out HE.out]), HX2.out.trans hx3⟩
end Go.Proofs.YtffianmhojiomaaDoor
