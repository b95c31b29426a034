/- Laid together: The walks of edl.checkCut and of the reference's single. The walks of the packages timebase and timecode (of, Valid, CanDrop, Nominal, rateError, dropped, Day) and of their references. The walks of timebase.Valid, CanDrop, Nominal, timecode.rateError, dropped, Day, and of the references' Valid, CanDrop, Nominal, Dropped, Day. Plain: how many different names a list of names has, by sorting and by inserting. No program in sight. The walk of edl.Reels: names, sorted and compacted. Plain functions on strings and runes: no program in sight. The walks of package charset (place, Index, Valid, Len): what each returns, as a plain function. The walks of package charset (Valid, Len). The first error of an edit decision list, plainly. -/
import Derived.Test.YtablhmobekmflaaGreatDoorPk02
import Derived.Test.YtablhmobekmflaaGreatDoorPk01
import Derived.Lib.SlicesCompact
import Derived.Lib.RowBridge
import Derived.Sort.KeysCollected
import Derived.Test.YtablhmobekmflaaGreatDoorShelf
import Derived.Sort.OwnSorted
import Derived.Sort.EveryDepth
import Derived.Lib.OwnBridge
import Derived.Laws.RangeAny
import Derived.Lib.OthersKept

/-! EdlB -/
namespace Go.Proofs.YtablhmobekmflaaGreatDoor
set_option linter.unusedVariables false
set_option linter.unusedSimpArgs false
open Go.RowKit
theorem cutErr_name {c : Cut} {day : Int} (h : nameB c.reel = false) : cutErr c day = 5 := by unfold cutErr; rw [if_pos h]
theorem cutErr_span {c : Cut} {day : Int} (h : nameB c.reel = true) (h1 : c.out ≤ c.inn) : cutErr c day = 1 := by unfold cutErr; rw [if_neg (by simp [h]), if_pos h1]
theorem cutErr_day {c : Cut} {day : Int} (h : nameB c.reel = true) (h1 : ¬ c.out ≤ c.inn) (h2 : c.inn < 0 ∨ day ≤ c.out) : cutErr c day = 2 := by unfold cutErr; rw [if_neg (by simp [h]), if_neg h1, if_pos h2]
theorem cutErr_speed {c : Cut} {day : Int} (h : nameB c.reel = true) (h1 : ¬ c.out ≤ c.inn) (h2 : ¬ (c.inn < 0 ∨ day ≤ c.out)) (h3 : speedB c = false) : cutErr c day = 3 := by unfold cutErr; rw [if_neg (by simp [h]), if_neg h1, if_neg h2, if_pos h3]
theorem cutErr_src {c : Cut} {day : Int} (h : nameB c.reel = true) (h1 : ¬ c.out ≤ c.inn) (h2 : ¬ (c.inn < 0 ∨ day ≤ c.out)) (h3 : speedB c = true) (h4 : c.src < 0 ∨ day ≤ c.src ∨ day ≤ srcAt c (c.out - 1)) : cutErr c day = 2 := by unfold cutErr; rw [if_neg (by simp [h]), if_neg h1, if_neg h2, if_neg (by simp [h3]), if_pos h4]
theorem cutErr_ok {c : Cut} {day : Int} (h : nameB c.reel = true) (h1 : ¬ c.out ≤ c.inn) (h2 : ¬ (c.inn < 0 ∨ day ≤ c.out)) (h3 : speedB c = true) (h4 : ¬ (c.src < 0 ∨ day ≤ c.src ∨ day ≤ srcAt c (c.out - 1))) : cutErr c day = 0 := by unfold cutErr; rw [if_neg (by simp [h]), if_neg h1, if_neg h2, if_neg (by simp [h3]), if_neg h4]
theorem speedB_bad {c : Cut} (h : ratioB c.n c.d = true) (h2 : c.n < 0 ∨ 8 < c.n ∨ 8 < c.d) : speedB c = false := by unfold speedB; rw [h, decide_eq_false (by omega)]; rfl
theorem speedB_ratio {c : Cut} (h : ratioB c.n c.d = false) : speedB c = false := by unfold speedB; rw [h]; rfl
theorem speedB_ok {c : Cut} (h : ratioB c.n c.d = true) (h1 : 0 ≤ c.n) (h2 : c.n ≤ 8) (h3 : c.d ≤ 8) : speedB c = true := by unfold speedB; rw [h, decide_eq_true ⟨h1, h2, h3⟩]; rfl
theorem size_cut : (Tryz.prog.info? 91).map (·.size) = some 7 := by kernel_rfl
set_option maxRecDepth 100000 in
set_option maxHeartbeats 4000000 in
theorem checkCut_any (c : Cut) (day : Int) (w : World) (hf : c.Fits) (hd9 : day ≤ 5184000) :
    Calls Tryz.prog 93 #[.agg c.cells, .int .i64 day] w fun e w' => e = .returned (.int .i64 (cutErr c day)) ∧ Ext w w' := by
  obtain ⟨num, rl, src, inn, out, n, d⟩ := c
  obtain ⟨f1, f2, f3, f4, f5, f6, f7⟩ := hf
  unfold I64 at *
  dsimp only at *
  have HX := Lib.hid ((Ext.refl w).alloc (.cells #[.int .i64 num, .string rl, .int .i64 src, .int .i64 inn, .int .i64 out, .int .i64 n, .int .i64 d] 91))
  have HB := Lib.hid (Blk.new w 91 #[.int .i64 num, .string rl, .int .i64 src, .int .i64 inn, .int .i64 out, .int .i64 n, .int .i64 d])
  have HNm := Lib.hid (@cutErr_name ⟨num, rl, src, inn, out, n, d⟩ day)
  have HSp := Lib.hid (@cutErr_span ⟨num, rl, src, inn, out, n, d⟩ day)
  have HDy := Lib.hid (@cutErr_day ⟨num, rl, src, inn, out, n, d⟩ day)
  have HSd := Lib.hid (@cutErr_speed ⟨num, rl, src, inn, out, n, d⟩ day)
  have HSr := Lib.hid (@cutErr_src ⟨num, rl, src, inn, out, n, d⟩ day)
  have HOk := Lib.hid (@cutErr_ok ⟨num, rl, src, inn, out, n, d⟩ day)
  have HBd := Lib.hid (@speedB_bad ⟨num, rl, src, inn, out, n, d⟩)
  have HRt := Lib.hid (@speedB_ratio ⟨num, rl, src, inn, out, n, d⟩)
  have HSo := Lib.hid (@speedB_ok ⟨num, rl, src, inn, out, n, d⟩)
  dsimp only at HNm HSp HDy HSd HSr HOk HBd HRt HSo
  unfold Cut.cells
  dsimp only
  go_enter Tryz.func93, Tryz.ntmps93
  go_wp2_with fail
  refine (Name_any rl _ (by omega)).mono ?_
  rintro e w1 ⟨rfl, rfl⟩
  have HB1 := HB
  cases hnm : nameB rl
  · have HN := Lib.hid hnm
    clear hnm
    go_wp2_with fail
    go_ret
    exact ⟨ret_int (by rw [HNm.out HN.out]), HX.out⟩
  have HN := Lib.hid hnm
  clear hnm
  by_cases h1 : out ≤ inn
  · skip
    go_wp2_with fail
    go_ret
    exact ⟨ret_int (by rw [HSp.out HN.out h1]), HX.out⟩
  by_cases h2 : inn < 0
  · skip
    go_wp2_with fail
    go_ret
    exact ⟨ret_int (by rw [HDy.out HN.out h1 (.inl h2)]), HX.out⟩
  by_cases h3 : day ≤ out
  · skip
    go_wp2_with fail
    go_ret
    exact ⟨ret_int (by rw [HDy.out HN.out h1 (.inr h3)]), HX.out⟩
  have HD2 : Hid (¬ (inn < 0 ∨ day ≤ out)) := by show ¬ _; omega
  have h1n : ¬ out ≤ inn := h1
  have HO1 := Lib.hid h1n
  go_wp2_with fail
  refine (RatValid_any n d _).mono ?_
  rintro e w2 ⟨rfl, hx2⟩
  have HX2 := Lib.hid (HX.out.trans hx2)
  have HB2 := Lib.hid (HB1.out.ext hx2)
  have hcell := fun o => HB2.out.cell o
  cases hrt : ratioB n d
  · have HR := Lib.hid hrt
    clear hrt
    go_wp2_with fail
    go_ret
    exact ⟨ret_int (by rw [HSd.out HN.out HO1.out HD2.out (HRt.out HR.out)]), HX2.out⟩
  have HR := Lib.hid hrt
  clear hrt
  by_cases h4 : n < 0
  · skip
    go_wp2_with fail
    go_ret
    exact ⟨ret_int (by rw [HSd.out HN.out HO1.out HD2.out (HBd.out HR.out (.inl h4))]), HX2.out⟩
  by_cases h5 : 8 < n
  · skip
    go_wp2_with fail
    go_ret
    exact ⟨ret_int (by rw [HSd.out HN.out HO1.out HD2.out (HBd.out HR.out (.inr (.inl h5)))]), HX2.out⟩
  by_cases h6 : 8 < d
  · skip
    go_wp2_with fail
    go_ret
    exact ⟨ret_int (by rw [HSd.out HN.out HO1.out HD2.out (HBd.out HR.out (.inr (.inr h6)))]), HX2.out⟩
  have HSO := Lib.hid (HSo.out HR.out (by omega) (by omega) (by omega))
  have HTr := speedB_true HSO.out
  dsimp only at HTr
  obtain ⟨t1, t2, t3, t4⟩ := HTr
  by_cases h7 : src < 0
  · skip
    go_wp2_with fail
    go_ret
    exact ⟨ret_int (by rw [HSr.out HN.out HO1.out HD2.out HSO.out (.inl h7)]), HX2.out⟩
  by_cases h8 : day ≤ src
  · skip
    go_wp2_with fail
    go_ret
    exact ⟨ret_int (by rw [HSr.out HN.out HO1.out HD2.out HSO.out (.inr (.inl h8))]), HX2.out⟩
  go_wp2_with (refine wpList_loadB rfl 91 (.tmp 2) rfl w.heap.size 91 _ _ (by exact rfl) (by exact HB2.out) Tryz.underlying91 rfl (by exact size_cut) ?_)
  refine (last_any ⟨num, rl, src, inn, out, n, d⟩ _ (by refine ⟨?_, ?_, ?_, ?_, ?_, ?_, ?_, ?_, ?_⟩ <;> dsimp only <;> omega)).mono ?_
  rintro e w3 ⟨rfl, hx3⟩
  by_cases h9 : day ≤ srcAt ⟨num, rl, src, inn, out, n, d⟩ (out - 1)
  · skip
    go_wp2_with fail
    go_ret
    exact ⟨ret_int (by rw [HSr.out HN.out HO1.out HD2.out HSO.out (.inr (.inr h9))]), HX2.out.trans hx3⟩
  have HE : Hid (¬ (src < 0 ∨ day ≤ src ∨ day ≤ srcAt ⟨num, rl, src, inn, out, n, d⟩ (out - 1))) := by show ¬ _; omega
  go_wp2_with fail
  go_ret
  exact ⟨ret_int (by rw [HOk.out HN.out HO1.out HD2.out HSO.out HE.out]), HX2.out.trans hx3⟩
/-- the first error of a cut behind a number -/
def singleErr (c : Cut) (last day : Int) : Int := if c.num < 1 ∨ 999 < c.num then 2 else if c.num ≤ last then 8 else cutErr c day
set_option maxRecDepth 100000 in
set_option maxHeartbeats 4000000 in
theorem single_any (c : Cut) (last day : Int) (w : World) (hf : c.Fits) (hd9 : day ≤ 5184000) :
    Calls Tryz.prog 97 #[.agg c.cells, .int .i64 last, .int .i64 day] w fun e w' => e = .returned (.int .i64 (singleErr c last day)) ∧ Ext w w' := by
  obtain ⟨num, rl, src, inn, out, n, d⟩ := c
  obtain ⟨f1, f2, f3, f4, f5, f6, f7⟩ := hf
  unfold I64 at *
  dsimp only at *
  have HX := Lib.hid ((Ext.refl w).alloc (.cells #[.int .i64 num, .string rl, .int .i64 src, .int .i64 inn, .int .i64 out, .int .i64 n, .int .i64 d] 91))
  have HB := Lib.hid (Blk.new w 91 #[.int .i64 num, .string rl, .int .i64 src, .int .i64 inn, .int .i64 out, .int .i64 n, .int .i64 d])
  have HNm := Lib.hid (@cutErr_name ⟨num, rl, src, inn, out, n, d⟩ day)
  have HSp := Lib.hid (@cutErr_span ⟨num, rl, src, inn, out, n, d⟩ day)
  have HDy := Lib.hid (@cutErr_day ⟨num, rl, src, inn, out, n, d⟩ day)
  have HSd := Lib.hid (@cutErr_speed ⟨num, rl, src, inn, out, n, d⟩ day)
  have HSr := Lib.hid (@cutErr_src ⟨num, rl, src, inn, out, n, d⟩ day)
  have HOk := Lib.hid (@cutErr_ok ⟨num, rl, src, inn, out, n, d⟩ day)
  have HBd := Lib.hid (@speedB_bad ⟨num, rl, src, inn, out, n, d⟩)
  have HRt := Lib.hid (@speedB_ratio ⟨num, rl, src, inn, out, n, d⟩)
  have HSo := Lib.hid (@speedB_ok ⟨num, rl, src, inn, out, n, d⟩)
  dsimp only at HNm HSp HDy HSd HSr HOk HBd HRt HSo
  have HS1 : Hid (num < 1 ∨ 999 < num → singleErr ⟨num, rl, src, inn, out, n, d⟩ last day = 2) := fun h => by unfold singleErr; rw [if_pos h]
  have HS2 : Hid (¬ (num < 1 ∨ 999 < num) → num ≤ last → singleErr ⟨num, rl, src, inn, out, n, d⟩ last day = 8) := fun h h2 => by unfold singleErr; rw [if_neg h, if_pos h2]
  have HS3 : Hid (¬ (num < 1 ∨ 999 < num) → ¬ num ≤ last → singleErr ⟨num, rl, src, inn, out, n, d⟩ last day = cutErr ⟨num, rl, src, inn, out, n, d⟩ day) := fun h h2 => by unfold singleErr; rw [if_neg h, if_neg h2]
  unfold Cut.cells
  dsimp only
  go_enter Tryz.func97, Tryz.ntmps97
  by_cases hn1 : num < 1
  · go_wp2_with fail
    go_ret
    exact ⟨ret_int (by rw [HS1.out (by omega)]), HX.out⟩
  by_cases hn2 : 999 < num
  · go_wp2_with fail
    go_ret
    exact ⟨ret_int (by rw [HS1.out (by omega)]), HX.out⟩
  by_cases hn3 : num ≤ last
  · go_wp2_with fail
    go_ret
    exact ⟨ret_int (by rw [HS2.out (by omega) hn3]), HX.out⟩
  go_wp2_with fail
  refine (RName_any rl _ (by omega)).mono ?_
  rintro e w1 ⟨rfl, hx1⟩
  have HB1 := Lib.hid (HB.out.ext hx1)
  have HX1 := Lib.hid (HX.out.trans hx1)
  have hcell := fun o => HB1.out.cell o
  cases hnm : nameB rl
  · have HN := Lib.hid hnm
    clear hnm
    go_wp2_with fail
    go_ret
    exact ⟨ret_int (by rw [HS3.out (by omega) (by omega), HNm.out HN.out]), HX1.out⟩
  have HN := Lib.hid hnm
  clear hnm
  by_cases h1 : out ≤ inn
  · skip
    go_wp2_with fail
    go_ret
    exact ⟨ret_int (by rw [HS3.out (by omega) (by omega), HSp.out HN.out h1]), HX1.out⟩
  by_cases h2 : inn < 0
  · skip
    go_wp2_with fail
    go_ret
    exact ⟨ret_int (by rw [HS3.out (by omega) (by omega), HDy.out HN.out h1 (.inl h2)]), HX1.out⟩
  by_cases h3 : day ≤ out
  · skip
    go_wp2_with fail
    go_ret
    exact ⟨ret_int (by rw [HS3.out (by omega) (by omega), HDy.out HN.out h1 (.inr h3)]), HX1.out⟩
  have HD2 : Hid (¬ (inn < 0 ∨ day ≤ out)) := by show ¬ _; omega
  have h1n : ¬ out ≤ inn := h1
  have HO1 := Lib.hid h1n
  go_wp2_with fail
  refine (RRatValid_any n d _).mono ?_
  rintro e w2 ⟨rfl, hx2⟩
  have HX2 := Lib.hid (HX1.out.trans hx2)
  have HB2 := Lib.hid (HB1.out.ext hx2)
  clear hcell
  have hcell := fun o => HB2.out.cell o
  cases hrt : ratioB n d
  · have HR := Lib.hid hrt
    clear hrt
    go_wp2_with fail
    go_ret
    exact ⟨ret_int (by rw [HS3.out (by omega) (by omega), HSd.out HN.out HO1.out HD2.out (HRt.out HR.out)]), HX2.out⟩
  have HR := Lib.hid hrt
  clear hrt
  by_cases h4 : n < 0
  · skip
    go_wp2_with fail
    go_ret
    exact ⟨ret_int (by rw [HS3.out (by omega) (by omega), HSd.out HN.out HO1.out HD2.out (HBd.out HR.out (.inl h4))]), HX2.out⟩
  by_cases h5 : 8 < n
  · skip
    go_wp2_with fail
    go_ret
    exact ⟨ret_int (by rw [HS3.out (by omega) (by omega), HSd.out HN.out HO1.out HD2.out (HBd.out HR.out (.inr (.inl h5)))]), HX2.out⟩
  by_cases h6 : 8 < d
  · skip
    go_wp2_with fail
    go_ret
    exact ⟨ret_int (by rw [HS3.out (by omega) (by omega), HSd.out HN.out HO1.out HD2.out (HBd.out HR.out (.inr (.inr h6)))]), HX2.out⟩
  have HSO := Lib.hid (HSo.out HR.out (by omega) (by omega) (by omega))
  have HTr := speedB_true HSO.out
  dsimp only at HTr
  obtain ⟨t1, t2, t3, t4⟩ := HTr
  by_cases h7 : src < 0
  · skip
    go_wp2_with fail
    go_ret
    exact ⟨ret_int (by rw [HS3.out (by omega) (by omega), HSr.out HN.out HO1.out HD2.out HSO.out (.inl h7)]), HX2.out⟩
  by_cases h8 : day ≤ src
  · skip
    go_wp2_with fail
    go_ret
    exact ⟨ret_int (by rw [HS3.out (by omega) (by omega), HSr.out HN.out HO1.out HD2.out HSO.out (.inr (.inl h8))]), HX2.out⟩
  go_wp2_with (refine wpList_loadB rfl 91 (.tmp 3) rfl w.heap.size 91 _ _ (by exact rfl) (by exact HB2.out) Tryz.underlying91 rfl (by exact size_cut) ?_)
  refine (Played_any ⟨num, rl, src, inn, out, n, d⟩ (out - 1) _ (by refine ⟨?_, ?_, ?_, ?_, ?_, ?_, ?_, ?_, ?_⟩ <;> dsimp only <;> omega) (by show inn ≤ out - 1; omega) (by show out - 1 < out; omega)).mono ?_
  rintro e w3 ⟨rfl, hx3⟩
  by_cases h9 : day ≤ srcAt ⟨num, rl, src, inn, out, n, d⟩ (out - 1)
  · skip
    go_wp2_with fail
    go_ret
    exact ⟨ret_int (by rw [HS3.out (by omega) (by omega), HSr.out HN.out HO1.out HD2.out HSO.out (.inr (.inr h9))]), HX2.out.trans hx3⟩
  have HE : Hid (¬ (src < 0 ∨ day ≤ src ∨ day ≤ srcAt ⟨num, rl, src, inn, out, n, d⟩ (out - 1))) := by show ¬ _; omega
  go_wp2_with fail
  go_ret
  exact ⟨ret_int (by rw [HS3.out (by omega) (by omega), HOk.out HN.out HO1.out HD2.out HSO.out HE.out]), HX2.out.trans hx3⟩
end Go.Proofs.YtablhmobekmflaaGreatDoor

/-! Rate -/
namespace Go.Proofs.YtablhmobekmflaaGreatDoor
set_option linter.unusedVariables false
set_option linter.unusedSimpArgs false
open Go.RowKit
/-- what a rate is: ticks, nominal frames, drop -/
def rTicks (r : Int) : Int := if r = 1 then 5005 else if r = 2 then 5000 else if r = 3 then 4800 else if r = 4 then 4004 else if r = 5 then 4000 else if r = 6 then 2400 else if r = 7 then 2002 else 0
def rNom (r : Int) : Int := if r = 1 then 24 else if r = 2 then 24 else if r = 3 then 25 else if r = 4 then 30 else if r = 5 then 30 else if r = 6 then 50 else if r = 7 then 60 else 0
def rDrop (r : Int) : Bool := decide (r = 4 ∨ r = 7)
def rName (r : Int) : ByteArray := if r = 1 then ⟨#[50, 51, 46, 57, 55, 54]⟩ else if r = 2 then ⟨#[50, 52]⟩ else if r = 3 then ⟨#[50, 53]⟩ else if r = 4 then ⟨#[50, 57, 46, 57, 55]⟩ else if r = 5 then ⟨#[51, 48]⟩ else if r = 6 then ⟨#[53, 48]⟩ else if r = 7 then ⟨#[53, 57, 46, 57, 52]⟩ else ⟨#[]⟩
def rOk (r : Int) : Bool := decide (1 ≤ r ∧ r ≤ 7)
def rateVal (r : Int) : Value := .agg #[.string (rName r), .int .i64 (rTicks r), .int .i64 (rNom r), .bool (rDrop r)]
theorem rate_cases {r : Int} (h0 : 0 ≤ r) : (r = 0 ∨ r = 1 ∨ r = 2 ∨ r = 3 ∨ r = 4 ∨ r = 5 ∨ r = 6 ∨ r = 7) ∨ 8 ≤ r := by omega
theorem rateVal_big {r : Int} (h : 8 ≤ r) : rateVal r = .agg #[.string ⟨#[]⟩, .int .i64 0, .int .i64 0, .bool false] := by
  unfold rateVal rName rTicks rNom rDrop
  simp only [show ¬ r = 1 by omega, show ¬ r = 2 by omega, show ¬ r = 3 by omega, show ¬ r = 4 by omega, show ¬ r = 5 by omega, show ¬ r = 6 by omega, show ¬ r = 7 by omega, if_false, or_self]
  rfl
def rateTab : Array Value := #[.string ⟨#[]⟩, .int .i64 0, .int .i64 0, .bool false, .string ⟨#[50, 51, 46, 57, 55, 54]⟩, .int .i64 5005, .int .i64 24, .bool false, .string ⟨#[50, 52]⟩, .int .i64 5000, .int .i64 24, .bool false,
  .string ⟨#[50, 53]⟩, .int .i64 4800, .int .i64 25, .bool false, .string ⟨#[50, 57, 46, 57, 55]⟩, .int .i64 4004, .int .i64 30, .bool true, .string ⟨#[51, 48]⟩, .int .i64 4000, .int .i64 30, .bool false,
  .string ⟨#[53, 48]⟩, .int .i64 2400, .int .i64 50, .bool false, .string ⟨#[53, 57, 46, 57, 52]⟩, .int .i64 2002, .int .i64 60, .bool true]
def rateZero : Array Value := #[.string ⟨#[]⟩, .int .i64 0, .int .i64 0, .bool false]
theorem size_tab : (Tryz.prog.info? 259).map (·.size) = some 32 := by kernel_rfl
theorem size_rate : (Tryz.prog.info? 214).map (·.size) = some 4 := by kernel_rfl
/-- the cells of one of the eight -/
theorem tab_at (r : Int) (h0 : 0 ≤ r) (h7 : r ≤ 7) : ∀ j v, [Value.string (rName r), .int .i64 (rTicks r), .int .i64 (rNom r), .bool (rDrop r)][j]? = some v → rateTab[r.toNat * 4 + j]? = some v := by
  have : r = 0 ∨ r = 1 ∨ r = 2 ∨ r = 3 ∨ r = 4 ∨ r = 5 ∨ r = 6 ∨ r = 7 := by omega
  rcases this with rfl | rfl | rfl | rfl | rfl | rfl | rfl | rfl
  all_goals
    intro j v
    match j with
    | 0 => exact id
    | 1 => exact id
    | 2 => exact id
    | 3 => exact id
    | j + 4 => intro h; simp at h
set_option maxRecDepth 100000 in
set_option maxHeartbeats 2000000 in
theorem of_any (r : Int) (w : World) (h0 : 0 ≤ r) (h1 : r ≤ 255) : Calls Tryz.prog 146 #[.int .u8 r] w fun e w' => e = .returned (rateVal r) ∧ Ext w w' := by
  have HT := Lib.hid (tab_at r h0)
  have HB := Lib.hid (@rateVal_big r)
  go_enter Tryz.func146, Tryz.ntmps146
  go_upto_region 1 with fail
  go_cut [3] (fun s3 wr => s3 = Value.pointer (some ⟨w.heap.size + 1, 0, none⟩) ∧ Ext w wr ∧ Blk wr w.heap.size 214 rateZero ∧ Blk wr (w.heap.size + 1) 259 rateTab)
  case first =>
    go_wp2_with (refine wpList_storeB rfl 259 (.tmp 3) (.tmp 12) rfl (w.heap.size + 1) 259 _ _ (by exact rfl) (by exact rfl) (by exact Blk.new' (by simp)) (by exact rfl) (by exact size_tab) (by simp [Value.oneCell']) ?_)
    go_meet
    case rel => exact ⟨rfl, Ext.put (((Ext.refl w).alloc _).alloc _) (by omega) _ _, ((Blk.new w _ _).alloc _).put_other (by omega) _, (Blk.new' (by simp)).put _⟩
  case rest =>
  obtain ⟨rfl, hx2, hB0, hB1⟩ := hcut
  have HX := Lib.hid hx2
  have HB0 := Lib.hid hB0
  have HB1 := Lib.hid hB1
  clear hx2 hB0 hB1
  by_cases h8 : 8 ≤ r
  · go_wp2_with (refine wpList_storeB rfl 214 (.tmp 2) (.tmp 16) rfl w.heap.size 214 _ _ (by exact rfl) (by exact rfl) (by exact HB0.out) (by exact rfl) (by exact size_rate) (by simp [Value.oneCell']) ?_)
    refine bodyPost_ret (v := rateVal r) ?_ rfl ⟨rfl, ?_⟩
    · rw [HB.out h8]
      exact results_B (P := Tryz.prog) Tryz.results146 (g := w.heap.size) rfl (by exact HB0.out.put _) Tryz.underlying214 rfl size_rate
    · exact HX.out.put (Nat.le_refl _) _ _
  · have h7 : r ≤ 7 := by omega
    have HT7 := Lib.hid (HT.out h7)
    have hr8 : r < 8 := by omega
    clear HT h8
    go_wp2_with (first | (refine wpList_load_mid rfl 214 (.tmp 18) rfl (w.heap.size + 1) (r.toNat * 4) (by first | exact rfl | (simp; done)) [.string (rName r), .int .i64 (rTicks r), .int .i64 (rNom r), .bool (rDrop r)] _ (fun j v hv => by rw [HB1.out.cell]; exact HT7.out j v hv) Tryz.underlying214 rfl (by exact size_rate) ?_) | (refine wpList_storeB rfl 214 (.tmp 2) (.tmp 19) rfl w.heap.size 214 _ _ (by exact rfl) (by exact rfl) (by exact HB0.out) (by exact rfl) (by exact size_rate) (by simp [Value.oneCell']) ?_))
    refine bodyPost_ret (v := rateVal r) ?_ rfl ⟨rfl, ?_⟩
    · exact results_B (P := Tryz.prog) Tryz.results146 (g := w.heap.size) rfl (by exact HB0.out.put _) Tryz.underlying214 rfl size_rate
    · exact HX.out.put (Nat.le_refl _) _ _
end Go.Proofs.YtablhmobekmflaaGreatDoor

/-! RateB -/
namespace Go.Proofs.YtablhmobekmflaaGreatDoor
set_option linter.unusedVariables false
set_option linter.unusedSimpArgs false
open Go.RowKit
theorem rNom_bd (r : Int) : 0 ≤ rNom r ∧ rNom r ≤ 60 := by unfold rNom; repeat' split <;> omega
theorem rOk_ticks (r : Int) (h0 : 0 ≤ r) : decide (0 < rTicks r) = rOk r := by
  rcases rate_cases h0 with (rfl | rfl | rfl | rfl | rfl | rfl | rfl | rfl) | h8
  all_goals first | rfl | skip
  unfold rOk rTicks
  simp only [show ¬ r = 1 by omega, show ¬ r = 2 by omega, show ¬ r = 3 by omega, show ¬ r = 4 by omega, show ¬ r = 5 by omega, show ¬ r = 6 by omega, show ¬ r = 7 by omega, if_false]
  rw [decide_eq_false (by omega), decide_eq_false (by omega)]
def drops (r : Int) (d : Bool) : Int := if d then (if r = 7 then 4 else 2) else 0
/-- may labels be of a rate, drop-frame or not? -/
def rateOkB (r : Int) (d : Bool) : Bool := rOk r && (!d || rDrop r)
def dayOf (r : Int) (d : Bool) : Int := if rateOkB r d = true then 86400 * rNom r - 1296 * drops r d else 0
def rateErr (r : Int) (d : Bool) : Int := if rOk r = true then (if d && !rDrop r then 13 else 0) else 3
theorem drops_bd (r : Int) (d : Bool) : 0 ≤ drops r d ∧ drops r d ≤ 4 := by unfold drops; repeat' split <;> omega
theorem rateErr_zero (r : Int) (d : Bool) : (rateErr r d != 0) = !rateOkB r d := by
  unfold rateErr rateOkB
  cases rOk r <;> cases d <;> cases rDrop r <;> rfl
set_option maxRecDepth 100000 in
set_option maxHeartbeats 400000 in
theorem TBValid_any (r : Int) (w : World) (h0 : 0 ≤ r) (h1 : r ≤ 255) : Calls Tryz.prog 90 #[.int .u8 r] w fun e w' => e = .returned (.bool (rOk r)) ∧ Ext w w' := by
  have HO := Lib.hid (rOk_ticks r h0)
  have hfd : ∀ w : World, (Instr.field 214 (.agg #[.string (rName r), .int .i64 (rTicks r), .int .i64 (rNom r), .bool (rDrop r)]) 1).run Tryz.prog w = .ok (.int .i64 (rTicks r)) w := fun _ => by kernel_rfl
  go_enter Tryz.func90, Tryz.ntmps90
  go_wp2_with fail
  refine (of_any r _ h0 h1).mono ?_
  rintro e w1 ⟨rfl, hx⟩
  unfold rateVal
  go_wp2_with fail
  go_ret
  exact ⟨ret_bool HO.out, hx⟩
set_option maxRecDepth 100000 in
set_option maxHeartbeats 400000 in
theorem CanDrop_any (r : Int) (w : World) (h0 : 0 ≤ r) (h1 : r ≤ 255) : Calls Tryz.prog 91 #[.int .u8 r] w fun e w' => e = .returned (.bool (rDrop r)) ∧ Ext w w' := by
  have hfd : ∀ w : World, (Instr.field 214 (.agg #[.string (rName r), .int .i64 (rTicks r), .int .i64 (rNom r), .bool (rDrop r)]) 3).run Tryz.prog w = .ok (.bool (rDrop r)) w := fun _ => by kernel_rfl
  go_enter Tryz.func91, Tryz.ntmps91
  go_wp2_with fail
  refine (of_any r _ h0 h1).mono ?_
  rintro e w1 ⟨rfl, hx⟩
  unfold rateVal
  go_wp2_with fail
  go_ret
  exact ⟨rfl, hx⟩
set_option maxRecDepth 100000 in
set_option maxHeartbeats 400000 in
theorem Nominal_any (r : Int) (w : World) (h0 : 0 ≤ r) (h1 : r ≤ 255) : Calls Tryz.prog 148 #[.int .u8 r] w fun e w' => e = .returned (.int .i64 (rNom r)) ∧ Ext w w' := by
  have hfd : ∀ w : World, (Instr.field 214 (.agg #[.string (rName r), .int .i64 (rTicks r), .int .i64 (rNom r), .bool (rDrop r)]) 2).run Tryz.prog w = .ok (.int .i64 (rNom r)) w := fun _ => by kernel_rfl
  go_enter Tryz.func148, Tryz.ntmps148
  go_wp2_with fail
  refine (of_any r _ h0 h1).mono ?_
  rintro e w1 ⟨rfl, hx⟩
  unfold rateVal
  go_wp2_with fail
  go_ret
  exact ⟨rfl, hx⟩
set_option maxRecDepth 100000 in
set_option maxHeartbeats 400000 in
theorem rateError_any (r : Int) (d : Bool) (w : World) (h0 : 0 ≤ r) (h1 : r ≤ 255) : Calls Tryz.prog 147 #[.int .u8 r, .bool d] w fun e w' => e = .returned (.int .i64 (rateErr r d)) ∧ Ext w w' := by
  cases ho : rOk r
  · have HF : Hid (rateErr r d = 3) := by show _ = _; unfold rateErr; rw [ho]; rfl
    have HO := Lib.hid ho
    clear ho
    go_enter Tryz.func147, Tryz.ntmps147
    go_wp2_with fail
    refine (TBValid_any r _ h0 h1).mono ?_
    rintro e w1 ⟨rfl, hx⟩
    rw [HO.out]
    go_wp2_with fail
    go_ret
    exact ⟨ret_int HF.out.symm, hx⟩
  · have HO := Lib.hid ho
    have HF : Hid (rateErr r d = (if d && !rDrop r then 13 else 0)) := by show _ = _; unfold rateErr; rw [ho]; rfl
    clear ho
    cases d
    · go_enter Tryz.func147, Tryz.ntmps147
      go_wp2_with fail
      refine (TBValid_any r _ h0 h1).mono ?_
      rintro e w1 ⟨rfl, hx⟩
      rw [HO.out]
      go_wp2_with fail
      go_ret
      exact ⟨ret_int HF.out.symm, hx⟩
    · go_enter Tryz.func147, Tryz.ntmps147
      go_wp2_with fail
      refine (TBValid_any r _ h0 h1).mono ?_
      rintro e w1 ⟨rfl, hx⟩
      rw [HO.out]
      go_wp2_with fail
      refine (CanDrop_any r _ h0 h1).mono ?_
      rintro e w2 ⟨rfl, hx2⟩
      cases hd : rDrop r
      · have HD := Lib.hid hd
        clear hd
        go_wp2_with fail
        go_ret
        exact ⟨ret_int (by rw [HF.out, HD.out]; rfl), hx.trans hx2⟩
      · have HD := Lib.hid hd
        clear hd
        go_wp2_with fail
        go_ret
        exact ⟨ret_int (by rw [HF.out, HD.out]; rfl), hx.trans hx2⟩
theorem dropped_any (r : Int) (d : Bool) (w : World) : Calls Tryz.prog 149 #[.int .u8 r, .bool d] w fun e w' => e = .returned (.int .i64 (drops r d)) ∧ w = w' := by
  cases d
  · go_enter Tryz.func149, Tryz.ntmps149
    go_wp2
    go_ret
    exact ⟨rfl, rfl⟩
  · by_cases h : r = 7
    · subst h
      go_enter Tryz.func149, Tryz.ntmps149
      go_wp2
      go_ret
      exact ⟨rfl, rfl⟩
    · have h' : (r == 7) = false := by simpa using h
      have HF : Hid (drops r true = 2) := by show _ = _; unfold drops; rw [if_pos rfl, if_neg h]
      go_enter Tryz.func149, Tryz.ntmps149
      go_wp2
      go_ret
      exact ⟨ret_int HF.out.symm, rfl⟩
set_option maxHeartbeats 1000000 in
theorem Day_any (r : Int) (d : Bool) (w : World) (h0 : 0 ≤ r) (h1 : r ≤ 255) : Calls Tryz.prog 92 #[.int .u8 r, .bool d] w fun e w' => e = .returned (.int .i64 (dayOf r d)) ∧ Ext w w' := by
  have HE := Lib.hid (rateErr_zero r d)
  cases ho : rateOkB r d
  · have HF : Hid (dayOf r d = 0) := by show _ = _; unfold dayOf; rw [ho]; rfl
    have HO := Lib.hid ho
    clear ho
    go_enter Tryz.func92, Tryz.ntmps92
    go_wp2_with fail
    refine (rateError_any r d _ h0 h1).mono ?_
    rintro e w1 ⟨rfl, hx⟩
    have hne : (rateErr r d != 0) = true := by rw [HE.out, HO.out]; rfl
    go_wp2_with fail
    go_ret
    exact ⟨ret_int HF.out.symm, hx⟩
  · have HF : Hid (dayOf r d = 86400 * rNom r - 1296 * drops r d) := by show _ = _; unfold dayOf; rw [ho]; rfl
    have HO := Lib.hid ho
    clear ho
    have hn := rNom_bd r
    have hd := drops_bd r d
    go_enter Tryz.func92, Tryz.ntmps92
    go_wp2_with fail
    refine (rateError_any r d _ h0 h1).mono ?_
    rintro e w1 ⟨rfl, hx⟩
    have hne : (rateErr r d != 0) = false := by rw [HE.out, HO.out]; rfl
    go_wp2_with fail
    refine (Nominal_any r _ h0 h1).mono ?_
    rintro e w2 ⟨rfl, hx2⟩
    go_wp2_with fail
    refine (dropped_any r d _).mono ?_
    rintro e w3 ⟨rfl, rfl⟩
    go_wp2_with fail
    go_ret
    exact ⟨ret_int HF.out.symm, hx.trans hx2⟩
theorem dayOf_bd (r : Int) (d : Bool) : dayOf r d ≤ 5184000 := by
  unfold dayOf
  have := rNom_bd r
  have := drops_bd r d
  split <;> omega
theorem dayOf_pos (r : Int) (d : Bool) : (dayOf r d == 0) = !rateOkB r d := by
  unfold dayOf
  cases h : rateOkB r d
  · rfl
  · have := drops_bd r d
    unfold rateOkB rOk at h
    simp only [Bool.and_eq_true, decide_eq_true_eq] at h
    have : 24 ≤ rNom r := by
      have : r = 1 ∨ r = 2 ∨ r = 3 ∨ r = 4 ∨ r = 5 ∨ r = 6 ∨ r = 7 := by omega
      rcases this with rfl | rfl | rfl | rfl | rfl | rfl | rfl <;> decide
    simp
    omega
end Go.Proofs.YtablhmobekmflaaGreatDoor

/-! ReelsP -/
namespace Go.Proofs.YtablhmobekmflaaGreatDoor
set_option linter.unusedVariables false
set_option linter.unusedSimpArgs false
abbrev Bs := List UInt8
def srt (ss : List Bs) : List Bs := ss.mergeSort fun x y => decide (x ≤ y)
/-- the number of different names -/
def cnt (ss : List Bs) : Nat := (Lib.compact (srt ss)).length
theorem Bs.lt_trans {a b c : Bs} (h1 : a < b) (h2 : b < c) : a < c := List.lt_trans h1 h2
theorem Bs.lt_irrefl (a : Bs) : ¬ a < a := List.lt_irrefl a
theorem Bs.le_of_lt {a b : Bs} (h : a < b) : a ≤ b := List.le_of_lt h
theorem Bs.lt_of_le_of_ne {a b : Bs} (h : a ≤ b) (hne : a ≠ b) : a < b := by
  rcases Classical.em (a < b) with h1 | h1
  · exact h1
  · exact absurd (List.le_antisymm h (List.not_lt.1 h1)) hne
theorem Bs.lt_of_le_of_lt {a b c : Bs} (h : a ≤ b) (h2 : b < c) : a < c := by
  rcases Classical.em (a = b) with h1 | h1
  · rw [h1]; exact h2
  · exact Bs.lt_trans (Bs.lt_of_le_of_ne h h1) h2
theorem Bs.le_refl (a : Bs) : a ≤ a := List.le_refl a
theorem Bs.le_trans {a b c : Bs} (h : a ≤ b) (h2 : b ≤ c) : a ≤ c := List.le_trans h h2
theorem srt_sorted (ss : List Bs) : (srt ss).Pairwise (· ≤ ·) := by
  have := List.pairwise_mergeSort (le := fun x y : Bs => decide (x ≤ y)) (fun a b c h1 h2 => by simp only [decide_eq_true_eq] at *; exact Bs.le_trans h1 h2) (fun a b => by simp only [Bool.or_eq_true, decide_eq_true_eq]; exact List.le_total a b) ss
  exact this.imp (fun h => by simpa using h)
theorem mem_srt (ss : List Bs) (x : Bs) : x ∈ srt ss ↔ x ∈ ss := List.mem_mergeSort
theorem compact_step (zs : List Bs) (hs : zs.Pairwise (· ≤ ·)) : ∀ m, m ≤ zs.length → (Lib.compactUpTo zs.toArray m).Pairwise (· < ·) ∧ ∀ x, x ∈ Lib.compactUpTo zs.toArray m ↔ ∃ j, j < m ∧ zs[j]? = some x
  | 0, _ => ⟨by simp [Lib.compactUpTo], fun x => by simp [Lib.compactUpTo]⟩
  | m + 1, hm => by
    obtain ⟨h1, h2⟩ := compact_step zs hs m (by omega)
    have hlt : m < zs.length := by omega
    have hget : zs.toArray[m]! = zs[m] := by simp [hlt]
    rw [Lib.compactUpTo_succ]
    by_cases hk : Lib.keeps zs.toArray m = true
    · rw [if_pos hk, hget]
      refine ⟨?_, fun x => ?_⟩
      · rw [List.pairwise_append]
        refine ⟨h1, by simp, fun a ha b hb => ?_⟩
        simp only [List.mem_singleton] at hb
        subst hb
        obtain ⟨j, hj, hja⟩ := (h2 a).1 ha
        have hm0 : m ≠ 0 := by omega
        have hne : zs[m] ≠ zs[m - 1] := by
          have := hk
          simp [Lib.keeps, hm0, hlt, show m - 1 < zs.length by omega] at this
          exact this
        have hjl : j < zs.length := by omega
        have hja' : zs[j] = a := by rw [List.getElem?_eq_getElem hjl] at hja; exact Option.some.inj hja
        have hpw := List.pairwise_iff_getElem.1 hs
        have h3 : a ≤ zs[m - 1] := by
          rw [← hja']
          rcases Nat.lt_or_ge j (m - 1) with h | h
          · exact hpw j (m - 1) hjl (by omega) h
          · have : j = m - 1 := by omega
            subst this; exact Bs.le_refl _
        exact Bs.lt_of_le_of_lt h3 (Bs.lt_of_le_of_ne (hpw (m - 1) m (by omega) hlt (by omega)) (fun e => hne e.symm))
      · rw [List.mem_append, h2, List.mem_singleton]
        constructor
        · rintro (⟨j, hj, hx⟩ | rfl)
          · exact ⟨j, by omega, hx⟩
          · exact ⟨m, by omega, List.getElem?_eq_getElem hlt⟩
        · rintro ⟨j, hj, hx⟩
          by_cases hjm : j = m
          · subst hjm
            right
            rw [List.getElem?_eq_getElem hlt] at hx
            exact (Option.some.inj hx).symm
          · exact .inl ⟨j, by omega, hx⟩
    · rw [if_neg hk, List.append_nil]
      refine ⟨h1, fun x => ?_⟩
      rw [h2]
      constructor
      · rintro ⟨j, hj, hx⟩
        exact ⟨j, by omega, hx⟩
      · rintro ⟨j, hj, hx⟩
        by_cases hjm : j = m
        · subst hjm
          have hm0 : j ≠ 0 := by
            rintro rfl
            exact hk (by simp [Lib.keeps])
          have he : zs[j] = zs[j - 1] := by
            have := hk
            simp [Lib.keeps, hm0, hlt, show j - 1 < zs.length by omega] at this
            exact this
          refine ⟨j - 1, by omega, ?_⟩
          rw [List.getElem?_eq_getElem (by omega), ← he]
          rw [List.getElem?_eq_getElem hlt] at hx
          exact hx
        · exact ⟨j, by omega, hx⟩
theorem compact_mem (zs : List Bs) (hs : zs.Pairwise (· ≤ ·)) : (Lib.compact zs).Pairwise (· < ·) ∧ ∀ x, x ∈ Lib.compact zs ↔ x ∈ zs := by
  obtain ⟨h1, h2⟩ := compact_step zs hs zs.length (Nat.le_refl _)
  refine ⟨h1, fun x => ?_⟩
  unfold Lib.compact
  rw [h2, List.mem_iff_getElem?]
  constructor
  · rintro ⟨j, _, h⟩; exact ⟨j, h⟩
  · rintro ⟨j, h⟩; exact ⟨j, (List.getElem?_eq_some_iff.1 h).1, h⟩
theorem nodup_of_lt {l : List Bs} (h : l.Pairwise (· < ·)) : l.Nodup := by
  unfold List.Nodup
  exact h.imp (fun {a b} hab e => by subst e; exact Bs.lt_irrefl _ hab)
theorem nodup_len {a b : List Bs} (ha : a.Nodup) (hb : b.Nodup) (h : ∀ x, x ∈ a ↔ x ∈ b) : a.length = b.length := by
  apply List.Perm.length_eq
  rw [List.perm_iff_count]
  intro x
  rw [ha.count, hb.count]
  simp only [h x]
theorem cnt_eq {ss l : List Bs} (hl : l.Pairwise (· < ·)) (h : ∀ x, x ∈ l ↔ x ∈ ss) : l.length = cnt ss := by
  obtain ⟨h1, h2⟩ := compact_mem (srt ss) (srt_sorted ss)
  exact nodup_len (nodup_of_lt hl) (nodup_of_lt h1) (fun x => by rw [h, h2, mem_srt])
theorem cnt_nil : cnt [] = 0 := by unfold cnt srt; simp [Lib.compact, Lib.compactUpTo]
/-- a name set into a list at its place -/
theorem ins_at {os : List Bs} {x : Bs} {k : Nat} (hs : os.Pairwise (· < ·)) (hk : k ≤ os.length) (hlo : ∀ j y, j < k → os[j]? = some y → y < x) (hhi : ∀ y, os[k]? = some y → ¬ y < x ∧ y ≠ x) :
    (os.take k ++ [x] ++ os.drop k).Pairwise (· < ·) ∧ ∀ y, y ∈ os.take k ++ [x] ++ os.drop k ↔ y ∈ os ∨ y = x := by
  have hpw := List.pairwise_iff_getElem.1 hs
  refine ⟨?_, fun y => ?_⟩
  · rw [List.append_assoc, List.pairwise_append]
    refine ⟨hs.sublist (List.take_sublist _ _), ?_, fun a ha b hb => ?_⟩
    · show (x :: os.drop k).Pairwise (· < ·)
      rw [List.pairwise_cons]
      refine ⟨fun b hb => ?_, hs.sublist (List.drop_sublist _ _)⟩
      obtain ⟨i, hi, rfl⟩ := List.getElem_of_mem hb
      rw [List.length_drop] at hi
      rw [List.getElem_drop]
      have hkl : k < os.length := by omega
      obtain ⟨h1, h2⟩ := hhi os[k] (List.getElem?_eq_getElem hkl)
      have hx : x < os[k] := Bs.lt_of_le_of_ne (List.not_lt.1 h1) (fun e => h2 e.symm)
      rcases Nat.eq_zero_or_pos i with h0 | h0
      · subst h0; simpa using hx
      · exact Bs.lt_trans hx (hpw k (k + i) hkl (by omega) (by omega))
    · obtain ⟨i, hi, rfl⟩ := List.getElem_of_mem ha
      have hb : b ∈ x :: os.drop k := hb
      rw [List.length_take] at hi
      rw [List.getElem_take]
      rcases List.mem_cons.1 hb with rfl | hb
      · exact hlo i _ (by omega) (List.getElem?_eq_getElem (by omega))
      · obtain ⟨j, hj, rfl⟩ := List.getElem_of_mem hb
        rw [List.length_drop] at hj
        rw [List.getElem_drop]
        exact hpw i (k + j) (by omega) (by omega) (by omega)
  · rw [List.append_assoc, List.mem_append, List.mem_append, List.mem_singleton]
    have e : y ∈ os ↔ y ∈ os.take k ∨ y ∈ os.drop k := by rw [← List.mem_append, List.take_append_drop]
    rw [e]
    constructor
    · rintro (h | h | h)
      · exact .inl (.inl h)
      · exact .inr h
      · exact .inl (.inr h)
    · rintro ((h | h) | h)
      · exact .inl h
      · exact .inr (.inr h)
      · exact .inr (.inl h)
end Go.Proofs.YtablhmobekmflaaGreatDoor

/-! Reels -/
namespace Go.Proofs.YtablhmobekmflaaGreatDoor
set_option linter.unusedVariables false
set_option linter.unusedSimpArgs false
open Go.RowKit Go.Shelf Go.Sort
theorem sort_c (blk off cap : Nat) (zs : List (List UInt8)) (w : World) (hH : Holds encStr w blk off zs.toArray) (hblk : blk < w.heap.size) (hsz : zs.length < 4611686018427387904) :
    Calls Tryz.prog 152 #[.slice (some ⟨blk, off, none⟩) zs.length cap] w fun e w' =>
      e = .returned (.tuple #[]) ∧ ∃ n os, w' = grow (putRow encStr (Sort.ahead w n) blk off (zs.mergeSort fun x y => decide (x ≤ y)).toArray) os :=
  calls_of_every_depth fun D => AnyS.slices_Sort_string_alone Tryz.laysSort D blk off cap zs w hH hblk hsz
theorem sort_none (p : Option Addr) (cap : Nat) (w : World) : Calls Tryz.prog 152 #[.slice p 0 cap] w fun e w' => e = .returned (.tuple #[]) ∧ w' = w :=
  calls_of_every_depth fun D => AnyS.slices_Sort_string_none_alone Tryz.laysSort D p cap w
theorem compact_c (blk off cap : Nat) (zs : List (List UInt8)) (w : World) (hH : Holds encStr w blk off zs.toArray) (hsz : zs.length ≤ 9223372036854775807) (hcap : zs.length ≤ cap) :
    Calls Tryz.prog 153 #[.slice (some ⟨blk, off, none⟩) zs.length cap] w fun e w' => e = .returned (.slice (some ⟨blk, off, none⟩) (Lib.compact zs).length cap) ∧ ∃ q, w' = putRow encStr (Sort.ahead w q) blk off (Lib.compact zs ++ List.replicate (zs.length - (Lib.compact zs).length) []).toArray :=
  Any.slices_Compact_string Tryz.laysCompact blk off cap zs w hH hsz hcap
theorem compact_none (a : Option Addr) (cap : Nat) (w : World) : Calls Tryz.prog 153 #[.slice a 0 cap] w fun e w' => e = .returned (.slice a 0 cap) ∧ w' = w :=
  Any.slices_Compact_string_empty Tryz.laysCompact a cap w
/-- cuts in memory -/
def CutsAt (w : World) (A : Option Addr) (n : Nat) (l : List Cut) : Prop := Sl w 7 (Cells Cut.vals) A n l
theorem CutsAt.ext {w w1 : World} {A : Option Addr} {n : Nat} {l : List Cut} (h : CutsAt w A n l) (k : Ext w w1) : CutsAt w1 A n l := Sl.ext (Cells.stays _) h k
theorem CutsAt.at7 {w : World} {A : Option Addr} {n : Nat} {l : List Cut} (h : CutsAt w A n l) {i : Nat} (hi : i < n) : ∃ b off c, A = some ⟨b, off, none⟩ ∧ l[i]? = some c ∧
    (w.cell? ⟨b, off + i * 7, none⟩ = some (.int .i64 c.num) ∧ w.cell? ⟨b, off + i * 7 + 1, none⟩ = some (.string c.reel) ∧ w.cell? ⟨b, off + i * 7 + 2, none⟩ = some (.int .i64 c.src) ∧ w.cell? ⟨b, off + i * 7 + 3, none⟩ = some (.int .i64 c.inn) ∧
      w.cell? ⟨b, off + i * 7 + 4, none⟩ = some (.int .i64 c.out) ∧ w.cell? ⟨b, off + i * 7 + 5, none⟩ = some (.int .i64 c.n) ∧ w.cell? ⟨b, off + i * 7 + 6, none⟩ = some (.int .i64 c.d)) := by
  obtain ⟨b, off, c, hA, hc, hC⟩ := h.at_ hi
  exact ⟨b, off, c, hA, hc, by simpa using hC 0 _ rfl, hC 1 _ rfl, hC 2 _ rfl, hC 3 _ rfl, hC 4 _ rfl, hC 5 _ rfl, hC 6 _ rfl⟩
/-- a list of cuts -/
structure Edl where
  title : ByteArray
  rate : Int
  drop : Bool
  cuts : List Cut
  deriving DecidableEq
def Edl.cells (e : Edl) (A : Option Addr) (n c : Nat) : Array Value := #[.string e.title, .int .u8 e.rate, .bool e.drop, .slice A n c]
def Edl.names (e : Edl) : List Bs := e.cuts.map fun c => c.reel.data.toList
theorem info_str : (Tryz.prog.info? 9).map (fun i => (i.zero, i.size, i.bytes)) = some (some (.string ⟨#[]⟩), 1, 16) := by kernel_rfl
theorem enc_reel (s : ByteArray) : encStr s.data.toList = .string s := by simp [encStr]
def ReelsPost (e : Edl) (w : World) (en : Ending) (w' : World) : Prop := ∃ A m c, en = .returned (.slice A m c) ∧ m = cnt e.names ∧ Ext w w'
def ReelsRel (w w0 : World) (n : Nat) (l : List Cut) (v i : Value) (wr : World) : Prop :=
  ∃ k : Nat, k ≤ n ∧ i = .int .i64 k ∧ Ext w0 wr ∧ Ext w wr ∧ wr.ownsRow w0.heap.size 9 1 v k ((l.take k).map fun c => Value.string c.reel)
theorem reels_end {w w1 : World} {base g cap n : Nat} {ss : List Bs} (hx : Ext w w1) (hown : w1.ownsRow base 9 1 (.slice (some ⟨g, 0, none⟩) n cap) n (ss.map encStr)) (hg : w.heap.size ≤ g) {nn q : Nat} {os : Array Obj} {d : Array (List UInt8)} :
    Ext w (putRow encStr (Sort.ahead (grow (putRow encStr (Sort.ahead w1 nn) g 0 (ss.mergeSort fun x y => decide (x ≤ y)).toArray) os) q) g 0 d) :=
  Lib.below_putRow (hx.grown (grownBy_sorted _) (fun j hj => by cases hj; exact hg)) hg
set_option maxRecDepth 100000 in
set_option maxHeartbeats 2000000 in
theorem Reels_any (e : Edl) (A : Option Addr) (n c : Nat) (w : World) (hl : CutsAt w A n e.cuts) (hn : n ≤ 1000000) :
    Calls Tryz.prog 94 #[.agg (e.cells A n c)] w (ReelsPost e w) := by
  have HL := Lib.hid hl
  have HLn := Lib.hid hl.len
  clear hl
  unfold Edl.cells
  have HX0 := Lib.hid ((Ext.refl w).alloc (.cells #[.string e.title, .int .u8 e.rate, .bool e.drop, .slice A n c] 28))
  go_enter Tryz.func94, Tryz.ntmps94
  go_wp2_with fail
  go_loopw [3, 9] (fun v i wr => ReelsRel w (w.alloc (.cells #[.string e.title, .int .u8 e.rate, .bool e.drop, .slice A n c] 28)) n e.cuts v i wr) (fun _ i _ => n - (intOf i).toNat)
  case atStart => exact ⟨0, Nat.zero_le _, rfl, Ext.refl _, HX0.out, ⟨rfl, .inl ⟨rfl, rfl⟩⟩⟩
  case round =>
    obtain ⟨k, hk, rfl, hx, hxw, hown⟩ := hrel
    by_cases hlt : k < n
    · obtain ⟨b, off, r, rfl, hr, c0, c1, c2, c3, c4, c5, c6⟩ := (HL.out.ext hxw).at7 hlt
      have HT := Lib.hid (take_snoc' e.cuts k r hr)
      have HO := Lib.hid (hown.alloc (.cells r.cells 91))
      unfold Cut.cells at HO
      have HO0 := Lib.hid hown
      clear hr hown
      have hsz := hx.size
      simp only [World.size_alloc] at hsz
      go_wp2_with (at_builtin; refine wpList_append1 rfl (.tmp 13) (.tmp 16) 130 rfl info_str Tryz.underlying130 rfl (by decide) (HO.out.alloc _) (by exact rfl) (wr.heap.size + 1) _ (by exact rfl) (by exact Blk.new' (by simp)) (by exact rfl) (by simp [Value.oneCell']) (by omega) (by simp [maxLen]; omega) (by simp; omega) ?_; intro v' w3 hown3 hgr)
      refine ⟨⟨k + 1, by omega, by go_num, ((hx.alloc _).alloc _).grown hgr (fun q hq => by have := own_lt HO0.out q hq; simpa using this), ((hxw.alloc _).alloc _).grown hgr (fun q hq => by have := own_lt HO0.out q hq; have := HX0.out.size; omega), ?_⟩, by simp [intOf]; omega⟩
      rw [HT.out, List.map_append]
      exact hown3
    · have hkn : k = n := by omega
      subst hkn
      have HT : Hid (e.cuts.take k = e.cuts) := List.take_of_length_le (by rw [HLn.out]; omega)
      have hown2 : wr.ownsRow (w.alloc (.cells #[.string e.title, .int .u8 e.rate, .bool e.drop, .slice A k c] 28)).heap.size 9 1 u3 k (e.names.map encStr) := by
        have := hown
        rw [HT.out] at this
        have e1 : e.names.map encStr = e.cuts.map fun c => Value.string c.reel := by
          unfold Edl.names
          rw [List.map_map]
          exact List.map_congr_left fun c _ => enc_reel c.reel
        rw [e1]
        exact this
      have HO := Lib.hid hown2
      have HXw := Lib.hid hxw
      have hb0 := HX0.out.size
      have HLs : Hid (e.names.length = k) := by show _ = _; unfold Edl.names; rw [List.length_map, HLn.out]
      clear hown hown2
      rcases Classical.em (u3 = .slice none 0 0) with hv | hv
      · subst hv
        have hk0 : k = 0 := by
          rcases HO.out.2 with ⟨_, h0⟩ | ⟨g, cap, cur, h0, _⟩
          · exact h0
          · cases h0
        subst hk0
        have HN : Hid (e.names = []) := List.eq_nil_of_length_eq_zero HLs.out
        go_wp2_with fail
        refine (sort_none none 0 _).mono ?_
        rintro en w2 ⟨rfl, rfl⟩
        go_wp2_with fail
        refine (compact_none none 0 _).mono ?_
        rintro en w3 ⟨rfl, rfl⟩
        go_wp2_with fail
        go_ret
        exact ⟨none, 0, 0, rfl, by rw [HN.out, cnt_nil], HXw.out⟩
      · obtain ⟨g, cap, rfl, hbg, hgl, hncap, hcm, hlen, hH⟩ := Lib.holds_of_ownsRow HO.out hv
        have hsort := sort_c g 0 cap e.names wr hH hgl (by omega)
        rw [hlen] at hsort
        have HH := Lib.hid hH
        clear hH hv
        go_wp2_with fail
        refine hsort.mono ?_
        rintro en w2 ⟨rfl, nn, os, rfl⟩
        have hl2 : (e.names.mergeSort fun x y => decide (x ≤ y)).length = k := by rw [List.length_mergeSort]; exact hlen
        have hH2 : Holds encStr (grow (putRow encStr (Sort.ahead wr nn) g 0 (e.names.mergeSort fun x y => decide (x ≤ y)).toArray) os) g 0 (e.names.mergeSort fun x y => decide (x ≤ y)).toArray :=
          holds_grow encStr _ os g 0 _ (by simpa [putRow, mapBlock, Sort.ahead] using hgl) (holds_putRow encStr _ g 0 _ _ (holds_ahead encStr wr nn g 0 _ HH.out) (by simp))
        have hcomp := compact_c g 0 cap (e.names.mergeSort fun x y => decide (x ≤ y)) _ hH2 (by omega) (by omega)
        rw [hl2] at hcomp
        clear hH2 hsort
        have HE := fun q d => Lib.hid (reels_end (nn := nn) (q := q) (os := os) (d := d) HXw.out HO.out (by omega))
        generalize grow (putRow encStr (Sort.ahead wr nn) g 0 (e.names.mergeSort fun x y => decide (x ≤ y)).toArray) os = w2 at *
        go_wp2_with fail
        refine hcomp.mono ?_
        rintro en w3 ⟨rfl, q, rfl⟩
        have HE2 := HE q ((Lib.compact (e.names.mergeSort fun x y => decide (x ≤ y)) ++ List.replicate (k - (Lib.compact (e.names.mergeSort fun x y => decide (x ≤ y))).length) []).toArray)
        generalize putRow encStr (Sort.ahead w2 q) g 0 (Lib.compact (e.names.mergeSort fun x y => decide (x ≤ y)) ++ List.replicate (k - (Lib.compact (e.names.mergeSort fun x y => decide (x ≤ y))).length) []).toArray = w3 at *
        go_wp2_with fail
        go_ret
        exact ⟨_, _, _, rfl, rfl, HE2.out⟩
end Go.Proofs.YtablhmobekmflaaGreatDoor

/-! Plain -/
namespace Go.Proofs.YtablhmobekmflaaGreatDoor
set_option linter.unusedVariables false
set_option linter.unusedSimpArgs false
theorem dec_pos (s : ByteArray) (pos : Nat) (h : pos < s.size) : 1 ≤ (Utf8.decode s pos).2 := by
  by_cases ha : (s[pos]'h).toNat < 128
  · rw [decode_ascii s pos h ha]; exact Nat.le_refl _
  · exact (decode_high s pos h (by omega)).2
def runesAt (s : ByteArray) : Nat → Nat → List Int
  | 0, _ => []
  | f + 1, pos => if pos < s.size then ((Utf8.decode s pos).1 : Int) :: runesAt s f (pos + (Utf8.decode s pos).2) else []
/-- the runes of a string from a place on -/
def runes (s : ByteArray) (pos : Nat) : List Int := runesAt s (s.size - pos) pos
theorem runesAt_fuel (s : ByteArray) : ∀ (f g pos : Nat), s.size - pos ≤ f → s.size - pos ≤ g → runesAt s f pos = runesAt s g pos
  | 0, 0, _, _, _ => rfl
  | 0, g + 1, pos, h, _ => by simp only [runesAt]; rw [if_neg (by omega)]
  | f + 1, 0, pos, _, h => by simp only [runesAt]; rw [if_neg (by omega)]
  | f + 1, g + 1, pos, hf, hg => by
    simp only [runesAt]
    by_cases h : pos < s.size
    · have hw := dec_pos s pos h
      rw [if_pos h, if_pos h, runesAt_fuel s f g _ (by omega) (by omega)]
    · rw [if_neg h, if_neg h]
theorem runes_step (s : ByteArray) (pos : Nat) (h : pos < s.size) : runes s pos = ((Utf8.decode s pos).1 : Int) :: runes s (pos + (Utf8.decode s pos).2) := by
  have hw := dec_pos s pos h
  obtain ⟨f, hf⟩ : ∃ f, s.size - pos = f + 1 := ⟨s.size - pos - 1, by omega⟩
  unfold runes
  rw [hf]
  simp only [runesAt]
  rw [if_pos h, runesAt_fuel s f (s.size - (pos + (Utf8.decode s pos).2)) _ (by omega) (Nat.le_refl _)]
theorem runes_end (s : ByteArray) (pos : Nat) (h : ¬ pos < s.size) : runes s pos = [] := by
  unfold runes
  rw [Nat.sub_eq_zero_of_le (by omega)]
  rfl
/-- the index of a rune in a list, counted from n on; -1 if it is not there -/
def placeL (r : Int) : List Int → Int → Int
  | [], _ => -1
  | x :: l, n => if x = r then n else placeL r l (n + 1)
end Go.Proofs.YtablhmobekmflaaGreatDoor

/-! Char -/
namespace Go.Proofs.YtablhmobekmflaaGreatDoor
set_option linter.unusedVariables false
set_option linter.unusedSimpArgs false
open Go.RowKit
def PlaceRel (s : ByteArray) (r : Int) (w : World) (n : Value) (wr : World) : Prop :=
  ∃ pos k : Nat, k ≤ pos ∧ n = .int .i64 k ∧ wr = w.iter s pos ∧ placeL r (runes s 0) 0 = placeL r (runes s pos) k
set_option maxHeartbeats 400000 in
theorem place_any (s : ByteArray) (r : Int) (w : World) (hs : s.size ≤ 9223372036854775807) :
    Calls Tryz.prog 207 #[.string s, .int .i32 r] w fun e w' => e = .returned (.int .i64 (placeL r (runes s 0) 0)) ∧ Ext w w' := by
  go_enter Tryz.func207, Tryz.ntmps207
  go_wp2
  go_loopw [5] (fun n wr => PlaceRel s r w n wr) (fun _ wr => s.size - wr.iterPos w.heap.size)
  case atStart => exact ⟨0, 0, Nat.le_refl _, rfl, rfl, rfl⟩
  case round =>
    obtain ⟨pos, k, hk, rfl, rfl, hp⟩ := hrel
    have HP := Lib.hid hp
    clear hp
    by_cases hlt : pos < s.size
    · have hn := run_next_any (P := Tryz.prog) w s pos
      have hstep := Lib.hid (runes_step s pos hlt)
      have hw := dec_pos s pos hlt
      go_wp2
      · go_ret
        have he : ((Utf8.decode s pos).1 : Int) = r := by simpa using ‹((((Utf8.decode s pos).1 : Int)) == r) = true›
        exact ⟨ret_int (by rw [HP.out, hstep.out, placeL, if_pos he]), (Ext.refl w).iter s _⟩
      · have he : ¬ ((Utf8.decode s pos).1 : Int) = r := by simpa using ‹((((Utf8.decode s pos).1 : Int)) == r) = false›
        refine ⟨⟨pos + (Utf8.decode s pos).2, k + 1, by omega, by go_num, rfl, ?_⟩, by simp; omega⟩
        rw [HP.out, hstep.out, placeL, if_neg he]
        rfl
    · have hn := run_next_end (P := Tryz.prog) w s pos
      have hend := Lib.hid (runes_end s pos hlt)
      go_wp2
      go_ret
      exact ⟨ret_int (by rw [HP.out, hend.out]; rfl), (Ext.refl w).iter s _⟩
/-- the repertoire, as the text has it -/
def allBytes : ByteArray := ⟨#[32, 33, 34, 35, 36, 37, 38, 39, 40, 41, 42, 43, 44, 45, 46, 47, 48, 49, 50, 51, 52, 53, 54, 55, 56, 57, 58, 59, 60, 61, 62, 63, 64, 65, 66, 67, 68, 69, 70, 71, 72, 73, 74, 75, 76, 77, 78, 79, 80, 81, 82, 83, 84, 85, 86, 87, 88, 89, 90, 91, 92, 93, 94, 95, 96, 97, 98, 99, 100, 101, 102, 103, 104, 105, 106, 107, 108, 109, 110, 111, 112, 113, 114, 115, 116, 117, 118, 119, 120, 121, 122, 123, 124, 125, 126, 194, 161, 194, 162, 194, 163, 194, 164, 194, 165, 194, 166, 194, 167, 194, 169, 194, 171, 194, 174, 194, 176, 194, 183, 194, 187, 194, 189, 194, 191, 195, 128, 195, 129, 195, 130, 195, 131, 195, 132, 195, 133, 195, 134, 195, 135, 195, 136, 195, 137, 195, 138, 195, 139, 195, 140, 195, 141, 195, 142, 195, 143, 195, 145, 195, 146, 195, 147, 195, 148, 195, 149, 195, 150, 195, 152, 195, 153, 195, 154, 195, 155, 195, 156, 195, 159, 195, 160, 195, 161, 195, 162, 195, 163, 195, 164, 195, 165, 195, 166, 195, 167, 195, 168, 195, 169, 195, 170, 195, 171, 195, 172, 195, 173, 195, 174, 195, 175, 195, 177, 195, 178, 195, 179, 195, 180, 195, 181, 195, 182, 195, 184, 195, 185, 195, 186, 195, 187, 195, 188, 197, 146, 197, 147, 226, 128, 148, 226, 128, 152, 226, 128, 153, 226, 128, 156, 226, 128, 157, 226, 128, 162, 226, 128, 166, 226, 132, 162, 226, 153, 170]⟩
/-- the index of a character in the repertoire -/
def idx (r : Int) : Int := if 32 ≤ r ∧ r ≤ 126 then r - 32 else placeL r (runes allBytes 0) 0
set_option maxRecDepth 100000 in
set_option maxHeartbeats 1000000 in
theorem Index_any (r : Int) (w : World) : Calls Tryz.prog 145 #[.int .i32 r] w fun e w' => e = .returned (.int .i64 (idx r)) ∧ Ext w w' := by
  by_cases h1 : 32 ≤ r
  · by_cases h2 : r ≤ 126
    · go_enter Tryz.func145, Tryz.ntmps145
      go_wp2_with fail
      go_ret
      exact ⟨ret_int (by unfold idx; rw [if_pos ⟨h1, h2⟩]), Ext.refl _⟩
    · go_enter Tryz.func145, Tryz.ntmps145
      go_wp2_with fail
      refine (place_any allBytes r w (by decide)).mono ?_
      rintro e w1 ⟨rfl, h1⟩
      go_wp2_with fail
      go_ret
      exact ⟨ret_int (by unfold idx; rw [if_neg (by omega)]), h1⟩
  · go_enter Tryz.func145, Tryz.ntmps145
    go_wp2_with fail
    refine (place_any allBytes r w (by decide)).mono ?_
    rintro e w1 ⟨rfl, h1⟩
    go_wp2_with fail
    go_ret
    exact ⟨ret_int (by unfold idx; rw [if_neg (by omega)]), h1⟩
end Go.Proofs.YtablhmobekmflaaGreatDoor

/-! CharB -/
namespace Go.Proofs.YtablhmobekmflaaGreatDoor
set_option linter.unusedVariables false
set_option linter.unusedSimpArgs false
open Go.RowKit
/-- a string of characters of the repertoire -/
def vld (s : ByteArray) : Bool := Lib.validD s.data.toList && (runes s 0).all fun r => decide (0 ≤ idx r)
theorem Ext.iterAt {w w1 : World} (h : Ext w w1) {k : Nat} (hk : w.heap.size ≤ k) (s : ByteArray) (p : Nat) : Ext w (w1.iterAt k s p) := Lib.below_iterAt h hk s p
theorem Ext.obj {w w1 : World} {k : Nat} {o : Obj} (h : Ext w w1) (hk : w.heap[k]? = some o) : w1.heap[k]? = some o :=
  (h.block k (Array.getElem?_eq_some_iff.1 hk).1).trans hk
theorem ValidString_any (s : ByteArray) (w : World) (hE : Env w) (hs : s.size ≤ 9223372036854775807) :
    Calls Tryz.prog 144 #[.string s] w fun e w' => e = .returned (.bool (Lib.validD s.data.toList)) ∧ Ext w w' :=
  Any.utf8_ValidString Tryz.laysValid s w hs hE.1
def ValidRel (s : ByteArray) (w : World) (g : Nat) (wr : World) : Prop :=
  ∃ pos : Nat, wr.heap[g]? = some (.stringIter s pos) ∧ Ext w wr ∧ ((runes s 0).all fun r => decide (0 ≤ idx r)) = ((runes s pos).all fun r => decide (0 ≤ idx r))
set_option maxHeartbeats 400000 in
theorem Valid_any (s : ByteArray) (w : World) (hE : Env w) (hs : s.size ≤ 9223372036854775807) :
    Calls Tryz.prog 89 #[.string s] w fun e w' => e = .returned (.bool (vld s)) ∧ Ext w w' := by
  cases hv : Lib.validD s.data.toList
  · have HV := Lib.hid hv
    have HF : Hid (vld s = false) := by unfold vld; rw [hv]; rfl
    go_enter Tryz.func89, Tryz.ntmps89
    go_wp2_with fail
    refine (ValidString_any s w hE hs).mono ?_
    rintro e w1 ⟨rfl, h1⟩
    rw [HV.out]
    go_wp2_with fail
    go_ret
    exact ⟨by rw [HF.out]; rfl, h1⟩
  · have HV := Lib.hid hv
    have HF : Hid (vld s = ((runes s 0).all fun r => decide (0 ≤ idx r))) := by unfold vld; rw [hv]; rfl
    clear hv
    go_enter Tryz.func89, Tryz.ntmps89
    go_wp2_with fail
    refine (ValidString_any s w hE hs).mono ?_
    rintro e w1 ⟨rfl, h1⟩
    rw [HV.out]
    go_wp2_with fail
    go_loopw [] (fun wr => ValidRel s w w1.heap.size wr) (fun wr => s.size - wr.iterPos w1.heap.size)
    case atStart => exact ⟨0, w1.iter_heap s 0, h1.iter s 0, rfl⟩
    case round =>
      obtain ⟨pos, hk, hx, hp⟩ := hrel
      have HP := Lib.hid hp
      have HK := Lib.hid hk
      clear hp
      by_cases hlt : pos < s.size
      · have hn := fun ty => Lib.run_next_any_at (P := Tryz.prog) wr _ s pos ty hk hlt
        have hstep := Lib.hid (runes_step s pos hlt)
        have hw := dec_pos s pos hlt
        have hk2 := Lib.hid (Lib.iterAt_heap wr _ s pos (pos + (Utf8.decode s pos).2) hk)
        clear hk
        go_wp2_with fail
        refine (Index_any _ _).mono ?_
        rintro e w2 ⟨rfl, h2⟩
        have hx2 : Ext w w2 := (hx.iterAt h1.size s _).trans h2
        have hk3 := Lib.hid (h2.obj hk2.out)
        by_cases hi : idx ((Utf8.decode s pos).1 : Int) < 0
        · go_wp2_with fail
          go_ret
          exact ⟨by rw [HF.out, HP.out, hstep.out, List.all_cons, decide_eq_false (by omega)]; rfl, hx2⟩
        · go_wp2_with fail
          refine ⟨⟨_, hk3.out, hx2, ?_⟩, ?_⟩
          · rw [HP.out, hstep.out, List.all_cons, decide_eq_true (by omega), Bool.true_and]
          · rw [iterPos_of hk3.out, iterPos_of HK.out]; omega
      · have hn := fun ty => Lib.run_next_end_at (P := Tryz.prog) wr _ s pos ty hk hlt
        have hend := Lib.hid (runes_end s pos hlt)
        clear hk
        go_wp2_with fail
        go_ret
        exact ⟨by rw [HF.out, HP.out, hend.out]; rfl, hx⟩
/-- the number of characters, -1 where one is none -/
def clen (s : ByteArray) : Int := if vld s then (Lib.runeCount s : Int) else -1
end Go.Proofs.YtablhmobekmflaaGreatDoor

/-! EdlP -/
namespace Go.Proofs.YtablhmobekmflaaGreatDoor
set_option linter.unusedVariables false
set_option linter.unusedSimpArgs false
open Go.RowKit
/-- the first error of the cuts behind a number and a frame -/
def cutsErr (day : Int) : Int → Int → List Cut → Int
  | _, _, [] => 0
  | la, ou, c :: r => if singleErr c la day ≠ 0 then singleErr c la day else if c.inn < ou then 14 else cutsErr day c.num c.out r
def edlErr (e : Edl) : Int :=
  if vld e.title = false then 10 else if 400 < e.title.size then 9 else if rateOkB e.rate e.drop = false then 13 else if 64 < e.cuts.length then 9 else
    if cutsErr (dayOf e.rate e.drop) 0 0 e.cuts ≠ 0 then cutsErr (dayOf e.rate e.drop) 0 0 e.cuts else if 16 < cnt e.names then 9 else 0
def laAt (l : List Cut) : Nat → Int | 0 => 0 | k + 1 => ((l[k]?).map (·.num)).getD 0
def ouAt (l : List Cut) : Nat → Int | 0 => 0 | k + 1 => ((l[k]?).map (·.out)).getD 0
theorem cuts_step {l : List Cut} {k : Nat} {r : Cut} {day E : Int} (hr : l[k]? = some r) (hP : E = cutsErr day (laAt l k) (ouAt l k) (l.drop k)) :
    (singleErr r (laAt l k) day ≠ 0 → E = singleErr r (laAt l k) day) ∧ (singleErr r (laAt l k) day = 0 → r.inn < ouAt l k → E = 14) ∧
      (singleErr r (laAt l k) day = 0 → ¬ r.inn < ouAt l k → E = cutsErr day (laAt l (k + 1)) (ouAt l (k + 1)) (l.drop (k + 1))) := by
  obtain ⟨hk, hk2⟩ := List.getElem?_eq_some_iff.1 hr
  rw [List.drop_eq_getElem_cons hk, hk2] at hP
  unfold cutsErr at hP
  refine ⟨fun h => ?_, fun h h2 => ?_, fun h h2 => ?_⟩
  · rw [if_pos h] at hP; exact hP
  · rw [if_neg (by omega), if_pos h2] at hP; exact hP
  · rw [if_neg (by omega), if_neg h2] at hP
    rw [hP]
    simp [laAt, ouAt, hr]
theorem single_num {c : Cut} {la day : Int} (h : c.num < 1 ∨ 999 < c.num) : singleErr c la day = 2 := by unfold singleErr; rw [if_pos h]
theorem single_ord {c : Cut} {la day : Int} (h : ¬ (c.num < 1 ∨ 999 < c.num)) (h2 : c.num ≤ la) : singleErr c la day = 8 := by unfold singleErr; rw [if_neg h, if_pos h2]
theorem single_cut {c : Cut} {la day : Int} (h : ¬ (c.num < 1 ∨ 999 < c.num)) (h2 : ¬ c.num ≤ la) : singleErr c la day = cutErr c day := by unfold singleErr; rw [if_neg h, if_neg h2]
theorem cutErr_inn {c : Cut} {day : Int} (h : cutErr c day = 0) : 0 ≤ c.inn := by
  unfold cutErr at h
  repeat' split at h
  all_goals first | omega | (exact absurd h (by decide)) | skip
theorem edl_char {e : Edl} (h : vld e.title = false) : edlErr e = 10 := by unfold edlErr; rw [if_pos h]
theorem edl_title {e : Edl} (h : vld e.title = true) (h1 : 400 < e.title.size) : edlErr e = 9 := by unfold edlErr; rw [if_neg (by simp [h]), if_pos h1]
theorem edl_rate {e : Edl} (h : vld e.title = true) (h1 : ¬ 400 < e.title.size) (h2 : rateOkB e.rate e.drop = false) : edlErr e = 13 := by unfold edlErr; rw [if_neg (by simp [h]), if_neg h1, if_pos h2]
theorem edl_many {e : Edl} (h : vld e.title = true) (h1 : ¬ 400 < e.title.size) (h2 : rateOkB e.rate e.drop = true) (h3 : 64 < e.cuts.length) : edlErr e = 9 := by unfold edlErr; rw [if_neg (by simp [h]), if_neg h1, if_neg (by simp [h2]), if_pos h3]
theorem edl_cuts {e : Edl} {x : Int} (h : vld e.title = true) (h1 : ¬ 400 < e.title.size) (h2 : rateOkB e.rate e.drop = true) (h3 : ¬ 64 < e.cuts.length) (h4 : cutsErr (dayOf e.rate e.drop) 0 0 e.cuts = x) (h5 : x ≠ 0) : edlErr e = x := by
  unfold edlErr; rw [if_neg (by simp [h]), if_neg h1, if_neg (by simp [h2]), if_neg h3, h4, if_pos h5]
theorem edl_reels {e : Edl} (h : vld e.title = true) (h1 : ¬ 400 < e.title.size) (h2 : rateOkB e.rate e.drop = true) (h3 : ¬ 64 < e.cuts.length) (h4 : cutsErr (dayOf e.rate e.drop) 0 0 e.cuts = 0) (h5 : 16 < cnt e.names) : edlErr e = 9 := by
  unfold edlErr; rw [if_neg (by simp [h]), if_neg h1, if_neg (by simp [h2]), if_neg h3, h4, if_neg (by omega), if_pos h5]
theorem edl_ok {e : Edl} (h : vld e.title = true) (h1 : ¬ 400 < e.title.size) (h2 : rateOkB e.rate e.drop = true) (h3 : ¬ 64 < e.cuts.length) (h4 : cutsErr (dayOf e.rate e.drop) 0 0 e.cuts = 0) (h5 : ¬ 16 < cnt e.names) : edlErr e = 0 := by
  unfold edlErr; rw [if_neg (by simp [h]), if_neg h1, if_neg (by simp [h2]), if_neg h3, h4, if_neg (by omega), if_neg h5]
/-- what an accepted list says of its cuts -/
theorem cutsErr_ok {day : Int} : ∀ {l : List Cut} {la ou : Int}, cutsErr day la ou l = 0 → ∀ c ∈ l, cutErr c day = 0 ∧ 1 ≤ c.num ∧ c.num ≤ 999
  | [], _, _, _, c, hc => by cases hc
  | d :: r, la, ou, h, c, hc => by
    unfold cutsErr at h
    split at h
    · omega
    · rename_i h0
      split at h
      · omega
      · rcases List.mem_cons.1 hc with rfl | hc
        · unfold singleErr at h0
          repeat' split at h0
          all_goals first | omega | exact ⟨by omega, by omega, by omega⟩
        · exact cutsErr_ok h c hc
theorem edlErr_ok {e : Edl} (h : edlErr e = 0) : vld e.title = true ∧ ¬ 400 < e.title.size ∧ rateOkB e.rate e.drop = true ∧ ¬ 64 < e.cuts.length ∧ cutsErr (dayOf e.rate e.drop) 0 0 e.cuts = 0 ∧ ¬ 16 < cnt e.names := by
  unfold edlErr at h
  repeat' split at h
  all_goals first | omega | skip
  rename_i h1 h2 h3 h4 h5 h6
  refine ⟨by simpa using h1, h2, by simpa using h3, h4, by omega, h6⟩
theorem cutErr_sane {c : Cut} {day : Int} (h : cutErr c day = 0) (hd : day ≤ 5184000) : c.Sane := by
  unfold cutErr at h
  repeat' split at h
  all_goals first | omega | skip
  rename_i h1 h2 h3 h4 h5
  have := speedB_true (by simpa using h4)
  refine ⟨?_, ?_, ?_, ?_, ?_, ?_, ?_, ?_, ?_⟩ <;> omega
theorem edl_sane {e : Edl} (h : edlErr e = 0) {c : Cut} (hc : c ∈ e.cuts) : c.Sane :=
  cutErr_sane (cutsErr_ok (edlErr_ok h).2.2.2.2.1 c hc).1 (dayOf_bd _ _)
end Go.Proofs.YtablhmobekmflaaGreatDoor
