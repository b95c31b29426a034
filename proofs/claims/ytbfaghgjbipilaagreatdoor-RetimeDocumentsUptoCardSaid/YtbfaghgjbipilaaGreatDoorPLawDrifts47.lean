/- The walk of the law RetimeDrifts. -/
import Derived.Test.YtbfaghgjbipilaaGreatDoorPAwake47
import Derived.Test.YtbfaghgjbipilaaGreatDoorPConvR
import Derived.Test.YtbfaghgjbipilaaGreatDoorPRetV
import Derived.Test.YtbfaghgjbipilaaGreatDoorPk22
namespace Go.Proofs.YtbfaghgjbipilaaGreatDoor
set_option linter.unusedVariables false
set_option linter.unusedSimpArgs false
open Go.RowKit

set_option maxHeartbeats 1000000 in
theorem small47_any (d : Doc) (h : DocH) (w : World) : Calls Tryz.prog 54 #[.agg (d.cells h)] w fun e w' => e = .returned (.bool (decide (h.en ≤ 60 ∧ h.rn ≤ 40 ∧ h.cn ≤ 100))) ∧ Ext w w' := by
  have HX := Lib.hid ((Ext.refl w).alloc (.cells (d.cells h) 27))
  obtain ⟨ra, rn, rc, ea, en, ec, ca, cn, cc⟩ := h
  unfold Doc.cells at *
  dsimp only at *
  go_enter Tryz.func54, Tryz.ntmps54
  by_cases h1 : en ≤ 60
  · have h1i : (en : Int) ≤ 60 := by omega
    by_cases h2 : rn ≤ 40
    · have h2i : (rn : Int) ≤ 40 := by omega
      by_cases h3 : cn ≤ 100
      · have h3i : (cn : Int) ≤ 100 := by omega
        go_wp2_with fail
        go_ret
        exact ⟨ret_bool (by first | rfl | exact (decide_eq_true ⟨h1, h2, h3⟩).symm), HX.out⟩
      · have h3i : ¬ (cn : Int) ≤ 100 := by omega
        go_wp2_with fail
        go_ret
        exact ⟨ret_bool (by first | rfl | exact (decide_eq_false (by omega)).symm), HX.out⟩
    · have h2i : ¬ (rn : Int) ≤ 40 := by omega
      go_wp2_with fail
      go_ret
      exact ⟨ret_bool (by first | rfl | exact (decide_eq_false (by omega)).symm), HX.out⟩
  · have h1i : ¬ (en : Int) ≤ 60 := by omega
    go_wp2_with fail
    go_ret
    exact ⟨ret_bool (by first | rfl | exact (decide_eq_false (by omega)).symm), HX.out⟩

def DrRel (w1 : World) (n : Nat) (i : Value) (wr : World) : Prop := ∃ k : Nat, k ≤ n ∧ i = .int .i64 k ∧ Ext w1 wr
end Go.Proofs.YtbfaghgjbipilaaGreatDoor
