/- The walks of timebase.Valid, CanDrop, Nominal, timecode.rateError, dropped, Day, and of the references' Valid, CanDrop, Nominal, Dropped, Day. -/
import Derived.Test.YtffianmhojiomaaDoorRate
namespace Go.Proofs.YtffianmhojiomaaDoor
set_option linter.unusedVariables false
set_option linter.unusedSimpArgs false
open Go.RowKit

theorem rTicks_bd (r : Int) : 0 ≤ rTicks r ∧ rTicks r ≤ 5005 := by unfold rTicks; repeat' split <;> omega
theorem rNom_bd (r : Int) : 0 ≤ rNom r ∧ rNom r ≤ 60 := by unfold rNom; repeat' split <;> omega
theorem rOk_ticks (r : Int) (h0 : 0 ≤ r) : decide (0 < rTicks r) = rOk r := by
  rcases rate_cases h0 with (rfl | rfl | rfl | rfl | rfl | rfl | rfl | rfl) | h8
  all_goals first | rfl | skip
  unfold rOk rTicks
  simp only [show ¬ r = 1 by omega, show ¬ r = 2 by omega, show ¬ r = 3 by omega, show ¬ r = 4 by omega, show ¬ r = 5 by omega, show ¬ r = 6 by omega, show ¬ r = 7 by omega, if_false]
  rw [decide_eq_false (by omega), decide_eq_false (by omega)]
def drops (r : Int) (d : Bool) : Int := if d then (if r = 7 then 4 else 2) else 0
/-- may labels be of a rate, drop-frame or not? -/
def rateOkB (r : Int) (d : Bool) : Bool := rOk r && (!d || rDrop r)
def dayOf (r : Int) (d : Bool) : Int := if rateOkB r d = true then 86400 * rNom r - 1296 * drops r d else 0
def rateErr (r : Int) (d : Bool) : Int := if rOk r = true then (if d && !rDrop r then 13 else 0) else 3
theorem drops_bd (r : Int) (d : Bool) : 0 ≤ drops r d ∧ drops r d ≤ 4 := by unfold drops; repeat' split <;> omega
theorem rateErr_zero (r : Int) (d : Bool) : (rateErr r d != 0) = !rateOkB r d := by
  unfold rateErr rateOkB
  cases rOk r <;> cases d <;> cases rDrop r <;> rfl

set_option maxRecDepth 100000 in
set_option maxHeartbeats 400000 in
theorem TBValid_any (r : Int) (w : World) (h0 : 0 ≤ r) (h1 : r ≤ 255) : Calls Tryd.prog 37 #[.int .u8 r] w fun e w' => e = .returned (.bool (rOk r)) ∧ Ext w w' := by
  have HO := Lib.hid (rOk_ticks r h0)
  have hfd : ∀ w : World, (Instr.field 94 (.agg #[.string (rName r), .int .i64 (rTicks r), .int .i64 (rNom r), .bool (rDrop r)]) 1).run Tryd.prog w = .ok (.int .i64 (rTicks r)) w := fun _ => by kernel_rfl
  go_enter Tryd.func37, Tryd.ntmps37
  go_wp2_with fail
  refine (of_any r _ h0 h1).mono ?_
  rintro e w1 ⟨rfl, hx⟩
  unfold rateVal
  go_wp2_with fail
  go_ret
  exact ⟨ret_bool HO.out, hx⟩
set_option maxRecDepth 100000 in
set_option maxHeartbeats 400000 in
theorem CanDrop_any (r : Int) (w : World) (h0 : 0 ≤ r) (h1 : r ≤ 255) : Calls Tryd.prog 38 #[.int .u8 r] w fun e w' => e = .returned (.bool (rDrop r)) ∧ Ext w w' := by
  have hfd : ∀ w : World, (Instr.field 94 (.agg #[.string (rName r), .int .i64 (rTicks r), .int .i64 (rNom r), .bool (rDrop r)]) 3).run Tryd.prog w = .ok (.bool (rDrop r)) w := fun _ => by kernel_rfl
  go_enter Tryd.func38, Tryd.ntmps38
  go_wp2_with fail
  refine (of_any r _ h0 h1).mono ?_
  rintro e w1 ⟨rfl, hx⟩
  unfold rateVal
  go_wp2_with fail
  go_ret
  exact ⟨rfl, hx⟩
set_option maxRecDepth 100000 in
set_option maxHeartbeats 400000 in
theorem Nominal_any (r : Int) (w : World) (h0 : 0 ≤ r) (h1 : r ≤ 255) : Calls Tryd.prog 54 #[.int .u8 r] w fun e w' => e = .returned (.int .i64 (rNom r)) ∧ Ext w w' := by
  have hfd : ∀ w : World, (Instr.field 94 (.agg #[.string (rName r), .int .i64 (rTicks r), .int .i64 (rNom r), .bool (rDrop r)]) 2).run Tryd.prog w = .ok (.int .i64 (rNom r)) w := fun _ => by kernel_rfl
  go_enter Tryd.func54, Tryd.ntmps54
  go_wp2_with fail
  refine (of_any r _ h0 h1).mono ?_
  rintro e w1 ⟨rfl, hx⟩
  unfold rateVal
  go_wp2_with fail
  go_ret
  exact ⟨rfl, hx⟩
set_option maxRecDepth 100000 in
set_option maxHeartbeats 400000 in
theorem rateError_any (r : Int) (d : Bool) (w : World) (h0 : 0 ≤ r) (h1 : r ≤ 255) : Calls Tryd.prog 53 #[.int .u8 r, .bool d] w fun e w' => e = .returned (.int .i64 (rateErr r d)) ∧ Ext w w' := by
  cases ho : rOk r
  · have HF : Hid (rateErr r d = 3) := by show _ = _; unfold rateErr; rw [ho]; rfl
    have HO := Lib.hid ho
    clear ho
    go_enter Tryd.func53, Tryd.ntmps53
    go_wp2_with fail
    refine (TBValid_any r _ h0 h1).mono ?_
    rintro e w1 ⟨rfl, hx⟩
    rw [HO.out]
    go_wp2_with fail
    go_ret
    exact ⟨ret_int HF.out.symm, hx⟩
  · have HO := Lib.hid ho
    have HF : Hid (rateErr r d = (if d && !rDrop r then 13 else 0)) := by show _ = _; unfold rateErr; rw [ho]; rfl
    clear ho
    cases d
    · go_enter Tryd.func53, Tryd.ntmps53
      go_wp2_with fail
      refine (TBValid_any r _ h0 h1).mono ?_
      rintro e w1 ⟨rfl, hx⟩
      rw [HO.out]
      go_wp2_with fail
      go_ret
      exact ⟨ret_int HF.out.symm, hx⟩
    · go_enter Tryd.func53, Tryd.ntmps53
      go_wp2_with fail
      refine (TBValid_any r _ h0 h1).mono ?_
      rintro e w1 ⟨rfl, hx⟩
      rw [HO.out]
      go_wp2_with fail
      refine (CanDrop_any r _ h0 h1).mono ?_
      rintro e w2 ⟨rfl, hx2⟩
      cases hd : rDrop r
      · have HD := Lib.hid hd
        clear hd
        go_wp2_with fail
        go_ret
        exact ⟨ret_int (by rw [HF.out, HD.out]; rfl), hx.trans hx2⟩
      · have HD := Lib.hid hd
        clear hd
        go_wp2_with fail
        go_ret
        exact ⟨ret_int (by rw [HF.out, HD.out]; rfl), hx.trans hx2⟩
theorem dropped_any (r : Int) (d : Bool) (w : World) : Calls Tryd.prog 55 #[.int .u8 r, .bool d] w fun e w' => e = .returned (.int .i64 (drops r d)) ∧ w = w' := by
  cases d
  · go_enter Tryd.func55, Tryd.ntmps55
    go_wp2
    go_ret
    exact ⟨rfl, rfl⟩
  · by_cases h : r = 7
    · subst h
      go_enter Tryd.func55, Tryd.ntmps55
      go_wp2
      go_ret
      exact ⟨rfl, rfl⟩
    · have h' : (r == 7) = false := by simpa using h
      have HF : Hid (drops r true = 2) := by show _ = _; unfold drops; rw [if_pos rfl, if_neg h]
      go_enter Tryd.func55, Tryd.ntmps55
      go_wp2
      go_ret
      exact ⟨ret_int HF.out.symm, rfl⟩
set_option maxHeartbeats 1000000 in
theorem Day_any (r : Int) (d : Bool) (w : World) (h0 : 0 ≤ r) (h1 : r ≤ 255) : Calls Tryd.prog 39 #[.int .u8 r, .bool d] w fun e w' => e = .returned (.int .i64 (dayOf r d)) ∧ Ext w w' := by
  have HE := Lib.hid (rateErr_zero r d)
  cases ho : rateOkB r d
  · have HF : Hid (dayOf r d = 0) := by show _ = _; unfold dayOf; rw [ho]; rfl
    have HO := Lib.hid ho
    clear ho
    go_enter Tryd.func39, Tryd.ntmps39
    go_wp2_with fail
    refine (rateError_any r d _ h0 h1).mono ?_
    rintro e w1 ⟨rfl, hx⟩
    have hne : (rateErr r d != 0) = true := by rw [HE.out, HO.out]; rfl
    go_wp2_with fail
    go_ret
    exact ⟨ret_int HF.out.symm, hx⟩
  · have HF : Hid (dayOf r d = 86400 * rNom r - 1296 * drops r d) := by show _ = _; unfold dayOf; rw [ho]; rfl
    have HO := Lib.hid ho
    clear ho
    have hn := rNom_bd r
    have hd := drops_bd r d
    go_enter Tryd.func39, Tryd.ntmps39
    go_wp2_with fail
    refine (rateError_any r d _ h0 h1).mono ?_
    rintro e w1 ⟨rfl, hx⟩
    have hne : (rateErr r d != 0) = false := by rw [HE.out, HO.out]; rfl
    go_wp2_with fail
    refine (Nominal_any r _ h0 h1).mono ?_
    rintro e w2 ⟨rfl, hx2⟩
    go_wp2_with fail
    refine (dropped_any r d _).mono ?_
    rintro e w3 ⟨rfl, rfl⟩
    go_wp2_with fail
    go_ret
    exact ⟨ret_int HF.out.symm, hx.trans hx2⟩
theorem dayOf_bd (r : Int) (d : Bool) : dayOf r d ≤ 5184000 := by
  unfold dayOf
  have := rNom_bd r
  have := drops_bd r d
  split <;> omega
theorem dayOf_ge (r : Int) (d : Bool) : 0 ≤ dayOf r d := by
  unfold dayOf rateOkB rOk
  have := drops_bd r d
  split
  · rename_i h
    simp only [Bool.and_eq_true, decide_eq_true_eq] at h
    have : 24 ≤ rNom r := by
      have : r = 1 ∨ r = 2 ∨ r = 3 ∨ r = 4 ∨ r = 5 ∨ r = 6 ∨ r = 7 := by omega
      rcases this with rfl | rfl | rfl | rfl | rfl | rfl | rfl <;> decide
    omega
  · omega
theorem dayOf_pos (r : Int) (d : Bool) : (dayOf r d == 0) = !rateOkB r d := by
  unfold dayOf
  cases h : rateOkB r d
  · rfl
  · have := drops_bd r d
    unfold rateOkB rOk at h
    simp only [Bool.and_eq_true, decide_eq_true_eq] at h
    have : 24 ≤ rNom r := by
      have : r = 1 ∨ r = 2 ∨ r = 3 ∨ r = 4 ∨ r = 5 ∨ r = 6 ∨ r = 7 := by omega
      rcases this with rfl | rfl | rfl | rfl | rfl | rfl | rfl <;> decide
    simp
    omega
end Go.Proofs.YtffianmhojiomaaDoor
