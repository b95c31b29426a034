/- The walks of the references' rates: Valid, CanDrop, Nominal, Dropped, Day. -/
import Derived.Test.YtffianmhojiomaaDoorRateB
namespace Go.Proofs.YtffianmhojiomaaDoor
set_option linter.unusedVariables false
set_option linter.unusedSimpArgs false
open Go.RowKit

theorem R2Valid_any (r : Int) (w : World) : Calls Tryd.prog 67 #[.int .u8 r] w fun e w' => e = .returned (.bool (rOk r)) ∧ w = w' := by
  by_cases h1 : 1 ≤ r
  · by_cases h7 : r ≤ 7
    · go_enter Tryd.func67, Tryd.ntmps67
      go_wp2
      go_ret
      exact ⟨ret_bool (by unfold rOk; rw [decide_eq_true ⟨h1, h7⟩]), rfl⟩
    · go_enter Tryd.func67, Tryd.ntmps67
      go_wp2
      go_ret
      exact ⟨ret_bool (by unfold rOk; rw [decide_eq_false (by omega)]), rfl⟩
  · go_enter Tryd.func67, Tryd.ntmps67
    go_wp2
    go_ret
    exact ⟨ret_bool (by unfold rOk; rw [decide_eq_false (by omega)]), rfl⟩
theorem R2CanDrop_any (r : Int) (w : World) : Calls Tryd.prog 68 #[.int .u8 r] w fun e w' => e = .returned (.bool (rDrop r)) ∧ w = w' := by
  by_cases h1 : r = 4
  · subst h1
    go_enter Tryd.func68, Tryd.ntmps68
    go_wp2
    go_ret
    exact ⟨rfl, rfl⟩
  · by_cases h7 : r = 7
    · subst h7
      go_enter Tryd.func68, Tryd.ntmps68
      go_wp2
      go_ret
      exact ⟨rfl, rfl⟩
    · have e4 : (r == 4) = false := by simpa using h1
      have e7 : (r == 7) = false := by simpa using h7
      go_enter Tryd.func68, Tryd.ntmps68
      go_wp2
      go_ret
      exact ⟨ret_bool (by unfold rDrop; rw [decide_eq_false (by omega)]), rfl⟩
set_option maxRecDepth 100000 in
set_option maxHeartbeats 2000000 in
theorem R2Nominal_any (r : Int) (w : World) (h0 : 0 ≤ r) (h1 : r ≤ 255) : Calls Tryd.prog 69 #[.int .u8 r] w fun e w' => e = .returned (.int .i64 (rNom r)) ∧ Ext w w' := by
  rcases rate_cases h0 with (rfl | rfl | rfl | rfl | rfl | rfl | rfl | rfl) | h8
  case inr =>
    have HO : Hid (rOk r = false) := by show _ = _; unfold rOk; rw [decide_eq_false (by omega)]
    have HN : Hid (rNom r = 0) := by
      show _ = _
      unfold rNom
      simp only [show ¬ r = 1 by omega, show ¬ r = 2 by omega, show ¬ r = 3 by omega, show ¬ r = 4 by omega, show ¬ r = 5 by omega, show ¬ r = 6 by omega, show ¬ r = 7 by omega, if_false]
    go_enter Tryd.func69, Tryd.ntmps69
    go_wp2_with fail
    refine (R2Valid_any r _).mono ?_
    rintro e w1 ⟨rfl, rfl⟩
    rw [HO.out]
    go_wp2_with fail
    go_ret
    exact ⟨ret_int HN.out.symm, Ext.refl _⟩
  all_goals
    go_enter Tryd.func69, Tryd.ntmps69
    go_wp2_with fail
    refine (R2Valid_any _ _).mono ?_
    rintro e w1 ⟨rfl, rfl⟩
    first | rw [show rOk 0 = false from rfl] | rw [show rOk _ = true from rfl]
    go_wp2_with fail
    go_ret
    first | exact ⟨rfl, Ext.refl _⟩ | exact ⟨rfl, (Ext.refl _).alloc _⟩
theorem R3Dropped_any (r : Int) (w : World) : Calls Tryd.prog 70 #[.int .u8 r] w fun e w' => e = .returned (.int .i64 (drops r true)) ∧ w = w' := by
  by_cases h : r = 7
  · subst h
    go_enter Tryd.func70, Tryd.ntmps70
    go_wp2
    go_ret
    exact ⟨rfl, rfl⟩
  · have h' : (r == 7) = false := by simpa using h
    have HF : Hid (drops r true = 2) := by show _ = _; unfold drops; rw [if_pos rfl, if_neg h]
    go_enter Tryd.func70, Tryd.ntmps70
    go_wp2
    go_ret
    exact ⟨ret_int HF.out.symm, rfl⟩
set_option maxHeartbeats 1000000 in
theorem R3Day_any (r : Int) (d : Bool) (w : World) (h0 : 0 ≤ r) (h1 : r ≤ 255) : Calls Tryd.prog 47 #[.int .u8 r, .bool d] w fun e w' => e = .returned (.int .i64 (dayOf r d)) ∧ Ext w w' := by
  have hn := rNom_bd r
  have hdb := drops_bd r true
  have HN : Hid (rateOkB r d = (rOk r && (!d || rDrop r))) := rfl
  have HD : Hid (∀ b, rateOkB r d = b → dayOf r d = if b then 86400 * rNom r - 1296 * drops r d else 0) := fun b hb => by unfold dayOf; rw [hb]
  cases ho : rOk r
  · have HO := Lib.hid ho
    clear ho
    go_enter Tryd.func47, Tryd.ntmps47
    go_wp2_with fail
    refine (R2Valid_any r _).mono ?_
    rintro e w1 ⟨rfl, rfl⟩
    rw [HO.out]
    go_wp2_with fail
    go_ret
    exact ⟨ret_int (by rw [HD.out false (by rw [HN.out, HO.out]; rfl)]; rfl), Ext.refl _⟩
  · have HO := Lib.hid ho
    clear ho
    cases d
    · go_enter Tryd.func47, Tryd.ntmps47
      go_wp2_with fail
      refine (R2Valid_any r _).mono ?_
      rintro e w1 ⟨rfl, rfl⟩
      rw [HO.out]
      go_wp2_with fail
      refine (R2Nominal_any r _ h0 h1).mono ?_
      rintro e w2 ⟨rfl, hx2⟩
      go_wp2_with fail
      go_ret
      exact ⟨ret_int (by rw [HD.out true (by rw [HN.out, HO.out]; rfl)]; simp [drops]), hx2⟩
    · go_enter Tryd.func47, Tryd.ntmps47
      go_wp2_with fail
      refine (R2Valid_any r _).mono ?_
      rintro e w1 ⟨rfl, rfl⟩
      rw [HO.out]
      go_wp2_with fail
      refine (R2CanDrop_any r _).mono ?_
      rintro e w2 ⟨rfl, rfl⟩
      cases hd : rDrop r
      · have HDr := Lib.hid hd
        clear hd
        go_wp2_with fail
        go_ret
        exact ⟨ret_int (by rw [HD.out false (by rw [HN.out, HO.out, HDr.out]; rfl)]; rfl), Ext.refl _⟩
      · have HDr := Lib.hid hd
        clear hd
        go_wp2_with fail
        refine (R2Nominal_any r _ h0 h1).mono ?_
        rintro e w3 ⟨rfl, hx3⟩
        go_wp2_with fail
        refine (R3Dropped_any r _).mono ?_
        rintro e w4 ⟨rfl, rfl⟩
        go_wp2_with fail
        go_ret
        exact ⟨ret_int (by rw [HD.out true (by rw [HN.out, HO.out, HDr.out]; rfl), if_pos rfl]; omega), hx3⟩
end Go.Proofs.YtffianmhojiomaaDoor
