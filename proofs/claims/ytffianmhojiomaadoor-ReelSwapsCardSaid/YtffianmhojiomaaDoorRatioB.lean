/- The walks of ratio.Valid, known, size, away, Quotient, and of the reference's Gcd, Valid. -/
import Derived.Test.YtffianmhojiomaaDoorRatio
namespace Go.Proofs.YtffianmhojiomaaDoor
set_option linter.unusedVariables false
set_option linter.unusedSimpArgs false
open Go.RowKit

theorem gcd_is1 (n d : Int) : (((Int.gcd n d : Nat) : Int) == 1) = decide (Int.gcd n d = 1) := by
  by_cases h : Int.gcd n d = 1
  · rw [h]; rfl
  · rw [decide_eq_false h]
    simp
    omega

set_option maxHeartbeats 1000000 in
theorem RatValid_any (n d : Int) (w : World) : Calls Tryd.prog 57 #[.agg #[.int .i64 n, .int .i64 d]] w fun e w' => e = .returned (.bool (ratioB n d)) ∧ Ext w w' := by
  have HX := Lib.hid ((Ext.refl w).alloc (.cells #[.int .i64 n, .int .i64 d] 65))
  have HG := Lib.hid (gcd_is1 n d)
  cases hp : inPartsB n d
  · have HP := Lib.hid hp
    have HF : Hid (ratioB n d = false) := by show _ = _; unfold ratioB; rw [hp]; rfl
    clear hp
    go_enter Tryd.func57, Tryd.ntmps57
    go_wp2_with fail
    refine (inParts_any n d _).mono ?_
    rintro e w1 ⟨rfl, rfl⟩
    rw [HP.out]
    go_wp2_with fail
    go_ret
    exact ⟨ret_bool HF.out.symm, HX.out⟩
  · have HP := Lib.hid hp
    have HF : Hid (ratioB n d = decide (Int.gcd n d = 1)) := by show _ = _; unfold ratioB; rw [hp]; rfl
    clear hp
    go_enter Tryd.func57, Tryd.ntmps57
    go_wp2_with fail
    refine (inParts_any n d _).mono ?_
    rintro e w1 ⟨rfl, rfl⟩
    rw [HP.out]
    go_wp2_with fail
    refine (Gcd_any n d _ HP.out).mono ?_
    rintro e w2 ⟨rfl, hx2⟩
    go_wp2_with fail
    go_ret
    exact ⟨ret_bool (by rw [HF.out, ← HG.out]), HX.out.trans hx2⟩

set_option maxHeartbeats 2000000 in
theorem RGcd_any (n d : Int) (w : World) (h : inPartsB n d = true) : Calls Tryd.prog 85 #[.int .i64 n, .int .i64 d] w fun e w' => e = .returned (.int .i64 (Int.gcd n d)) ∧ Ext w w' := by
  obtain ⟨h1, h2, h3, h4⟩ := inPartsB_true h
  clear h
  have hn : (n == -9223372036854775808) = false := by simp; omega
  have hd : (d == -9223372036854775808) = false := by simp; omega
  have hA := Lib.hid (gcd_abs1 n d)
  go_enter Tryd.func85, Tryd.ntmps85
  go_wp2_with fail
  refine (RSize_any n _ h1).mono ?_
  rintro e w1 ⟨rfl, rfl⟩
  go_wp2_with fail
  refine (RSize_any d _ (by omega)).mono ?_
  rintro e w1 ⟨rfl, rfl⟩
  go_wp2_with fail
  go_loopw [0, 1] (fun x y wr => GcdRel n d w x y wr) (fun _ y _ => (intOf y).toNat)
  case atStart => exact ⟨_, _, rfl, rfl, by omega, by omega, by omega, by omega, hA.out, Ext.refl w⟩
  case round =>
    obtain ⟨p, q, rfl, rfl, hp0, hp1, hq0, hq1, hg, hx⟩ := hrel
    have HG := Lib.hid hg
    clear hg
    by_cases hq : q = 0
    · subst hq
      go_wp2
      go_ret
      exact ⟨ret_int (by rw [← HG.out, gcd_zero' p hp0]), hx⟩
    · have hqp : 0 < q := by omega
      have hm := emod_small p q hp0 hqp
      have hs := Lib.hid (gcd_step p q hp0 hqp)
      have hq' : (q == 0) = false := by simp; omega
      go_wp2
      go_quiet (fail)
      go_wp2
      refine ⟨⟨_, _, rfl, rfl, by omega, by omega, by omega, by omega, by rw [hs.out, HG.out], hx.drewN _⟩, by simp [intOf]; omega⟩

set_option maxHeartbeats 2000000 in
theorem RRatValid_any (n d : Int) (w : World) : Calls Tryd.prog 72 #[.agg #[.int .i64 n, .int .i64 d]] w fun e w' => e = .returned (.bool (ratioB n d)) ∧ Ext w w' := by
  have HX := Lib.hid ((Ext.refl w).alloc (.cells #[.int .i64 n, .int .i64 d] 65))
  have HG := Lib.hid (gcd_is1 n d)
  have HP : Hid (∀ b, inPartsB n d = b → ratioB n d = (b && decide (Int.gcd n d = 1))) := fun b hb => by unfold ratioB; rw [hb]
  by_cases h3 : 1 ≤ d
  · by_cases h4 : d ≤ 2147483648
    · by_cases h1 : -2147483648 ≤ n
      · by_cases h2 : n ≤ 2147483648
        · have HI : Hid (inPartsB n d = true) := decide_eq_true ⟨h1, h2, h3, h4⟩
          go_enter Tryd.func72, Tryd.ntmps72
          go_wp2_with fail
          refine (RGcd_any n d _ HI.out).mono ?_
          rintro e w2 ⟨rfl, hx2⟩
          go_wp2_with fail
          go_ret
          exact ⟨ret_bool (by rw [HP.out true HI.out, ← HG.out]; rfl), HX.out.trans hx2⟩
        · have HI : Hid (inPartsB n d = false) := decide_eq_false (by omega)
          go_enter Tryd.func72, Tryd.ntmps72
          go_wp2_with fail
          go_ret
          exact ⟨ret_bool (by rw [HP.out false HI.out]; rfl), HX.out⟩
      · have HI : Hid (inPartsB n d = false) := decide_eq_false (by omega)
        go_enter Tryd.func72, Tryd.ntmps72
        go_wp2_with fail
        go_ret
        exact ⟨ret_bool (by rw [HP.out false HI.out]; rfl), HX.out⟩
    · have HI : Hid (inPartsB n d = false) := decide_eq_false (by omega)
      go_enter Tryd.func72, Tryd.ntmps72
      go_wp2_with fail
      go_ret
      exact ⟨ret_bool (by rw [HP.out false HI.out]; rfl), HX.out⟩
  · have HI : Hid (inPartsB n d = false) := decide_eq_false (by omega)
    go_enter Tryd.func72, Tryd.ntmps72
    go_wp2_with fail
    go_ret
    exact ⟨ret_bool (by rw [HP.out false HI.out]; rfl), HX.out⟩
end Go.Proofs.YtffianmhojiomaaDoor
