/- The walks of the references' Mode, negative, Quotient, Ticks, Time, Frame, Convert, known, Span. -/
import Derived.Test.YtbfaghgjbipilaaGreatDoorPk12
namespace Go.Proofs.YtbfaghgjbipilaaGreatDoor
set_option linter.unusedVariables false
set_option linter.unusedSimpArgs false
open Go.RowKit

theorem R2Valid_ext (r : Int) (w : World) (h0 : 0 ≤ r) (h1 : r ≤ 255) : Calls Tryz.prog 116 #[.int .u8 r] w fun e w' => e = .returned (.bool (rOk r)) ∧ Ext w w' := (R2Valid_any r w).mono fun _ _ h => ⟨h.1, h.2 ▸ Ext.refl _⟩
theorem R1Mode_any (m : Int) (w : World) (h1 : 1 ≤ m) (h3 : m ≤ 3) : Calls Tryz.prog 199 #[.int .u8 m] w fun e w' => e = .returned (.bool true) ∧ Ext w w' := by
  go_enter Tryz.func199, Tryz.ntmps199
  go_wp2
  go_ret
  exact ⟨rfl, Ext.refl _⟩
theorem negative_any (n : Int) (w : World) (h0 : 0 ≤ n) (h9 : n ≤ 9223372036854775807) : Calls Tryz.prog 227 #[.int .i64 n] w fun e w' => e = .returned (.int .i64 (-n)) ∧ Ext w w' := by
  by_cases hz : n = 0
  · subst hz
    go_enter Tryz.func227, Tryz.ntmps227
    go_wp2
    go_ret
    exact ⟨rfl, Ext.refl _⟩
  · have hp : 0 < n := by omega
    go_enter Tryz.func227, Tryz.ntmps227
    go_wp2
    go_ret
    exact ⟨rfl, Ext.refl _⟩
set_option maxRecDepth 100000 in
set_option maxHeartbeats 2000000 in
theorem RTicks_any (r : Int) (w : World) (h0 : 0 ≤ r) (h1 : r ≤ 255) : Calls Tryz.prog 119 #[.int .u8 r] w fun e w' => e = .returned (.int .i64 (rTicks r)) ∧ Ext w w' := by
  rcases rate_cases h0 with (rfl | rfl | rfl | rfl | rfl | rfl | rfl | rfl) | h8
  case inr =>
    have HO : Hid (rOk r = false) := by show _ = _; unfold rOk; rw [decide_eq_false (by omega)]
    have HN : Hid (rTicks r = 0) := by
      show _ = _
      unfold rTicks
      simp only [show ¬ r = 1 by omega, show ¬ r = 2 by omega, show ¬ r = 3 by omega, show ¬ r = 4 by omega, show ¬ r = 5 by omega, show ¬ r = 6 by omega, show ¬ r = 7 by omega, if_false]
    go_enter Tryz.func119, Tryz.ntmps119
    go_wp2_with fail
    refine (R2Valid_any r _).mono ?_
    rintro e w1 ⟨rfl, rfl⟩
    rw [HO.out]
    go_wp2_with fail
    go_ret
    exact ⟨ret_int HN.out.symm, Ext.refl _⟩
  all_goals
    go_enter Tryz.func119, Tryz.ntmps119
    go_wp2_with fail
    refine (R2Valid_any _ _).mono ?_
    rintro e w1 ⟨rfl, rfl⟩
    first | rw [show rOk 0 = false from rfl] | rw [show rOk _ = true from rfl]
    go_wp2_with fail
    go_ret
    exact ⟨rfl, by first | exact Ext.refl _ | exact (Ext.refl _).alloc _⟩
set_option maxRecDepth 100000 in
set_option maxHeartbeats 2000000 in
theorem RQuotient_any (n d : Int) (w : World) (hn0 : 0 ≤ n) (hn9 : n ≤ 4611686018427387904) (hd1 : 1 ≤ d) (hd9 : d ≤ 4611686018427387904) :
    Calls Tryz.prog 217 #[.int .i64 n, .int .i64 d, .int .u8 2] w fun e w' => e = .returned (.tuple #[.int .i64 (quoI n d 2), .int .i64 0]) ∧ Ext w w' := by
  have hq0 : 0 ≤ n / d := Int.ediv_nonneg hn0 (by omega)
  have hq1 : n / d ≤ n := Int.ediv_le_self _ hn0
  have hr0 : 0 ≤ n % d := Int.emod_nonneg _ (by omega)
  have hr1 : n % d < d := Int.emod_lt_of_pos _ (by omega)
  have hd0 : (d == 0) = false := by simp; omega
  have hz : ¬ d = 0 := by omega
  have hne : (n == -9223372036854775808) = false := by simp; omega
  have e1 : n.tdiv d = n / d := Int.tdiv_eq_ediv_of_nonneg hn0
  have e2 : n.tmod d = n % d := Int.tmod_eq_emod_of_nonneg hn0
  generalize hQ : n / d = q at *
  generalize hR : n % d = r at *
  have HQ : Hid (quoI n d 2 = if awayB r d 2 = true then q + 1 else q) := by show _ = _; unfold quoI; rw [hQ, hR]
  clear hQ hR
  go_enter Tryz.func217, Tryz.ntmps217
  go_wp2_with fail
  refine (R1Mode_any 2 _ (by omega) (by omega)).mono ?_
  rintro en w1 ⟨rfl, hx1⟩
  go_wp2_with fail
  go_quiet (fail)
  by_cases hr : r = 0
  · subst hr
    have HF : Hid (quoI n d 2 = q) := by show _ = _; rw [HQ.out]; rfl
    go_wp2_with fail
    go_ret2
    exact ⟨by rw [HF.out] <;> rfl, hx1.drewN _⟩
  · have hr' : (r == 0) = false := by simpa using hr
    have hrn : (r != 0) = true := by simpa using hr
    have hr2 : ¬ r < 0 := by omega
    have hd2 : ¬ d < 0 := by omega
    go_wp2_with fail
    refine (negative_any r _ hr0 (by omega)).mono ?_
    rintro en w2 ⟨rfl, hx2⟩
    go_wp2_with fail
    refine (negative_any d _ (by omega) (by omega)).mono ?_
    rintro en w3 ⟨rfl, hx3⟩
    go_wp2_with fail
    refine (negative_any r _ hr0 (by omega)).mono ?_
    rintro en w4 ⟨rfl, hx4⟩
    have hx := (((hx1.drewN _).trans hx2).trans hx3).trans hx4
    by_cases hle : d - r ≤ r
    · have HF : Hid (quoI n d 2 = q + 1) := by show _ = _; rw [HQ.out, (show awayB r d 2 = decide (d - r ≤ r) by unfold awayB; rw [if_neg hr]; rfl), decide_eq_true hle]; rfl
      have hle2 : -r ≤ -d - -r := by omega
      go_wp2_with fail
      go_ret2
      exact ⟨by rw [HF.out] <;> rfl, by first | exact hx | exact (((hx1.drewN _).trans hx2).trans hx3).trans hx4⟩
    · have HF : Hid (quoI n d 2 = q) := by show _ = _; rw [HQ.out, (show awayB r d 2 = decide (d - r ≤ r) by unfold awayB; rw [if_neg hr]; rfl), decide_eq_false hle]; rfl
      have hle2 : ¬ -r ≤ -d - -r := by omega
      go_wp2_with fail
      go_ret2
      exact ⟨by rw [HF.out] <;> rfl, by first | exact hx | exact (((hx1.drewN _).trans hx2).trans hx3).trans hx4⟩

set_option maxRecDepth 100000 in
set_option maxHeartbeats 2000000 in
theorem RTime_any47 (r f : Int) (w : World) (h0 : 0 ≤ r) (h1 : r ≤ 255) : Calls Tryz.prog 200 #[.int .u8 r, .int .i64 f] w fun e w' => e = .returned (tupI (timeT r f)) ∧ Ext w w' := by
  have HV := Lib.hid (fun w => R2Valid_ext r w h0 h1)
  have HTk := Lib.hid (fun w => RTicks_any r w h0 h1)
  cases ho : rOk r
  · have HO := Lib.hid ho
    have HF : Hid (timeT r f = (0, 3)) := by show _ = _; unfold timeT; rw [if_pos ho]
    clear ho
    go_enter Tryz.func200, Tryz.ntmps200
    go_wp2_with fail
    refine (HV.out _).mono ?_
    rintro en w1 ⟨rfl, hx1⟩
    rw [HO.out]
    go_wp2_with fail
    go_ret2
    exact ⟨by rw [HF.out] <;> rfl, hx1⟩
  obtain ⟨t1, t2⟩ := ticks_bd ho
  have HF : Hid (timeT r f = if f < 0 ∨ 10378368000 / rTicks r < f then (0, 2) else (f * rTicks r, 0)) := by show _ = _; unfold timeT; rw [if_neg (by simp [ho])]
  have HO := Lib.hid ho
  clear ho
  have hz : ¬ rTicks r = 0 := by omega
  have hz' : (rTicks r == 0) = false := by simpa using hz
  have e1 : (10378368000 : Int).tdiv (rTicks r) = 10378368000 / rTicks r := Int.tdiv_eq_ediv_of_nonneg (by omega)
  have hq0 : 0 ≤ (10378368000 : Int) / rTicks r := Int.ediv_nonneg (by omega) (by omega)
  have hq1 : (10378368000 : Int) / rTicks r ≤ 10378368000 := Int.ediv_le_self _ (by omega)
  have hm := Int.ediv_mul_le (10378368000 : Int) (b := rTicks r) hz
  generalize (10378368000 : Int) / rTicks r = q at *
  generalize rTicks r = t at *
  by_cases hf : f < 0
  · have HG := Lib.hid (HF.out.trans (if_pos (.inl hf)))
    go_enter Tryz.func200, Tryz.ntmps200
    go_wp2_with fail
    refine (HV.out _).mono ?_
    rintro en w1 ⟨rfl, hx1⟩
    rw [HO.out]
    go_wp2_with fail
    go_ret2
    exact ⟨by rw [HG.out] <;> rfl, hx1⟩
  by_cases hg : q < f
  · have HG := Lib.hid (HF.out.trans (if_pos (.inr hg)))
    go_enter Tryz.func200, Tryz.ntmps200
    go_wp2_with fail
    refine (HV.out _).mono ?_
    rintro en w1 ⟨rfl, hx1⟩
    rw [HO.out]
    go_wp2_with fail
    refine (HTk.out _).mono ?_
    rintro en w2 ⟨rfl, hx2⟩
    go_wp2_with fail
    go_ret2
    exact ⟨by rw [HG.out] <;> rfl, hx1.trans hx2⟩
  have HG := Lib.hid (HF.out.trans (if_neg (by omega)))
  have hp0 : 0 ≤ f * t := Int.mul_nonneg (by omega) (by omega)
  have hp1 : f * t ≤ 10378368000 := Int.le_trans (Int.mul_le_mul_of_nonneg_right (by omega) (by omega)) hm
  go_enter Tryz.func200, Tryz.ntmps200
  go_wp2_with fail
  refine (HV.out _).mono ?_
  rintro en w1 ⟨rfl, hx1⟩
  rw [HO.out]
  go_wp2_with fail
  refine (HTk.out _).mono ?_
  rintro en w2 ⟨rfl, hx2⟩
  go_wp2_with fail
  refine (HTk.out _).mono ?_
  rintro en w3 ⟨rfl, hx3⟩
  go_wp2_with fail
  go_ret2
  exact ⟨by rw [HG.out] <;> rfl, (hx1.trans hx2).trans hx3⟩

set_option maxRecDepth 100000 in
set_option maxHeartbeats 2000000 in
theorem RFrame_any47 (r t : Int) (w : World) (h0 : 0 ≤ r) (h1 : r ≤ 255) : Calls Tryz.prog 201 #[.int .u8 r, .int .i64 t, .int .u8 2] w fun e w' => e = .returned (tupI (frameT r t 2)) ∧ Ext w w' := by
  have HV := Lib.hid (fun w => R2Valid_ext r w h0 h1)
  have HTk := Lib.hid (fun w => RTicks_any r w h0 h1)
  cases ho : rOk r
  · have HO := Lib.hid ho
    have HF : Hid (frameT r t 2 = (0, 3)) := by show _ = _; unfold frameT; rw [if_pos ho]
    clear ho
    go_enter Tryz.func201, Tryz.ntmps201
    go_wp2_with fail
    refine (HV.out _).mono ?_
    rintro en w1 ⟨rfl, hx1⟩
    rw [HO.out]
    go_wp2_with fail
    go_ret2
    exact ⟨by rw [HF.out] <;> rfl, hx1⟩
  obtain ⟨t1, t2⟩ := ticks_bd ho
  have HF : Hid (frameT r t 2 = if t < 0 ∨ 10378368000 < t then (0, 2) else if 10378368000 < quoI t (rTicks r) 2 * rTicks r then (0, 2) else (quoI t (rTicks r) 2, 0)) := by show _ = _; unfold frameT; rw [if_neg (by simp [ho])]
  have HBd := Lib.hid (@frame_bd r t ho)
  have HO := Lib.hid ho
  clear ho
  by_cases ht : t < 0
  · have HG := Lib.hid (HF.out.trans (if_pos (.inl ht)))
    go_enter Tryz.func201, Tryz.ntmps201
    go_wp2_with fail
    refine (HV.out _).mono ?_
    rintro en w1 ⟨rfl, hx1⟩
    rw [HO.out]
    go_wp2_with fail
    refine (R1Mode_any 2 _ (by omega) (by omega)).mono ?_
    rintro en wm ⟨rfl, hxm⟩
    go_wp2_with fail
    go_ret2
    exact ⟨by rw [HG.out] <;> rfl, (hx1.trans hxm)⟩
  by_cases hg : 10378368000 < t
  · have HG := Lib.hid (HF.out.trans (if_pos (.inr hg)))
    go_enter Tryz.func201, Tryz.ntmps201
    go_wp2_with fail
    refine (HV.out _).mono ?_
    rintro en w1 ⟨rfl, hx1⟩
    rw [HO.out]
    go_wp2_with fail
    refine (R1Mode_any 2 _ (by omega) (by omega)).mono ?_
    rintro en wm ⟨rfl, hxm⟩
    go_wp2_with fail
    go_ret2
    exact ⟨by rw [HG.out] <;> rfl, (hx1.trans hxm)⟩
  have HG := Lib.hid (HF.out.trans (if_neg (by omega)))
  have HQu := Lib.hid (fun w => RQuotient_any t (rTicks r) w (by omega) (by omega) (by omega) (by omega))
  obtain ⟨b1, b2, b3, b4⟩ := HBd.out (by omega) (by omega)
  generalize quoI t (rTicks r) 2 = q at *
  generalize rTicks r = tk at *
  go_enter Tryz.func201, Tryz.ntmps201
  go_wp2_with fail
  refine (HV.out _).mono ?_
  rintro en w1 ⟨rfl, hx1⟩
  rw [HO.out]
  go_wp2_with fail
  refine (R1Mode_any 2 _ (by omega) (by omega)).mono ?_
  rintro en wm ⟨rfl, hxm⟩
  go_wp2_with fail
  refine (HTk.out _).mono ?_
  rintro en w2 ⟨rfl, hx2⟩
  go_wp2_with fail
  refine (HQu.out _).mono ?_
  rintro en w3 ⟨rfl, hx3⟩
  go_wp2_with fail
  refine (HTk.out _).mono ?_
  rintro en w4 ⟨rfl, hx4⟩
  have hx := (((hx1.trans hxm).trans hx2).trans hx3).trans hx4
  by_cases hb : 10378368000 < q * tk
  · have HGG := Lib.hid (HG.out.trans (if_pos hb))
    go_wp2_with fail
    go_ret2
    exact ⟨by rw [HGG.out] <;> rfl, hx⟩
  · have HGG := Lib.hid (HG.out.trans (if_neg hb))
    go_wp2_with fail
    go_ret2
    exact ⟨by rw [HGG.out] <;> rfl, hx⟩

set_option maxRecDepth 100000 in
set_option maxHeartbeats 2000000 in
theorem RConv_any47 (a b f : Int) (w : World) (h0 : 0 ≤ a) (h1 : a ≤ 255) (g0 : 0 ≤ b) (g1 : b ≤ 255) : Calls Tryz.prog 164 #[.int .u8 a, .int .u8 b, .int .i64 f, .int .u8 2] w fun e w' => e = .returned (tupI (convT a b f 2)) ∧ Ext w w' := by
  have HVa := Lib.hid (fun w => R2Valid_ext a w h0 h1)
  have HVb := Lib.hid (fun w => R2Valid_ext b w g0 g1)
  have HT := Lib.hid (fun w => RTime_any47 a f w h0 h1)
  have HFr := Lib.hid (fun t w => RFrame_any47 b t w g0 g1)
  unfold tupI at *
  cases ho : rOk a
  · have HO := Lib.hid ho
    have HF : Hid (convT a b f 2 = (0, 3)) := by show _ = _; unfold convT; rw [if_pos (.inl ho)]
    clear ho
    go_enter Tryz.func164, Tryz.ntmps164
    go_wp2_with fail
    refine (HVa.out _).mono ?_
    rintro en w1 ⟨rfl, hx1⟩
    rw [HO.out]
    go_wp2_with fail
    go_ret2
    exact ⟨by rw [HF.out] <;> rfl, hx1⟩
  cases hb : rOk b
  · have HO := Lib.hid ho
    have HP := Lib.hid hb
    have HF : Hid (convT a b f 2 = (0, 3)) := by show _ = _; unfold convT; rw [if_pos (.inr hb)]
    clear ho hb
    go_enter Tryz.func164, Tryz.ntmps164
    go_wp2_with fail
    refine (HVa.out _).mono ?_
    rintro en w1 ⟨rfl, hx1⟩
    rw [HO.out]
    go_wp2_with fail
    refine (HVb.out _).mono ?_
    rintro en w2 ⟨rfl, hx2⟩
    rw [HP.out]
    go_wp2_with fail
    go_ret2
    exact ⟨by rw [HF.out] <;> rfl, hx1.trans hx2⟩
  have HF : Hid (convT a b f 2 = if (timeT a f).2 ≠ 0 then (0, (timeT a f).2) else frameT b (timeT a f).1 2) := by show _ = _; unfold convT; rw [if_neg (by simp [ho, hb])]
  have HO := Lib.hid ho
  have HP := Lib.hid hb
  clear ho hb
  generalize timeT a f = p at *
  obtain ⟨tk, er⟩ := p
  dsimp only at *
  by_cases he : er = 0
  · subst he
    have HG := Lib.hid (HF.out.trans (if_neg (by simp)))
    go_enter Tryz.func164, Tryz.ntmps164
    go_wp2_with fail
    refine (HVa.out _).mono ?_
    rintro en w1 ⟨rfl, hx1⟩
    rw [HO.out]
    go_wp2_with fail
    refine (HVb.out _).mono ?_
    rintro en w2 ⟨rfl, hx2⟩
    rw [HP.out]
    go_wp2_with fail
    refine (R1Mode_any 2 _ (by omega) (by omega)).mono ?_
    rintro en wm ⟨rfl, hxm⟩
    go_wp2_with fail
    refine (HT.out _).mono ?_
    rintro en w3 ⟨rfl, hx3⟩
    go_wp2_with fail
    refine (HFr.out _ _).mono ?_
    rintro en w4 ⟨rfl, hx4⟩
    go_wp2_with fail
    go_ret2
    exact ⟨by rw [HG.out] <;> rfl, (((hx1.trans hx2).trans hxm).trans hx3).trans hx4⟩
  · have HG := Lib.hid (HF.out.trans (if_pos he))
    have hne : (er != 0) = true := by simpa using he
    go_enter Tryz.func164, Tryz.ntmps164
    go_wp2_with fail
    refine (HVa.out _).mono ?_
    rintro en w1 ⟨rfl, hx1⟩
    rw [HO.out]
    go_wp2_with fail
    refine (HVb.out _).mono ?_
    rintro en w2 ⟨rfl, hx2⟩
    rw [HP.out]
    go_wp2_with fail
    refine (R1Mode_any 2 _ (by omega) (by omega)).mono ?_
    rintro en wm ⟨rfl, hxm⟩
    go_wp2_with fail
    refine (HT.out _).mono ?_
    rintro en w3 ⟨rfl, hx3⟩
    go_wp2_with fail
    go_ret2
    exact ⟨by rw [HG.out] <;> rfl, ((hx1.trans hx2).trans hxm).trans hx3⟩

theorem RKnown_any47 (m : Int) (w : World) : Calls Tryz.prog 118 #[.int .u8 m] w fun e w' => e = .returned (.bool (decide (m = 1 ∨ m = 2))) ∧ w = w' := by
  by_cases h1 : m = 1
  · subst h1
    go_enter Tryz.func118, Tryz.ntmps118
    go_wp2
    go_ret
    exact ⟨rfl, rfl⟩
  by_cases h2 : m = 2
  · subst h2
    go_enter Tryz.func118, Tryz.ntmps118
    go_wp2
    go_ret
    exact ⟨rfl, rfl⟩
  have e1 : (m == 1) = false := by simpa using h1
  have e2 : (m == 2) = false := by simpa using h2
  go_enter Tryz.func118, Tryz.ntmps118
  go_wp2
  go_ret
  exact ⟨ret_bool (by rw [decide_eq_false (by omega)]), rfl⟩

set_option maxRecDepth 100000 in
set_option maxHeartbeats 4000000 in
theorem RSpan_any47 (a b i o m : Int) (w : World) (h0 : 0 ≤ a) (h1 : a ≤ 255) (g0 : 0 ≤ b) (g1 : b ≤ 255) : Calls Tryz.prog 120 #[.int .u8 a, .int .u8 b, .agg #[.int .i64 i, .int .i64 o], .int .u8 m] w fun e w' => e = .returned (tupS (spanT a b i o m)) ∧ Ext w w' := by
  have HVa := Lib.hid (fun w => R2Valid_ext a w h0 h1)
  have HVb := Lib.hid (fun w => R2Valid_ext b w g0 g1)
  have HC := Lib.hid (fun f w => RConv_any47 a b f w h0 h1 g0 g1)
  have S1 := Lib.hid (@PSpan_1 a b i o m)
  have S2 := Lib.hid (@PSpan_2 a b i o m)
  have S3 := Lib.hid (@PSpan_3 a b i o m)
  have S4 := Lib.hid (@PSpan_4 a b i o m)
  have S5 := Lib.hid (@PSpan_5 a b i o m)
  have HX := Lib.hid (((Ext.refl w).alloc (.cells #[.int .i64 i, .int .i64 o] 42)).alloc (.cells #[.int .i64 0, .int .i64 0] 42))
  have HB := Lib.hid ((Blk.new w 42 #[.int .i64 i, .int .i64 o]).alloc (.cells #[.int .i64 0, .int .i64 0] 42))
  have HZ := Lib.hid (Blk.new' (w := w.alloc (.cells #[.int .i64 i, .int .i64 o] 42)) (g := w.heap.size + 1) (t := 42) (cs := #[.int .i64 0, .int .i64 0]) (by simp))
  unfold tupI at HC
  generalize hW0 : (w.alloc (.cells #[.int .i64 i, .int .i64 o] 42)).alloc (.cells #[.int .i64 0, .int .i64 0] 42) = W0 at HX HB HZ
  have END : ∀ (w9 : World) (q1 q2 er : Int), Ext W0 w9 → spanT a b i o m = ((q1, q2), er) → ∀ (tmps : Array Value), tmps.getD 8 undef = .pointer (some ⟨w.heap.size + 1, 0, none⟩) → tmps.getD 9 undef = .int .i64 er →
      (results Tryz.f120 tmps).run Tryz.prog (putB w9 (w.heap.size + 1) 42 #[.int .i64 q1, .int .i64 q2]) = .ok (tupS (spanT a b i o m)) (putB w9 (w.heap.size + 1) 42 #[.int .i64 q1, .int .i64 q2]) ∧ Ext w (putB w9 (w.heap.size + 1) 42 #[.int .i64 q1, .int .i64 q2]) := fun w9 q1 q2 er hx hs tmps h8 h9 => by
    refine ⟨?_, (HX.out.trans hx).put (by omega) _ _⟩
    have := results_B_tmp (P := Tryz.prog) Tryz.results120 (tmps := tmps) (w := putB w9 (w.heap.size + 1) 42 #[.int .i64 q1, .int .i64 q2]) (g := w.heap.size + 1) h8 ((HZ.out.ext hx).put _) Tryz.underlying42 rfl size_span'
    rw [this, h9, hs]
    rfl
  have HEnd := Lib.hid END
  clear END
  go_enter Tryz.func120, Tryz.ntmps120
  cases ho : rOk a
  · have HO := Lib.hid ho
    clear ho
    go_wp2_with fail
    try rw [hW0]
    refine (HVa.out _).mono ?_
    rintro en w1 ⟨rfl, hx1⟩
    rw [HO.out]
    have HZ1 := Lib.hid (HZ.out.ext hx1)
    go_wp2_with (refine wpList_storeB rfl 42 (.tmp 8) _ rfl (w.heap.size + 1) 42 _ _ (by exact rfl) (by exact rfl) (by exact HZ1.out) (by exact rfl) (by exact size_span') (by simp [Value.oneCell']) ?_)
    exact (fun h => bodyPost_ret (v := tupS (spanT a b i o m)) h.1 rfl ⟨rfl, h.2⟩) (HEnd.out _ _ _ _ hx1 (S1.out (.inl HO.out)) _ (by exact rfl) (by exact rfl))
  cases hb : rOk b
  · have HO := Lib.hid ho
    have HP := Lib.hid hb
    clear ho hb
    go_wp2_with fail
    try rw [hW0]
    refine (HVa.out _).mono ?_
    rintro en w1 ⟨rfl, hx1⟩
    rw [HO.out]
    go_wp2_with fail
    refine (HVb.out _).mono ?_
    rintro en w2 ⟨rfl, hx2⟩
    rw [HP.out]
    have hx2' := hx1.trans hx2
    have HZ1 := Lib.hid (HZ.out.ext hx2')
    go_wp2_with (refine wpList_storeB rfl 42 (.tmp 8) _ rfl (w.heap.size + 1) 42 _ _ (by exact rfl) (by exact rfl) (by exact HZ1.out) (by exact rfl) (by exact size_span') (by simp [Value.oneCell']) ?_)
    exact (fun h => bodyPost_ret (v := tupS (spanT a b i o m)) h.1 rfl ⟨rfl, h.2⟩) (HEnd.out _ _ _ _ hx2' (S1.out (.inr HP.out)) _ (by exact rfl) (by exact rfl))
  have HNo : Hid (¬ (rOk a = false ∨ rOk b = false)) := by show ¬ _; simp [ho, hb]
  have HO := Lib.hid ho
  have HP := Lib.hid hb
  clear ho hb S1
  go_wp2_with fail
  try rw [hW0]
  refine (HVa.out _).mono ?_
  rintro en w1 ⟨rfl, hx1⟩
  rw [HO.out]
  go_wp2_with fail
  refine (HVb.out _).mono ?_
  rintro en w2 ⟨rfl, hx2⟩
  rw [HP.out]
  have HX2 := Lib.hid (hx1.trans hx2)
  have HZ2 := Lib.hid (HZ.out.ext HX2.out)
  have HB2 := Lib.hid (HB.out.ext HX2.out)
  clear hx1 hx2
  have hc2 := fun k => HB2.out.cell k
  go_wp2_with fail
  refine (RKnown_any47 m _).mono ?_
  rintro en w3 ⟨rfl, hx3⟩
  subst hx3
  cases hm : decide (m = 1 ∨ m = 2)
  · have HM : Hid (¬ (m = 1 ∨ m = 2)) := by show ¬ _; exact of_decide_eq_false hm
    clear hm
    go_wp2_with (refine wpList_storeB rfl 42 (.tmp 8) _ rfl (w.heap.size + 1) 42 _ _ (by exact rfl) (by exact rfl) (by exact HZ2.out) (by exact rfl) (by exact size_span') (by simp [Value.oneCell']) ?_)
    exact (fun h => bodyPost_ret (v := tupS (spanT a b i o m)) h.1 rfl ⟨rfl, h.2⟩) (HEnd.out _ _ _ _ HX2.out (S2.out HNo.out (.inl HM.out)) _ (by exact rfl) (by exact rfl))
  have HM : Hid (m = 1 ∨ m = 2) := by show _ ∨ _; exact of_decide_eq_true hm
  clear hm
  by_cases hio : o ≤ i
  · go_wp2_with (refine wpList_storeB rfl 42 (.tmp 8) _ rfl (w.heap.size + 1) 42 _ _ (by exact rfl) (by exact rfl) (by exact HZ2.out) (by exact rfl) (by exact size_span') (by simp [Value.oneCell']) ?_)
    exact (fun h => bodyPost_ret (v := tupS (spanT a b i o m)) h.1 rfl ⟨rfl, h.2⟩) (HEnd.out _ _ _ _ HX2.out (S2.out HNo.out (.inr hio)) _ (by exact rfl) (by exact rfl))
  have HM2 : Hid (¬ (¬ (m = 1 ∨ m = 2) ∨ o ≤ i)) := by show ¬ _; have := HM.out; omega
  clear S2
  by_cases hi : i < 0
  · go_wp2_with (refine wpList_storeB rfl 42 (.tmp 8) _ rfl (w.heap.size + 1) 42 _ _ (by exact rfl) (by exact rfl) (by exact HZ2.out) (by exact rfl) (by exact size_span') (by simp [Value.oneCell']) ?_)
    exact (fun h => bodyPost_ret (v := tupS (spanT a b i o m)) h.1 rfl ⟨rfl, h.2⟩) (HEnd.out _ _ _ _ HX2.out (S3.out HNo.out HM2.out (.inl hi)) _ (by exact rfl) (by exact rfl))
  by_cases hoo : 5184000 < o
  · go_wp2_with (refine wpList_storeB rfl 42 (.tmp 8) _ rfl (w.heap.size + 1) 42 _ _ (by exact rfl) (by exact rfl) (by exact HZ2.out) (by exact rfl) (by exact size_span') (by simp [Value.oneCell']) ?_)
    exact (fun h => bodyPost_ret (v := tupS (spanT a b i o m)) h.1 rfl ⟨rfl, h.2⟩) (HEnd.out _ _ _ _ HX2.out (S3.out HNo.out HM2.out (.inr hoo)) _ (by exact rfl) (by exact rfl))
  have HM3 : Hid (¬ (i < 0 ∨ 5184000 < o)) := by show ¬ _; omega
  clear S3
  by_cases h2 : m = 2
  · subst h2
    go_wp2_with (first | (refine wpList_loadB rfl 42 (.tmp 6) rfl w.heap.size 42 _ _ (by exact rfl) (by exact HB2.out) Tryz.underlying42 rfl (by exact size_span') ?_) | (refine wpList_storeB rfl 42 (.tmp 8) _ rfl (w.heap.size + 1) 42 _ _ (by exact rfl) (by exact rfl) (by exact HZ2.out) (by exact rfl) (by exact size_span') (by simp [Value.oneCell']) ?_))
    exact (fun h => bodyPost_ret (v := tupS (spanT a b i o 2)) h.1 rfl ⟨rfl, h.2⟩) (HEnd.out _ _ _ _ HX2.out (S4.out HNo.out HM2.out HM3.out trivial) _ (by exact rfl) (by exact rfl))
  have HE := Lib.hid (S5.out HNo.out HM2.out HM3.out h2)
  have h2' : (m == 2) = false := by simpa using h2
  clear S4 S5 h2
  have hbi := conv_bd a b i
  have hbo := conv_bd a b o
  have HCi := Lib.hid (HC.out i)
  have HCo := Lib.hid (HC.out o)
  clear HC
  generalize convT a b i 2 = pi at *
  generalize convT a b o 2 = po at *
  obtain ⟨ci, ei⟩ := pi
  obtain ⟨co, eo⟩ := po
  dsimp only at *
  go_wp2_with fail
  refine (HCi.out _).mono ?_
  rintro en w4 ⟨rfl, hx4⟩
  have HX4 := Lib.hid (HX2.out.trans hx4)
  have HZ4 := Lib.hid (HZ2.out.ext hx4)
  have HB4 := Lib.hid (HB2.out.ext hx4)
  clear hx4 hc2
  have hc4 := fun k => HB4.out.cell k
  by_cases hei : ei = 0
  case neg =>
    have hne : (ei != 0) = true := by simpa using hei
    have HG := Lib.hid (HE.out.trans (if_pos hei))
    go_wp2_with (refine wpList_storeB rfl 42 (.tmp 8) _ rfl (w.heap.size + 1) 42 _ _ (by exact rfl) (by exact rfl) (by exact HZ4.out) (by exact rfl) (by exact size_span') (by simp [Value.oneCell']) ?_)
    exact (fun h => bodyPost_ret (v := tupS (spanT a b i o m)) h.1 rfl ⟨rfl, h.2⟩) (HEnd.out _ _ _ _ HX4.out HG.out _ (by exact rfl) (by exact rfl))
  subst hei
  have HG := Lib.hid (HE.out.trans (if_neg (by simp)))
  clear HE
  go_wp2_with fail
  refine (HCo.out _).mono ?_
  rintro en w5 ⟨rfl, hx5⟩
  have HX5 := Lib.hid (HX4.out.trans hx5)
  have HZ5 := Lib.hid (HZ4.out.ext hx5)
  clear hx5 hc4
  by_cases heo : eo = 0
  case neg =>
    have hne : (eo != 0) = true := by simpa using heo
    have HG2 := Lib.hid (HG.out.trans (if_pos heo))
    go_wp2_with (refine wpList_storeB rfl 42 (.tmp 8) _ rfl (w.heap.size + 1) 42 _ _ (by exact rfl) (by exact rfl) (by exact HZ5.out) (by exact rfl) (by exact size_span') (by simp [Value.oneCell']) ?_)
    exact (fun h => bodyPost_ret (v := tupS (spanT a b i o m)) h.1 rfl ⟨rfl, h.2⟩) (HEnd.out _ _ _ _ HX5.out HG2.out _ (by exact rfl) (by exact rfl))
  subst heo
  have HG2 := Lib.hid (HG.out.trans (if_neg (by simp)))
  clear HG
  have hmx : 0 ≤ max co (ci + 1) ∧ max co (ci + 1) ≤ 10378373006 := by omega
  by_cases hbig : 5184000 < max co (ci + 1)
  · have HG3 := Lib.hid (HG2.out.trans (if_pos hbig))
    go_wp2_with (refine wpList_storeB rfl 42 (.tmp 8) _ rfl (w.heap.size + 1) 42 _ _ (by exact rfl) (by exact rfl) (by exact HZ5.out) (by exact rfl) (by exact size_span') (by simp [Value.oneCell']) ?_)
    exact (fun h => bodyPost_ret (v := tupS (spanT a b i o m)) h.1 rfl ⟨rfl, h.2⟩) (HEnd.out _ _ _ _ HX5.out HG3.out _ (by exact rfl) (by exact rfl))
  · have HG3 := Lib.hid (HG2.out.trans (if_neg hbig))
    go_wp2_with (refine wpList_storeB rfl 42 (.tmp 8) _ rfl (w.heap.size + 1) 42 _ _ (by exact rfl) (by exact rfl) (by exact HZ5.out) (by exact rfl) (by exact size_span') (by simp [Value.oneCell']) ?_)
    exact (fun h => bodyPost_ret (v := tupS (spanT a b i o m)) h.1 rfl ⟨rfl, h.2⟩) (HEnd.out _ _ _ _ HX5.out HG3.out _ (by exact rfl) (by exact rfl))
end Go.Proofs.YtbfaghgjbipilaaGreatDoor
