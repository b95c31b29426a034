/- The walks of ratio.known, size, away and Quotient at numbers that are not negative. -/
import Derived.Test.YtffianmhojiomaaDoorDet
namespace Go.Proofs.YtffianmhojiomaaDoor
set_option linter.unusedVariables false
set_option linter.unusedSimpArgs false
open Go.RowKit

theorem size_any (n : Int) (w : World) (h : 0 ≤ n) (h9 : n ≤ 9223372036854775807) : Calls Tryd.prog 64 #[.int .i64 n] w fun e w' => e = .returned (.int .u64 n) ∧ w = w' := by
  go_enter Tryd.func64, Tryd.ntmps64
  go_wp2
  go_ret
  exact ⟨rfl, rfl⟩
theorem known_any (m : Int) (w : World) (h1 : 1 ≤ m) (h3 : m ≤ 3) : Calls Tryd.prog 63 #[.int .u8 m] w fun e w' => e = .returned (.bool true) ∧ w = w' := by
  go_enter Tryd.func63, Tryd.ntmps63
  go_wp2
  go_ret
  exact ⟨rfl, rfl⟩
/-- is a remainder rounded up? (mode 1: down, 2: to the nearest, 3: up) -/
def awayB (r d m : Int) : Bool := if r = 0 then false else if m = 1 then false else if m = 3 then true else decide (d - r ≤ r)
set_option maxRecDepth 100000 in
set_option maxHeartbeats 1000000 in
theorem away_any (r d m : Int) (w : World) (hr : 0 ≤ r) (hd : r < d) (h9 : d ≤ 9223372036854775807) (h1 : 1 ≤ m) (h3 : m ≤ 3) : Calls Tryd.prog 65 #[.bool false, .int .u64 r, .int .u64 d, .int .u8 m] w fun e w' => e = .returned (.bool (awayB r d m)) ∧ w = w' := by
  by_cases h0 : r = 0
  · subst h0
    go_enter Tryd.func65, Tryd.ntmps65
    go_wp2
    go_ret
    exact ⟨rfl, rfl⟩
  · have e0 : (r == 0) = false := by simpa using h0
    have hm : m = 1 ∨ m = 2 ∨ m = 3 := by omega
    rcases hm with rfl | rfl | rfl
    · have HF : Hid (awayB r d 1 = false) := by show _ = _; unfold awayB; rw [if_neg h0]; rfl
      go_enter Tryd.func65, Tryd.ntmps65
      go_wp2
      go_ret
      exact ⟨ret_bool HF.out.symm, rfl⟩
    · have HF : Hid (awayB r d 2 = decide (d - r ≤ r)) := by show _ = _; unfold awayB; rw [if_neg h0]; rfl
      by_cases hg : d - r < r
      · go_enter Tryd.func65, Tryd.ntmps65
        go_wp2
        go_ret
        exact ⟨ret_bool (by rw [HF.out, decide_eq_true (by omega)]), rfl⟩
      · by_cases hq : r = d - r
        · have hq' : (r == d - r) = true := by simpa using hq
          have HQ := Lib.hid hq
          clear hq
          go_enter Tryd.func65, Tryd.ntmps65
          go_wp2
          go_ret
          exact ⟨ret_bool (by rw [HF.out, decide_eq_true (by have := HQ.out; omega)]), rfl⟩
        · have hq' : (r == d - r) = false := by simpa using hq
          go_enter Tryd.func65, Tryd.ntmps65
          go_wp2
          go_ret
          exact ⟨ret_bool (by rw [HF.out, decide_eq_false (by omega)]), rfl⟩
    · have HF : Hid (awayB r d 3 = true) := by show _ = _; unfold awayB; rw [if_neg h0]; rfl
      go_enter Tryd.func65, Tryd.ntmps65
      go_wp2
      go_ret
      exact ⟨ret_bool HF.out.symm, rfl⟩
theorem quo_u64 {n d : Int} {w : World} (hn : 0 ≤ n) (hd : 1 ≤ d) (hn9 : n ≤ 9223372036854775807) (hd9 : d ≤ 9223372036854775807) : (do eqGuard .quo 104 (.tmp 24) (.tmp 26) (.int .u64 n) (.int .u64 d); binOp .quo 104 (.int .u64 n) (.int .u64 d) : Sem Value).run Tryd.prog w = .ok (.int .u64 (n / d)) w := by
  have h1 : 0 ≤ n / d := Int.ediv_nonneg hn (by omega)
  have h2 : n / d ≤ n := Int.ediv_le_self _ hn
  have hd0 : (d == 0) = false := by simp; omega
  have e : n.tdiv d = n / d := Int.tdiv_eq_ediv_of_nonneg hn
  have hz : ¬ d = 0 := by omega
  go_simp
  simp [IntKind.wrap, IntKind.bits, IntKind.signed]
  omega
theorem rem_u64 {n d : Int} {w : World} (hn : 0 ≤ n) (hd : 1 ≤ d) (hn9 : n ≤ 9223372036854775807) (hd9 : d ≤ 9223372036854775807) : (do eqGuard .rem 104 (.tmp 29) (.tmp 31) (.int .u64 n) (.int .u64 d); binOp .rem 104 (.int .u64 n) (.int .u64 d) : Sem Value).run Tryd.prog w = .ok (.int .u64 (n % d)) w := by
  have h1 : 0 ≤ n % d := Int.emod_nonneg _ (by omega)
  have h2 : n % d < d := Int.emod_lt_of_pos _ (by omega)
  have e : n.tmod d = n % d := Int.tmod_eq_emod_of_nonneg hn
  have hz : ¬ d = 0 := by omega
  go_simp
/-- a quotient of numbers that are not negative -/
def quoI (n d m : Int) : Int := if awayB (n % d) d m = true then n / d + 1 else n / d
set_option maxRecDepth 100000 in
set_option maxHeartbeats 2000000 in
theorem Quotient_any (n d m : Int) (w : World) (hn0 : 0 ≤ n) (hn9 : n ≤ 4611686018427387904) (hd1 : 1 ≤ d) (hd9 : d ≤ 9223372036854775807) (h1 : 1 ≤ m) (h3 : m ≤ 3) :
    Calls Tryd.prog 45 #[.int .i64 n, .int .i64 d, .int .u8 m] w fun e w' => e = .returned (.tuple #[.int .i64 (quoI n d m), .int .i64 0]) ∧ Ext w w' := by
  have hq0 : 0 ≤ n / d := Int.ediv_nonneg hn0 (by omega)
  have hq1 : n / d ≤ n := Int.ediv_le_self _ hn0
  have hr0 : 0 ≤ n % d := Int.emod_nonneg _ (by omega)
  have hr1 : n % d < d := Int.emod_lt_of_pos _ (by omega)
  have hd0 : (d == 0) = false := by simp; omega
  have hnl : decide (n < 0) = false := by simp; omega
  have hdl : decide (d < 0) = false := by simp; omega
  go_enter Tryd.func45, Tryd.ntmps45
  go_wp2_with fail
  refine (known_any m _ h1 h3).mono ?_
  rintro e w1 ⟨rfl, rfl⟩
  go_wp2_with fail
--@gen quo
  refine wp_region_vals [.int .i64 (n), .int .u64 (n), .int .i64 (d), .int .u64 (d), .int .u64 (n / d), .int .i64 (n), .int .u64 (n), .int .i64 (d), .int .u64 (d), .int .u64 (n % d), .int .u64 (n / d), .int .u64 (n % d)] [(23, .int .i64 (n)), (24, .int .u64 (n)), (25, .int .i64 (d)), (26, .int .u64 (d)), (27, .int .u64 (n / d)), (28, .int .i64 (n)), (29, .int .u64 (n)), (30, .int .i64 (d)), (31, .int .u64 (d)), (32, .int .u64 (n % d)), (9, .int .u64 (n / d)), (10, .int .u64 (n % d))] (by kernel_rfl) (by kernel_rfl) (by kernel_rfl) rfl rfl ?_ ?_
  · intro i o ho a w' K' hx hn hd hk
    match i, ho with
    | 0, ho =>
      simp only [List.getElem?_toArray, List.getElem?_cons_zero, List.getElem?_cons_succ, Option.some.injEq] at ho
      subst ho
      refine want_none rfl ?_
      exact wp_move _ _ rfl ((hn 0 rfl).trans (show _ = .int .i64 (n) from rfl)) (hk _ rfl w' (Ext.refl _))
    | 1, ho =>
      simp only [List.getElem?_toArray, List.getElem?_cons_zero, List.getElem?_cons_succ, Option.some.injEq] at ho
      subst ho
      refine want_none rfl ?_
      exact wp_call1s rfl (eval_of (hd 0 23 (.int .i64 (n)) rfl rfl rfl)) Tryd.call64 ((size_any n w' hn0 (by omega)).mono fun _ _ h => ⟨h.1, h.2 ▸ Ext.refl _⟩) (hk _ rfl)
    | 2, ho =>
      simp only [List.getElem?_toArray, List.getElem?_cons_zero, List.getElem?_cons_succ, Option.some.injEq] at ho
      subst ho
      refine want_none rfl ?_
      exact wp_move _ _ rfl ((hn 1 rfl).trans (show _ = .int .i64 (d) from rfl)) (hk _ rfl w' (Ext.refl _))
    | 3, ho =>
      simp only [List.getElem?_toArray, List.getElem?_cons_zero, List.getElem?_cons_succ, Option.some.injEq] at ho
      subst ho
      refine want_none rfl ?_
      exact wp_call1s rfl (eval_of (hd 2 25 (.int .i64 (d)) rfl rfl rfl)) Tryd.call64 ((size_any d w' (by omega) hd9).mono fun _ _ h => ⟨h.1, h.2 ▸ Ext.refl _⟩) (hk _ rfl)
    | 4, ho =>
      simp only [List.getElem?_toArray, List.getElem?_cons_zero, List.getElem?_cons_succ, Option.some.injEq] at ho
      subst ho
      refine want_none rfl ?_
      exact wp_bin rfl (eval_of (hd 1 24 (.int .u64 (n)) rfl rfl rfl)) (eval_of (hd 3 26 (.int .u64 (d)) rfl rfl rfl)) (by exact quo_u64 hn0 hd1 (by omega) hd9) (hk _ rfl w' (Ext.refl _))
    | 5, ho =>
      simp only [List.getElem?_toArray, List.getElem?_cons_zero, List.getElem?_cons_succ, Option.some.injEq] at ho
      subst ho
      refine want_none rfl ?_
      exact wp_move _ _ rfl ((hn 0 rfl).trans (show _ = .int .i64 (n) from rfl)) (hk _ rfl w' (Ext.refl _))
    | 6, ho =>
      simp only [List.getElem?_toArray, List.getElem?_cons_zero, List.getElem?_cons_succ, Option.some.injEq] at ho
      subst ho
      refine want_none rfl ?_
      exact wp_call1s rfl (eval_of (hd 5 28 (.int .i64 (n)) rfl rfl rfl)) Tryd.call64 ((size_any n w' hn0 (by omega)).mono fun _ _ h => ⟨h.1, h.2 ▸ Ext.refl _⟩) (hk _ rfl)
    | 7, ho =>
      simp only [List.getElem?_toArray, List.getElem?_cons_zero, List.getElem?_cons_succ, Option.some.injEq] at ho
      subst ho
      refine want_none rfl ?_
      exact wp_move _ _ rfl ((hn 1 rfl).trans (show _ = .int .i64 (d) from rfl)) (hk _ rfl w' (Ext.refl _))
    | 8, ho =>
      simp only [List.getElem?_toArray, List.getElem?_cons_zero, List.getElem?_cons_succ, Option.some.injEq] at ho
      subst ho
      refine want_none rfl ?_
      exact wp_call1s rfl (eval_of (hd 7 30 (.int .i64 (d)) rfl rfl rfl)) Tryd.call64 ((size_any d w' (by omega) hd9).mono fun _ _ h => ⟨h.1, h.2 ▸ Ext.refl _⟩) (hk _ rfl)
    | 9, ho =>
      simp only [List.getElem?_toArray, List.getElem?_cons_zero, List.getElem?_cons_succ, Option.some.injEq] at ho
      subst ho
      refine want_none rfl ?_
      exact wp_bin rfl (eval_of (hd 6 29 (.int .u64 (n)) rfl rfl rfl)) (eval_of (hd 8 31 (.int .u64 (d)) rfl rfl rfl)) (by exact rem_u64 hn0 hd1 (by omega) hd9) (hk _ rfl w' (Ext.refl _))
    | 10, ho =>
      simp only [List.getElem?_toArray, List.getElem?_cons_zero, List.getElem?_cons_succ, Option.some.injEq] at ho
      subst ho
      refine want_none rfl ?_
      exact wp_assignx _ _ rfl (eval_of (hd 4 27 (.int .u64 (n / d)) rfl rfl rfl)) (hk _ rfl w' (Ext.refl _))
    | 11, ho =>
      simp only [List.getElem?_toArray, List.getElem?_cons_zero, List.getElem?_cons_succ, Option.some.injEq] at ho
      subst ho
      refine want_none rfl ?_
      exact wp_assignx _ _ rfl (eval_of (hd 9 32 (.int .u64 (n % d)) rfl rfl rfl)) (hk _ rfl w' (Ext.refl _))
    | i + 12, ho => simp at ho
--@gend quo
  intro w1 hx
  simp only [Act.put, List.foldl_cons, List.foldl_nil, List.setIfInBounds_toArray, List.set_cons_zero, List.set_cons_succ]
  have HQ : Hid (∀ b, awayB (n % d) d m = b → quoI n d m = if b = true then n / d + 1 else n / d) := fun b hb => by unfold quoI; rw [hb]
  go_wp2_with fail
  refine (size_any d _ (by omega) hd9).mono ?_
  rintro e w2 ⟨rfl, rfl⟩
  go_wp2_with fail
  refine (away_any (n % d) d m _ hr0 hr1 hd9 h1 h3).mono ?_
  rintro e w2 ⟨rfl, rfl⟩
  cases hb : awayB (n % d) d m
  · have HB := Lib.hid hb
    clear hb
    go_wp2_with fail
    go_ret2
    exact ⟨by rw [HQ.out _ HB.out]; rfl, hx⟩
  · have HB := Lib.hid hb
    clear hb
    go_wp2_with fail
    go_ret2
    exact ⟨by rw [HQ.out _ HB.out]; rfl, hx⟩
end Go.Proofs.YtffianmhojiomaaDoor
