/- The walks of package ratio (inParts, Gcd, Valid, known, size, away, Quotient) and of its reference (Size, Gcd, Valid). -/
import Derived.Test.YtffianmhojiomaaDoorBase
import Derived.Test.YtffianmhojiomaaDoorBlk
namespace Go.Proofs.YtffianmhojiomaaDoor
set_option linter.unusedVariables false
set_option linter.unusedSimpArgs false
open Go.RowKit

def inPartsB (n d : Int) : Bool := decide (-2147483648 ≤ n ∧ n ≤ 2147483648 ∧ 1 ≤ d ∧ d ≤ 2147483648)
def ratioB (n d : Int) : Bool := inPartsB n d && decide (Int.gcd n d = 1)
theorem inPartsB_true {n d : Int} (h : inPartsB n d = true) : -2147483648 ≤ n ∧ n ≤ 2147483648 ∧ 1 ≤ d ∧ d ≤ 2147483648 := of_decide_eq_true h

set_option maxHeartbeats 1000000 in
theorem inParts_any (n d : Int) (w : World) : Calls Tryd.prog 75 #[.int .i64 n, .int .i64 d] w fun e w' => e = .returned (.bool (inPartsB n d)) ∧ w = w' := by
  by_cases h1 : -2147483648 ≤ n
  · by_cases h2 : n ≤ 2147483648
    · by_cases h3 : 1 ≤ d
      · by_cases h4 : d ≤ 2147483648
        · go_enter Tryd.func75, Tryd.ntmps75
          go_wp2
          go_ret
          exact ⟨ret_bool (by unfold inPartsB; rw [decide_eq_true ⟨h1, h2, h3, h4⟩]), rfl⟩
        · go_enter Tryd.func75, Tryd.ntmps75
          go_wp2
          go_ret
          exact ⟨ret_bool (by unfold inPartsB; rw [decide_eq_false (by omega)]), rfl⟩
      · go_enter Tryd.func75, Tryd.ntmps75
        go_wp2
        go_ret
        exact ⟨ret_bool (by unfold inPartsB; rw [decide_eq_false (by omega)]), rfl⟩
    · go_enter Tryd.func75, Tryd.ntmps75
      go_wp2
      go_ret
      exact ⟨ret_bool (by unfold inPartsB; rw [decide_eq_false (by omega)]), rfl⟩
  · go_enter Tryd.func75, Tryd.ntmps75
    go_wp2
    go_ret
    exact ⟨ret_bool (by unfold inPartsB; rw [decide_eq_false (by omega)]), rfl⟩

/-- the loop of Euclid, as the two texts have it -/
def GcdRel (a b : Int) (w : World) (x y : Value) (wr : World) : Prop :=
  ∃ p q : Int, x = .int .i64 p ∧ y = .int .i64 q ∧ 0 ≤ p ∧ p ≤ 2147483648 ∧ 0 ≤ q ∧ q ≤ 2147483648 ∧ Int.gcd p q = Int.gcd a b ∧ Ext w wr

theorem gcd_step (p q : Int) (hp : 0 ≤ p) (hq : 0 < q) : Int.gcd q (p % q) = Int.gcd p q := by
  obtain ⟨a, rfl⟩ := Int.eq_ofNat_of_zero_le hp
  obtain ⟨b, rfl⟩ := Int.eq_ofNat_of_zero_le (Int.le_of_lt hq)
  rw [← Int.natCast_emod, Int.gcd_natCast_natCast, Int.gcd_natCast_natCast, Nat.gcd_comm a b, Nat.gcd_comm b (a % b), ← Nat.gcd_rec]
theorem emod_small (p q : Int) (hp : 0 ≤ p) (hq : 0 < q) : 0 ≤ p % q ∧ p % q < q := by
  exact ⟨Int.emod_nonneg _ (by omega), Int.emod_lt_of_pos _ hq⟩
theorem gcd_zero' (p : Int) (hp : 0 ≤ p) : ((Int.gcd p 0 : Nat) : Int) = p := by simp; omega
theorem gcd_abs1 (n : Int) (d : Int) : Int.gcd (max n (-n)) (max d (-d)) = Int.gcd n d := by
  have e1 : max n (-n) = n ∨ max n (-n) = -n := by omega
  have e2 : max d (-d) = d ∨ max d (-d) = -d := by omega
  rcases e1 with e1 | e1 <;> rcases e2 with e2 | e2 <;> rw [e1, e2] <;> simp

set_option maxHeartbeats 2000000 in
theorem Gcd_any (n d : Int) (w : World) (h : inPartsB n d = true) : Calls Tryd.prog 76 #[.int .i64 n, .int .i64 d] w fun e w' => e = .returned (.int .i64 (Int.gcd n d)) ∧ Ext w w' := by
  obtain ⟨h1, h2, h3, h4⟩ := inPartsB_true h
  clear h
  have hn : (n == -9223372036854775808) = false := by simp; omega
  have hd : (d == -9223372036854775808) = false := by simp; omega
  have hA := Lib.hid (gcd_abs1 n d)
  go_enter Tryd.func76, Tryd.ntmps76
  go_wp2
  go_loopw [5, 6] (fun x y wr => GcdRel n d w x y wr) (fun _ y _ => (intOf y).toNat)
  case atStart => exact ⟨_, _, rfl, rfl, by omega, by omega, by omega, by omega, hA.out, Ext.refl w⟩
  case round =>
    obtain ⟨p, q, rfl, rfl, hp0, hp1, hq0, hq1, hg, hx⟩ := hrel
    have HG := Lib.hid hg
    clear hg
    by_cases hq : q = 0
    · subst hq
      go_wp2
      go_ret
      exact ⟨ret_int (by rw [← HG.out, gcd_zero' p hp0]), hx⟩
    · have hqp : 0 < q := by omega
      have hm := emod_small p q hp0 hqp
      have hs := Lib.hid (gcd_step p q hp0 hqp)
      have hq' : (q == 0) = false := by simp; omega
      go_wp2
      go_quiet (fail)
      go_wp2
      refine ⟨⟨_, _, rfl, rfl, by omega, by omega, by omega, by omega, by rw [hs.out, HG.out], hx.drewN _⟩, by simp [intOf]; omega⟩

theorem RSize_any (n : Int) (w : World) (h1 : -2147483648 ≤ n) : Calls Tryd.prog 101 #[.int .i64 n] w fun e w' => e = .returned (.int .i64 (max n (-n))) ∧ w = w' := by
  by_cases h : n < 0
  · go_enter Tryd.func101, Tryd.ntmps101
    go_wp2
    go_ret
    exact ⟨ret_int (by omega), rfl⟩
  · go_enter Tryd.func101, Tryd.ntmps101
    go_wp2
    go_ret
    exact ⟨ret_int (by omega), rfl⟩
end Go.Proofs.YtffianmhojiomaaDoor
