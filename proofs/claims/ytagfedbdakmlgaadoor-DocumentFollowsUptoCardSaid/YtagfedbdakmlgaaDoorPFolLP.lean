/- What the law on Follow asks, plainly. -/
import Derived.Test.YtagfedbdakmlgaaDoorPk17
namespace Go.Proofs.YtagfedbdakmlgaaDoor
set_option linter.unusedVariables false
set_option linter.unusedSimpArgs false
open Go.RowKit

section
variable {n m p s : Nat} {F T i : Int}
/-- a character that stays -/
def kept (n p s : Nat) (i : Int) : Prop := i < p ∨ (n : Int) - s ≤ i
def atOf (n m p : Nat) (i : Int) : Int := if (p : Int) ≤ i then i + m - n else i
theorem wfrom_eq (h1 : n ≤ 35184372088831) (h2 : m ≤ 35184372088831) (hF : 0 ≤ F) (hF2 : F ≤ n) : wfrom n m p s F = if (n : Int) - s ≤ F then F + (m - n) else if F < p then F else (m : Int) - s := by
  unfold wfrom
  rw [IntKind.wrap_i64]
  split
  · omega
  · rfl
theorem wto_eq (h1 : n ≤ 35184372088831) (h2 : m ≤ 35184372088831) (hF : 0 ≤ T) (hF2 : T ≤ n) : wto n m p s T = if T ≤ p then T else if (n : Int) - s < T then T + (m - n) else p := by
  unfold wto
  rw [IntKind.wrap_i64]
  split
  · rfl
  · split
    · omega
    · rfl
theorem kept_in (h1 : n ≤ 35184372088831) (h2 : m ≤ 35184372088831) (e1 : p + s ≤ n) (e2 : p + s ≤ m) (hF : 0 ≤ F) (hFT : F < T) (hT : T ≤ n) (hk : kept n p s i) (i1 : F ≤ i) (i2 : i < T) : wfrom n m p s F ≤ atOf n m p i ∧ atOf n m p i < wto n m p s T ∧ 0 ≤ atOf n m p i ∧ atOf n m p i < m := by
  rw [wfrom_eq h1 h2 hF (by omega), wto_eq h1 h2 (by omega) hT]
  unfold kept at hk
  unfold atOf
  repeat' split
  all_goals omega
theorem lost_none (h1 : n ≤ 35184372088831) (h2 : m ≤ 35184372088831) (e1 : p + s ≤ n) (e2 : p + s ≤ m) (hF : 0 ≤ F) (hFT : F < T) (hT : T ≤ n) (hl : wto n m p s T ≤ wfrom n m p s F) (i1 : F ≤ i) (i2 : i < T) : ¬ kept n p s i := fun hk => by
  have := kept_in h1 h2 e1 e2 hF hFT hT hk i1 i2
  omega
theorem some_kept (h1 : n ≤ 35184372088831) (h2 : m ≤ 35184372088831) (e1 : p + s ≤ n) (e2 : p + s ≤ m) (hF : 0 ≤ F) (hFT : F < T) (hT : T ≤ n) (hl : ¬ wto n m p s T ≤ wfrom n m p s F) : kept n p s F ∨ kept n p s (T - 1) := by
  rw [wfrom_eq h1 h2 hF (by omega), wto_eq h1 h2 (by omega) hT] at hl
  unfold kept
  repeat' split at hl
  all_goals omega
theorem kept_bd (h1 : n ≤ 35184372088831) (h2 : m ≤ 35184372088831) (e1 : p + s ≤ n) (e2 : p + s ≤ m) (hF : 0 ≤ F) (hFT : F < T) (hT : T ≤ n) : 0 ≤ wfrom n m p s F ∧ wto n m p s T ≤ m := by
  rw [wfrom_eq h1 h2 hF (by omega), wto_eq h1 h2 (by omega) hT]
  repeat' split
  all_goals omega
end
/-- a character that stays is the same at its new place -/
theorem kept_same (a b : List Int) {i : Nat} (hi : i < a.length) (hk : kept a.length (Mv.pre a b) (Mv.suf a b (Mv.pre a b)) i) : b[(atOf a.length b.length (Mv.pre a b) i).toNat]? = a[i]? := by
  have he := Mv.ends a b
  unfold kept at hk
  unfold atOf
  by_cases hp : (Mv.pre a b : Int) ≤ i
  · rw [if_pos hp]
    have h1 := Mv.suf_eq (a := a) (b := b) (p := Mv.pre a b) (k := a.length - 1 - i) (by omega)
    rw [show a.length - 1 - (a.length - 1 - i) = i by omega] at h1
    rw [h1]
    congr 1
    omega
  · rw [if_neg hp]
    rw [show ((i : Int)).toNat = i by omega]
    exact (Mv.pre_eq a b i (by omega)).symm
end Go.Proofs.YtagfedbdakmlgaaDoor
