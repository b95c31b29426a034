/- Plain functions on strings and runes: no program in sight. -/
import Derived.Laws.RangeAny
namespace Go.Proofs.YtffianmhojiomaaDoor
set_option linter.unusedVariables false
set_option linter.unusedSimpArgs false

theorem dec_pos (s : ByteArray) (pos : Nat) (h : pos < s.size) : 1 ≤ (Utf8.decode s pos).2 := by
  by_cases ha : (s[pos]'h).toNat < 128
  · rw [decode_ascii s pos h ha]; exact Nat.le_refl _
  · exact (decode_high s pos h (by omega)).2

def runesAt (s : ByteArray) : Nat → Nat → List Int
  | 0, _ => []
  | f + 1, pos => if pos < s.size then ((Utf8.decode s pos).1 : Int) :: runesAt s f (pos + (Utf8.decode s pos).2) else []
/-- the runes of a string from a place on -/
def runes (s : ByteArray) (pos : Nat) : List Int := runesAt s (s.size - pos) pos

theorem runesAt_fuel (s : ByteArray) : ∀ (f g pos : Nat), s.size - pos ≤ f → s.size - pos ≤ g → runesAt s f pos = runesAt s g pos
  | 0, 0, _, _, _ => rfl
  | 0, g + 1, pos, h, _ => by simp only [runesAt]; rw [if_neg (by omega)]
  | f + 1, 0, pos, _, h => by simp only [runesAt]; rw [if_neg (by omega)]
  | f + 1, g + 1, pos, hf, hg => by
    simp only [runesAt]
    by_cases h : pos < s.size
    · have hw := dec_pos s pos h
      rw [if_pos h, if_pos h, runesAt_fuel s f g _ (by omega) (by omega)]
    · rw [if_neg h, if_neg h]
theorem runes_step (s : ByteArray) (pos : Nat) (h : pos < s.size) : runes s pos = ((Utf8.decode s pos).1 : Int) :: runes s (pos + (Utf8.decode s pos).2) := by
  have hw := dec_pos s pos h
  obtain ⟨f, hf⟩ : ∃ f, s.size - pos = f + 1 := ⟨s.size - pos - 1, by omega⟩
  unfold runes
  rw [hf]
  simp only [runesAt]
  rw [if_pos h, runesAt_fuel s f (s.size - (pos + (Utf8.decode s pos).2)) _ (by omega) (Nat.le_refl _)]
theorem runes_end (s : ByteArray) (pos : Nat) (h : ¬ pos < s.size) : runes s pos = [] := by
  unfold runes
  rw [Nat.sub_eq_zero_of_le (by omega)]
  rfl

/-- the index of a rune in a list, counted from n on; -1 if it is not there -/
def placeL (r : Int) : List Int → Int → Int
  | [], _ => -1
  | x :: l, n => if x = r then n else placeL r l (n + 1)

theorem placeL_ge (r : Int) : ∀ (l : List Int) (n : Int), 0 ≤ n → placeL r l n = -1 ∨ (n ≤ placeL r l n ∧ placeL r l n < n + l.length)
  | [], _, _ => .inl rfl
  | x :: l, n, h => by
    unfold placeL
    by_cases hx : x = r
    · rw [if_pos hx]; exact .inr ⟨by omega, by simp only [List.length_cons]; omega⟩
    · rw [if_neg hx]
      rcases placeL_ge r l (n + 1) (by omega) with h1 | h1
      · exact .inl h1
      · exact .inr ⟨by omega, by simp only [List.length_cons]; omega⟩

end Go.Proofs.YtffianmhojiomaaDoor
