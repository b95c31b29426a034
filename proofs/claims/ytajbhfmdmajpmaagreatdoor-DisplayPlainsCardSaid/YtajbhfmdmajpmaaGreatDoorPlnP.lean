/- The text of an accepted screen: what Check says; rows of the text. No program in sight. -/
import Derived.Test.YtajbhfmdmajpmaaGreatDoorTxtP
import Derived.Test.YtajbhfmdmajpmaaGreatDoorPk10
namespace Go.Proofs.YtajbhfmdmajpmaaGreatDoor
set_option linter.unusedVariables false
set_option linter.unusedSimpArgs false

theorem glsLoop_inv : ∀ {l : List Gl} {p : Option Gl}, glsLoop p l = 0 → (∀ g ∈ l, g.ok ∧ 0 ≤ idx g.ch) ∧ Asc l ∧ ∀ q, p = some q → ∀ g ∈ l, q.cell < g.cell
  | [], p, _ => ⟨by simp, by simp [Asc], by simp⟩
  | g :: l, p, h => by
    unfold glsLoop at h
    split at h
    · simp at h
    · rename_i h1
      split at h
      · simp at h
      · rename_i h2
        split at h
        · simp at h
        · split at h
          · simp at h
          · rename_i h4
            obtain ⟨k1, k2, k3⟩ := glsLoop_inv h
            have hch : g.ch ≠ 0 := by
              intro e
              exact h2 (.inr (by rw [e]; exact idx_zero))
            have hall : ∀ x ∈ l, g.cell < x.cell := k3 g rfl
            refine ⟨fun x hx => ?_, ?_, fun q hq x hx => ?_⟩
            · rcases List.mem_cons.1 hx with rfl | hx
              · exact ⟨⟨by omega, by omega, by omega, by omega, hch⟩, by omega⟩
              · exact k1 x hx
            · unfold Asc at k2 ⊢
              exact List.pairwise_cons.2 ⟨hall, k2⟩
            · subst hq
              have hqg : q.cell < g.cell := by
                simp only [Option.map_some, Option.some.injEq, decide_eq_true_eq] at h4
                omega
              rcases List.mem_cons.1 hx with rfl | hx
              · exact hqg
              · have := hall x hx; omega
theorem glsErr_inv {l : List Gl} (h : glsErr l = 0) : (∀ g ∈ l, g.ok ∧ 0 ≤ idx g.ch) ∧ Asc l ∧ l.length ≤ 480 := by
  unfold glsErr at h
  split at h
  · simp at h
  · obtain ⟨h1, h2, -⟩ := glsLoop_inv h
    exact ⟨h1, h2, by omega⟩
theorem placeL_mem {r : Int} : ∀ {l : List Int} {k : Nat}, 0 ≤ placeL r l k → r ∈ l
  | [], k, h => by simp [placeL] at h
  | a :: l, k, h => by
    unfold placeL at h
    split at h
    · rename_i e; simp [e]
    · exact List.mem_cons_of_mem _ (placeL_mem h)
theorem all_small : ∀ r ∈ runes allBytes 0, 0 ≤ r ∧ r ≤ 65535 := by decide +kernel
theorem idx_small {r : Int} (h : 0 ≤ idx r) : 0 ≤ r ∧ r ≤ 65535 := by
  unfold idx at h
  split at h
  · omega
  · exact all_small r (placeL_mem h)
theorem charAt_small {l : List Gl} (h : ∀ g ∈ l, g.ok ∧ 0 ≤ idx g.ch) (i : Nat) : 0 ≤ charAt l i ∧ charAt l i ≤ 65535 := by
  unfold charAt
  cases hf : l.find? fun g => decide (g.cell = (i : Int)) with
  | none => simp
  | some g => exact idx_small (h g (List.mem_of_find?_eq_some hf)).2
/-- what Plain returns -/
def plainT (l : List Gl) : ByteArray := if glsErr l = 0 then txtOf l else ⟨#[]⟩
theorem take_snocP {α : Type} (l : List α) (k : Nat) (x : α) (hx : l[k]? = some x) : l.take (k + 1) = l.take k ++ [x] := by
  have hkl := (List.getElem?_eq_some_iff.1 hx).1
  rw [List.take_succ_eq_append_getElem hkl, (List.getElem?_eq_some_iff.1 hx).2]
theorem chGrid_snoc {l : List Gl} {k : Nat} {g : Gl} (h : l[k]? = some g) : chGrid (l.take (k + 1)) = (chGrid (l.take k)).set g.cell.toNat g.ch := by
  rw [take_snocP l k g h]
  unfold chGrid
  rw [List.foldl_append]
  rfl
/-- the characters of a row up to a column -/
def rowTxt (l : List Gl) (r c : Nat) : List UInt8 := (List.range c).flatMap fun j => Lib.encodeRune (charAt l (r * 32 + j))
theorem rowTxt_succ (l : List Gl) (r c : Nat) : rowTxt l r (c + 1) = rowTxt l r c ++ Lib.encodeRune (charAt l (r * 32 + c)) := by
  unfold rowTxt
  rw [List.range_succ, List.flatMap_append]
  simp
theorem txt_row (l : List Gl) (r : Nat) : ∀ c, c ≤ 31 → txtTo l (r * 32 + c) = txtTo l (r * 32) ++ rowTxt l r c
  | 0, _ => by simp [rowTxt]
  | c + 1, h => by
    have h1 := txt_row l r c (by omega)
    rw [show r * 32 + (c + 1) = (r * 32 + c) + 1 by omega, txt_succ, h1, rowTxt_succ, if_neg (by omega), List.append_nil, List.append_assoc]
theorem txt_rowend (l : List Gl) (r : Nat) : txtTo l ((r + 1) * 32) = txtTo l (r * 32) ++ rowTxt l r 32 ++ [10] := by
  rw [show (r + 1) * 32 = (r * 32 + 31) + 1 by omega, txt_succ, txt_row l r 31 (Nat.le_refl _), rowTxt_succ l r 31, if_pos (by omega)]
  simp only [List.append_assoc]
theorem rowTxt_len (l : List Gl) (r : Nat) : ∀ c, (rowTxt l r c).length ≤ 4 * c
  | 0 => by simp [rowTxt]
  | c + 1 => by
    have h1 := rowTxt_len l r c
    have h2 := (enc_len (charAt l (r * 32 + c))).2
    rw [rowTxt_succ, List.length_append]
    omega
end Go.Proofs.YtajbhfmdmajpmaaGreatDoor
