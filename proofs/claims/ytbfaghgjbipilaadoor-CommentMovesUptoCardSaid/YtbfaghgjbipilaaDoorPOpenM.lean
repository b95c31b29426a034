/- A short string and two numbers, opened. -/
import Derived.Test.YtbfaghgjbipilaaDoorPk16
namespace Go.Proofs.YtbfaghgjbipilaaDoor
set_option linter.unusedVariables false
set_option linter.unusedSimpArgs false
open Go.RowKit Go.ChangeShapes Go.WideShapes Go.ChangeAt
set_option maxRecDepth 100000
theorem argK_string {H : Type} {enc : TypeId × Value → H} {W : World} {base : Nat} {v : Value} {d : DataW H} {p : List MemPlace} (hv : Value.okWide Tryd.prog W .any base 9 v) (h : DataW.Trod enc Tryd.prog W 0 (fun _ => true) true 9 v d p)
    (hw : ∀ n ∈ d.weights Tryd.prog 9, n ≤ reachBytes) (hk : Rows.uptoBulk d ≤ 1048576) : ∃ s : ByteArray, v = .string s ∧ s.size ≤ 1048576 := by
  obtain ⟨fuel, h⟩ := h
  obtain ⟨a, ha, hb⟩ := OpensK.string Tryd.underlying9 H enc fuel _ _ h hw
  have hb' : a.size ≤ 1048576 := by simp only at hb; omega
  unfold Value.okWide at hv
  rw [Tryd.underlying9] at hv
  cases v with
  | agg cs => exact absurd hv (by unfold Cell.okWide; rw [Tryd.underlying9]; simp [Cell.ok])
  | _ => first | (refine ⟨a, ?_, hb'⟩; exact (List.cons.inj ha).1) | (simp at hv; done)
/-- an argument that is two numbers -/
theorem arg_ints {H : Type} {enc : TypeId × Value → H} {W : World} {base : Nat} {v : Value} {d : DataW H} {p : List MemPlace} (hv : Value.okWide Tryd.prog W .any base 71 v) (h : DataW.Trod enc Tryd.prog W 0 (fun _ => true) true 71 v d p)
    (hw : ∀ n ∈ d.weights Tryd.prog 71, n ≤ reachBytes) : ∃ a b : Int, v = .agg #[.int .i64 a, .int .i64 b] ∧ IW a ∧ IW b := by
  obtain ⟨cs, rfl⟩ := agg_of_array Tryd.underlying71 hv
  obtain ⟨fuel, h⟩ := h
  obtain ⟨hl, hf⟩ := Opens.array Tryd.underlying71 h hw
  rw [show Tryd.prog.cellsOf 71 = 2 by kernel_rfl] at hl
  obtain ⟨v0, v1, he⟩ := list_2 hl
  obtain ⟨a0, h0, s0⟩ := hf 0 (by decide) (Opens.int Tryd.underlying3)
  obtain ⟨a1, h1, s1⟩ := hf 1 (by decide) (Opens.int Tryd.underlying3)
  rw [he] at h0 h1
  simp [cells_int] at h0 h1
  subst h0 h1
  refine ⟨a0, a1, ?_, bounds_i64 s0, bounds_i64 s1⟩
  have : cs = #[.int .i64 a0, .int .i64 a1] := Array.toList_inj.1 he
  rw [this]
end Go.Proofs.YtbfaghgjbipilaaDoor
