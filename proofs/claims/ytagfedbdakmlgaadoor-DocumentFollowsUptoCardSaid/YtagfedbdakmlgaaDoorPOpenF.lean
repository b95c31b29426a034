/- A move and a comment, opened. -/
import Derived.Test.YtagfedbdakmlgaaDoorPk21
namespace Go.Proofs.YtagfedbdakmlgaaDoor
set_option linter.unusedVariables false
set_option linter.unusedSimpArgs false
open Go.RowKit Go.ChangeShapes Go.WideShapes Go.ChangeAt
set_option maxRecDepth 100000
theorem cells_move : Tryd.prog.cellsOf 29 = 4 := by kernel_rfl
theorem cells_bool8 : Tryd.prog.cellsOf 4 = 1 := by kernel_rfl
theorem argK_move {H : Type} {enc : TypeId × Value → H} {W : World} {base : Nat} {v : Value} {d : DataW H} {p : List MemPlace} (hv : Value.okWide Tryd.prog W .any base 29 v) (h : DataW.Trod enc Tryd.prog W 0 (fun _ => true) true 29 v d p)
    (hw : ∀ n ∈ d.weights Tryd.prog 29, n ≤ reachBytes) (hk : Rows.uptoBulk d ≤ 1048576) : ∃ (fr til : Int) (a b : ByteArray), v = .agg #[.int .i64 fr, .int .i64 til, .string a, .string b] ∧ a.size ≤ 1048576 ∧ b.size ≤ 1048576 := by
  obtain ⟨cs, rfl⟩ := agg_of_cells Tryd.underlying29 hv
  obtain ⟨fuel, h⟩ := h
  obtain ⟨hl, ks, hks, hkl, hf⟩ := OpensK.fields Tryd.underlying29 h hw
  rw [cells_move] at hl
  obtain ⟨v0, v1, v2, v3, he⟩ := list_4 hl
  obtain ⟨k0, k1, k2, k3, rfl⟩ := list_4 (by simpa using hkl)
  obtain ⟨a0, h0, s0⟩ := hf 0 _ rfl (OpensK.of (Opens.int Tryd.underlying3))
  obtain ⟨a1, h1, s1⟩ := hf 1 _ rfl (OpensK.of (Opens.int Tryd.underlying3))
  obtain ⟨a2, h2, s2⟩ := hf 2 _ rfl (OpensK.string Tryd.underlying9)
  obtain ⟨a3, h3, s3⟩ := hf 3 _ rfl (OpensK.string Tryd.underlying9)
  rw [he] at h0 h1 h2 h3
  simp [cells_int, cells_string] at h0 h1 h2 h3 s2 s3 hks
  subst h0 h1 h2 h3
  refine ⟨a0, a1, a2, a3, ?_, by omega, by omega⟩
  have : cs = #[.int .i64 a0, .int .i64 a1, .string a2, .string a3] := Array.toList_inj.1 he
  rw [this]
theorem arg_com {H : Type} {enc : TypeId × Value → H} {W : World} {base : Nat} {v : Value} {d : DataW H} {p : List MemPlace} (hv : Value.okWide Tryd.prog W .any base 31 v) (h : DataW.Trod enc Tryd.prog W 0 (fun _ => true) true 31 v d p)
    (hw : ∀ n ∈ d.weights Tryd.prog 31, n ≤ reachBytes) : ∃ c : Com, v = .agg c.vals.toArray := by
  obtain ⟨cs, rfl⟩ := agg_of_cells Tryd.underlying31 hv
  obtain ⟨fuel, h⟩ := h
  obtain ⟨hl, hf⟩ := Opens.fields Tryd.underlying31 h hw
  rw [cells_comment] at hl
  obtain ⟨v0, v1, v2, v3, v4, v5, v6, v7, he⟩ := list_8 hl
  obtain ⟨a0, h0, s0⟩ := hf 0 _ rfl (Opens.int Tryd.underlying2)
  obtain ⟨a1, h1, s1⟩ := hf 1 _ rfl (Opens.int Tryd.underlying2)
  obtain ⟨a2, h2, s2⟩ := hf 2 _ rfl (Opens.int Tryd.underlying3)
  obtain ⟨a3, h3, s3⟩ := hf 3 _ rfl (Opens.int Tryd.underlying3)
  obtain ⟨a4, h4, s4⟩ := hf 4 _ rfl (Opens.string Tryd.underlying9)
  obtain ⟨a5, h5, s5⟩ := hf 5 _ rfl (Opens.string Tryd.underlying9)
  obtain ⟨a6, h6⟩ := hf 6 _ rfl (Opens.bool Tryd.underlying4)
  obtain ⟨a7, h7⟩ := hf 7 _ rfl (Opens.bool Tryd.underlying4)
  rw [he] at h0 h1 h2 h3 h4 h5 h6 h7
  simp [cells_int64, cells_int, cells_string, cells_bool8] at h0 h1 h2 h3 h4 h5 h6 h7
  subst h0 h1 h2 h3 h4 h5 h6 h7
  refine ⟨⟨a0, a1, a2, a3, a4, a5, a6, a7⟩, ?_⟩
  have : cs = #[.int .i64 a0, .int .i64 a1, .int .i64 a2, .int .i64 a3, .string a4, .string a5, .bool a6, .bool a7] := Array.toList_inj.1 he
  rw [this]
  rfl
end Go.Proofs.YtagfedbdakmlgaaDoor
