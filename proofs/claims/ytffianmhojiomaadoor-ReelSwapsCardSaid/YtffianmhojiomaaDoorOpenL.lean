/- Lists of cuts among the arguments, opened. -/
import Derived.Test.YtffianmhojiomaaDoorOpenG
import Derived.Test.YtffianmhojiomaaDoorAt
namespace Go.Proofs.YtffianmhojiomaaDoor
set_option linter.unusedVariables false
set_option linter.unusedSimpArgs false
open Go.RowKit Go.ChangeShapes Go.WideShapes Go.ChangeAt
set_option maxRecDepth 100000
theorem cells_rate : Tryd.prog.cellsOf 22 = 1 := by kernel_rfl
theorem cells_ratio : Tryd.prog.cellsOf 65 = 2 := by kernel_rfl
theorem cells_cut : Tryd.prog.cellsOf 67 = 7 := by kernel_rfl
theorem cells_cuts : Tryd.prog.cellsOf 23 = 1 := by kernel_rfl
theorem cells_list : Tryd.prog.cellsOf 25 = 4 := by kernel_rfl
theorem bytes_cut : Tryd.prog.bytesOf 67 = 64 := by kernel_rfl
theorem open_ratio (W : World) : Opens Tryd.prog W 65 (fun cs (a : Int × Int) => cs = [.int .i64 a.1, .int .i64 a.2] ∧ I64 a.1 ∧ I64 a.2) := by
  intro H enc fuel cs x h hw
  obtain ⟨hl, hf⟩ := Opens.fields Tryd.underlying65 h hw
  rw [cells_ratio] at hl
  obtain ⟨v0, v1, rfl⟩ := list_2 hl
  obtain ⟨a0, h0, s0⟩ := hf 0 _ rfl (Opens.int Tryd.underlying2)
  obtain ⟨a1, h1, s1⟩ := hf 1 _ rfl (Opens.int Tryd.underlying2)
  simp [cells_int64] at h0 h1
  subst h0 h1
  exact ⟨(a0, a1), rfl, bounds_i64 s0, bounds_i64 s1⟩
theorem open_cut7 (W : World) : Opens Tryd.prog W 67 (fun cs (c : Cut) => cs = c.vals ∧ c.Fits) := by
  intro H enc fuel cs x h hw
  obtain ⟨hl, hf⟩ := Opens.fields Tryd.underlying67 h hw
  rw [cells_cut] at hl
  obtain ⟨v0, v1, v2, v3, v4, v5, v6, rfl⟩ := list_7 hl
  obtain ⟨a0, h0, s0⟩ := hf 0 _ rfl (Opens.int Tryd.underlying3)
  obtain ⟨a1, h1, s1⟩ := hf 1 _ rfl (Opens.string Tryd.underlying9)
  obtain ⟨a2, h2, s2⟩ := hf 2 _ rfl (Opens.int Tryd.underlying2)
  obtain ⟨⟨a3, a4⟩, h3, s3, s4⟩ := hf 3 _ rfl (open_span W)
  obtain ⟨⟨a5, a6⟩, h5, s5, s6⟩ := hf 4 _ rfl (open_ratio W)
  simp [cells_int64, cells_int, cells_string, cells_span, cells_ratio] at h0 h1 h2 h3 h5
  obtain ⟨h3, h4⟩ := h3
  obtain ⟨h5, h6⟩ := h5
  subst h0 h1 h2 h3 h4 h5 h6
  exact ⟨⟨a0, a1, a2, a3, a4, a5, a6⟩, rfl, bounds_i64 s0, bounds_i64 s2, s3, s4, s5, s6, s1⟩
theorem mem_cut7 {w : World} {b o : Nat} {c : Cut} (h : Mem (fun cs (c : Cut) => cs = c.vals ∧ c.Fits) w b o c) : Cells Cut.vals w b o c ∧ c.Fits := by
  obtain ⟨cs, h1, rfl, h2⟩ := h
  exact ⟨fun j u hu => h1 j u hu, h2⟩
theorem open_list (W : World) : Opens Tryd.prog W 25 (fun cs (e : Edl) => (∃ A n c, cs = (e.cells A n c).toList ∧ CutsAt W A n e.cuts ∧ n ≤ c ∧ c ≤ maxLen) ∧ EdlOk e) := by
  intro H enc fuel cs x h hw
  obtain ⟨hl, hf⟩ := Opens.fields Tryd.underlying25 h hw
  rw [cells_list] at hl
  obtain ⟨v0, v1, v2, v3, rfl⟩ := list_4 hl
  obtain ⟨a0, h0, s0⟩ := hf 0 _ rfl (Opens.string Tryd.underlying9)
  obtain ⟨a1, h1, s1⟩ := hf 1 _ rfl (Opens.int Tryd.underlying22)
  obtain ⟨a2, h2⟩ := hf 2 _ rfl (Opens.bool Tryd.underlying4)
  obtain ⟨l, h3⟩ := hf 3 _ rfl (R := fun cs (l : List Cut) => (∃ A n c, cs = [.slice A n c] ∧ n ≤ c ∧ c ≤ maxLen ∧ CutsAt W A n l) ∧ ∀ x ∈ l, x.Fits) (fun H enc fuel cs x h hw => by
    obtain ⟨A, n, c, l, rfl, hnc, hcm, hb, hs⟩ := Opens.slice Tryd.underlying23 cells_cut (by decide) bytes_cut (open_cut7 W) h hw
    exact ⟨l, ⟨A, n, c, rfl, hnc, hcm, Sl.change hs fun _ _ _ hm => (mem_cut7 hm).1⟩, hs.all fun _ _ _ hm => (mem_cut7 hm).2⟩)
  simp [cells_string, cells_rate, cells_bool, cells_cuts] at h0 h1 h2 h3
  obtain ⟨⟨A, n, c, h3, hnc, hcm, hr⟩, hfit⟩ := h3
  subst h0 h1 h2 h3
  exact ⟨⟨a0, a1, a2, l⟩, ⟨A, n, c, rfl, hr, hnc, hcm⟩, (bounds_u8 s1).1, (bounds_u8 s1).2, s0, hfit⟩
/-- an argument that is a list of cuts -/
theorem arg_list {H : Type} {enc : TypeId × Value → H} {W : World} {base : Nat} {v : Value} {d : DataW H} {p : List MemPlace} (hv : Value.okWide Tryd.prog W .any base 25 v) (h : DataW.Trod enc Tryd.prog W 0 (fun _ => true) true 25 v d p)
    (hw : ∀ n ∈ d.weights Tryd.prog 25, n ≤ reachBytes) : ∃ e A n c, v = .agg (e.cells A n c) ∧ CutsAt W A n e.cuts ∧ n ≤ c ∧ c ≤ maxLen ∧ EdlOk e := by
  obtain ⟨cs, rfl⟩ := agg_of_cells Tryd.underlying25 hv
  obtain ⟨fuel, h⟩ := h
  obtain ⟨e, ⟨A, n, c, hc, hat, hnc, hcm⟩, hf⟩ := open_list W H enc fuel _ _ h hw
  refine ⟨e, A, n, c, ?_, hat, hnc, hcm, hf⟩
  have : cs = e.cells A n c := Array.toList_inj.1 hc
  rw [this]
/-- an argument that is a number -/
theorem arg_int64 {H : Type} {enc : TypeId × Value → H} {W : World} {base : Nat} {v : Value} {d : DataW H} {p : List MemPlace} (hv : Value.okWide Tryd.prog W .any base 2 v) (h : DataW.Trod enc Tryd.prog W 0 (fun _ => true) true 2 v d p)
    (hw : ∀ n ∈ d.weights Tryd.prog 2, n ≤ reachBytes) : ∃ k : Int, v = .int .i64 k ∧ I64 k := by
  obtain ⟨fuel, h⟩ := h
  obtain ⟨a, ha, hb⟩ := Opens.int Tryd.underlying2 H enc fuel _ _ h hw
  unfold Value.okWide at hv
  rw [Tryd.underlying2] at hv
  cases v with
  | agg cs => exact absurd hv (by unfold Cell.okWide; rw [Tryd.underlying2]; simp [Cell.ok])
  | _ => first | (refine ⟨a, ?_, bounds_i64 hb⟩; exact (List.cons.inj ha).1) | (simp at hv; done)
/-- an argument that is a string -/
theorem arg_string {H : Type} {enc : TypeId × Value → H} {W : World} {base : Nat} {v : Value} {d : DataW H} {p : List MemPlace} (hv : Value.okWide Tryd.prog W .any base 9 v) (h : DataW.Trod enc Tryd.prog W 0 (fun _ => true) true 9 v d p)
    (hw : ∀ n ∈ d.weights Tryd.prog 9, n ≤ reachBytes) : ∃ s : ByteArray, v = .string s ∧ s.size ≤ 140737488351232 := by
  obtain ⟨fuel, h⟩ := h
  obtain ⟨a, ha, hb⟩ := Opens.string Tryd.underlying9 H enc fuel _ _ h hw
  unfold Value.okWide at hv
  rw [Tryd.underlying9] at hv
  cases v with
  | agg cs => exact absurd hv (by unfold Cell.okWide; rw [Tryd.underlying9]; simp [Cell.ok])
  | _ => first | (refine ⟨a, ?_, hb⟩; exact (List.cons.inj ha).1) | (simp at hv; done)
def wlist {H : Type} : DataW H := .agg [.lit (.string []), .lit (.int .u8 0), .lit (.bool false), .nil]
end Go.Proofs.YtffianmhojiomaaDoor
