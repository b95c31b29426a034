/- Events among the arguments, opened; the environment out of the row's list; what the frame of a law asks behind the call. -/
import Derived.Test.YtaocjfneglgmjaaDoorPk15
import Derived.Test.YtaocjfneglgmjaaDoorPk03
import Derived.Test.YtaocjfneglgmjaaDoorPk05
import Derived.Test.YtaocjfneglgmjaaDoorShelf
import Derived.Lib.LaidU8T
import Derived.Deep.DeepHandedRow
import Derived.Lib.LaidTab
namespace Go.Proofs.YtaocjfneglgmjaaDoor
set_option linter.unusedVariables false
set_option linter.unusedSimpArgs false
open Go.RowKit Go.ChangeShapes Go.WideShapes Go.ChangeAt
set_option maxRecDepth 100000

theorem cells_color : Tryd.prog.cellsOf 55 = 1 := by kernel_rfl
theorem cells_style : Tryd.prog.cellsOf 57 = 3 := by kernel_rfl
theorem cells_run : Tryd.prog.cellsOf 59 = 5 := by kernel_rfl
theorem cells_row : Tryd.prog.cellsOf 62 = 1 := by kernel_rfl
theorem cells_runs : Tryd.prog.cellsOf 60 = 1 := by kernel_rfl
theorem cells_rows : Tryd.prog.cellsOf 44 = 1 := by kernel_rfl
theorem cells_kind : Tryd.prog.cellsOf 43 = 1 := by kernel_rfl
theorem cells_event : Tryd.prog.cellsOf 46 = 7 := by kernel_rfl
theorem bytes_run : Tryd.prog.bytesOf 59 = 40 := by kernel_rfl
theorem bytes_row : Tryd.prog.bytesOf 62 = 24 := by kernel_rfl

/-- a run that came in -/
def Run.Fits (r : Run) : Prop := r.text.size ≤ 140737488351232 ∧ r.ruby.size ≤ 140737488351232 ∧ 0 ≤ r.color ∧ r.color ≤ 255
theorem open_style (W : World) : Opens Tryd.prog W 57 (fun cs (a : Int × Bool × Bool) => cs = [.int .u8 a.1, .bool a.2.1, .bool a.2.2] ∧ 0 ≤ a.1 ∧ a.1 ≤ 255) := by
  intro H enc fuel cs x h hw
  obtain ⟨hl, hf⟩ := Opens.fields Tryd.underlying57 h hw
  rw [cells_style] at hl
  obtain ⟨v0, v1, v2, rfl⟩ := list_3 hl
  obtain ⟨a0, h0, s0⟩ := hf 0 _ rfl (Opens.int Tryd.underlying55)
  obtain ⟨a1, h1⟩ := hf 1 _ rfl (Opens.bool Tryd.underlying4)
  obtain ⟨a2, h2⟩ := hf 2 _ rfl (Opens.bool Tryd.underlying4)
  simp [cells_color, cells_bool] at h0 h1 h2
  subst h0 h1 h2
  exact ⟨(a0, a1, a2), rfl, bounds_u8 s0⟩
theorem open_run (W : World) : Opens Tryd.prog W 59 (fun cs (r : Run) => cs = [.string r.text, .int .u8 r.color, .bool r.italic, .bool r.under, .string r.ruby] ∧ r.Fits) := by
  intro H enc fuel cs x h hw
  obtain ⟨hl, hf⟩ := Opens.fields Tryd.underlying59 h hw
  rw [cells_run] at hl
  obtain ⟨v0, v1, v2, v3, v4, rfl⟩ := list_5 hl
  obtain ⟨a0, h0, s0⟩ := hf 0 _ rfl (Opens.string Tryd.underlying9)
  obtain ⟨⟨a1, a2, a3⟩, h1, s1⟩ := hf 1 _ rfl (open_style W)
  obtain ⟨a4, h4, s4⟩ := hf 2 _ rfl (Opens.string Tryd.underlying9)
  simp [cells_string, cells_style] at h0 h1 h4
  obtain ⟨h1, h2, h3⟩ := h1
  subst h0 h1 h2 h3 h4
  exact ⟨⟨a0, a1, a2, a3, a4⟩, rfl, s0, s4, s1⟩
theorem mem_run {w : World} {b o : Nat} {r : Run} (h : Mem (fun cs (r : Run) => cs = [.string r.text, .int .u8 r.color, .bool r.italic, .bool r.under, .string r.ruby] ∧ r.Fits) w b o r) : RunC w b o r ∧ r.Fits := by
  obtain ⟨cs, h1, rfl, h2⟩ := h
  exact ⟨⟨h1 0 _ rfl, h1 1 _ rfl, h1 2 _ rfl, h1 3 _ rfl, h1 4 _ rfl⟩, h2⟩
/-- a row that came in -/
def RowFits (r : Row) : Prop := (∀ x ∈ r, x.Fits) ∧ r.length * 40 ≤ 140737488351232
theorem open_row (W : World) : Opens Tryd.prog W 62 (fun cs (r : Row) => (∃ A n c, cs = [.slice A n c] ∧ n ≤ c ∧ n * 40 ≤ 140737488355328 ∧ RunsAt W A n r) ∧ RowFits r) := by
  intro H enc fuel cs x h hw
  obtain ⟨hl, hf⟩ := Opens.fields Tryd.underlying62 h hw
  rw [cells_row] at hl
  obtain ⟨v0, rfl⟩ := list_1 hl
  obtain ⟨r, h0⟩ := hf 0 _ rfl (R := fun cs (r : Row) => (∃ A n c, cs = [.slice A n c] ∧ n ≤ c ∧ n * 40 ≤ 140737488355328 ∧ RunsAt W A n r) ∧ RowFits r) (fun H enc fuel cs x h hw => by
    obtain ⟨A, n, c, l, rfl, hnc, _, hb, hs⟩ := Opens.slice Tryd.underlying60 cells_run (by decide) bytes_run (open_run W) h hw
    have hn : n * 40 ≤ 140737488351232 := by simp only [reachBytes] at hb; omega
    exact ⟨l, ⟨A, n, c, rfl, hnc, by omega, Sl.change hs fun _ _ _ hm => (mem_run hm).1⟩, hs.all fun _ _ _ hm => (mem_run hm).2, by rw [hs.len]; exact hn⟩)
  simp [cells_runs] at h0
  exact ⟨r, by simpa using h0⟩
theorem mem_row {w W : World} (hw : w = W) {b o : Nat} {r : Row} (h : Mem (fun cs (r : Row) => (∃ A n c, cs = [.slice A n c] ∧ n ≤ c ∧ n * 40 ≤ 140737488355328 ∧ RunsAt W A n r) ∧ RowFits r) w b o r) : RowC w b o r ∧ RowFits r := by
  subst hw
  obtain ⟨cs, h1, ⟨A, n, c, rfl, h2⟩, h3⟩ := h
  exact ⟨⟨A, n, c, h1 0 _ rfl, h2⟩, h3⟩

/-- an event that came in -/
def Ev.Fits (e : Ev) : Prop := e.region.size ≤ 140737488351232 ∧ e.speaker.size ≤ 140737488351232 ∧ (0 ≤ e.kind ∧ e.kind ≤ 255) ∧ (-9223372036854775808 ≤ e.id ∧ e.id ≤ 9223372036854775807) ∧ (-9223372036854775808 ≤ e.inn ∧ e.inn ≤ 9223372036854775807) ∧ (-9223372036854775808 ≤ e.out ∧ e.out ≤ 9223372036854775807) ∧ (∀ r ∈ e.rows, RowFits r) ∧ e.rows.length * 24 ≤ 140737488351232
theorem open_event (W : World) : Opens Tryd.prog W 46 (fun cs (e : Ev) => (∃ A n c, cs = (e.cells A n c).toList ∧ EvAt W e A n c) ∧ e.Fits) := by
  intro H enc fuel cs x h hw
  obtain ⟨hl, hf⟩ := Opens.fields Tryd.underlying46 h hw
  rw [cells_event] at hl
  obtain ⟨v0, v1, v2, v3, v4, v5, v6, rfl⟩ := list_7 hl
  obtain ⟨a0, h0, s0⟩ := hf 0 _ rfl (Opens.int Tryd.underlying2)
  obtain ⟨⟨a1, a2⟩, h1, s1, s2⟩ := hf 1 _ rfl (open_span W)
  obtain ⟨a3, h3, s3⟩ := hf 2 _ rfl (Opens.string Tryd.underlying9)
  obtain ⟨a4, h4, s4⟩ := hf 3 _ rfl (Opens.int Tryd.underlying43)
  obtain ⟨a5, h5, s5⟩ := hf 4 _ rfl (Opens.string Tryd.underlying9)
  obtain ⟨rows, h6⟩ := hf 5 _ rfl (R := fun cs (r : List Row) => (∃ A n c, cs = [.slice A n c] ∧ n ≤ c ∧ n * 24 ≤ 140737488351232 ∧ RowsAt W A n r) ∧ ∀ x ∈ r, RowFits x) (fun H enc fuel cs x h hw => by
    obtain ⟨A, n, c, l, rfl, hnc, _, hb, hs⟩ := Opens.slice Tryd.underlying44 cells_row (by decide) bytes_row (open_row W) h hw
    have hn : n * 24 ≤ 140737488351232 := by simp only [reachBytes] at hb; omega
    exact ⟨l, ⟨A, n, c, rfl, hnc, hn, Sl.change hs fun _ _ _ hm => (mem_row rfl hm).1⟩, hs.all fun _ _ _ hm => (mem_row rfl hm).2⟩)
  simp [cells_int64, cells_string, cells_span, cells_kind, cells_rows] at h0 h1 h3 h4 h5 h6
  obtain ⟨h1, h2⟩ := h1
  obtain ⟨⟨A, n, c, h6, hnc, hn, hr⟩, hfit⟩ := h6
  subst h0 h1 h2 h3 h4 h5 h6
  exact ⟨⟨a0, a1, a2, a3, a4, a5, rows⟩, ⟨A, n, c, rfl, hr, hnc, by omega⟩, s3, s5, bounds_u8 s4, bounds_i64 s0, s1, s2, hfit, by rw [hr.len]; exact hn⟩

/-- an argument that is an event -/
theorem arg_event {H : Type} {enc : TypeId × Value → H} {W : World} {base : Nat} {v : Value} {d : DataW H} {p : List MemPlace} (hv : Value.okWide Tryd.prog W .any base 46 v) (h : DataW.Trod enc Tryd.prog W 0 (fun _ => true) true 46 v d p)
    (hw : ∀ n ∈ d.weights Tryd.prog 46, n ≤ reachBytes) : ∃ e A n c, v = .agg (e.cells A n c) ∧ EvAt W e A n c ∧ e.Fits := by
  obtain ⟨cs, rfl⟩ := agg_of_cells Tryd.underlying46 hv
  obtain ⟨fuel, h⟩ := h
  obtain ⟨e, ⟨A, n, c, hc, hat⟩, hf⟩ := open_event W H enc fuel _ _ h hw
  refine ⟨e, A, n, c, ?_, hat, hf⟩
  have : cs = e.cells A n c := Array.toList_inj.1 hc
  rw [this]

def wzero {H : Type} : DataW H := .agg [.lit (.int .i64 0), .agg [.lit (.int .i64 0), .lit (.int .i64 0)], .lit (.string []), .lit (.int .u8 0), .lit (.string []), .nil]
end Go.Proofs.YtaocjfneglgmjaaDoor
