/- Events among the arguments, opened; the environment out of the row's list; what the frame of a law asks behind the call. -/
import Derived.Test.YtcgflkmkdpgchaaDoorOpen
import Derived.Test.YtcgflkmkdpgchaaDoorEvent
import Derived.Test.YtcgflkmkdpgchaaDoorClone
import Derived.Test.YtcgflkmkdpgchaaDoorShelf
import Derived.Lib.LaidU8T
import Derived.Deep.DeepHandedRow
import Derived.Lib.LaidTab
namespace Go.Proofs.YtcgflkmkdpgchaaDoor
set_option linter.unusedVariables false
set_option linter.unusedSimpArgs false
open Go.RowKit Go.ChangeShapes Go.WideShapes Go.ChangeAt
set_option maxRecDepth 100000

theorem cells_string : Tryd.prog.cellsOf 9 = 1 := by kernel_rfl
theorem cells_int64 : Tryd.prog.cellsOf 2 = 1 := by kernel_rfl
theorem cells_int : Tryd.prog.cellsOf 3 = 1 := by kernel_rfl
theorem cells_bool : Tryd.prog.cellsOf 4 = 1 := by kernel_rfl
theorem cells_color : Tryd.prog.cellsOf 44 = 1 := by kernel_rfl
theorem cells_style : Tryd.prog.cellsOf 46 = 3 := by kernel_rfl
theorem cells_run : Tryd.prog.cellsOf 48 = 5 := by kernel_rfl
theorem cells_row : Tryd.prog.cellsOf 43 = 1 := by kernel_rfl
theorem cells_runs : Tryd.prog.cellsOf 41 = 1 := by kernel_rfl
theorem cells_rows : Tryd.prog.cellsOf 25 = 1 := by kernel_rfl
theorem cells_span : Tryd.prog.cellsOf 23 = 2 := by kernel_rfl
theorem cells_kind : Tryd.prog.cellsOf 24 = 1 := by kernel_rfl
theorem cells_event : Tryd.prog.cellsOf 27 = 7 := by kernel_rfl
theorem bytes_run : Tryd.prog.bytesOf 48 = 40 := by kernel_rfl
theorem bytes_row : Tryd.prog.bytesOf 43 = 24 := by kernel_rfl

/-- a run that came in -/
def Run.Fits (r : Run) : Prop := r.text.size ≤ 140737488351232 ∧ r.ruby.size ≤ 140737488351232 ∧ 0 ≤ r.color ∧ r.color ≤ 255
theorem open_style (W : World) : Opens Tryd.prog W 46 (fun cs (a : Int × Bool × Bool) => cs = [.int .u8 a.1, .bool a.2.1, .bool a.2.2] ∧ 0 ≤ a.1 ∧ a.1 ≤ 255) := by
  intro H enc fuel cs x h hw
  obtain ⟨hl, hf⟩ := Opens.fields Tryd.underlying46 h hw
  rw [cells_style] at hl
  obtain ⟨v0, v1, v2, rfl⟩ := list_3 hl
  obtain ⟨a0, h0, s0⟩ := hf 0 _ rfl (Opens.int Tryd.underlying44)
  obtain ⟨a1, h1⟩ := hf 1 _ rfl (Opens.bool Tryd.underlying4)
  obtain ⟨a2, h2⟩ := hf 2 _ rfl (Opens.bool Tryd.underlying4)
  simp [cells_color, cells_bool] at h0 h1 h2
  subst h0 h1 h2
  exact ⟨(a0, a1, a2), rfl, bounds_u8 s0⟩
theorem open_run (W : World) : Opens Tryd.prog W 48 (fun cs (r : Run) => cs = [.string r.text, .int .u8 r.color, .bool r.italic, .bool r.under, .string r.ruby] ∧ r.Fits) := by
  intro H enc fuel cs x h hw
  obtain ⟨hl, hf⟩ := Opens.fields Tryd.underlying48 h hw
  rw [cells_run] at hl
  obtain ⟨v0, v1, v2, v3, v4, rfl⟩ := list_5 hl
  obtain ⟨a0, h0, s0⟩ := hf 0 _ rfl (Opens.string Tryd.underlying9)
  obtain ⟨⟨a1, a2, a3⟩, h1, s1⟩ := hf 1 _ rfl (open_style W)
  obtain ⟨a4, h4, s4⟩ := hf 2 _ rfl (Opens.string Tryd.underlying9)
  simp [cells_string, cells_style] at h0 h1 h4
  obtain ⟨h1, h2, h3⟩ := h1
  subst h0 h1 h2 h3 h4
  exact ⟨⟨a0, a1, a2, a3, a4⟩, rfl, s0, s4, s1⟩
theorem mem_run {w : World} {b o : Nat} {r : Run} (h : Mem (fun cs (r : Run) => cs = [.string r.text, .int .u8 r.color, .bool r.italic, .bool r.under, .string r.ruby] ∧ r.Fits) w b o r) : RunC w b o r ∧ r.Fits := by
  obtain ⟨cs, h1, rfl, h2⟩ := h
  exact ⟨⟨h1 0 _ rfl, h1 1 _ rfl, h1 2 _ rfl, h1 3 _ rfl, h1 4 _ rfl⟩, h2⟩
theorem Sl.all {α : Type} {C : World → Nat → Nat → α → Prop} {w : World} {size n : Nat} {A : Option Addr} {l : List α} {p : α → Prop} (h : Sl w size C A n l) (k : ∀ b o x, C w b o x → p x) : ∀ x ∈ l, p x := by
  intro x hx
  obtain ⟨i, hi⟩ := List.getElem?_of_mem hx
  have : i < n := by rw [← h.1]; exact (List.getElem?_eq_some_iff.1 hi).1
  obtain ⟨b, off, _, hc⟩ := h.2 (by omega)
  exact k _ _ _ (hc i x hi)

/-- a row that came in -/
def RowFits (r : Row) : Prop := (∀ x ∈ r, x.Fits) ∧ r.length * 40 ≤ 140737488351232
theorem open_row (W : World) : Opens Tryd.prog W 43 (fun cs (r : Row) => (∃ A n c, cs = [.slice A n c] ∧ n ≤ c ∧ n * 40 ≤ 140737488355328 ∧ RunsAt W A n r) ∧ RowFits r) := by
  intro H enc fuel cs x h hw
  obtain ⟨hl, hf⟩ := Opens.fields Tryd.underlying43 h hw
  rw [cells_row] at hl
  obtain ⟨v0, rfl⟩ := list_1 hl
  obtain ⟨r, h0⟩ := hf 0 _ rfl (R := fun cs (r : Row) => (∃ A n c, cs = [.slice A n c] ∧ n ≤ c ∧ n * 40 ≤ 140737488355328 ∧ RunsAt W A n r) ∧ RowFits r) (fun H enc fuel cs x h hw => by
    obtain ⟨A, n, c, l, rfl, hnc, _, hb, hs⟩ := Opens.slice Tryd.underlying41 cells_run (by decide) bytes_run (open_run W) h hw
    have hn : n * 40 ≤ 140737488351232 := by simp only [reachBytes] at hb; omega
    exact ⟨l, ⟨A, n, c, rfl, hnc, by omega, Sl.change hs fun _ _ _ hm => (mem_run hm).1⟩, hs.all fun _ _ _ hm => (mem_run hm).2, by rw [hs.len]; exact hn⟩)
  simp [cells_runs] at h0
  exact ⟨r, by simpa using h0⟩
theorem mem_row {w W : World} (hw : w = W) {b o : Nat} {r : Row} (h : Mem (fun cs (r : Row) => (∃ A n c, cs = [.slice A n c] ∧ n ≤ c ∧ n * 40 ≤ 140737488355328 ∧ RunsAt W A n r) ∧ RowFits r) w b o r) : RowC w b o r ∧ RowFits r := by
  subst hw
  obtain ⟨cs, h1, ⟨A, n, c, rfl, h2⟩, h3⟩ := h
  exact ⟨⟨A, n, c, h1 0 _ rfl, h2⟩, h3⟩

/-- an event that came in -/
def Ev.Fits (e : Ev) : Prop := e.region.size ≤ 140737488351232 ∧ e.speaker.size ≤ 140737488351232 ∧ (0 ≤ e.kind ∧ e.kind ≤ 255) ∧ (-9223372036854775808 ≤ e.id ∧ e.id ≤ 9223372036854775807) ∧ (-9223372036854775808 ≤ e.inn ∧ e.inn ≤ 9223372036854775807) ∧ (-9223372036854775808 ≤ e.out ∧ e.out ≤ 9223372036854775807) ∧ (∀ r ∈ e.rows, RowFits r) ∧ e.rows.length * 24 ≤ 140737488351232
theorem open_span (W : World) : Opens Tryd.prog W 23 (fun cs (a : Int × Int) => cs = [.int .i64 a.1, .int .i64 a.2] ∧ (-9223372036854775808 ≤ a.1 ∧ a.1 ≤ 9223372036854775807) ∧ (-9223372036854775808 ≤ a.2 ∧ a.2 ≤ 9223372036854775807)) := by
  intro H enc fuel cs x h hw
  obtain ⟨hl, hf⟩ := Opens.fields Tryd.underlying23 h hw
  rw [cells_span] at hl
  obtain ⟨v0, v1, rfl⟩ := list_2 hl
  obtain ⟨a0, h0, s0⟩ := hf 0 _ rfl (Opens.int Tryd.underlying2)
  obtain ⟨a1, h1, s1⟩ := hf 1 _ rfl (Opens.int Tryd.underlying2)
  simp [cells_int64] at h0 h1
  subst h0 h1
  exact ⟨(a0, a1), rfl, bounds_i64 s0, bounds_i64 s1⟩
theorem open_event (W : World) : Opens Tryd.prog W 27 (fun cs (e : Ev) => (∃ A n c, cs = (e.cells A n c).toList ∧ EvAt W e A n c) ∧ e.Fits) := by
  intro H enc fuel cs x h hw
  obtain ⟨hl, hf⟩ := Opens.fields Tryd.underlying27 h hw
  rw [cells_event] at hl
  obtain ⟨v0, v1, v2, v3, v4, v5, v6, rfl⟩ := list_7 hl
  obtain ⟨a0, h0, s0⟩ := hf 0 _ rfl (Opens.int Tryd.underlying2)
  obtain ⟨⟨a1, a2⟩, h1, s1, s2⟩ := hf 1 _ rfl (open_span W)
  obtain ⟨a3, h3, s3⟩ := hf 2 _ rfl (Opens.string Tryd.underlying9)
  obtain ⟨a4, h4, s4⟩ := hf 3 _ rfl (Opens.int Tryd.underlying24)
  obtain ⟨a5, h5, s5⟩ := hf 4 _ rfl (Opens.string Tryd.underlying9)
  obtain ⟨rows, h6⟩ := hf 5 _ rfl (R := fun cs (r : List Row) => (∃ A n c, cs = [.slice A n c] ∧ n ≤ c ∧ n * 24 ≤ 140737488351232 ∧ RowsAt W A n r) ∧ ∀ x ∈ r, RowFits x) (fun H enc fuel cs x h hw => by
    obtain ⟨A, n, c, l, rfl, hnc, _, hb, hs⟩ := Opens.slice Tryd.underlying25 cells_row (by decide) bytes_row (open_row W) h hw
    have hn : n * 24 ≤ 140737488351232 := by simp only [reachBytes] at hb; omega
    exact ⟨l, ⟨A, n, c, rfl, hnc, hn, Sl.change hs fun _ _ _ hm => (mem_row rfl hm).1⟩, hs.all fun _ _ _ hm => (mem_row rfl hm).2⟩)
  simp [cells_int64, cells_string, cells_span, cells_kind, cells_rows] at h0 h1 h3 h4 h5 h6
  obtain ⟨h1, h2⟩ := h1
  obtain ⟨⟨A, n, c, h6, hnc, hn, hr⟩, hfit⟩ := h6
  subst h0 h1 h2 h3 h4 h5 h6
  exact ⟨⟨a0, a1, a2, a3, a4, a5, rows⟩, ⟨A, n, c, rfl, hr, hnc, by omega⟩, s3, s5, bounds_u8 s4, bounds_i64 s0, s1, s2, hfit, by rw [hr.len]; exact hn⟩

theorem agg_of_cells {v : Value} {W : World} {t : TypeId} {fs : Array Field} {b : Nat} (ht : Tryd.prog.underlying t = some (.struct fs)) (hv : Value.okWide Tryd.prog W .any b t v) : ∃ cs, v = .agg cs := by
  unfold Value.okWide at hv
  rw [ht] at hv
  cases v <;> first | exact ⟨_, rfl⟩ | simp at hv

/-- an argument that is an event -/
theorem arg_event {H : Type} {enc : TypeId × Value → H} {W : World} {base : Nat} {v : Value} {d : DataW H} {p : List MemPlace} (hv : Value.okWide Tryd.prog W .any base 27 v) (h : DataW.Trod enc Tryd.prog W 0 (fun _ => true) true 27 v d p)
    (hw : ∀ n ∈ d.weights Tryd.prog 27, n ≤ reachBytes) : ∃ e A n c, v = .agg (e.cells A n c) ∧ EvAt W e A n c ∧ e.Fits := by
  obtain ⟨cs, rfl⟩ := agg_of_cells Tryd.underlying27 hv
  obtain ⟨fuel, h⟩ := h
  obtain ⟨e, ⟨A, n, c, hc, hat⟩, hf⟩ := open_event W H enc fuel _ _ h hw
  refine ⟨e, A, n, c, ?_, hat, hf⟩
  have : cs = e.cells A n c := Array.toList_inj.1 hc
  rw [this]

theorem open_cut (W : World) : Opens Tryd.prog W 29 (fun cs (a : Int × Int × Int) => cs = [.int .i64 a.1, .int .i64 a.2.1, .int .i64 a.2.2] ∧ (-9223372036854775808 ≤ a.1 ∧ a.1 ≤ 9223372036854775807) ∧ (-9223372036854775808 ≤ a.2.1 ∧ a.2.1 ≤ 9223372036854775807) ∧ (-9223372036854775808 ≤ a.2.2 ∧ a.2.2 ≤ 9223372036854775807)) := by
  intro H enc fuel cs x h hw
  obtain ⟨hl, hf⟩ := Opens.fields Tryd.underlying29 h hw
  rw [show Tryd.prog.cellsOf 29 = 3 by kernel_rfl] at hl
  obtain ⟨v0, v1, v2, rfl⟩ := list_3 hl
  obtain ⟨a0, h0, s0⟩ := hf 0 _ rfl (Opens.int Tryd.underlying2)
  obtain ⟨a1, h1, s1⟩ := hf 1 _ rfl (Opens.int Tryd.underlying3)
  obtain ⟨a2, h2, s2⟩ := hf 2 _ rfl (Opens.int Tryd.underlying2)
  simp [cells_int64, cells_int] at h0 h1 h2
  subst h0 h1 h2
  exact ⟨(a0, a1, a2), rfl, bounds_i64 s0, bounds_i64 s1, bounds_i64 s2⟩
/-- an argument that is a cut -/
theorem arg_cut {H : Type} {enc : TypeId × Value → H} {W : World} {base : Nat} {v : Value} {d : DataW H} {p : List MemPlace} (hv : Value.okWide Tryd.prog W .any base 29 v) (h : DataW.Trod enc Tryd.prog W 0 (fun _ => true) true 29 v d p)
    (hw : ∀ n ∈ d.weights Tryd.prog 29, n ≤ reachBytes) : ∃ f r i : Int, v = .agg #[.int .i64 f, .int .i64 r, .int .i64 i] ∧ (-9223372036854775808 ≤ f ∧ f ≤ 9223372036854775807) ∧ (-9223372036854775808 ≤ r ∧ r ≤ 9223372036854775807) ∧ (-9223372036854775808 ≤ i ∧ i ≤ 9223372036854775807) := by
  obtain ⟨cs, rfl⟩ := agg_of_cells Tryd.underlying29 hv
  obtain ⟨fuel, h⟩ := h
  obtain ⟨⟨f, r, i⟩, hc, hf⟩ := open_cut W H enc fuel _ _ h hw
  refine ⟨f, r, i, ?_, hf⟩
  have : cs = #[.int .i64 f, .int .i64 r, .int .i64 i] := Array.toList_inj.1 hc
  rw [this]

/-- the tables, out of what the row lists -/
theorem u8extra : U8Extra Tryd.prog Tryd.laysValid_ren := ⟨by kernel_rfl, by kernel_rfl, by kernel_rfl, by kernel_rfl, by kernel_rfl, by kernel_rfl, by kernel_rfl⟩
theorem first_same : Rows.laid_unicode_utf8_first = Lib.firstData := by kernel_rfl
theorem accept_same : (Rows.laid_unicode_utf8_acceptRanges : DataW Unit) = Lib.acceptData := by kernel_rfl
theorem env_of {W : World} (h : laidMet Tryd.prog [("unicode/utf8.acceptRanges", Rows.laid_unicode_utf8_acceptRanges), ("unicode/utf8.first", Rows.laid_unicode_utf8_first)] W) (hs : W.ShapedOpen Tryd.prog) : Env W := by
  refine ⟨?_, ?_⟩
  · have h1 := Lib.laidMet.reads h (n := "unicode/utf8.first") (d := Rows.laid_unicode_utf8_first) (by simp)
    have h2 := Lib.laidMet.reads h (n := "unicode/utf8.acceptRanges") (d := Rows.laid_unicode_utf8_acceptRanges) (by simp)
    rw [first_same] at h1
    rw [accept_same] at h2
    exact utf8Tabs_of_readsT (U8Types.of196 Tryd.laysValid) u8extra h1 h2
  · obtain ⟨cs, hh, hz, hr⟩ := hs.1 2 #[.int .i64 0] 3 (of_decide_eq_true (by kernel_rfl)) (by kernel_rfl)
    obtain ⟨ts, hts, _, hall⟩ := hr (by kernel_rfl)
    have h1 : 0 < cs.size := by rw [hz]; decide
    have e : Tryd.prog.cellTypes Tryd.prog.depth 3 = some [3] := by kernel_rfl
    rw [e] at hts
    cases hts
    obtain ⟨u, hu', hok⟩ := hall 0 cs[0] (by simp [h1])
    have : u = 3 := by simpa using hu'.symm
    subst this
    have hcell : W.cell? ⟨2, 0, none⟩ = some cs[0] := by simp [World.cell?, hh, h1]
    rw [hcell]
    unfold Cell.ok at hok
    rw [Tryd.underlying3] at hok
    cases hv : cs[0] <;> rw [hv] at hok <;> first | (simp at hok; done) | skip
    rename_i k m
    simp at hok
    exact ⟨m, by rw [hok.1]⟩

theorem laidOut : laidOutB Tryd.prog = true := by kernel_rfl
theorem trodAll_ext {P : Program} (laidOut : laidOutB P = true) {H : Type} {enc : TypeId × Value → H} {W W' : World} (hx : Ext W W') {sp : Nat → Bool} : ∀ {ts : List TypeId} {vs : List Value} {ds : List (DataW H)} {ps : List MemPlace}, DataW.TrodAll enc P W 0 (fun _ => true) true ts vs ds ps →
    (ts.all fun t => P.readableRec t && decide (t < P.types.size)) = true → (∀ x ∈ ps, x.block < W.heap.size) → (∀ x ∈ ps, sp x.block = true) → DataW.TrodAll enc P W' 0 sp true ts vs ds ps
  | [], _, _, _, h, _, _, _ => by
    obtain ⟨rfl, rfl, rfl⟩ := trodAll_nil h
    exact rfl
  | t :: ts, _, _, _, h, ha, hlt, hsp => by
    obtain ⟨v, vs1, d, ds1, a, b, rfl, rfl, rfl, h1, h2⟩ := trodAll_cons h
    simp only [List.all_cons, Bool.and_eq_true, decide_eq_true_eq] at ha
    refine ⟨a, b, WideElems.Trod_stays laidOut ha.1.1 ha.1.2 h1 (fun x hx' => Below.same hx (hlt x (List.mem_append_left _ hx'))) (fun x hx' => hsp x (List.mem_append_left _ hx')), trodAll_ext laidOut hx h2 ha.2 (fun x hx' => hlt x (List.mem_append_right _ hx')) (fun x hx' => hsp x (List.mem_append_right _ hx')), rfl⟩

/-- what the row asks behind a call that answers true and has only made new memory -/
theorem post_true {H : Type} {enc : TypeId × Value → H} {f : Func} {s : ChangeSpec} {fresh handsOn : Bool} {W W' : World} {args : Array Value} {ds gs : List (DataW H)} {before : List MemPlace} (hW : DataW.Whole enc Tryd.prog f.params.toList s.vars false W args.toList ds gs before)
    (hv : s.vars = []) (hr : f.resultTypes = #[4]) (hts : (f.params.toList.all fun t => Tryd.prog.readableRec t && decide (t < Tryd.prog.types.size)) = true) (hres : (s.fn H (ds ++ gs)).results = [.lit (.bool true)]) (hargs : (s.fn H (ds ++ gs)).args = ds) (hvars : (s.fn H (ds ++ gs)).vars = [])
    (hx : Ext W W') : s.post enc Tryd.prog f false fresh handsOn false W args (.bool true) W' := by
  have hlt := hW.lt
  obtain ⟨p, q, hA, hV, rfl, hfz, hnd⟩ := hW
  rw [hv] at hV
  obtain ⟨rfl, rfl⟩ := trodVars_none hV
  have hlt' : ∀ x ∈ p, x.block < W.heap.size := fun x hx' => hlt x (by simpa using hx')
  have hA' : DataW.TrodAll enc Tryd.prog W' 0 (fun b => decide (b < W.heap.size)) true f.params.toList args.toList ds p := trodAll_ext laidOut hx hA hts hlt' (fun x hx' => by simpa using hlt' x hx')
  refine ⟨ds, [], p ++ [], [], p, [], ⟨p, [], hA, by rw [hv]; exact rfl, rfl, hfz, hnd⟩, ?_, by rw [hargs]; exact hA', by rw [hv, hvars]; exact rfl, Below.frame hx _, fun h => by cases h⟩
  rw [hr, hres]
  exact trodAll_cons_mk (shut_bool Tryd.underlying4 _) trodAll_mk0

/-- a world for the witness: the settled one, the two tables holding what the library lays -/
def layFirst : Obj → Obj
  | .cells _ t frozen => .cells (Lib.firstTab.map fun z => Value.int .u8 z).toArray t frozen
  | o => o
def layAccept : Obj → Obj
  | .cells _ t frozen => .cells ((List.range 16).flatMap fun i => [Value.int .u8 (Lib.accLo i : Int), Value.int .u8 (Lib.accHi i : Int)]).toArray t frozen
  | o => o
noncomputable def laidWorld (os : Os) : World :=
  { World.holding Tryd.prog os ⟨#[], #[], []⟩ with heap := ((World.holding Tryd.prog os ⟨#[], #[], []⟩).heap.modify 0 layFirst).modify 1 layAccept }
theorem own : ownKnob Tryd.prog.godebug = none := by kernel_rfl
def wzero {H : Type} : DataW H := .agg [.lit (.int .i64 0), .agg [.lit (.int .i64 0), .lit (.int .i64 0)], .lit (.string []), .lit (.int .u8 0), .lit (.string []), .nil]
end Go.Proofs.YtcgflkmkdpgchaaDoor
