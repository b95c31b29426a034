/- Arguments opened: what every seat needs; the environment out of the row's list; what the frame of a law asks behind the call. -/
import Derived.Test.YtffianmhojiomaaDoorOpen
import Derived.Test.YtffianmhojiomaaDoorBase
import Derived.Test.YtffianmhojiomaaDoorShelf
import Derived.Lib.LaidU8T
import Derived.Deep.DeepHandedRow
import Derived.Lib.LaidTab
namespace Go.Proofs.YtffianmhojiomaaDoor
set_option linter.unusedVariables false
set_option linter.unusedSimpArgs false
open Go.RowKit Go.ChangeShapes Go.WideShapes Go.ChangeAt
set_option maxRecDepth 100000

theorem cells_string : Tryd.prog.cellsOf 9 = 1 := by kernel_rfl
theorem cells_int64 : Tryd.prog.cellsOf 2 = 1 := by kernel_rfl
theorem cells_int : Tryd.prog.cellsOf 3 = 1 := by kernel_rfl
theorem cells_bool : Tryd.prog.cellsOf 4 = 1 := by kernel_rfl
theorem cells_span : Tryd.prog.cellsOf 63 = 2 := by kernel_rfl
theorem Sl.all {α : Type} {C : World → Nat → Nat → α → Prop} {w : World} {size n : Nat} {A : Option Addr} {l : List α} {p : α → Prop} (h : Sl w size C A n l) (k : ∀ b o x, C w b o x → p x) : ∀ x ∈ l, p x := by
  intro x hx
  obtain ⟨i, hi⟩ := List.getElem?_of_mem hx
  have : i < n := by rw [← h.1]; exact (List.getElem?_eq_some_iff.1 hi).1
  obtain ⟨b, off, _, hc⟩ := h.2 (by omega)
  exact k _ _ _ (hc i x hi)

theorem open_span (W : World) : Opens Tryd.prog W 63 (fun cs (a : Int × Int) => cs = [.int .i64 a.1, .int .i64 a.2] ∧ (-9223372036854775808 ≤ a.1 ∧ a.1 ≤ 9223372036854775807) ∧ (-9223372036854775808 ≤ a.2 ∧ a.2 ≤ 9223372036854775807)) := by
  intro H enc fuel cs x h hw
  obtain ⟨hl, hf⟩ := Opens.fields Tryd.underlying63 h hw
  rw [cells_span] at hl
  obtain ⟨v0, v1, rfl⟩ := list_2 hl
  obtain ⟨a0, h0, s0⟩ := hf 0 _ rfl (Opens.int Tryd.underlying2)
  obtain ⟨a1, h1, s1⟩ := hf 1 _ rfl (Opens.int Tryd.underlying2)
  simp [cells_int64] at h0 h1
  subst h0 h1
  exact ⟨(a0, a1), rfl, bounds_i64 s0, bounds_i64 s1⟩
theorem agg_of_cells {v : Value} {W : World} {t : TypeId} {fs : Array Field} {b : Nat} (ht : Tryd.prog.underlying t = some (.struct fs)) (hv : Value.okWide Tryd.prog W .any b t v) : ∃ cs, v = .agg cs := by
  unfold Value.okWide at hv
  rw [ht] at hv
  cases v <;> first | exact ⟨_, rfl⟩ | simp at hv

/-- the tables, out of what the row lists -/
theorem u8extra : U8Extra Tryd.prog Tryd.laysValid_ren := ⟨by kernel_rfl, by kernel_rfl, by kernel_rfl, by kernel_rfl, by kernel_rfl, by kernel_rfl, by kernel_rfl⟩
theorem first_same : Rows.laid_unicode_utf8_first = Lib.firstData := by kernel_rfl
theorem accept_same : (Rows.laid_unicode_utf8_acceptRanges : DataW Unit) = Lib.acceptData := by kernel_rfl
theorem env_of {W : World} (h : laidMet Tryd.prog [("unicode/utf8.acceptRanges", Rows.laid_unicode_utf8_acceptRanges), ("unicode/utf8.first", Rows.laid_unicode_utf8_first)] W) (hs : W.ShapedOpen Tryd.prog) : Env W := by
  refine ⟨?_, ?_⟩
  · have h1 := Lib.laidMet.reads h (n := "unicode/utf8.first") (d := Rows.laid_unicode_utf8_first) (by simp)
    have h2 := Lib.laidMet.reads h (n := "unicode/utf8.acceptRanges") (d := Rows.laid_unicode_utf8_acceptRanges) (by simp)
    rw [first_same] at h1
    rw [accept_same] at h2
    exact utf8Tabs_of_readsT (U8Types.of196 Tryd.laysValid) u8extra h1 h2
  · trivial
theorem laidOut : laidOutB Tryd.prog = true := by kernel_rfl
theorem trodAll_ext {P : Program} (laidOut : laidOutB P = true) {H : Type} {enc : TypeId × Value → H} {W W' : World} (hx : Ext W W') {sp : Nat → Bool} : ∀ {ts : List TypeId} {vs : List Value} {ds : List (DataW H)} {ps : List MemPlace}, DataW.TrodAll enc P W 0 (fun _ => true) true ts vs ds ps →
    (ts.all fun t => P.readableRec t && decide (t < P.types.size)) = true → (∀ x ∈ ps, x.block < W.heap.size) → (∀ x ∈ ps, sp x.block = true) → DataW.TrodAll enc P W' 0 sp true ts vs ds ps
  | [], _, _, _, h, _, _, _ => by
    obtain ⟨rfl, rfl, rfl⟩ := trodAll_nil h
    exact rfl
  | t :: ts, _, _, _, h, ha, hlt, hsp => by
    obtain ⟨v, vs1, d, ds1, a, b, rfl, rfl, rfl, h1, h2⟩ := trodAll_cons h
    simp only [List.all_cons, Bool.and_eq_true, decide_eq_true_eq] at ha
    refine ⟨a, b, WideElems.Trod_stays laidOut ha.1.1 ha.1.2 h1 (fun x hx' => Below.same hx (hlt x (List.mem_append_left _ hx'))) (fun x hx' => hsp x (List.mem_append_left _ hx')), trodAll_ext laidOut hx h2 ha.2 (fun x hx' => hlt x (List.mem_append_right _ hx')) (fun x hx' => hsp x (List.mem_append_right _ hx')), rfl⟩

/-- what the row asks behind a call that answers true and has only made new memory -/
theorem post_true {H : Type} {enc : TypeId × Value → H} {f : Func} {s : ChangeSpec} {fresh handsOn : Bool} {W W' : World} {args : Array Value} {ds gs : List (DataW H)} {before : List MemPlace} (hW : DataW.Whole enc Tryd.prog f.params.toList s.vars false W args.toList ds gs before)
    (hv : s.vars = []) (hr : f.resultTypes = #[4]) (hts : (f.params.toList.all fun t => Tryd.prog.readableRec t && decide (t < Tryd.prog.types.size)) = true) (hres : (s.fn H (ds ++ gs)).results = [.lit (.bool true)]) (hargs : (s.fn H (ds ++ gs)).args = ds) (hvars : (s.fn H (ds ++ gs)).vars = [])
    (hx : Ext W W') : s.post enc Tryd.prog f false fresh handsOn false W args (.bool true) W' := by
  have hlt := hW.lt
  obtain ⟨p, q, hA, hV, rfl, hfz, hnd⟩ := hW
  rw [hv] at hV
  obtain ⟨rfl, rfl⟩ := trodVars_none hV
  have hlt' : ∀ x ∈ p, x.block < W.heap.size := fun x hx' => hlt x (by simpa using hx')
  have hA' : DataW.TrodAll enc Tryd.prog W' 0 (fun b => decide (b < W.heap.size)) true f.params.toList args.toList ds p := trodAll_ext laidOut hx hA hts hlt' (fun x hx' => by simpa using hlt' x hx')
  refine ⟨ds, [], p ++ [], [], p, [], ⟨p, [], hA, by rw [hv]; exact rfl, rfl, hfz, hnd⟩, ?_, by rw [hargs]; exact hA', by rw [hv, hvars]; exact rfl, Below.frame hx _, fun h => by cases h⟩
  rw [hr, hres]
  exact trodAll_cons_mk (shut_bool Tryd.underlying4 _) trodAll_mk0

/-- a world for the witness: the settled one, the two tables holding what the library lays -/
def layFirst : Obj → Obj
  | .cells _ t frozen => .cells (Lib.firstTab.map fun z => Value.int .u8 z).toArray t frozen
  | o => o
def layAccept : Obj → Obj
  | .cells _ t frozen => .cells ((List.range 16).flatMap fun i => [Value.int .u8 (Lib.accLo i : Int), Value.int .u8 (Lib.accHi i : Int)]).toArray t frozen
  | o => o
noncomputable def laidWorld (os : Os) : World :=
  { World.holding Tryd.prog os ⟨#[], #[], []⟩ with heap := ((World.holding Tryd.prog os ⟨#[], #[], []⟩).heap.modify 0 layFirst).modify 1 layAccept }
theorem own : ownKnob Tryd.prog.godebug = none := by kernel_rfl
end Go.Proofs.YtffianmhojiomaaDoor
