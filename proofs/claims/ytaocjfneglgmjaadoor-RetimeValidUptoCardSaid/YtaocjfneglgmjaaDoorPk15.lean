/- Laid together: Arguments opened: what every seat needs; the environment out of the row's list; what the frame of a law asks behind the call. Arguments that are rates, spans, small numbers, booleans and lists of drifts, opened. -/
import Derived.Test.YtaocjfneglgmjaaDoorPk14
import Derived.Test.YtaocjfneglgmjaaDoorPk09
import Derived.Test.YtaocjfneglgmjaaDoorPk01
import Derived.Test.YtaocjfneglgmjaaDoorShelf
import Derived.Lib.LaidU8T
import Derived.Deep.DeepHandedRow
import Derived.Lib.LaidTab
import Derived.Test.YtaocjfneglgmjaaDoorPk07
import Derived.OpenShut

/-! OpenG -/
namespace Go.Proofs.YtaocjfneglgmjaaDoor
set_option linter.unusedVariables false
set_option linter.unusedSimpArgs false
open Go.RowKit Go.ChangeShapes Go.WideShapes Go.ChangeAt
set_option maxRecDepth 100000

theorem cells_string : Tryd.prog.cellsOf 9 = 1 := by kernel_rfl
theorem cells_int64 : Tryd.prog.cellsOf 2 = 1 := by kernel_rfl
theorem cells_int : Tryd.prog.cellsOf 3 = 1 := by kernel_rfl
theorem cells_bool : Tryd.prog.cellsOf 4 = 1 := by kernel_rfl
theorem cells_span : Tryd.prog.cellsOf 25 = 2 := by kernel_rfl
theorem Sl.all {α : Type} {C : World → Nat → Nat → α → Prop} {w : World} {size n : Nat} {A : Option Addr} {l : List α} {p : α → Prop} (h : Sl w size C A n l) (k : ∀ b o x, C w b o x → p x) : ∀ x ∈ l, p x := by
  intro x hx
  obtain ⟨i, hi⟩ := List.getElem?_of_mem hx
  have : i < n := by rw [← h.1]; exact (List.getElem?_eq_some_iff.1 hi).1
  obtain ⟨b, off, _, hc⟩ := h.2 (by omega)
  exact k _ _ _ (hc i x hi)

theorem open_span (W : World) : Opens Tryd.prog W 25 (fun cs (a : Int × Int) => cs = [.int .i64 a.1, .int .i64 a.2] ∧ (-9223372036854775808 ≤ a.1 ∧ a.1 ≤ 9223372036854775807) ∧ (-9223372036854775808 ≤ a.2 ∧ a.2 ≤ 9223372036854775807)) := by
  intro H enc fuel cs x h hw
  obtain ⟨hl, hf⟩ := Opens.fields Tryd.underlying25 h hw
  rw [cells_span] at hl
  obtain ⟨v0, v1, rfl⟩ := list_2 hl
  obtain ⟨a0, h0, s0⟩ := hf 0 _ rfl (Opens.int Tryd.underlying2)
  obtain ⟨a1, h1, s1⟩ := hf 1 _ rfl (Opens.int Tryd.underlying2)
  simp [cells_int64] at h0 h1
  subst h0 h1
  exact ⟨(a0, a1), rfl, bounds_i64 s0, bounds_i64 s1⟩
theorem agg_of_cells {v : Value} {W : World} {t : TypeId} {fs : Array Field} {b : Nat} (ht : Tryd.prog.underlying t = some (.struct fs)) (hv : Value.okWide Tryd.prog W .any b t v) : ∃ cs, v = .agg cs := by
  unfold Value.okWide at hv
  rw [ht] at hv
  cases v <;> first | exact ⟨_, rfl⟩ | simp at hv

/-- the tables, out of what the row lists -/
theorem u8extra : U8Extra Tryd.prog Tryd.laysValid_ren := ⟨by kernel_rfl, by kernel_rfl, by kernel_rfl, by kernel_rfl, by kernel_rfl, by kernel_rfl, by kernel_rfl⟩
theorem first_same : Rows.laid_unicode_utf8_first = Lib.firstData := by kernel_rfl
theorem accept_same : (Rows.laid_unicode_utf8_acceptRanges : DataW Unit) = Lib.acceptData := by kernel_rfl
theorem env_of {W : World} (h : laidMet Tryd.prog [("unicode/utf8.acceptRanges", Rows.laid_unicode_utf8_acceptRanges), ("unicode/utf8.first", Rows.laid_unicode_utf8_first)] W) (hs : W.ShapedOpen Tryd.prog) : Env W := by
  refine ⟨?_, ?_⟩
  · have h1 := Lib.laidMet.reads h (n := "unicode/utf8.first") (d := Rows.laid_unicode_utf8_first) (by simp)
    have h2 := Lib.laidMet.reads h (n := "unicode/utf8.acceptRanges") (d := Rows.laid_unicode_utf8_acceptRanges) (by simp)
    rw [first_same] at h1
    rw [accept_same] at h2
    exact utf8Tabs_of_readsT (U8Types.of196 Tryd.laysValid) u8extra h1 h2
  · obtain ⟨cs, hh, hz, hr⟩ := hs.1 2 #[.int .i64 0] 3 (of_decide_eq_true (by kernel_rfl)) (by kernel_rfl)
    obtain ⟨ts, hts, _, hall⟩ := hr (by kernel_rfl)
    have h1 : 0 < cs.size := by rw [hz]; decide
    have e : Tryd.prog.cellTypes Tryd.prog.depth 3 = some [3] := by kernel_rfl
    rw [e] at hts
    cases hts
    obtain ⟨u, hu', hok⟩ := hall 0 cs[0] (by simp [h1])
    have : u = 3 := by simpa using hu'.symm
    subst this
    have hcell : W.cell? ⟨2, 0, none⟩ = some cs[0] := by simp [World.cell?, hh, h1]
    rw [hcell]
    unfold Cell.ok at hok
    rw [Tryd.underlying3] at hok
    cases hv : cs[0] <;> rw [hv] at hok <;> first | (simp at hok; done) | skip
    rename_i k m
    simp at hok
    exact ⟨m, by rw [hok.1]⟩
theorem laidOut : laidOutB Tryd.prog = true := by kernel_rfl
theorem trodAll_ext {P : Program} (laidOut : laidOutB P = true) {H : Type} {enc : TypeId × Value → H} {W W' : World} (hx : Ext W W') {sp : Nat → Bool} : ∀ {ts : List TypeId} {vs : List Value} {ds : List (DataW H)} {ps : List MemPlace}, DataW.TrodAll enc P W 0 (fun _ => true) true ts vs ds ps →
    (ts.all fun t => P.readableRec t && decide (t < P.types.size)) = true → (∀ x ∈ ps, x.block < W.heap.size) → (∀ x ∈ ps, sp x.block = true) → DataW.TrodAll enc P W' 0 sp true ts vs ds ps
  | [], _, _, _, h, _, _, _ => by
    obtain ⟨rfl, rfl, rfl⟩ := trodAll_nil h
    exact rfl
  | t :: ts, _, _, _, h, ha, hlt, hsp => by
    obtain ⟨v, vs1, d, ds1, a, b, rfl, rfl, rfl, h1, h2⟩ := trodAll_cons h
    simp only [List.all_cons, Bool.and_eq_true, decide_eq_true_eq] at ha
    refine ⟨a, b, WideElems.Trod_stays laidOut ha.1.1 ha.1.2 h1 (fun x hx' => Below.same hx (hlt x (List.mem_append_left _ hx'))) (fun x hx' => hsp x (List.mem_append_left _ hx')), trodAll_ext laidOut hx h2 ha.2 (fun x hx' => hlt x (List.mem_append_right _ hx')) (fun x hx' => hsp x (List.mem_append_right _ hx')), rfl⟩

/-- what the row asks behind a call that answers true and has only made new memory -/
theorem post_true {H : Type} {enc : TypeId × Value → H} {f : Func} {s : ChangeSpec} {fresh handsOn : Bool} {W W' : World} {args : Array Value} {ds gs : List (DataW H)} {before : List MemPlace} (hW : DataW.Whole enc Tryd.prog f.params.toList s.vars false W args.toList ds gs before)
    (hv : s.vars = []) (hr : f.resultTypes = #[4]) (hts : (f.params.toList.all fun t => Tryd.prog.readableRec t && decide (t < Tryd.prog.types.size)) = true) (hres : (s.fn H (ds ++ gs)).results = [.lit (.bool true)]) (hargs : (s.fn H (ds ++ gs)).args = ds) (hvars : (s.fn H (ds ++ gs)).vars = [])
    (hx : Ext W W') : s.post enc Tryd.prog f false fresh handsOn false W args (.bool true) W' := by
  have hlt := hW.lt
  obtain ⟨p, q, hA, hV, rfl, hfz, hnd⟩ := hW
  rw [hv] at hV
  obtain ⟨rfl, rfl⟩ := trodVars_none hV
  have hlt' : ∀ x ∈ p, x.block < W.heap.size := fun x hx' => hlt x (by simpa using hx')
  have hA' : DataW.TrodAll enc Tryd.prog W' 0 (fun b => decide (b < W.heap.size)) true f.params.toList args.toList ds p := trodAll_ext laidOut hx hA hts hlt' (fun x hx' => by simpa using hlt' x hx')
  refine ⟨ds, [], p ++ [], [], p, [], ⟨p, [], hA, by rw [hv]; exact rfl, rfl, hfz, hnd⟩, ?_, by rw [hargs]; exact hA', by rw [hv, hvars]; exact rfl, Below.frame hx _, fun h => by cases h⟩
  rw [hr, hres]
  exact trodAll_cons_mk (shut_bool Tryd.underlying4 _) trodAll_mk0

/-- a world for the witness: the settled one, the two tables holding what the library lays -/
def layFirst : Obj → Obj
  | .cells _ t frozen => .cells (Lib.firstTab.map fun z => Value.int .u8 z).toArray t frozen
  | o => o
def layAccept : Obj → Obj
  | .cells _ t frozen => .cells ((List.range 16).flatMap fun i => [Value.int .u8 (Lib.accLo i : Int), Value.int .u8 (Lib.accHi i : Int)]).toArray t frozen
  | o => o
noncomputable def laidWorld (os : Os) : World :=
  { World.holding Tryd.prog os ⟨#[], #[], []⟩ with heap := ((World.holding Tryd.prog os ⟨#[], #[], []⟩).heap.modify 0 layFirst).modify 1 layAccept }
theorem own : ownKnob Tryd.prog.godebug = none := by kernel_rfl
end Go.Proofs.YtaocjfneglgmjaaDoor

/-! OpenR -/
namespace Go.Proofs.YtaocjfneglgmjaaDoor
set_option linter.unusedVariables false
set_option linter.unusedSimpArgs false
open Go.RowKit Go.ChangeShapes Go.WideShapes Go.ChangeAt
set_option maxRecDepth 100000
theorem Opens.array {P : Program} {W : World} {t e : TypeId} {n : Nat} (ht : P.underlying t = some (.array n e)) {H : Type} {enc : TypeId × Value → H} {fuel : Nat} {cs : List Value} {x : DataW H × List MemPlace}
    (h : DataW.trod enc P W 0 (fun _ => true) true fuel t cs = some x) (hw : ∀ n ∈ x.1.weights P t, n ≤ reachBytes) :
    cs.length = P.cellsOf t ∧ ∀ i, i < n → ∀ {α : Type} {R : List Value → α → Prop}, Opens P W e R → ∃ a, R ((cs.drop (i * P.cellsOf e)).take (P.cellsOf e)) a := by
  obtain ⟨xs, m, rfl, rfl, hl, hlen, hf⟩ := DataW.trod_array ht h
  refine ⟨hl, fun i hi α R hR => ?_⟩
  have h1 := hf i hi
  have hi' : i < xs.length := by omega
  rw [List.getElem?_eq_getElem hi'] at h1
  refine hR H enc m _ _ h1 (fun k hk => hw k ?_)
  simp only [DataW.weights, ht]
  exact weightsAll_mem (List.mem_map.2 ⟨_, List.getElem_mem hi', rfl⟩) hk
theorem agg_of_array {v : Value} {W : World} {t e : TypeId} {n b : Nat} (ht : Tryd.prog.underlying t = some (.array n e)) (hv : Value.okWide Tryd.prog W .any b t v) : ∃ cs, v = .agg cs := by
  unfold Value.okWide at hv
  rw [ht] at hv
  cases v <;> first | exact ⟨_, rfl⟩ | simp at hv
theorem cells_rate : Tryd.prog.cellsOf 22 = 1 := by kernel_rfl
theorem cells_drift : Tryd.prog.cellsOf 42 = 3 := by kernel_rfl
theorem bytes_drift : Tryd.prog.bytesOf 42 = 24 := by kernel_rfl
/-- an argument that is two rates -/
theorem arg_rates {H : Type} {enc : TypeId × Value → H} {W : World} {base : Nat} {v : Value} {d : DataW H} {p : List MemPlace} (hv : Value.okWide Tryd.prog W .any base 23 v) (h : DataW.Trod enc Tryd.prog W 0 (fun _ => true) true 23 v d p)
    (hw : ∀ n ∈ d.weights Tryd.prog 23, n ≤ reachBytes) : ∃ a b : Int, v = .agg #[.int .u8 a, .int .u8 b] ∧ (0 ≤ a ∧ a ≤ 255) ∧ (0 ≤ b ∧ b ≤ 255) := by
  obtain ⟨cs, rfl⟩ := agg_of_array Tryd.underlying23 hv
  obtain ⟨fuel, h⟩ := h
  obtain ⟨hl, hf⟩ := Opens.array Tryd.underlying23 h hw
  rw [show Tryd.prog.cellsOf 23 = 2 by kernel_rfl] at hl
  obtain ⟨v0, v1, he⟩ := list_2 hl
  obtain ⟨a0, h0, s0⟩ := hf 0 (by decide) (Opens.int Tryd.underlying22)
  obtain ⟨a1, h1, s1⟩ := hf 1 (by decide) (Opens.int Tryd.underlying22)
  rw [he] at h0 h1
  simp [cells_rate] at h0 h1
  subst h0 h1
  refine ⟨a0, a1, ?_, bounds_u8 s0, bounds_u8 s1⟩
  have : cs = #[.int .u8 a0, .int .u8 a1] := Array.toList_inj.1 he
  rw [this]
/-- an argument that is a span -/
theorem arg_span47 {H : Type} {enc : TypeId × Value → H} {W : World} {base : Nat} {v : Value} {d : DataW H} {p : List MemPlace} (hv : Value.okWide Tryd.prog W .any base 25 v) (h : DataW.Trod enc Tryd.prog W 0 (fun _ => true) true 25 v d p)
    (hw : ∀ n ∈ d.weights Tryd.prog 25, n ≤ reachBytes) : ∃ a b : Int, v = .agg #[.int .i64 a, .int .i64 b] ∧ (-9223372036854775808 ≤ a ∧ a ≤ 9223372036854775807) ∧ (-9223372036854775808 ≤ b ∧ b ≤ 9223372036854775807) := by
  obtain ⟨cs, rfl⟩ := agg_of_cells Tryd.underlying25 hv
  obtain ⟨fuel, h⟩ := h
  obtain ⟨⟨a, b⟩, hc, ha, hb⟩ := open_span W H enc fuel _ _ h hw
  refine ⟨a, b, ?_, ha, hb⟩
  have : cs = #[.int .i64 a, .int .i64 b] := Array.toList_inj.1 hc
  rw [this]
theorem arg_rate {H : Type} {enc : TypeId × Value → H} {W : World} {base : Nat} {v : Value} {d : DataW H} {p : List MemPlace} (hv : Value.okWide Tryd.prog W .any base 22 v) (h : DataW.Trod enc Tryd.prog W 0 (fun _ => true) true 22 v d p)
    (hw : ∀ n ∈ d.weights Tryd.prog 22, n ≤ reachBytes) : ∃ k : Int, v = .int .u8 k ∧ 0 ≤ k ∧ k ≤ 255 := by
  obtain ⟨fuel, h⟩ := h
  obtain ⟨a, ha, hb⟩ := Opens.int Tryd.underlying22 H enc fuel _ _ h hw
  unfold Value.okWide at hv
  rw [Tryd.underlying22] at hv
  cases v with
  | agg cs => exact absurd hv (by unfold Cell.okWide; rw [Tryd.underlying22]; simp [Cell.ok])
  | _ => first | (refine ⟨a, ?_, (bounds_u8 hb).1, (bounds_u8 hb).2⟩; exact (List.cons.inj ha).1) | (simp at hv; done)
/-- an argument that is a byte -/
theorem arg_u8 {H : Type} {enc : TypeId × Value → H} {W : World} {base : Nat} {v : Value} {d : DataW H} {p : List MemPlace} (hv : Value.okWide Tryd.prog W .any base 5 v) (h : DataW.Trod enc Tryd.prog W 0 (fun _ => true) true 5 v d p)
    (hw : ∀ n ∈ d.weights Tryd.prog 5, n ≤ reachBytes) : ∃ k : Int, v = .int .u8 k ∧ 0 ≤ k ∧ k ≤ 255 := by
  obtain ⟨fuel, h⟩ := h
  obtain ⟨a, ha, hb⟩ := Opens.int Tryd.underlying5 H enc fuel _ _ h hw
  unfold Value.okWide at hv
  rw [Tryd.underlying5] at hv
  cases v with
  | agg cs => exact absurd hv (by unfold Cell.okWide; rw [Tryd.underlying5]; simp [Cell.ok])
  | _ => first | (refine ⟨a, ?_, (bounds_u8 hb).1, (bounds_u8 hb).2⟩; exact (List.cons.inj ha).1) | (simp at hv; done)
/-- an argument that is a truth value -/
theorem arg_bool {H : Type} {enc : TypeId × Value → H} {W : World} {base : Nat} {v : Value} {d : DataW H} {p : List MemPlace} (hv : Value.okWide Tryd.prog W .any base 4 v) (h : DataW.Trod enc Tryd.prog W 0 (fun _ => true) true 4 v d p)
    (hw : ∀ n ∈ d.weights Tryd.prog 4, n ≤ reachBytes) : ∃ k : Bool, v = .bool k := by
  obtain ⟨fuel, h⟩ := h
  obtain ⟨a, ha⟩ := Opens.bool Tryd.underlying4 H enc fuel _ _ h hw
  unfold Value.okWide at hv
  rw [Tryd.underlying4] at hv
  cases v with
  | agg cs => exact absurd hv (by unfold Cell.okWide; rw [Tryd.underlying4]; simp [Cell.ok])
  | _ => first | (refine ⟨a, ?_⟩; exact (List.cons.inj ha).1) | (simp at hv; done)
theorem open_drift (W : World) : Opens Tryd.prog W 42 (fun cs (d : Dri) => cs = d.vals ∧ d.Fits) := by
  intro H enc fuel cs x h hw
  obtain ⟨hl, hf⟩ := Opens.fields Tryd.underlying42 h hw
  rw [cells_drift] at hl
  obtain ⟨v0, v1, v2, rfl⟩ := list_3 hl
  obtain ⟨a0, h0, s0⟩ := hf 0 _ rfl (Opens.int Tryd.underlying2)
  obtain ⟨a1, h1, s1⟩ := hf 1 _ rfl (Opens.int Tryd.underlying2)
  obtain ⟨a2, h2, s2⟩ := hf 2 _ rfl (Opens.int Tryd.underlying2)
  simp [cells_int64] at h0 h1 h2
  subst h0 h1 h2
  exact ⟨⟨a0, a1, a2⟩, rfl, bounds_i64 s1, bounds_i64 s2⟩
/-- an argument that is a list of drifts -/
theorem arg_drifts {H : Type} {enc : TypeId × Value → H} {W : World} {base : Nat} {v : Value} {d : DataW H} {p : List MemPlace} (hv : Value.okWide Tryd.prog W .any base 37 v) (h : DataW.Trod enc Tryd.prog W 0 (fun _ => true) true 37 v d p)
    (hw : ∀ n ∈ d.weights Tryd.prog 37, n ≤ reachBytes) : ∃ A n c l, v = .slice A n c ∧ DrisAt W A n l ∧ ∀ d ∈ l, d.Fits := by
  obtain ⟨fuel, h⟩ := h
  obtain ⟨A, n, c, l, hc, hnc, hcm, hb, hs⟩ := Opens.slice Tryd.underlying37 cells_drift (by decide) bytes_drift (open_drift W) h hw
  have hv' : v = .slice A n c := by
    unfold Value.okWide at hv
    rw [Tryd.underlying37] at hv
    cases v <;> simp [Value.cells] at hc <;> first | (obtain ⟨h1, h2, h3⟩ := hc; subst h1 h2 h3; rfl) | (simp [Cell.okWide, Tryd.underlying37, Cell.ok] at hv)
  refine ⟨A, n, c, l, hv', Sl.change hs fun b o r hm => ?_, hs.all (p := Dri.Fits) fun b o r hm => ?_⟩
  · obtain ⟨cs, h1, h2, _⟩ := hm
    subst h2
    exact h1
  · obtain ⟨cs, _, _, h3⟩ := hm
    exact h3
end Go.Proofs.YtaocjfneglgmjaaDoor
