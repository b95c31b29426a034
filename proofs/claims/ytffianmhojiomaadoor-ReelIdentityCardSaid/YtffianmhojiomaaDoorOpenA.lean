/- Arguments that are small integers and arrays, opened. -/
import Derived.Test.YtffianmhojiomaaDoorOpenG
import Derived.Test.YtffianmhojiomaaDoorOpenL
import Derived.OpenShut
namespace Go.Proofs.YtffianmhojiomaaDoor
set_option linter.unusedVariables false
set_option linter.unusedSimpArgs false
open Go.RowKit Go.ChangeShapes Go.WideShapes Go.ChangeAt
set_option maxRecDepth 100000
theorem Opens.array {P : Program} {W : World} {t e : TypeId} {n : Nat} (ht : P.underlying t = some (.array n e)) {H : Type} {enc : TypeId × Value → H} {fuel : Nat} {cs : List Value} {x : DataW H × List MemPlace}
    (h : DataW.trod enc P W 0 (fun _ => true) true fuel t cs = some x) (hw : ∀ n ∈ x.1.weights P t, n ≤ reachBytes) :
    cs.length = P.cellsOf t ∧ ∀ i, i < n → ∀ {α : Type} {R : List Value → α → Prop}, Opens P W e R → ∃ a, R ((cs.drop (i * P.cellsOf e)).take (P.cellsOf e)) a := by
  obtain ⟨xs, m, rfl, rfl, hl, hlen, hf⟩ := DataW.trod_array ht h
  refine ⟨hl, fun i hi α R hR => ?_⟩
  have h1 := hf i hi
  have hi' : i < xs.length := by omega
  rw [List.getElem?_eq_getElem hi'] at h1
  refine hR H enc m _ _ h1 (fun k hk => hw k ?_)
  simp only [DataW.weights, ht]
  exact weightsAll_mem (List.mem_map.2 ⟨_, List.getElem_mem hi', rfl⟩) hk
theorem agg_of_array {v : Value} {W : World} {t e : TypeId} {n b : Nat} (ht : Tryd.prog.underlying t = some (.array n e)) (hv : Value.okWide Tryd.prog W .any b t v) : ∃ cs, v = .agg cs := by
  unfold Value.okWide at hv
  rw [ht] at hv
  cases v <;> first | exact ⟨_, rfl⟩ | simp at hv
/-- an argument that is two numbers -/
theorem arg_two {H : Type} {enc : TypeId × Value → H} {W : World} {base : Nat} {v : Value} {d : DataW H} {p : List MemPlace} (hv : Value.okWide Tryd.prog W .any base 44 v) (h : DataW.Trod enc Tryd.prog W 0 (fun _ => true) true 44 v d p)
    (hw : ∀ n ∈ d.weights Tryd.prog 44, n ≤ reachBytes) : ∃ a b : Int, v = .agg #[.int .i64 a, .int .i64 b] ∧ I64 a ∧ I64 b := by
  obtain ⟨cs, rfl⟩ := agg_of_array Tryd.underlying44 hv
  obtain ⟨fuel, h⟩ := h
  obtain ⟨hl, hf⟩ := Opens.array Tryd.underlying44 h hw
  rw [show Tryd.prog.cellsOf 44 = 2 by kernel_rfl] at hl
  obtain ⟨v0, v1, he⟩ := list_2 hl
  obtain ⟨a0, h0, s0⟩ := hf 0 (by decide) (Opens.int Tryd.underlying2)
  obtain ⟨a1, h1, s1⟩ := hf 1 (by decide) (Opens.int Tryd.underlying2)
  rw [he] at h0 h1
  simp [cells_int64] at h0 h1
  subst h0 h1
  refine ⟨a0, a1, ?_, bounds_i64 s0, bounds_i64 s1⟩
  have : cs = #[.int .i64 a0, .int .i64 a1] := Array.toList_inj.1 he
  rw [this]
/-- an argument that is a rate -/
theorem arg_rate {H : Type} {enc : TypeId × Value → H} {W : World} {base : Nat} {v : Value} {d : DataW H} {p : List MemPlace} (hv : Value.okWide Tryd.prog W .any base 22 v) (h : DataW.Trod enc Tryd.prog W 0 (fun _ => true) true 22 v d p)
    (hw : ∀ n ∈ d.weights Tryd.prog 22, n ≤ reachBytes) : ∃ k : Int, v = .int .u8 k ∧ 0 ≤ k ∧ k ≤ 255 := by
  obtain ⟨fuel, h⟩ := h
  obtain ⟨a, ha, hb⟩ := Opens.int Tryd.underlying22 H enc fuel _ _ h hw
  unfold Value.okWide at hv
  rw [Tryd.underlying22] at hv
  cases v with
  | agg cs => exact absurd hv (by unfold Cell.okWide; rw [Tryd.underlying22]; simp [Cell.ok])
  | _ => first | (refine ⟨a, ?_, (bounds_u8 hb).1, (bounds_u8 hb).2⟩; exact (List.cons.inj ha).1) | (simp at hv; done)
end Go.Proofs.YtffianmhojiomaaDoor
