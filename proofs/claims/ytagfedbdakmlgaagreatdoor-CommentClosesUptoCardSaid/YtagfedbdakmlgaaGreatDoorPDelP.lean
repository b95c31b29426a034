/- Rows of one's own under an append with room and a clear. -/
import Derived.Test.YtagfedbdakmlgaaGreatDoorPCloseP
namespace Go.Proofs.YtagfedbdakmlgaaGreatDoor
set_option linter.unusedVariables false
set_option linter.unusedSimpArgs false
open Go.RowKit

theorem setRow_put {w : World} {g : Nat} {t : TypeId} {cs cs' : Array Value} (h : Blk w g t cs) : w.setRow g cs' = putB w g t cs' := by
  unfold World.setRow putB
  congr 1
  apply Array.ext_getElem?
  intro i
  by_cases hi : g = i
  · subst hi
    rw [Array.getElem?_modify, if_pos rfl, h, Array.getElem?_setIfInBounds_self_of_lt h.lt]
    rfl
  · rw [Array.getElem?_modify, if_neg hi, Array.getElem?_setIfInBounds_ne hi]
/-- append where there is room, at a block that is known whole -/
theorem wp_append_room {P : Program} {o : Oper} {a : Act} {w : World} {K : Act → World → Prop} {Q : Exit → Act → World → Prop} (s x : Operand) (t : TypeId)
    (ho : o.op = .call { callee := .builtin .append, args := #[s, x], argTypes := #[t, t] }) {e : TypeId} {z : Value} {size bytes : Nat} (inf : (P.info? e).map (fun i => (i.zero, i.size, i.bytes)) = some (some z, size, bytes)) (ht : P.underlying t = some (.slice e))
    {g n cap : Nat} {cur : Array Value} (hB : Blk w g e cur) (hs : a.eval s = .slice (some ⟨g, 0, none⟩) n cap) {ad : Addr} {m c : Nat} {news : List Value} (hx : a.eval x = .slice (some ad) m c) (hl : news.length = m * size) (hnews : ∀ j u, news[j]? = some u → w.cell? (ad.add j) = some u)
    (h1 : ∀ u ∈ news, u.oneCell' = true) (hroom : n + m ≤ cap) (hfit : n * size + news.length ≤ cur.size)
    (h : K (a.put o.dst (.slice (some ⟨g, 0, none⟩) (n + m) cap)) (putB w g e (cur.toList.take (n * size) ++ news ++ cur.toList.drop (n * size + news.length)).toArray)) : o.wp P a w K Q := by
  obtain ⟨i, hi, hz0, hz1, hz2⟩ := info_parts inf
  subst hz1
  have hrun := run_append_room (P := P) w t o.type e i ht hi g n cap cur hB ad m c news hl hnews h1 hroom hfit
  rw [setRow_put hB] at hrun
  unfold Oper.wp execOp
  simp only [ho, resolve, invoke, builtin, Sem.run_bind, Sem.run_pure, Result.andThen_ok, List.map_toArray, List.map_cons, List.map_nil, hs, hx, hrun]
  exact h
theorem zeroCells_one (z : Array Value) (n : Nat) (h : z.all (·.oneCell') = true) : ∀ u ∈ (Builtin.zeroCells z n).toList, u.oneCell' = true := by
  intro u hu
  unfold Builtin.zeroCells at hu
  rw [Array.mem_toList_iff, Array.mem_map] at hu
  obtain ⟨i, hi, rfl⟩ := hu
  cases hz : z.size with
  | zero => rw [Array.mem_range] at hi; rw [hz] at hi; simp at hi
  | succ m =>
    have hlt : i % z.size < z.size := Nat.mod_lt _ (by omega)
    rw [hz] at hlt
    rw [getElem!_pos z (i % (m + 1)) (by omega)]
    exact (Array.all_eq_true_iff_forall_mem.1 h) _ (Array.getElem_mem _)
/-- clear, at a block that is known whole: what lies ahead stays -/
theorem run_clear_blk {P : Program} {w : World} {t e ty : TypeId} {z : Value} (ht : P.underlying t = some (.slice e)) (hv : ∀ w, (zeroValue e).run P w = .ok z w) (h1 : z.cells.all (·.oneCell') = true) {g o n c : Nat} {cur : Array Value} (hB : Blk w g e cur) (hfit : o + n * z.cells.size ≤ cur.size) :
    ∃ cur' : Array Value, cur'.size = cur.size ∧ cur'.toList.take o = cur.toList.take o ∧ (Builtin.clear_ #[t] ty #[.slice (some ⟨g, o, none⟩) n c]).run P w = .ok (.tuple #[]) (putB w g e cur') := by
  cases n with
  | zero =>
    refine ⟨cur, rfl, rfl, ?_⟩
    rw [putB_same hB]
    simp [Builtin.clear_, run_underlying ht]
  | succ n =>
    have hsz : (Builtin.zeroCells z.cells (n + 1)).toList.length = (n + 1) * z.cells.size := by simp [Builtin.zeroCells]
    have hst := run_storeCells_at P g o e (Builtin.zeroCells z.cells (n + 1)).toList 0 cur w hB (by rw [hsz]; simpa using hfit) (zeroCells_one _ _ h1)
    simp only [Nat.add_zero] at hst
    rw [setRow_put hB] at hst
    refine ⟨(cur.toList.take o ++ (Builtin.zeroCells z.cells (n + 1)).toList ++ cur.toList.drop (o + (Builtin.zeroCells z.cells (n + 1)).toList.length)).toArray, ?_, ?_, ?_⟩
    · simp [Builtin.zeroCells]; omega
    · rw [List.append_assoc, List.take_append_of_le_length (by simp; omega), List.take_take, Nat.min_self]
    · simp [Builtin.clear_, run_underlying ht, hv, hst]
theorem wpList_clear_blk {P : Program} {ops : Array Oper} {rest : List Oper} {o : Oper} {a : Act} {w : World} {Q : Exit → Act → World → Prop} (hgd : o.guard = none) (s : Operand) (t : TypeId) (ho : o.op = .call { callee := .builtin .clear, args := #[s], argTypes := #[t] })
    {e : TypeId} {z : Value} (ht : P.underlying t = some (.slice e)) (hv : ∀ w, (zeroValue e).run P w = .ok z w) (h1 : z.cells.all (·.oneCell') = true) {g f n c : Nat} {cur : Array Value} (hs : a.eval s = .slice (some ⟨g, f, none⟩) n c) (hB : Blk w g e cur) (hfit : f + n * z.cells.size ≤ cur.size)
    (h : ∀ cur' : Array Value, cur'.size = cur.size → cur'.toList.take f = cur.toList.take f → wpList P ops Q rest (a.put o.dst (.tuple #[])) (putB w g e cur')) : wpList P ops Q (o :: rest) a w := by
  obtain ⟨cur', h2, h3, hrun⟩ := run_clear_blk (P := P) (ty := o.type) (c := c) ht hv h1 hB hfit
  refine wpList_plain hgd fun K hK => ?_
  unfold Oper.wp execOp
  simp only [ho, resolve, invoke, builtin, Sem.run_bind, Sem.run_pure, Result.andThen_ok, List.map_toArray, List.map_cons, List.map_nil, hs, hrun]
  exact hK _ _ (h cur' h2 h3)
end Go.Proofs.YtagfedbdakmlgaaGreatDoor
