/- What a join of two events comes to; appends of rows, at a step of a region that draws its order. -/
import Derived.Test.YtcgflkmkdpgchaaDoorECl
import Derived.Test.YtcgflkmkdpgchaaDoorLess
import Derived.Test.YtcgflkmkdpgchaaDoorSplit
import Derived.Deep.AppendLies
namespace Go.Proofs.YtcgflkmkdpgchaaDoor
set_option linter.unusedVariables false
set_option linter.unusedSimpArgs false
open Go.RowKit

def Ev.joinErr (x y : Ev) : Int := if lessB x y = false then 8 else if 4 < x.rows.length + y.rows.length then 9 else 0
def Ev.joined (x y : Ev) : Ev := { x with inn := min x.inn y.inn, out := max x.out y.out, rows := x.rows ++ y.rows }
def Ev.join (x y : Ev) : Ev := if x.joinErr y = 0 then x.joined y else Ev.zero
def JoinPost (x y : Ev) (w : World) (en : Ending) (w' : World) : Prop :=
  ∃ A n c, en = .returned (.tuple #[.agg ((x.join y).cells A n c), .int .i64 (x.joinErr y)]) ∧ n ≤ c ∧ n ≤ 4 ∧ RowsFresh w' w.heap.size A n (x.join y).rows ∧ Ext w w'

theorem run_appendS {α : Type} {f : α → List Value} {P : Program} (w : World) (t ty : TypeId) {base : Nat} {e : TypeId} {z : Value} {size bytes : Nat} (inf : (P.info? e).map (fun i => (i.zero, i.size, i.bytes)) = some (some z, size, bytes)) (ht : P.underlying t = some (.slice e)) (hzs : z.cells.size = size) (hsz : 0 < size)
    {v : Value} {n : Nat} {xs : List Value} (hown : w.ownsRow base e size v n xs) {A : Option Addr} {m c : Nat} {l : List α} (hS : Sl w size (Cells f) A m l) (hf : ∀ x, (f x).length = size) (h1 : ∀ x, ∀ u ∈ f x, u.oneCell' = true)
    (hroom : (n + m) * bytes ≤ 140737488355328) (hmax : n + m ≤ maxLen) (hbase : base ≤ w.heap.size) :
    ∃ v' w', (Builtin.append_ #[t, t] ty #[v, .slice A m c]).run P w = .ok v' w' ∧ w'.ownsRow base e size v' (n + m) (xs ++ l.flatMap f) ∧ w.grownBy w' v.ownBlock := by
  obtain ⟨i, hi, hz0, hz1, hz2⟩ := info_parts inf
  have hlen : (l.flatMap f).length = m * size := by rw [flatMap_len f size hf, hS.len]
  cases A with
  | none =>
    have hm : m = 0 := by
      rcases Nat.eq_zero_or_pos m with h0 | h0
      · exact h0
      · obtain ⟨_, _, h, _⟩ := hS.2 h0
        cases h
    subst hm
    obtain rfl : l = [] := List.eq_nil_of_length_eq_zero hS.len
    exact ⟨v, w, run_append_of_nil (P := P) w base t ty e i size ht hi v n xs hown c, by simpa using hown, World.grownBy.refl w _⟩
  | some ad =>
    obtain ⟨v', w', hrun, h2, h3, _, h5⟩ := run_append_own_at (P := P) w base t ty e i z size bytes ht hi hz0 hz1 hz2 hzs hsz v n xs hown ad m c (l.flatMap f) hlen (fun j u hu => by
      rcases Nat.eq_zero_or_pos m with h0 | h0
      · subst h0
        obtain rfl : l = [] := List.eq_nil_of_length_eq_zero hS.len
        simp at hu
      · obtain ⟨b, off, hA, hc⟩ := hS.2 h0
        cases hA
        exact sl_news hf hS.len hc j u hu) (flatMap_one h1 l) hmax hroom hbase
    exact ⟨v', w', hrun, h2, h3⟩

theorem wp_appendS {α : Type} {f : α → List Value} {P : Program} {o : Oper} {a : Act} {w : World} {K : Act → World → Prop} {Q : Exit → Act → World → Prop} (s x : Operand) (t : TypeId)
    (ho : o.op = .call { callee := .builtin .append, args := #[s, x], argTypes := #[t, t] })
    {base : Nat} {e : TypeId} {z : Value} {size bytes : Nat} (inf : (P.info? e).map (fun i => (i.zero, i.size, i.bytes)) = some (some z, size, bytes)) (ht : P.underlying t = some (.slice e)) (hzs : z.cells.size = size) (hsz : 0 < size)
    {v : Value} {n : Nat} {xs : List Value} (hown : w.ownsRow base e size v n xs) (hs : a.eval s = v) {A : Option Addr} {m c : Nat} {l : List α} (hx : a.eval x = .slice A m c) (hS : Sl w size (Cells f) A m l) (hf : ∀ x, (f x).length = size) (h1 : ∀ x, ∀ u ∈ f x, u.oneCell' = true)
    (hroom : (n + m) * bytes ≤ 140737488355328) (hmax : n + m ≤ maxLen) (hbase : base ≤ w.heap.size)
    (h : ∀ v' w', w'.ownsRow base e size v' (n + m) (xs ++ l.flatMap f) → w.grownBy w' v.ownBlock → K (a.put o.dst v') w') : o.wp P a w K Q := by
  obtain ⟨v', w', hrun, h2, h3⟩ := run_appendS (P := P) w t o.type inf ht hzs hsz hown (c := c) hS hf h1 hroom hmax hbase
  unfold Oper.wp execOp
  simp only [ho, resolve, invoke, builtin, Sem.run_bind, Sem.run_pure, Result.andThen_ok, List.map_toArray, List.map_cons, List.map_nil, hs, hx, hrun]
  exact h v' w' h2 h3

/-- at a step of a region that draws its order -/
theorem step_appendS {α : Type} {f : α → List Value} {P : Program} {ops : Array Oper} {o : Oper} {a : Act} {w : World} {K : Act → World → Prop} {Q : Exit → Act → World → Prop} {E : Prop} (hgd : o.guard = none) (s x : Operand) (t : TypeId)
    (ho : o.op = .call { callee := .builtin .append, args := #[s, x], argTypes := #[t, t] })
    {base : Nat} {e : TypeId} {z : Value} {size bytes : Nat} (inf : (P.info? e).map (fun i => (i.zero, i.size, i.bytes)) = some (some z, size, bytes)) (ht : P.underlying t = some (.slice e)) (hzs : z.cells.size = size) (hsz : 0 < size)
    {v : Value} {n : Nat} {xs : List Value} (hown : w.ownsRow base e size v n xs) (hs : a.eval s = v) {A : Option Addr} {m c : Nat} {l : List α} (hx : a.eval x = .slice A m c) (hS : Sl w size (Cells f) A m l) (hf : ∀ x, (f x).length = size) (h1 : ∀ x, ∀ u ∈ f x, u.oneCell' = true)
    (hroom : (n + m) * bytes ≤ 140737488355328) (hmax : n + m ≤ maxLen) (hbase : base ≤ w.heap.size)
    (h : ∀ v' w', w'.ownsRow base e size v' (n + m) (xs ++ l.flatMap f) → w.grownBy w' v.ownBlock → K (a.put o.dst v') w') :
    if Region.wanted o (yielded ops a.tmps) = true then Oper.wp P o a w K Q else E := by
  rw [if_pos (by simp [Region.wanted, hgd])]
  exact wp_appendS s x t ho inf ht hzs hsz hown hs hx hS hf h1 hroom hmax hbase h

theorem own_hds {w : World} {L m c : Nat} {A : Option Addr} {hs : List Hd} (hl : hs.length = m) (h : w.ownsRow L 43 1 (.slice A m c) m (hs.flatMap fun h => [Hd.val h])) : Sl w 1 (Cells fun h => [Hd.val h]) A m hs := by
  obtain ⟨A', c', hv, _, _, hsl, _⟩ := own_sl (f := fun h : Hd => [Hd.val h]) (size := 1) (fun _ => rfl) hl h
  injection hv with e1 e2 e3
  subst e1
  exact hsl

/-- a block of another type is as it was behind an append -/
theorem Blk.grown {w w1 : World} {g : Nat} {t T : TypeId} {cs : Array Value} {row : Option Nat} (h : Blk w g t cs) (hg : w.grownBy w1 row) (hr : ∀ q, row = some q → Typed w T q) (hne : t ≠ T) : Blk w1 g t cs := by
  refine (hg.block g h.lt (fun e => ?_)).trans h
  exact Typed.ne h.typed (hr g e.symm) hne rfl

theorem Good.grownT {w w1 : World} {hd : Hd} {r : Row} {row : Option Nat} {L : Nat} (g : Good w hd r) (hf : Fresh w 48 L hd.1) (hg : w.grownBy w1 row) (hr : ∀ q, row = some q → Typed w 43 q) : Good w1 hd r := by
  refine ⟨g.1, g.2.1, Sl.keep g.2.2 fun _ b off hA o x hx => ?_⟩
  have hT := (hf _ hA).2
  have hb : w1.heap[b]? = w.heap[b]? := hg.block b hT.lt (fun e => Typed.ne hT (hr b e.symm) (by decide) rfl)
  have key : ∀ q v, w.cell? ⟨b, q, none⟩ = some v → w1.cell? ⟨b, q, none⟩ = some v := fun q v hv => by rw [World.cell?_of_block (w := w) (w' := w1) (a := ⟨b, q, none⟩) hb]; exact hv
  exact ⟨key _ _ hx.1, key _ _ hx.2.1, key _ _ hx.2.2.1, key _ _ hx.2.2.2.1, key _ _ hx.2.2.2.2⟩

/-- rows of one's own, and others appended to them -/
theorem rows_append {w w1 : World} {L n m c : Nat} {A : Option Addr} {r1 r2 : List Row} {hs1 hs2 : List Hd} {v' : Value} (hown0 : w.ownsRow L 43 1 (.slice A n c) n (hs1.flatMap fun h => [Hd.val h])) (h1 : hs1.length = n) (h2 : hs2.length = m) (g1 : Goods w hs1 r1) (g2 : Goods w hs2 r2) (l1 : r1.length = n) (l2 : r2.length = m)
    (f1 : ∀ h ∈ hs1, Fresh w 48 L h.1) (f2 : ∀ h ∈ hs2, Fresh w 48 L h.1) (hown : w1.ownsRow L 43 1 v' (n + m) ((hs1.flatMap fun h => [Hd.val h]) ++ hs2.flatMap fun h => [Hd.val h])) (hg : w.grownBy w1 (Value.slice A n c).ownBlock) :
    ∃ A' c', v' = .slice A' (n + m) c' ∧ n + m ≤ c' ∧ RowsOwn w1 L A' (n + m) c' (r1 ++ r2) := by
  rw [← List.flatMap_append] at hown
  have hl : (hs1 ++ hs2).length = n + m := by rw [List.length_append, h1, h2]
  obtain ⟨A', c', rfl, hc, _, _, _⟩ := own_sl (f := fun h : Hd => [Hd.val h]) (size := 1) (fun _ => rfl) hl hown
  have hty := own_typed hown0
  refine ⟨A', c', rfl, hc, hs1 ++ hs2, hown, hl, fun i hd r a b => ?_, by rw [List.length_append, l1, l2], fun h hm => ?_⟩
  · by_cases hi : i < n
    · rw [List.getElem?_append_left (by omega)] at a b
      exact (g1 i hd r a b).grownT (f1 hd (List.mem_of_getElem? a)) hg hty
    · rw [List.getElem?_append_right (by omega)] at a b
      rw [h1] at a
      rw [l1] at b
      exact (g2 _ hd r a b).grownT (f2 hd (List.mem_of_getElem? a)) hg hty
  · rcases List.mem_append.1 hm with h3 | h3
    · exact (f1 h h3).grown hg hty (by decide)
    · exact (f2 h h3).grown hg hty (by decide)

/-- two cells in the midst of a block -/
theorem setCells_two {w : World} {g : Nat} {t : TypeId} {cs : Array Value} (h : Blk w g t cs) (i : Nat) (u1 u2 : Value) : w.setCells g i [u1, u2] = putB w g t ((cs.setIfInBounds i u1).setIfInBounds (i + 1) u2) := by
  simp only [World.setCells]
  rw [setCell_put h, setCell_put (h.put _), putB_putB]
theorem wpList_storeB2 {P : Program} {ops : Array Oper} {rest : List Oper} {op : Oper} {a : Act} {w : World} {Q : Exit → Act → World → Prop} (hgd : op.guard = none) (ty : TypeId) (x y : Operand) (ho : op.op = .store ty x y) (g i : Nat) (t : TypeId) (cs : Array Value) (u1 u2 : Value) (hx : a.eval x = .pointer (some ⟨g, i, none⟩)) (hy : a.eval y = .agg #[u1, u2])
    (hB : Blk w g t cs) (hl : i + 1 < cs.size) (hi : (P.info? ty).map (·.size) = some 2) (h1 : u1.oneCell' = true) (h2 : u2.oneCell' = true)
    (h : wpList P ops Q rest (a.put op.dst undef) (putB w g t ((cs.setIfInBounds i u1).setIfInBounds (i + 1) u2))) : wpList P ops Q (op :: rest) a w := by
  refine wpList_store_mid hgd ty x y ho g i #[u1, u2] hx hy (fun j hj => ?_) hi (by simp [h1, h2]) (by rw [show (#[u1, u2] : Array Value).toList = [u1, u2] from rfl, setCells_two hB]; exact h)
  rw [hB.cell, hB.frozen]
  have : j < 2 := hj
  exact ⟨by simp; omega, rfl⟩

theorem size_span : (Tryd.prog.info? 23).map (·.size) = some 2 := by kernel_rfl
theorem joinErr_post {x y : Ev} {w : World} {en : Ending} {w' : World} (hk : x.joinErr y ≠ 0) (h : en = .returned (.tuple #[.agg evZero, .int .i64 (x.joinErr y)])) (hx : Ext w w') : JoinPost x y w en w' := by
  have e1 : x.join y = Ev.zero := if_neg hk
  refine ⟨none, 0, 0, ?_, Nat.le_refl _, by omega, ?_, hx⟩
  · rw [e1]; exact h
  · rw [e1]; exact RowsFresh.nil _ _ 0
end Go.Proofs.YtcgflkmkdpgchaaDoor
