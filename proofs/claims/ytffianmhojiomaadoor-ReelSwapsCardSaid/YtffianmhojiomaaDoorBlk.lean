/- Blocks that are known whole: what loads and stores do to them, in whatever world. -/
import Derived.Test.YtffianmhojiomaaDoorBase
import Derived.Deep.MidRow
namespace Go.Proofs.YtffianmhojiomaaDoor
set_option linter.unusedVariables false
set_option linter.unusedSimpArgs false
open Go.RowKit

/-- block g is just the cells cs of element type t, none frozen -/
def Blk (w : World) (g : Nat) (t : TypeId) (cs : Array Value) : Prop := w.heap[g]? = some (.cells cs t (0, 0))
/-- the world with block g put anew -/
def putB (w : World) (g : Nat) (t : TypeId) (cs : Array Value) : World := { w with heap := w.heap.setIfInBounds g (.cells cs t (0, 0)) }

section
variable {w w1 : World} {g : Nat} {t : TypeId} {cs : Array Value}
theorem Blk.lt (h : Blk w g t cs) : g < w.heap.size := (Array.getElem?_eq_some_iff.1 h).1
theorem Blk.cell (h : Blk w g t cs) (i : Nat) : w.cell? ⟨g, i, none⟩ = cs[i]? := by simp [World.cell?, show w.heap[g]? = _ from h]
theorem Blk.frozen (h : Blk w g t cs) (i : Nat) : w.frozen? ⟨g, i, none⟩ = false := by simp [World.frozen?, show w.heap[g]? = _ from h]
theorem Blk.new (w : World) (t : TypeId) (cs : Array Value) : Blk (w.alloc (.cells cs t)) w.heap.size t cs := by
  show (w.heap.push _)[w.heap.size]? = _
  simp
theorem Blk.new' (hg : g = w.heap.size) : Blk (w.alloc (.cells cs t)) g t cs := by subst hg; exact Blk.new w t cs
theorem Blk.ext (h : Blk w g t cs) (k : Ext w w1) : Blk w1 g t cs := (k.block g h.lt).trans h
theorem Blk.alloc (h : Blk w g t cs) (o : Obj) : Blk (w.alloc o) g t cs := h.ext ((Ext.refl w).alloc o)
theorem Blk.drew (h : Blk w g t cs) : Blk w.drew g t cs := h
theorem Blk.drewN (h : Blk w g t cs) (n : Nat) : Blk (w.drewN n) g t cs := h
theorem Blk.put (h : Blk w g t cs) (cs' : Array Value) : Blk (putB w g t cs') g t cs' := by
  unfold Blk putB
  simp [h.lt]
theorem Blk.put_other {g' : Nat} {t' : TypeId} (h : Blk w g t cs) (hne : g' ≠ g) (cs' : Array Value) : Blk (putB w g' t' cs') g t cs := by
  unfold Blk putB
  simp only
  rw [Array.getElem?_setIfInBounds_ne hne]
  exact h
theorem putB_size (w : World) (g : Nat) (t : TypeId) (cs : Array Value) : (putB w g t cs).heap.size = w.heap.size := by simp [putB]
theorem putB_cell_other {p : Addr} (hne : p.block ≠ g) : (putB w g t cs).cell? p = w.cell? p := by
  unfold World.cell? putB
  simp only
  rw [Array.getElem?_setIfInBounds_ne (Ne.symm hne)]
theorem Ext.put {w0 : World} (h : Ext w0 w) (hg : w0.heap.size ≤ g) (t : TypeId) (cs : Array Value) : Ext w0 (putB w g t cs) :=
  ⟨h.os, h.tape, h.output, by rw [putB_size]; exact h.size, fun k hk => by
    unfold putB
    simp only
    rw [Array.getElem?_setIfInBounds_ne (by omega)]
    exact h.block k hk⟩

theorem heap_ext {w w' : World} (h1 : w'.heap = w.heap) (h2 : { w with heap := w'.heap } = w') : w' = w := by rw [← h2, h1]

theorem setCell_put (h : Blk w g t cs) (i : Nat) (u : Value) : w.setCell ⟨g, i, none⟩ u = putB w g t (cs.setIfInBounds i u) := by
  unfold World.setCell putB
  congr 1
  apply Array.ext_getElem?
  intro j
  rw [Array.getElem?_modify]
  by_cases hj : g = j
  · subst hj
    simp only [if_true, show w.heap[g]? = _ from h, Option.map_some]
    rw [Array.getElem?_setIfInBounds_self_of_lt h.lt]
    simp
  · rw [if_neg hj, Array.getElem?_setIfInBounds_ne hj]

theorem putB_putB (w : World) (g : Nat) (t t' : TypeId) (cs cs' : Array Value) : putB (putB w g t cs) g t' cs' = putB w g t' cs' := by
  unfold putB
  simp

theorem putB_same (h : Blk w g t cs) : putB w g t cs = w := by
  have e : w.heap.setIfInBounds g (.cells cs t (0, 0)) = w.heap := by
    apply Array.ext_getElem?
    intro j
    by_cases hj : g = j
    · subst hj
      rw [Array.getElem?_setIfInBounds_self_of_lt h.lt]; exact h.symm
    · rw [Array.getElem?_setIfInBounds_ne hj]
  unfold putB
  rw [e]

theorem setCells_put : ∀ (vs pre old : List Value) (w : World), Blk w g t (pre ++ old).toArray → old.length = vs.length →
    w.setCells g pre.length vs = putB w g t (pre ++ vs).toArray
  | [], pre, old, w, h, hl => by
    obtain rfl : old = [] := List.eq_nil_of_length_eq_zero hl
    simp only [World.setCells]
    exact (putB_same h).symm
  | v :: vs, pre, [], w, h, hl => by simp at hl
  | v :: vs, pre, x :: old, w, h, hl => by
    simp only [World.setCells]
    have e : ((pre ++ x :: old).toArray).setIfInBounds pre.length v = (pre ++ [v] ++ old).toArray := by
      apply Array.ext'
      simp [List.set_append]
    rw [setCell_put h, e]
    have h2 := setCells_put vs (pre ++ [v]) old _ (by rw [← e]; exact h.put _) (by simpa using hl)
    rw [List.length_append] at h2
    simp only [List.length_cons, List.length_nil, Nat.zero_add] at h2
    rw [← e, h2, putB_putB]
    simp

theorem setCells_all (h : Blk w g t cs) (cs' : Array Value) (hl : cs.size = cs'.size) : w.setCells g 0 cs'.toList = putB w g t cs' := by
  have h' : Blk w g t ([] ++ cs.toList).toArray := by simpa using h
  have := setCells_put cs'.toList [] cs.toList w h' (by simpa using hl)
  simpa using this
end

section
variable {P : Program} {ops : Array Oper} {rest : List Oper} {op : Oper} {a : Act} {w : World} {Q : Exit → Act → World → Prop}
/-- a whole struct is stored into its block -/
theorem wpList_storeB (hgd : op.guard = none) (ty : TypeId) (x y : Operand) (ho : op.op = .store ty x y) (g : Nat) (t : TypeId) (cs cs' : Array Value) (hx : a.eval x = .pointer (some ⟨g, 0, none⟩)) (hy : a.eval y = .agg cs')
    (hB : Blk w g t cs) (hl : cs.size = cs'.size) (hi : (P.info? ty).map (·.size) = some cs'.size) (h1 : cs'.all (·.oneCell') = true)
    (h : wpList P ops Q rest (a.put op.dst undef) (putB w g t cs')) : wpList P ops Q (op :: rest) a w := by
  refine wpList_store_mid hgd ty x y ho g 0 cs' hx hy (fun j hj => ?_) hi h1 (by rw [setCells_all hB cs' hl]; exact h)
  rw [hB.cell, hB.frozen]
  exact ⟨by simp; omega, rfl⟩
/-- a whole struct is read out of its block -/
theorem wpList_loadB (hgd : op.guard = none) (ty : TypeId) (x : Operand) (ho : op.op = .load ty x) (g : Nat) (t : TypeId) (cs : Array Value) (d : TypeDesc) (hx : a.eval x = .pointer (some ⟨g, 0, none⟩))
    (hB : Blk w g t cs) (hu : P.underlying ty = some d) (hd : d.isRow = true) (hi : (P.info? ty).map (·.size) = some cs.size)
    (h : wpList P ops Q rest (a.put op.dst (.agg cs)) w) : wpList P ops Q (op :: rest) a w := by
  refine wpList_load_mid hgd ty x ho g 0 hx cs.toList d (fun j v hv => ?_) hu hd (by simpa using hi) (by simpa using h)
  rw [hB.cell]
  simpa using hv
theorem run_loadVarB {w : World} (g : Nat) (t : TypeId) (ty : TypeId) (cs : Array Value) (d : TypeDesc) (hB : Blk w g t cs) (hu : P.underlying ty = some d) (hd : d.isRow = true) (hi : (P.info? ty).map (·.size) = some cs.size) :
    (loadVar ty ⟨g, 0, none⟩).run P w = .ok (.agg cs) w := by
  have := run_loadVar_mid (P := P) w g 0 ty cs.toList d (fun j v hv => by rw [hB.cell]; simpa using hv) hu hd (by simpa using hi)
  simpa using this

theorem run_asAddr (w : World) (p : Addr) : (asAddr (.pointer (some p))).run P w = .ok p w := by simp [asAddr]
/-- results: a struct that lies in its block; with a slot behind it; two of them with a slot behind them -/
theorem results_B {fn : Func} {p : Tmp} {ty : TypeId} (h : fn.results = #[.cell p ty]) {tmps : Array Value} {w : World} {g : Nat} {t : TypeId} {cs : Array Value} {d : TypeDesc} (hp : tmps.getD p undef = .pointer (some ⟨g, 0, none⟩))
    (hB : Blk w g t cs) (hu : P.underlying ty = some d) (hd : d.isRow = true) (hi : (P.info? ty).map (·.size) = some cs.size) : (results fn tmps).run P w = .ok (.agg cs) w := by
  have h1 := run_loadVarB (P := P) g t ty cs d hB hu hd hi
  simp only [results, h]
  have e : tmps[p]?.getD undef = .pointer (some ⟨g, 0, none⟩) := by simpa using hp
  simp [Sem.run_bind, e, run_asAddr, h1]
theorem results_B_tmp {fn : Func} {p u : Tmp} {ty : TypeId} (h : fn.results = #[.cell p ty, .tmp u]) {tmps : Array Value} {w : World} {g : Nat} {t : TypeId} {cs : Array Value} {d : TypeDesc} (hp : tmps.getD p undef = .pointer (some ⟨g, 0, none⟩))
    (hB : Blk w g t cs) (hu : P.underlying ty = some d) (hd : d.isRow = true) (hi : (P.info? ty).map (·.size) = some cs.size) : (results fn tmps).run P w = .ok (.tuple #[.agg cs, tmps.getD u undef]) w := by
  have h1 := run_loadVarB (P := P) g t ty cs d hB hu hd hi
  simp only [results, h]
  have e : tmps[p]?.getD undef = .pointer (some ⟨g, 0, none⟩) := by simpa using hp
  simp [Sem.run_bind, e, run_asAddr, h1]
theorem results_BB_tmp {fn : Func} {p p' u : Tmp} {ty ty' : TypeId} (h : fn.results = #[.cell p ty, .cell p' ty', .tmp u]) {tmps : Array Value} {w : World} {g g' : Nat} {t t' : TypeId} {cs cs' : Array Value} {d d' : TypeDesc}
    (hp : tmps.getD p undef = .pointer (some ⟨g, 0, none⟩)) (hp' : tmps.getD p' undef = .pointer (some ⟨g', 0, none⟩))
    (hB : Blk w g t cs) (hu : P.underlying ty = some d) (hd : d.isRow = true) (hi : (P.info? ty).map (·.size) = some cs.size)
    (hB' : Blk w g' t' cs') (hu' : P.underlying ty' = some d') (hd' : d'.isRow = true) (hi' : (P.info? ty').map (·.size) = some cs'.size) : (results fn tmps).run P w = .ok (.tuple #[.agg cs, .agg cs', tmps.getD u undef]) w := by
  have h1 := run_loadVarB (P := P) g t ty cs d hB hu hd hi
  have h2 := run_loadVarB (P := P) g' t' ty' cs' d' hB' hu' hd' hi'
  simp only [results, h]
  have e : tmps[p]?.getD undef = .pointer (some ⟨g, 0, none⟩) := by simpa using hp
  have e' : tmps[p']?.getD undef = .pointer (some ⟨g', 0, none⟩) := by simpa using hp'
  simp [Sem.run_bind, e, e', run_asAddr, h1, h2]
end
end Go.Proofs.YtffianmhojiomaaDoor
