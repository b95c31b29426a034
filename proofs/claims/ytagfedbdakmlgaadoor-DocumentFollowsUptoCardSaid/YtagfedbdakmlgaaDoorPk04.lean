/- Laid together: Blocks that are known whole: what loads and stores do to them, in whatever world. Slices that a call makes by append: what they hold, as slices that read as lists. The walk of lines.Name. The walks of package region (from, Default, Check, usable, Find, Place). Go's == on the structs of package api, as the equality of plain data. The walks of package style (Valid, alike, Len, Plain). The walks of package style (Plain, Check). -/
import Derived.Test.YtagfedbdakmlgaaDoorPk03
import Derived.Test.YtagfedbdakmlgaaDoorPk01
import Derived.Deep.MidRow
import Derived.Maps.AppendAt

/-! Blk -/
namespace Go.Proofs.YtagfedbdakmlgaaDoor
set_option linter.unusedVariables false
set_option linter.unusedSimpArgs false
open Go.RowKit

/-- block g is just the cells cs of element type t, none frozen -/
def Blk (w : World) (g : Nat) (t : TypeId) (cs : Array Value) : Prop := w.heap[g]? = some (.cells cs t (0, 0))
/-- the world with block g put anew -/
def putB (w : World) (g : Nat) (t : TypeId) (cs : Array Value) : World := { w with heap := w.heap.setIfInBounds g (.cells cs t (0, 0)) }

section
variable {w w1 : World} {g : Nat} {t : TypeId} {cs : Array Value}
theorem Blk.lt (h : Blk w g t cs) : g < w.heap.size := (Array.getElem?_eq_some_iff.1 h).1
theorem Blk.cell (h : Blk w g t cs) (i : Nat) : w.cell? ⟨g, i, none⟩ = cs[i]? := by simp [World.cell?, show w.heap[g]? = _ from h]
theorem Blk.frozen (h : Blk w g t cs) (i : Nat) : w.frozen? ⟨g, i, none⟩ = false := by simp [World.frozen?, show w.heap[g]? = _ from h]
theorem Blk.new (w : World) (t : TypeId) (cs : Array Value) : Blk (w.alloc (.cells cs t)) w.heap.size t cs := by
  show (w.heap.push _)[w.heap.size]? = _
  simp
theorem Blk.new' (hg : g = w.heap.size) : Blk (w.alloc (.cells cs t)) g t cs := by subst hg; exact Blk.new w t cs
theorem Blk.ext (h : Blk w g t cs) (k : Ext w w1) : Blk w1 g t cs := (k.block g h.lt).trans h
theorem Blk.alloc (h : Blk w g t cs) (o : Obj) : Blk (w.alloc o) g t cs := h.ext ((Ext.refl w).alloc o)
theorem Blk.drew (h : Blk w g t cs) : Blk w.drew g t cs := h
theorem Blk.drewN (h : Blk w g t cs) (n : Nat) : Blk (w.drewN n) g t cs := h
theorem Blk.put (h : Blk w g t cs) (cs' : Array Value) : Blk (putB w g t cs') g t cs' := by
  unfold Blk putB
  simp [h.lt]
theorem Blk.put_other {g' : Nat} {t' : TypeId} (h : Blk w g t cs) (hne : g' ≠ g) (cs' : Array Value) : Blk (putB w g' t' cs') g t cs := by
  unfold Blk putB
  simp only
  rw [Array.getElem?_setIfInBounds_ne hne]
  exact h
theorem putB_size (w : World) (g : Nat) (t : TypeId) (cs : Array Value) : (putB w g t cs).heap.size = w.heap.size := by simp [putB]
theorem putB_cell_other {p : Addr} (hne : p.block ≠ g) : (putB w g t cs).cell? p = w.cell? p := by
  unfold World.cell? putB
  simp only
  rw [Array.getElem?_setIfInBounds_ne (Ne.symm hne)]
theorem Ext.put {w0 : World} (h : Ext w0 w) (hg : w0.heap.size ≤ g) (t : TypeId) (cs : Array Value) : Ext w0 (putB w g t cs) :=
  ⟨h.os, h.tape, h.output, by rw [putB_size]; exact h.size, fun k hk => by
    unfold putB
    simp only
    rw [Array.getElem?_setIfInBounds_ne (by omega)]
    exact h.block k hk⟩

theorem heap_ext {w w' : World} (h1 : w'.heap = w.heap) (h2 : { w with heap := w'.heap } = w') : w' = w := by rw [← h2, h1]

theorem setCell_put (h : Blk w g t cs) (i : Nat) (u : Value) : w.setCell ⟨g, i, none⟩ u = putB w g t (cs.setIfInBounds i u) := by
  unfold World.setCell putB
  congr 1
  apply Array.ext_getElem?
  intro j
  rw [Array.getElem?_modify]
  by_cases hj : g = j
  · subst hj
    simp only [if_true, show w.heap[g]? = _ from h, Option.map_some]
    rw [Array.getElem?_setIfInBounds_self_of_lt h.lt]
    simp
  · rw [if_neg hj, Array.getElem?_setIfInBounds_ne hj]

theorem putB_putB (w : World) (g : Nat) (t t' : TypeId) (cs cs' : Array Value) : putB (putB w g t cs) g t' cs' = putB w g t' cs' := by
  unfold putB
  simp

theorem putB_same (h : Blk w g t cs) : putB w g t cs = w := by
  have e : w.heap.setIfInBounds g (.cells cs t (0, 0)) = w.heap := by
    apply Array.ext_getElem?
    intro j
    by_cases hj : g = j
    · subst hj
      rw [Array.getElem?_setIfInBounds_self_of_lt h.lt]; exact h.symm
    · rw [Array.getElem?_setIfInBounds_ne hj]
  unfold putB
  rw [e]

theorem setCells_put : ∀ (vs pre old : List Value) (w : World), Blk w g t (pre ++ old).toArray → old.length = vs.length →
    w.setCells g pre.length vs = putB w g t (pre ++ vs).toArray
  | [], pre, old, w, h, hl => by
    obtain rfl : old = [] := List.eq_nil_of_length_eq_zero hl
    simp only [World.setCells]
    exact (putB_same h).symm
  | v :: vs, pre, [], w, h, hl => by simp at hl
  | v :: vs, pre, x :: old, w, h, hl => by
    simp only [World.setCells]
    have e : ((pre ++ x :: old).toArray).setIfInBounds pre.length v = (pre ++ [v] ++ old).toArray := by
      apply Array.ext'
      simp [List.set_append]
    rw [setCell_put h, e]
    have h2 := setCells_put vs (pre ++ [v]) old _ (by rw [← e]; exact h.put _) (by simpa using hl)
    rw [List.length_append] at h2
    simp only [List.length_cons, List.length_nil, Nat.zero_add] at h2
    rw [← e, h2, putB_putB]
    simp

theorem setCells_all (h : Blk w g t cs) (cs' : Array Value) (hl : cs.size = cs'.size) : w.setCells g 0 cs'.toList = putB w g t cs' := by
  have h' : Blk w g t ([] ++ cs.toList).toArray := by simpa using h
  have := setCells_put cs'.toList [] cs.toList w h' (by simpa using hl)
  simpa using this
end

section
variable {P : Program} {ops : Array Oper} {rest : List Oper} {op : Oper} {a : Act} {w : World} {Q : Exit → Act → World → Prop}
/-- a whole struct is stored into its block -/
theorem wpList_storeB (hgd : op.guard = none) (ty : TypeId) (x y : Operand) (ho : op.op = .store ty x y) (g : Nat) (t : TypeId) (cs cs' : Array Value) (hx : a.eval x = .pointer (some ⟨g, 0, none⟩)) (hy : a.eval y = .agg cs')
    (hB : Blk w g t cs) (hl : cs.size = cs'.size) (hi : (P.info? ty).map (·.size) = some cs'.size) (h1 : cs'.all (·.oneCell') = true)
    (h : wpList P ops Q rest (a.put op.dst undef) (putB w g t cs')) : wpList P ops Q (op :: rest) a w := by
  refine wpList_store_mid hgd ty x y ho g 0 cs' hx hy (fun j hj => ?_) hi h1 (by rw [setCells_all hB cs' hl]; exact h)
  rw [hB.cell, hB.frozen]
  exact ⟨by simp; omega, rfl⟩
/-- a whole struct is read out of its block -/
theorem wpList_loadB (hgd : op.guard = none) (ty : TypeId) (x : Operand) (ho : op.op = .load ty x) (g : Nat) (t : TypeId) (cs : Array Value) (d : TypeDesc) (hx : a.eval x = .pointer (some ⟨g, 0, none⟩))
    (hB : Blk w g t cs) (hu : P.underlying ty = some d) (hd : d.isRow = true) (hi : (P.info? ty).map (·.size) = some cs.size)
    (h : wpList P ops Q rest (a.put op.dst (.agg cs)) w) : wpList P ops Q (op :: rest) a w := by
  refine wpList_load_mid hgd ty x ho g 0 hx cs.toList d (fun j v hv => ?_) hu hd (by simpa using hi) (by simpa using h)
  rw [hB.cell]
  simpa using hv
theorem run_loadVarB {w : World} (g : Nat) (t : TypeId) (ty : TypeId) (cs : Array Value) (d : TypeDesc) (hB : Blk w g t cs) (hu : P.underlying ty = some d) (hd : d.isRow = true) (hi : (P.info? ty).map (·.size) = some cs.size) :
    (loadVar ty ⟨g, 0, none⟩).run P w = .ok (.agg cs) w := by
  have := run_loadVar_mid (P := P) w g 0 ty cs.toList d (fun j v hv => by rw [hB.cell]; simpa using hv) hu hd (by simpa using hi)
  simpa using this

theorem run_asAddr (w : World) (p : Addr) : (asAddr (.pointer (some p))).run P w = .ok p w := by simp [asAddr]
/-- results: a struct that lies in its block; with a slot behind it; two of them with a slot behind them -/
theorem results_B {fn : Func} {p : Tmp} {ty : TypeId} (h : fn.results = #[.cell p ty]) {tmps : Array Value} {w : World} {g : Nat} {t : TypeId} {cs : Array Value} {d : TypeDesc} (hp : tmps.getD p undef = .pointer (some ⟨g, 0, none⟩))
    (hB : Blk w g t cs) (hu : P.underlying ty = some d) (hd : d.isRow = true) (hi : (P.info? ty).map (·.size) = some cs.size) : (results fn tmps).run P w = .ok (.agg cs) w := by
  have h1 := run_loadVarB (P := P) g t ty cs d hB hu hd hi
  simp only [results, h]
  have e : tmps[p]?.getD undef = .pointer (some ⟨g, 0, none⟩) := by simpa using hp
  simp [Sem.run_bind, e, run_asAddr, h1]
theorem results_B_tmp {fn : Func} {p u : Tmp} {ty : TypeId} (h : fn.results = #[.cell p ty, .tmp u]) {tmps : Array Value} {w : World} {g : Nat} {t : TypeId} {cs : Array Value} {d : TypeDesc} (hp : tmps.getD p undef = .pointer (some ⟨g, 0, none⟩))
    (hB : Blk w g t cs) (hu : P.underlying ty = some d) (hd : d.isRow = true) (hi : (P.info? ty).map (·.size) = some cs.size) : (results fn tmps).run P w = .ok (.tuple #[.agg cs, tmps.getD u undef]) w := by
  have h1 := run_loadVarB (P := P) g t ty cs d hB hu hd hi
  simp only [results, h]
  have e : tmps[p]?.getD undef = .pointer (some ⟨g, 0, none⟩) := by simpa using hp
  simp [Sem.run_bind, e, run_asAddr, h1]
theorem results_BB_tmp {fn : Func} {p p' u : Tmp} {ty ty' : TypeId} (h : fn.results = #[.cell p ty, .cell p' ty', .tmp u]) {tmps : Array Value} {w : World} {g g' : Nat} {t t' : TypeId} {cs cs' : Array Value} {d d' : TypeDesc}
    (hp : tmps.getD p undef = .pointer (some ⟨g, 0, none⟩)) (hp' : tmps.getD p' undef = .pointer (some ⟨g', 0, none⟩))
    (hB : Blk w g t cs) (hu : P.underlying ty = some d) (hd : d.isRow = true) (hi : (P.info? ty).map (·.size) = some cs.size)
    (hB' : Blk w g' t' cs') (hu' : P.underlying ty' = some d') (hd' : d'.isRow = true) (hi' : (P.info? ty').map (·.size) = some cs'.size) : (results fn tmps).run P w = .ok (.tuple #[.agg cs, .agg cs', tmps.getD u undef]) w := by
  have h1 := run_loadVarB (P := P) g t ty cs d hB hu hd hi
  have h2 := run_loadVarB (P := P) g' t' ty' cs' d' hB' hu' hd' hi'
  simp only [results, h]
  have e : tmps[p]?.getD undef = .pointer (some ⟨g, 0, none⟩) := by simpa using hp
  have e' : tmps[p']?.getD undef = .pointer (some ⟨g', 0, none⟩) := by simpa using hp'
  simp [Sem.run_bind, e, e', run_asAddr, h1, h2]
end
end Go.Proofs.YtagfedbdakmlgaaDoor

/-! Own -/
namespace Go.Proofs.YtagfedbdakmlgaaDoor
set_option linter.unusedVariables false
set_option linter.unusedSimpArgs false
open Go.RowKit

/-- the cells of an element lie from offset o of block b on -/
def Cells {α : Type} (f : α → List Value) (w : World) (b o : Nat) (x : α) : Prop := ∀ j u, (f x)[j]? = some u → w.cell? ⟨b, o + j, none⟩ = some u
theorem Cells.stays {α : Type} (f : α → List Value) : Stays (Cells f) := fun _ _ _ _ _ k h j u hu => k.cell (h j u hu)

theorem flatMap_at {α : Type} (f : α → List Value) (size : Nat) (hf : ∀ x, (f x).length = size) : ∀ (l : List α) (i : Nat) (x : α) (j : Nat), l[i]? = some x → j < size → (l.flatMap f)[i * size + j]? = (f x)[j]?
  | [], i, x, j, h, _ => by simp at h
  | a :: l, 0, x, j, h, hj => by
    simp at h
    subst h
    rw [List.flatMap_cons, List.getElem?_append_left (by rw [hf]; omega)]
    simp
  | a :: l, i + 1, x, j, h, hj => by
    rw [List.flatMap_cons, List.getElem?_append_right (by rw [hf, Nat.succ_mul]; omega)]
    rw [show (i + 1) * size + j - (f a).length = i * size + j by rw [hf, Nat.succ_mul]; omega]
    exact flatMap_at f size hf l i x j (by simpa using h) hj

theorem flatMap_len {α : Type} (f : α → List Value) (size : Nat) (hf : ∀ x, (f x).length = size) : ∀ l : List α, (l.flatMap f).length = l.length * size
  | [] => by simp
  | a :: l => by rw [List.flatMap_cons, List.length_append, hf, flatMap_len f size hf l, List.length_cons, Nat.succ_mul]; omega

/-- what a call owns reads as the list -/
theorem own_sl {α : Type} {f : α → List Value} {size : Nat} (hf : ∀ x, (f x).length = size) {w : World} {base : Nat} {e : TypeId} {v : Value} {n : Nat} {l : List α} (hl : l.length = n)
    (h : w.ownsRow base e size v n (l.flatMap f)) : ∃ A c, v = .slice A n c ∧ n ≤ c ∧ c ≤ maxLen ∧ Sl w size (Cells f) A n l ∧ (∀ ad, A = some ad → base ≤ ad.block) := by
  rcases h.2 with ⟨rfl, rfl⟩ | ⟨g, cap, cur, rfl, hg, hh, hn, hm, hs, ht⟩
  · exact ⟨none, 0, rfl, Nat.le_refl _, by simp [maxLen], ⟨hl, fun h => absurd h (by omega)⟩, fun ad h => by cases h⟩
  · refine ⟨_, cap, rfl, hn, hm, ⟨hl, fun _ => ⟨g, 0, rfl, fun i x hx j u hu => ?_⟩⟩, fun ad h => by cases h; exact hg⟩
    have hjs : j < size := by
      have := (List.getElem?_eq_some_iff.1 hu).1
      rw [hf] at this
      exact this
    have h1 := flatMap_at f size hf l i x j hx hjs
    rw [hu, ← ht] at h1
    have hlt : i * size + j < n * size := by
      have hi := (List.getElem?_eq_some_iff.1 hx).1
      rw [hl] at hi
      have := Nat.mul_le_mul_right size (show i + 1 ≤ n from hi)
      rw [Nat.succ_mul] at this
      omega
    rw [List.getElem?_take_of_lt hlt] at h1
    rw [show (0 + i * size + j) = i * size + j by omega]
    simp only [World.cell?, hh]
    simpa using h1

/-- the cells of a new block -/
theorem news_new (w : World) (t : TypeId) (cs : List Value) : ∀ j u, cs[j]? = some u → (w.alloc (.cells cs.toArray t)).cell? ((⟨w.heap.size, 0, none⟩ : Addr).add j) = some u := by
  intro j u hu
  rw [Addr.add_mid, Nat.zero_add, (Blk.new w t cs.toArray).cell]
  simpa using hu

theorem own_ext {w w1 : World} {base : Nat} {e : TypeId} {size : Nat} {v : Value} {n : Nat} {xs : List Value} (h : w.ownsRow base e size v n xs) (k : Ext w w1) : w1.ownsRow base e size v n xs := by
  refine ⟨h.1, ?_⟩
  rcases h.2 with hn | ⟨g, cap, cur, rfl, hb, hg, rest⟩
  · exact .inl hn
  · exact .inr ⟨g, cap, cur, rfl, hb, (k.block g (Array.getElem?_eq_some_iff.1 hg).1).trans hg, rest⟩

theorem own_form {w : World} {base : Nat} {e : TypeId} {size : Nat} {v : Value} {n : Nat} {xs : List Value} (h : w.ownsRow base e size v n xs) (hn : 0 < n) : ∃ g cap, v = .slice (some ⟨g, 0, none⟩) n cap ∧ base ≤ g ∧ g < w.heap.size := by
  rcases h.2 with ⟨_, h0⟩ | ⟨g, cap, cur, rfl, hb, hg, _⟩
  · omega
  · exact ⟨g, cap, rfl, hb, (Array.getElem?_eq_some_iff.1 hg).1⟩

/-- block b is a row of elements of type T -/
def Typed (w : World) (T : TypeId) (b : Nat) : Prop := ∃ cur, w.heap[b]? = some (.cells cur T (0, 0))
theorem Typed.ext {w w1 : World} {T : TypeId} {b : Nat} (h : Typed w T b) (k : Ext w w1) : Typed w1 T b := by
  obtain ⟨cur, hb⟩ := h
  exact ⟨cur, (k.block b (Array.getElem?_eq_some_iff.1 hb).1).trans hb⟩
theorem Typed.lt {w : World} {T : TypeId} {b : Nat} (h : Typed w T b) : b < w.heap.size := by
  obtain ⟨cur, hb⟩ := h
  exact (Array.getElem?_eq_some_iff.1 hb).1
theorem Typed.ne {w : World} {T T' : TypeId} {b b' : Nat} (h : Typed w T b) (h' : Typed w T' b') (hne : T ≠ T') : b ≠ b' := by
  rintro rfl
  obtain ⟨cur, hb⟩ := h
  obtain ⟨cur', hb'⟩ := h'
  rw [hb] at hb'
  injection hb' with e
  injection e with _ e2
  exact hne e2
theorem Typed.setCell {w : World} {T : TypeId} {b : Nat} (h : Typed w T b) (p : Addr) (u : Value) : Typed (w.setCell p u) T b := by
  obtain ⟨cur, hb⟩ := h
  unfold Typed World.setCell
  simp only [Array.getElem?_modify, hb]
  by_cases hp : p.block = b
  · rw [if_pos hp]; exact ⟨_, rfl⟩
  · rw [if_neg hp]; exact ⟨_, rfl⟩
theorem Typed.grown {w w1 : World} {T T' : TypeId} {b : Nat} {row : Option Nat} (h : Typed w T b) (hg : w.grownBy w1 row) (hr : ∀ q, row = some q → Typed w T' q) (hne : T ≠ T') : Typed w1 T b := by
  obtain ⟨cur, hb⟩ := h
  refine ⟨cur, (hg.block b (Array.getElem?_eq_some_iff.1 hb).1 (fun e => ?_)).trans hb⟩
  exact Typed.ne ⟨cur, hb⟩ (hr b e.symm) hne rfl
theorem Blk.typed {w : World} {g : Nat} {t : TypeId} {cs : Array Value} (h : Blk w g t cs) : Typed w t g := ⟨cs, h⟩
theorem Typed.put {w : World} {T t : TypeId} {b g : Nat} {cs : Array Value} (h : Typed w T b) (hB : Blk w g t cs) (cs' : Array Value) (hne : T ≠ t) : Typed (putB w g t cs') T b := by
  have hn : g ≠ b := (Typed.ne h hB.typed hne).symm
  obtain ⟨cur, hb⟩ := h
  refine ⟨cur, ?_⟩
  unfold putB
  simp only
  rw [Array.getElem?_setIfInBounds_ne hn]
  exact hb
theorem Typed.frozen {w : World} {T : TypeId} {b : Nat} (h : Typed w T b) (o : Nat) : w.frozen? ⟨b, o, none⟩ = false := by
  obtain ⟨cur, hb⟩ := h
  simp [World.frozen?, hb]
theorem own_typed {w : World} {base : Nat} {e : TypeId} {size : Nat} {v : Value} {n : Nat} {xs : List Value} (h : w.ownsRow base e size v n xs) : ∀ k, v.ownBlock = some k → Typed w e k := by
  rcases h.2 with ⟨rfl, _⟩ | ⟨g, cap, cur, rfl, hg, hh, _⟩
  · intro k hk; simp [Value.ownBlock] at hk
  · intro k hk; simp [Value.ownBlock] at hk; subst hk; exact ⟨cur, hh⟩

theorem own_lt {w : World} {base : Nat} {e : TypeId} {size : Nat} {v : Value} {n : Nat} {xs : List Value} (h : w.ownsRow base e size v n xs) : ∀ k, v.ownBlock = some k → base ≤ k := by
  rcases h.2 with ⟨rfl, _⟩ | ⟨g, cap, cur, rfl, hg, _⟩
  · intro k hk; simp [Value.ownBlock] at hk
  · intro k hk; simp [Value.ownBlock] at hk; omega

/-- one element, built just now, is appended to a row of the call's own -/
theorem wpList_append1 {P : Program} {ops : Array Oper} {rest : List Oper} {o : Oper} {a : Act} {w : World} {Q : Exit → Act → World → Prop} (hgd : o.guard = none) (s x : Operand) (t : TypeId)
    (ho : o.op = .call { callee := .builtin .append, args := #[s, x], argTypes := #[t, t] })
    {base : Nat} {e : TypeId} {z : Value} {size bytes : Nat} (inf : (P.info? e).map (fun i => (i.zero, i.size, i.bytes)) = some (some z, size, bytes)) (ht : P.underlying t = some (.slice e)) (hzs : z.cells.size = size) (hsz : 0 < size)
    {v : Value} {n : Nat} {xs : List Value} (hown : w.ownsRow base e size v n xs) (hs : a.eval s = v) (g : Nat) (news : Array Value) (hx : a.eval x = .slice (some ⟨g, 0, none⟩) 1 1) (hB : Blk w g e news) (hl : news.size = size) (h1 : news.all (·.oneCell') = true)
    (hroom : (n + 1) * bytes ≤ 140737488355328) (hmax : n + 1 ≤ maxLen) (hbase : base ≤ w.heap.size)
    (h : ∀ v' w', w'.ownsRow base e size v' (n + 1) (xs ++ news.toList) → w.grownBy w' v.ownBlock → wpList P ops Q rest (a.put o.dst v') w') : wpList P ops Q (o :: rest) a w := by
  obtain ⟨i, hi, hz0, hz1, hz2⟩ := info_parts inf
  refine wpList_append_own w hgd s x t ho base e i z size bytes ht hi hz0 hz1 hz2 hzs hsz v n xs hs hown ⟨g, 0, none⟩ 1 1 news.toList hx (by simpa using hl) (fun j u hu => ?_) (fun u hu => ?_) hmax hroom hbase (fun v' w' h2 h3 _ => h v' w' h2 h3)
  · rw [Addr.add_mid, Nat.zero_add, hB.cell]
    simpa using hu
  · exact (Array.all_eq_true_iff_forall_mem.1 h1) u (by simpa using hu)

theorem flatMap_one {α : Type} {f : α → List Value} (h1 : ∀ x, ∀ u ∈ f x, u.oneCell' = true) (l : List α) : ∀ u ∈ l.flatMap f, u.oneCell' = true := by
  intro u hu
  obtain ⟨x, _, hx⟩ := List.mem_flatMap.1 hu
  exact h1 x u hx

theorem sl_news {α : Type} {f : α → List Value} {size : Nat} (hf : ∀ x, (f x).length = size) {w : World} {m b off : Nat} {l : List α} (hl : l.length = m) (hc : ∀ i x, l[i]? = some x → Cells f w b (off + i * size) x) :
    ∀ j u, (l.flatMap f)[j]? = some u → w.cell? ((⟨b, off, none⟩ : Addr).add j) = some u := by
  intro j u hu
  have hj : j < l.length * size := by
    have := (List.getElem?_eq_some_iff.1 hu).1
    rwa [flatMap_len f size hf] at this
  have hs : 0 < size := by
    rcases Nat.eq_zero_or_pos size with h | h
    · subst h; omega
    · exact h
  have hi : j / size < l.length := Nat.div_lt_of_lt_mul (by rw [Nat.mul_comm]; exact hj)
  have hx : l[j / size]? = some l[j / size] := List.getElem?_eq_getElem hi
  have hm : j % size < size := Nat.mod_lt _ hs
  have e : j / size * size + j % size = j := Nat.div_add_mod' j size
  have h1 := flatMap_at f size hf l (j / size) _ (j % size) hx hm
  rw [e, hu] at h1
  have h2 := hc (j / size) _ hx (j % size) u h1.symm
  rw [Addr.add_mid]
  rw [show off + j = off + j / size * size + j % size by omega]
  exact h2

theorem run_append_of_nil {P : Program} (w : World) (base : Nat) (t ty e : TypeId) (i : TypeInfo) (size : Nat) (ht : P.underlying t = some (.slice e)) (hi : P.info? e = some i)
    (v : Value) (n : Nat) (xs : List Value) (hown : w.ownsRow base e size v n xs) (c : Nat) : (Builtin.append_ #[t, t] ty #[v, .slice none 0 c]).run P w = .ok v w := by
  rcases hown.2 with ⟨rfl, rfl⟩ | ⟨g, cap, cur, rfl, _, _, hnc, _⟩
  · simp [Builtin.append_, run_underlying ht, sizeOf, typeInfo, hi, Builtin.lenOf, Builtin.firstCells]
  · simp [Builtin.append_, run_underlying ht, sizeOf, typeInfo, hi, Builtin.lenOf, Builtin.firstCells, hnc, storeCells]

/-- a slice that reads as a list is appended to a row of the call's own -/
theorem wpList_appendS {α : Type} {f : α → List Value} {P : Program} {ops : Array Oper} {rest : List Oper} {o : Oper} {a : Act} {w : World} {Q : Exit → Act → World → Prop} (hgd : o.guard = none) (s x : Operand) (t : TypeId)
    (ho : o.op = .call { callee := .builtin .append, args := #[s, x], argTypes := #[t, t] })
    {base : Nat} {e : TypeId} {z : Value} {size bytes : Nat} (inf : (P.info? e).map (fun i => (i.zero, i.size, i.bytes)) = some (some z, size, bytes)) (ht : P.underlying t = some (.slice e)) (hzs : z.cells.size = size) (hsz : 0 < size)
    {v : Value} {n : Nat} {xs : List Value} (hown : w.ownsRow base e size v n xs) (hs : a.eval s = v) {A : Option Addr} {m c : Nat} {l : List α} (hx : a.eval x = .slice A m c) (hS : Sl w size (Cells f) A m l) (hf : ∀ x, (f x).length = size) (h1 : ∀ x, ∀ u ∈ f x, u.oneCell' = true)
    (hroom : (n + m) * bytes ≤ 140737488355328) (hmax : n + m ≤ maxLen) (hbase : base ≤ w.heap.size)
    (h : ∀ v' w', w'.ownsRow base e size v' (n + m) (xs ++ l.flatMap f) → w.grownBy w' v.ownBlock → (v' = .slice none 0 0 ↔ v = .slice none 0 0 ∧ m = 0) → wpList P ops Q rest (a.put o.dst v') w') : wpList P ops Q (o :: rest) a w := by
  obtain ⟨i, hi, hz0, hz1, hz2⟩ := info_parts inf
  have hlen : (l.flatMap f).length = m * size := by rw [flatMap_len f size hf, hS.len]
  cases A with
  | none =>
    have hm : m = 0 := by
      rcases Nat.eq_zero_or_pos m with h0 | h0
      · exact h0
      · obtain ⟨_, _, h, _⟩ := hS.2 h0
        cases h
    subst hm
    obtain rfl : l = [] := List.eq_nil_of_length_eq_zero hS.len
    refine wpList_plain hgd fun K hK => ?_
    have hrun := run_append_of_nil (P := P) w base t o.type e i size ht hi v n xs hown c
    unfold Oper.wp execOp
    simp only [ho, resolve, invoke, builtin, Sem.run_bind, Sem.run_pure, Result.andThen_ok, List.map_toArray, List.map_cons, List.map_nil, hs, hx, hrun]
    exact hK _ _ (h v w (by simpa using hown) (World.grownBy.refl w _) ⟨fun e => ⟨e, rfl⟩, fun e => e.1⟩)
  | some ad =>
    refine wpList_append_own w hgd s x t ho base e i z size bytes ht hi hz0 hz1 hz2 hzs hsz v n xs hs hown ad m c (l.flatMap f) hx hlen (fun j u hu => ?_) (flatMap_one h1 l) hmax hroom hbase h
    rcases Nat.eq_zero_or_pos m with h0 | h0
    · subst h0
      obtain rfl : l = [] := List.eq_nil_of_length_eq_zero hS.len
      simp at hu
    · obtain ⟨b, off, hA, hc⟩ := hS.2 h0
      cases hA
      exact sl_news hf hS.len hc j u hu

/-- the same, and it is told where the row lies behind it -/
theorem wpList_append1a {P : Program} {ops : Array Oper} {rest : List Oper} {o : Oper} {a : Act} {w : World} {Q : Exit → Act → World → Prop} (hgd : o.guard = none) (s x : Operand) (t : TypeId)
    (ho : o.op = .call { callee := .builtin .append, args := #[s, x], argTypes := #[t, t] })
    {base : Nat} {e : TypeId} {z : Value} {size bytes : Nat} (inf : (P.info? e).map (fun i => (i.zero, i.size, i.bytes)) = some (some z, size, bytes)) (ht : P.underlying t = some (.slice e)) (hzs : z.cells.size = size) (hsz : 0 < size)
    {v : Value} {n : Nat} {xs : List Value} (hown : w.ownsRow base e size v n xs) (hs : a.eval s = v) (g : Nat) (news : Array Value) (hx : a.eval x = .slice (some ⟨g, 0, none⟩) 1 1) (hB : Blk w g e news) (hl : news.size = size) (h1 : news.all (·.oneCell') = true)
    (hroom : (n + 1) * bytes ≤ 140737488355328) (hmax : n + 1 ≤ maxLen) (hbase : base ≤ w.heap.size)
    (h : ∀ v' w', w'.ownsRow base e size v' (n + 1) (xs ++ news.toList) → w.grownBy w' v.ownBlock → (v'.ownBlock = v.ownBlock ∨ v'.ownBlock = some w.heap.size) → wpList P ops Q rest (a.put o.dst v') w') : wpList P ops Q (o :: rest) a w := by
  obtain ⟨i, hi, hz0, hz1, hz2⟩ := info_parts inf
  obtain ⟨v', w', hrun, h2, h3, _, h5⟩ := run_append_own_at (P := P) w base t o.type e i z size bytes ht hi hz0 hz1 hz2 hzs hsz v n xs hown ⟨g, 0, none⟩ 1 1 news.toList (by simpa using hl)
    (fun j u hu => by rw [Addr.add_mid, Nat.zero_add, hB.cell]; simpa using hu) (fun u hu => (Array.all_eq_true_iff_forall_mem.1 h1) u (by simpa using hu)) hmax hroom hbase
  refine wpList_plain hgd fun K hK => ?_
  unfold Oper.wp execOp
  simp only [ho, resolve, invoke, builtin, Sem.run_bind, Sem.run_pure, Result.andThen_ok, List.map_toArray, List.map_cons, List.map_nil, hs, hx, hrun]
  exact hK _ _ (h v' w' h2 h3 h5)
theorem Sl.take {α : Type} {C : World → Nat → Nat → α → Prop} {w : World} {size n : Nat} {A : Option Addr} {l : List α} (h : Sl w size C A n l) {k : Nat} (hk : k ≤ n) : Sl w size C A k (l.take k) := by
  refine ⟨by simp [h.1]; omega, fun h0 => ?_⟩
  obtain ⟨b, off, hA, hc⟩ := h.2 (by omega)
  refine ⟨b, off, hA, fun i x hx => hc i x ?_⟩
  rw [List.getElem?_take] at hx
  split at hx
  · exact hx
  · cases hx
theorem Sl.drop {α : Type} {C : World → Nat → Nat → α → Prop} {w : World} {size n b o : Nat} {l : List α} (h : Sl w size C (some ⟨b, o, none⟩) n l) (k : Nat) : Sl w size C (some ⟨b, o + k * size, none⟩) (n - k) (l.drop k) := by
  refine ⟨by simp [h.1], fun h0 => ?_⟩
  obtain ⟨b', off, hA, hc⟩ := h.2 (by omega)
  injection hA with hA
  injection hA with hb ho _
  subst hb ho
  refine ⟨_, _, rfl, fun i x hx => ?_⟩
  rw [List.getElem?_drop] at hx
  have := hc (k + i) x hx
  rw [Nat.add_mul] at this
  rw [Nat.add_assoc]
  exact this
theorem own_nil0 (w : World) (e : TypeId) (size base : Nat) (hb : base ≤ w.heap.size) : (w.alloc (.cells #[] e)).ownsRow base e size (.slice (some ⟨w.heap.size, 0, none⟩) 0 0) 0 [] :=
  ⟨by simp, .inr ⟨w.heap.size, 0, #[], rfl, hb, Blk.new w e #[], Nat.le_refl _, by simp [maxLen], by simp, by simp⟩⟩
theorem own_nil0' {w : World} {e : TypeId} {size base g : Nat} (hg : g = w.heap.size) (hb : base ≤ g) : (w.alloc (.cells #[] e)).ownsRow base e size (.slice (some ⟨g, 0, none⟩) 0 0) 0 [] := by
  subst hg
  exact own_nil0 w e size base hb
theorem wp_drewN {P : Program} {c : Code} {Q : Exit → Act → World → Prop} {a : Act} {w : World} {n : Nat} (h : ∀ w4, Ext w w4 → w4.heap.size = w.heap.size → Code.wp P c Q a w4) : Code.wp P c Q a (w.drewN n) := h _ ((Ext.refl w).drewN n) rfl
theorem own_le' {w : World} {L L' : Nat} {e : TypeId} {size : Nat} {v : Value} {n : Nat} {xs : List Value} (h : w.ownsRow L e size v n xs) (hl : L' ≤ L) : w.ownsRow L' e size v n xs := by
  refine ⟨h.1, ?_⟩
  rcases h.2 with hn | ⟨g, cap, cur, rfl, hb, rest⟩
  · exact .inl hn
  · exact .inr ⟨g, cap, cur, rfl, Nat.le_trans hl hb, rest⟩
theorem Sl.change {α : Type} {C D : World → Nat → Nat → α → Prop} {w : World} {size n : Nat} {A : Option Addr} {l : List α} (h : Sl w size C A n l) (hcd : ∀ b o x, C w b o x → D w b o x) : Sl w size D A n l :=
  ⟨h.1, fun hn => (h.2 hn).elim fun b hb => hb.elim fun off ho => ⟨b, off, ho.1, fun i x hx => hcd _ _ _ (ho.2 i x hx)⟩⟩
end Go.Proofs.YtagfedbdakmlgaaDoor

/-! Name -/
namespace Go.Proofs.YtagfedbdakmlgaaDoor
set_option linter.unusedVariables false
set_option linter.unusedSimpArgs false
open Go.RowKit

/-- may a byte stand in a name? (of its number) -/
def nbI (c : Int) : Bool := decide ((65 ≤ c ∧ c ≤ 90) ∨ (48 ≤ c ∧ c ≤ 57) ∨ c = 95 ∨ c = 45)
def nameB (s : ByteArray) : Bool := decide (1 ≤ s.size ∧ s.size ≤ 16) && (s.data.toList.take 1).all (fun c => decide (65 ≤ (c.toNat : Int) ∧ (c.toNat : Int) ≤ 90)) && s.data.toList.all (fun c => nbI c.toNat)

theorem take_snoc (s : ByteArray) (k : Nat) (h : k < s.size) : s.data.toList.take (k + 1) = s.data.toList.take k ++ [s[k]] := by
  rw [List.take_succ_eq_append_getElem (by simpa using h)]; rfl

theorem nameB_small {s : ByteArray} (h : ¬ (1 ≤ s.size ∧ s.size ≤ 16)) : nameB s = false := by unfold nameB; rw [decide_eq_false h]; rfl
theorem nameB_head {s : ByteArray} (h : 0 < s.size) (hc : ¬ ((65 : Int) ≤ (s[0].toNat : Int) ∧ (s[0].toNat : Int) ≤ 90)) : nameB s = false := by
  unfold nameB
  have e := take_snoc s 0 h
  simp only [Nat.zero_add, List.take_zero, List.nil_append] at e
  rw [e, List.all_cons, decide_eq_false hc]
  simp
theorem nameB_at {s : ByteArray} (k : Nat) (h : k < s.size) (hc : nbI (s[k].toNat : Int) = false) : nameB s = false := by
  unfold nameB
  have : (s.data.toList.all fun c => nbI c.toNat) = false := by
    rw [List.all_eq_false]
    exact ⟨s[k], by simp [ByteArray.getElem_eq_getElem_data], by rw [hc]; simp⟩
  rw [this, Bool.and_false]
theorem nameB_yes {s : ByteArray} (h : 1 ≤ s.size ∧ s.size ≤ 16) (h0 : 0 < s.size) (hc : (65 : Int) ≤ (s[0].toNat : Int) ∧ (s[0].toNat : Int) ≤ 90) (ha : (s.data.toList.take s.size).all (fun c => nbI c.toNat) = true) : nameB s = true := by
  unfold nameB
  have e := take_snoc s 0 h0
  simp only [Nat.zero_add, List.take_zero, List.nil_append] at e
  rw [List.take_of_length_le (by simp)] at ha
  rw [e, List.all_cons, decide_eq_true hc, decide_eq_true h, ha]
  rfl

def NameRel (s : ByteArray) (i : Value) : Prop := ∃ k : Nat, k ≤ s.size ∧ i = .int .i64 k ∧ (s.data.toList.take k).all (fun c => nbI c.toNat) = true

set_option maxHeartbeats 1000000 in
theorem Name_any (s : ByteArray) (w : World) (hs : s.size ≤ 9223372036854775807) :
    Calls Tryd.prog 57 #[.string s] w fun e w' => e = .returned (.bool (nameB s)) ∧ w = w' := by
  by_cases h : 1 ≤ s.size
  · by_cases h' : s.size ≤ 16
    · have h1 : (1 : Int) ≤ (s.size : Int) := by omega
      have h2 : (s.size : Int) ≤ 16 := by omega
      have h0 : 0 < s.size := by omega
      have HS := Lib.hid (And.intro h h')
      by_cases hc1 : (65 : Int) ≤ (s[0].toNat : Int)
      · by_cases hc2 : (s[0].toNat : Int) ≤ 90
        · go_enter Tryd.func57, Tryd.ntmps57
          go_wp2
          go_loop [25] (fun i => NameRel s i) (fun i => s.size - (intOf i).toNat)
          case atStart => exact ⟨0, Nat.zero_le _, rfl, rfl⟩
          case round =>
            obtain ⟨k, hk, rfl, hall⟩ := hrel
            have HA := Lib.hid hall
            clear hall
            by_cases hlt : k < s.size
            · by_cases hb : nbI (s[k].toNat : Int) = true
              · have HA' : Hid ((s.data.toList.take (k + 1)).all (fun c => nbI c.toNat) = true) := by
                  show (s.data.toList.take (k + 1)).all (fun c => nbI c.toNat) = true
                  rw [take_snoc s k hlt, List.all_append, HA.out]
                  simp [hb]
                have hb' : ((65 : Int) ≤ (s[k].toNat : Int) ∧ (s[k].toNat : Int) ≤ 90) ∨ ((48 : Int) ≤ (s[k].toNat : Int) ∧ (s[k].toNat : Int) ≤ 57) ∨ (s[k].toNat : Int) = 95 ∨ (s[k].toNat : Int) = 45 := of_decide_eq_true hb
                clear hb
                go_wp2
                all_goals first
                  | exact ⟨⟨k + 1, by omega, by go_num, HA'.out⟩, by simp [intOf]; omega⟩
                  | (exfalso; simp at *; omega)
              · have HB := Lib.hid (nameB_at k hlt (by simpa using hb))
                have hb' : ¬ (((65 : Int) ≤ (s[k].toNat : Int) ∧ (s[k].toNat : Int) ≤ 90) ∨ ((48 : Int) ≤ (s[k].toNat : Int) ∧ (s[k].toNat : Int) ≤ 57) ∨ (s[k].toNat : Int) = 95 ∨ (s[k].toNat : Int) = 45) := fun x => hb (decide_eq_true x)
                clear hb
                go_wp2
                all_goals first
                  | (go_ret; exact ⟨by rw [HB.out]; rfl, rfl⟩)
                  | (exfalso; simp at *; omega)
            · have ek : k = s.size := by omega
              subst ek
              go_wp2
              go_ret
              exact ⟨by rw [nameB_yes HS.out h0 ⟨hc1, hc2⟩ HA.out]; rfl, rfl⟩
        · have HF := Lib.hid (nameB_head h0 (by omega))
          go_enter Tryd.func57, Tryd.ntmps57
          go_wp2
          go_ret
          exact ⟨by rw [HF.out]; rfl, rfl⟩
      · have HF := Lib.hid (nameB_head h0 (by omega))
        go_enter Tryd.func57, Tryd.ntmps57
        go_wp2
        go_ret
        exact ⟨by rw [HF.out]; rfl, rfl⟩
    · have HF := Lib.hid (nameB_small (s := s) (by omega))
      have h1 : (16 : Int) < (s.size : Int) := by omega
      go_enter Tryd.func57, Tryd.ntmps57
      go_wp2
      go_ret
      exact ⟨by rw [HF.out]; rfl, rfl⟩
  · have HF := Lib.hid (nameB_small (s := s) (by omega))
    have h1 : (s.size : Int) < 1 := by omega
    go_enter Tryd.func57, Tryd.ntmps57
    go_wp2
    go_ret
    exact ⟨by rw [HF.out]; rfl, rfl⟩
end Go.Proofs.YtagfedbdakmlgaaDoor

/-! Region -/
namespace Go.Proofs.YtagfedbdakmlgaaDoor
set_option linter.unusedVariables false
set_option linter.unusedSimpArgs false
open Go.RowKit

/-- a region -/
structure Reg where
  name : ByteArray
  top : Int
  height : Int
  left : Int
  width : Int
  align : Int
  bottom : Bool
  deriving DecidableEq
def Reg.val (r : Reg) : Value := .agg #[.string r.name, .int .i64 r.top, .int .i64 r.height, .int .i64 r.left, .int .i64 r.width, .int .u8 r.align, .bool r.bottom]
def Reg.zero : Reg := ⟨ByteArray.empty, 0, 0, 0, 0, 0, false⟩
def Reg.default : Reg := ⟨ByteArray.empty, 11, 4, 0, 32, 2, true⟩

theorem from_yes (n lo hi : Int) (w : World) (h : lo ≤ n ∧ n ≤ hi) : Calls Tryd.prog 98 #[.int .i64 n, .int .i64 lo, .int .i64 hi] w fun e w' => e = .returned (.bool true) ∧ w = w' := by
  obtain ⟨h1, h2⟩ := h
  go_enter Tryd.func98, Tryd.ntmps98
  go_wp2
  go_ret
  exact ⟨by simp [h2], rfl⟩
theorem from_no (n lo hi : Int) (w : World) (h : ¬ (lo ≤ n ∧ n ≤ hi)) : Calls Tryd.prog 98 #[.int .i64 n, .int .i64 lo, .int .i64 hi] w fun e w' => e = .returned (.bool false) ∧ w = w' := by
  by_cases h1 : lo ≤ n
  · have h2 : ¬ n ≤ hi := fun x => h ⟨h1, x⟩
    clear h
    go_enter Tryd.func98, Tryd.ntmps98
    go_wp2
    go_ret
    exact ⟨rfl, rfl⟩
  · clear h
    go_enter Tryd.func98, Tryd.ntmps98
    go_wp2
    go_ret
    exact ⟨rfl, rfl⟩

set_option maxHeartbeats 400000 in
theorem Default_any (w : World) : Calls Tryd.prog 88 #[] w fun e w' => e = .returned Reg.default.val ∧ Ext w w' := by
  go_enter Tryd.func88, Tryd.ntmps88
  go_wp2
  exact bodyPost_ret (v := Reg.default.val) (by simp [results, Tryd.results88, go_sem, Reg.val, Reg.default]; rfl) rfl ⟨rfl, (Ext.refl w).alloc _⟩

def Reg.inGrid (r : Reg) : Prop := (0 ≤ r.top ∧ r.top ≤ 14) ∧ (1 ≤ r.height ∧ r.height ≤ 15 - r.top) ∧ (0 ≤ r.left ∧ r.left ≤ 31) ∧ (1 ≤ r.width ∧ r.width ≤ 32 - r.left)
instance (r : Reg) : Decidable r.inGrid := by unfold Reg.inGrid; infer_instance
def Reg.check (r : Reg) : Int := if nameB r.name = false then 5 else if ¬ r.inGrid then 2 else if r.align < 1 ∨ 3 < r.align then 3 else 0

set_option maxHeartbeats 1000000 in
theorem RCheck_any (r : Reg) (w : World) (hs : r.name.size ≤ 9223372036854775807) : Calls Tryd.prog 75 #[r.val] w fun e w' => e = .returned (.int .i64 r.check) ∧ Ext w w' := by
  obtain ⟨nm, top, hgt, lft, wid, al, bot⟩ := r
  unfold Reg.val
  dsimp only
  cases hn : nameB nm
  · have HN := Lib.hid hn
    have HF : Hid (Reg.check ⟨nm, top, hgt, lft, wid, al, bot⟩ = 5) := by show Reg.check _ = 5; unfold Reg.check; rw [if_pos hn]
    clear hn
    go_enter Tryd.func75, Tryd.ntmps75
    go_wp2_with fail
    refine (Name_any nm _ hs).mono ?_
    rintro e w1 ⟨rfl, rfl⟩
    rw [HN.out]
    go_wp2_with fail
    go_ret
    exact ⟨ret_int HF.out.symm, (Ext.refl w).alloc _⟩
  · have HN := Lib.hid hn
    have HC : Hid (Reg.check ⟨nm, top, hgt, lft, wid, al, bot⟩ = if ¬ Reg.inGrid ⟨nm, top, hgt, lft, wid, al, bot⟩ then 2 else if al < 1 ∨ 3 < al then 3 else 0) := by
      show Reg.check _ = _
      unfold Reg.check
      rw [if_neg (by rw [hn]; simp)]
    have HI : Hid (Reg.inGrid ⟨nm, top, hgt, lft, wid, al, bot⟩ ↔ ((0 ≤ top ∧ top ≤ 14) ∧ (1 ≤ hgt ∧ hgt ≤ 15 - top) ∧ (0 ≤ lft ∧ lft ≤ 31) ∧ (1 ≤ wid ∧ wid ≤ 32 - lft))) := Iff.rfl
    clear hn
    by_cases h1 : 0 ≤ top ∧ top ≤ 14
    · by_cases h2 : 1 ≤ hgt ∧ hgt ≤ 15 - top
      · by_cases h3 : 0 ≤ lft ∧ lft ≤ 31
        · by_cases h4 : 1 ≤ wid ∧ wid ≤ 32 - lft
          · by_cases h5 : al < 1
            · go_enter Tryd.func75, Tryd.ntmps75
              go_wp2_with fail
              refine (Name_any nm _ hs).mono ?_
              rintro e w1 ⟨rfl, rfl⟩
              rw [HN.out]
              go_wp2_with (first | (go_at_call 98; refine (from_yes _ _ _ _ (by omega)).mono ?_; rintro e w' ⟨rfl, rfl⟩) | (go_at_call 98; refine (from_no _ _ _ _ (by omega)).mono ?_; rintro e w' ⟨rfl, rfl⟩))
              go_ret
              exact ⟨ret_int (by rw [HC.out, if_neg (by rw [HI.out]; omega), if_pos (by omega)]), (Ext.refl w).alloc _⟩
            · by_cases h6 : 3 < al
              · go_enter Tryd.func75, Tryd.ntmps75
                go_wp2_with fail
                refine (Name_any nm _ hs).mono ?_
                rintro e w1 ⟨rfl, rfl⟩
                rw [HN.out]
                go_wp2_with (first | (go_at_call 98; refine (from_yes _ _ _ _ (by omega)).mono ?_; rintro e w' ⟨rfl, rfl⟩) | (go_at_call 98; refine (from_no _ _ _ _ (by omega)).mono ?_; rintro e w' ⟨rfl, rfl⟩))
                go_ret
                exact ⟨ret_int (by rw [HC.out, if_neg (by rw [HI.out]; omega), if_pos (by omega)]), (Ext.refl w).alloc _⟩
              · go_enter Tryd.func75, Tryd.ntmps75
                go_wp2_with fail
                refine (Name_any nm _ hs).mono ?_
                rintro e w1 ⟨rfl, rfl⟩
                rw [HN.out]
                go_wp2_with (first | (go_at_call 98; refine (from_yes _ _ _ _ (by omega)).mono ?_; rintro e w' ⟨rfl, rfl⟩) | (go_at_call 98; refine (from_no _ _ _ _ (by omega)).mono ?_; rintro e w' ⟨rfl, rfl⟩))
                go_ret
                exact ⟨ret_int (by rw [HC.out, if_neg (by rw [HI.out]; omega), if_neg (by omega)]), (Ext.refl w).alloc _⟩
          · go_enter Tryd.func75, Tryd.ntmps75
            go_wp2_with fail
            refine (Name_any nm _ hs).mono ?_
            rintro e w1 ⟨rfl, rfl⟩
            rw [HN.out]
            go_wp2_with (first | (go_at_call 98; refine (from_yes _ _ _ _ (by omega)).mono ?_; rintro e w' ⟨rfl, rfl⟩) | (go_at_call 98; refine (from_no _ _ _ _ (by omega)).mono ?_; rintro e w' ⟨rfl, rfl⟩))
            go_ret
            exact ⟨ret_int (by rw [HC.out, if_pos (by rw [HI.out]; omega)]), (Ext.refl w).alloc _⟩
        · go_enter Tryd.func75, Tryd.ntmps75
          go_wp2_with fail
          refine (Name_any nm _ hs).mono ?_
          rintro e w1 ⟨rfl, rfl⟩
          rw [HN.out]
          go_wp2_with (first | (go_at_call 98; refine (from_yes _ _ _ _ (by omega)).mono ?_; rintro e w' ⟨rfl, rfl⟩) | (go_at_call 98; refine (from_no _ _ _ _ (by omega)).mono ?_; rintro e w' ⟨rfl, rfl⟩))
          go_ret
          exact ⟨ret_int (by rw [HC.out, if_pos (by rw [HI.out]; omega)]), (Ext.refl w).alloc _⟩
      · go_enter Tryd.func75, Tryd.ntmps75
        go_wp2_with fail
        refine (Name_any nm _ hs).mono ?_
        rintro e w1 ⟨rfl, rfl⟩
        rw [HN.out]
        go_wp2_with (first | (go_at_call 98; refine (from_yes _ _ _ _ (by omega)).mono ?_; rintro e w' ⟨rfl, rfl⟩) | (go_at_call 98; refine (from_no _ _ _ _ (by omega)).mono ?_; rintro e w' ⟨rfl, rfl⟩))
        go_ret
        exact ⟨ret_int (by rw [HC.out, if_pos (by rw [HI.out]; omega)]), (Ext.refl w).alloc _⟩
    · go_enter Tryd.func75, Tryd.ntmps75
      go_wp2_with fail
      refine (Name_any nm _ hs).mono ?_
      rintro e w1 ⟨rfl, rfl⟩
      rw [HN.out]
      go_wp2_with (first | (go_at_call 98; refine (from_yes _ _ _ _ (by omega)).mono ?_; rintro e w' ⟨rfl, rfl⟩) | (go_at_call 98; refine (from_no _ _ _ _ (by omega)).mono ?_; rintro e w' ⟨rfl, rfl⟩))
      go_ret
      exact ⟨ret_int (by rw [HC.out, if_pos (by rw [HI.out]; omega)]), (Ext.refl w).alloc _⟩
end Go.Proofs.YtagfedbdakmlgaaDoor

/-! Eql -/
namespace Go.Proofs.YtagfedbdakmlgaaDoor
set_option linter.unusedVariables false
set_option linter.unusedSimpArgs false
open Go.RowKit

theorem toList_inj (a b : ByteArray) : (a.toList = b.toList) = (a = b) := by
  rw [ByteArray.toList_eq, ByteArray.toList_eq]
  obtain ⟨⟨x⟩⟩ := a
  obtain ⟨⟨y⟩⟩ := b
  simp

theorem eql_reg (a b : Reg) (w : World) : (binOp .eql 58 a.val b.val).run Tryd.prog w = .ok (.bool (decide (a = b))) w := by
  obtain ⟨nm, top, hgt, lft, wid, al, bot⟩ := a
  obtain ⟨nm', top', hgt', lft', wid', al', bot'⟩ := b
  unfold Reg.val
  dsimp only
  go_simp
  simp only [toList_inj]
  repeat' split
  all_goals simp_all
theorem eql_reg_yes (a : Reg) (w : World) : (binOp .eql 58 a.val a.val).run Tryd.prog w = .ok (.bool true) w := by rw [eql_reg, decide_eq_true rfl]
theorem eql_reg_no {a b : Reg} (h : ¬ a = b) (w : World) : (binOp .eql 58 a.val b.val).run Tryd.prog w = .ok (.bool false) w := by rw [eql_reg, decide_eq_false h]
end Go.Proofs.YtagfedbdakmlgaaDoor

/-! Style -/
namespace Go.Proofs.YtagfedbdakmlgaaDoor
set_option linter.unusedVariables false
set_option linter.unusedSimpArgs false
open Go.RowKit

theorem SValid_any (c : Int) (i u : Bool) (w : World) : Calls Tryd.prog 106 #[.agg #[.int .u8 c, .bool i, .bool u]] w fun e w' => e = .returned (.bool (decide (c ≤ 6))) ∧ Ext w w' := by
  go_enter Tryd.func106, Tryd.ntmps106
  go_wp2
  go_ret
  exact ⟨rfl, (Ext.refl w).alloc _⟩

def Run.plainStyle (a b : Run) : Prop := a.color = b.color ∧ a.italic = b.italic ∧ a.under = b.under
instance (a b : Run) : Decidable (Run.plainStyle a b) := by unfold Run.plainStyle; infer_instance
/-- would two neighbouring runs be joined? -/
def alikeB (a b : Run) : Bool := decide (Run.plainStyle a b) && decide (a.ruby.toList = []) && decide (b.ruby.toList = [])

theorem eql_style (c c' : Int) (i i' u u' : Bool) (w : World) : (binOp .eql 64 (.agg #[.int .u8 c, .bool i, .bool u]) (.agg #[.int .u8 c', .bool i', .bool u'])).run Tryd.prog w = .ok (.bool (decide (c = c' ∧ i = i' ∧ u = u'))) w := by
  go_simp
  repeat' split
  all_goals simp_all

set_option maxHeartbeats 1000000 in
theorem alike_any (a b : Run) (w : World) : Calls Tryd.prog 107 #[a.val, b.val] w fun e w' => e = .returned (.bool (alikeB a b)) ∧ Ext w w' := by
  obtain ⟨t1, c1, i1, u1, r1⟩ := a
  obtain ⟨t2, c2, i2, u2, r2⟩ := b
  unfold Run.val
  dsimp only
  have hx : Ext w ((w.alloc (.cells #[.string t1, .int .u8 c1, .bool i1, .bool u1, .string r1] 66)).alloc (.cells #[.string t2, .int .u8 c2, .bool i2, .bool u2, .string r2] 66)) := ((Ext.refl w).alloc _).alloc _
  have HX := Lib.hid hx
  clear hx
  by_cases hs : c1 = c2 ∧ i1 = i2 ∧ u1 = u2
  · have hq : ∀ w, (binOp .eql 64 (.agg #[.int .u8 c1, .bool i1, .bool u1]) (.agg #[.int .u8 c2, .bool i2, .bool u2])).run Tryd.prog w = .ok (.bool true) w := fun w => by rw [eql_style, decide_eq_true hs]
    have HS := Lib.hid hs
    clear hs
    cases h1 : r1.toList.isEmpty
    · have HF : Hid (alikeB ⟨t1, c1, i1, u1, r1⟩ ⟨t2, c2, i2, u2, r2⟩ = false) := by show alikeB _ _ = false; unfold alikeB; cases hr : r1.toList <;> simp_all
      go_enter Tryd.func107, Tryd.ntmps107
      go_wp2
      go_ret
      exact ⟨by rw [HF.out]; rfl, HX.out⟩
    · cases h2 : r2.toList.isEmpty
      · have HF : Hid (alikeB ⟨t1, c1, i1, u1, r1⟩ ⟨t2, c2, i2, u2, r2⟩ = false) := by show alikeB _ _ = false; unfold alikeB; cases hr : r2.toList <;> simp_all
        go_enter Tryd.func107, Tryd.ntmps107
        go_wp2
        go_ret
        exact ⟨by rw [HF.out]; rfl, HX.out⟩
      · have HF : Hid (alikeB ⟨t1, c1, i1, u1, r1⟩ ⟨t2, c2, i2, u2, r2⟩ = true) := by
          show alikeB _ _ = true
          unfold alikeB Run.plainStyle
          have := HS.out
          simp_all
        go_enter Tryd.func107, Tryd.ntmps107
        go_wp2
        go_ret
        exact ⟨by rw [HF.out]; rfl, HX.out⟩
  · have hq : ∀ w, (binOp .eql 64 (.agg #[.int .u8 c1, .bool i1, .bool u1]) (.agg #[.int .u8 c2, .bool i2, .bool u2])).run Tryd.prog w = .ok (.bool false) w := fun w => by rw [eql_style, decide_eq_false hs]
    have HF : Hid (alikeB ⟨t1, c1, i1, u1, r1⟩ ⟨t2, c2, i2, u2, r2⟩ = false) := by show alikeB _ _ = false; unfold alikeB Run.plainStyle; rw [decide_eq_false hs]; rfl
    clear hs
    go_enter Tryd.func107, Tryd.ntmps107
    go_wp2
    go_ret
    exact ⟨by rw [HF.out]; rfl, HX.out⟩

/-- the bytes of a row -/
def rowBytes (l : Row) : Nat := (l.map fun r => r.text.size).sum
/-- the number of characters of a row, -1 if a text is not valid -/
def rowLen : Row → Int
  | [] => 0
  | r :: l => if clen r.text < 0 then -1 else if rowLen l < 0 then -1 else clen r.text + rowLen l

theorem rowBytes_cons (r : Run) (l : Row) : rowBytes (r :: l) = r.text.size + rowBytes l := by simp [rowBytes]
theorem rowBytes_drop (l : Row) (k : Nat) (r : Run) (h : l[k]? = some r) : rowBytes (l.take (k + 1)) = rowBytes (l.take k) + r.text.size := by
  have hkl := (List.getElem?_eq_some_iff.1 h).1
  rw [List.take_succ_eq_append_getElem hkl, (List.getElem?_eq_some_iff.1 h).2]
  simp [rowBytes]
theorem rowBytes_take_le (l : Row) (k : Nat) : rowBytes (l.take k) ≤ rowBytes l := by
  have h : rowBytes l = rowBytes (l.take k) + rowBytes (l.drop k) := by
    have e := List.take_append_drop k l
    have : rowBytes (l.take k ++ l.drop k) = rowBytes (l.take k) + rowBytes (l.drop k) := by simp only [rowBytes, List.map_append, List.sum_append]
    rw [← this, e]
  omega
theorem clen_le (s : ByteArray) : clen s ≤ s.size := by
  unfold clen
  split
  · have := Lib.runeCount_le s; omega
  · omega
theorem clen_ge (s : ByteArray) : -1 ≤ clen s := by
  unfold clen
  split <;> omega

def LenRel (w : World) (n : Nat) (l : Row) (v i : Value) (wr : World) : Prop :=
  ∃ (k : Nat) (s : Int), k ≤ n ∧ i = .int .i64 k ∧ v = .int .i64 s ∧ 0 ≤ s ∧ s ≤ rowBytes (l.take k) ∧ Ext w wr ∧ rowLen l = if rowLen (l.drop k) < 0 then -1 else s + rowLen (l.drop k)

theorem rowLen_ge : ∀ l : Row, -1 ≤ rowLen l
  | [] => by simp [rowLen]
  | r :: l => by
    have := rowLen_ge l
    have := clen_ge r.text
    unfold rowLen
    split
    · omega
    · split <;> omega

theorem rowLen_step (s : Int) (r : Run) (l : Row) (h : ¬ clen r.text < 0) : (if rowLen (r :: l) < 0 then -1 else s + rowLen (r :: l)) = if rowLen l < 0 then -1 else s + clen r.text + rowLen l := by
  rw [rowLen, if_neg h]
  by_cases h9 : rowLen l < 0
  · simp [h9]
  · rw [if_neg h9, if_neg h9, if_neg (by omega)]
    omega

set_option maxHeartbeats 1000000 in
theorem SLen_any (A : Option Addr) (n c : Nat) (l : Row) (w : World) (hE : Env w) (hl : RunsAt w A n l) (hb : rowBytes l ≤ 4611686018427387904) (hn : n ≤ 4611686018427387904) :
    Calls Tryd.prog 92 #[.agg #[.slice A n c]] w fun e w' => e = .returned (.int .i64 (rowLen l)) ∧ Ext w w' := by
  have HL := Lib.hid hl
  have HLn := Lib.hid hl.len
  clear hl
  have HEn := Lib.hid hE
  clear hE
  go_enter Tryd.func92, Tryd.ntmps92
  go_wp2_with fail
  go_loopw [3, 10] (fun v i wr => LenRel w n l v i wr) (fun _ i _ => n - (intOf i).toNat)
  case atStart =>
    refine ⟨0, 0, Nat.zero_le _, rfl, rfl, by omega, by simp, (Ext.refl w).alloc _, ?_⟩
    have := rowLen_ge l
    simp only [List.drop_zero]
    split <;> omega
  case round =>
    obtain ⟨k, s, hk, rfl, rfl, hs0, hs1, hx, hp⟩ := hrel
    have HP := Lib.hid hp
    clear hp
    by_cases hlt : k < n
    · obtain ⟨b, off, r, rfl, hr, hC⟩ := (HL.out.ext hx).at_ hlt
      obtain ⟨c0, c1, c2, c3, c4⟩ := hC
      have HD := Lib.hid (drop_at l k r hr)
      have hbt := rowBytes_drop l k r hr
      have hble := rowBytes_take_le l (k + 1)
      have hsz : (r.text.size : Int) ≤ 4611686018427387904 := by omega
      have hs2 : s + r.text.size ≤ 4611686018427387904 := by omega
      have hs3 : Hid (s + (r.text.size : Int) ≤ (rowBytes (l.take (k + 1)) : Int)) := by show s + (r.text.size : Int) ≤ _; omega
      clear hbt hble hr
      have hcl := clen_le r.text
      have hcg := clen_ge r.text
      have hcl2 : s + clen r.text ≤ 4611686018427387904 := by omega
      go_wp2_with fail
      refine (CLen_any r.text _ (HEn.out.ext (hx.alloc _)) (by omega)).mono ?_
      rintro e w2 ⟨rfl, hx2⟩
      by_cases hneg : clen r.text < 0
      · go_wp2_with fail
        go_ret
        refine ⟨ret_int ?_, (hx.alloc _).trans hx2⟩
        rw [HP.out, HD.out, rowLen, if_pos (by omega)]
      · go_wp2_with fail
        refine ⟨⟨k + 1, s + clen r.text, by omega, by go_num, rfl, by omega, ?_, (hx.alloc _).trans hx2, ?_⟩, by simp [intOf]; omega⟩
        · have := hs3.out; omega
        · rw [HP.out, HD.out]
          exact rowLen_step s r (l.drop (k + 1)) (by omega)
    · have HD : Hid (l.drop k = []) := List.drop_eq_nil_of_le (by rw [HLn.out]; omega)
      go_wp2_with fail
      go_ret
      exact ⟨ret_int (by rw [HP.out, HD.out]; simp [rowLen]), hx⟩

end Go.Proofs.YtagfedbdakmlgaaDoor

/-! StyleB -/
namespace Go.Proofs.YtagfedbdakmlgaaDoor
set_option linter.unusedVariables false
set_option linter.unusedSimpArgs false
open Go.RowKit

/-- the bytes of a row's text -/
def rowText (l : Row) : List UInt8 := l.flatMap fun r => r.text.data.toList
theorem rowText_len (l : Row) : (rowText l).length = rowBytes l := by
  unfold rowText rowBytes
  induction l with
  | nil => rfl
  | cons r l ih => simp [List.flatMap_cons, ih]

def PlainRel (w : World) (bx : Array Value) (n : Nat) (l : Row) (i : Value) (wr : World) : Prop :=
  ∃ k : Nat, k ≤ n ∧ i = .int .i64 k ∧ Ext (w.alloc (.cells bx 61)) wr ∧ Lib.IsBuilder 133 5 (w.heap.size + 1) (w.heap.size + 1) (Lib.byteCells (rowText (l.take k))) wr

theorem byteCells_append (a b : List UInt8) : Lib.byteCells (a ++ b) = Lib.byteCells a ++ Lib.byteCells b := by simp [Lib.byteCells]
theorem strCells_eq (s : ByteArray) : Lib.strCells s = Lib.byteCells s.data.toList := by
  rfl

theorem rowText_snoc (l : Row) (k : Nat) (r : Run) (h : l[k]? = some r) : rowText (l.take (k + 1)) = rowText (l.take k) ++ r.text.data.toList := by
  have hkl := (List.getElem?_eq_some_iff.1 h).1
  rw [List.take_succ_eq_append_getElem hkl, (List.getElem?_eq_some_iff.1 h).2]
  simp [rowText]

theorem isBuilder_alloc {T e : TypeId} {B b : Nat} {bs : List Value} {w : World} (h : Lib.IsBuilder T e B b bs w) (o : Obj) : Lib.IsBuilder T e B b bs (w.alloc o) := by
  have key : ∀ p, Lib.BuilderAt T e B b p bs w → Lib.BuilderAt T e B b p bs (w.alloc o) := fun p ⟨hB, v, hb, hown, hne⟩ =>
    ⟨hB, v, (Below.heap_alloc w o b (Array.getElem?_eq_some_iff.1 hb).1).trans hb, hown.alloc o, hne⟩
  exact h.elim (fun x => .inl (key _ x)) (fun x => .inr (key _ x))

set_option maxHeartbeats 1000000 in
theorem Plain_any (A : Option Addr) (n c : Nat) (l : Row) (w : World) (hl : RunsAt w A n l) (hb : rowBytes l ≤ 140737488355328) (hn : n ≤ 4611686018427387904) :
    Calls Tryd.prog 54 #[.agg #[.slice A n c]] w fun e w' => e = .returned (.string ⟨(rowText l).toArray⟩) ∧ Ext w w' := by
  have HL := Lib.hid hl
  have HLn := Lib.hid hl.len
  clear hl
  go_enter Tryd.func54, Tryd.ntmps54
  go_wp2_with fail
  go_loopw [9] (fun i wr => PlainRel w #[.slice A n c] n l i wr) (fun i _ => n - (intOf i).toNat)
  case atStart =>
    refine ⟨0, Nat.zero_le _, rfl, (Ext.refl _).alloc _, .inl ⟨Nat.le_refl _, .slice none 0 0, ?_, ⟨rfl, .inl ⟨rfl, rfl⟩⟩, by simp [Value.ownBlock]⟩⟩
    exact Blk.new' (w := w.alloc _) (by simp)
  case round =>
    obtain ⟨k, hk, rfl, hx, hbd⟩ := hrel
    have hxw : Ext w wr := ((Ext.refl w).alloc _).trans hx
    have HB := Lib.hid hbd
    clear hbd
    have hsz := hx.size
    simp only [World.size_alloc] at hsz
    by_cases hlt : k < n
    · obtain ⟨b, off, r, rfl, hr, hC⟩ := (HL.out.ext hxw).at_ hlt
      obtain ⟨c0, c1, c2, c3, c4⟩ := hC
      have HT := Lib.hid (rowText_snoc l k r hr)
      have hbt := rowBytes_drop l k r hr
      have hble := rowBytes_take_le l (k + 1)
      have hlen : Hid ((Lib.byteCells (rowText (l.take k))).length + r.text.size ≤ 140737488355328) := by
        show (Lib.byteCells (rowText (l.take k))).length + r.text.size ≤ _
        rw [Lib.byteCells_length, rowText_len]; omega
      clear hbt hble hr
      go_wp2_with fail
      refine (WriteString_any (w.heap.size + 1) _ _ _ _ (isBuilder_alloc HB.out _) hlen.out (by simp; omega)).mono ?_
      rintro e w2 ⟨rfl, hb2, hx2⟩
      go_wp2_with fail
      refine ⟨⟨k + 1, by omega, by go_num, ?_, ?_⟩, by simp [intOf]; omega⟩
      · exact (hx.alloc _).below hx2 (by simp)
      · rw [HT.out, byteCells_append]
        exact .inr hb2
    · have HT : Hid (l.take k = l) := List.take_of_length_le (by rw [HLn.out]; omega)
      go_wp2_with fail
      refine (Tryd.Builder_String_any (w.heap.size + 1) _ _ _ HB.out (by omega)).mono ?_
      rintro e w2 ⟨rfl, hx2⟩
      go_wp2_with fail
      go_ret
      exact ⟨by rw [HT.out]; rfl, hxw.below hx2 (by omega)⟩
end Go.Proofs.YtagfedbdakmlgaaDoor
