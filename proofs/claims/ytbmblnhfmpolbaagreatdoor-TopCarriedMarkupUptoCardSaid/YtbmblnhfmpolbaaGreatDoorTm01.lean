/- Texts laid together. -/
import Derived.Test.YtbmblnhfmpolbaaGreatDoorRows
import Derived.WalkKit
import Derived.WalkSpells
import Derived.WalkLawsBesides
import Derived.Deep.QuietTactic
import Derived.BigQuiet
import Derived.Deep.RegionHeld3
import Derived.Deep.RegionWith
import Derived.Deep.Draws
import Derived.Deep.LoopGhost
import Derived.Deep.DeepCutAuto
import Derived.Lib.Hide
import Derived.Laws.RangeAny
import Derived.Shelf.Unicode.DecodeSlow
import Derived.Deep.MidRow
import Derived.Maps.AppendAt
import Derived.OpenShut
import Derived.ProofKit
import Derived.Carry
import Derived.Test.YtbmblnhfmpolbaaGreatDoorShelf
import Derived.Lib.LaidU8T
import Derived.Deep.DeepHandedRow
import Derived.Lib.LaidTab
import Derived.Lib.OthersKept
set_option linter.unusedVariables false
set_option linter.unusedSimpArgs false
namespace Go.Proofs.YtbmblnhfmpolbaaGreatDoor
section
open Go.RowKit
theorem ret_int {k : IntKind} {a b : Int} (h : a = b) : Ending.returned (.int k a) = .returned (.int k b) := by rw [h]
theorem ret_bool {a b : Bool} (h : a = b) : Ending.returned (.bool a) = .returned (.bool b) := by rw [h]
def Ext (w w' : World) : Prop := Below w.heap.size w w'
section
variable {w w1 w2 : World}
theorem Ext.refl (w : World) : Ext w w := Below.refl _ _
theorem Ext.trans (h : Ext w w1) (k : Ext w1 w2) : Ext w w2 := Below.trans h (Below.mono k h.size)
theorem Ext.size (h : Ext w w1) : w.heap.size ≤ w1.heap.size := Below.size h
theorem Ext.drew (h : Ext w w1) : Ext w w1.drew := Below.drew h
theorem Ext.drewN (h : Ext w w1) (n : Nat) : Ext w (w1.drewN n) := ⟨h.os, h.tape, h.output, h.size, h.block⟩
theorem Ext.alloc (h : Ext w w1) (o : Obj) : Ext w (w1.alloc o) := Below.alloc h h.size o
theorem Ext.iter (h : Ext w w1) (s : ByteArray) (p : Nat) : Ext w (w1.iter s p) := Below.alloc h h.size _
theorem Ext.setCell (h : Ext w w1) {p : Addr} (hp : w.heap.size ≤ p.block) (u : Value) : Ext w (w1.setCell p u) := Below.setCell h hp u
theorem Ext.grown {row : Option Nat} (h : Ext w w1) (hg : w1.grownBy w2 row) (hr : ∀ k, row = some k → w.heap.size ≤ k) : Ext w w2 := Below.grown h hg h.size hr
theorem Ext.cell {p : Addr} {u : Value} (h : Ext w w1) (hc : w.cell? p = some u) : w1.cell? p = some u :=
 (Below.cell h (World.block_lt_of_cell? w p hc)).trans hc
theorem Ext.frozen {p : Addr} {u : Value} (h : Ext w w1) (hc : w.cell? p = some u) (hf : w.frozen? p = false) : w1.frozen? p = false :=
 (Below.frozen h (World.block_lt_of_cell? w p hc)).trans hf
theorem Ext.cells (h : Ext w w1) : ∀ p : Addr, p.block < w.heap.size → w1.cell? p = w.cell? p := fun _ hp => Below.cell h hp
theorem Ext.bcell (h : Ext w w1) : (∀ b o, b < w.heap.size → w1.cell? ⟨b, o, none⟩ = w.cell? ⟨b, o, none⟩) ∧ (∀ b o, b < w.heap.size → w1.frozen? ⟨b, o, none⟩ = w.frozen? ⟨b, o, none⟩) :=
 ⟨fun _ _ hb => Below.cell h (p := ⟨_, _, none⟩) hb, fun _ _ hb => Below.frozen h (p := ⟨_, _, none⟩) hb⟩
theorem Ext.below {B : Nat} (h : Ext w w1) (k : Below B w1 w2) (hB : w.heap.size ≤ B) : Ext w w2 := Below.trans h (Below.mono k hB)
end
def Env (w : World) : Prop := Lib.Utf8Tabs 4 5 w ∧ ∃ m : Int, w.cell? ⟨3, 0, none⟩ = some (.int .i64 m)
theorem Env.ext {w w1 : World} (h : Env w) (k : Ext w w1) : Env w1 :=
 ⟨⟨fun c hc => k.cell (h.1.1 c hc), fun i hi => ⟨k.cell (h.1.2 i hi).1, k.cell (h.1.2 i hi).2⟩⟩, h.2.elim fun m hm => ⟨m, k.cell hm⟩⟩
theorem take_snoc' {α : Type} (l : List α) (k : Nat) (x : α) (hx : l[k]? = some x) : l.take (k + 1) = l.take k ++ [x] := by
 have hkl := (List.getElem?_eq_some_iff.1 hx).1
 rw [List.take_succ_eq_append_getElem hkl, (List.getElem?_eq_some_iff.1 hx).2]
theorem drop_at {α : Type} (l : List α) (k : Nat) (x : α) (h : l[k]? = some x) : l.drop k = x :: l.drop (k + 1) := by
 have hkl := (List.getElem?_eq_some_iff.1 h).1
 rw [List.drop_eq_getElem_cons hkl, (List.getElem?_eq_some_iff.1 h).2]
def Sl (w : World) (size : Nat) {α : Type} (C : World → Nat → Nat → α → Prop) (A : Option Addr) (n : Nat) (l : List α) : Prop :=
 l.length = n ∧ (0 < n → ∃ b off, A = some ⟨b, off, none⟩ ∧ ∀ i x, l[i]? = some x → C w b (off + i * size) x)
def Stays {α : Type} (C : World → Nat → Nat → α → Prop) : Prop := ∀ w w' b o x, Ext w w' → C w b o x → C w' b o x
section
variable {α : Type} {C : World → Nat → Nat → α → Prop} {w w1 : World} {size n : Nat} {A : Option Addr} {l : List α}
theorem Sl.len (h : Sl w size C A n l) : l.length = n := h.1
theorem Sl.nil : Sl w size C A 0 ([] : List α) := ⟨rfl, fun h => absurd h (by omega)⟩
theorem Sl.ext (hC : Stays C) (h : Sl w size C A n l) (k : Ext w w1) : Sl w1 size C A n l :=
 ⟨h.1, fun hn => (h.2 hn).elim fun b hb => hb.elim fun off ho => ⟨b, off, ho.1, fun i x hx => hC _ _ _ _ _ k (ho.2 i x hx)⟩⟩
theorem Sl.at_ (h : Sl w size C A n l) {i : Nat} (hi : i < n) : ∃ b off x, A = some ⟨b, off, none⟩ ∧ l[i]? = some x ∧ C w b (off + i * size) x := by
 obtain ⟨b, off, hA, hc⟩ := h.2 (by omega)
 have hl : i < l.length := by rw [h.1]; exact hi
 exact ⟨b, off, l[i], hA, List.getElem?_eq_getElem hl, hc i _ (List.getElem?_eq_getElem hl)⟩
end
structure Run where
 text : ByteArray
 color : Int
 italic : Bool
 under : Bool
 ruby : ByteArray
 deriving DecidableEq
def RunC (w : World) (b o : Nat) (r : Run) : Prop :=
 w.cell? ⟨b, o, none⟩ = some (.string r.text) ∧ w.cell? ⟨b, o + 1, none⟩ = some (.int .u8 r.color) ∧ w.cell? ⟨b, o + 2, none⟩ = some (.bool r.italic) ∧
 w.cell? ⟨b, o + 3, none⟩ = some (.bool r.under) ∧ w.cell? ⟨b, o + 4, none⟩ = some (.string r.ruby)
theorem RunC.stays : Stays RunC := fun _ _ _ _ _ k h => ⟨k.cell h.1, k.cell h.2.1, k.cell h.2.2.1, k.cell h.2.2.2.1, k.cell h.2.2.2.2⟩
def RunsAt (w : World) (A : Option Addr) (n : Nat) (l : List Run) : Prop := Sl w 5 RunC A n l
theorem RunsAt.ext {w w1 : World} {A : Option Addr} {n : Nat} {l : List Run} (h : RunsAt w A n l) (k : Ext w w1) : RunsAt w1 A n l := Sl.ext RunC.stays h k
def Run.val (r : Run) : Value := .agg #[.string r.text, .int .u8 r.color, .bool r.italic, .bool r.under, .string r.ruby]
abbrev Row := List Run
def RowC (w : World) (b o : Nat) (r : Row) : Prop := ∃ A n c, w.cell? ⟨b, o, none⟩ = some (.slice A n c) ∧ n ≤ c ∧ n * 40 ≤ 140737488355328 ∧ RunsAt w A n r
theorem RowC.stays : Stays RowC := fun _ _ _ _ _ k ⟨A, n, c, h1, h2, h3, h4⟩ => ⟨A, n, c, k.cell h1, h2, h3, h4.ext k⟩
def RowsAt (w : World) (A : Option Addr) (n : Nat) (l : List Row) : Prop := Sl w 1 RowC A n l
theorem RowsAt.ext {w w1 : World} {A : Option Addr} {n : Nat} {l : List Row} (h : RowsAt w A n l) (k : Ext w w1) : RowsAt w1 A n l := Sl.ext RowC.stays h k
end
section
open Go.RowKit
def Blk (w : World) (g : Nat) (t : TypeId) (cs : Array Value) : Prop := w.heap[g]? = some (.cells cs t (0, 0))
def putB (w : World) (g : Nat) (t : TypeId) (cs : Array Value) : World := { w with heap := w.heap.setIfInBounds g (.cells cs t (0, 0)) }
section
variable {w w1 : World} {g : Nat} {t : TypeId} {cs : Array Value}
theorem Blk.lt (h : Blk w g t cs) : g < w.heap.size := (Array.getElem?_eq_some_iff.1 h).1
theorem Blk.cell (h : Blk w g t cs) (i : Nat) : w.cell? ⟨g, i, none⟩ = cs[i]? := by simp [World.cell?, show w.heap[g]? = _ from h]
theorem Blk.frozen (h : Blk w g t cs) (i : Nat) : w.frozen? ⟨g, i, none⟩ = false := by simp [World.frozen?, show w.heap[g]? = _ from h]
theorem Blk.new (w : World) (t : TypeId) (cs : Array Value) : Blk (w.alloc (.cells cs t)) w.heap.size t cs := by
 show (w.heap.push _)[w.heap.size]? = _
 simp
theorem Blk.new' (hg : g = w.heap.size) : Blk (w.alloc (.cells cs t)) g t cs := by subst hg; exact Blk.new w t cs
theorem Blk.ext (h : Blk w g t cs) (k : Ext w w1) : Blk w1 g t cs := (k.block g h.lt).trans h
theorem Blk.alloc (h : Blk w g t cs) (o : Obj) : Blk (w.alloc o) g t cs := h.ext ((Ext.refl w).alloc o)
theorem Blk.drew (h : Blk w g t cs) : Blk w.drew g t cs := h
theorem Blk.drewN (h : Blk w g t cs) (n : Nat) : Blk (w.drewN n) g t cs := h
theorem Blk.put (h : Blk w g t cs) (cs' : Array Value) : Blk (putB w g t cs') g t cs' := by
 unfold Blk putB
 simp [h.lt]
theorem Blk.put_other {g' : Nat} {t' : TypeId} (h : Blk w g t cs) (hne : g' ≠ g) (cs' : Array Value) : Blk (putB w g' t' cs') g t cs := by
 unfold Blk putB
 simp only
 rw [Array.getElem?_setIfInBounds_ne hne]
 exact h
theorem putB_size (w : World) (g : Nat) (t : TypeId) (cs : Array Value) : (putB w g t cs).heap.size = w.heap.size := by simp [putB]
theorem putB_cell_other {p : Addr} (hne : p.block ≠ g) : (putB w g t cs).cell? p = w.cell? p := by
 unfold World.cell? putB
 simp only
 rw [Array.getElem?_setIfInBounds_ne (Ne.symm hne)]
theorem Ext.put {w0 : World} (h : Ext w0 w) (hg : w0.heap.size ≤ g) (t : TypeId) (cs : Array Value) : Ext w0 (putB w g t cs) :=
 ⟨h.os, h.tape, h.output, by rw [putB_size]; exact h.size, fun k hk => by
  unfold putB
  simp only
  rw [Array.getElem?_setIfInBounds_ne (by omega)]
  exact h.block k hk⟩
theorem setCell_put (h : Blk w g t cs) (i : Nat) (u : Value) : w.setCell ⟨g, i, none⟩ u = putB w g t (cs.setIfInBounds i u) := by
 unfold World.setCell putB
 congr 1
 apply Array.ext_getElem?
 intro j
 rw [Array.getElem?_modify]
 by_cases hj : g = j
 · subst hj
   simp only [if_true, show w.heap[g]? = _ from h, Option.map_some]
   rw [Array.getElem?_setIfInBounds_self_of_lt h.lt]
   simp
 · rw [if_neg hj, Array.getElem?_setIfInBounds_ne hj]
theorem putB_putB (w : World) (g : Nat) (t t' : TypeId) (cs cs' : Array Value) : putB (putB w g t cs) g t' cs' = putB w g t' cs' := by
 unfold putB
 simp
theorem putB_same (h : Blk w g t cs) : putB w g t cs = w := by
 have e : w.heap.setIfInBounds g (.cells cs t (0, 0)) = w.heap := by
  apply Array.ext_getElem?
  intro j
  by_cases hj : g = j
  · subst hj
    rw [Array.getElem?_setIfInBounds_self_of_lt h.lt]; exact h.symm
  · rw [Array.getElem?_setIfInBounds_ne hj]
 unfold putB
 rw [e]
theorem setCells_put : ∀ (vs pre old : List Value) (w : World), Blk w g t (pre ++ old).toArray → old.length = vs.length →
 w.setCells g pre.length vs = putB w g t (pre ++ vs).toArray
 | [], pre, old, w, h, hl => by
  obtain rfl : old = [] := List.eq_nil_of_length_eq_zero hl
  simp only [World.setCells]
  exact (putB_same h).symm
 | v :: vs, pre, [], w, h, hl => by simp at hl
 | v :: vs, pre, x :: old, w, h, hl => by
  simp only [World.setCells]
  have e : ((pre ++ x :: old).toArray).setIfInBounds pre.length v = (pre ++ [v] ++ old).toArray := by
   apply Array.ext'
   simp [List.set_append]
  rw [setCell_put h, e]
  have h2 := setCells_put vs (pre ++ [v]) old _ (by rw [← e]; exact h.put _) (by simpa using hl)
  rw [List.length_append] at h2
  simp only [List.length_cons, List.length_nil, Nat.zero_add] at h2
  rw [← e, h2, putB_putB]
  simp
theorem setCells_all (h : Blk w g t cs) (cs' : Array Value) (hl : cs.size = cs'.size) : w.setCells g 0 cs'.toList = putB w g t cs' := by
 have h' : Blk w g t ([] ++ cs.toList).toArray := by simpa using h
 have := setCells_put cs'.toList [] cs.toList w h' (by simpa using hl)
 simpa using this
end
section
variable {P : Program} {ops : Array Oper} {rest : List Oper} {op : Oper} {a : Act} {w : World} {Q : Exit → Act → World → Prop}
theorem wpList_storeB (hgd : op.guard = none) (ty : TypeId) (x y : Operand) (ho : op.op = .store ty x y) (g : Nat) (t : TypeId) (cs cs' : Array Value) (hx : a.eval x = .pointer (some ⟨g, 0, none⟩)) (hy : a.eval y = .agg cs')
 (hB : Blk w g t cs) (hl : cs.size = cs'.size) (hi : (P.info? ty).map (·.size) = some cs'.size) (h1 : cs'.all (·.oneCell') = true)
 (h : wpList P ops Q rest (a.put op.dst undef) (putB w g t cs')) : wpList P ops Q (op :: rest) a w := by
 refine wpList_store_mid hgd ty x y ho g 0 cs' hx hy (fun j hj => ?_) hi h1 (by rw [setCells_all hB cs' hl]; exact h)
 rw [hB.cell, hB.frozen]
 exact ⟨by simp; omega, rfl⟩
theorem wpList_loadB (hgd : op.guard = none) (ty : TypeId) (x : Operand) (ho : op.op = .load ty x) (g : Nat) (t : TypeId) (cs : Array Value) (d : TypeDesc) (hx : a.eval x = .pointer (some ⟨g, 0, none⟩))
 (hB : Blk w g t cs) (hu : P.underlying ty = some d) (hd : d.isRow = true) (hi : (P.info? ty).map (·.size) = some cs.size)
 (h : wpList P ops Q rest (a.put op.dst (.agg cs)) w) : wpList P ops Q (op :: rest) a w := by
 refine wpList_load_mid hgd ty x ho g 0 hx cs.toList d (fun j v hv => ?_) hu hd (by simpa using hi) (by simpa using h)
 rw [hB.cell]
 simpa using hv
theorem run_loadVarB {w : World} (g : Nat) (t : TypeId) (ty : TypeId) (cs : Array Value) (d : TypeDesc) (hB : Blk w g t cs) (hu : P.underlying ty = some d) (hd : d.isRow = true) (hi : (P.info? ty).map (·.size) = some cs.size) :
 (loadVar ty ⟨g, 0, none⟩).run P w = .ok (.agg cs) w := by
 have := run_loadVar_mid (P := P) w g 0 ty cs.toList d (fun j v hv => by rw [hB.cell]; simpa using hv) hu hd (by simpa using hi)
 simpa using this
theorem run_asAddr (w : World) (p : Addr) : (asAddr (.pointer (some p))).run P w = .ok p w := by simp [asAddr]
theorem results_B {fn : Func} {p : Tmp} {ty : TypeId} (h : fn.results = #[.cell p ty]) {tmps : Array Value} {w : World} {g : Nat} {t : TypeId} {cs : Array Value} {d : TypeDesc} (hp : tmps.getD p undef = .pointer (some ⟨g, 0, none⟩))
 (hB : Blk w g t cs) (hu : P.underlying ty = some d) (hd : d.isRow = true) (hi : (P.info? ty).map (·.size) = some cs.size) : (results fn tmps).run P w = .ok (.agg cs) w := by
 have h1 := run_loadVarB (P := P) g t ty cs d hB hu hd hi
 simp only [results, h]
 have e : tmps[p]?.getD undef = .pointer (some ⟨g, 0, none⟩) := by simpa using hp
 simp [Sem.run_bind, e, run_asAddr, h1]
theorem results_B_tmp {fn : Func} {p u : Tmp} {ty : TypeId} (h : fn.results = #[.cell p ty, .tmp u]) {tmps : Array Value} {w : World} {g : Nat} {t : TypeId} {cs : Array Value} {d : TypeDesc} (hp : tmps.getD p undef = .pointer (some ⟨g, 0, none⟩))
 (hB : Blk w g t cs) (hu : P.underlying ty = some d) (hd : d.isRow = true) (hi : (P.info? ty).map (·.size) = some cs.size) : (results fn tmps).run P w = .ok (.tuple #[.agg cs, tmps.getD u undef]) w := by
 have h1 := run_loadVarB (P := P) g t ty cs d hB hu hd hi
 simp only [results, h]
 have e : tmps[p]?.getD undef = .pointer (some ⟨g, 0, none⟩) := by simpa using hp
 simp [Sem.run_bind, e, run_asAddr, h1]
end
end
section
open Go.RowKit
def Cells {α : Type} (f : α → List Value) (w : World) (b o : Nat) (x : α) : Prop := ∀ j u, (f x)[j]? = some u → w.cell? ⟨b, o + j, none⟩ = some u
theorem Cells.stays {α : Type} (f : α → List Value) : Stays (Cells f) := fun _ _ _ _ _ k h j u hu => k.cell (h j u hu)
theorem flatMap_at {α : Type} (f : α → List Value) (size : Nat) (hf : ∀ x, (f x).length = size) : ∀ (l : List α) (i : Nat) (x : α) (j : Nat), l[i]? = some x → j < size → (l.flatMap f)[i * size + j]? = (f x)[j]?
 | [], i, x, j, h, _ => by simp at h
 | a :: l, 0, x, j, h, hj => by
  simp at h
  subst h
  rw [List.flatMap_cons, List.getElem?_append_left (by rw [hf]; omega)]
  simp
 | a :: l, i + 1, x, j, h, hj => by
  rw [List.flatMap_cons, List.getElem?_append_right (by rw [hf, Nat.succ_mul]; omega)]
  rw [show (i + 1) * size + j - (f a).length = i * size + j by rw [hf, Nat.succ_mul]; omega]
  exact flatMap_at f size hf l i x j (by simpa using h) hj
theorem flatMap_len {α : Type} (f : α → List Value) (size : Nat) (hf : ∀ x, (f x).length = size) : ∀ l : List α, (l.flatMap f).length = l.length * size
 | [] => by simp
 | a :: l => by rw [List.flatMap_cons, List.length_append, hf, flatMap_len f size hf l, List.length_cons, Nat.succ_mul]; omega
theorem own_sl {α : Type} {f : α → List Value} {size : Nat} (hf : ∀ x, (f x).length = size) {w : World} {base : Nat} {e : TypeId} {v : Value} {n : Nat} {l : List α} (hl : l.length = n)
 (h : w.ownsRow base e size v n (l.flatMap f)) : ∃ A c, v = .slice A n c ∧ n ≤ c ∧ c ≤ maxLen ∧ Sl w size (Cells f) A n l ∧ (∀ ad, A = some ad → base ≤ ad.block) := by
 rcases h.2 with ⟨rfl, rfl⟩ | ⟨g, cap, cur, rfl, hg, hh, hn, hm, hs, ht⟩
 · exact ⟨none, 0, rfl, Nat.le_refl _, by simp [maxLen], ⟨hl, fun h => absurd h (by omega)⟩, fun ad h => by cases h⟩
 · refine ⟨_, cap, rfl, hn, hm, ⟨hl, fun _ => ⟨g, 0, rfl, fun i x hx j u hu => ?_⟩⟩, fun ad h => by cases h; exact hg⟩
   have hjs : j < size := by
    have := (List.getElem?_eq_some_iff.1 hu).1
    rw [hf] at this
    exact this
   have h1 := flatMap_at f size hf l i x j hx hjs
   rw [hu, ← ht] at h1
   have hlt : i * size + j < n * size := by
    have hi := (List.getElem?_eq_some_iff.1 hx).1
    rw [hl] at hi
    have := Nat.mul_le_mul_right size (show i + 1 ≤ n from hi)
    rw [Nat.succ_mul] at this
    omega
   rw [List.getElem?_take_of_lt hlt] at h1
   rw [show (0 + i * size + j) = i * size + j by omega]
   simp only [World.cell?, hh]
   simpa using h1
theorem own_ext {w w1 : World} {base : Nat} {e : TypeId} {size : Nat} {v : Value} {n : Nat} {xs : List Value} (h : w.ownsRow base e size v n xs) (k : Ext w w1) : w1.ownsRow base e size v n xs := by
 refine ⟨h.1, ?_⟩
 rcases h.2 with hn | ⟨g, cap, cur, rfl, hb, hg, rest⟩
 · exact .inl hn
 · exact .inr ⟨g, cap, cur, rfl, hb, (k.block g (Array.getElem?_eq_some_iff.1 hg).1).trans hg, rest⟩
theorem own_form {w : World} {base : Nat} {e : TypeId} {size : Nat} {v : Value} {n : Nat} {xs : List Value} (h : w.ownsRow base e size v n xs) (hn : 0 < n) : ∃ g cap, v = .slice (some ⟨g, 0, none⟩) n cap ∧ base ≤ g ∧ g < w.heap.size := by
 rcases h.2 with ⟨_, h0⟩ | ⟨g, cap, cur, rfl, hb, hg, _⟩
 · omega
 · exact ⟨g, cap, rfl, hb, (Array.getElem?_eq_some_iff.1 hg).1⟩
def Typed (w : World) (T : TypeId) (b : Nat) : Prop := ∃ cur, w.heap[b]? = some (.cells cur T (0, 0))
theorem Typed.ext {w w1 : World} {T : TypeId} {b : Nat} (h : Typed w T b) (k : Ext w w1) : Typed w1 T b := by
 obtain ⟨cur, hb⟩ := h
 exact ⟨cur, (k.block b (Array.getElem?_eq_some_iff.1 hb).1).trans hb⟩
theorem Typed.lt {w : World} {T : TypeId} {b : Nat} (h : Typed w T b) : b < w.heap.size := by
 obtain ⟨cur, hb⟩ := h
 exact (Array.getElem?_eq_some_iff.1 hb).1
theorem Typed.ne {w : World} {T T' : TypeId} {b b' : Nat} (h : Typed w T b) (h' : Typed w T' b') (hne : T ≠ T') : b ≠ b' := by
 rintro rfl
 obtain ⟨cur, hb⟩ := h
 obtain ⟨cur', hb'⟩ := h'
 rw [hb] at hb'
 injection hb' with e
 injection e with _ e2
 exact hne e2
theorem Typed.setCell {w : World} {T : TypeId} {b : Nat} (h : Typed w T b) (p : Addr) (u : Value) : Typed (w.setCell p u) T b := by
 obtain ⟨cur, hb⟩ := h
 unfold Typed World.setCell
 simp only [Array.getElem?_modify, hb]
 by_cases hp : p.block = b
 · rw [if_pos hp]; exact ⟨_, rfl⟩
 · rw [if_neg hp]; exact ⟨_, rfl⟩
theorem Typed.grown {w w1 : World} {T T' : TypeId} {b : Nat} {row : Option Nat} (h : Typed w T b) (hg : w.grownBy w1 row) (hr : ∀ q, row = some q → Typed w T' q) (hne : T ≠ T') : Typed w1 T b := by
 obtain ⟨cur, hb⟩ := h
 refine ⟨cur, (hg.block b (Array.getElem?_eq_some_iff.1 hb).1 (fun e => ?_)).trans hb⟩
 exact Typed.ne ⟨cur, hb⟩ (hr b e.symm) hne rfl
theorem Blk.typed {w : World} {g : Nat} {t : TypeId} {cs : Array Value} (h : Blk w g t cs) : Typed w t g := ⟨cs, h⟩
theorem Typed.put {w : World} {T t : TypeId} {b g : Nat} {cs : Array Value} (h : Typed w T b) (hB : Blk w g t cs) (cs' : Array Value) (hne : T ≠ t) : Typed (putB w g t cs') T b := by
 have hn : g ≠ b := (Typed.ne h hB.typed hne).symm
 obtain ⟨cur, hb⟩ := h
 refine ⟨cur, ?_⟩
 unfold putB
 simp only
 rw [Array.getElem?_setIfInBounds_ne hn]
 exact hb
theorem Typed.frozen {w : World} {T : TypeId} {b : Nat} (h : Typed w T b) (o : Nat) : w.frozen? ⟨b, o, none⟩ = false := by
 obtain ⟨cur, hb⟩ := h
 simp [World.frozen?, hb]
theorem own_typed {w : World} {base : Nat} {e : TypeId} {size : Nat} {v : Value} {n : Nat} {xs : List Value} (h : w.ownsRow base e size v n xs) : ∀ k, v.ownBlock = some k → Typed w e k := by
 rcases h.2 with ⟨rfl, _⟩ | ⟨g, cap, cur, rfl, hg, hh, _⟩
 · intro k hk; simp [Value.ownBlock] at hk
 · intro k hk; simp [Value.ownBlock] at hk; subst hk; exact ⟨cur, hh⟩
theorem own_lt {w : World} {base : Nat} {e : TypeId} {size : Nat} {v : Value} {n : Nat} {xs : List Value} (h : w.ownsRow base e size v n xs) : ∀ k, v.ownBlock = some k → base ≤ k := by
 rcases h.2 with ⟨rfl, _⟩ | ⟨g, cap, cur, rfl, hg, _⟩
 · intro k hk; simp [Value.ownBlock] at hk
 · intro k hk; simp [Value.ownBlock] at hk; omega
theorem wpList_append1 {P : Program} {ops : Array Oper} {rest : List Oper} {o : Oper} {a : Act} {w : World} {Q : Exit → Act → World → Prop} (hgd : o.guard = none) (s x : Operand) (t : TypeId)
 (ho : o.op = .call { callee := .builtin .append, args := #[s, x], argTypes := #[t, t] })
 {base : Nat} {e : TypeId} {z : Value} {size bytes : Nat} (inf : (P.info? e).map (fun i => (i.zero, i.size, i.bytes)) = some (some z, size, bytes)) (ht : P.underlying t = some (.slice e)) (hzs : z.cells.size = size) (hsz : 0 < size)
 {v : Value} {n : Nat} {xs : List Value} (hown : w.ownsRow base e size v n xs) (hs : a.eval s = v) (g : Nat) (news : Array Value) (hx : a.eval x = .slice (some ⟨g, 0, none⟩) 1 1) (hB : Blk w g e news) (hl : news.size = size) (h1 : news.all (·.oneCell') = true)
 (hroom : (n + 1) * bytes ≤ 140737488355328) (hmax : n + 1 ≤ maxLen) (hbase : base ≤ w.heap.size)
 (h : ∀ v' w', w'.ownsRow base e size v' (n + 1) (xs ++ news.toList) → w.grownBy w' v.ownBlock → wpList P ops Q rest (a.put o.dst v') w') : wpList P ops Q (o :: rest) a w := by
 obtain ⟨i, hi, hz0, hz1, hz2⟩ := info_parts inf
 refine wpList_append_own w hgd s x t ho base e i z size bytes ht hi hz0 hz1 hz2 hzs hsz v n xs hs hown ⟨g, 0, none⟩ 1 1 news.toList hx (by simpa using hl) (fun j u hu => ?_) (fun u hu => ?_) hmax hroom hbase (fun v' w' h2 h3 _ => h v' w' h2 h3)
 · rw [Addr.add_mid, Nat.zero_add, hB.cell]
   simpa using hu
 · exact (Array.all_eq_true_iff_forall_mem.1 h1) u (by simpa using hu)
theorem flatMap_one {α : Type} {f : α → List Value} (h1 : ∀ x, ∀ u ∈ f x, u.oneCell' = true) (l : List α) : ∀ u ∈ l.flatMap f, u.oneCell' = true := by
 intro u hu
 obtain ⟨x, _, hx⟩ := List.mem_flatMap.1 hu
 exact h1 x u hx
theorem sl_news {α : Type} {f : α → List Value} {size : Nat} (hf : ∀ x, (f x).length = size) {w : World} {m b off : Nat} {l : List α} (hl : l.length = m) (hc : ∀ i x, l[i]? = some x → Cells f w b (off + i * size) x) :
 ∀ j u, (l.flatMap f)[j]? = some u → w.cell? ((⟨b, off, none⟩ : Addr).add j) = some u := by
 intro j u hu
 have hj : j < l.length * size := by
  have := (List.getElem?_eq_some_iff.1 hu).1
  rwa [flatMap_len f size hf] at this
 have hs : 0 < size := by
  rcases Nat.eq_zero_or_pos size with h | h
  · subst h; omega
  · exact h
 have hi : j / size < l.length := Nat.div_lt_of_lt_mul (by rw [Nat.mul_comm]; exact hj)
 have hx : l[j / size]? = some l[j / size] := List.getElem?_eq_getElem hi
 have hm : j % size < size := Nat.mod_lt _ hs
 have e : j / size * size + j % size = j := Nat.div_add_mod' j size
 have h1 := flatMap_at f size hf l (j / size) _ (j % size) hx hm
 rw [e, hu] at h1
 have h2 := hc (j / size) _ hx (j % size) u h1.symm
 rw [Addr.add_mid]
 rw [show off + j = off + j / size * size + j % size by omega]
 exact h2
theorem run_append_of_nil {P : Program} (w : World) (base : Nat) (t ty e : TypeId) (i : TypeInfo) (size : Nat) (ht : P.underlying t = some (.slice e)) (hi : P.info? e = some i)
 (v : Value) (n : Nat) (xs : List Value) (hown : w.ownsRow base e size v n xs) (c : Nat) : (Builtin.append_ #[t, t] ty #[v, .slice none 0 c]).run P w = .ok v w := by
 rcases hown.2 with ⟨rfl, rfl⟩ | ⟨g, cap, cur, rfl, _, _, hnc, _⟩
 · simp [Builtin.append_, run_underlying ht, sizeOf, typeInfo, hi, Builtin.lenOf, Builtin.firstCells]
 · simp [Builtin.append_, run_underlying ht, sizeOf, typeInfo, hi, Builtin.lenOf, Builtin.firstCells, hnc, storeCells]
theorem wpList_appendS {α : Type} {f : α → List Value} {P : Program} {ops : Array Oper} {rest : List Oper} {o : Oper} {a : Act} {w : World} {Q : Exit → Act → World → Prop} (hgd : o.guard = none) (s x : Operand) (t : TypeId)
 (ho : o.op = .call { callee := .builtin .append, args := #[s, x], argTypes := #[t, t] })
 {base : Nat} {e : TypeId} {z : Value} {size bytes : Nat} (inf : (P.info? e).map (fun i => (i.zero, i.size, i.bytes)) = some (some z, size, bytes)) (ht : P.underlying t = some (.slice e)) (hzs : z.cells.size = size) (hsz : 0 < size)
 {v : Value} {n : Nat} {xs : List Value} (hown : w.ownsRow base e size v n xs) (hs : a.eval s = v) {A : Option Addr} {m c : Nat} {l : List α} (hx : a.eval x = .slice A m c) (hS : Sl w size (Cells f) A m l) (hf : ∀ x, (f x).length = size) (h1 : ∀ x, ∀ u ∈ f x, u.oneCell' = true)
 (hroom : (n + m) * bytes ≤ 140737488355328) (hmax : n + m ≤ maxLen) (hbase : base ≤ w.heap.size)
 (h : ∀ v' w', w'.ownsRow base e size v' (n + m) (xs ++ l.flatMap f) → w.grownBy w' v.ownBlock → (v' = .slice none 0 0 ↔ v = .slice none 0 0 ∧ m = 0) → wpList P ops Q rest (a.put o.dst v') w') : wpList P ops Q (o :: rest) a w := by
 obtain ⟨i, hi, hz0, hz1, hz2⟩ := info_parts inf
 have hlen : (l.flatMap f).length = m * size := by rw [flatMap_len f size hf, hS.len]
 cases A with
 | none =>
  have hm : m = 0 := by
   rcases Nat.eq_zero_or_pos m with h0 | h0
   · exact h0
   · obtain ⟨_, _, h, _⟩ := hS.2 h0
     cases h
  subst hm
  obtain rfl : l = [] := List.eq_nil_of_length_eq_zero hS.len
  refine wpList_plain hgd fun K hK => ?_
  have hrun := run_append_of_nil (P := P) w base t o.type e i size ht hi v n xs hown c
  unfold Oper.wp execOp
  simp only [ho, resolve, invoke, builtin, Sem.run_bind, Sem.run_pure, Result.andThen_ok, List.map_toArray, List.map_cons, List.map_nil, hs, hx, hrun]
  exact hK _ _ (h v w (by simpa using hown) (World.grownBy.refl w _) ⟨fun e => ⟨e, rfl⟩, fun e => e.1⟩)
 | some ad =>
  refine wpList_append_own w hgd s x t ho base e i z size bytes ht hi hz0 hz1 hz2 hzs hsz v n xs hs hown ad m c (l.flatMap f) hx hlen (fun j u hu => ?_) (flatMap_one h1 l) hmax hroom hbase h
  rcases Nat.eq_zero_or_pos m with h0 | h0
  · subst h0
    obtain rfl : l = [] := List.eq_nil_of_length_eq_zero hS.len
    simp at hu
  · obtain ⟨b, off, hA, hc⟩ := hS.2 h0
    cases hA
    exact sl_news hf hS.len hc j u hu
theorem Sl.take {α : Type} {C : World → Nat → Nat → α → Prop} {w : World} {size n : Nat} {A : Option Addr} {l : List α} (h : Sl w size C A n l) {k : Nat} (hk : k ≤ n) : Sl w size C A k (l.take k) := by
 refine ⟨by simp [h.1]; omega, fun h0 => ?_⟩
 obtain ⟨b, off, hA, hc⟩ := h.2 (by omega)
 refine ⟨b, off, hA, fun i x hx => hc i x ?_⟩
 rw [List.getElem?_take] at hx
 split at hx
 · exact hx
 · cases hx
theorem Sl.drop {α : Type} {C : World → Nat → Nat → α → Prop} {w : World} {size n b o : Nat} {l : List α} (h : Sl w size C (some ⟨b, o, none⟩) n l) (k : Nat) : Sl w size C (some ⟨b, o + k * size, none⟩) (n - k) (l.drop k) := by
 refine ⟨by simp [h.1], fun h0 => ?_⟩
 obtain ⟨b', off, hA, hc⟩ := h.2 (by omega)
 injection hA with hA
 injection hA with hb ho _
 subst hb ho
 refine ⟨_, _, rfl, fun i x hx => ?_⟩
 rw [List.getElem?_drop] at hx
 have := hc (k + i) x hx
 rw [Nat.add_mul] at this
 rw [Nat.add_assoc]
 exact this
theorem own_le' {w : World} {L L' : Nat} {e : TypeId} {size : Nat} {v : Value} {n : Nat} {xs : List Value} (h : w.ownsRow L e size v n xs) (hl : L' ≤ L) : w.ownsRow L' e size v n xs := by
 refine ⟨h.1, ?_⟩
 rcases h.2 with hn | ⟨g, cap, cur, rfl, hb, rest⟩
 · exact .inl hn
 · exact .inr ⟨g, cap, cur, rfl, Nat.le_trans hl hb, rest⟩
theorem Sl.change {α : Type} {C D : World → Nat → Nat → α → Prop} {w : World} {size n : Nat} {A : Option Addr} {l : List α} (h : Sl w size C A n l) (hcd : ∀ b o x, C w b o x → D w b o x) : Sl w size D A n l :=
 ⟨h.1, fun hn => (h.2 hn).elim fun b hb => hb.elim fun off ho => ⟨b, off, ho.1, fun i x hx => hcd _ _ _ (ho.2 i x hx)⟩⟩
end
section
open Go.RowKit Go.ChangeShapes Go.WideShapes Go.ChangeAt
theorem list_1 {α : Type} {l : List α} (h : l.length = 1) : ∃ v0, l = [v0] := by
 match l, h with
 | [v0], _ => exact ⟨v0, rfl⟩
theorem list_2 {α : Type} {l : List α} (h : l.length = 2) : ∃ v0 v1, l = [v0, v1] := by
 match l, h with
 | [v0, v1], _ => exact ⟨v0, v1, rfl⟩
theorem list_3 {α : Type} {l : List α} (h : l.length = 3) : ∃ v0 v1 v2, l = [v0, v1, v2] := by
 match l, h with
 | [v0, v1, v2], _ => exact ⟨v0, v1, v2, rfl⟩
theorem list_4 {α : Type} {l : List α} (h : l.length = 4) : ∃ v0 v1 v2 v3, l = [v0, v1, v2, v3] := by
 match l, h with
 | [v0, v1, v2, v3], _ => exact ⟨v0, v1, v2, v3, rfl⟩
theorem list_5 {α : Type} {l : List α} (h : l.length = 5) : ∃ v0 v1 v2 v3 v4, l = [v0, v1, v2, v3, v4] := by
 match l, h with
 | [v0, v1, v2, v3, v4], _ => exact ⟨v0, v1, v2, v3, v4, rfl⟩
theorem list_6 {α : Type} {l : List α} (h : l.length = 6) : ∃ v0 v1 v2 v3 v4 v5, l = [v0, v1, v2, v3, v4, v5] := by
 match l, h with
 | [v0, v1, v2, v3, v4, v5], _ => exact ⟨v0, v1, v2, v3, v4, v5, rfl⟩
theorem list_7 {α : Type} {l : List α} (h : l.length = 7) : ∃ v0 v1 v2 v3 v4 v5 v6, l = [v0, v1, v2, v3, v4, v5, v6] := by
 match l, h with
 | [v0, v1, v2, v3, v4, v5, v6], _ => exact ⟨v0, v1, v2, v3, v4, v5, v6, rfl⟩
theorem list_8 {α : Type} {l : List α} (h : l.length = 8) : ∃ v0 v1 v2 v3 v4 v5 v6 v7, l = [v0, v1, v2, v3, v4, v5, v6, v7] := by
 match l, h with
 | [v0, v1, v2, v3, v4, v5, v6, v7], _ => exact ⟨v0, v1, v2, v3, v4, v5, v6, v7, rfl⟩
def Opens {α : Type} (P : Program) (W : World) (t : TypeId) (R : List Value → α → Prop) : Prop :=
 ∀ (H : Type) (enc : TypeId × Value → H) (fuel : Nat) (cs : List Value) (x : DataW H × List MemPlace), DataW.trod enc P W 0 (fun _ => true) true fuel t cs = some x → (∀ n ∈ x.1.weights P t, n ≤ reachBytes) → ∃ a, R cs a
theorem weightsAll_mem {H : Type} {P : Program} {e : TypeId} : ∀ {l : List (DataW H)} {d : DataW H} {n : Nat}, d ∈ l → n ∈ d.weights P e → n ∈ DataW.weightsAll P e l
 | [], _, _, h, _ => by cases h
 | x :: l, d, n, h, hn => by
  simp only [DataW.weightsAll, List.mem_append]
  cases List.mem_cons.1 h with
  | inl e => subst e; exact .inl hn
  | inr e => exact .inr (weightsAll_mem e hn)
theorem weightsEach_mem {H : Type} {P : Program} : ∀ {ts : List TypeId} {l : List (DataW H)} {i : Nat} {t : TypeId} {d : DataW H} {n : Nat}, ts[i]? = some t → l[i]? = some d → n ∈ d.weights P t → n ∈ DataW.weightsEach P ts l
 | [], _, _, _, _, _, h, _, _ => by simp at h
 | _ :: _, [], _, _, _, _, _, h, _ => by simp at h
 | t :: ts, x :: l, 0, _, _, n, h1, h2, hn => by
  simp only [List.getElem?_cons_zero, Option.some.injEq] at h1 h2
  subst h1 h2
  simp only [DataW.weightsEach, List.mem_append]
  exact .inl hn
 | t :: ts, x :: l, i + 1, _, _, n, h1, h2, hn => by
  simp only [List.getElem?_cons_succ] at h1 h2
  simp only [DataW.weightsEach, List.mem_append]
  exact .inr (weightsEach_mem h1 h2 hn)
theorem wt_at {H : Type} {P : Program} {ts : List TypeId} {ds : List (DataW H)} (h : (DataW.weightsEach P ts ds).all (· ≤ reachBytes) = true) {i : Nat} {t : TypeId} {d : DataW H} (ht : ts[i]? = some t) (hd : ds[i]? = some d) : ∀ n ∈ d.weights P t, n ≤ reachBytes := fun n hn => by
 have := List.all_eq_true.1 h n (weightsEach_mem ht hd hn)
 simpa using this
theorem cell_none {w : World} {b o : Nat} {sp : Option Nat} {v : Value} (h : w.cell? ⟨b, o, sp⟩ = some v) : sp = none := by
 unfold World.cell? at h
 split at h
 · split at h
   · cases h
   · rename_i hs; simpa using hs
 · cases h
def Mem {α : Type} (R : List Value → α → Prop) (W : World) (b o : Nat) (a : α) : Prop := ∃ cs, (∀ j u, cs[j]? = some u → W.cell? ⟨b, o + j, none⟩ = some u) ∧ R cs a
theorem Opens.slice {α : Type} {P : Program} {W : World} {t e : TypeId} {s bts : Nat} {R : List Value → α → Prop} (ht : P.underlying t = some (.slice e)) (hc : P.cellsOf e = s) (hs : 0 < s) (hb : P.bytesOf e = bts) (hR : Opens P W e R)
 {H : Type} {enc : TypeId × Value → H} {fuel : Nat} {cs : List Value} {x : DataW H × List MemPlace} (h : DataW.trod enc P W 0 (fun _ => true) true fuel t cs = some x) (hw : ∀ n ∈ x.1.weights P t, n ≤ reachBytes) :
 ∃ A n c l, cs = [.slice A n c] ∧ n ≤ c ∧ c ≤ maxLen ∧ c * bts ≤ reachBytes ∧ Sl W s (fun w => Mem R w) A n l := by
 rcases DataW.trod_slice ht h with ⟨rfl, rfl⟩ | ⟨ad, len, cap, elems, rest, n, rfl, rfl, rfl, _, hlc, hcm, hel, hat, hsp, _⟩
 · exact ⟨none, 0, 0, [], rfl, Nat.le_refl _, by simp [maxLen], by simp [reachBytes], Sl.nil⟩
 · obtain ⟨hrl, _⟩ := hsp rfl
   simp only [DataW.weights, ht, List.mem_cons, List.mem_append, List.length_map] at hw
   have hcap : cap * bts ≤ reachBytes := by
    have := hw _ (.inl rfl)
    rw [hel, hrl, hb, show len + (cap - len) = cap by omega] at this
    exact this
   have hall : ∀ i, i < len → ∃ a b off, ad = ⟨b, off, none⟩ ∧ Mem R W b (off + i * s) a := by
    intro i hi
    have h1 := hat i hi
    have hie : i < elems.length := by omega
    rw [List.getElem?_eq_getElem hie, Option.bind_eq_some_iff] at h1
    obtain ⟨cs', h2, h3⟩ := h1
    obtain ⟨a, ha⟩ := hR H enc n cs' _ h3 (fun m hm => hw m (.inr (.inl (weightsAll_mem (List.mem_map.2 ⟨_, List.getElem_mem hie, rfl⟩) hm))))
    obtain ⟨_, hcl, hcc⟩ := World.cells?_some h2
    rw [hc] at hcl hcc
    -- the spot
    obtain ⟨b, off, sp⟩ := ad
    have h0 := hcc 0 hs
    have hspot : ∀ (i : Nat), i * P.cellsOf e = i * s := fun i => by rw [hc]
    refine ⟨a, b, off, ?_, cs', fun j u hu => ?_, ha⟩
    · -- the first element's first cell is there
      have hz := hat 0 (by omega)
      rw [List.getElem?_eq_getElem (show 0 < elems.length by omega), Option.bind_eq_some_iff] at hz
      obtain ⟨cz, hz2, _⟩ := hz
      obtain ⟨_, hzl, hzc⟩ := World.cells?_some hz2
      rw [hc] at hzl hzc
      have := hzc 0 hs
      rw [List.getElem?_eq_getElem (show 0 < cz.length by omega)] at this
      simp only [Nat.zero_mul, Addr.add, if_true] at this
      rw [cell_none this]
    · have hj : j < s := by rw [← hcl]; exact (List.getElem?_eq_some_iff.1 hu).1
      have h4 := hcc j hj
      rw [hu] at h4
      have e1 : (⟨b, off + i * s + j, none⟩ : Addr) = (Addr.add ⟨b, off, none⟩ (i * s)).add j := by rw [Addr.add_mid, Addr.add_mid]
      rw [e1]
      by_cases hz : i * s + j = 0
      · have hi0 : i * s = 0 := by omega
        have hj0 : j = 0 := by omega
        rw [hi0, hj0] at h4 ⊢
        simp only [Addr.add, if_true] at h4 ⊢
        obtain rfl := cell_none h4
        exact h4
      · have e2 : (Addr.add ⟨b, off, sp⟩ (i * s)).add j = (Addr.add ⟨b, off, none⟩ (i * s)).add j := by
         simp only [Addr.add]
         by_cases h5 : i * s = 0
         · rw [if_pos h5, if_pos h5, if_neg (by omega), if_neg (by omega)]
         · rw [if_neg h5, if_neg h5]
        rw [e2] at h4
        exact h4
   by_cases h0 : len = 0
   · subst h0
     exact ⟨some ad, 0, cap, [], rfl, hlc, hcm, hcap, Sl.nil⟩
   · obtain ⟨_, b, off, rfl, _⟩ := hall 0 (by omega)
     have hall' : ∀ i, ∃ a : Option α, i < len → ∃ a', a = some a' ∧ Mem R W b (off + i * s) a' := by
      intro i
      by_cases hi : i < len
      · obtain ⟨a, b', off', he, hm⟩ := hall i hi
        cases he
        exact ⟨some a, fun _ => ⟨a, rfl, hm⟩⟩
      · exact ⟨none, fun h => absurd h hi⟩
     obtain ⟨f, hf⟩ := Classical.axiomOfChoice hall'
     have hl : ((List.range len).filterMap f).length = len ∧ ∀ i, i < len → ((List.range len).filterMap f)[i]? = f i := by
      have key : ∀ m, m ≤ len → ((List.range m).filterMap f).length = m ∧ ∀ i, i < m → ((List.range m).filterMap f)[i]? = f i := by
       intro m
       induction m with
       | zero => intro _; exact ⟨rfl, fun i hi => absurd hi (by omega)⟩
       | succ m ih =>
        intro hm
        obtain ⟨h1, h2⟩ := ih (by omega)
        obtain ⟨a', ha', _⟩ := hf m (by omega)
        rw [List.range_succ, List.filterMap_append]
        simp only [List.filterMap_cons, ha', List.filterMap_nil]
        refine ⟨by simp [h1], fun i hi => ?_⟩
        by_cases him : i < m
        · rw [List.getElem?_append_left (by omega)]; exact h2 i him
        · have : i = m := by omega
          subst this
          rw [List.getElem?_append_right (by omega), h1, ha']
          simp
      exact key len (Nat.le_refl _)
     refine ⟨_, len, cap, (List.range len).filterMap f, rfl, hlc, hcm, hcap, hl.1, fun _ => ⟨b, off, rfl, fun i a ha => ?_⟩⟩
     have hi : i < len := by rw [← hl.1]; exact (List.getElem?_eq_some_iff.1 ha).1
     rw [hl.2 i hi] at ha
     obtain ⟨a', ha', hm⟩ := hf i hi
     rw [ha] at ha'
     cases ha'
     exact hm
theorem Opens.int {P : Program} {W : World} {t : TypeId} {k : IntKind} (ht : P.underlying t = some (.int k)) : Opens P W t (fun cs (a : Int) => cs = [.int k a] ∧ (Lit.int k a).wf = true) :=
 fun _ _ _ _ _ h _ => by obtain ⟨n, h1, _, h2⟩ := DataW.trod_int ht h; exact ⟨n, h1, h2⟩
theorem Opens.bool {P : Program} {W : World} {t : TypeId} (ht : P.underlying t = some .bool) : Opens P W t (fun cs (a : Bool) => cs = [.bool a]) :=
 fun _ _ _ _ _ h _ => by obtain ⟨n, h1, _⟩ := DataW.trod_bool ht h; exact ⟨n, h1⟩
theorem Opens.string {P : Program} {W : World} {t : TypeId} (ht : P.underlying t = some .string) : Opens P W t (fun cs (a : ByteArray) => cs = [.string a] ∧ a.size ≤ 140737488351232) :=
 fun _ _ _ _ _ h hw => by
  obtain ⟨s, h1, h2, _⟩ := DataW.trod_string ht h
  subst h2
  refine ⟨s, h1, ?_⟩
  have := hw s.data.toList.length (by simp [DataW.weights])
  simpa [reachBytes] using this
theorem Opens.mono {α β : Type} {P : Program} {W : World} {t : TypeId} {R : List Value → α → Prop} {S : List Value → β → Prop} (h : Opens P W t R) (f : α → β) (k : ∀ cs a, R cs a → S cs (f a)) : Opens P W t S :=
 fun H enc fuel cs x h1 h2 => by obtain ⟨a, ha⟩ := h H enc fuel cs x h1 h2; exact ⟨f a, k cs a ha⟩
theorem Opens.fields {P : Program} {W : World} {t : TypeId} {fs : Array Field} (ht : P.underlying t = some (.struct fs)) {H : Type} {enc : TypeId × Value → H} {fuel : Nat} {cs : List Value} {x : DataW H × List MemPlace}
 (h : DataW.trod enc P W 0 (fun _ => true) true fuel t cs = some x) (hw : ∀ n ∈ x.1.weights P t, n ≤ reachBytes) :
 cs.length = P.cellsOf t ∧ ∀ (i : Nat) (f : Field), fs[i]? = some f → ∀ {α : Type} {R : List Value → α → Prop}, Opens P W f.type R → ∃ a, R ((cs.drop f.offset).take (P.cellsOf f.type)) a := by
 obtain ⟨xs, n, rfl, rfl, hl, hlen, hf⟩ := DataW.trod_struct ht h
 refine ⟨hl, fun i f hif α R hR => ?_⟩
 have h1 := hf i f hif
 have hi : i < xs.length := by rw [hlen]; exact (Array.getElem?_eq_some_iff.1 hif).1
 rw [List.getElem?_eq_getElem hi] at h1
 refine hR H enc n _ _ h1 (fun m hm => hw m ?_)
 simp only [DataW.weights, ht]
 refine weightsEach_mem (i := i) (t := f.type) (d := xs[i].1) ?_ ?_ hm
 · rw [List.getElem?_map]
   have : fs.toList[i]? = some f := by simpa using hif
   rw [this]; rfl
 · rw [List.getElem?_map, List.getElem?_eq_getElem hi]; rfl
end
section
open Go.RowKit Go.ChangeShapes Go.WideShapes Go.ChangeAt
set_option maxRecDepth 100000
theorem cells_string : Tryz.prog.cellsOf 9 = 1 := by kernel_rfl
theorem cells_int64 : Tryz.prog.cellsOf 2 = 1 := by kernel_rfl
theorem cells_int : Tryz.prog.cellsOf 3 = 1 := by kernel_rfl
theorem cells_bool : Tryz.prog.cellsOf 4 = 1 := by kernel_rfl
theorem cells_span : Tryz.prog.cellsOf 56 = 2 := by kernel_rfl
theorem Sl.all {α : Type} {C : World → Nat → Nat → α → Prop} {w : World} {size n : Nat} {A : Option Addr} {l : List α} {p : α → Prop} (h : Sl w size C A n l) (k : ∀ b o x, C w b o x → p x) : ∀ x ∈ l, p x := by
 intro x hx
 obtain ⟨i, hi⟩ := List.getElem?_of_mem hx
 have : i < n := by rw [← h.1]; exact (List.getElem?_eq_some_iff.1 hi).1
 obtain ⟨b, off, _, hc⟩ := h.2 (by omega)
 exact k _ _ _ (hc i x hi)
theorem open_span (W : World) : Opens Tryz.prog W 56 (fun cs (a : Int × Int) => cs = [.int .i64 a.1, .int .i64 a.2] ∧ (-9223372036854775808 ≤ a.1 ∧ a.1 ≤ 9223372036854775807) ∧ (-9223372036854775808 ≤ a.2 ∧ a.2 ≤ 9223372036854775807)) := by
 intro H enc fuel cs x h hw
 obtain ⟨hl, hf⟩ := Opens.fields Tryz.underlying56 h hw
 rw [cells_span] at hl
 obtain ⟨v0, v1, rfl⟩ := list_2 hl
 obtain ⟨a0, h0, s0⟩ := hf 0 _ rfl (Opens.int Tryz.underlying2)
 obtain ⟨a1, h1, s1⟩ := hf 1 _ rfl (Opens.int Tryz.underlying2)
 simp [cells_int64] at h0 h1
 subst h0 h1
 exact ⟨(a0, a1), rfl, bounds_i64 s0, bounds_i64 s1⟩
theorem agg_of_cells {v : Value} {W : World} {t : TypeId} {fs : Array Field} {b : Nat} (ht : Tryz.prog.underlying t = some (.struct fs)) (hv : Value.okWide Tryz.prog W .any b t v) : ∃ cs, v = .agg cs := by
 unfold Value.okWide at hv
 rw [ht] at hv
 cases v <;> first | exact ⟨_, rfl⟩ | simp at hv
theorem u8extra : U8Extra Tryz.prog Tryz.laysValid_ren := ⟨by kernel_rfl, by kernel_rfl, by kernel_rfl, by kernel_rfl, by kernel_rfl, by kernel_rfl, by kernel_rfl⟩
theorem first_same : Rows.laid_unicode_utf8_first = Lib.firstData := by kernel_rfl
theorem accept_same : (Rows.laid_unicode_utf8_acceptRanges : DataW Unit) = Lib.acceptData := by kernel_rfl
theorem laidOut : laidOutB Tryz.prog = true := by kernel_rfl
theorem trodAll_ext {P : Program} (laidOut : laidOutB P = true) {H : Type} {enc : TypeId × Value → H} {W W' : World} (hx : Ext W W') {sp : Nat → Bool} : ∀ {ts : List TypeId} {vs : List Value} {ds : List (DataW H)} {ps : List MemPlace}, DataW.TrodAll enc P W 0 (fun _ => true) true ts vs ds ps →
 (ts.all fun t => P.readableRec t && decide (t < P.types.size)) = true → (∀ x ∈ ps, x.block < W.heap.size) → (∀ x ∈ ps, sp x.block = true) → DataW.TrodAll enc P W' 0 sp true ts vs ds ps
 | [], _, _, _, h, _, _, _ => by
  obtain ⟨rfl, rfl, rfl⟩ := trodAll_nil h
  exact rfl
 | t :: ts, _, _, _, h, ha, hlt, hsp => by
  obtain ⟨v, vs1, d, ds1, a, b, rfl, rfl, rfl, h1, h2⟩ := trodAll_cons h
  simp only [List.all_cons, Bool.and_eq_true, decide_eq_true_eq] at ha
  refine ⟨a, b, WideElems.Trod_stays laidOut ha.1.1 ha.1.2 h1 (fun x hx' => Below.same hx (hlt x (List.mem_append_left _ hx'))) (fun x hx' => hsp x (List.mem_append_left _ hx')), trodAll_ext laidOut hx h2 ha.2 (fun x hx' => hlt x (List.mem_append_right _ hx')) (fun x hx' => hsp x (List.mem_append_right _ hx')), rfl⟩
theorem post_true {H : Type} {enc : TypeId × Value → H} {f : Func} {s : ChangeSpec} {fresh handsOn : Bool} {W W' : World} {args : Array Value} {ds gs : List (DataW H)} {before : List MemPlace} (hW : DataW.Whole enc Tryz.prog f.params.toList s.vars false W args.toList ds gs before)
 (hv : s.vars = []) (hr : f.resultTypes = #[4]) (hts : (f.params.toList.all fun t => Tryz.prog.readableRec t && decide (t < Tryz.prog.types.size)) = true) (hres : (s.fn H (ds ++ gs)).results = [.lit (.bool true)]) (hargs : (s.fn H (ds ++ gs)).args = ds) (hvars : (s.fn H (ds ++ gs)).vars = [])
 (hx : Ext W W') : s.post enc Tryz.prog f false fresh handsOn false W args (.bool true) W' := by
 have hlt := hW.lt
 obtain ⟨p, q, hA, hV, rfl, hfz, hnd⟩ := hW
 rw [hv] at hV
 obtain ⟨rfl, rfl⟩ := trodVars_none hV
 have hlt' : ∀ x ∈ p, x.block < W.heap.size := fun x hx' => hlt x (by simpa using hx')
 have hA' : DataW.TrodAll enc Tryz.prog W' 0 (fun b => decide (b < W.heap.size)) true f.params.toList args.toList ds p := trodAll_ext laidOut hx hA hts hlt' (fun x hx' => by simpa using hlt' x hx')
 refine ⟨ds, [], p ++ [], [], p, [], ⟨p, [], hA, by rw [hv]; exact rfl, rfl, hfz, hnd⟩, ?_, by rw [hargs]; exact hA', by rw [hv, hvars]; exact rfl, Below.frame hx _, fun h => by cases h⟩
 rw [hr, hres]
 exact trodAll_cons_mk (shut_bool Tryz.underlying4 _) trodAll_mk0
def layFirst : Obj → Obj
 | .cells _ t frozen => .cells (Lib.firstTab.map fun z => Value.int .u8 z).toArray t frozen
 | o => o
def layAccept : Obj → Obj
 | .cells _ t frozen => .cells ((List.range 16).flatMap fun i => [Value.int .u8 (Lib.accLo i : Int), Value.int .u8 (Lib.accHi i : Int)]).toArray t frozen
 | o => o
noncomputable def laidWorld (os : Os) : World :=
 { World.holding Tryz.prog os ⟨#[], #[], []⟩ with heap := ((World.holding Tryz.prog os ⟨#[], #[], []⟩).heap.modify 4 layFirst).modify 5 layAccept }
theorem own : ownKnob Tryz.prog.godebug = none := by kernel_rfl
end
section
theorem dec_pos (s : ByteArray) (pos : Nat) (h : pos < s.size) : 1 ≤ (Utf8.decode s pos).2 := by
 by_cases ha : (s[pos]'h).toNat < 128
 · rw [decode_ascii s pos h ha]; exact Nat.le_refl _
 · exact (decode_high s pos h (by omega)).2
def runesAt (s : ByteArray) : Nat → Nat → List Int
 | 0, _ => []
 | f + 1, pos => if pos < s.size then ((Utf8.decode s pos).1 : Int) :: runesAt s f (pos + (Utf8.decode s pos).2) else []
def runes (s : ByteArray) (pos : Nat) : List Int := runesAt s (s.size - pos) pos
theorem runesAt_fuel (s : ByteArray) : ∀ (f g pos : Nat), s.size - pos ≤ f → s.size - pos ≤ g → runesAt s f pos = runesAt s g pos
 | 0, 0, _, _, _ => rfl
 | 0, g + 1, pos, h, _ => by simp only [runesAt]; rw [if_neg (by omega)]
 | f + 1, 0, pos, _, h => by simp only [runesAt]; rw [if_neg (by omega)]
 | f + 1, g + 1, pos, hf, hg => by
  simp only [runesAt]
  by_cases h : pos < s.size
  · have hw := dec_pos s pos h
    rw [if_pos h, if_pos h, runesAt_fuel s f g _ (by omega) (by omega)]
  · rw [if_neg h, if_neg h]
theorem runes_step (s : ByteArray) (pos : Nat) (h : pos < s.size) : runes s pos = ((Utf8.decode s pos).1 : Int) :: runes s (pos + (Utf8.decode s pos).2) := by
 have hw := dec_pos s pos h
 obtain ⟨f, hf⟩ : ∃ f, s.size - pos = f + 1 := ⟨s.size - pos - 1, by omega⟩
 unfold runes
 rw [hf]
 simp only [runesAt]
 rw [if_pos h, runesAt_fuel s f (s.size - (pos + (Utf8.decode s pos).2)) _ (by omega) (Nat.le_refl _)]
theorem runes_end (s : ByteArray) (pos : Nat) (h : ¬ pos < s.size) : runes s pos = [] := by
 unfold runes
 rw [Nat.sub_eq_zero_of_le (by omega)]
 rfl
def placeL (r : Int) : List Int → Int → Int
 | [], _ => -1
 | x :: l, n => if x = r then n else placeL r l (n + 1)
end
section
open Go.RowKit
def PlaceRel (s : ByteArray) (r : Int) (w : World) (n : Value) (wr : World) : Prop :=
 ∃ pos k : Nat, k ≤ pos ∧ n = .int .i64 k ∧ wr = w.iter s pos ∧ placeL r (runes s 0) 0 = placeL r (runes s pos) k
set_option maxHeartbeats 400000 in
theorem place_any (s : ByteArray) (r : Int) (w : World) (hs : s.size ≤ 9223372036854775807) :
 Calls Tryz.prog 144 #[.string s, .int .i32 r] w fun e w' => e = .returned (.int .i64 (placeL r (runes s 0) 0)) ∧ Ext w w' := by
 go_enter Tryz.func144, Tryz.ntmps144
 go_wp2
 go_loopw [5] (fun n wr => PlaceRel s r w n wr) (fun _ wr => s.size - wr.iterPos w.heap.size)
 case atStart => exact ⟨0, 0, Nat.le_refl _, rfl, rfl, rfl⟩
 case round =>
  obtain ⟨pos, k, hk, rfl, rfl, hp⟩ := hrel
  have HP := Lib.hid hp
  clear hp
  by_cases hlt : pos < s.size
  · have hn := run_next_any (P := Tryz.prog) w s pos
    have hstep := Lib.hid (runes_step s pos hlt)
    have hw := dec_pos s pos hlt
    go_wp2
    · go_ret
      have he : ((Utf8.decode s pos).1 : Int) = r := by simpa using ‹((((Utf8.decode s pos).1 : Int)) == r) = true›
      exact ⟨ret_int (by rw [HP.out, hstep.out, placeL, if_pos he]), (Ext.refl w).iter s _⟩
    · have he : ¬ ((Utf8.decode s pos).1 : Int) = r := by simpa using ‹((((Utf8.decode s pos).1 : Int)) == r) = false›
      refine ⟨⟨pos + (Utf8.decode s pos).2, k + 1, by omega, by go_num, rfl, ?_⟩, by simp; omega⟩
      rw [HP.out, hstep.out, placeL, if_neg he]
      rfl
  · have hn := run_next_end (P := Tryz.prog) w s pos
    have hend := Lib.hid (runes_end s pos hlt)
    go_wp2
    go_ret
    exact ⟨ret_int (by rw [HP.out, hend.out]; rfl), (Ext.refl w).iter s _⟩
def allBytes : ByteArray := ⟨#[32, 33, 34, 35, 36, 37, 38, 39, 40, 41, 42, 43, 44, 45, 46, 47, 48, 49, 50, 51, 52, 53, 54, 55, 56, 57, 58, 59, 60, 61, 62, 63, 64, 65, 66, 67, 68, 69, 70, 71, 72, 73, 74, 75, 76, 77, 78, 79, 80, 81, 82, 83, 84, 85, 86, 87, 88, 89, 90, 91, 92, 93, 94, 95, 96, 97, 98, 99, 100, 101, 102, 103, 104, 105, 106, 107, 108, 109, 110, 111, 112, 113, 114, 115, 116, 117, 118, 119, 120, 121, 122, 123, 124, 125, 126, 194, 161, 194, 162, 194, 163, 194, 164, 194, 165, 194, 166, 194, 167, 194, 169, 194, 171, 194, 174, 194, 176, 194, 183, 194, 187, 194, 189, 194, 191, 195, 128, 195, 129, 195, 130, 195, 131, 195, 132, 195, 133, 195, 134, 195, 135, 195, 136, 195, 137, 195, 138, 195, 139, 195, 140, 195, 141, 195, 142, 195, 143, 195, 145, 195, 146, 195, 147, 195, 148, 195, 149, 195, 150, 195, 152, 195, 153, 195, 154, 195, 155, 195, 156, 195, 159, 195, 160, 195, 161, 195, 162, 195, 163, 195, 164, 195, 165, 195, 166, 195, 167, 195, 168, 195, 169, 195, 170, 195, 171, 195, 172, 195, 173, 195, 174, 195, 175, 195, 177, 195, 178, 195, 179, 195, 180, 195, 181, 195, 182, 195, 184, 195, 185, 195, 186, 195, 187, 195, 188, 197, 146, 197, 147, 226, 128, 148, 226, 128, 152, 226, 128, 153, 226, 128, 156, 226, 128, 157, 226, 128, 162, 226, 128, 166, 226, 132, 162, 226, 153, 170]⟩
def idx (r : Int) : Int := if 32 ≤ r ∧ r ≤ 126 then r - 32 else placeL r (runes allBytes 0) 0
set_option maxRecDepth 100000 in
set_option maxHeartbeats 1000000 in
theorem Index_any (r : Int) (w : World) : Calls Tryz.prog 110 #[.int .i32 r] w fun e w' => e = .returned (.int .i64 (idx r)) ∧ Ext w w' := by
 by_cases h1 : 32 ≤ r
 · by_cases h2 : r ≤ 126
   · go_enter Tryz.func110, Tryz.ntmps110
     go_wp2_with fail
     go_ret
     exact ⟨ret_int (by unfold idx; rw [if_pos ⟨h1, h2⟩]), Ext.refl _⟩
   · go_enter Tryz.func110, Tryz.ntmps110
     go_wp2_with fail
     refine (place_any allBytes r w (by decide)).mono ?_
     rintro e w1 ⟨rfl, h1⟩
     go_wp2_with fail
     go_ret
     exact ⟨ret_int (by unfold idx; rw [if_neg (by omega)]), h1⟩
 · go_enter Tryz.func110, Tryz.ntmps110
   go_wp2_with fail
   refine (place_any allBytes r w (by decide)).mono ?_
   rintro e w1 ⟨rfl, h1⟩
   go_wp2_with fail
   go_ret
   exact ⟨ret_int (by unfold idx; rw [if_neg (by omega)]), h1⟩
end
section
open Go.RowKit
def vld (s : ByteArray) : Bool := Lib.validD s.data.toList && (runes s 0).all fun r => decide (0 ≤ idx r)
theorem Ext.iterAt {w w1 : World} (h : Ext w w1) {k : Nat} (hk : w.heap.size ≤ k) (s : ByteArray) (p : Nat) : Ext w (w1.iterAt k s p) := Lib.below_iterAt h hk s p
theorem Ext.obj {w w1 : World} {k : Nat} {o : Obj} (h : Ext w w1) (hk : w.heap[k]? = some o) : w1.heap[k]? = some o :=
 (h.block k (Array.getElem?_eq_some_iff.1 hk).1).trans hk
theorem ValidString_any (s : ByteArray) (w : World) (hE : Env w) (hs : s.size ≤ 9223372036854775807) :
 Calls Tryz.prog 109 #[.string s] w fun e w' => e = .returned (.bool (Lib.validD s.data.toList)) ∧ Ext w w' :=
 Any.utf8_ValidString Tryz.laysValid s w hs hE.1
def ValidRel (s : ByteArray) (w : World) (g : Nat) (wr : World) : Prop :=
 ∃ pos : Nat, wr.heap[g]? = some (.stringIter s pos) ∧ Ext w wr ∧ ((runes s 0).all fun r => decide (0 ≤ idx r)) = ((runes s pos).all fun r => decide (0 ≤ idx r))
set_option maxHeartbeats 400000 in
theorem Valid_any (s : ByteArray) (w : World) (hE : Env w) (hs : s.size ≤ 9223372036854775807) :
 Calls Tryz.prog 74 #[.string s] w fun e w' => e = .returned (.bool (vld s)) ∧ Ext w w' := by
 cases hv : Lib.validD s.data.toList
 · have HV := Lib.hid hv
   have HF : Hid (vld s = false) := by unfold vld; rw [hv]; rfl
   go_enter Tryz.func74, Tryz.ntmps74
   go_wp2_with fail
   refine (ValidString_any s w hE hs).mono ?_
   rintro e w1 ⟨rfl, h1⟩
   rw [HV.out]
   go_wp2_with fail
   go_ret
   exact ⟨by rw [HF.out]; rfl, h1⟩
 · have HV := Lib.hid hv
   have HF : Hid (vld s = ((runes s 0).all fun r => decide (0 ≤ idx r))) := by unfold vld; rw [hv]; rfl
   clear hv
   go_enter Tryz.func74, Tryz.ntmps74
   go_wp2_with fail
   refine (ValidString_any s w hE hs).mono ?_
   rintro e w1 ⟨rfl, h1⟩
   rw [HV.out]
   go_wp2_with fail
   go_loopw [] (fun wr => ValidRel s w w1.heap.size wr) (fun wr => s.size - wr.iterPos w1.heap.size)
   case atStart => exact ⟨0, w1.iter_heap s 0, h1.iter s 0, rfl⟩
   case round =>
    obtain ⟨pos, hk, hx, hp⟩ := hrel
    have HP := Lib.hid hp
    have HK := Lib.hid hk
    clear hp
    by_cases hlt : pos < s.size
    · have hn := fun ty => Lib.run_next_any_at (P := Tryz.prog) wr _ s pos ty hk hlt
      have hstep := Lib.hid (runes_step s pos hlt)
      have hw := dec_pos s pos hlt
      have hk2 := Lib.hid (Lib.iterAt_heap wr _ s pos (pos + (Utf8.decode s pos).2) hk)
      clear hk
      go_wp2_with fail
      refine (Index_any _ _).mono ?_
      rintro e w2 ⟨rfl, h2⟩
      have hx2 : Ext w w2 := (hx.iterAt h1.size s _).trans h2
      have hk3 := Lib.hid (h2.obj hk2.out)
      by_cases hi : idx ((Utf8.decode s pos).1 : Int) < 0
      · go_wp2_with fail
        go_ret
        exact ⟨by rw [HF.out, HP.out, hstep.out, List.all_cons, decide_eq_false (by omega)]; rfl, hx2⟩
      · go_wp2_with fail
        refine ⟨⟨_, hk3.out, hx2, ?_⟩, ?_⟩
        · rw [HP.out, hstep.out, List.all_cons, decide_eq_true (by omega), Bool.true_and]
        · rw [iterPos_of hk3.out, iterPos_of HK.out]; omega
    · have hn := fun ty => Lib.run_next_end_at (P := Tryz.prog) wr _ s pos ty hk hlt
      have hend := Lib.hid (runes_end s pos hlt)
      clear hk
      go_wp2_with fail
      go_ret
      exact ⟨by rw [HF.out, HP.out, hend.out]; rfl, hx⟩
def clen (s : ByteArray) : Int := if vld s then (Lib.runeCount s : Int) else -1
theorem RuneCount_any (s : ByteArray) (w : World) (hs : s.size < 9223372036854775807) :
 Calls Tryz.prog 90 #[.string s] w fun e w' => e = .returned (.int .i64 (Lib.runeCount s)) ∧ Ext w w' :=
 (Tryz.utf8_RuneCountInString s w hs).mono fun _ _ ⟨he, pos, hw⟩ => ⟨he, by rw [hw]; exact (Ext.refl w).iter s pos⟩
set_option maxHeartbeats 400000 in
theorem CLen_any (s : ByteArray) (w : World) (hE : Env w) (hs : s.size < 9223372036854775807) :
 Calls Tryz.prog 147 #[.string s] w fun e w' => e = .returned (.int .i64 (clen s)) ∧ Ext w w' := by
 cases hv : vld s
 · have HV := Lib.hid hv
   clear hv
   go_enter Tryz.func147, Tryz.ntmps147
   go_wp2_with fail
   refine (Valid_any s w hE (by omega)).mono ?_
   rintro e w1 ⟨rfl, h1⟩
   rw [HV.out]
   go_wp2_with fail
   go_ret
   exact ⟨ret_int (by unfold clen; rw [HV.out]; rfl), h1⟩
 · have HV := Lib.hid hv
   clear hv
   go_enter Tryz.func147, Tryz.ntmps147
   go_wp2_with fail
   refine (Valid_any s w hE (by omega)).mono ?_
   rintro e w1 ⟨rfl, h1⟩
   rw [HV.out]
   go_wp2_with fail
   refine (RuneCount_any s w1 hs).mono ?_
   rintro e w2 ⟨rfl, h2⟩
   go_wp2_with fail
   go_ret
   exact ⟨ret_int (by unfold clen; rw [HV.out]; rfl), h1.trans h2⟩
end
end Go.Proofs.YtbmblnhfmpolbaaGreatDoor