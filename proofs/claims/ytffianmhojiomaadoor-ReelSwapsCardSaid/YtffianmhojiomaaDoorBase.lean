/- Words for memory: 'Ext' (the world with more memory, the old one unchanged), slices that read as lists of runs and rows, and the environment (the tables of unicode/utf8, the variable of internal/bytealg) that the walks carry. -/
import Derived.Test.YtffianmhojiomaaDoorRows
import Derived.WalkKit
import Derived.WalkSpells
import Derived.WalkLawsBesides
import Derived.Deep.QuietTactic
import Derived.BigQuiet
import Derived.Deep.RegionHeld3
import Derived.Deep.RegionWith
import Derived.Deep.Draws
import Derived.Deep.LoopGhost
import Derived.Deep.DeepCutAuto
import Derived.Lib.Hide
import Derived.Laws.RangeAny
import Derived.Shelf.Unicode.DecodeSlow
namespace Go.Proofs.YtffianmhojiomaaDoor
set_option linter.unusedVariables false
set_option linter.unusedSimpArgs false
open Go.RowKit

theorem ret_int {k : IntKind} {a b : Int} (h : a = b) : Ending.returned (.int k a) = .returned (.int k b) := by rw [h]
theorem ret_bool {a b : Bool} (h : a = b) : Ending.returned (.bool a) = .returned (.bool b) := by rw [h]

/-- The world w' is w with more memory: what was there is as it was. -/
def Ext (w w' : World) : Prop := Below w.heap.size w w'

section
variable {w w1 w2 : World}
theorem Ext.refl (w : World) : Ext w w := Below.refl _ _
theorem Ext.trans (h : Ext w w1) (k : Ext w1 w2) : Ext w w2 := Below.trans h (Below.mono k h.size)
theorem Ext.size (h : Ext w w1) : w.heap.size ≤ w1.heap.size := Below.size h
theorem Ext.drew (h : Ext w w1) : Ext w w1.drew := Below.drew h
theorem Ext.drewN (h : Ext w w1) (n : Nat) : Ext w (w1.drewN n) := ⟨h.os, h.tape, h.output, h.size, h.block⟩
theorem Ext.alloc (h : Ext w w1) (o : Obj) : Ext w (w1.alloc o) := Below.alloc h h.size o
theorem Ext.iter (h : Ext w w1) (s : ByteArray) (p : Nat) : Ext w (w1.iter s p) := Below.alloc h h.size _
theorem Ext.setCell (h : Ext w w1) {p : Addr} (hp : w.heap.size ≤ p.block) (u : Value) : Ext w (w1.setCell p u) := Below.setCell h hp u
theorem Ext.grown {row : Option Nat} (h : Ext w w1) (hg : w1.grownBy w2 row) (hr : ∀ k, row = some k → w.heap.size ≤ k) : Ext w w2 := Below.grown h hg h.size hr
theorem Ext.cell {p : Addr} {u : Value} (h : Ext w w1) (hc : w.cell? p = some u) : w1.cell? p = some u :=
  (Below.cell h (World.block_lt_of_cell? w p hc)).trans hc
theorem Ext.frozen {p : Addr} {u : Value} (h : Ext w w1) (hc : w.cell? p = some u) (hf : w.frozen? p = false) : w1.frozen? p = false :=
  (Below.frozen h (World.block_lt_of_cell? w p hc)).trans hf
theorem Ext.cells (h : Ext w w1) : ∀ p : Addr, p.block < w.heap.size → w1.cell? p = w.cell? p := fun _ hp => Below.cell h hp
/-- of two cells of the block that the call itself has made (the rules that the walk uses by itself) -/
theorem Ext.bcell (h : Ext w w1) : (∀ b o, b < w.heap.size → w1.cell? ⟨b, o, none⟩ = w.cell? ⟨b, o, none⟩) ∧ (∀ b o, b < w.heap.size → w1.frozen? ⟨b, o, none⟩ = w.frozen? ⟨b, o, none⟩) :=
  ⟨fun _ _ hb => Below.cell h (p := ⟨_, _, none⟩) hb, fun _ _ hb => Below.frozen h (p := ⟨_, _, none⟩) hb⟩
theorem Ext.below {B : Nat} (h : Ext w w1) (k : Below B w1 w2) (hB : w.heap.size ≤ B) : Ext w w2 := Below.trans h (Below.mono k hB)
theorem Ext.of_alloc (h : Ext w w1) {o : Obj} {w0 : World} (e : w = w0.alloc o) : Ext w0 w1 := by subst e; exact ((Ext.refl w0).alloc o).trans h
end

/-- What the walks take of the library's variables: the two tables of unicode/utf8, and that internal/bytealg.MaxLen is an integer (where the program has it). -/
def Env (w : World) : Prop := Lib.Utf8Tabs 0 1 w ∧ True
theorem Env.ext {w w1 : World} (h : Env w) (k : Ext w w1) : Env w1 :=
  ⟨⟨fun c hc => k.cell (h.1.1 c hc), fun i hi => ⟨k.cell (h.1.2 i hi).1, k.cell (h.1.2 i hi).2⟩⟩, trivial⟩

theorem take_snoc' {α : Type} (l : List α) (k : Nat) (x : α) (hx : l[k]? = some x) : l.take (k + 1) = l.take k ++ [x] := by
  have hkl := (List.getElem?_eq_some_iff.1 hx).1
  rw [List.take_succ_eq_append_getElem hkl, (List.getElem?_eq_some_iff.1 hx).2]

theorem drop_at {α : Type} (l : List α) (k : Nat) (x : α) (h : l[k]? = some x) : l.drop k = x :: l.drop (k + 1) := by
  have hkl := (List.getElem?_eq_some_iff.1 h).1
  rw [List.drop_eq_getElem_cons hkl, (List.getElem?_eq_some_iff.1 h).2]

/-! Slices -/
/-- the slice 'A, n' holds the elements l, each of 'size' cells 'f' -/
def Sl (w : World) (size : Nat) {α : Type} (C : World → Nat → Nat → α → Prop) (A : Option Addr) (n : Nat) (l : List α) : Prop :=
  l.length = n ∧ (0 < n → ∃ b off, A = some ⟨b, off, none⟩ ∧ ∀ i x, l[i]? = some x → C w b (off + i * size) x)

/-- cells that stay what they are in a greater world -/
def Stays {α : Type} (C : World → Nat → Nat → α → Prop) : Prop := ∀ w w' b o x, Ext w w' → C w b o x → C w' b o x

section
variable {α : Type} {C : World → Nat → Nat → α → Prop} {w w1 : World} {size n : Nat} {A : Option Addr} {l : List α}
theorem Sl.len (h : Sl w size C A n l) : l.length = n := h.1
theorem Sl.nil : Sl w size C A 0 ([] : List α) := ⟨rfl, fun h => absurd h (by omega)⟩
theorem Sl.ext (hC : Stays C) (h : Sl w size C A n l) (k : Ext w w1) : Sl w1 size C A n l :=
  ⟨h.1, fun hn => (h.2 hn).elim fun b hb => hb.elim fun off ho => ⟨b, off, ho.1, fun i x hx => hC _ _ _ _ _ k (ho.2 i x hx)⟩⟩
theorem Sl.at_ (h : Sl w size C A n l) {i : Nat} (hi : i < n) : ∃ b off x, A = some ⟨b, off, none⟩ ∧ l[i]? = some x ∧ C w b (off + i * size) x := by
  obtain ⟨b, off, hA, hc⟩ := h.2 (by omega)
  have hl : i < l.length := by rw [h.1]; exact hi
  exact ⟨b, off, l[i], hA, List.getElem?_eq_getElem hl, hc i _ (List.getElem?_eq_getElem hl)⟩
end

/-- a run -/
structure Run where
  text : ByteArray
  color : Int
  italic : Bool
  under : Bool
  ruby : ByteArray
  deriving DecidableEq

def RunC (w : World) (b o : Nat) (r : Run) : Prop :=
  w.cell? ⟨b, o, none⟩ = some (.string r.text) ∧ w.cell? ⟨b, o + 1, none⟩ = some (.int .u8 r.color) ∧ w.cell? ⟨b, o + 2, none⟩ = some (.bool r.italic) ∧
  w.cell? ⟨b, o + 3, none⟩ = some (.bool r.under) ∧ w.cell? ⟨b, o + 4, none⟩ = some (.string r.ruby)
theorem RunC.stays : Stays RunC := fun _ _ _ _ _ k h => ⟨k.cell h.1, k.cell h.2.1, k.cell h.2.2.1, k.cell h.2.2.2.1, k.cell h.2.2.2.2⟩

/-- the runs of a row, as a slice -/
def RunsAt (w : World) (A : Option Addr) (n : Nat) (l : List Run) : Prop := Sl w 5 RunC A n l
theorem RunsAt.ext {w w1 : World} {A : Option Addr} {n : Nat} {l : List Run} (h : RunsAt w A n l) (k : Ext w w1) : RunsAt w1 A n l := Sl.ext RunC.stays h k

/-- a run's value -/
def Run.val (r : Run) : Value := .agg #[.string r.text, .int .u8 r.color, .bool r.italic, .bool r.under, .string r.ruby]

abbrev Row := List Run
/-- the cell of a row: its slice of runs, within its capacity -/
def RowC (w : World) (b o : Nat) (r : Row) : Prop := ∃ A n c, w.cell? ⟨b, o, none⟩ = some (.slice A n c) ∧ n ≤ c ∧ n * 40 ≤ 140737488355328 ∧ RunsAt w A n r
theorem RowC.stays : Stays RowC := fun _ _ _ _ _ k ⟨A, n, c, h1, h2, h3, h4⟩ => ⟨A, n, c, k.cell h1, h2, h3, h4.ext k⟩
def RowsAt (w : World) (A : Option Addr) (n : Nat) (l : List Row) : Prop := Sl w 1 RowC A n l
theorem RowsAt.ext {w w1 : World} {A : Option Addr} {n : Nat} {l : List Row} (h : RowsAt w A n l) (k : Ext w w1) : RowsAt w1 A n l := Sl.ext RowC.stays h k

end Go.Proofs.YtffianmhojiomaaDoor
