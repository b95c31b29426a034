/- Laid together: A map from numbers of events to their places, in memory. Copies of rows: slices.Clone, style.Clone. Copies of rows, the reference's. The walks of event.Clone and of the reference's Clone. Lists of events in memory of their own: blocks that are kept by stores elsewhere; the heads of events; documents of one's own. What stores into rows of one type leave as it is; a variable made and filled in a drawn region; a map from numbers to numbers. slices.Clone of regions, comments and heads of events. The walk of document.anchored. The walk of document.Clone. A row of one's own under the sort: what the sort asks of it, and what lies there behind it. -/
import Derived.Test.YtablhmobekmflaaGreatDoorPk07
import Derived.Maps.Own
import Derived.Maps.OwnOps
import Derived.Maps.OwnSet
import Derived.Maps.Views
import Derived.Test.YtablhmobekmflaaGreatDoorPk01
import Derived.Lib.SliceRun
import Derived.Test.YtablhmobekmflaaGreatDoorPk06
import Derived.Test.YtablhmobekmflaaGreatDoorPk05
import Derived.Test.YtablhmobekmflaaGreatDoorPk02

/-! MapE -/
namespace Go.Proofs.YtablhmobekmflaaGreatDoor
set_option linter.unusedVariables false
set_option linter.unusedSimpArgs false
open Go.RowKit Go.Maps
theorem key64 : Keyed Tryz.prog 2 := int_keyed Tryz.underlying2
def IW (a : Int) : Prop := -9223372036854775808 ≤ a ∧ a ≤ 9223372036854775807
theorem IW.wf {a : Int} (h : IW a) : (Lit.int .i64 a).wf = true := by
  obtain ⟨h1, h2⟩ := h
  first | exact WalkArith.wf_i64 ⟨h1, h2⟩ | exact WalkArith.wf_i64 h1 h2 | exact WalkArith.wf_i64 (by omega) | (simp [Lit.wf, IntKind.min, IntKind.max, IntKind.bits, IntKind.signed]; omega)
theorem IW.key {a : Int} (h : IW a) : keyOf Tryz.prog 2 (.int .i64 a) = some (.int .i64 a) := keyOf_int_mk Tryz.underlying2 h.wf
theorem IW.isKey {a : Int} (h : IW a) : WideAt.IsKeyLit (.int .i64 a) := key64.key h.key
theorem findE_snoc (l : List Ev) (x : Ev) (id : Int) : findE (l ++ [x]) id = match findE l id with | some k => some k | none => if x.id = id then some l.length else none := by
  unfold findE
  rw [List.findIdx?_append]
  cases h : l.findIdx? (fun e => e.id == id) with
  | some k => simp
  | none =>
    by_cases hx : x.id = id
    · simp [hx, List.findIdx?_cons]
    · simp [hx, List.findIdx?_cons]
/-- block B is a map that leads each number of the events l to its place; its elements are of type T -/
def MapE (w : World) (T : TypeId) (B : Nat) (l : List Ev) : Prop := ∃ (n : Nat) (D : DataW Unit), w.ownsMap Tryz.prog 2 (plainElem Tryz.prog T) B n D ∧ n ≤ l.length ∧ IsMap D ∧
  (∀ id, IW id → Maps.has D (.int .i64 id) = (findE l id).isSome) ∧ ∀ id k, IW id → findE l id = some k → D.atKey (.int .i64 id) (.lit (.int .i64 0)) = .lit (.int .i64 k)
theorem MapE.made (w : World) (T : TypeId) : MapE (w.alloc (.map #[] 0)) T w.heap.size [] :=
  ⟨0, .map [], World.ownsMap_made w _ _ _, Nat.le_refl _, isMap_empty, fun _ _ => rfl, fun _ _ _ h => by simp [findE] at h⟩
theorem MapE.ext {w w1 : World} {T : TypeId} {B : Nat} {l : List Ev} (h : MapE w T B l) (k : Ext w w1) : MapE w1 T B l := by
  obtain ⟨n, D, ⟨es, cl, h1, h2⟩, h3⟩ := h
  exact ⟨n, D, ⟨es, cl, (k.block B (Array.getElem?_eq_some_iff.1 h1).1).trans h1, h2⟩, h3⟩
theorem MapE.lt {w : World} {T : TypeId} {B : Nat} {l : List Ev} (h : MapE w T B l) : B < w.heap.size := by
  obtain ⟨n, D, h1, _⟩ := h
  exact h1.lt
theorem MapE.put {w w1 : World} {T : TypeId} {B n : Nat} {l : List Ev} {D : DataW Unit} {x : Ev} (hn : n ≤ l.length) (hm : IsMap D) (hh : ∀ id, IW id → Maps.has D (.int .i64 id) = (findE l id).isSome)
    (ha : ∀ id k, IW id → findE l id = some k → D.atKey (.int .i64 id) (.lit (.int .i64 0)) = .lit (.int .i64 k)) (hx : IW x.id) (hno : findE l x.id = none)
    (h : w1.ownsMap Tryz.prog 2 (plainElem Tryz.prog T) B (n + 1) (D.put (.int .i64 x.id) (.lit (.int .i64 l.length)))) : MapE w1 T B (l ++ [x]) := by
  refine ⟨n + 1, _, h, by simp; omega, hm.put _ _, fun id hid => ?_, fun id k hid hk => ?_⟩
  · rw [findE_snoc]
    by_cases he : id = x.id
    · subst he
      rw [has_put_same hm hx.isKey, hno]
      simp
    · rw [has_put_other (by simpa using he), hh id hid]
      cases findE l id with
      | some k => rfl
      | none => simp [Ne.symm he]
  · rw [findE_snoc] at hk
    by_cases he : id = x.id
    · subst he
      rw [hno] at hk
      simp at hk
      subst hk
      exact atKey_put_same hm hx.isKey _ _
    · rw [atKey_put_other (by simpa using he)]
      refine ha id k hid ?_
      cases hf : findE l id with
      | some j => rw [hf] at hk; simpa using hk
      | none => rw [hf] at hk; simp [Ne.symm he] at hk
end Go.Proofs.YtablhmobekmflaaGreatDoor

/-! Clone -/
namespace Go.Proofs.YtablhmobekmflaaGreatDoor
set_option linter.unusedVariables false
set_option linter.unusedSimpArgs false
open Go.RowKit
/-- an address from block L on, in a row of elements of type T -/
def Fresh (w : World) (T : TypeId) (L : Nat) (A : Option Addr) : Prop := ∀ ad, A = some ad → L ≤ ad.block ∧ Typed w T ad.block
theorem Fresh.le {w : World} {T : TypeId} {L L' : Nat} {A : Option Addr} (h : Fresh w T L A) (hl : L' ≤ L) : Fresh w T L' A := fun ad e => ⟨Nat.le_trans hl (h ad e).1, (h ad e).2⟩
theorem Fresh.ext {w w1 : World} {T : TypeId} {L : Nat} {A : Option Addr} (h : Fresh w T L A) (k : Ext w w1) : Fresh w1 T L A := fun ad e => ⟨(h ad e).1, (h ad e).2.ext k⟩
theorem Fresh.setCell {w : World} {T : TypeId} {L : Nat} {A : Option Addr} (h : Fresh w T L A) (p : Addr) (u : Value) : Fresh (w.setCell p u) T L A := fun ad e => ⟨(h ad e).1, (h ad e).2.setCell p u⟩
theorem Fresh.grown {w w1 : World} {T T' : TypeId} {L : Nat} {A : Option Addr} {row : Option Nat} (h : Fresh w T L A) (hg : w.grownBy w1 row) (hr : ∀ q, row = some q → Typed w T' q) (hne : T ≠ T') : Fresh w1 T L A := fun ad e => ⟨(h ad e).1, (h ad e).2.grown hg hr hne⟩
theorem Fresh.put {w : World} {T t : TypeId} {L g : Nat} {A : Option Addr} {cs : Array Value} (h : Fresh w T L A) (hB : Blk w g t cs) (cs' : Array Value) (hne : T ≠ t) : Fresh (putB w g t cs') T L A := fun ad e => ⟨(h ad e).1, (h ad e).2.put hB cs' hne⟩
theorem Fresh.of_own {w : World} {base : Nat} {e : TypeId} {size n m c : Nat} {A : Option Addr} {xs : List Value} (h : w.ownsRow base e size (.slice A m c) n xs) : Fresh w e base A := fun ad hA => by
  subst hA
  exact ⟨own_lt h _ rfl, own_typed h _ rfl⟩
def Run.cells (r : Run) : List Value := [.string r.text, .int .u8 r.color, .bool r.italic, .bool r.under, .string r.ruby]
theorem runC_cells {w : World} {b o : Nat} {r : Run} (h : RunC w b o r) : Cells Run.cells w b o r := by
  obtain ⟨h0, h1, h2, h3, h4⟩ := h
  intro j u hu
  match j, hu with
  | 0, hu => simp [Run.cells] at hu; subst hu; exact h0
  | 1, hu => simp [Run.cells] at hu; subst hu; exact h1
  | 2, hu => simp [Run.cells] at hu; subst hu; exact h2
  | 3, hu => simp [Run.cells] at hu; subst hu; exact h3
  | 4, hu => simp [Run.cells] at hu; subst hu; exact h4
  | j + 5, hu => simp [Run.cells] at hu
theorem RunsAt.cells {w : World} {A : Option Addr} {n : Nat} {l : Row} (h : RunsAt w A n l) : Sl w 5 (Cells Run.cells) A n l := Sl.change h fun _ _ _ => runC_cells
def CloneRunsPost (l : Row) (n : Nat) (w : World) (e : Ending) (w' : World) : Prop :=
  ∃ A c, e = .returned (.slice A n c) ∧ n ≤ c ∧ RunsAt w' A n l ∧ Fresh w' 171 w.heap.size A ∧ Ext w w'
/-- the header of a slice -/
abbrev Hd := Option Addr × Nat × Nat
def Hd.val (h : Hd) : Value := .slice h.1 h.2.1 h.2.2
def Good (w : World) (h : Hd) (r : Row) : Prop := h.2.1 ≤ h.2.2 ∧ h.2.1 * 40 ≤ 140737488355328 ∧ RunsAt w h.1 h.2.1 r
theorem Good.ext {w w1 : World} {h : Hd} {r : Row} (g : Good w h r) (k : Ext w w1) : Good w1 h r := ⟨g.1, g.2.1, g.2.2.ext k⟩
def Goods (w : World) (hs : List Hd) (l : List Row) : Prop := ∀ (i : Nat) (h : Hd) (r : Row), hs[i]? = some h → l[i]? = some r → Good w h r
def HdsAt (w : World) (A : Option Addr) (n : Nat) (hs : List Hd) : Prop := Sl w 1 (Cells fun h => [Hd.val h]) A n hs
theorem rows_of_heads {w : World} {A : Option Addr} {n : Nat} {l : List Row} {hs : List Hd} (h : HdsAt w A n hs) (hl : l.length = n) (hg : Goods w hs l) : RowsAt w A n l := by
  refine ⟨hl, fun hn => ?_⟩
  obtain ⟨b, off, hA, hc⟩ := h.2 hn
  refine ⟨b, off, hA, fun i r hr => ?_⟩
  have hi : i < hs.length := by
    rw [h.len, ← hl]
    exact (List.getElem?_eq_some_iff.1 hr).1
  have hx : hs[i]? = some hs[i] := List.getElem?_eq_getElem hi
  have g := hg i _ r hx hr
  exact ⟨_, _, _, hc i _ hx 0 _ rfl, g.1, g.2.1, g.2.2⟩
def CloneHdsPost (hs : List Hd) (n : Nat) (w : World) (e : Ending) (w' : World) : Prop :=
  ∃ A c, e = .returned (.slice A n c) ∧ w'.ownsRow w.heap.size 174 1 (.slice A n c) n (hs.flatMap fun h => [Hd.val h]) ∧ Ext w w'
/-- rows whose memory lies from block L on -/
def RowsFresh (w : World) (L : Nat) (A : Option Addr) (n : Nat) (l : List Row) : Prop :=
  ∃ hs : List Hd, HdsAt w A n hs ∧ Goods w hs l ∧ l.length = n ∧ Fresh w 174 L A ∧ ∀ h ∈ hs, Fresh w 171 L h.1
theorem RowsFresh.rows {w : World} {L : Nat} {A : Option Addr} {n : Nat} {l : List Row} (h : RowsFresh w L A n l) : RowsAt w A n l := by
  obtain ⟨hs, h1, h2, h3, _⟩ := h
  exact rows_of_heads h1 h3 h2
theorem RowsFresh.ext {w w1 : World} {L : Nat} {A : Option Addr} {n : Nat} {l : List Row} (h : RowsFresh w L A n l) (k : Ext w w1) : RowsFresh w1 L A n l := by
  obtain ⟨hs, h1, h2, h3, h4, h5⟩ := h
  exact ⟨hs, Sl.ext (Cells.stays _) h1 k, fun i hd r a b => (h2 i hd r a b).ext k, h3, h4.ext k, fun x hx => (h5 x hx).ext k⟩
theorem RowsFresh.le {w : World} {L L' : Nat} {A : Option Addr} {n : Nat} {l : List Row} (h : RowsFresh w L A n l) (hl : L' ≤ L) : RowsFresh w L' A n l := by
  obtain ⟨hs, h1, h2, h3, h4, h5⟩ := h
  exact ⟨hs, h1, h2, h3, h4.le hl, fun x hx => (h5 x hx).le hl⟩
/-- a header's memory is not in block g -/
def Apart (g : Nat) (h : Hd) : Prop := 0 < h.2.1 → ∀ ad, h.1 = some ad → ad.block ≠ g
theorem Sl.keep {α : Type} {C : World → Nat → Nat → α → Prop} {w w1 : World} {size n : Nat} {A : Option Addr} {l : List α} (h : Sl w size C A n l) (hk : 0 < n → ∀ b off, A = some ⟨b, off, none⟩ → ∀ o x, C w b o x → C w1 b o x) : Sl w1 size C A n l :=
  ⟨h.1, fun hn => (h.2 hn).elim fun b hb => hb.elim fun off ho => ⟨b, off, ho.1, fun i x hx => hk hn b off ho.1 _ _ (ho.2 i x hx)⟩⟩
theorem RunC.set {w : World} {b o : Nat} {r : Run} (h : RunC w b o r) {p : Addr} (hp : b ≠ p.block) (u : Value) : RunC (w.setCell p u) b o r := by
  have key : ∀ q v, w.cell? ⟨b, q, none⟩ = some v → (w.setCell p u).cell? ⟨b, q, none⟩ = some v := fun q v hv => by
    rw [World.cell?_setCell_other w p ⟨b, q, none⟩ u (fun e => hp (by rw [e]))]; exact hv
  exact ⟨key _ _ h.1, key _ _ h.2.1, key _ _ h.2.2.1, key _ _ h.2.2.2.1, key _ _ h.2.2.2.2⟩
theorem Good.set {w : World} {h : Hd} {r : Row} (g : Good w h r) {p : Addr} (hp : Apart p.block h) (u : Value) : Good (w.setCell p u) h r :=
  ⟨g.1, g.2.1, Sl.keep g.2.2 fun hn b off hA o x hx => hx.set (hp hn _ hA) u⟩
/-- rows whose memory lies from block L on, in a block of their own -/
def RowsOwn (w : World) (L : Nat) (A : Option Addr) (n c : Nat) (l : List Row) : Prop :=
  ∃ hs : List Hd, w.ownsRow L 174 1 (.slice A n c) n (hs.flatMap fun h => [Hd.val h]) ∧ hs.length = n ∧ Goods w hs l ∧ l.length = n ∧ ∀ h ∈ hs, Fresh w 171 L h.1
theorem RowsOwn.fresh {w : World} {L : Nat} {A : Option Addr} {n c : Nat} {l : List Row} (h : RowsOwn w L A n c l) : RowsFresh w L A n l := by
  obtain ⟨hs, h1, h2, h3, h4, h5⟩ := h
  obtain ⟨A', c', hv, _, _, hsl, _⟩ := own_sl (f := fun h : Hd => [Hd.val h]) (size := 1) (fun _ => rfl) h2 h1
  injection hv with e1 e2 e3
  subst e1 e3
  exact ⟨hs, hsl, h3, h4, Fresh.of_own h1, h5⟩
theorem RowsOwn.ext {w w1 : World} {L : Nat} {A : Option Addr} {n c : Nat} {l : List Row} (h : RowsOwn w L A n c l) (k : Ext w w1) : RowsOwn w1 L A n c l := by
  obtain ⟨hs, h1, h2, h3, h4, h5⟩ := h
  exact ⟨hs, own_ext h1 k, h2, fun i hd r a b => (h3 i hd r a b).ext k, h4, fun x hx => (h5 x hx).ext k⟩
theorem own_le {w : World} {L L' : Nat} {e : TypeId} {size : Nat} {v : Value} {n : Nat} {xs : List Value} (h : w.ownsRow L e size v n xs) (hl : L' ≤ L) : w.ownsRow L' e size v n xs := by
  refine ⟨h.1, ?_⟩
  rcases h.2 with hn | ⟨g, cap, cur, rfl, hb, rest⟩
  · exact .inl hn
  · exact .inr ⟨g, cap, cur, rfl, Nat.le_trans hl hb, rest⟩
theorem RowsOwn.le {w : World} {L L' : Nat} {A : Option Addr} {n c : Nat} {l : List Row} (h : RowsOwn w L A n c l) (hl : L' ≤ L) : RowsOwn w L' A n c l := by
  obtain ⟨hs, h1, h2, h3, h4, h5⟩ := h
  exact ⟨hs, own_le h1 hl, h2, h3, h4, fun x hx => (h5 x hx).le hl⟩
def SOwnPost (rows : List Row) (n : Nat) (w : World) (e : Ending) (w' : World) : Prop :=
  ∃ A c, e = .returned (.slice A n c) ∧ n ≤ c ∧ RowsOwn w' w.heap.size A n c rows ∧ Ext w w'
def SCloneRel (w : World) (rows : List Row) (A : Option Addr) (n c : Nat) (i : Value) (wr : World) : Prop :=
  ∃ (k : Nat) (hs : List Hd), k ≤ n ∧ i = .int .i64 k ∧ hs.length = n ∧ wr.ownsRow w.heap.size 174 1 (.slice A n c) n (hs.flatMap fun h => [Hd.val h]) ∧ Ext w wr ∧ Goods wr hs rows ∧
    (∀ ad, A = some ad → ∀ h ∈ hs, Apart ad.block h) ∧ (∀ j h, j < k → hs[j]? = some h → Fresh wr 171 w.heap.size h.1)
def SClonePost (rows : List Row) (n : Nat) (w : World) (e : Ending) (w' : World) : Prop :=
  ∃ A c, e = .returned (.slice A n c) ∧ n ≤ c ∧ RowsFresh w' w.heap.size A n rows ∧ Ext w w'
end Go.Proofs.YtablhmobekmflaaGreatDoor

/-! CloneR -/
namespace Go.Proofs.YtablhmobekmflaaGreatDoor
set_option linter.unusedVariables false
set_option linter.unusedSimpArgs false
open Go.RowKit
def RCloneRel (w : World) (rows : List Row) (n : Nat) (v i : Value) (wr : World) : Prop :=
  ∃ (k : Nat) (hs : List Hd), k ≤ n ∧ i = .int .i64 k ∧ hs.length = k ∧ wr.ownsRow w.heap.size 174 1 v k (hs.flatMap fun h => [Hd.val h]) ∧ Ext w wr ∧ Goods wr hs (rows.take k) ∧
    (∀ g, v.ownBlock = some g → ∀ h ∈ hs, Apart g h) ∧ (∀ h ∈ hs, Fresh wr 171 w.heap.size h.1)
theorem Good.grown {w w1 : World} {h : Hd} {r : Row} {row : Option Nat} (g : Good w h r) (hg : w.grownBy w1 row) (hp : ∀ q, row = some q → Apart q h) : Good w1 h r :=
  ⟨g.1, g.2.1, Sl.keep g.2.2 fun hn b off hA o x hx => by
    have hb : b < w.heap.size := World.block_lt_of_cell? w _ hx.1
    have key : ∀ q v, w.cell? ⟨b, q, none⟩ = some v → w1.cell? ⟨b, q, none⟩ = some v := fun q v hv =>
      (World.cell?_of_block (w := w) (a := ⟨b, q, none⟩) (hg.block b hb (fun e => hp b e.symm hn _ hA rfl))).trans hv
    exact ⟨key _ _ hx.1, key _ _ hx.2.1, key _ _ hx.2.2.1, key _ _ hx.2.2.2.1, key _ _ hx.2.2.2.2⟩⟩
end Go.Proofs.YtablhmobekmflaaGreatDoor

/-! ECl -/
namespace Go.Proofs.YtablhmobekmflaaGreatDoor
set_option linter.unusedVariables false
set_option linter.unusedSimpArgs false
open Go.RowKit
/-- a store into a block of another type leaves the rows as they are -/
theorem RowsFresh.put {w : World} {L : Nat} {A : Option Addr} {n : Nat} {l : List Row} (h : RowsFresh w L A n l) {g : Nat} {t : TypeId} {cs : Array Value} (hB : Blk w g t cs) (cs' : Array Value) (h1 : 174 ≠ t) (h2 : 171 ≠ t) : RowsFresh (putB w g t cs') L A n l := by
  obtain ⟨hs, a1, a2, a3, a4, a5⟩ := h
  refine ⟨hs, Sl.keep a1 fun _ b off hA o x hx j u hu => ?_, fun i hd r a b => ?_, a3, a4.put hB cs' h1, fun x hx => (a5 x hx).put hB cs' h2⟩
  · have hb : b ≠ g := Typed.ne (a4 _ hA).2 hB.typed h1
    rw [putB_cell_other (p := ⟨b, o + j, none⟩) hb]; exact hx j u hu
  · have gd := a2 i hd r a b
    refine ⟨gd.1, gd.2.1, Sl.keep gd.2.2 fun _ b' off hA o x hx => ?_⟩
    have hb : b' ≠ g := Typed.ne (a5 hd (List.mem_of_getElem? a) _ hA).2 hB.typed h2
    have key : ∀ q v, w.cell? ⟨b', q, none⟩ = some v → (putB w g t cs').cell? ⟨b', q, none⟩ = some v := fun q v hv => by rw [putB_cell_other (p := ⟨b', q, none⟩) hb]; exact hv
    exact ⟨key _ _ hx.1, key _ _ hx.2.1, key _ _ hx.2.2.1, key _ _ hx.2.2.2.1, key _ _ hx.2.2.2.2⟩
theorem own_put {w : World} {L : Nat} {e : TypeId} {size : Nat} {v : Value} {n : Nat} {xs : List Value} (h : w.ownsRow L e size v n xs) {g : Nat} {t : TypeId} {cs : Array Value} (hB : Blk w g t cs) (cs' : Array Value) (hne : e ≠ t) : (putB w g t cs').ownsRow L e size v n xs := by
  have ht := own_typed h
  refine ⟨h.1, ?_⟩
  rcases h.2 with hn | ⟨g', cap, cur, rfl, hb, hg, rest⟩
  · exact .inl hn
  · refine .inr ⟨g', cap, cur, rfl, hb, ?_, rest⟩
    have : g ≠ g' := fun e => Typed.ne (ht g' rfl) hB.typed hne e.symm
    unfold putB
    simp only
    rw [Array.getElem?_setIfInBounds_ne this]
    exact hg
theorem RowsOwn.put {w : World} {L : Nat} {A : Option Addr} {n c : Nat} {l : List Row} (h : RowsOwn w L A n c l) {g : Nat} {t : TypeId} {cs : Array Value} (hB : Blk w g t cs) (cs' : Array Value) (h1 : 174 ≠ t) (h2 : 171 ≠ t) : RowsOwn (putB w g t cs') L A n c l := by
  obtain ⟨hs, a1, a2, a3, a4, a5⟩ := h
  refine ⟨hs, own_put a1 hB cs' h1, a2, fun i hd r a b => ?_, a4, fun x hx => (a5 x hx).put hB cs' h2⟩
  have gd := a3 i hd r a b
  refine ⟨gd.1, gd.2.1, Sl.keep gd.2.2 fun _ b' off hA o x hx => ?_⟩
  have hb : b' ≠ g := Typed.ne (a5 hd (List.mem_of_getElem? a) _ hA).2 hB.typed h2
  have key : ∀ q v, w.cell? ⟨b', q, none⟩ = some v → (putB w g t cs').cell? ⟨b', q, none⟩ = some v := fun q v hv => by rw [putB_cell_other (p := ⟨b', q, none⟩) hb]; exact hv
  exact ⟨key _ _ hx.1, key _ _ hx.2.1, key _ _ hx.2.2.1, key _ _ hx.2.2.2.1, key _ _ hx.2.2.2.2⟩
def evZero : Array Value := #[.int .i64 0, .int .i64 0, .int .i64 0, .string ⟨#[]⟩, .int .u8 0, .string ⟨#[]⟩, .slice none 0 0]
/-- what a copy of an event comes to -/
def EClPost (e : Ev) (n : Nat) (w : World) (en : Ending) (w' : World) : Prop :=
  ∃ A c, en = .returned (.agg (e.cells A n c)) ∧ n ≤ c ∧ RowsFresh w' w.heap.size A n e.rows ∧ Ext w w'
def EOwnPost (e : Ev) (n : Nat) (w : World) (en : Ending) (w' : World) : Prop :=
  ∃ A c, en = .returned (.agg (e.cells A n c)) ∧ n ≤ c ∧ RowsOwn w' w.heap.size A n c e.rows ∧ Ext w w'
end Go.Proofs.YtablhmobekmflaaGreatDoor

/-! Evs -/
namespace Go.Proofs.YtablhmobekmflaaGreatDoor
set_option linter.unusedVariables false
set_option linter.unusedSimpArgs false
open Go.RowKit
/-- the rows of elements of type T stay as they are -/
def KB (T : TypeId) (w w' : World) : Prop := ∀ (b : Nat) (cur : Array Value), w.heap[b]? = some (Obj.cells cur T (0, 0)) → w'.heap[b]? = some (Obj.cells cur T (0, 0))
section
variable {T T' : TypeId} {w w1 w2 : World} {L n : Nat} {A : Option Addr}
theorem KB.refl (w : World) : KB T w w := fun _ _ h => h
theorem KB.trans (h : KB T w w1) (k : KB T w1 w2) : KB T w w2 := fun b cur hb => k b cur (h b cur hb)
theorem KB.ext (k : Ext w w1) : KB T w w1 := fun b _ hb => (k.block b (Array.getElem?_eq_some_iff.1 hb).1).trans hb
theorem KB.put {g : Nat} {cs cs' : Array Value} (hB : Blk w g T' cs) (hne : T ≠ T') : KB T w (putB w g T' cs') := fun b cur hb => by
  have hn : g ≠ b := (Typed.ne ⟨cur, hb⟩ hB.typed hne).symm
  unfold putB
  simp only
  rw [Array.getElem?_setIfInBounds_ne hn]
  exact hb
theorem KB.set {p : Addr} {u : Value} (hT : Typed w T' p.block) (hne : T ≠ T') : KB T w (w.setCell p u) := fun b cur hb => by
  have hn : b ≠ p.block := Typed.ne ⟨cur, hb⟩ hT hne
  rw [RowKit.Below.heap_setCell _ _ _ _ hn]
  exact hb
theorem KB.sets {g : Nat} (hne : T ≠ T') : ∀ (vs : List Value) (o : Nat) (w : World), Typed w T' g → KB T w (w.setCells g o vs)
  | [], _, w, _ => KB.refl w
  | v :: vs, o, w, h => (KB.set (p := ⟨g, o, none⟩) h hne).trans (KB.sets hne vs (o + 1) _ (h.setCell _ _))
theorem KB.grown {row : Option Nat} (hg : w.grownBy w1 row) (hr : ∀ q, row = some q → Typed w T' q) (hne : T ≠ T') : KB T w w1 := fun b cur hb => by
  refine (hg.block b (Array.getElem?_eq_some_iff.1 hb).1 (fun e => ?_)).trans hb
  exact Typed.ne ⟨cur, hb⟩ (hr b e.symm) hne rfl
theorem Typed.kb (h : Typed w T n) (k : KB T w w1) : Typed w1 T n := h.elim fun cur hb => ⟨cur, k _ _ hb⟩
theorem Typed.sets {g b : Nat} : ∀ (vs : List Value) (o : Nat) (w : World), Typed w T b → Typed (w.setCells g o vs) T b
  | [], _, _, h => h
  | v :: vs, o, w, h => Typed.sets vs (o + 1) _ (h.setCell _ _)
theorem Typed.cell_kb (h : Typed w T n) (k : KB T w w1) (o : Nat) : w1.cell? ⟨n, o, none⟩ = w.cell? ⟨n, o, none⟩ := by
  obtain ⟨cur, hb⟩ := h
  simp [World.cell?, hb, k _ _ hb]
theorem Fresh.kb (h : Fresh w T L A) (k : KB T w w1) : Fresh w1 T L A := fun ad e => ⟨(h ad e).1, (h ad e).2.kb k⟩
theorem own_kb {size : Nat} {v : Value} {xs : List Value} (h : w.ownsRow L T size v n xs) (k : KB T w w1) : w1.ownsRow L T size v n xs := by
  refine ⟨h.1, ?_⟩
  rcases h.2 with hn | ⟨g, cap, cur, rfl, hb, hg, rest⟩
  · exact .inl hn
  · exact .inr ⟨g, cap, cur, rfl, hb, k _ _ hg, rest⟩
end
theorem RowsFresh.kb {w w1 : World} {L : Nat} {A : Option Addr} {n : Nat} {l : List Row} (h : RowsFresh w L A n l) (k1 : KB 174 w w1) (k2 : KB 171 w w1) : RowsFresh w1 L A n l := by
  obtain ⟨hs, a1, a2, a3, a4, a5⟩ := h
  refine ⟨hs, Sl.keep a1 fun _ b off hA o x hx j u hu => ?_, fun i hd r a b => ?_, a3, a4.kb k1, fun x hx => (a5 x hx).kb k2⟩
  · rw [(a4 _ hA).2.cell_kb k1]; exact hx j u hu
  · have gd := a2 i hd r a b
    refine ⟨gd.1, gd.2.1, Sl.keep gd.2.2 fun _ b' off hA o x hx => ?_⟩
    have key : ∀ q v, w.cell? ⟨b', q, none⟩ = some v → w1.cell? ⟨b', q, none⟩ = some v := fun q v hv => by rw [((a5 hd (List.mem_of_getElem? a)) _ hA).2.cell_kb k2]; exact hv
    exact ⟨key _ _ hx.1, key _ _ hx.2.1, key _ _ hx.2.2.1, key _ _ hx.2.2.2.1, key _ _ hx.2.2.2.2⟩
def setMany : List Value → Nat → List Value → List Value
  | xs, _, [] => xs
  | xs, j, v :: vs => setMany (xs.set j v) (j + 1) vs
theorem setMany_split : ∀ (vs pre old post : List Value), old.length = vs.length → setMany (pre ++ old ++ post) pre.length vs = pre ++ vs ++ post
  | [], pre, old, post, h => by
    obtain rfl : old = [] := List.eq_nil_of_length_eq_zero h
    rfl
  | v :: vs, pre, [], post, h => by simp at h
  | v :: vs, pre, o :: old, post, h => by
    have e : (pre ++ o :: old ++ post).set pre.length v = (pre ++ [v]) ++ old ++ post := by simp [List.set_append]
    have := setMany_split vs (pre ++ [v]) old post (by simpa using h)
    rw [List.length_append, List.length_singleton] at this
    rw [setMany, e, this]
    simp
theorem flat_setMany {α : Type} {f : α → List Value} {size : Nat} (hf : ∀ x, (f x).length = size) (l : List α) (k : Nat) (y : α) (hk : k < l.length) : setMany (l.flatMap f) (k * size) (f y) = (l.set k y).flatMap f := by
  have e1 : l = l.take k ++ l[k] :: l.drop (k + 1) := by rw [← List.drop_eq_getElem_cons hk, List.take_append_drop]
  have e2 : l.set k y = l.take k ++ y :: l.drop (k + 1) := by rw [List.set_eq_take_append_cons_drop, if_pos hk]
  have hl : ((l.take k).flatMap f).length = k * size := by rw [flatMap_len f size hf, List.length_take, Nat.min_eq_left (by omega)]
  rw [e2, List.flatMap_append, List.flatMap_cons]
  conv => lhs; rw [e1]
  rw [List.flatMap_append, List.flatMap_cons, ← hl, ← List.append_assoc, setMany_split _ _ _ _ (by rw [hf, hf]), List.append_assoc]
theorem own_sets {L size n cap g : Nat} {T : TypeId} : ∀ (vs : List Value) (j : Nat) (w : World) (xs : List Value), w.ownsRow L T size (.slice (some ⟨g, 0, none⟩) n cap) n xs →
    (w.setCells g j vs).ownsRow L T size (.slice (some ⟨g, 0, none⟩) n cap) n (setMany xs j vs)
  | [], _, _, _, h => h
  | v :: vs, j, w, xs, h => own_sets vs (j + 1) _ _ (h.stored j v).1
theorem ext_sets {w0 : World} {g : Nat} (hg : w0.heap.size ≤ g) : ∀ (vs : List Value) (j : Nat) (w : World), Ext w0 w → Ext w0 (w.setCells g j vs)
  | [], _, _, h => h
  | v :: vs, j, w, h => ext_sets hg vs (j + 1) _ (h.setCell hg v)
structure EH where
  id : Int
  inn : Int
  out : Int
  region : ByteArray
  kind : Int
  speaker : ByteArray
  A : Option Addr
  n : Nat
  c : Nat
def EH.vals (h : EH) : List Value := [.int .i64 h.id, .int .i64 h.inn, .int .i64 h.out, .string h.region, .int .u8 h.kind, .string h.speaker, .slice h.A h.n h.c]
def EH.of (e : Ev) (A : Option Addr) (n c : Nat) : EH := ⟨e.id, e.inn, e.out, e.region, e.kind, e.speaker, A, n, c⟩
theorem EH.of_vals (e : Ev) (A : Option Addr) (n c : Nat) : (EH.of e A n c).vals = (e.cells A n c).toList := rfl
theorem EH.len (h : EH) : h.vals.length = 7 := rfl
def Reg.vals (r : Reg) : List Value := [.string r.name, .int .i64 r.top, .int .i64 r.height, .int .i64 r.left, .int .i64 r.width, .int .u8 r.align, .bool r.bottom]
/-- the head is an event's, its rows lie from L on -/
def EGood (w : World) (L : Nat) (h : EH) (e : Ev) : Prop := h = EH.of e h.A h.n h.c ∧ h.n ≤ h.c ∧ h.n * 24 ≤ 140737488355328 ∧ RowsFresh w L h.A h.n e.rows
theorem EGood.kb {w w1 : World} {L : Nat} {h : EH} {e : Ev} (g : EGood w L h e) (k1 : KB 174 w w1) (k2 : KB 171 w w1) : EGood w1 L h e := ⟨g.1, g.2.1, g.2.2.1, g.2.2.2.kb k1 k2⟩
theorem EGood.ext {w w1 : World} {L : Nat} {h : EH} {e : Ev} (g : EGood w L h e) (k : Ext w w1) : EGood w1 L h e := g.kb (KB.ext k) (KB.ext k)
theorem EGood.le {w : World} {L L' : Nat} {h : EH} {e : Ev} (g : EGood w L h e) (hl : L' ≤ L) : EGood w L' h e := ⟨g.1, g.2.1, g.2.2.1, g.2.2.2.le hl⟩
theorem EGood.at_ {w : World} {L : Nat} {h : EH} {e : Ev} (g : EGood w L h e) : EvAt w e h.A h.n h.c := ⟨g.2.2.2.rows, g.2.1, g.2.2.1⟩
/-- events whose heads lie in a row of their own, from L on -/
def EvsOwn (w : World) (L : Nat) (v : Value) (n : Nat) (l : List Ev) : Prop :=
  ∃ hs : List EH, w.ownsRow L 64 7 v n (hs.flatMap EH.vals) ∧ hs.length = n ∧ l.length = n ∧ ∀ (i : Nat) (h : EH) (e : Ev), hs[i]? = some h → l[i]? = some e → EGood w L h e
section
variable {w w1 : World} {L L' n c : Nat} {A : Option Addr} {v : Value} {l : List Ev}
theorem EvsOwn.ext (h : EvsOwn w L v n l) (k : Ext w w1) : EvsOwn w1 L v n l := by
  obtain ⟨hs, h1, h2, h3, h4⟩ := h
  exact ⟨hs, own_ext h1 k, h2, h3, fun i x e a b => (h4 i x e a b).ext k⟩
theorem EvsOwn.kb (h : EvsOwn w L v n l) (k0 : KB 64 w w1) (k1 : KB 174 w w1) (k2 : KB 171 w w1) : EvsOwn w1 L v n l := by
  obtain ⟨hs, h1, h2, h3, h4⟩ := h
  exact ⟨hs, own_kb h1 k0, h2, h3, fun i x e a b => (h4 i x e a b).kb k1 k2⟩
theorem EvsOwn.le (h : EvsOwn w L v n l) (hl : L' ≤ L) : EvsOwn w L' v n l := by
  obtain ⟨hs, h1, h2, h3, h4⟩ := h
  exact ⟨hs, own_le h1 hl, h2, h3, fun i x e a b => (h4 i x e a b).le hl⟩
theorem EvsOwn.len (h : EvsOwn w L v n l) : l.length = n := h.elim fun _ h => h.2.2.1
theorem EvsOwn.nil (w : World) (L : Nat) : EvsOwn w L (.slice none 0 0) 0 [] := ⟨[], ⟨rfl, .inl ⟨rfl, rfl⟩⟩, rfl, rfl, fun i x e a _ => by simp at a⟩
theorem EvsOwn.at_ (h : EvsOwn w L v n l) : ∃ A c, v = .slice A n c ∧ n ≤ c ∧ c ≤ maxLen ∧ EvsAt w A n l := by
  obtain ⟨hs, h1, h2, h3, h4⟩ := h
  obtain ⟨A, c, hv, hc, hm, hsl, _⟩ := own_sl (f := EH.vals) (size := 7) EH.len h2 h1
  refine ⟨A, c, hv, hc, hm, h3, fun hn => ?_⟩
  obtain ⟨b, off, hA, hcs⟩ := hsl.2 hn
  refine ⟨b, off, hA, fun i e he => ?_⟩
  have hi : i < hs.length := by rw [h2, ← h3]; exact (List.getElem?_eq_some_iff.1 he).1
  have hx : hs[i]? = some hs[i] := List.getElem?_eq_getElem hi
  have g := h4 i _ e hx he
  refine ⟨hs[i].A, hs[i].n, hs[i].c, fun j u hu => ?_, g.at_⟩
  refine hcs i _ hx j u ?_
  rw [g.1, EH.of_vals]
  exact hu
theorem EvsOwn.evs (h : EvsOwn w L (.slice A n c) n l) : EvsAt w A n l := by
  obtain ⟨A', c', hv, _, _, h1⟩ := h.at_
  cases hv
  exact h1
/-- the head at a place is set anew -/
theorem EvsOwn.set {g k : Nat} {e : Ev} {A' : Option Addr} {n' c' : Nat} (h : EvsOwn w L (.slice (some ⟨g, 0, none⟩) n c) n l) (hk : k < n) (hL : L ≤ g) (hg : EGood w L (EH.of e A' n' c') e) :
    EvsOwn (w.setCells g (k * 7) (e.cells A' n' c').toList) L (.slice (some ⟨g, 0, none⟩) n c) n (l.set k e) := by
  obtain ⟨hs, h1, h2, h3, h4⟩ := h
  have hty : Typed w 64 g := own_typed h1 g rfl
  refine ⟨hs.set k (EH.of e A' n' c'), ?_, by simpa using h2, by simpa using h3, fun i x y hx hy => ?_⟩
  · rw [← flat_setMany EH.len hs k (EH.of e A' n' c') (by omega)]
    exact own_sets _ _ _ _ h1
  · have k1 : KB 174 w (w.setCells g (k * 7) (e.cells A' n' c').toList) := KB.sets (T' := 64) (by decide) _ _ _ hty
    have k2 : KB 171 w (w.setCells g (k * 7) (e.cells A' n' c').toList) := KB.sets (T' := 64) (by decide) _ _ _ hty
    by_cases hik : k = i
    · subst hik
      rw [List.getElem?_set_self (by omega)] at hx hy
      cases hx
      cases hy
      exact hg.kb k1 k2
    · rw [List.getElem?_set_ne hik] at hx hy
      exact (h4 i x y hx hy).kb k1 k2
/-- an event is appended -/
theorem EvsOwn.snoc {k : Nat} {e : Ev} {v' : Value} {A' : Option Addr} {n' c' : Nat} (h : EvsOwn w L v k l) (hg : EGood w L (EH.of e A' n' c') e) (hgr : w.grownBy w1 v.ownBlock)
    (hO : ∀ xs, w.ownsRow L 64 7 v k xs → w1.ownsRow L 64 7 v' (k + 1) (xs ++ (e.cells A' n' c').toList)) : EvsOwn w1 L v' (k + 1) (l ++ [e]) := by
  obtain ⟨hs, h1, h2, h3, h4⟩ := h
  have hty : ∀ q, v.ownBlock = some q → Typed w 64 q := own_typed h1
  have k1 : KB 174 w w1 := KB.grown hgr hty (by decide)
  have k2 : KB 171 w w1 := KB.grown hgr hty (by decide)
  refine ⟨hs ++ [EH.of e A' n' c'], ?_, by simp [h2], by simp [h3], fun i x y hx hy => ?_⟩
  · rw [List.flatMap_append]
    have := hO _ h1
    simpa [EH.of_vals] using this
  · by_cases hik : i < k
    · rw [List.getElem?_append_left (by omega)] at hx hy
      exact (h4 i x y hx hy).kb k1 k2
    · have hik' : i = k := by
        have := (List.getElem?_eq_some_iff.1 hx).1
        simp [h2] at this
        omega
      subst hik'
      rw [List.getElem?_append_right (by omega)] at hx hy
      simp only [h2, h3, Nat.sub_self, List.getElem?_cons_zero, Option.some.injEq] at hx hy
      subst hx hy
      exact hg.kb k1 k2
end
structure DocOwn (w : World) (L : Nat) (d : Doc) (h : DocH) : Prop where
  regs : w.ownsRow L 105 7 (.slice h.ra h.rn h.rc) h.rn (d.regs.flatMap Reg.vals)
  rlen : d.regs.length = h.rn
  evs : EvsOwn w L (.slice h.ea h.en h.ec) h.en d.evs
  coms : w.ownsRow L 152 8 (.slice h.ca h.cn h.cc) h.cn (d.coms.flatMap Com.vals)
  clen : d.coms.length = h.cn
theorem DocOwn.ext {w w1 : World} {L : Nat} {d : Doc} {h : DocH} (o : DocOwn w L d h) (k : Ext w w1) : DocOwn w1 L d h := ⟨own_ext o.regs k, o.rlen, o.evs.ext k, own_ext o.coms k, o.clen⟩
theorem DocOwn.kb {w w1 : World} {L : Nat} {d : Doc} {h : DocH} (o : DocOwn w L d h) (k1 : KB 105 w w1) (k2 : KB 64 w w1) (k3 : KB 174 w w1) (k4 : KB 171 w w1) (k5 : KB 152 w w1) : DocOwn w1 L d h :=
  ⟨own_kb o.regs k1, o.rlen, o.evs.kb k2 k3 k4, own_kb o.coms k5, o.clen⟩
theorem DocOwn.put {w : World} {L : Nat} {d : Doc} {h : DocH} (o : DocOwn w L d h) {g : Nat} {cs : Array Value} (hB : Blk w g 52 cs) (cs' : Array Value) : DocOwn (putB w g 52 cs') L d h :=
  o.kb (KB.put hB (by decide)) (KB.put hB (by decide)) (KB.put hB (by decide)) (KB.put hB (by decide)) (KB.put hB (by decide))
theorem DocOwn.le {w : World} {L L' : Nat} {d : Doc} {h : DocH} (o : DocOwn w L d h) (hl : L' ≤ L) : DocOwn w L' d h := ⟨own_le o.regs hl, o.rlen, o.evs.le hl, own_le o.coms hl, o.clen⟩
theorem regC_cells {w : World} {b o : Nat} {r : Reg} (h : Cells Reg.vals w b o r) : RegC w b o r := ⟨h 0 _ rfl, h 1 _ rfl, h 2 _ rfl, h 3 _ rfl, h 4 _ rfl, h 5 _ rfl, h 6 _ rfl⟩
theorem cells_regC {w : World} {b o : Nat} {r : Reg} (h : RegC w b o r) : Cells Reg.vals w b o r := by
  obtain ⟨h0, h1, h2, h3, h4, h5, h6⟩ := h
  intro j u hu
  match j, hu with
  | 0, hu => simp [Reg.vals] at hu; subst hu; exact h0
  | 1, hu => simp [Reg.vals] at hu; subst hu; exact h1
  | 2, hu => simp [Reg.vals] at hu; subst hu; exact h2
  | 3, hu => simp [Reg.vals] at hu; subst hu; exact h3
  | 4, hu => simp [Reg.vals] at hu; subst hu; exact h4
  | 5, hu => simp [Reg.vals] at hu; subst hu; exact h5
  | 6, hu => simp [Reg.vals] at hu; subst hu; exact h6
  | j + 7, hu => simp [Reg.vals] at hu
theorem own_slice {α : Type} {f : α → List Value} {size : Nat} (hf : ∀ x, (f x).length = size) {w : World} {base : Nat} {e : TypeId} {A : Option Addr} {c n : Nat} {l : List α} (hl : l.length = n)
    (h : w.ownsRow base e size (.slice A n c) n (l.flatMap f)) : n ≤ c ∧ c ≤ maxLen ∧ Sl w size (Cells f) A n l := by
  obtain ⟨A', c', hv, h1, h2, h3, _⟩ := own_sl hf hl h
  cases hv
  exact ⟨h1, h2, h3⟩
theorem DocOwn.at_ {w : World} {L : Nat} {d : Doc} {h : DocH} (o : DocOwn w L d h) : DocAt w d h :=
  ⟨Sl.change (own_slice (f := Reg.vals) (fun _ => rfl) o.rlen o.regs).2.2 fun _ _ _ => regC_cells, o.evs.evs, (own_slice (f := Com.vals) (fun _ => rfl) o.clen o.coms).2.2⟩
end Go.Proofs.YtablhmobekmflaaGreatDoor

/-! Kept -/
namespace Go.Proofs.YtablhmobekmflaaGreatDoor
set_option linter.unusedVariables false
set_option linter.unusedSimpArgs false
open Go.RowKit Go.Maps
/-- the maps stay as they are -/
def KM (w w' : World) : Prop := ∀ (b : Nat) (es : Array MapEntry) (cl : Nat), w.heap[b]? = some (Obj.map es cl) → w'.heap[b]? = some (Obj.map es cl)
/-- only rows of elements of type T have changed, and there is more memory -/
structure Only (T : TypeId) (w w' : World) : Prop where
  kb : ∀ T', T' ≠ T → KB T' w w'
  km : KM w w'
section
variable {T T' : TypeId} {w w1 w2 : World}
theorem Only.refl (w : World) : Only T w w := ⟨fun _ _ => KB.refl w, fun _ _ _ h => h⟩
theorem Only.trans (h : Only T w w1) (k : Only T w1 w2) : Only T w w2 := ⟨fun T' hn => (h.kb T' hn).trans (k.kb T' hn), fun b es cl hb => k.km b es cl (h.km b es cl hb)⟩
theorem Only.ext (k : Ext w w1) : Only T w w1 := ⟨fun _ _ => KB.ext k, fun b _ _ hb => (k.block b (Array.getElem?_eq_some_iff.1 hb).1).trans hb⟩
theorem Only.put {g : Nat} {cs cs' : Array Value} (hB : Blk w g T cs) : Only T w (putB w g T cs') := ⟨fun _ hn => KB.put hB hn, fun b es cl hb => by
  have hn : g ≠ b := fun e => by subst e; rw [show w.heap[g]? = _ from hB] at hb; cases hb
  unfold putB
  simp only
  rw [Array.getElem?_setIfInBounds_ne hn]
  exact hb⟩
theorem Only.set {p : Addr} {u : Value} (hT : Typed w T p.block) : Only T w (w.setCell p u) := ⟨fun _ hn => KB.set hT hn, fun b es cl hb => by
  have hn : b ≠ p.block := fun e => by subst e; obtain ⟨cur, hc⟩ := hT; rw [hc] at hb; cases hb
  rw [RowKit.Below.heap_setCell _ _ _ _ hn]
  exact hb⟩
theorem Only.sets {g : Nat} : ∀ (vs : List Value) (o : Nat) (w : World), Typed w T g → Only T w (w.setCells g o vs)
  | [], _, w, _ => Only.refl w
  | v :: vs, o, w, h => (Only.set (p := ⟨g, o, none⟩) h).trans (Only.sets vs (o + 1) _ (h.setCell _ _))
theorem Only.grown {row : Option Nat} (hg : w.grownBy w1 row) (hr : ∀ q, row = some q → Typed w T q) : Only T w w1 := ⟨fun _ hn => KB.grown hg hr hn, fun b es cl hb => by
  refine (hg.block b (Array.getElem?_eq_some_iff.1 hb).1 (fun e => ?_)).trans hb
  obtain ⟨cur, hc⟩ := hr b e.symm
  rw [hc] at hb; cases hb⟩
theorem Blk.kb {g : Nat} {cs : Array Value} (h : Blk w g T cs) (k : KB T w w1) : Blk w1 g T cs := k g cs h
theorem Blk.only {g : Nat} {cs : Array Value} (h : Blk w g T' cs) (k : Only T w w1) (hn : T' ≠ T) : Blk w1 g T' cs := (k.kb T' hn) g cs h
end
/-- a map that leads each number of the events l to its place and one -/
def MapI (w : World) (T : TypeId) (B : Nat) (l : List Ev) : Prop := ∃ (n : Nat) (D : DataW Unit), w.ownsMap Tryz.prog 2 (plainElem Tryz.prog T) B n D ∧ n ≤ l.length ∧ IsMap D ∧
  ∀ id k, IW id → findE l id = some k → D.atKey (.int .i64 id) (.lit (.int .i64 0)) = .lit (.int .i64 ((k : Int) + 1))
theorem MapI.made (w : World) (T : TypeId) : MapI (w.alloc (.map #[] 0)) T w.heap.size [] :=
  ⟨0, .map [], World.ownsMap_made w _ _ _, Nat.le_refl _, isMap_empty, fun _ _ _ h => by simp [findE] at h⟩
theorem MapI.km {w w1 : World} {T : TypeId} {B : Nat} {l : List Ev} (h : MapI w T B l) (k : KM w w1) : MapI w1 T B l := by
  obtain ⟨n, D, ⟨es, cl, h1, h2⟩, h3⟩ := h
  exact ⟨n, D, ⟨es, cl, k B es cl h1, h2⟩, h3⟩
theorem MapI.ext {w w1 : World} {T : TypeId} {B : Nat} {l : List Ev} (h : MapI w T B l) (k : Ext w w1) : MapI w1 T B l := h.km (Only.ext (T := 0) k).km
theorem MapI.put {w1 : World} {T : TypeId} {B n : Nat} {l : List Ev} {D : DataW Unit} {x : Ev} (hn : n ≤ l.length) (hm : IsMap D)
    (ha : ∀ id k, IW id → findE l id = some k → D.atKey (.int .i64 id) (.lit (.int .i64 0)) = .lit (.int .i64 ((k : Int) + 1))) (hx : IW x.id) (hno : findE l x.id = none)
    (h : w1.ownsMap Tryz.prog 2 (plainElem Tryz.prog T) B (n + 1) (D.put (.int .i64 x.id) (.lit (.int .i64 ((l.length : Int) + 1))))) : MapI w1 T B (l ++ [x]) := by
  refine ⟨n + 1, _, h, by simp; omega, hm.put _ _, fun id k hid hk => ?_⟩
  rw [findE_snoc] at hk
  by_cases he : id = x.id
  · subst he
    rw [hno] at hk
    simp at hk
    subst hk
    exact atKey_put_same hm hx.isKey _ _
  · rw [atKey_put_other (by simpa using he)]
    refine ha id k hid ?_
    cases hf : findE l id with
    | some j => rw [hf] at hk; simpa using hk
    | none => rw [hf] at hk; simp [Ne.symm he] at hk
/-- a variable that is made at whatever time and filled at the chain's place p -/
structure VarJ (T : TypeId) (al p : Nat) (cs0 cs1 : Array Value) (r0 : Value) (W : World) (us : List Value) (gs : Nat → Option Nat) (w : World) : Prop where
  ext : Ext W w
  val : ∀ u, us[0]? = some u → u = r0
  va : ∀ g, gs al = some g → W.heap.size ≤ g ∧ Blk w g T (if us.length ≤ p then cs0 else cs1)
section
variable {T : TypeId} {al p : Nat} {cs0 cs1 : Array Value} {r0 : Value} {W w w2 : World} {us : List Value} {gs : Nat → Option Nat} {v : Value}
theorem VarJ.start (W : World) : VarJ T al p cs0 cs1 r0 W [] (fun _ => none) W.drew := ⟨(Ext.refl W).drew, fun u hu => by simp at hu, fun g h => by cases h⟩
theorem VarJ.alloc (h : VarJ T al p cs0 cs1 r0 W us gs w) (hl : us.length ≤ p) : VarJ T al p cs0 cs1 r0 W us (upd gs al w.heap.size) (w.alloc (.cells cs0 T)) := by
  refine ⟨h.ext.alloc _, h.val, fun g hg => ?_⟩
  rw [upd_self] at hg
  obtain rfl : w.heap.size = g := Option.some.inj hg
  rw [if_pos hl]
  exact ⟨h.ext.size, Blk.new w _ _⟩
theorem VarJ.call (h : VarJ T al p cs0 cs1 r0 W [] gs w) (hl : 0 < p) (hx : Ext w w2) (hv : v = r0) : VarJ T al p cs0 cs1 r0 W ([] ++ [v]) gs w2 := by
  refine ⟨h.ext.trans hx, fun u hu => by simp at hu; subst hu; exact hv, fun g hg => ?_⟩
  obtain ⟨h1, h2⟩ := h.va g hg
  rw [if_pos (by simp)] at h2
  rw [if_pos (by simp; omega)]
  exact ⟨h1, h2.ext hx⟩
theorem VarJ.blk {g : Nat} (h : VarJ T al p cs0 cs1 r0 W us gs w) (hg : gs al = some g) (hl : us.length ≤ p) : Blk w g T cs0 := by
  have := (h.va g hg).2
  rwa [if_pos hl] at this
theorem VarJ.store {g : Nat} (h : VarJ T al p cs0 cs1 r0 W us gs w) (hg : gs al = some g) (hl : us.length = p) (hv : us = [] → v = r0) : VarJ T al p cs0 cs1 r0 W (us ++ [v]) gs (putB w g T cs1) := by
  obtain ⟨h1, h2⟩ := h.va g hg
  refine ⟨h.ext.put h1 _ _, fun u hu => ?_, fun g' hg' => ?_⟩
  · cases us with
    | nil => simp at hu; subst hu; exact hv rfl
    | cons a us => exact h.val u (by simpa using hu)
  · rw [hg] at hg'
    obtain rfl := Option.some.inj hg'
    rw [if_neg (by simp; omega)]
    exact ⟨h1, (h.blk hg (by omega)).put _⟩
theorem VarJ.end_ {g : Nat} (h : VarJ T al p cs0 cs1 r0 W us gs w) (hg : gs al = some g) (hl : p < us.length) : W.heap.size ≤ g ∧ Blk w g T cs1 := by
  have := h.va g hg
  rwa [if_neg (by omega)] at this
end
theorem getElem_ltq {α : Type} {l : List α} {p : Nat} (h : p < l.length) : ∃ v, l[p]? = some v := ⟨_, List.getElem?_eq_getElem h⟩
/-- an element of a list of events of one's own -/
theorem EvsOwn.head {w : World} {L n c k : Nat} {A : Option Addr} {l : List Ev} {e : Ev} (h : EvsOwn w L (.slice A n c) n l) (hk : l[k]? = some e) : ∃ g A' n' c', A = some ⟨g, 0, none⟩ ∧ L ≤ g ∧ g < w.heap.size ∧ Typed w 64 g ∧
    (∀ j u, (e.cells A' n' c').toList[j]? = some u → w.cell? ⟨g, k * 7 + j, none⟩ = some u) ∧ (∀ j, w.frozen? ⟨g, j, none⟩ = false) ∧ EGood w L (EH.of e A' n' c') e := by
  obtain ⟨hs, h1, h2, h3, h4⟩ := h
  have hkn : k < n := by rw [← h3]; exact (List.getElem?_eq_some_iff.1 hk).1
  obtain ⟨g, cap, hv, hb, hlt⟩ := own_form h1 (by omega)
  injection hv with hA hn hc
  subst hA hc
  obtain ⟨x, hx⟩ : ∃ x, hs[k]? = some x := ⟨_, List.getElem?_eq_getElem (by omega)⟩
  have hg := h4 k x e hx hk
  refine ⟨g, x.A, x.n, x.c, rfl, hb, hlt, own_typed h1 g rfl, fun j u hu => ?_, fun j => h1.frozenAt j, by rw [← hg.1]; exact hg⟩
  have hj : j < 7 := (List.getElem?_eq_some_iff.1 hu).1
  rw [h1.cellAt (k * 7 + j) (by omega), flatMap_at EH.vals 7 EH.len hs k x j hx hj, hg.1, EH.of_vals]
  exact hu
/-- 'out = append(out, x)' in a drawn region: the element is built, appended, assigned -/
structure ApJ (T : TypeId) (size : Nat) (cells : Array Value) (base : Nat) (v : Value) (k : Nat) (xs : List Value) (W : World) (us : List Value) (w' : World) : Prop where
  only : Only T W w'
  nil : us = [] → Ext W w'
  one : ∀ u, us = [u] → ∃ g, u = .slice (some ⟨g, 0, none⟩) 1 1 ∧ W.heap.size ≤ g ∧ Blk w' g T cells ∧ Ext W w'
  two : ∀ u u1, us = [u, u1] → ∃ w5, Ext W w5 ∧ w5.grownBy w' v.ownBlock ∧ w'.ownsRow base T size u1 (k + 1) (xs ++ cells.toList)
  three : ∀ u u1 u2, us = [u, u1, u2] → u2 = u1 ∧ ∃ w5, Ext W w5 ∧ w5.grownBy w' v.ownBlock ∧ w'.ownsRow base T size u1 (k + 1) (xs ++ cells.toList)
section
variable {T : TypeId} {size : Nat} {cells : Array Value} {base : Nat} {v : Value} {k : Nat} {xs : List Value} {W w' w2 : World} {u0 u1 : Value}
theorem ApJ.start (W : World) : ApJ T size cells base v k xs W [] W.drew := ⟨Only.ext (Ext.refl W).drew, fun _ => (Ext.refl W).drew, fun u h => by simp at h, fun u u1 h => by simp at h, fun u u1 u2 h => by simp at h⟩
theorem ApJ.build (h : ApJ T size cells base v k xs W [] w') : ApJ T size cells base v k xs W ([] ++ [.slice (some ⟨w'.heap.size, 0, none⟩) 1 1]) (w'.alloc (.cells cells T)) :=
  ⟨Only.ext ((h.nil rfl).alloc _), fun h => by simp at h, fun u hu => by simp at hu; subst hu; exact ⟨_, rfl, (h.nil rfl).size, Blk.new w' _ _, (h.nil rfl).alloc _⟩, fun u u1 h => by simp at h, fun u u1 u2 h => by simp at h⟩
theorem ApJ.app (hx : Ext W w') (hv : ∀ q, v.ownBlock = some q → Typed w' T q) (hg : w'.grownBy w2 v.ownBlock) (ho : w2.ownsRow base T size u1 (k + 1) (xs ++ cells.toList)) : ApJ T size cells base v k xs W ([u0] ++ [u1]) w2 :=
  ⟨(Only.ext hx).trans (Only.grown hg hv), fun h => by simp at h, fun u h => by simp at h, fun u u1 h => by simp at h; obtain ⟨rfl, rfl⟩ := h; exact ⟨w', hx, hg, ho⟩, fun u u1 u2 h => by simp at h⟩
theorem ApJ.asg (h : ApJ T size cells base v k xs W [u0, u1] w') : ApJ T size cells base v k xs W ([u0, u1] ++ [u1]) w' :=
  ⟨h.only, fun h => by simp at h, fun u h => by simp at h, fun u u1 h => by simp at h, fun a b c e => by simp at e; obtain ⟨rfl, rfl, rfl⟩ := e; exact ⟨rfl, h.two _ _ rfl⟩⟩
end
/-- an event's number and span are stored, one after the other, in a drawn region -/
structure StJ (g o : Nat) (i a b : Value) (W : World) (us : List Value) (w' : World) : Prop where
  only : Only 64 W w'
  nil : us = [] → Ext W w'
  one : ∀ u, us = [u] → ∃ w5, Ext W w5 ∧ w' = w5.setCell ⟨g, o, none⟩ i
  two : ∀ u u1, us = [u, u1] → ∃ w5, Ext W w5 ∧ w' = w5.setCells g o [i, a, b]
section
variable {g o : Nat} {i a b : Value} {W w' : World} {u0 u1 : Value}
theorem StJ.start (W : World) : StJ g o i a b W [] W.drew := ⟨Only.ext (Ext.refl W).drew, fun _ => (Ext.refl W).drew, fun u h => by simp at h, fun u u1 h => by simp at h⟩
theorem StJ.first (h : StJ g o i a b W [] w') (hT : Typed W 64 g) : StJ g o i a b W ([] ++ [u0]) (w'.setCell ⟨g, o, none⟩ i) :=
  ⟨(Only.ext (h.nil rfl)).trans (Only.set (p := ⟨g, o, none⟩) (hT.ext (h.nil rfl))), fun h => by simp at h, fun u hu => ⟨w', h.nil rfl, rfl⟩, fun u u1 h => by simp at h⟩
theorem StJ.second (h : StJ g o i a b W [u0] w') (hT : Typed W 64 g) : StJ g o i a b W ([u0] ++ [u1]) (w'.setCells g (o + 1) [a, b]) := by
  obtain ⟨w5, hx, rfl⟩ := h.one u0 rfl
  exact ⟨h.only.trans (Only.sets _ _ _ ((hT.ext hx).setCell _ _)), fun h => by simp at h, fun u h => by simp at h, fun u v e => ⟨w5, hx, rfl⟩⟩
end
end Go.Proofs.YtablhmobekmflaaGreatDoor

/-! SlCl -/
namespace Go.Proofs.YtablhmobekmflaaGreatDoor
set_option linter.unusedVariables false
set_option linter.unusedSimpArgs false
open Go.RowKit
def CloneRegsPost (l : List Reg) (n : Nat) (w : World) (e : Ending) (w' : World) : Prop :=
  ∃ A c, e = .returned (.slice A n c) ∧ w'.ownsRow w.heap.size 105 7 (.slice A n c) n (l.flatMap Reg.vals) ∧ Ext w w'
def CloneComsPost (l : List Com) (n : Nat) (w : World) (e : Ending) (w' : World) : Prop :=
  ∃ A c, e = .returned (.slice A n c) ∧ w'.ownsRow w.heap.size 152 8 (.slice A n c) n (l.flatMap Com.vals) ∧ Ext w w'
def CloneEHsPost (l : List EH) (n : Nat) (w : World) (e : Ending) (w' : World) : Prop :=
  ∃ A c, e = .returned (.slice A n c) ∧ w'.ownsRow w.heap.size 64 7 (.slice A n c) n (l.flatMap EH.vals) ∧ Ext w w'
theorem RegsAt.vals {w : World} {A : Option Addr} {n : Nat} {l : List Reg} (h : RegsAt w A n l) : Sl w 7 (Cells Reg.vals) A n l := Sl.change h fun _ _ _ => cells_regC
end Go.Proofs.YtablhmobekmflaaGreatDoor

/-! DocA -/
namespace Go.Proofs.YtablhmobekmflaaGreatDoor
set_option linter.unusedVariables false
set_option linter.unusedSimpArgs false
open Go.RowKit Go.Maps
def Com.cells (c : Com) : Array Value := #[.int .i64 c.id, .int .i64 c.ev, .int .i64 c.fr, .int .i64 c.til, .string c.author, .string c.text, .bool c.done, .bool c.lost]
/-- small texts -/
def EvsSmall (l : List Ev) : Prop := ∀ e ∈ l, EvSmall e ∧ e.bytes ≤ 1099511627776
end Go.Proofs.YtablhmobekmflaaGreatDoor

/-! DocCl -/
namespace Go.Proofs.YtablhmobekmflaaGreatDoor
set_option linter.unusedVariables false
set_option linter.unusedSimpArgs false
open Go.RowKit
/-- a document's cells, its three slices given -/
def Doc.cells3 (d : Doc) (r e c : Value) : Array Value := #[.string d.title, .string d.lang, .int .u8 d.rate, .bool d.drop, .int .i64 d.last, r, e, c]
def docZero : Array Value := #[.string ⟨#[]⟩, .string ⟨#[]⟩, .int .u8 0, .bool false, .int .i64 0, .slice none 0 0, .slice none 0 0, .slice none 0 0]
def clCells (d : Doc) (h : DocH) : List Value → Array Value
  | [u0, _, _] => d.cells3 u0 (.slice h.ea h.en h.ec) (.slice h.ca h.cn h.cc)
  | [u0, u1, _, _] => d.cells3 u0 (.slice h.ea h.en h.ec) u1
  | _ => d.cells h
structure ClJ (d : Doc) (h : DocH) (w W0 : World) (us : List Value) (w' : World) : Prop where
  ext : Ext w w'
  blk : Blk w' w.heap.size 52 (clCells d h us)
  zero : Blk w' (w.heap.size + 1) 52 docZero
  regs : ∀ u, us[0]? = some u → ∃ A c, u = .slice A h.rn c ∧ w'.ownsRow w.heap.size 105 7 u h.rn (d.regs.flatMap Reg.vals)
  coms : ∀ u, us[1]? = some u → ∃ A c, u = .slice A h.cn c ∧ w'.ownsRow w.heap.size 152 8 u h.cn (d.coms.flatMap Com.vals)
theorem ClJ.put {d : Doc} {h : DocH} {w W0 w' : World} {us : List Value} (j : ClJ d h w W0 us w') (v : Value) (hv : us.length = 2 ∨ us.length = 3) : ClJ d h w W0 (us ++ [v]) (putB w' w.heap.size 52 (clCells d h (us ++ [v]))) := by
  refine ⟨j.ext.put (Nat.le_refl _) _ _, j.blk.put _, j.zero.put_other (by omega) _, fun u hu => ?_, fun u hu => ?_⟩
  · obtain ⟨A', c', h1, h2⟩ := j.regs u (by rw [← hu, List.getElem?_append_left (by omega)])
    exact ⟨A', c', h1, own_kb h2 (KB.put j.blk (by decide))⟩
  · obtain ⟨A', c', h1, h2⟩ := j.coms u (by rw [← hu, List.getElem?_append_left (by omega)])
    exact ⟨A', c', h1, own_kb h2 (KB.put j.blk (by decide))⟩
/-- one event is copied -/
structure CeJ (e : Ev) (g k n' : Nat) (w4 : World) (us : List Value) (w' : World) : Prop where
  nil : us = [] → Ext w4 w'
  one : ∀ u0, us = [u0] → ∃ A2 c2, u0 = .agg (e.cells A2 n' c2) ∧ n' ≤ c2 ∧ RowsFresh w' w4.heap.size A2 n' e.rows ∧ Ext w4 w'
  two : ∀ u0 u1, us = [u0, u1] → ∃ A2 c2 w5, u0 = .agg (e.cells A2 n' c2) ∧ n' ≤ c2 ∧ RowsFresh w5 w4.heap.size A2 n' e.rows ∧ Ext w4 w5 ∧ w' = w5.setCells g (k * 7) (e.cells A2 n' c2).toList
structure DClRel (d : Doc) (h : DocH) (w : World) (v0 : Value) (v1 : Value) (ea : Option Addr) (ec : Nat) (i : Value) (wr : World) : Prop where
  ext : Ext w wr
  blk : Blk wr w.heap.size 52 (d.cells3 v0 (.slice ea h.en ec) v1)
  zero : Blk wr (w.heap.size + 1) 52 docZero
  regs : wr.ownsRow w.heap.size 105 7 v0 h.rn (d.regs.flatMap Reg.vals)
  coms : wr.ownsRow w.heap.size 152 8 v1 h.cn (d.coms.flatMap Com.vals)
  more : ∃ (k : Nat) (hs : List EH), k ≤ h.en ∧ i = .int .i64 k ∧ hs.length = h.en ∧ wr.ownsRow w.heap.size 64 7 (.slice ea h.en ec) h.en (hs.flatMap EH.vals) ∧
    ∀ (j : Nat) (x : EH) (e : Ev), hs[j]? = some x → d.evs[j]? = some e → (j < k → EGood wr w.heap.size x e) ∧ (k ≤ j → ∃ A n c, x = EH.of e A n c ∧ EvAt w e A n c)
theorem DClRel.step {d : Doc} {h : DocH} {w wr w4 w5 : World} {v0 v1 : Value} {g ec k n' c2 : Nat} {A2 : Option Addr} {hs : List EH} {e : Ev} (hgw : w.heap.size ≤ g) (h1 : Ext w wr) (h2 : Blk wr w.heap.size 52 (d.cells3 v0 (.slice (some ⟨g, 0, none⟩) h.en ec) v1))
    (h3 : Blk wr (w.heap.size + 1) 52 docZero) (h4 : wr.ownsRow w.heap.size 105 7 v0 h.rn (d.regs.flatMap Reg.vals)) (h5 : wr.ownsRow w.heap.size 152 8 v1 h.cn (d.coms.flatMap Com.vals))
    (hk : k < h.en) (hl : hs.length = h.en) (h6 : wr.ownsRow w.heap.size 64 7 (.slice (some ⟨g, 0, none⟩) h.en ec) h.en (hs.flatMap EH.vals))
    (h7 : ∀ (j : Nat) (x : EH) (e : Ev), hs[j]? = some x → d.evs[j]? = some e → (j < k → EGood wr w.heap.size x e) ∧ (k ≤ j → ∃ A n c, x = EH.of e A n c ∧ EvAt w e A n c))
    (he : d.evs[k]? = some e) (h8 : Ext wr w5) (hw4 : wr.heap.size ≤ w4.heap.size) (hnc : n' ≤ c2) (hn24 : n' * 24 ≤ 140737488355328) (hf : RowsFresh w5 w4.heap.size A2 n' e.rows) :
    DClRel d h w v0 v1 (some ⟨g, 0, none⟩) ec (.int .i64 ((k : Int) + 1)) (w5.setCells g (k * 7) (e.cells A2 n' c2).toList) := by
  have hty : Typed w5 64 g := (own_typed h6 g rfl).ext h8
  have kb : ∀ {T : TypeId}, T ≠ 64 → KB T w5 (w5.setCells g (k * 7) (e.cells A2 n' c2).toList) := fun hne => KB.sets hne _ _ _ hty
  have hB : ∀ {b : Nat} {cs : Array Value}, Blk wr b 52 cs → Blk (w5.setCells g (k * 7) (e.cells A2 n' c2).toList) b 52 cs := fun hb => kb (by decide) _ _ (hb.ext h8)
  refine ⟨ext_sets hgw _ _ _ (h1.trans h8), hB h2, hB h3, own_kb (own_ext h4 h8) (kb (by decide)), own_kb (own_ext h5 h8) (kb (by decide)), k + 1, hs.set k (EH.of e A2 n' c2), by omega, by simp, by simpa using hl, ?_, fun j x y hx hy => ?_⟩
  · rw [← flat_setMany EH.len hs k (EH.of e A2 n' c2) (by omega)]
    exact own_sets _ _ _ _ (own_ext h6 h8)
  · by_cases hkj : k = j
    · subst hkj
      rw [List.getElem?_set_self (by omega)] at hx
      cases hx
      rw [he] at hy
      cases hy
      exact ⟨fun _ => EGood.kb (w := w5) ⟨rfl, hnc, hn24, hf.le (by have := h1.size; omega)⟩ (kb (by decide)) (kb (by decide)), fun hh => by omega⟩
    · rw [List.getElem?_set_ne hkj] at hx
      obtain ⟨a1, a2⟩ := h7 j x y hx hy
      exact ⟨fun hh => ((a1 (by omega)).ext h8).kb (kb (by decide)) (kb (by decide)), fun hh => a2 (by omega)⟩
/-- what a copy of a document comes to -/
def DClPost (d : Doc) (w : World) (en : Ending) (w' : World) : Prop := ∃ h', en = .returned (.agg (d.cells h')) ∧ DocOwn w' w.heap.size d h' ∧ Ext w w'
end Go.Proofs.YtablhmobekmflaaGreatDoor

/-! SrtW -/
namespace Go.Proofs.YtablhmobekmflaaGreatDoor
set_option linter.unusedVariables false
set_option linter.unusedSimpArgs false
open Go.Shelf Go.RowKit Go.Lib Go.Sort
section
variable {α : Type} [Inhabited α] {enc : α → List Value} {k : Nat}
theorem flatK_list (hk : ∀ x, (enc x).length = k) (d : Array α) : (flatK enc k d).toList = d.toList.flatMap enc := by
  have hl : (d.toList.flatMap enc).length = d.size * k := by rw [flatMap_len enc k hk, Array.length_toList]
  apply List.ext_getElem?
  intro t
  by_cases ht : t < d.size * k
  · have hk0 : 0 < k := by
      cases k with
      | zero => omega
      | succ k => omega
    have hq : t / k < d.size := Nat.div_lt_of_lt_mul (by rwa [Nat.mul_comm])
    have hr : t % k < k := Nat.mod_lt _ hk0
    have h1 := flatMap_at enc k hk d.toList (t / k) d[t / k]! (t % k) (arr_get hq) hr
    rw [Nat.div_add_mod' t k] at h1
    rw [h1, arr_get (by rw [size_flatK]; exact ht), get_flatK enc k d t ht, List.getElem?_eq_getElem (by rw [hk]; exact hr), getElem!_pos _ _ (by rw [hk]; exact hr)]
  · rw [List.getElem?_eq_none (by rw [Array.length_toList, size_flatK]; omega), List.getElem?_eq_none (by omega)]
variable {w W : World} {L g n c : Nat} {T : TypeId} {l : List α}
theorem own_holds (hk : ∀ x, (enc x).length = k) (h : w.ownsRow L T k (.slice (some ⟨g, 0, none⟩) n c) n (l.flatMap enc)) (hl : l.length = n) : HoldsK enc k w g 0 l.toArray := by
  intro j hj
  rw [size_flatK] at hj
  have hj' : j < n * k := by simpa [hl] using hj
  have h1 := h.cellAt j hj'
  have h2 : (flatK enc k l.toArray).toList[j]? = some (flatK enc k l.toArray)[j]! := arr_get (by rw [size_flatK]; exact hj)
  rw [flatK_list hk] at h2
  refine ⟨by rw [Nat.zero_add, h1]; exact h2, ?_⟩
  rcases h.2 with ⟨hv, hn⟩ | ⟨g', cap, cur, hv, hg, hb, -⟩
  · cases hv
  · cases hv
    simp [World.frozen?, hb]
theorem swk_heap {m : Nat} {os : Array Obj} {cur : Array Value} {e : TypeId} {fr : Nat × Nat} (d : Array α) (hb : w.heap[g]? = some (.cells cur e fr)) :
    (sortWorldK enc k w g 0 m d os).heap[g]? = some (.cells (putCells id 0 (flatK enc k d) cur) e fr) := by
  have hg : g < w.heap.size := (Array.getElem?_eq_some_iff.1 hb).1
  unfold sortWorldK
  rw [heap_grow_old _ _ (by rw [size_putRowK]; exact hg)]
  simp [putRowK, putRow, mapBlock, Sort.ahead, Array.getElem?_modify, hb, onCells]
theorem swk_grown (h : SWK enc k w g 0 l.toArray W) : w.grownBy W (some g) := by
  obtain ⟨m, os, rfl⟩ := h
  refine ⟨rfl, rfl, rfl, by unfold sortWorldK; rw [size_grow, size_putRowK]; exact Nat.le_add_right _ _, fun q hq hne => ?_⟩
  unfold sortWorldK
  rw [heap_grow_old _ _ (by rw [size_putRowK]; exact hq)]
  have : g ≠ q := fun e => hne (by rw [e])
  simp [putRowK, putRow, mapBlock, Sort.ahead, Array.getElem?_modify, this]
theorem take_putF (cur : Array Value) (F : Array Value) (h : F.size ≤ cur.size) : (putCells id 0 F cur).toList.take F.size = F.toList := by
  apply List.ext_getElem?
  intro j
  by_cases hj : j < F.size
  · rw [List.getElem?_take_of_lt hj, Array.getElem?_toList]
    simp [putCells, hj, show j < cur.size by omega]
  · rw [List.getElem?_take_eq_none (by omega), List.getElem?_eq_none (by simp; omega)]
/-- behind the sort the same slice owns what the sort has left there -/
theorem swk_own (hk : ∀ x, (enc x).length = k) {xs : List Value} (h : w.ownsRow L T k (.slice (some ⟨g, 0, none⟩) n c) n xs) (hS : SWK enc k w g 0 l.toArray W) (hl : l.length = n) : W.ownsRow L T k (.slice (some ⟨g, 0, none⟩) n c) n (l.flatMap enc) := by
  refine ⟨by rw [flatMap_len enc k hk, hl], ?_⟩
  rcases h.2 with ⟨hv, hn⟩ | ⟨g', cap, cur, hv, hg, hb, hnc, hcm, hcs, ht⟩
  · cases hv
  · cases hv
    obtain ⟨m, os, rfl⟩ := hS
    refine .inr ⟨g, c, _, rfl, hg, swk_heap _ hb, hnc, hcm, by simp [putCells, hcs], ?_⟩
    have h1 := take_putF cur (flatK enc k l.toArray) (by rw [size_flatK]; simp [hl, hcs]; exact Nat.mul_le_mul_right _ hnc)
    rw [flatK_list hk, size_flatK] at h1
    simpa [hl] using h1
end
theorem insS_congr {α : Type} {lt lt' : α → α → Bool} (x : α) : ∀ (l : List α), (∀ y ∈ l, lt x y = lt' x y ∧ lt y x = lt' y x) → Stb.insS lt x l = Stb.insS lt' x l
  | [], _ => rfl
  | y :: l, h => by
    have h1 := h y (by simp)
    unfold Stb.insS
    rw [h1.1, insS_congr x l (fun z hz => h z (by simp [hz]))]
theorem sortS_congr {α : Type} {lt lt' : α → α → Bool} {l : List α} (h : ∀ p q, p ∈ l → q ∈ l → lt p q = lt' p q) : Stb.sortS lt l = Stb.sortS lt' l := by
  have key : ∀ (l acc : List α), (∀ p q, (p ∈ l ∨ p ∈ acc) → (q ∈ l ∨ q ∈ acc) → lt p q = lt' p q) → l.foldl (fun acc x => Stb.insS lt x acc) acc = l.foldl (fun acc x => Stb.insS lt' x acc) acc := by
    intro l
    induction l with
    | nil => intro acc _; rfl
    | cons x l ih =>
      intro acc h
      simp only [List.foldl_cons]
      rw [insS_congr x acc (fun y hy => ⟨h x y (.inl (by simp)) (.inr hy), h y x (.inr hy) (.inl (by simp))⟩)]
      refine ih _ (fun p q hp hq => h p q ?_ ?_)
      · rcases hp with hp | hp
        · exact .inl (by simp [hp])
        · rcases (Stb.insS_mem x acc p).1 hp with rfl | hp
          · exact .inl (by simp)
          · exact .inr hp
      · rcases hq with hq | hq
        · exact .inl (by simp [hq])
        · rcases (Stb.insS_mem x acc q).1 hq with rfl | hq
          · exact .inl (by simp)
          · exact .inr hq
  exact key l [] (fun p q hp hq => h p q (by simpa using hp) (by simpa using hq))
instance : Inhabited EH := ⟨⟨0, 0, 0, ⟨#[]⟩, 0, ⟨#[]⟩, none, 0, 0⟩⟩
def cmpH (x y : EH) : Int := orI (cmpI x.inn y.inn) (cmpI x.id y.id)
def ltH (x y : EH) : Bool := decide (x.inn < y.inn ∨ x.inn = y.inn ∧ x.id < y.id)
/-- what Sort comes to -/
def srtE (l : List Ev) : List Ev := Stb.sortS lessB l
theorem EvsOwn.sorted {w W : World} {L g n c : Nat} {l : List Ev} {hs hs' : List EH} (h1 : w.ownsRow L 64 7 (.slice (some ⟨g, 0, none⟩) n c) n (hs.flatMap EH.vals)) (h2 : hs.length = n) (h3 : l.length = n) (h4 : ∀ (i : Nat) (h : EH) (e : Ev), hs[i]? = some h → l[i]? = some e → EGood w L h e)
    (hS : SWK EH.vals 7 w g 0 hs'.toArray W) (hh : hs' = Stb.sortS ltH hs) : EvsOwn W L (.slice (some ⟨g, 0, none⟩) n c) n (srtE l) := by
  have hgr := swk_grown hS
  have hty := own_typed h1
  have k1 : KB 174 w W := KB.grown hgr hty (by decide)
  have k2 : KB 171 w W := KB.grown hgr hty (by decide)
  have hl' : hs'.length = n := by rw [hh, Stb.sortS_len, h2]
  refine ⟨hs', swk_own EH.len h1 hS hl', hl', by unfold srtE; rw [Stb.sortS_len, h3], fun i x e hx he => ?_⟩
  -- pairs
  have hz1 : (hs.zip l).map Prod.fst = hs := List.map_fst_zip (by omega)
  have hz2 : (hs.zip l).map Prod.snd = l := List.map_snd_zip (by omega)
  have hg : ∀ p ∈ hs.zip l, EGood w L p.1 p.2 := by
    intro p hp
    obtain ⟨j, hj⟩ := List.mem_iff_getElem?.1 hp
    have hj1 : ((hs.zip l).map Prod.fst)[j]? = some p.1 := by rw [List.getElem?_map, hj]; rfl
    have hj2 : ((hs.zip l).map Prod.snd)[j]? = some p.2 := by rw [List.getElem?_map, hj]; rfl
    rw [hz1] at hj1
    rw [hz2] at hj2
    exact h4 j _ _ hj1 hj2
  have hs1 : (Stb.sortS (fun p q : EH × Ev => ltH p.1 q.1) (hs.zip l)).map Prod.fst = hs' := by rw [Stb.sortS_map (lt' := ltH) (fun x y => rfl), hz1, hh]
  have hs2 : Stb.sortS (fun p q : EH × Ev => ltH p.1 q.1) (hs.zip l) = Stb.sortS (fun p q : EH × Ev => lessB p.2 q.2) (hs.zip l) := by
    refine sortS_congr (fun p q hp hq => ?_)
    have e1 := (hg p hp).1
    have e2 := (hg q hq).1
    unfold ltH lessB
    rw [e1, e2]
    rfl
  have hs3 : (Stb.sortS (fun p q : EH × Ev => ltH p.1 q.1) (hs.zip l)).map Prod.snd = srtE l := by rw [hs2, Stb.sortS_map (lt' := lessB) (fun x y => rfl), hz2]; rfl
  rw [← hs1, List.getElem?_map] at hx
  rw [← hs3, List.getElem?_map] at he
  obtain ⟨p, hp, rfl⟩ := Option.map_eq_some_iff.1 hx
  rw [hp] at he
  obtain rfl := Option.some.inj he
  exact (hg p ((Stb.sortS_mem _ _).1 (List.mem_of_getElem? hp))).kb k1 k2
end Go.Proofs.YtablhmobekmflaaGreatDoor
