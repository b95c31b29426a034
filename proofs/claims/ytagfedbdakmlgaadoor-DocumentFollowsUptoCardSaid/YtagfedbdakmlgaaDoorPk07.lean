/- Laid together: Copies of rows: slices.Clone, style.Clone. Copies of rows, the reference's. The walks of event.Clone and of the reference's Clone. Lists of events in memory of their own: blocks that are kept by stores elsewhere; the heads of events; documents of one's own. -/
import Derived.Test.YtagfedbdakmlgaaDoorPk06
import Derived.Test.YtagfedbdakmlgaaDoorPk04
import Derived.Lib.SliceRun
import Derived.Test.YtagfedbdakmlgaaDoorPk05

/-! Clone -/
namespace Go.Proofs.YtagfedbdakmlgaaDoor
set_option linter.unusedVariables false
set_option linter.unusedSimpArgs false
open Go.RowKit

/-- an address from block L on, in a row of elements of type T -/
def Fresh (w : World) (T : TypeId) (L : Nat) (A : Option Addr) : Prop := ∀ ad, A = some ad → L ≤ ad.block ∧ Typed w T ad.block
theorem Fresh.le {w : World} {T : TypeId} {L L' : Nat} {A : Option Addr} (h : Fresh w T L A) (hl : L' ≤ L) : Fresh w T L' A := fun ad e => ⟨Nat.le_trans hl (h ad e).1, (h ad e).2⟩
theorem Fresh.ext {w w1 : World} {T : TypeId} {L : Nat} {A : Option Addr} (h : Fresh w T L A) (k : Ext w w1) : Fresh w1 T L A := fun ad e => ⟨(h ad e).1, (h ad e).2.ext k⟩
theorem Fresh.setCell {w : World} {T : TypeId} {L : Nat} {A : Option Addr} (h : Fresh w T L A) (p : Addr) (u : Value) : Fresh (w.setCell p u) T L A := fun ad e => ⟨(h ad e).1, (h ad e).2.setCell p u⟩
theorem Fresh.grown {w w1 : World} {T T' : TypeId} {L : Nat} {A : Option Addr} {row : Option Nat} (h : Fresh w T L A) (hg : w.grownBy w1 row) (hr : ∀ q, row = some q → Typed w T' q) (hne : T ≠ T') : Fresh w1 T L A := fun ad e => ⟨(h ad e).1, (h ad e).2.grown hg hr hne⟩
theorem Fresh.put {w : World} {T t : TypeId} {L g : Nat} {A : Option Addr} {cs : Array Value} (h : Fresh w T L A) (hB : Blk w g t cs) (cs' : Array Value) (hne : T ≠ t) : Fresh (putB w g t cs') T L A := fun ad e => ⟨(h ad e).1, (h ad e).2.put hB cs' hne⟩
theorem Fresh.of_own {w : World} {base : Nat} {e : TypeId} {size n m c : Nat} {A : Option Addr} {xs : List Value} (h : w.ownsRow base e size (.slice A m c) n xs) : Fresh w e base A := fun ad hA => by
  subst hA
  exact ⟨own_lt h _ rfl, own_typed h _ rfl⟩

def Run.cells (r : Run) : List Value := [.string r.text, .int .u8 r.color, .bool r.italic, .bool r.under, .string r.ruby]
theorem runC_cells {w : World} {b o : Nat} {r : Run} (h : RunC w b o r) : Cells Run.cells w b o r := by
  obtain ⟨h0, h1, h2, h3, h4⟩ := h
  intro j u hu
  match j, hu with
  | 0, hu => simp [Run.cells] at hu; subst hu; exact h0
  | 1, hu => simp [Run.cells] at hu; subst hu; exact h1
  | 2, hu => simp [Run.cells] at hu; subst hu; exact h2
  | 3, hu => simp [Run.cells] at hu; subst hu; exact h3
  | 4, hu => simp [Run.cells] at hu; subst hu; exact h4
  | j + 5, hu => simp [Run.cells] at hu
theorem cells_runC {w : World} {b o : Nat} {r : Run} (h : Cells Run.cells w b o r) : RunC w b o r := ⟨h 0 _ rfl, h 1 _ rfl, h 2 _ rfl, h 3 _ rfl, h 4 _ rfl⟩
theorem RunsAt.cells {w : World} {A : Option Addr} {n : Nat} {l : Row} (h : RunsAt w A n l) : Sl w 5 (Cells Run.cells) A n l := Sl.change h fun _ _ _ => runC_cells
theorem RunsAt.of_cells {w : World} {A : Option Addr} {n : Nat} {l : Row} (h : Sl w 5 (Cells Run.cells) A n l) : RunsAt w A n l := Sl.change h fun _ _ _ => cells_runC

theorem info_run : (Tryd.prog.info? 66).map (fun i => (i.zero, i.size, i.bytes)) = some (some (.agg #[.string ⟨#[]⟩, .int .u8 0, .bool false, .bool false, .string ⟨#[]⟩]), 5, 40) := by kernel_rfl
theorem info_row : (Tryd.prog.info? 61).map (fun i => (i.zero, i.size, i.bytes)) = some (some (.agg #[.slice none 0 0]), 1, 24) := by kernel_rfl

def CloneRunsPost (l : Row) (n : Nat) (w : World) (e : Ending) (w' : World) : Prop :=
  ∃ A c, e = .returned (.slice A n c) ∧ n ≤ c ∧ RunsAt w' A n l ∧ Fresh w' 66 w.heap.size A ∧ Ext w w'



set_option maxHeartbeats 1000000 in
theorem CloneRuns_any (A : Option Addr) (n c : Nat) (l : Row) (w : World) (hl : RunsAt w A n l) (hn : n * 40 ≤ 140737488355328) :
    Calls Tryd.prog 97 #[.slice A n c] w (CloneRunsPost l n w) := by
  have hq := fun w => Lib.run_eql_slice_nil (P := Tryd.prog) w 59 66 A n c 0 0 Tryd.underlying59
  have HL := Lib.hid hl
  clear hl
  cases A with
  | none =>
    have hn0 : n = 0 := by
      rcases Nat.eq_zero_or_pos n with h | h
      · exact h
      · obtain ⟨_, _, h, _⟩ := HL.out.2 h; cases h
    subst hn0
    simp only [Option.isNone_none] at hq
    go_enter Tryd.func97, Tryd.ntmps97
    go_wp2_with fail
    go_ret
    exact ⟨none, 0, rfl, Nat.le_refl _, HL.out, (fun _ h => by cases h), Ext.refl _⟩
  | some ad =>
    simp only [Option.isNone_some] at hq
    go_enter Tryd.func97, Tryd.ntmps97
    go_wp2_with (at_builtin; refine wpList_appendS rfl (.tmp 5) (.tmp 6) 59 rfl info_run Tryd.underlying59 rfl (by decide) (by exact own_nil0 w _ _ w.heap.size (Nat.le_refl _)) (by exact rfl) (by exact rfl) (by exact Sl.ext (Cells.stays _) HL.out.cells ((Ext.refl w).alloc _)) (fun _ => rfl) (by intro r u hu; simp [Run.cells] at hu; rcases hu with rfl | rfl | rfl | rfl | rfl <;> rfl) (by omega) (by simp [maxLen]; omega) (by simp) ?_; intro v' w' hown hgr hnil)
    go_ret
    simp only [Nat.zero_add, List.nil_append] at hown
    obtain ⟨A', c', rfl, hc, _, hsl, hfr⟩ := own_sl (f := Run.cells) (size := 5) (fun _ => rfl) HL.out.len hown
    exact ⟨A', c', rfl, hc, RunsAt.of_cells hsl, Fresh.of_own hown, ((Ext.refl w).alloc _).grown hgr (fun q hq => by simp [Value.ownBlock] at hq; omega)⟩

/-- the header of a slice -/
abbrev Hd := Option Addr × Nat × Nat
def Hd.val (h : Hd) : Value := .slice h.1 h.2.1 h.2.2
def Good (w : World) (h : Hd) (r : Row) : Prop := h.2.1 ≤ h.2.2 ∧ h.2.1 * 40 ≤ 140737488355328 ∧ RunsAt w h.1 h.2.1 r
theorem Good.ext {w w1 : World} {h : Hd} {r : Row} (g : Good w h r) (k : Ext w w1) : Good w1 h r := ⟨g.1, g.2.1, g.2.2.ext k⟩
def Goods (w : World) (hs : List Hd) (l : List Row) : Prop := ∀ (i : Nat) (h : Hd) (r : Row), hs[i]? = some h → l[i]? = some r → Good w h r
def HdsAt (w : World) (A : Option Addr) (n : Nat) (hs : List Hd) : Prop := Sl w 1 (Cells fun h => [Hd.val h]) A n hs

theorem rows_heads {w : World} {A : Option Addr} {n : Nat} {l : List Row} (h : RowsAt w A n l) : ∃ hs : List Hd, HdsAt w A n hs ∧ Goods w hs l := by
  have hall : ∀ i : Nat, ∃ hd : Hd, i < n → (∀ b off, A = some ⟨b, off, none⟩ → w.cell? ⟨b, off + i, none⟩ = some (Hd.val hd)) ∧ ∀ r, l[i]? = some r → Good w hd r := by
    intro i
    by_cases hi : i < n
    · obtain ⟨b, off, r, hA, hr, A', n', c', h1, h2, h3, h4⟩ := h.at_ hi
      refine ⟨(A', n', c'), fun _ => ⟨fun b' off' hA' => ?_, fun r' hr' => ?_⟩⟩
      · rw [hA] at hA'
        cases hA'
        rw [Nat.mul_one] at h1
        exact h1
      · rw [hr] at hr'
        cases hr'
        exact ⟨h2, h3, h4⟩
    · exact ⟨(none, 0, 0), fun h => absurd h hi⟩
  obtain ⟨f, hf⟩ := Classical.axiomOfChoice hall
  refine ⟨(List.range n).map f, ⟨by simp, fun hn => ?_⟩, ?_⟩
  · obtain ⟨b, off, hA, _⟩ := h.2 hn
    refine ⟨b, off, hA, fun i x hx j u hu => ?_⟩
    have hi : i < n := by
      have := (List.getElem?_eq_some_iff.1 hx).1
      simpa using this
    have hx' : x = f i := by
      rw [List.getElem?_map, List.getElem?_range hi] at hx
      exact (Option.some.inj hx).symm
    match j, hu with
    | 0, hu =>
      have hu' : u = Hd.val x := (Option.some.inj hu).symm
      subst hu' hx'
      simpa using (hf i hi).1 b off hA
    | j + 1, hu => simp at hu
  · intro i hd r hh hr
    have hi : i < n := by
      have := (List.getElem?_eq_some_iff.1 hh).1
      simpa using this
    have hx' : hd = f i := by
      rw [List.getElem?_map, List.getElem?_range hi] at hh
      exact (Option.some.inj hh).symm
    subst hx'
    exact (hf i hi).2 r hr

theorem rows_of_heads {w : World} {A : Option Addr} {n : Nat} {l : List Row} {hs : List Hd} (h : HdsAt w A n hs) (hl : l.length = n) (hg : Goods w hs l) : RowsAt w A n l := by
  refine ⟨hl, fun hn => ?_⟩
  obtain ⟨b, off, hA, hc⟩ := h.2 hn
  refine ⟨b, off, hA, fun i r hr => ?_⟩
  have hi : i < hs.length := by
    rw [h.len, ← hl]
    exact (List.getElem?_eq_some_iff.1 hr).1
  have hx : hs[i]? = some hs[i] := List.getElem?_eq_getElem hi
  have g := hg i _ r hx hr
  exact ⟨_, _, _, hc i _ hx 0 _ rfl, g.1, g.2.1, g.2.2⟩

def CloneHdsPost (hs : List Hd) (n : Nat) (w : World) (e : Ending) (w' : World) : Prop :=
  ∃ A c, e = .returned (.slice A n c) ∧ w'.ownsRow w.heap.size 61 1 (.slice A n c) n (hs.flatMap fun h => [Hd.val h]) ∧ Ext w w'

set_option maxHeartbeats 1000000 in
theorem CloneHds_any (A : Option Addr) (n c : Nat) (hs : List Hd) (w : World) (hl : HdsAt w A n hs) (hn : n * 24 ≤ 140737488355328) :
    Calls Tryd.prog 96 #[.slice A n c] w (CloneHdsPost hs n w) := by
  have hq := fun w => Lib.run_eql_slice_nil (P := Tryd.prog) w 43 61 A n c 0 0 Tryd.underlying43
  have HL := Lib.hid hl
  clear hl
  cases A with
  | none =>
    have hn0 : n = 0 := by
      rcases Nat.eq_zero_or_pos n with h | h
      · exact h
      · obtain ⟨_, _, h, _⟩ := HL.out.2 h; cases h
    subst hn0
    have hs0 : hs = [] := List.eq_nil_of_length_eq_zero HL.out.len
    subst hs0
    simp only [Option.isNone_none] at hq
    go_enter Tryd.func96, Tryd.ntmps96
    go_wp2_with fail
    go_ret
    exact ⟨none, 0, rfl, ⟨rfl, .inl ⟨rfl, rfl⟩⟩, Ext.refl _⟩
  | some ad =>
    simp only [Option.isNone_some] at hq
    go_enter Tryd.func96, Tryd.ntmps96
    go_wp2_with (at_builtin; refine wpList_appendS rfl (.tmp 5) (.tmp 6) 43 rfl info_row Tryd.underlying43 rfl (by decide) (by exact own_nil0 w _ _ w.heap.size (Nat.le_refl _)) (by exact rfl) (by exact rfl) (by exact Sl.ext (Cells.stays _) HL.out ((Ext.refl w).alloc _)) (fun _ => rfl) (by intro r u hu; simp at hu; subst hu; rfl) (by omega) (by simp [maxLen]; omega) (by simp) ?_; intro v' w' hown hgr hnil)
    go_ret
    simp only [Nat.zero_add, List.nil_append] at hown
    obtain ⟨A', c', rfl, hc, _, hsl, hfr⟩ := own_sl (f := fun h : Hd => [Hd.val h]) (size := 1) (fun _ => rfl) HL.out.len hown
    exact ⟨A', c', rfl, hown, ((Ext.refl w).alloc _).grown hgr (fun q hq => by simp [Value.ownBlock] at hq; omega)⟩

/-- rows whose memory lies from block L on -/
def RowsFresh (w : World) (L : Nat) (A : Option Addr) (n : Nat) (l : List Row) : Prop :=
  ∃ hs : List Hd, HdsAt w A n hs ∧ Goods w hs l ∧ l.length = n ∧ Fresh w 61 L A ∧ ∀ h ∈ hs, Fresh w 66 L h.1
theorem RowsFresh.rows {w : World} {L : Nat} {A : Option Addr} {n : Nat} {l : List Row} (h : RowsFresh w L A n l) : RowsAt w A n l := by
  obtain ⟨hs, h1, h2, h3, _⟩ := h
  exact rows_of_heads h1 h3 h2
theorem RowsFresh.ext {w w1 : World} {L : Nat} {A : Option Addr} {n : Nat} {l : List Row} (h : RowsFresh w L A n l) (k : Ext w w1) : RowsFresh w1 L A n l := by
  obtain ⟨hs, h1, h2, h3, h4, h5⟩ := h
  exact ⟨hs, Sl.ext (Cells.stays _) h1 k, fun i hd r a b => (h2 i hd r a b).ext k, h3, h4.ext k, fun x hx => (h5 x hx).ext k⟩
theorem RowsFresh.le {w : World} {L L' : Nat} {A : Option Addr} {n : Nat} {l : List Row} (h : RowsFresh w L A n l) (hl : L' ≤ L) : RowsFresh w L' A n l := by
  obtain ⟨hs, h1, h2, h3, h4, h5⟩ := h
  exact ⟨hs, h1, h2, h3, h4.le hl, fun x hx => (h5 x hx).le hl⟩

/-- a header's memory is not in block g -/
def Apart (g : Nat) (h : Hd) : Prop := 0 < h.2.1 → ∀ ad, h.1 = some ad → ad.block ≠ g
theorem Sl.keep {α : Type} {C : World → Nat → Nat → α → Prop} {w w1 : World} {size n : Nat} {A : Option Addr} {l : List α} (h : Sl w size C A n l) (hk : 0 < n → ∀ b off, A = some ⟨b, off, none⟩ → ∀ o x, C w b o x → C w1 b o x) : Sl w1 size C A n l :=
  ⟨h.1, fun hn => (h.2 hn).elim fun b hb => hb.elim fun off ho => ⟨b, off, ho.1, fun i x hx => hk hn b off ho.1 _ _ (ho.2 i x hx)⟩⟩
theorem RunC.set {w : World} {b o : Nat} {r : Run} (h : RunC w b o r) {p : Addr} (hp : b ≠ p.block) (u : Value) : RunC (w.setCell p u) b o r := by
  have key : ∀ q v, w.cell? ⟨b, q, none⟩ = some v → (w.setCell p u).cell? ⟨b, q, none⟩ = some v := fun q v hv => by
    rw [World.cell?_setCell_other w p ⟨b, q, none⟩ u (fun e => hp (by rw [e]))]; exact hv
  exact ⟨key _ _ h.1, key _ _ h.2.1, key _ _ h.2.2.1, key _ _ h.2.2.2.1, key _ _ h.2.2.2.2⟩
theorem Good.set {w : World} {h : Hd} {r : Row} (g : Good w h r) {p : Addr} (hp : Apart p.block h) (u : Value) : Good (w.setCell p u) h r :=
  ⟨g.1, g.2.1, Sl.keep g.2.2 fun hn b off hA o x hx => hx.set (hp hn _ hA) u⟩

/-- rows whose memory lies from block L on, in a block of their own -/
def RowsOwn (w : World) (L : Nat) (A : Option Addr) (n c : Nat) (l : List Row) : Prop :=
  ∃ hs : List Hd, w.ownsRow L 61 1 (.slice A n c) n (hs.flatMap fun h => [Hd.val h]) ∧ hs.length = n ∧ Goods w hs l ∧ l.length = n ∧ ∀ h ∈ hs, Fresh w 66 L h.1
theorem RowsOwn.fresh {w : World} {L : Nat} {A : Option Addr} {n c : Nat} {l : List Row} (h : RowsOwn w L A n c l) : RowsFresh w L A n l := by
  obtain ⟨hs, h1, h2, h3, h4, h5⟩ := h
  obtain ⟨A', c', hv, _, _, hsl, _⟩ := own_sl (f := fun h : Hd => [Hd.val h]) (size := 1) (fun _ => rfl) h2 h1
  injection hv with e1 e2 e3
  subst e1 e3
  exact ⟨hs, hsl, h3, h4, Fresh.of_own h1, h5⟩
theorem RowsOwn.ext {w w1 : World} {L : Nat} {A : Option Addr} {n c : Nat} {l : List Row} (h : RowsOwn w L A n c l) (k : Ext w w1) : RowsOwn w1 L A n c l := by
  obtain ⟨hs, h1, h2, h3, h4, h5⟩ := h
  exact ⟨hs, own_ext h1 k, h2, fun i hd r a b => (h3 i hd r a b).ext k, h4, fun x hx => (h5 x hx).ext k⟩
theorem own_le {w : World} {L L' : Nat} {e : TypeId} {size : Nat} {v : Value} {n : Nat} {xs : List Value} (h : w.ownsRow L e size v n xs) (hl : L' ≤ L) : w.ownsRow L' e size v n xs := by
  refine ⟨h.1, ?_⟩
  rcases h.2 with hn | ⟨g, cap, cur, rfl, hb, rest⟩
  · exact .inl hn
  · exact .inr ⟨g, cap, cur, rfl, Nat.le_trans hl hb, rest⟩
theorem RowsOwn.le {w : World} {L L' : Nat} {A : Option Addr} {n c : Nat} {l : List Row} (h : RowsOwn w L A n c l) (hl : L' ≤ L) : RowsOwn w L' A n c l := by
  obtain ⟨hs, h1, h2, h3, h4, h5⟩ := h
  exact ⟨hs, own_le h1 hl, h2, h3, h4, fun x hx => (h5 x hx).le hl⟩
def SOwnPost (rows : List Row) (n : Nat) (w : World) (e : Ending) (w' : World) : Prop :=
  ∃ A c, e = .returned (.slice A n c) ∧ n ≤ c ∧ RowsOwn w' w.heap.size A n c rows ∧ Ext w w'

def SCloneRel (w : World) (rows : List Row) (A : Option Addr) (n c : Nat) (i : Value) (wr : World) : Prop :=
  ∃ (k : Nat) (hs : List Hd), k ≤ n ∧ i = .int .i64 k ∧ hs.length = n ∧ wr.ownsRow w.heap.size 61 1 (.slice A n c) n (hs.flatMap fun h => [Hd.val h]) ∧ Ext w wr ∧ Goods wr hs rows ∧
    (∀ ad, A = some ad → ∀ h ∈ hs, Apart ad.block h) ∧ (∀ j h, j < k → hs[j]? = some h → Fresh wr 66 w.heap.size h.1)

theorem flatMap_set (hs : List Hd) (k : Nat) (h : Hd) : (hs.set k h).flatMap (fun h => [Hd.val h]) = (hs.flatMap fun h => [Hd.val h]).set k (Hd.val h) := by
  have e : ∀ l : List Hd, (l.flatMap fun h => [Hd.val h]) = l.map Hd.val := fun l => by induction l <;> simp_all
  rw [e, e, List.map_set]

def SClonePost (rows : List Row) (n : Nat) (w : World) (e : Ending) (w' : World) : Prop :=
  ∃ A c, e = .returned (.slice A n c) ∧ n ≤ c ∧ RowsFresh w' w.heap.size A n rows ∧ Ext w w'

theorem sclone_step {w wr w2 : World} {rows : List Row} {n c g k : Nat} {hs : List Hd} {hd : Hd} {r : Row} {A2 : Option Addr} {c2 : Nat} (hlt : k < n) (hx : Ext w wr) (hx2 : Ext wr w2) (hsl : hs.length = n)
    (hO : wr.ownsRow w.heap.size 61 1 (.slice (some ⟨g, 0, none⟩) n c) n (hs.flatMap fun h => [Hd.val h])) (hgb : w.heap.size ≤ g) (hglt : g < wr.heap.size) (hG : Goods wr hs rows)
    (hA : ∀ h ∈ hs, Apart g h) (hF : ∀ (j : Nat) (h : Hd), j < k → hs[j]? = some h → Fresh wr 66 w.heap.size h.1) (hr : rows[k]? = some r) (hn40 : hd.2.1 * 40 ≤ 140737488355328) (hnc : hd.2.1 ≤ c2) (hru : RunsAt w2 A2 hd.2.1 r) (hfr : Fresh w2 66 wr.heap.size A2) :
    SCloneRel w rows (some ⟨g, 0, none⟩) n c (.int .i64 ((k : Int) + 1)) (w2.setCell ⟨g, k, none⟩ (.slice A2 hd.2.1 c2)) := by
  have hap : Apart g (A2, hd.2.1, c2) := fun _ ad had => by have := (hfr ad had).1; omega
  refine ⟨k + 1, hs.set k (A2, hd.2.1, c2), by omega, by simp, by simpa using hsl, ?_, (hx.trans hx2).setCell hgb _, ?_, ?_, ?_⟩
  · rw [flatMap_set]
    exact ((own_ext hO hx2).stored k _).1
  · intro i h q hi hq
    by_cases hik : k = i
    · subst hik
      rw [List.getElem?_set_self (by rw [hsl]; exact hlt)] at hi
      cases hi
      rw [hr] at hq
      cases hq
      exact Good.set (h := (A2, hd.2.1, c2)) (p := ⟨g, k, none⟩) ⟨hnc, hn40, hru⟩ hap _
    · rw [List.getElem?_set_ne hik] at hi
      exact Good.set (p := ⟨g, k, none⟩) ((hG i h q hi hq).ext hx2) (hA h (List.mem_of_getElem? hi)) _
  · intro ad had h hm
    cases had
    rcases List.mem_or_eq_of_mem_set hm with h1 | h1
    · exact hA h h1
    · subst h1; exact hap
  · intro j h hj hh
    by_cases hik : k = j
    · subst hik
      rw [List.getElem?_set_self (by rw [hsl]; exact hlt)] at hh
      cases hh
      exact (hfr.le hx.size).setCell _ _
    · rw [List.getElem?_set_ne hik] at hh
      exact ((hF j h (by omega) hh).ext hx2).setCell _ _

set_option maxRecDepth 100000 in
set_option maxHeartbeats 2000000 in
theorem SClone_own (A : Option Addr) (n c : Nat) (rows : List Row) (w : World) (hl : RowsAt w A n rows) (hn : n * 24 ≤ 140737488355328) :
    Calls Tryd.prog 73 #[.slice A n c] w (SOwnPost rows n w) := by
  obtain ⟨hs0, hh0, hg0⟩ := rows_heads hl
  have HLn := Lib.hid hl.len
  have HH := Lib.hid hh0
  have HG := Lib.hid hg0
  have HH0 := Lib.hid hh0.len
  have hold : Hid (∀ h ∈ hs0, ∀ g, w.heap.size ≤ g → Apart g h) := by
    intro h hm g hg hp ad had
    obtain ⟨i, hi⟩ := List.getElem?_of_mem hm
    have hil : i < rows.length := by
      rw [HLn.out, ← HH0.out]
      exact (List.getElem?_eq_some_iff.1 hi).1
    have hgd := hg0 i h _ hi (List.getElem?_eq_getElem hil)
    obtain ⟨b, off, x, hA, hx, hC⟩ := hgd.2.2.at_ (i := 0) hp
    rw [hA] at had
    cases had
    have := World.block_lt_of_cell? w _ hC.1
    exact fun e => by simp only at e this; omega
  clear hl hh0 hg0
  go_enter Tryd.func73, Tryd.ntmps73
  go_wp2_with fail
  refine (CloneHds_any A n c hs0 _ HH.out hn).mono ?_
  rintro e w1 ⟨A1, c1, rfl, hown1, hx1⟩
  have HO1 := Lib.hid hown1
  clear hown1
  go_wp2_with fail
  go_loopw [9] (fun i wr => SCloneRel w rows A1 n c1 i wr) (fun i _ => n - (intOf i).toNat)
  case atStart =>
    refine ⟨0, hs0, Nat.zero_le _, rfl, HH0.out, HO1.out, hx1, fun i h r a b => (HG.out i h r a b).ext hx1, fun ad hA h hm => ?_, fun j h hj => absurd hj (by omega)⟩
    subst hA
    exact hold.out h hm _ (own_lt HO1.out _ rfl)
  case round =>
    obtain ⟨k, hs, hk, rfl, hsl, hown, hx, hgd, hap, hfr⟩ := hrel
    have HGd := Lib.hid hgd
    have HAp := Lib.hid hap
    have HFr := Lib.hid hfr
    have HSl := Lib.hid hsl
    have HO := Lib.hid hown
    clear hgd hap hfr hsl hown
    by_cases hlt : k < n
    · obtain ⟨g, cp, hv, hgb, hglt⟩ := own_form HO.out (by omega)
      have hA1 : A1 = some ⟨g, 0, none⟩ := by injection hv
      subst hA1
      have hcell := Lib.hid (HO.out.cellAt k (by omega))
      obtain ⟨hd, hhd⟩ : ∃ hd, hs[k]? = some hd := ⟨_, List.getElem?_eq_getElem (by rw [HSl.out]; exact hlt)⟩
      obtain ⟨r, hr⟩ : ∃ r, rows[k]? = some r := ⟨_, List.getElem?_eq_getElem (by rw [HLn.out]; exact hlt)⟩
      have hck : wr.cell? ⟨g, k, none⟩ = some (.slice hd.1 hd.2.1 hd.2.2) := by
        rw [hcell.out]
        have := flatMap_at (fun h : Hd => [Hd.val h]) 1 (fun _ => rfl) hs k hd 0 hhd (by omega)
        simp only [Nat.mul_one, Nat.add_zero] at this
        rw [this]
        rfl
      have hfz : wr.frozen? ⟨g, k, none⟩ = false := HO.out.frozenAt k
      have hgk := HGd.out k hd r hhd hr
      have HGk := Lib.hid hgk
      have hn40 : hd.2.1 * 40 ≤ 140737488355328 := hgk.2.1
      have HHd := Lib.hid hhd
      have HRr := Lib.hid hr
      clear hgk hhd hr
      go_wp2_with fail
      refine (CloneRuns_any hd.1 hd.2.1 hd.2.2 r _ HGk.out.2.2 hn40).mono ?_
      rintro e w2 ⟨A2, c2, rfl, hnc2, hru2, hfr2, hx2⟩
      have hck2 : w2.cell? ⟨g, k, none⟩ = some (.slice hd.1 hd.2.1 hd.2.2) := hx2.cell hck
      have hfz2 : w2.frozen? ⟨g, k, none⟩ = false := hx2.frozen hck hfz
      have HRu2 := Lib.hid hru2
      clear hru2 hck hfz
      go_wp2_with fail
      exact ⟨sclone_step hlt hx hx2 HSl.out HO.out hgb hglt HGd.out (fun h hm => HAp.out _ rfl h hm) HFr.out HRr.out hn40 hnc2 HRu2.out hfr2, by simp [intOf]; omega⟩
    · have hkn : k = n := by omega
      subst hkn
      go_wp2_with fail
      go_ret
      obtain ⟨A', c', hv, hc, _, hsl', hfr'⟩ := own_sl (f := fun h : Hd => [Hd.val h]) (size := 1) (fun _ => rfl) HSl.out HO.out
      injection hv with hv1 hv2 hv3
      subst hv1 hv3
      refine ⟨A1, c1, rfl, hc, ⟨hs, HO.out, HSl.out, HGd.out, HLn.out, fun h hm => ?_⟩, hx⟩
      obtain ⟨j, hj⟩ := List.getElem?_of_mem hm
      exact HFr.out j h (by rw [← HSl.out]; exact (List.getElem?_eq_some_iff.1 hj).1) hj
theorem SClone_any (A : Option Addr) (n c : Nat) (rows : List Row) (w : World) (hl : RowsAt w A n rows) (hn : n * 24 ≤ 140737488355328) :
    Calls Tryd.prog 73 #[.slice A n c] w (SClonePost rows n w) :=
  (SClone_own A n c rows w hl hn).mono fun _ _ ⟨A1, c1, h1, h2, h3, h4⟩ => ⟨A1, c1, h1, h2, h3.fresh, h4⟩
end Go.Proofs.YtagfedbdakmlgaaDoor

/-! CloneR -/
namespace Go.Proofs.YtagfedbdakmlgaaDoor
set_option linter.unusedVariables false
set_option linter.unusedSimpArgs false
open Go.RowKit

theorem run_ones : ∀ (r : Run), ∀ u ∈ r.cells, u.oneCell' = true := by intro r u hu; simp [Run.cells] at hu; rcases hu with rfl | rfl | rfl | rfl | rfl <;> rfl

def RCloneRel (w : World) (rows : List Row) (n : Nat) (v i : Value) (wr : World) : Prop :=
  ∃ (k : Nat) (hs : List Hd), k ≤ n ∧ i = .int .i64 k ∧ hs.length = k ∧ wr.ownsRow w.heap.size 61 1 v k (hs.flatMap fun h => [Hd.val h]) ∧ Ext w wr ∧ Goods wr hs (rows.take k) ∧
    (∀ g, v.ownBlock = some g → ∀ h ∈ hs, Apart g h) ∧ (∀ h ∈ hs, Fresh wr 66 w.heap.size h.1)

theorem Good.grown {w w1 : World} {h : Hd} {r : Row} {row : Option Nat} (g : Good w h r) (hg : w.grownBy w1 row) (hp : ∀ q, row = some q → Apart q h) : Good w1 h r :=
  ⟨g.1, g.2.1, Sl.keep g.2.2 fun hn b off hA o x hx => by
    have hb : b < w.heap.size := World.block_lt_of_cell? w _ hx.1
    have key : ∀ q v, w.cell? ⟨b, q, none⟩ = some v → w1.cell? ⟨b, q, none⟩ = some v := fun q v hv =>
      (World.cell?_of_block (w := w) (a := ⟨b, q, none⟩) (hg.block b hb (fun e => hp b e.symm hn _ hA rfl))).trans hv
    exact ⟨key _ _ hx.1, key _ _ hx.2.1, key _ _ hx.2.2.1, key _ _ hx.2.2.2.1, key _ _ hx.2.2.2.2⟩⟩

theorem rclone_step {w wr w1 w3 : World} {rows : List Row} {n k : Nat} {hs : List Hd} {r : Row} {v v' : Value} {A1 : Option Addr} {n' c1 : Nat} {o : Obj} (hlt : k < n) (hx : Ext w wr) (hx1 : Ext wr w1) (hsl : hs.length = k)
    (hO : wr.ownsRow w.heap.size 61 1 v k (hs.flatMap fun h => [Hd.val h])) (hG : Goods wr hs (rows.take k))
    (hA : ∀ g, v.ownBlock = some g → ∀ h ∈ hs, Apart g h) (hF : ∀ h ∈ hs, Fresh wr 66 w.heap.size h.1) (hr : rows[k]? = some r) (hn40 : n' * 40 ≤ 140737488355328) (hnc : n' ≤ c1) (hru : RunsAt w1 A1 n' r) (hfr : Fresh w1 66 wr.heap.size A1) (hlt1 : 0 < n' → ∀ ad, A1 = some ad → ad.block < w1.heap.size)
    (hO3 : w3.ownsRow w.heap.size 61 1 v' (k + 1) ((hs.flatMap fun h => [Hd.val h]) ++ [Value.slice A1 n' c1])) (hgr : (w1.alloc o).grownBy w3 v.ownBlock) (hat : v'.ownBlock = v.ownBlock ∨ v'.ownBlock = some (w1.alloc o).heap.size) :
    RCloneRel w rows n v' (.int .i64 ((k : Int) + 1)) w3 := by
  have hvb : ∀ g, v.ownBlock = some g → w.heap.size ≤ g ∧ g < wr.heap.size := fun g hg => hO.lt g hg
  have hapn : ∀ g, v.ownBlock = some g → Apart g (A1, n', c1) := fun g hg _ ad had => by have := (hfr ad had).1; have := hvb g hg; omega
  have hx3 : Ext w w3 := ((hx.trans hx1).alloc o).grown hgr (fun q hq => (hvb q hq).1)
  have hblk : ∀ h ∈ hs, ∀ (r' : Row), Good wr h r' → 0 < h.2.1 → ∀ ad, h.1 = some ad → ad.block < wr.heap.size := fun h _ r' hg hp ad had => by
    obtain ⟨b, off, x, hA', _, hC⟩ := hg.2.2.at_ (i := 0) hp
    rw [hA'] at had
    cases had
    exact World.block_lt_of_cell? wr _ hC.1
  refine ⟨k + 1, hs ++ [(A1, n', c1)], by omega, by simp, by simp [hsl], ?_, hx3, ?_, ?_, ?_⟩
  · rw [List.flatMap_append]
    exact hO3
  · intro i h q hi hq
    rw [take_snoc' rows k r hr] at hq
    by_cases hik : i < k
    · rw [List.getElem?_append_left (by omega)] at hi
      rw [List.getElem?_append_left (by rw [List.length_take]; have := (List.getElem?_eq_some_iff.1 hr).1; omega)] at hq
      have hm := List.mem_of_getElem? hi
      exact (((hG i h q hi hq).ext hx1).ext ((Ext.refl w1).alloc o)).grown hgr (fun g hg => hA g hg h hm)
    · have hlen : (rows.take k).length = k := by rw [List.length_take]; have := (List.getElem?_eq_some_iff.1 hr).1; omega
      have hik' : i = k := by
        have := (List.getElem?_eq_some_iff.1 hi).1
        simp [hsl] at this
        omega
      subst hik'
      rw [List.getElem?_append_right (by omega)] at hi
      rw [List.getElem?_append_right (by omega)] at hq
      simp only [hsl, hlen, Nat.sub_self, List.getElem?_cons_zero, Option.some.injEq] at hi hq
      subst hi hq
      exact (Good.ext (h := (A1, n', c1)) ⟨hnc, hn40, hru⟩ ((Ext.refl w1).alloc o)).grown hgr hapn
  · intro g hg h hm
    rcases hat with e | e
    · rw [e] at hg
      rcases List.mem_append.1 hm with h1 | h1
      · exact hA g hg h h1
      · rw [List.mem_singleton] at h1; subst h1; exact hapn g hg
    · rw [e] at hg
      have hge : g = w1.heap.size + 1 := by simpa using hg.symm
      have hs1 := hx1.size
      rcases List.mem_append.1 hm with h1 | h1
      · intro hp ad had
        obtain ⟨i, hi⟩ := List.getElem?_of_mem h1
        have hil : i < (rows.take k).length := by
          have := (List.getElem?_eq_some_iff.1 hi).1
          rw [List.length_take]; have := (List.getElem?_eq_some_iff.1 hr).1; omega
        have := hblk h h1 _ (hG i h _ hi (List.getElem?_eq_getElem hil)) hp ad had
        omega
      · rw [List.mem_singleton] at h1
        subst h1
        intro hp ad had
        have := hlt1 hp ad had
        omega
  · intro h hm
    have hty : ∀ q, v.ownBlock = some q → Typed (w1.alloc o) 61 q := fun q hq => ((own_typed hO q hq).ext hx1).ext ((Ext.refl w1).alloc o)
    rcases List.mem_append.1 hm with h1 | h1
    · exact (((hF h h1).ext hx1).ext ((Ext.refl w1).alloc o)).grown hgr hty (by decide)
    · rw [List.mem_singleton] at h1
      subst h1
      exact ((hfr.le hx.size).ext ((Ext.refl w1).alloc o)).grown hgr hty (by decide)

set_option maxRecDepth 100000 in
set_option maxHeartbeats 2000000 in
theorem RClone_own (A : Option Addr) (n c : Nat) (rows : List Row) (w : World) (hl : RowsAt w A n rows) (hn : n * 24 ≤ 140737488355328) :
    Calls Tryd.prog 35 #[.slice A n c] w (SOwnPost rows n w) := by
  have HL := Lib.hid hl
  have HLn := Lib.hid hl.len
  clear hl
  go_enter Tryd.func35, Tryd.ntmps35
  go_wp2_with fail
  go_loopw [3, 8] (fun v i wr => RCloneRel w rows n v i wr) (fun _ i _ => n - (intOf i).toNat)
  case atStart => exact ⟨0, [], Nat.zero_le _, rfl, rfl, ⟨rfl, .inl ⟨rfl, rfl⟩⟩, Ext.refl _, fun i h r hi _ => by simp at hi, fun g hg h hm => by simp at hm, fun h hm => by simp at hm⟩
  case round =>
    obtain ⟨k, hs, hk, rfl, hsl, hown, hx, hgd, hap, hfr⟩ := hrel
    have HGd := Lib.hid hgd
    have HAp := Lib.hid hap
    have HFr := Lib.hid hfr
    have HSl := Lib.hid hsl
    have HO := Lib.hid hown
    clear hgd hap hfr hsl hown
    by_cases hlt : k < n
    · obtain ⟨b, off, r, rfl, hr, A', n', c', hcell, hnc, hc40, hruns⟩ := (HL.out.ext hx).at_ hlt
      simp only [Nat.mul_one] at hcell
      have HRu := Lib.hid hruns
      have HRr := Lib.hid hr
      clear hr hruns
      have hwr : w.heap.size ≤ wr.heap.size := hx.size
      go_wp2_with (first | (at_builtin; refine wpList_appendS rfl (.tmp 13) (.tmp 15) 59 rfl info_run Tryd.underlying59 rfl (by decide) (by exact own_nil0' (g := wr.heap.size + 1) (base := wr.heap.size + 1) (by simp) (Nat.le_refl _)) (by exact rfl) (by exact rfl) (by exact Sl.ext (Cells.stays _) HRu.out.cells (((Ext.refl wr).alloc _).alloc _)) (fun _ => rfl) run_ones (by omega) (by simp [maxLen]; omega) (by simp) ?_; intro v1 w1 hown1 hgr1 hnil1; simp only [Nat.zero_add, List.nil_append] at hown1; obtain ⟨A1, c1, hv1, hc1, _, hsl1, hfr1⟩ := own_sl (f := Run.cells) (size := 5) (fun _ => rfl) HRu.out.len hown1; have hx1 : Ext wr w1 := ((((Ext.refl wr).alloc _).alloc _).grown hgr1 (fun q hq => by simp [Value.ownBlock] at hq; omega)); have HX1 := Lib.hid hx1; have HS1 := Lib.hid hsl1; have HF1 := Lib.hid hfr1; have HOw1 := Lib.hid hown1; have hsz1 := hx1.size; clear hx1 hsl1 hfr1 hown1 hgr1 hnil1; rw [hv1] at HOw1; rw [hv1]; clear hv1) | (at_builtin; refine wpList_append1a rfl (.tmp 12) (.tmp 18) 43 rfl info_row Tryd.underlying43 rfl (by decide) ((own_ext HO.out HX1.out).alloc _) (by exact rfl) w1.heap.size _ (by exact rfl) (by exact Blk.new' rfl) (by exact rfl) (by simp [Value.oneCell']) (by omega) (by simp [maxLen]; omega) (by simp; omega) ?_; intro v' w3 hown3 hgr3 hat3))
      refine ⟨rclone_step hlt hx HX1.out HSl.out HO.out HGd.out HAp.out HFr.out HRr.out hc40 hc1 (RunsAt.of_cells HS1.out) ((Fresh.of_own HOw1.out).le (by omega)) (fun hp ad had => ?_) hown3 hgr3 hat3, by simp [intOf]; omega⟩
      obtain ⟨b', off', x, hA', _, hC⟩ := HS1.out.at_ (i := 0) hp
      rw [hA'] at had
      cases had
      exact World.block_lt_of_cell? w1 _ (hC 0 _ rfl)
    · have hkn : k = n := by omega
      subst hkn
      go_wp2_with fail
      go_ret
      obtain ⟨A', c', hv, hc, _, hsl', hfr'⟩ := own_sl (f := fun h : Hd => [Hd.val h]) (size := 1) (fun _ => rfl) HSl.out HO.out
      have HT : rows.take k = rows := List.take_of_length_le (by rw [HLn.out]; omega)
      refine ⟨A', c', by rw [← hv]; rfl, hc, ⟨hs, by rw [← hv]; exact HO.out, HSl.out, by have := HGd.out; rw [HT] at this; exact this, HLn.out, fun h hm => HFr.out h hm⟩, hx⟩
theorem RClone_any (A : Option Addr) (n c : Nat) (rows : List Row) (w : World) (hl : RowsAt w A n rows) (hn : n * 24 ≤ 140737488355328) :
    Calls Tryd.prog 35 #[.slice A n c] w (SClonePost rows n w) :=
  (RClone_own A n c rows w hl hn).mono fun _ _ ⟨A1, c1, h1, h2, h3, h4⟩ => ⟨A1, c1, h1, h2, h3.fresh, h4⟩
end Go.Proofs.YtagfedbdakmlgaaDoor

/-! ECl -/
namespace Go.Proofs.YtagfedbdakmlgaaDoor
set_option linter.unusedVariables false
set_option linter.unusedSimpArgs false
open Go.RowKit

/-- a store into a block of another type leaves the rows as they are -/
theorem RowsFresh.put {w : World} {L : Nat} {A : Option Addr} {n : Nat} {l : List Row} (h : RowsFresh w L A n l) {g : Nat} {t : TypeId} {cs : Array Value} (hB : Blk w g t cs) (cs' : Array Value) (h1 : 61 ≠ t) (h2 : 66 ≠ t) : RowsFresh (putB w g t cs') L A n l := by
  obtain ⟨hs, a1, a2, a3, a4, a5⟩ := h
  refine ⟨hs, Sl.keep a1 fun _ b off hA o x hx j u hu => ?_, fun i hd r a b => ?_, a3, a4.put hB cs' h1, fun x hx => (a5 x hx).put hB cs' h2⟩
  · have hb : b ≠ g := Typed.ne (a4 _ hA).2 hB.typed h1
    rw [putB_cell_other (p := ⟨b, o + j, none⟩) hb]; exact hx j u hu
  · have gd := a2 i hd r a b
    refine ⟨gd.1, gd.2.1, Sl.keep gd.2.2 fun _ b' off hA o x hx => ?_⟩
    have hb : b' ≠ g := Typed.ne (a5 hd (List.mem_of_getElem? a) _ hA).2 hB.typed h2
    have key : ∀ q v, w.cell? ⟨b', q, none⟩ = some v → (putB w g t cs').cell? ⟨b', q, none⟩ = some v := fun q v hv => by rw [putB_cell_other (p := ⟨b', q, none⟩) hb]; exact hv
    exact ⟨key _ _ hx.1, key _ _ hx.2.1, key _ _ hx.2.2.1, key _ _ hx.2.2.2.1, key _ _ hx.2.2.2.2⟩

theorem own_put {w : World} {L : Nat} {e : TypeId} {size : Nat} {v : Value} {n : Nat} {xs : List Value} (h : w.ownsRow L e size v n xs) {g : Nat} {t : TypeId} {cs : Array Value} (hB : Blk w g t cs) (cs' : Array Value) (hne : e ≠ t) : (putB w g t cs').ownsRow L e size v n xs := by
  have ht := own_typed h
  refine ⟨h.1, ?_⟩
  rcases h.2 with hn | ⟨g', cap, cur, rfl, hb, hg, rest⟩
  · exact .inl hn
  · refine .inr ⟨g', cap, cur, rfl, hb, ?_, rest⟩
    have : g ≠ g' := fun e => Typed.ne (ht g' rfl) hB.typed hne e.symm
    unfold putB
    simp only
    rw [Array.getElem?_setIfInBounds_ne this]
    exact hg
theorem RowsOwn.put {w : World} {L : Nat} {A : Option Addr} {n c : Nat} {l : List Row} (h : RowsOwn w L A n c l) {g : Nat} {t : TypeId} {cs : Array Value} (hB : Blk w g t cs) (cs' : Array Value) (h1 : 61 ≠ t) (h2 : 66 ≠ t) : RowsOwn (putB w g t cs') L A n c l := by
  obtain ⟨hs, a1, a2, a3, a4, a5⟩ := h
  refine ⟨hs, own_put a1 hB cs' h1, a2, fun i hd r a b => ?_, a4, fun x hx => (a5 x hx).put hB cs' h2⟩
  have gd := a3 i hd r a b
  refine ⟨gd.1, gd.2.1, Sl.keep gd.2.2 fun _ b' off hA o x hx => ?_⟩
  have hb : b' ≠ g := Typed.ne (a5 hd (List.mem_of_getElem? a) _ hA).2 hB.typed h2
  have key : ∀ q v, w.cell? ⟨b', q, none⟩ = some v → (putB w g t cs').cell? ⟨b', q, none⟩ = some v := fun q v hv => by rw [putB_cell_other (p := ⟨b', q, none⟩) hb]; exact hv
  exact ⟨key _ _ hx.1, key _ _ hx.2.1, key _ _ hx.2.2.1, key _ _ hx.2.2.2.1, key _ _ hx.2.2.2.2⟩

theorem size_event : (Tryd.prog.info? 45).map (·.size) = some 7 := by kernel_rfl
def evZero : Array Value := #[.int .i64 0, .int .i64 0, .int .i64 0, .string ⟨#[]⟩, .int .u8 0, .string ⟨#[]⟩, .slice none 0 0]

/-- what a copy of an event comes to -/
def EClPost (e : Ev) (n : Nat) (w : World) (en : Ending) (w' : World) : Prop :=
  ∃ A c, en = .returned (.agg (e.cells A n c)) ∧ n ≤ c ∧ RowsFresh w' w.heap.size A n e.rows ∧ Ext w w'

def EOwnPost (e : Ev) (n : Nat) (w : World) (en : Ending) (w' : World) : Prop :=
  ∃ A c, en = .returned (.agg (e.cells A n c)) ∧ n ≤ c ∧ RowsOwn w' w.heap.size A n c e.rows ∧ Ext w w'

set_option maxRecDepth 100000 in
set_option maxHeartbeats 2000000 in
theorem EClone_own (e : Ev) (A : Option Addr) (n c : Nat) (w : World) (he : EvAt w e A n c) :
    Calls Tryd.prog 43 #[.agg (e.cells A n c)] w (EOwnPost e n w) := by
  have hn24 := he.2.2
  have HE := Lib.hid he
  clear he
  have hx0 := ((Ext.refl w).alloc (.cells (e.cells A n c) 45)).alloc (.cells evZero 45)
  unfold Ev.cells evZero at hx0
  have HX0 := Lib.hid hx0
  clear hx0
  unfold Ev.cells
  go_enter Tryd.func43, Tryd.ntmps43
  go_wp2_with fail
  refine (SClone_own A n c e.rows _ (HE.out.1.ext HX0.out) hn24).mono ?_
  rintro en w1 ⟨A1, c1, rfl, hnc1, hrf, hx1⟩
  have HB0 := Lib.hid (Blk.ext ((Blk.new w 45 #[.int .i64 e.id, .int .i64 e.inn, .int .i64 e.out, .string e.region, .int .u8 e.kind, .string e.speaker, .slice A n c]).alloc _) hx1)
  have HB1 := Lib.hid (Blk.ext (Blk.new' (g := w.heap.size + 1) (by simp)) hx1)
  have hc0 := fun o => HB0.out.cell o
  have hf0 := fun o => HB0.out.frozen o
  have hset := fun u => setCell_put HB0.out 6 u
  have HRF := Lib.hid hrf
  clear hrf
  simp at hset
  go_wp2_with (first | (refine wpList_loadB rfl 45 (.tmp 1) rfl w.heap.size 45 _ _ (by exact rfl) (by exact HB0.out.put _) Tryd.underlying45 rfl (by exact size_event) ?_) | (refine wpList_storeB rfl 45 (.tmp 2) (.tmp 7) rfl (w.heap.size + 1) 45 _ _ (by exact rfl) (by exact rfl) (by exact HB1.out.put_other (by omega) _) (by exact rfl) (by exact size_event) (by simp [Value.oneCell']) ?_))
  refine bodyPost_ret (v := .agg (e.cells A1 n c1)) ?_ rfl ⟨A1, c1, rfl, hnc1, ?_, ?_⟩
  · exact results_B (P := Tryd.prog) Tryd.results43 (g := w.heap.size + 1) rfl (by exact (HB1.out.put_other (by omega) _).put _) Tryd.underlying45 rfl size_event
  · exact (RowsOwn.put (RowsOwn.put HRF.out HB0.out _ (by decide) (by decide)) (HB1.out.put_other (by omega) _) _ (by decide) (by decide)).le (by simp only [World.size_alloc]; omega)
  · exact (((HX0.out.trans hx1)).put (Nat.le_refl _) _ _).put (by omega) _ _

set_option maxRecDepth 100000 in
set_option maxHeartbeats 2000000 in
theorem REClone_own (e : Ev) (A : Option Addr) (n c : Nat) (w : World) (he : EvAt w e A n c) :
    Calls Tryd.prog 14 #[.agg (e.cells A n c)] w (EOwnPost e n w) := by
  have hn24 := he.2.2
  have HE := Lib.hid he
  clear he
  have hx0 := ((Ext.refl w).alloc (.cells (e.cells A n c) 45)).alloc (.cells evZero 45)
  unfold Ev.cells evZero at hx0
  have HX0 := Lib.hid hx0
  clear hx0
  unfold Ev.cells
  go_enter Tryd.func14, Tryd.ntmps14
  go_wp2_with fail
  refine (RClone_own A n c e.rows _ (HE.out.1.ext HX0.out) hn24).mono ?_
  rintro en w1 ⟨A1, c1, rfl, hnc1, hrf, hx1⟩
  have HB0 := Lib.hid (Blk.ext ((Blk.new w 45 #[.int .i64 e.id, .int .i64 e.inn, .int .i64 e.out, .string e.region, .int .u8 e.kind, .string e.speaker, .slice A n c]).alloc _) hx1)
  have HB1 := Lib.hid (Blk.ext (Blk.new' (g := w.heap.size + 1) (by simp)) hx1)
  have hc0 := fun o => HB0.out.cell o
  have hf0 := fun o => HB0.out.frozen o
  have hset := fun u => setCell_put HB0.out 6 u
  have HRF := Lib.hid hrf
  clear hrf
  simp at hset
  go_wp2_with (first | (refine wpList_loadB rfl 45 (.tmp 1) rfl w.heap.size 45 _ _ (by exact rfl) (by exact HB0.out.put _) Tryd.underlying45 rfl (by exact size_event) ?_) | (refine wpList_storeB rfl 45 (.tmp 2) (.tmp 7) rfl (w.heap.size + 1) 45 _ _ (by exact rfl) (by exact rfl) (by exact HB1.out.put_other (by omega) _) (by exact rfl) (by exact size_event) (by simp [Value.oneCell']) ?_))
  refine bodyPost_ret (v := .agg (e.cells A1 n c1)) ?_ rfl ⟨A1, c1, rfl, hnc1, ?_, ?_⟩
  · exact results_B (P := Tryd.prog) Tryd.results14 (g := w.heap.size + 1) rfl (by exact (HB1.out.put_other (by omega) _).put _) Tryd.underlying45 rfl size_event
  · exact (RowsOwn.put (RowsOwn.put HRF.out HB0.out _ (by decide) (by decide)) (HB1.out.put_other (by omega) _) _ (by decide) (by decide)).le (by simp only [World.size_alloc]; omega)
  · exact (((HX0.out.trans hx1)).put (Nat.le_refl _) _ _).put (by omega) _ _
theorem EClone_any (e : Ev) (A : Option Addr) (n c : Nat) (w : World) (he : EvAt w e A n c) : Calls Tryd.prog 43 #[.agg (e.cells A n c)] w (EClPost e n w) :=
  (EClone_own e A n c w he).mono fun _ _ ⟨A1, c1, h1, h2, h3, h4⟩ => ⟨A1, c1, h1, h2, h3.fresh, h4⟩
theorem REClone_any (e : Ev) (A : Option Addr) (n c : Nat) (w : World) (he : EvAt w e A n c) : Calls Tryd.prog 14 #[.agg (e.cells A n c)] w (EClPost e n w) :=
  (REClone_own e A n c w he).mono fun _ _ ⟨A1, c1, h1, h2, h3, h4⟩ => ⟨A1, c1, h1, h2, h3.fresh, h4⟩
end Go.Proofs.YtagfedbdakmlgaaDoor

/-! Evs -/
namespace Go.Proofs.YtagfedbdakmlgaaDoor
set_option linter.unusedVariables false
set_option linter.unusedSimpArgs false
open Go.RowKit

/-- the rows of elements of type T stay as they are -/
def KB (T : TypeId) (w w' : World) : Prop := ∀ (b : Nat) (cur : Array Value), w.heap[b]? = some (Obj.cells cur T (0, 0)) → w'.heap[b]? = some (Obj.cells cur T (0, 0))
section
variable {T T' : TypeId} {w w1 w2 : World} {L n : Nat} {A : Option Addr}
theorem KB.refl (w : World) : KB T w w := fun _ _ h => h
theorem KB.trans (h : KB T w w1) (k : KB T w1 w2) : KB T w w2 := fun b cur hb => k b cur (h b cur hb)
theorem KB.ext (k : Ext w w1) : KB T w w1 := fun b _ hb => (k.block b (Array.getElem?_eq_some_iff.1 hb).1).trans hb
theorem KB.put {g : Nat} {cs cs' : Array Value} (hB : Blk w g T' cs) (hne : T ≠ T') : KB T w (putB w g T' cs') := fun b cur hb => by
  have hn : g ≠ b := (Typed.ne ⟨cur, hb⟩ hB.typed hne).symm
  unfold putB
  simp only
  rw [Array.getElem?_setIfInBounds_ne hn]
  exact hb
theorem KB.set {p : Addr} {u : Value} (hT : Typed w T' p.block) (hne : T ≠ T') : KB T w (w.setCell p u) := fun b cur hb => by
  have hn : b ≠ p.block := Typed.ne ⟨cur, hb⟩ hT hne
  rw [RowKit.Below.heap_setCell _ _ _ _ hn]
  exact hb
theorem KB.sets {g : Nat} (hne : T ≠ T') : ∀ (vs : List Value) (o : Nat) (w : World), Typed w T' g → KB T w (w.setCells g o vs)
  | [], _, w, _ => KB.refl w
  | v :: vs, o, w, h => (KB.set (p := ⟨g, o, none⟩) h hne).trans (KB.sets hne vs (o + 1) _ (h.setCell _ _))
theorem KB.grown {row : Option Nat} (hg : w.grownBy w1 row) (hr : ∀ q, row = some q → Typed w T' q) (hne : T ≠ T') : KB T w w1 := fun b cur hb => by
  refine (hg.block b (Array.getElem?_eq_some_iff.1 hb).1 (fun e => ?_)).trans hb
  exact Typed.ne ⟨cur, hb⟩ (hr b e.symm) hne rfl
theorem KB.turned {b : Nat} (h : w.mapTurned w1 b) : KB T w w1 := fun c cur hc => by
  obtain ⟨es, cl, es', cl', hb, rfl⟩ := h
  have hn : b ≠ c := fun e => by subst e; rw [hb] at hc; cases hc
  show (w.heap.setIfInBounds b _)[c]? = _
  rw [Array.getElem?_setIfInBounds_ne hn]
  exact hc
theorem Typed.kb (h : Typed w T n) (k : KB T w w1) : Typed w1 T n := h.elim fun cur hb => ⟨cur, k _ _ hb⟩
theorem Typed.sets {g b : Nat} : ∀ (vs : List Value) (o : Nat) (w : World), Typed w T b → Typed (w.setCells g o vs) T b
  | [], _, _, h => h
  | v :: vs, o, w, h => Typed.sets vs (o + 1) _ (h.setCell _ _)
theorem Typed.cell_kb (h : Typed w T n) (k : KB T w w1) (o : Nat) : w1.cell? ⟨n, o, none⟩ = w.cell? ⟨n, o, none⟩ := by
  obtain ⟨cur, hb⟩ := h
  simp [World.cell?, hb, k _ _ hb]
theorem Fresh.kb (h : Fresh w T L A) (k : KB T w w1) : Fresh w1 T L A := fun ad e => ⟨(h ad e).1, (h ad e).2.kb k⟩
theorem own_kb {size : Nat} {v : Value} {xs : List Value} (h : w.ownsRow L T size v n xs) (k : KB T w w1) : w1.ownsRow L T size v n xs := by
  refine ⟨h.1, ?_⟩
  rcases h.2 with hn | ⟨g, cap, cur, rfl, hb, hg, rest⟩
  · exact .inl hn
  · exact .inr ⟨g, cap, cur, rfl, hb, k _ _ hg, rest⟩
end
theorem RowsFresh.kb {w w1 : World} {L : Nat} {A : Option Addr} {n : Nat} {l : List Row} (h : RowsFresh w L A n l) (k1 : KB 61 w w1) (k2 : KB 66 w w1) : RowsFresh w1 L A n l := by
  obtain ⟨hs, a1, a2, a3, a4, a5⟩ := h
  refine ⟨hs, Sl.keep a1 fun _ b off hA o x hx j u hu => ?_, fun i hd r a b => ?_, a3, a4.kb k1, fun x hx => (a5 x hx).kb k2⟩
  · rw [(a4 _ hA).2.cell_kb k1]; exact hx j u hu
  · have gd := a2 i hd r a b
    refine ⟨gd.1, gd.2.1, Sl.keep gd.2.2 fun _ b' off hA o x hx => ?_⟩
    have key : ∀ q v, w.cell? ⟨b', q, none⟩ = some v → w1.cell? ⟨b', q, none⟩ = some v := fun q v hv => by rw [((a5 hd (List.mem_of_getElem? a)) _ hA).2.cell_kb k2]; exact hv
    exact ⟨key _ _ hx.1, key _ _ hx.2.1, key _ _ hx.2.2.1, key _ _ hx.2.2.2.1, key _ _ hx.2.2.2.2⟩

/-! ### cells of rows of structs -/
theorem flat_set {α : Type} {f : α → List Value} {size : Nat} (hf : ∀ x, (f x).length = size) : ∀ (l : List α) (k j : Nat) (x y : α) (u : Value), l[k]? = some x → f y = (f x).set j u → j < size → (l.flatMap f).set (k * size + j) u = (l.set k y).flatMap f
  | [], k, j, x, y, u, h, _, _ => by simp at h
  | z :: l, 0, j, x, y, u, h, hy, hj => by
    simp at h; subst h
    rw [List.flatMap_cons, List.set_cons_zero, List.flatMap_cons, hy, Nat.zero_mul, Nat.zero_add, List.set_append, if_pos (by rw [hf]; exact hj)]
  | z :: l, k + 1, j, x, y, u, h, hy, hj => by
    have hz := hf z
    rw [List.flatMap_cons, List.set_cons_succ, List.flatMap_cons, List.set_append, if_neg (by rw [hz, Nat.add_mul]; omega), ← flat_set hf l k j x y u (by simpa using h) hy hj]
    congr 2
    rw [hz, Nat.add_mul]; omega
def setMany : List Value → Nat → List Value → List Value
  | xs, _, [] => xs
  | xs, j, v :: vs => setMany (xs.set j v) (j + 1) vs
theorem setMany_split : ∀ (vs pre old post : List Value), old.length = vs.length → setMany (pre ++ old ++ post) pre.length vs = pre ++ vs ++ post
  | [], pre, old, post, h => by
    obtain rfl : old = [] := List.eq_nil_of_length_eq_zero h
    rfl
  | v :: vs, pre, [], post, h => by simp at h
  | v :: vs, pre, o :: old, post, h => by
    have e : (pre ++ o :: old ++ post).set pre.length v = (pre ++ [v]) ++ old ++ post := by simp [List.set_append]
    have := setMany_split vs (pre ++ [v]) old post (by simpa using h)
    rw [List.length_append, List.length_singleton] at this
    rw [setMany, e, this]
    simp
theorem flat_setMany {α : Type} {f : α → List Value} {size : Nat} (hf : ∀ x, (f x).length = size) (l : List α) (k : Nat) (y : α) (hk : k < l.length) : setMany (l.flatMap f) (k * size) (f y) = (l.set k y).flatMap f := by
  have e1 : l = l.take k ++ l[k] :: l.drop (k + 1) := by rw [← List.drop_eq_getElem_cons hk, List.take_append_drop]
  have e2 : l.set k y = l.take k ++ y :: l.drop (k + 1) := by rw [List.set_eq_take_append_cons_drop, if_pos hk]
  have hl : ((l.take k).flatMap f).length = k * size := by rw [flatMap_len f size hf, List.length_take, Nat.min_eq_left (by omega)]
  rw [e2, List.flatMap_append, List.flatMap_cons]
  conv => lhs; rw [e1]
  rw [List.flatMap_append, List.flatMap_cons, ← hl, ← List.append_assoc, setMany_split _ _ _ _ (by rw [hf, hf]), List.append_assoc]
theorem own_sets {L size n cap g : Nat} {T : TypeId} : ∀ (vs : List Value) (j : Nat) (w : World) (xs : List Value), w.ownsRow L T size (.slice (some ⟨g, 0, none⟩) n cap) n xs →
    (w.setCells g j vs).ownsRow L T size (.slice (some ⟨g, 0, none⟩) n cap) n (setMany xs j vs)
  | [], _, _, _, h => h
  | v :: vs, j, w, xs, h => own_sets vs (j + 1) _ _ (h.stored j v).1
theorem ext_sets {w0 : World} {g : Nat} (hg : w0.heap.size ≤ g) : ∀ (vs : List Value) (j : Nat) (w : World), Ext w0 w → Ext w0 (w.setCells g j vs)
  | [], _, _, h => h
  | v :: vs, j, w, h => ext_sets hg vs (j + 1) _ (h.setCell hg v)

/-! ### heads of events -/
structure EH where
  id : Int
  inn : Int
  out : Int
  region : ByteArray
  kind : Int
  speaker : ByteArray
  A : Option Addr
  n : Nat
  c : Nat
def EH.vals (h : EH) : List Value := [.int .i64 h.id, .int .i64 h.inn, .int .i64 h.out, .string h.region, .int .u8 h.kind, .string h.speaker, .slice h.A h.n h.c]
def EH.of (e : Ev) (A : Option Addr) (n c : Nat) : EH := ⟨e.id, e.inn, e.out, e.region, e.kind, e.speaker, A, n, c⟩
theorem EH.of_vals (e : Ev) (A : Option Addr) (n c : Nat) : (EH.of e A n c).vals = (e.cells A n c).toList := rfl
theorem EH.len (h : EH) : h.vals.length = 7 := rfl
def Reg.vals (r : Reg) : List Value := [.string r.name, .int .i64 r.top, .int .i64 r.height, .int .i64 r.left, .int .i64 r.width, .int .u8 r.align, .bool r.bottom]
/-- the head is an event's, its rows lie from L on -/
def EGood (w : World) (L : Nat) (h : EH) (e : Ev) : Prop := h = EH.of e h.A h.n h.c ∧ h.n ≤ h.c ∧ h.n * 24 ≤ 140737488355328 ∧ RowsFresh w L h.A h.n e.rows
theorem EGood.kb {w w1 : World} {L : Nat} {h : EH} {e : Ev} (g : EGood w L h e) (k1 : KB 61 w w1) (k2 : KB 66 w w1) : EGood w1 L h e := ⟨g.1, g.2.1, g.2.2.1, g.2.2.2.kb k1 k2⟩
theorem EGood.ext {w w1 : World} {L : Nat} {h : EH} {e : Ev} (g : EGood w L h e) (k : Ext w w1) : EGood w1 L h e := g.kb (KB.ext k) (KB.ext k)
theorem EGood.le {w : World} {L L' : Nat} {h : EH} {e : Ev} (g : EGood w L h e) (hl : L' ≤ L) : EGood w L' h e := ⟨g.1, g.2.1, g.2.2.1, g.2.2.2.le hl⟩
theorem EGood.at_ {w : World} {L : Nat} {h : EH} {e : Ev} (g : EGood w L h e) : EvAt w e h.A h.n h.c := ⟨g.2.2.2.rows, g.2.1, g.2.2.1⟩
/-- events whose heads lie in a row of their own, from L on -/
def EvsOwn (w : World) (L : Nat) (v : Value) (n : Nat) (l : List Ev) : Prop :=
  ∃ hs : List EH, w.ownsRow L 45 7 v n (hs.flatMap EH.vals) ∧ hs.length = n ∧ l.length = n ∧ ∀ (i : Nat) (h : EH) (e : Ev), hs[i]? = some h → l[i]? = some e → EGood w L h e
section
variable {w w1 : World} {L L' n c : Nat} {A : Option Addr} {v : Value} {l : List Ev}
theorem EvsOwn.ext (h : EvsOwn w L v n l) (k : Ext w w1) : EvsOwn w1 L v n l := by
  obtain ⟨hs, h1, h2, h3, h4⟩ := h
  exact ⟨hs, own_ext h1 k, h2, h3, fun i x e a b => (h4 i x e a b).ext k⟩
theorem EvsOwn.kb (h : EvsOwn w L v n l) (k0 : KB 45 w w1) (k1 : KB 61 w w1) (k2 : KB 66 w w1) : EvsOwn w1 L v n l := by
  obtain ⟨hs, h1, h2, h3, h4⟩ := h
  exact ⟨hs, own_kb h1 k0, h2, h3, fun i x e a b => (h4 i x e a b).kb k1 k2⟩
theorem EvsOwn.le (h : EvsOwn w L v n l) (hl : L' ≤ L) : EvsOwn w L' v n l := by
  obtain ⟨hs, h1, h2, h3, h4⟩ := h
  exact ⟨hs, own_le h1 hl, h2, h3, fun i x e a b => (h4 i x e a b).le hl⟩
theorem EvsOwn.len (h : EvsOwn w L v n l) : l.length = n := h.elim fun _ h => h.2.2.1
theorem EvsOwn.nil (w : World) (L : Nat) : EvsOwn w L (.slice none 0 0) 0 [] := ⟨[], ⟨rfl, .inl ⟨rfl, rfl⟩⟩, rfl, rfl, fun i x e a _ => by simp at a⟩
theorem EvsOwn.at_ (h : EvsOwn w L v n l) : ∃ A c, v = .slice A n c ∧ n ≤ c ∧ c ≤ maxLen ∧ EvsAt w A n l := by
  obtain ⟨hs, h1, h2, h3, h4⟩ := h
  obtain ⟨A, c, hv, hc, hm, hsl, _⟩ := own_sl (f := EH.vals) (size := 7) EH.len h2 h1
  refine ⟨A, c, hv, hc, hm, h3, fun hn => ?_⟩
  obtain ⟨b, off, hA, hcs⟩ := hsl.2 hn
  refine ⟨b, off, hA, fun i e he => ?_⟩
  have hi : i < hs.length := by rw [h2, ← h3]; exact (List.getElem?_eq_some_iff.1 he).1
  have hx : hs[i]? = some hs[i] := List.getElem?_eq_getElem hi
  have g := h4 i _ e hx he
  refine ⟨hs[i].A, hs[i].n, hs[i].c, fun j u hu => ?_, g.at_⟩
  refine hcs i _ hx j u ?_
  rw [g.1, EH.of_vals]
  exact hu
theorem EvsOwn.evs (h : EvsOwn w L (.slice A n c) n l) : EvsAt w A n l := by
  obtain ⟨A', c', hv, _, _, h1⟩ := h.at_
  cases hv
  exact h1
/-- the head at a place is set anew -/
theorem EvsOwn.set {g k : Nat} {e : Ev} {A' : Option Addr} {n' c' : Nat} (h : EvsOwn w L (.slice (some ⟨g, 0, none⟩) n c) n l) (hk : k < n) (hL : L ≤ g) (hg : EGood w L (EH.of e A' n' c') e) :
    EvsOwn (w.setCells g (k * 7) (e.cells A' n' c').toList) L (.slice (some ⟨g, 0, none⟩) n c) n (l.set k e) := by
  obtain ⟨hs, h1, h2, h3, h4⟩ := h
  have hty : Typed w 45 g := own_typed h1 g rfl
  refine ⟨hs.set k (EH.of e A' n' c'), ?_, by simpa using h2, by simpa using h3, fun i x y hx hy => ?_⟩
  · rw [← flat_setMany EH.len hs k (EH.of e A' n' c') (by omega)]
    exact own_sets _ _ _ _ h1
  · have k1 : KB 61 w (w.setCells g (k * 7) (e.cells A' n' c').toList) := KB.sets (T' := 45) (by decide) _ _ _ hty
    have k2 : KB 66 w (w.setCells g (k * 7) (e.cells A' n' c').toList) := KB.sets (T' := 45) (by decide) _ _ _ hty
    by_cases hik : k = i
    · subst hik
      rw [List.getElem?_set_self (by omega)] at hx hy
      cases hx
      cases hy
      exact hg.kb k1 k2
    · rw [List.getElem?_set_ne hik] at hx hy
      exact (h4 i x y hx hy).kb k1 k2
/-- an event is appended -/
theorem EvsOwn.snoc {k : Nat} {e : Ev} {v' : Value} {A' : Option Addr} {n' c' : Nat} (h : EvsOwn w L v k l) (hg : EGood w L (EH.of e A' n' c') e) (hgr : w.grownBy w1 v.ownBlock)
    (hO : ∀ xs, w.ownsRow L 45 7 v k xs → w1.ownsRow L 45 7 v' (k + 1) (xs ++ (e.cells A' n' c').toList)) : EvsOwn w1 L v' (k + 1) (l ++ [e]) := by
  obtain ⟨hs, h1, h2, h3, h4⟩ := h
  have hty : ∀ q, v.ownBlock = some q → Typed w 45 q := own_typed h1
  have k1 : KB 61 w w1 := KB.grown hgr hty (by decide)
  have k2 : KB 66 w w1 := KB.grown hgr hty (by decide)
  refine ⟨hs ++ [EH.of e A' n' c'], ?_, by simp [h2], by simp [h3], fun i x y hx hy => ?_⟩
  · rw [List.flatMap_append]
    have := hO _ h1
    simpa [EH.of_vals] using this
  · by_cases hik : i < k
    · rw [List.getElem?_append_left (by omega)] at hx hy
      exact (h4 i x y hx hy).kb k1 k2
    · have hik' : i = k := by
        have := (List.getElem?_eq_some_iff.1 hx).1
        simp [h2] at this
        omega
      subst hik'
      rw [List.getElem?_append_right (by omega)] at hx hy
      simp only [h2, h3, Nat.sub_self, List.getElem?_cons_zero, Option.some.injEq] at hx hy
      subst hx hy
      exact hg.kb k1 k2
end

/-! ### documents of one's own -/
structure DocOwn (w : World) (L : Nat) (d : Doc) (h : DocH) : Prop where
  regs : w.ownsRow L 58 7 (.slice h.ra h.rn h.rc) h.rn (d.regs.flatMap Reg.vals)
  rlen : d.regs.length = h.rn
  evs : EvsOwn w L (.slice h.ea h.en h.ec) h.en d.evs
  coms : w.ownsRow L 31 8 (.slice h.ca h.cn h.cc) h.cn (d.coms.flatMap Com.vals)
  clen : d.coms.length = h.cn
theorem DocOwn.ext {w w1 : World} {L : Nat} {d : Doc} {h : DocH} (o : DocOwn w L d h) (k : Ext w w1) : DocOwn w1 L d h := ⟨own_ext o.regs k, o.rlen, o.evs.ext k, own_ext o.coms k, o.clen⟩
theorem DocOwn.kb {w w1 : World} {L : Nat} {d : Doc} {h : DocH} (o : DocOwn w L d h) (k1 : KB 58 w w1) (k2 : KB 45 w w1) (k3 : KB 61 w w1) (k4 : KB 66 w w1) (k5 : KB 31 w w1) : DocOwn w1 L d h :=
  ⟨own_kb o.regs k1, o.rlen, o.evs.kb k2 k3 k4, own_kb o.coms k5, o.clen⟩
theorem DocOwn.put {w : World} {L : Nat} {d : Doc} {h : DocH} (o : DocOwn w L d h) {g : Nat} {cs : Array Value} (hB : Blk w g 39 cs) (cs' : Array Value) : DocOwn (putB w g 39 cs') L d h :=
  o.kb (KB.put hB (by decide)) (KB.put hB (by decide)) (KB.put hB (by decide)) (KB.put hB (by decide)) (KB.put hB (by decide))
theorem DocOwn.le {w : World} {L L' : Nat} {d : Doc} {h : DocH} (o : DocOwn w L d h) (hl : L' ≤ L) : DocOwn w L' d h := ⟨own_le o.regs hl, o.rlen, o.evs.le hl, own_le o.coms hl, o.clen⟩
theorem regC_cells {w : World} {b o : Nat} {r : Reg} (h : Cells Reg.vals w b o r) : RegC w b o r := ⟨h 0 _ rfl, h 1 _ rfl, h 2 _ rfl, h 3 _ rfl, h 4 _ rfl, h 5 _ rfl, h 6 _ rfl⟩
theorem cells_regC {w : World} {b o : Nat} {r : Reg} (h : RegC w b o r) : Cells Reg.vals w b o r := by
  obtain ⟨h0, h1, h2, h3, h4, h5, h6⟩ := h
  intro j u hu
  match j, hu with
  | 0, hu => simp [Reg.vals] at hu; subst hu; exact h0
  | 1, hu => simp [Reg.vals] at hu; subst hu; exact h1
  | 2, hu => simp [Reg.vals] at hu; subst hu; exact h2
  | 3, hu => simp [Reg.vals] at hu; subst hu; exact h3
  | 4, hu => simp [Reg.vals] at hu; subst hu; exact h4
  | 5, hu => simp [Reg.vals] at hu; subst hu; exact h5
  | 6, hu => simp [Reg.vals] at hu; subst hu; exact h6
  | j + 7, hu => simp [Reg.vals] at hu
theorem own_slice {α : Type} {f : α → List Value} {size : Nat} (hf : ∀ x, (f x).length = size) {w : World} {base : Nat} {e : TypeId} {A : Option Addr} {c n : Nat} {l : List α} (hl : l.length = n)
    (h : w.ownsRow base e size (.slice A n c) n (l.flatMap f)) : n ≤ c ∧ c ≤ maxLen ∧ Sl w size (Cells f) A n l := by
  obtain ⟨A', c', hv, h1, h2, h3, _⟩ := own_sl hf hl h
  cases hv
  exact ⟨h1, h2, h3⟩
theorem DocOwn.at_ {w : World} {L : Nat} {d : Doc} {h : DocH} (o : DocOwn w L d h) : DocAt w d h :=
  ⟨Sl.change (own_slice (f := Reg.vals) (fun _ => rfl) o.rlen o.regs).2.2 fun _ _ _ => regC_cells, o.evs.evs, (own_slice (f := Com.vals) (fun _ => rfl) o.clen o.coms).2.2⟩
end Go.Proofs.YtagfedbdakmlgaaDoor
