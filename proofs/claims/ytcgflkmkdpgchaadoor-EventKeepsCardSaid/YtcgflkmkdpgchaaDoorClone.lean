/- Copies of rows: slices.Clone, style.Clone. -/
import Derived.Test.YtcgflkmkdpgchaaDoorOwn
import Derived.Lib.SliceRun
namespace Go.Proofs.YtcgflkmkdpgchaaDoor
set_option linter.unusedVariables false
set_option linter.unusedSimpArgs false
open Go.RowKit

/-- an address from block L on, in a row of elements of type T -/
def Fresh (w : World) (T : TypeId) (L : Nat) (A : Option Addr) : Prop := ∀ ad, A = some ad → L ≤ ad.block ∧ Typed w T ad.block
theorem Fresh.le {w : World} {T : TypeId} {L L' : Nat} {A : Option Addr} (h : Fresh w T L A) (hl : L' ≤ L) : Fresh w T L' A := fun ad e => ⟨Nat.le_trans hl (h ad e).1, (h ad e).2⟩
theorem Fresh.ext {w w1 : World} {T : TypeId} {L : Nat} {A : Option Addr} (h : Fresh w T L A) (k : Ext w w1) : Fresh w1 T L A := fun ad e => ⟨(h ad e).1, (h ad e).2.ext k⟩
theorem Fresh.setCell {w : World} {T : TypeId} {L : Nat} {A : Option Addr} (h : Fresh w T L A) (p : Addr) (u : Value) : Fresh (w.setCell p u) T L A := fun ad e => ⟨(h ad e).1, (h ad e).2.setCell p u⟩
theorem Fresh.grown {w w1 : World} {T T' : TypeId} {L : Nat} {A : Option Addr} {row : Option Nat} (h : Fresh w T L A) (hg : w.grownBy w1 row) (hr : ∀ q, row = some q → Typed w T' q) (hne : T ≠ T') : Fresh w1 T L A := fun ad e => ⟨(h ad e).1, (h ad e).2.grown hg hr hne⟩
theorem Fresh.put {w : World} {T t : TypeId} {L g : Nat} {A : Option Addr} {cs : Array Value} (h : Fresh w T L A) (hB : Blk w g t cs) (cs' : Array Value) (hne : T ≠ t) : Fresh (putB w g t cs') T L A := fun ad e => ⟨(h ad e).1, (h ad e).2.put hB cs' hne⟩
theorem Fresh.of_own {w : World} {base : Nat} {e : TypeId} {size n m c : Nat} {A : Option Addr} {xs : List Value} (h : w.ownsRow base e size (.slice A m c) n xs) : Fresh w e base A := fun ad hA => by
  subst hA
  exact ⟨own_lt h _ rfl, own_typed h _ rfl⟩

def Run.cells (r : Run) : List Value := [.string r.text, .int .u8 r.color, .bool r.italic, .bool r.under, .string r.ruby]
theorem runC_cells {w : World} {b o : Nat} {r : Run} (h : RunC w b o r) : Cells Run.cells w b o r := by
  obtain ⟨h0, h1, h2, h3, h4⟩ := h
  intro j u hu
  match j, hu with
  | 0, hu => simp [Run.cells] at hu; subst hu; exact h0
  | 1, hu => simp [Run.cells] at hu; subst hu; exact h1
  | 2, hu => simp [Run.cells] at hu; subst hu; exact h2
  | 3, hu => simp [Run.cells] at hu; subst hu; exact h3
  | 4, hu => simp [Run.cells] at hu; subst hu; exact h4
  | j + 5, hu => simp [Run.cells] at hu
theorem cells_runC {w : World} {b o : Nat} {r : Run} (h : Cells Run.cells w b o r) : RunC w b o r := ⟨h 0 _ rfl, h 1 _ rfl, h 2 _ rfl, h 3 _ rfl, h 4 _ rfl⟩
theorem Sl.change {α : Type} {C D : World → Nat → Nat → α → Prop} {w : World} {size n : Nat} {A : Option Addr} {l : List α} (h : Sl w size C A n l) (hcd : ∀ b o x, C w b o x → D w b o x) : Sl w size D A n l :=
  ⟨h.1, fun hn => (h.2 hn).elim fun b hb => hb.elim fun off ho => ⟨b, off, ho.1, fun i x hx => hcd _ _ _ (ho.2 i x hx)⟩⟩
theorem RunsAt.cells {w : World} {A : Option Addr} {n : Nat} {l : Row} (h : RunsAt w A n l) : Sl w 5 (Cells Run.cells) A n l := Sl.change h fun _ _ _ => runC_cells
theorem RunsAt.of_cells {w : World} {A : Option Addr} {n : Nat} {l : Row} (h : Sl w 5 (Cells Run.cells) A n l) : RunsAt w A n l := Sl.change h fun _ _ _ => cells_runC

theorem info_run : (Tryd.prog.info? 48).map (fun i => (i.zero, i.size, i.bytes)) = some (some (.agg #[.string ⟨#[]⟩, .int .u8 0, .bool false, .bool false, .string ⟨#[]⟩]), 5, 40) := by kernel_rfl
theorem info_row : (Tryd.prog.info? 43).map (fun i => (i.zero, i.size, i.bytes)) = some (some (.agg #[.slice none 0 0]), 1, 24) := by kernel_rfl

def CloneRunsPost (l : Row) (n : Nat) (w : World) (e : Ending) (w' : World) : Prop :=
  ∃ A c, e = .returned (.slice A n c) ∧ n ≤ c ∧ RunsAt w' A n l ∧ Fresh w' 48 w.heap.size A ∧ Ext w w'

theorem own_nil0 (w : World) (e : TypeId) (size base : Nat) (hb : base ≤ w.heap.size) : (w.alloc (.cells #[] e)).ownsRow base e size (.slice (some ⟨w.heap.size, 0, none⟩) 0 0) 0 [] :=
  ⟨by simp, .inr ⟨w.heap.size, 0, #[], rfl, hb, Blk.new w e #[], Nat.le_refl _, by simp [maxLen], by simp, by simp⟩⟩

theorem own_nil0' {w : World} {e : TypeId} {size base g : Nat} (hg : g = w.heap.size) (hb : base ≤ g) : (w.alloc (.cells #[] e)).ownsRow base e size (.slice (some ⟨g, 0, none⟩) 0 0) 0 [] := by
  subst hg
  exact own_nil0 w e size base hb

set_option maxHeartbeats 1000000 in
theorem CloneRuns_any (A : Option Addr) (n c : Nat) (l : Row) (w : World) (hl : RunsAt w A n l) (hn : n * 40 ≤ 140737488355328) :
    Calls Tryd.prog 43 #[.slice A n c] w (CloneRunsPost l n w) := by
  have hq := fun w => Lib.run_eql_slice_nil (P := Tryd.prog) w 41 48 A n c 0 0 Tryd.underlying41
  have HL := Lib.hid hl
  clear hl
  cases A with
  | none =>
    have hn0 : n = 0 := by
      rcases Nat.eq_zero_or_pos n with h | h
      · exact h
      · obtain ⟨_, _, h, _⟩ := HL.out.2 h; cases h
    subst hn0
    simp only [Option.isNone_none] at hq
    go_enter Tryd.func43, Tryd.ntmps43
    go_wp2_with fail
    go_ret
    exact ⟨none, 0, rfl, Nat.le_refl _, HL.out, (fun _ h => by cases h), Ext.refl _⟩
  | some ad =>
    simp only [Option.isNone_some] at hq
    go_enter Tryd.func43, Tryd.ntmps43
    go_wp2_with (at_builtin; refine wpList_appendS rfl (.tmp 5) (.tmp 6) 41 rfl info_run Tryd.underlying41 rfl (by decide) (by exact own_nil0 w _ _ w.heap.size (Nat.le_refl _)) (by exact rfl) (by exact rfl) (by exact Sl.ext (Cells.stays _) HL.out.cells ((Ext.refl w).alloc _)) (fun _ => rfl) (by intro r u hu; simp [Run.cells] at hu; rcases hu with rfl | rfl | rfl | rfl | rfl <;> rfl) (by omega) (by simp [maxLen]; omega) (by simp) ?_; intro v' w' hown hgr hnil)
    go_ret
    simp only [Nat.zero_add, List.nil_append] at hown
    obtain ⟨A', c', rfl, hc, _, hsl, hfr⟩ := own_sl (f := Run.cells) (size := 5) (fun _ => rfl) HL.out.len hown
    exact ⟨A', c', rfl, hc, RunsAt.of_cells hsl, Fresh.of_own hown, ((Ext.refl w).alloc _).grown hgr (fun q hq => by simp [Value.ownBlock] at hq; omega)⟩

/-- the header of a slice -/
abbrev Hd := Option Addr × Nat × Nat
def Hd.val (h : Hd) : Value := .slice h.1 h.2.1 h.2.2
def Good (w : World) (h : Hd) (r : Row) : Prop := h.2.1 ≤ h.2.2 ∧ h.2.1 * 40 ≤ 140737488355328 ∧ RunsAt w h.1 h.2.1 r
theorem Good.ext {w w1 : World} {h : Hd} {r : Row} (g : Good w h r) (k : Ext w w1) : Good w1 h r := ⟨g.1, g.2.1, g.2.2.ext k⟩
def Goods (w : World) (hs : List Hd) (l : List Row) : Prop := ∀ (i : Nat) (h : Hd) (r : Row), hs[i]? = some h → l[i]? = some r → Good w h r
def HdsAt (w : World) (A : Option Addr) (n : Nat) (hs : List Hd) : Prop := Sl w 1 (Cells fun h => [Hd.val h]) A n hs

theorem rows_heads {w : World} {A : Option Addr} {n : Nat} {l : List Row} (h : RowsAt w A n l) : ∃ hs : List Hd, HdsAt w A n hs ∧ Goods w hs l := by
  have hall : ∀ i : Nat, ∃ hd : Hd, i < n → (∀ b off, A = some ⟨b, off, none⟩ → w.cell? ⟨b, off + i, none⟩ = some (Hd.val hd)) ∧ ∀ r, l[i]? = some r → Good w hd r := by
    intro i
    by_cases hi : i < n
    · obtain ⟨b, off, r, hA, hr, A', n', c', h1, h2, h3, h4⟩ := h.at_ hi
      refine ⟨(A', n', c'), fun _ => ⟨fun b' off' hA' => ?_, fun r' hr' => ?_⟩⟩
      · rw [hA] at hA'
        cases hA'
        rw [Nat.mul_one] at h1
        exact h1
      · rw [hr] at hr'
        cases hr'
        exact ⟨h2, h3, h4⟩
    · exact ⟨(none, 0, 0), fun h => absurd h hi⟩
  obtain ⟨f, hf⟩ := Classical.axiomOfChoice hall
  refine ⟨(List.range n).map f, ⟨by simp, fun hn => ?_⟩, ?_⟩
  · obtain ⟨b, off, hA, _⟩ := h.2 hn
    refine ⟨b, off, hA, fun i x hx j u hu => ?_⟩
    have hi : i < n := by
      have := (List.getElem?_eq_some_iff.1 hx).1
      simpa using this
    have hx' : x = f i := by
      rw [List.getElem?_map, List.getElem?_range hi] at hx
      exact (Option.some.inj hx).symm
    match j, hu with
    | 0, hu =>
      have hu' : u = Hd.val x := (Option.some.inj hu).symm
      subst hu' hx'
      simpa using (hf i hi).1 b off hA
    | j + 1, hu => simp at hu
  · intro i hd r hh hr
    have hi : i < n := by
      have := (List.getElem?_eq_some_iff.1 hh).1
      simpa using this
    have hx' : hd = f i := by
      rw [List.getElem?_map, List.getElem?_range hi] at hh
      exact (Option.some.inj hh).symm
    subst hx'
    exact (hf i hi).2 r hr

theorem rows_of_heads {w : World} {A : Option Addr} {n : Nat} {l : List Row} {hs : List Hd} (h : HdsAt w A n hs) (hl : l.length = n) (hg : Goods w hs l) : RowsAt w A n l := by
  refine ⟨hl, fun hn => ?_⟩
  obtain ⟨b, off, hA, hc⟩ := h.2 hn
  refine ⟨b, off, hA, fun i r hr => ?_⟩
  have hi : i < hs.length := by
    rw [h.len, ← hl]
    exact (List.getElem?_eq_some_iff.1 hr).1
  have hx : hs[i]? = some hs[i] := List.getElem?_eq_getElem hi
  have g := hg i _ r hx hr
  exact ⟨_, _, _, hc i _ hx 0 _ rfl, g.1, g.2.1, g.2.2⟩

def CloneHdsPost (hs : List Hd) (n : Nat) (w : World) (e : Ending) (w' : World) : Prop :=
  ∃ A c, e = .returned (.slice A n c) ∧ w'.ownsRow w.heap.size 43 1 (.slice A n c) n (hs.flatMap fun h => [Hd.val h]) ∧ Ext w w'

set_option maxHeartbeats 1000000 in
theorem CloneHds_any (A : Option Addr) (n c : Nat) (hs : List Hd) (w : World) (hl : HdsAt w A n hs) (hn : n * 24 ≤ 140737488355328) :
    Calls Tryd.prog 42 #[.slice A n c] w (CloneHdsPost hs n w) := by
  have hq := fun w => Lib.run_eql_slice_nil (P := Tryd.prog) w 25 43 A n c 0 0 Tryd.underlying25
  have HL := Lib.hid hl
  clear hl
  cases A with
  | none =>
    have hn0 : n = 0 := by
      rcases Nat.eq_zero_or_pos n with h | h
      · exact h
      · obtain ⟨_, _, h, _⟩ := HL.out.2 h; cases h
    subst hn0
    have hs0 : hs = [] := List.eq_nil_of_length_eq_zero HL.out.len
    subst hs0
    simp only [Option.isNone_none] at hq
    go_enter Tryd.func42, Tryd.ntmps42
    go_wp2_with fail
    go_ret
    exact ⟨none, 0, rfl, ⟨rfl, .inl ⟨rfl, rfl⟩⟩, Ext.refl _⟩
  | some ad =>
    simp only [Option.isNone_some] at hq
    go_enter Tryd.func42, Tryd.ntmps42
    go_wp2_with (at_builtin; refine wpList_appendS rfl (.tmp 5) (.tmp 6) 25 rfl info_row Tryd.underlying25 rfl (by decide) (by exact own_nil0 w _ _ w.heap.size (Nat.le_refl _)) (by exact rfl) (by exact rfl) (by exact Sl.ext (Cells.stays _) HL.out ((Ext.refl w).alloc _)) (fun _ => rfl) (by intro r u hu; simp at hu; subst hu; rfl) (by omega) (by simp [maxLen]; omega) (by simp) ?_; intro v' w' hown hgr hnil)
    go_ret
    simp only [Nat.zero_add, List.nil_append] at hown
    obtain ⟨A', c', rfl, hc, _, hsl, hfr⟩ := own_sl (f := fun h : Hd => [Hd.val h]) (size := 1) (fun _ => rfl) HL.out.len hown
    exact ⟨A', c', rfl, hown, ((Ext.refl w).alloc _).grown hgr (fun q hq => by simp [Value.ownBlock] at hq; omega)⟩

/-- rows whose memory lies from block L on -/
def RowsFresh (w : World) (L : Nat) (A : Option Addr) (n : Nat) (l : List Row) : Prop :=
  ∃ hs : List Hd, HdsAt w A n hs ∧ Goods w hs l ∧ l.length = n ∧ Fresh w 43 L A ∧ ∀ h ∈ hs, Fresh w 48 L h.1
theorem RowsFresh.rows {w : World} {L : Nat} {A : Option Addr} {n : Nat} {l : List Row} (h : RowsFresh w L A n l) : RowsAt w A n l := by
  obtain ⟨hs, h1, h2, h3, _⟩ := h
  exact rows_of_heads h1 h3 h2
theorem RowsFresh.ext {w w1 : World} {L : Nat} {A : Option Addr} {n : Nat} {l : List Row} (h : RowsFresh w L A n l) (k : Ext w w1) : RowsFresh w1 L A n l := by
  obtain ⟨hs, h1, h2, h3, h4, h5⟩ := h
  exact ⟨hs, Sl.ext (Cells.stays _) h1 k, fun i hd r a b => (h2 i hd r a b).ext k, h3, h4.ext k, fun x hx => (h5 x hx).ext k⟩
theorem RowsFresh.le {w : World} {L L' : Nat} {A : Option Addr} {n : Nat} {l : List Row} (h : RowsFresh w L A n l) (hl : L' ≤ L) : RowsFresh w L' A n l := by
  obtain ⟨hs, h1, h2, h3, h4, h5⟩ := h
  exact ⟨hs, h1, h2, h3, h4.le hl, fun x hx => (h5 x hx).le hl⟩

/-- a header's memory is not in block g -/
def Apart (g : Nat) (h : Hd) : Prop := 0 < h.2.1 → ∀ ad, h.1 = some ad → ad.block ≠ g
theorem Sl.keep {α : Type} {C : World → Nat → Nat → α → Prop} {w w1 : World} {size n : Nat} {A : Option Addr} {l : List α} (h : Sl w size C A n l) (hk : 0 < n → ∀ b off, A = some ⟨b, off, none⟩ → ∀ o x, C w b o x → C w1 b o x) : Sl w1 size C A n l :=
  ⟨h.1, fun hn => (h.2 hn).elim fun b hb => hb.elim fun off ho => ⟨b, off, ho.1, fun i x hx => hk hn b off ho.1 _ _ (ho.2 i x hx)⟩⟩
theorem RunC.set {w : World} {b o : Nat} {r : Run} (h : RunC w b o r) {p : Addr} (hp : b ≠ p.block) (u : Value) : RunC (w.setCell p u) b o r := by
  have key : ∀ q v, w.cell? ⟨b, q, none⟩ = some v → (w.setCell p u).cell? ⟨b, q, none⟩ = some v := fun q v hv => by
    rw [World.cell?_setCell_other w p ⟨b, q, none⟩ u (fun e => hp (by rw [e]))]; exact hv
  exact ⟨key _ _ h.1, key _ _ h.2.1, key _ _ h.2.2.1, key _ _ h.2.2.2.1, key _ _ h.2.2.2.2⟩
theorem Good.set {w : World} {h : Hd} {r : Row} (g : Good w h r) {p : Addr} (hp : Apart p.block h) (u : Value) : Good (w.setCell p u) h r :=
  ⟨g.1, g.2.1, Sl.keep g.2.2 fun hn b off hA o x hx => hx.set (hp hn _ hA) u⟩

/-- rows whose memory lies from block L on, in a block of their own -/
def RowsOwn (w : World) (L : Nat) (A : Option Addr) (n c : Nat) (l : List Row) : Prop :=
  ∃ hs : List Hd, w.ownsRow L 43 1 (.slice A n c) n (hs.flatMap fun h => [Hd.val h]) ∧ hs.length = n ∧ Goods w hs l ∧ l.length = n ∧ ∀ h ∈ hs, Fresh w 48 L h.1
theorem RowsOwn.fresh {w : World} {L : Nat} {A : Option Addr} {n c : Nat} {l : List Row} (h : RowsOwn w L A n c l) : RowsFresh w L A n l := by
  obtain ⟨hs, h1, h2, h3, h4, h5⟩ := h
  obtain ⟨A', c', hv, _, _, hsl, _⟩ := own_sl (f := fun h : Hd => [Hd.val h]) (size := 1) (fun _ => rfl) h2 h1
  injection hv with e1 e2 e3
  subst e1 e3
  exact ⟨hs, hsl, h3, h4, Fresh.of_own h1, h5⟩
theorem RowsOwn.ext {w w1 : World} {L : Nat} {A : Option Addr} {n c : Nat} {l : List Row} (h : RowsOwn w L A n c l) (k : Ext w w1) : RowsOwn w1 L A n c l := by
  obtain ⟨hs, h1, h2, h3, h4, h5⟩ := h
  exact ⟨hs, own_ext h1 k, h2, fun i hd r a b => (h3 i hd r a b).ext k, h4, fun x hx => (h5 x hx).ext k⟩
theorem own_le {w : World} {L L' : Nat} {e : TypeId} {size : Nat} {v : Value} {n : Nat} {xs : List Value} (h : w.ownsRow L e size v n xs) (hl : L' ≤ L) : w.ownsRow L' e size v n xs := by
  refine ⟨h.1, ?_⟩
  rcases h.2 with hn | ⟨g, cap, cur, rfl, hb, rest⟩
  · exact .inl hn
  · exact .inr ⟨g, cap, cur, rfl, Nat.le_trans hl hb, rest⟩
theorem RowsOwn.le {w : World} {L L' : Nat} {A : Option Addr} {n c : Nat} {l : List Row} (h : RowsOwn w L A n c l) (hl : L' ≤ L) : RowsOwn w L' A n c l := by
  obtain ⟨hs, h1, h2, h3, h4, h5⟩ := h
  exact ⟨hs, own_le h1 hl, h2, h3, h4, fun x hx => (h5 x hx).le hl⟩
def SOwnPost (rows : List Row) (n : Nat) (w : World) (e : Ending) (w' : World) : Prop :=
  ∃ A c, e = .returned (.slice A n c) ∧ n ≤ c ∧ RowsOwn w' w.heap.size A n c rows ∧ Ext w w'

def SCloneRel (w : World) (rows : List Row) (A : Option Addr) (n c : Nat) (i : Value) (wr : World) : Prop :=
  ∃ (k : Nat) (hs : List Hd), k ≤ n ∧ i = .int .i64 k ∧ hs.length = n ∧ wr.ownsRow w.heap.size 43 1 (.slice A n c) n (hs.flatMap fun h => [Hd.val h]) ∧ Ext w wr ∧ Goods wr hs rows ∧
    (∀ ad, A = some ad → ∀ h ∈ hs, Apart ad.block h) ∧ (∀ j h, j < k → hs[j]? = some h → Fresh wr 48 w.heap.size h.1)

theorem flatMap_set (hs : List Hd) (k : Nat) (h : Hd) : (hs.set k h).flatMap (fun h => [Hd.val h]) = (hs.flatMap fun h => [Hd.val h]).set k (Hd.val h) := by
  have e : ∀ l : List Hd, (l.flatMap fun h => [Hd.val h]) = l.map Hd.val := fun l => by induction l <;> simp_all
  rw [e, e, List.map_set]

def SClonePost (rows : List Row) (n : Nat) (w : World) (e : Ending) (w' : World) : Prop :=
  ∃ A c, e = .returned (.slice A n c) ∧ n ≤ c ∧ RowsFresh w' w.heap.size A n rows ∧ Ext w w'

theorem sclone_step {w wr w2 : World} {rows : List Row} {n c g k : Nat} {hs : List Hd} {hd : Hd} {r : Row} {A2 : Option Addr} {c2 : Nat} (hlt : k < n) (hx : Ext w wr) (hx2 : Ext wr w2) (hsl : hs.length = n)
    (hO : wr.ownsRow w.heap.size 43 1 (.slice (some ⟨g, 0, none⟩) n c) n (hs.flatMap fun h => [Hd.val h])) (hgb : w.heap.size ≤ g) (hglt : g < wr.heap.size) (hG : Goods wr hs rows)
    (hA : ∀ h ∈ hs, Apart g h) (hF : ∀ (j : Nat) (h : Hd), j < k → hs[j]? = some h → Fresh wr 48 w.heap.size h.1) (hr : rows[k]? = some r) (hn40 : hd.2.1 * 40 ≤ 140737488355328) (hnc : hd.2.1 ≤ c2) (hru : RunsAt w2 A2 hd.2.1 r) (hfr : Fresh w2 48 wr.heap.size A2) :
    SCloneRel w rows (some ⟨g, 0, none⟩) n c (.int .i64 ((k : Int) + 1)) (w2.setCell ⟨g, k, none⟩ (.slice A2 hd.2.1 c2)) := by
  have hap : Apart g (A2, hd.2.1, c2) := fun _ ad had => by have := (hfr ad had).1; omega
  refine ⟨k + 1, hs.set k (A2, hd.2.1, c2), by omega, by simp, by simpa using hsl, ?_, (hx.trans hx2).setCell hgb _, ?_, ?_, ?_⟩
  · rw [flatMap_set]
    exact ((own_ext hO hx2).stored k _).1
  · intro i h q hi hq
    by_cases hik : k = i
    · subst hik
      rw [List.getElem?_set_self (by rw [hsl]; exact hlt)] at hi
      cases hi
      rw [hr] at hq
      cases hq
      exact Good.set (h := (A2, hd.2.1, c2)) (p := ⟨g, k, none⟩) ⟨hnc, hn40, hru⟩ hap _
    · rw [List.getElem?_set_ne hik] at hi
      exact Good.set (p := ⟨g, k, none⟩) ((hG i h q hi hq).ext hx2) (hA h (List.mem_of_getElem? hi)) _
  · intro ad had h hm
    cases had
    rcases List.mem_or_eq_of_mem_set hm with h1 | h1
    · exact hA h h1
    · subst h1; exact hap
  · intro j h hj hh
    by_cases hik : k = j
    · subst hik
      rw [List.getElem?_set_self (by rw [hsl]; exact hlt)] at hh
      cases hh
      exact (hfr.le hx.size).setCell _ _
    · rw [List.getElem?_set_ne hik] at hh
      exact ((hF j h (by omega) hh).ext hx2).setCell _ _

set_option maxRecDepth 100000 in
set_option maxHeartbeats 2000000 in
theorem SClone_own (A : Option Addr) (n c : Nat) (rows : List Row) (w : World) (hl : RowsAt w A n rows) (hn : n * 24 ≤ 140737488355328) :
    Calls Tryd.prog 29 #[.slice A n c] w (SOwnPost rows n w) := by
  obtain ⟨hs0, hh0, hg0⟩ := rows_heads hl
  have HLn := Lib.hid hl.len
  have HH := Lib.hid hh0
  have HG := Lib.hid hg0
  have HH0 := Lib.hid hh0.len
  have hold : Hid (∀ h ∈ hs0, ∀ g, w.heap.size ≤ g → Apart g h) := by
    intro h hm g hg hp ad had
    obtain ⟨i, hi⟩ := List.getElem?_of_mem hm
    have hil : i < rows.length := by
      rw [HLn.out, ← HH0.out]
      exact (List.getElem?_eq_some_iff.1 hi).1
    have hgd := hg0 i h _ hi (List.getElem?_eq_getElem hil)
    obtain ⟨b, off, x, hA, hx, hC⟩ := hgd.2.2.at_ (i := 0) hp
    rw [hA] at had
    cases had
    have := World.block_lt_of_cell? w _ hC.1
    exact fun e => by simp only at e this; omega
  clear hl hh0 hg0
  go_enter Tryd.func29, Tryd.ntmps29
  go_wp2_with fail
  refine (CloneHds_any A n c hs0 _ HH.out hn).mono ?_
  rintro e w1 ⟨A1, c1, rfl, hown1, hx1⟩
  have HO1 := Lib.hid hown1
  clear hown1
  go_wp2_with fail
  go_loopw [9] (fun i wr => SCloneRel w rows A1 n c1 i wr) (fun i _ => n - (intOf i).toNat)
  case atStart =>
    refine ⟨0, hs0, Nat.zero_le _, rfl, HH0.out, HO1.out, hx1, fun i h r a b => (HG.out i h r a b).ext hx1, fun ad hA h hm => ?_, fun j h hj => absurd hj (by omega)⟩
    subst hA
    exact hold.out h hm _ (own_lt HO1.out _ rfl)
  case round =>
    obtain ⟨k, hs, hk, rfl, hsl, hown, hx, hgd, hap, hfr⟩ := hrel
    have HGd := Lib.hid hgd
    have HAp := Lib.hid hap
    have HFr := Lib.hid hfr
    have HSl := Lib.hid hsl
    have HO := Lib.hid hown
    clear hgd hap hfr hsl hown
    by_cases hlt : k < n
    · obtain ⟨g, cp, hv, hgb, hglt⟩ := own_form HO.out (by omega)
      have hA1 : A1 = some ⟨g, 0, none⟩ := by injection hv
      subst hA1
      have hcell := Lib.hid (HO.out.cellAt k (by omega))
      obtain ⟨hd, hhd⟩ : ∃ hd, hs[k]? = some hd := ⟨_, List.getElem?_eq_getElem (by rw [HSl.out]; exact hlt)⟩
      obtain ⟨r, hr⟩ : ∃ r, rows[k]? = some r := ⟨_, List.getElem?_eq_getElem (by rw [HLn.out]; exact hlt)⟩
      have hck : wr.cell? ⟨g, k, none⟩ = some (.slice hd.1 hd.2.1 hd.2.2) := by
        rw [hcell.out]
        have := flatMap_at (fun h : Hd => [Hd.val h]) 1 (fun _ => rfl) hs k hd 0 hhd (by omega)
        simp only [Nat.mul_one, Nat.add_zero] at this
        rw [this]
        rfl
      have hfz : wr.frozen? ⟨g, k, none⟩ = false := HO.out.frozenAt k
      have hgk := HGd.out k hd r hhd hr
      have HGk := Lib.hid hgk
      have hn40 : hd.2.1 * 40 ≤ 140737488355328 := hgk.2.1
      have HHd := Lib.hid hhd
      have HRr := Lib.hid hr
      clear hgk hhd hr
      go_wp2_with fail
      refine (CloneRuns_any hd.1 hd.2.1 hd.2.2 r _ HGk.out.2.2 hn40).mono ?_
      rintro e w2 ⟨A2, c2, rfl, hnc2, hru2, hfr2, hx2⟩
      have hck2 : w2.cell? ⟨g, k, none⟩ = some (.slice hd.1 hd.2.1 hd.2.2) := hx2.cell hck
      have hfz2 : w2.frozen? ⟨g, k, none⟩ = false := hx2.frozen hck hfz
      have HRu2 := Lib.hid hru2
      clear hru2 hck hfz
      go_wp2_with fail
      exact ⟨sclone_step hlt hx hx2 HSl.out HO.out hgb hglt HGd.out (fun h hm => HAp.out _ rfl h hm) HFr.out HRr.out hn40 hnc2 HRu2.out hfr2, by simp [intOf]; omega⟩
    · have hkn : k = n := by omega
      subst hkn
      go_wp2_with fail
      go_ret
      obtain ⟨A', c', hv, hc, _, hsl', hfr'⟩ := own_sl (f := fun h : Hd => [Hd.val h]) (size := 1) (fun _ => rfl) HSl.out HO.out
      injection hv with hv1 hv2 hv3
      subst hv1 hv3
      refine ⟨A1, c1, rfl, hc, ⟨hs, HO.out, HSl.out, HGd.out, HLn.out, fun h hm => ?_⟩, hx⟩
      obtain ⟨j, hj⟩ := List.getElem?_of_mem hm
      exact HFr.out j h (by rw [← HSl.out]; exact (List.getElem?_eq_some_iff.1 hj).1) hj
theorem SClone_any (A : Option Addr) (n c : Nat) (rows : List Row) (w : World) (hl : RowsAt w A n rows) (hn : n * 24 ≤ 140737488355328) :
    Calls Tryd.prog 29 #[.slice A n c] w (SClonePost rows n w) :=
  (SClone_own A n c rows w hl hn).mono fun _ _ ⟨A1, c1, h1, h2, h3, h4⟩ => ⟨A1, c1, h1, h2, h3.fresh, h4⟩
end Go.Proofs.YtcgflkmkdpgchaaDoor
