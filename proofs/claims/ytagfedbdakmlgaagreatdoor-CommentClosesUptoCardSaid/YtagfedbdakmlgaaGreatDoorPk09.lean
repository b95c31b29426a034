/- Laid together: The walks of comment.Find and of the reference's. Copies of rows: slices.Clone, style.Clone. Copies of rows, the reference's. The walks of event.Clone and of the reference's Clone. -/
import Derived.Test.YtagfedbdakmlgaaGreatDoorPk08
import Derived.Test.YtagfedbdakmlgaaGreatDoorPk01
import Derived.Lib.SliceRun
import Derived.Test.YtagfedbdakmlgaaGreatDoorPk03

/-! FindC -/
namespace Go.Proofs.YtagfedbdakmlgaaGreatDoor
set_option linter.unusedVariables false
set_option linter.unusedSimpArgs false
open Go.RowKit

def findC (l : List Com) (id : Int) : Option Nat := l.findIdx? fun e => e.id == id
def findCI (l : List Com) (id : Int) : Int := match findC l id with | none => -1 | some k => (k : Int)
theorem findC_snoc (l : List Com) (x : Com) (id : Int) : findC (l ++ [x]) id = match findC l id with | some k => some k | none => if x.id == id then some l.length else none := by
  unfold findC
  rw [List.findIdx?_append]
  cases h : l.findIdx? (fun e => e.id == id) with
  | some k => simp
  | none => simp [List.findIdx?_cons]
theorem findC_here {l : List Com} {id : Int} {k : Nat} {x : Com} (h : findC (l.take k) id = none) (hx : l[k]? = some x) (he : x.id = id) : findC l id = some k := by
  obtain ⟨hk, hxk⟩ := List.getElem?_eq_some_iff.1 hx
  unfold findC at h ⊢
  rw [List.findIdx?_eq_some_iff_getElem]
  refine ⟨hk, by rw [hxk]; simpa using he, fun j hj => ?_⟩
  have h2 := List.findIdx?_eq_none_iff.1 h (l[j]'(by omega)) (List.mem_of_getElem? (i := j) (by rw [List.getElem?_take, if_pos hj]; exact List.getElem?_eq_getElem _))
  simpa using h2
theorem findC_on {l : List Com} {id : Int} {k : Nat} {x : Com} (h : findC (l.take k) id = none) (hx : l[k]? = some x) (he : x.id ≠ id) : findC (l.take (k + 1)) id = none := by
  rw [take_snoc' l k x hx, findC_snoc, h]
  simp [he]
def FndRelC (w1 : World) (n : Nat) (id : Int) (l : List Com) (i : Value) (wr : World) : Prop := ∃ k : Nat, k ≤ n ∧ i = .int .i64 k ∧ findC (l.take k) id = none ∧ Ext w1 wr
set_option maxRecDepth 100000 in
set_option maxHeartbeats 1000000 in
theorem R12FindC_any (d : Doc) (h : DocH) (id : Int) (w : World) (hat : ComsAt w h.ca h.cn d.coms) (hn : h.cn ≤ 1000000) :
    Calls Tryz.prog 90 #[.agg (d.cells h), .int .i64 id] w fun e w' => e = .returned (.int .i64 (findCI d.coms id)) ∧ Ext w w' := by
  have HX := Lib.hid ((Ext.refl w).alloc (.cells (d.cells h) 27))
  have HE := Lib.hid hat
  have HLn := Lib.hid hat.len
  have hb := fun o => (Blk.new w 27 (d.cells h)).cell o
  clear hat
  obtain ⟨ra, rn, rc, ea, en, ec, ca, n, cc⟩ := h
  unfold Doc.cells at *
  dsimp only at *
  go_enter Tryz.func90, Tryz.ntmps90
  go_wp2_with fail
  clear hb
  go_loopw [10] (fun i wr => FndRelC w n id d.coms i wr) (fun i _ => n - (intOf i).toNat)
  case atStart => exact ⟨0, Nat.zero_le _, rfl, rfl, HX.out⟩
  case round =>
    obtain ⟨k, hk, rfl, hF, hx⟩ := hrel
    have HF := Lib.hid hF
    clear hF
    by_cases hlt : k < n
    · obtain ⟨b, off, x, rfl, hxx, c0, c1, c2, c3, c4, c5, c6, c7⟩ := (HE.out.ext hx).at8 hlt
      have HXx := Lib.hid hxx
      clear hxx
      by_cases he : x.id = id
      · have hb : (x.id == id) = true := by simpa using he
        have HV := Lib.hid (findC_here HF.out HXx.out he)
        clear he
        go_wp2_with fail
        go_ret
        exact ⟨ret_int (by unfold findCI; rw [HV.out]), hx.alloc _⟩
      · have hb : (x.id == id) = false := by simpa using he
        have HV := Lib.hid (findC_on HF.out HXx.out he)
        clear he
        go_wp2_with fail
        exact ⟨⟨k + 1, by omega, by go_num, HV.out, hx.alloc _⟩, by simp [intOf]; omega⟩
    · have hkn : k = n := by omega
      have HV : Hid (findC d.coms id = none) := by
        show _ = _
        have h1 := HF.out
        rwa [List.take_of_length_le (by rw [HLn.out]; omega)] at h1
      subst hkn
      go_wp2_with fail
      go_ret
      exact ⟨ret_int (by unfold findCI; rw [HV.out]), hx⟩

set_option maxHeartbeats 400000 in
theorem CFind1_any (x : Com) (g : Nat) (id : Int) (w : World) (hB : Blk w g 2 #[.int .i64 id]) :
    Calls Tryz.prog 89 #[.agg #[.int .i64 x.id, .int .i64 x.ev, .int .i64 x.fr, .int .i64 x.til, .string x.author, .string x.text, .bool x.done, .bool x.lost], .pointer (some ⟨g, 0, none⟩)] w fun e w' => e = .returned (.bool (x.id == id)) ∧ Ext w w' := by
  have HX := Lib.hid ((Ext.refl w).alloc (.cells #[.int .i64 x.id, .int .i64 x.ev, .int .i64 x.fr, .int .i64 x.til, .string x.author, .string x.text, .bool x.done, .bool x.lost] 78))
  have hg : ∀ o, (w.alloc o).cell? ⟨g, 0, none⟩ = some (.int .i64 id) := fun o => (hB.alloc o).cell 0
  have hlt := hB.lt
  clear hB
  go_enter Tryz.func89, Tryz.ntmps89
  go_wp2_with fail
  go_ret
  exact ⟨rfl, HX.out⟩

def CIxRel (w1 : World) (n : Nat) (id : Int) (l : List Com) (i : Value) (wr : World) : Prop := ∃ k : Nat, k ≤ n ∧ i = .int .i64 k ∧ findC (l.take k) id = none ∧ Ext w1 wr
set_option maxRecDepth 100000 in
set_option maxHeartbeats 1000000 in
theorem CIndex_any (A : Option Addr) (n c : Nat) (l : List Com) (g : Nat) (id : Int) (w : World) (hl : ComsAt w A n l) (hn : n ≤ 4611686018427387904) (hB : Blk w g 2 #[.int .i64 id]) :
    Calls Tryz.prog 88 #[.slice A n c, .func (.func 89) #[] #[.pointer (some ⟨g, 0, none⟩)]] w fun e w' => e = .returned (.int .i64 (findCI l id)) ∧ Ext w w' := by
  have HE := Lib.hid hl
  have HLn := Lib.hid hl.len
  have HBg := Lib.hid hB
  clear hl hB
  go_enter Tryz.func88, Tryz.ntmps88
  go_wp2_with fail
  go_loopw [8] (fun i wr => CIxRel w n id l i wr) (fun i _ => n - (intOf i).toNat)
  case atStart => exact ⟨0, Nat.zero_le _, rfl, rfl, Ext.refl _⟩
  case round =>
    obtain ⟨k, hk, rfl, hF, hx⟩ := hrel
    have HF := Lib.hid hF
    clear hF
    by_cases hlt : k < n
    · obtain ⟨b, off, x, rfl, hxx, c0, c1, c2, c3, c4, c5, c6, c7⟩ := (HE.out.ext hx).at8 hlt
      have HXx := Lib.hid hxx
      have HCl := Lib.hid (CFind1_any x g id wr (HBg.out.ext hx))
      clear hxx
      by_cases he : x.id = id
      · have hb : (x.id == id) = true := by simpa using he
        have HV := Lib.hid (findC_here HF.out HXx.out he)
        rw [hb] at HCl
        clear he hb
        go_wp2_with fail
        refine HCl.out.mono ?_
        rintro en w2 ⟨rfl, hx2⟩
        go_wp2_with fail
        go_ret
        exact ⟨ret_int (by unfold findCI; rw [HV.out]), hx.trans hx2⟩
      · have hb : (x.id == id) = false := by simpa using he
        have HV := Lib.hid (findC_on HF.out HXx.out he)
        rw [hb] at HCl
        clear he hb
        go_wp2_with fail
        refine HCl.out.mono ?_
        rintro en w2 ⟨rfl, hx2⟩
        go_wp2_with fail
        exact ⟨⟨k + 1, by omega, by go_num, HV.out, hx.trans hx2⟩, by simp [intOf]; omega⟩
    · have hkn : k = n := by omega
      have HV : Hid (findC l id = none) := by
        show _ = _
        have h1 := HF.out
        rwa [List.take_of_length_le (by rw [HLn.out]; omega)] at h1
      subst hkn
      go_wp2_with fail
      go_ret
      exact ⟨ret_int (by unfold findCI; rw [HV.out]), hx⟩

set_option maxHeartbeats 1000000 in
theorem CFind_any (d : Doc) (h : DocH) (id : Int) (w : World) (hat : ComsAt w h.ca h.cn d.coms) (hn : h.cn ≤ 4611686018427387904) :
    Calls Tryz.prog 27 #[.agg (d.cells h), .int .i64 id] w fun e w' => e = .returned (.int .i64 (findCI d.coms id)) ∧ Ext w w' := by
  have HX : Hid (Ext w ((w.alloc (.cells (d.cells h) 27)).alloc (.cells #[.int .i64 id] 2))) := ((Ext.refl w).alloc _).alloc _
  have HI := Lib.hid (fun w' (hx : Ext w w') g hB => CIndex_any h.ca h.cn h.cc d.coms g id w' (hat.ext hx) hn hB)
  clear hat
  unfold Doc.cells at *
  go_enter Tryz.func27, Tryz.ntmps27
  go_wp2_with fail
  refine (HI.out _ HX.out (w.heap.size + 1) (Blk.new' (by simp))).mono ?_
  rintro en w2 ⟨rfl, hx2⟩
  go_wp2_with fail
  go_ret
  exact ⟨rfl, HX.out.trans hx2⟩

set_option maxHeartbeats 1000000 in
theorem R14Find_any (d : Doc) (h : DocH) (id : Int) (w : World) (hat : ComsAt w h.ca h.cn d.coms) (hn : h.cn ≤ 1000000) :
    Calls Tryz.prog 28 #[.agg (d.cells h), .int .i64 id] w fun e w' => e = .returned (.int .i64 (findCI d.coms id)) ∧ Ext w w' := by
  have HX : Hid (Ext w (w.alloc (.cells (d.cells h) 27))) := (Ext.refl w).alloc _
  have HB := Lib.hid (Blk.new w 27 (d.cells h))
  have HI := Lib.hid (fun w' (hx : Ext w w') => R12FindC_any d h id w' (hat.ext hx) hn)
  clear hat
  unfold Doc.cells at *
  go_enter Tryz.func28, Tryz.ntmps28
  go_wp2_with (refine wpList_loadB rfl 27 (.tmp 2) rfl w.heap.size 27 _ _ (by exact rfl) (by exact HB.out) Tryz.underlying27 rfl (by exact size_doc) ?_)
  refine (HI.out _ HX.out).mono ?_
  rintro en w2 ⟨rfl, hx2⟩
  go_wp2_with fail
  go_ret
  exact ⟨rfl, HX.out.trans hx2⟩
end Go.Proofs.YtagfedbdakmlgaaGreatDoor

/-! Clone -/
namespace Go.Proofs.YtagfedbdakmlgaaGreatDoor
set_option linter.unusedVariables false
set_option linter.unusedSimpArgs false
open Go.RowKit

/-- an address from block L on, in a row of elements of type T -/
def Fresh (w : World) (T : TypeId) (L : Nat) (A : Option Addr) : Prop := ∀ ad, A = some ad → L ≤ ad.block ∧ Typed w T ad.block
theorem Fresh.le {w : World} {T : TypeId} {L L' : Nat} {A : Option Addr} (h : Fresh w T L A) (hl : L' ≤ L) : Fresh w T L' A := fun ad e => ⟨Nat.le_trans hl (h ad e).1, (h ad e).2⟩
theorem Fresh.ext {w w1 : World} {T : TypeId} {L : Nat} {A : Option Addr} (h : Fresh w T L A) (k : Ext w w1) : Fresh w1 T L A := fun ad e => ⟨(h ad e).1, (h ad e).2.ext k⟩
theorem Fresh.setCell {w : World} {T : TypeId} {L : Nat} {A : Option Addr} (h : Fresh w T L A) (p : Addr) (u : Value) : Fresh (w.setCell p u) T L A := fun ad e => ⟨(h ad e).1, (h ad e).2.setCell p u⟩
theorem Fresh.grown {w w1 : World} {T T' : TypeId} {L : Nat} {A : Option Addr} {row : Option Nat} (h : Fresh w T L A) (hg : w.grownBy w1 row) (hr : ∀ q, row = some q → Typed w T' q) (hne : T ≠ T') : Fresh w1 T L A := fun ad e => ⟨(h ad e).1, (h ad e).2.grown hg hr hne⟩
theorem Fresh.put {w : World} {T t : TypeId} {L g : Nat} {A : Option Addr} {cs : Array Value} (h : Fresh w T L A) (hB : Blk w g t cs) (cs' : Array Value) (hne : T ≠ t) : Fresh (putB w g t cs') T L A := fun ad e => ⟨(h ad e).1, (h ad e).2.put hB cs' hne⟩
theorem Fresh.of_own {w : World} {base : Nat} {e : TypeId} {size n m c : Nat} {A : Option Addr} {xs : List Value} (h : w.ownsRow base e size (.slice A m c) n xs) : Fresh w e base A := fun ad hA => by
  subst hA
  exact ⟨own_lt h _ rfl, own_typed h _ rfl⟩

def Run.cells (r : Run) : List Value := [.string r.text, .int .u8 r.color, .bool r.italic, .bool r.under, .string r.ruby]
theorem runC_cells {w : World} {b o : Nat} {r : Run} (h : RunC w b o r) : Cells Run.cells w b o r := by
  obtain ⟨h0, h1, h2, h3, h4⟩ := h
  intro j u hu
  match j, hu with
  | 0, hu => simp [Run.cells] at hu; subst hu; exact h0
  | 1, hu => simp [Run.cells] at hu; subst hu; exact h1
  | 2, hu => simp [Run.cells] at hu; subst hu; exact h2
  | 3, hu => simp [Run.cells] at hu; subst hu; exact h3
  | 4, hu => simp [Run.cells] at hu; subst hu; exact h4
  | j + 5, hu => simp [Run.cells] at hu
theorem cells_runC {w : World} {b o : Nat} {r : Run} (h : Cells Run.cells w b o r) : RunC w b o r := ⟨h 0 _ rfl, h 1 _ rfl, h 2 _ rfl, h 3 _ rfl, h 4 _ rfl⟩
theorem RunsAt.cells {w : World} {A : Option Addr} {n : Nat} {l : Row} (h : RunsAt w A n l) : Sl w 5 (Cells Run.cells) A n l := Sl.change h fun _ _ _ => runC_cells
theorem RunsAt.of_cells {w : World} {A : Option Addr} {n : Nat} {l : Row} (h : Sl w 5 (Cells Run.cells) A n l) : RunsAt w A n l := Sl.change h fun _ _ _ => cells_runC

theorem info_run : (Tryz.prog.info? 84).map (fun i => (i.zero, i.size, i.bytes)) = some (some (.agg #[.string ⟨#[]⟩, .int .u8 0, .bool false, .bool false, .string ⟨#[]⟩]), 5, 40) := by kernel_rfl
theorem info_row : (Tryz.prog.info? 87).map (fun i => (i.zero, i.size, i.bytes)) = some (some (.agg #[.slice none 0 0]), 1, 24) := by kernel_rfl

def CloneRunsPost (l : Row) (n : Nat) (w : World) (e : Ending) (w' : World) : Prop :=
  ∃ A c, e = .returned (.slice A n c) ∧ n ≤ c ∧ RunsAt w' A n l ∧ Fresh w' 84 w.heap.size A ∧ Ext w w'



set_option maxHeartbeats 1000000 in
theorem CloneRuns_any (A : Option Addr) (n c : Nat) (l : Row) (w : World) (hl : RunsAt w A n l) (hn : n * 40 ≤ 140737488355328) :
    Calls Tryz.prog 164 #[.slice A n c] w (CloneRunsPost l n w) := by
  have hq := fun w => Lib.run_eql_slice_nil (P := Tryz.prog) w 85 84 A n c 0 0 Tryz.underlying85
  have HL := Lib.hid hl
  clear hl
  cases A with
  | none =>
    have hn0 : n = 0 := by
      rcases Nat.eq_zero_or_pos n with h | h
      · exact h
      · obtain ⟨_, _, h, _⟩ := HL.out.2 h; cases h
    subst hn0
    simp only [Option.isNone_none] at hq
    go_enter Tryz.func164, Tryz.ntmps164
    go_wp2_with fail
    go_ret
    exact ⟨none, 0, rfl, Nat.le_refl _, HL.out, (fun _ h => by cases h), Ext.refl _⟩
  | some ad =>
    simp only [Option.isNone_some] at hq
    go_enter Tryz.func164, Tryz.ntmps164
    go_wp2_with (at_builtin; refine wpList_appendS rfl (.tmp 5) (.tmp 6) 85 rfl info_run Tryz.underlying85 rfl (by decide) (by exact own_nil0 w _ _ w.heap.size (Nat.le_refl _)) (by exact rfl) (by exact rfl) (by exact Sl.ext (Cells.stays _) HL.out.cells ((Ext.refl w).alloc _)) (fun _ => rfl) (by intro r u hu; simp [Run.cells] at hu; rcases hu with rfl | rfl | rfl | rfl | rfl <;> rfl) (by omega) (by simp [maxLen]; omega) (by simp) ?_; intro v' w' hown hgr hnil)
    go_ret
    simp only [Nat.zero_add, List.nil_append] at hown
    obtain ⟨A', c', rfl, hc, _, hsl, hfr⟩ := own_sl (f := Run.cells) (size := 5) (fun _ => rfl) HL.out.len hown
    exact ⟨A', c', rfl, hc, RunsAt.of_cells hsl, Fresh.of_own hown, ((Ext.refl w).alloc _).grown hgr (fun q hq => by simp [Value.ownBlock] at hq; omega)⟩

/-- the header of a slice -/
abbrev Hd := Option Addr × Nat × Nat
def Hd.val (h : Hd) : Value := .slice h.1 h.2.1 h.2.2
def Good (w : World) (h : Hd) (r : Row) : Prop := h.2.1 ≤ h.2.2 ∧ h.2.1 * 40 ≤ 140737488355328 ∧ RunsAt w h.1 h.2.1 r
theorem Good.ext {w w1 : World} {h : Hd} {r : Row} (g : Good w h r) (k : Ext w w1) : Good w1 h r := ⟨g.1, g.2.1, g.2.2.ext k⟩
def Goods (w : World) (hs : List Hd) (l : List Row) : Prop := ∀ (i : Nat) (h : Hd) (r : Row), hs[i]? = some h → l[i]? = some r → Good w h r
def HdsAt (w : World) (A : Option Addr) (n : Nat) (hs : List Hd) : Prop := Sl w 1 (Cells fun h => [Hd.val h]) A n hs

theorem rows_heads {w : World} {A : Option Addr} {n : Nat} {l : List Row} (h : RowsAt w A n l) : ∃ hs : List Hd, HdsAt w A n hs ∧ Goods w hs l := by
  have hall : ∀ i : Nat, ∃ hd : Hd, i < n → (∀ b off, A = some ⟨b, off, none⟩ → w.cell? ⟨b, off + i, none⟩ = some (Hd.val hd)) ∧ ∀ r, l[i]? = some r → Good w hd r := by
    intro i
    by_cases hi : i < n
    · obtain ⟨b, off, r, hA, hr, A', n', c', h1, h2, h3, h4⟩ := h.at_ hi
      refine ⟨(A', n', c'), fun _ => ⟨fun b' off' hA' => ?_, fun r' hr' => ?_⟩⟩
      · rw [hA] at hA'
        cases hA'
        rw [Nat.mul_one] at h1
        exact h1
      · rw [hr] at hr'
        cases hr'
        exact ⟨h2, h3, h4⟩
    · exact ⟨(none, 0, 0), fun h => absurd h hi⟩
  obtain ⟨f, hf⟩ := Classical.axiomOfChoice hall
  refine ⟨(List.range n).map f, ⟨by simp, fun hn => ?_⟩, ?_⟩
  · obtain ⟨b, off, hA, _⟩ := h.2 hn
    refine ⟨b, off, hA, fun i x hx j u hu => ?_⟩
    have hi : i < n := by
      have := (List.getElem?_eq_some_iff.1 hx).1
      simpa using this
    have hx' : x = f i := by
      rw [List.getElem?_map, List.getElem?_range hi] at hx
      exact (Option.some.inj hx).symm
    match j, hu with
    | 0, hu =>
      have hu' : u = Hd.val x := (Option.some.inj hu).symm
      subst hu' hx'
      simpa using (hf i hi).1 b off hA
    | j + 1, hu => simp at hu
  · intro i hd r hh hr
    have hi : i < n := by
      have := (List.getElem?_eq_some_iff.1 hh).1
      simpa using this
    have hx' : hd = f i := by
      rw [List.getElem?_map, List.getElem?_range hi] at hh
      exact (Option.some.inj hh).symm
    subst hx'
    exact (hf i hi).2 r hr

theorem rows_of_heads {w : World} {A : Option Addr} {n : Nat} {l : List Row} {hs : List Hd} (h : HdsAt w A n hs) (hl : l.length = n) (hg : Goods w hs l) : RowsAt w A n l := by
  refine ⟨hl, fun hn => ?_⟩
  obtain ⟨b, off, hA, hc⟩ := h.2 hn
  refine ⟨b, off, hA, fun i r hr => ?_⟩
  have hi : i < hs.length := by
    rw [h.len, ← hl]
    exact (List.getElem?_eq_some_iff.1 hr).1
  have hx : hs[i]? = some hs[i] := List.getElem?_eq_getElem hi
  have g := hg i _ r hx hr
  exact ⟨_, _, _, hc i _ hx 0 _ rfl, g.1, g.2.1, g.2.2⟩

def CloneHdsPost (hs : List Hd) (n : Nat) (w : World) (e : Ending) (w' : World) : Prop :=
  ∃ A c, e = .returned (.slice A n c) ∧ w'.ownsRow w.heap.size 87 1 (.slice A n c) n (hs.flatMap fun h => [Hd.val h]) ∧ Ext w w'

set_option maxHeartbeats 1000000 in
theorem CloneHds_any (A : Option Addr) (n c : Nat) (hs : List Hd) (w : World) (hl : HdsAt w A n hs) (hn : n * 24 ≤ 140737488355328) :
    Calls Tryz.prog 163 #[.slice A n c] w (CloneHdsPost hs n w) := by
  have hq := fun w => Lib.run_eql_slice_nil (P := Tryz.prog) w 64 87 A n c 0 0 Tryz.underlying64
  have HL := Lib.hid hl
  clear hl
  cases A with
  | none =>
    have hn0 : n = 0 := by
      rcases Nat.eq_zero_or_pos n with h | h
      · exact h
      · obtain ⟨_, _, h, _⟩ := HL.out.2 h; cases h
    subst hn0
    have hs0 : hs = [] := List.eq_nil_of_length_eq_zero HL.out.len
    subst hs0
    simp only [Option.isNone_none] at hq
    go_enter Tryz.func163, Tryz.ntmps163
    go_wp2_with fail
    go_ret
    exact ⟨none, 0, rfl, ⟨rfl, .inl ⟨rfl, rfl⟩⟩, Ext.refl _⟩
  | some ad =>
    simp only [Option.isNone_some] at hq
    go_enter Tryz.func163, Tryz.ntmps163
    go_wp2_with (at_builtin; refine wpList_appendS rfl (.tmp 5) (.tmp 6) 64 rfl info_row Tryz.underlying64 rfl (by decide) (by exact own_nil0 w _ _ w.heap.size (Nat.le_refl _)) (by exact rfl) (by exact rfl) (by exact Sl.ext (Cells.stays _) HL.out ((Ext.refl w).alloc _)) (fun _ => rfl) (by intro r u hu; simp at hu; subst hu; rfl) (by omega) (by simp [maxLen]; omega) (by simp) ?_; intro v' w' hown hgr hnil)
    go_ret
    simp only [Nat.zero_add, List.nil_append] at hown
    obtain ⟨A', c', rfl, hc, _, hsl, hfr⟩ := own_sl (f := fun h : Hd => [Hd.val h]) (size := 1) (fun _ => rfl) HL.out.len hown
    exact ⟨A', c', rfl, hown, ((Ext.refl w).alloc _).grown hgr (fun q hq => by simp [Value.ownBlock] at hq; omega)⟩

/-- rows whose memory lies from block L on -/
def RowsFresh (w : World) (L : Nat) (A : Option Addr) (n : Nat) (l : List Row) : Prop :=
  ∃ hs : List Hd, HdsAt w A n hs ∧ Goods w hs l ∧ l.length = n ∧ Fresh w 87 L A ∧ ∀ h ∈ hs, Fresh w 84 L h.1
theorem RowsFresh.rows {w : World} {L : Nat} {A : Option Addr} {n : Nat} {l : List Row} (h : RowsFresh w L A n l) : RowsAt w A n l := by
  obtain ⟨hs, h1, h2, h3, _⟩ := h
  exact rows_of_heads h1 h3 h2
theorem RowsFresh.ext {w w1 : World} {L : Nat} {A : Option Addr} {n : Nat} {l : List Row} (h : RowsFresh w L A n l) (k : Ext w w1) : RowsFresh w1 L A n l := by
  obtain ⟨hs, h1, h2, h3, h4, h5⟩ := h
  exact ⟨hs, Sl.ext (Cells.stays _) h1 k, fun i hd r a b => (h2 i hd r a b).ext k, h3, h4.ext k, fun x hx => (h5 x hx).ext k⟩
theorem RowsFresh.le {w : World} {L L' : Nat} {A : Option Addr} {n : Nat} {l : List Row} (h : RowsFresh w L A n l) (hl : L' ≤ L) : RowsFresh w L' A n l := by
  obtain ⟨hs, h1, h2, h3, h4, h5⟩ := h
  exact ⟨hs, h1, h2, h3, h4.le hl, fun x hx => (h5 x hx).le hl⟩

/-- a header's memory is not in block g -/
def Apart (g : Nat) (h : Hd) : Prop := 0 < h.2.1 → ∀ ad, h.1 = some ad → ad.block ≠ g
theorem Sl.keep {α : Type} {C : World → Nat → Nat → α → Prop} {w w1 : World} {size n : Nat} {A : Option Addr} {l : List α} (h : Sl w size C A n l) (hk : 0 < n → ∀ b off, A = some ⟨b, off, none⟩ → ∀ o x, C w b o x → C w1 b o x) : Sl w1 size C A n l :=
  ⟨h.1, fun hn => (h.2 hn).elim fun b hb => hb.elim fun off ho => ⟨b, off, ho.1, fun i x hx => hk hn b off ho.1 _ _ (ho.2 i x hx)⟩⟩
theorem RunC.set {w : World} {b o : Nat} {r : Run} (h : RunC w b o r) {p : Addr} (hp : b ≠ p.block) (u : Value) : RunC (w.setCell p u) b o r := by
  have key : ∀ q v, w.cell? ⟨b, q, none⟩ = some v → (w.setCell p u).cell? ⟨b, q, none⟩ = some v := fun q v hv => by
    rw [World.cell?_setCell_other w p ⟨b, q, none⟩ u (fun e => hp (by rw [e]))]; exact hv
  exact ⟨key _ _ h.1, key _ _ h.2.1, key _ _ h.2.2.1, key _ _ h.2.2.2.1, key _ _ h.2.2.2.2⟩
theorem Good.set {w : World} {h : Hd} {r : Row} (g : Good w h r) {p : Addr} (hp : Apart p.block h) (u : Value) : Good (w.setCell p u) h r :=
  ⟨g.1, g.2.1, Sl.keep g.2.2 fun hn b off hA o x hx => hx.set (hp hn _ hA) u⟩

/-- rows whose memory lies from block L on, in a block of their own -/
def RowsOwn (w : World) (L : Nat) (A : Option Addr) (n c : Nat) (l : List Row) : Prop :=
  ∃ hs : List Hd, w.ownsRow L 87 1 (.slice A n c) n (hs.flatMap fun h => [Hd.val h]) ∧ hs.length = n ∧ Goods w hs l ∧ l.length = n ∧ ∀ h ∈ hs, Fresh w 84 L h.1
theorem RowsOwn.fresh {w : World} {L : Nat} {A : Option Addr} {n c : Nat} {l : List Row} (h : RowsOwn w L A n c l) : RowsFresh w L A n l := by
  obtain ⟨hs, h1, h2, h3, h4, h5⟩ := h
  obtain ⟨A', c', hv, _, _, hsl, _⟩ := own_sl (f := fun h : Hd => [Hd.val h]) (size := 1) (fun _ => rfl) h2 h1
  injection hv with e1 e2 e3
  subst e1 e3
  exact ⟨hs, hsl, h3, h4, Fresh.of_own h1, h5⟩
theorem RowsOwn.ext {w w1 : World} {L : Nat} {A : Option Addr} {n c : Nat} {l : List Row} (h : RowsOwn w L A n c l) (k : Ext w w1) : RowsOwn w1 L A n c l := by
  obtain ⟨hs, h1, h2, h3, h4, h5⟩ := h
  exact ⟨hs, own_ext h1 k, h2, fun i hd r a b => (h3 i hd r a b).ext k, h4, fun x hx => (h5 x hx).ext k⟩
theorem own_le {w : World} {L L' : Nat} {e : TypeId} {size : Nat} {v : Value} {n : Nat} {xs : List Value} (h : w.ownsRow L e size v n xs) (hl : L' ≤ L) : w.ownsRow L' e size v n xs := by
  refine ⟨h.1, ?_⟩
  rcases h.2 with hn | ⟨g, cap, cur, rfl, hb, rest⟩
  · exact .inl hn
  · exact .inr ⟨g, cap, cur, rfl, Nat.le_trans hl hb, rest⟩
theorem RowsOwn.le {w : World} {L L' : Nat} {A : Option Addr} {n c : Nat} {l : List Row} (h : RowsOwn w L A n c l) (hl : L' ≤ L) : RowsOwn w L' A n c l := by
  obtain ⟨hs, h1, h2, h3, h4, h5⟩ := h
  exact ⟨hs, own_le h1 hl, h2, h3, h4, fun x hx => (h5 x hx).le hl⟩
def SOwnPost (rows : List Row) (n : Nat) (w : World) (e : Ending) (w' : World) : Prop :=
  ∃ A c, e = .returned (.slice A n c) ∧ n ≤ c ∧ RowsOwn w' w.heap.size A n c rows ∧ Ext w w'

def SCloneRel (w : World) (rows : List Row) (A : Option Addr) (n c : Nat) (i : Value) (wr : World) : Prop :=
  ∃ (k : Nat) (hs : List Hd), k ≤ n ∧ i = .int .i64 k ∧ hs.length = n ∧ wr.ownsRow w.heap.size 87 1 (.slice A n c) n (hs.flatMap fun h => [Hd.val h]) ∧ Ext w wr ∧ Goods wr hs rows ∧
    (∀ ad, A = some ad → ∀ h ∈ hs, Apart ad.block h) ∧ (∀ j h, j < k → hs[j]? = some h → Fresh wr 84 w.heap.size h.1)

theorem flatMap_set (hs : List Hd) (k : Nat) (h : Hd) : (hs.set k h).flatMap (fun h => [Hd.val h]) = (hs.flatMap fun h => [Hd.val h]).set k (Hd.val h) := by
  have e : ∀ l : List Hd, (l.flatMap fun h => [Hd.val h]) = l.map Hd.val := fun l => by induction l <;> simp_all
  rw [e, e, List.map_set]

def SClonePost (rows : List Row) (n : Nat) (w : World) (e : Ending) (w' : World) : Prop :=
  ∃ A c, e = .returned (.slice A n c) ∧ n ≤ c ∧ RowsFresh w' w.heap.size A n rows ∧ Ext w w'

theorem sclone_step {w wr w2 : World} {rows : List Row} {n c g k : Nat} {hs : List Hd} {hd : Hd} {r : Row} {A2 : Option Addr} {c2 : Nat} (hlt : k < n) (hx : Ext w wr) (hx2 : Ext wr w2) (hsl : hs.length = n)
    (hO : wr.ownsRow w.heap.size 87 1 (.slice (some ⟨g, 0, none⟩) n c) n (hs.flatMap fun h => [Hd.val h])) (hgb : w.heap.size ≤ g) (hglt : g < wr.heap.size) (hG : Goods wr hs rows)
    (hA : ∀ h ∈ hs, Apart g h) (hF : ∀ (j : Nat) (h : Hd), j < k → hs[j]? = some h → Fresh wr 84 w.heap.size h.1) (hr : rows[k]? = some r) (hn40 : hd.2.1 * 40 ≤ 140737488355328) (hnc : hd.2.1 ≤ c2) (hru : RunsAt w2 A2 hd.2.1 r) (hfr : Fresh w2 84 wr.heap.size A2) :
    SCloneRel w rows (some ⟨g, 0, none⟩) n c (.int .i64 ((k : Int) + 1)) (w2.setCell ⟨g, k, none⟩ (.slice A2 hd.2.1 c2)) := by
  have hap : Apart g (A2, hd.2.1, c2) := fun _ ad had => by have := (hfr ad had).1; omega
  refine ⟨k + 1, hs.set k (A2, hd.2.1, c2), by omega, by simp, by simpa using hsl, ?_, (hx.trans hx2).setCell hgb _, ?_, ?_, ?_⟩
  · rw [flatMap_set]
    exact ((own_ext hO hx2).stored k _).1
  · intro i h q hi hq
    by_cases hik : k = i
    · subst hik
      rw [List.getElem?_set_self (by rw [hsl]; exact hlt)] at hi
      cases hi
      rw [hr] at hq
      cases hq
      exact Good.set (h := (A2, hd.2.1, c2)) (p := ⟨g, k, none⟩) ⟨hnc, hn40, hru⟩ hap _
    · rw [List.getElem?_set_ne hik] at hi
      exact Good.set (p := ⟨g, k, none⟩) ((hG i h q hi hq).ext hx2) (hA h (List.mem_of_getElem? hi)) _
  · intro ad had h hm
    cases had
    rcases List.mem_or_eq_of_mem_set hm with h1 | h1
    · exact hA h h1
    · subst h1; exact hap
  · intro j h hj hh
    by_cases hik : k = j
    · subst hik
      rw [List.getElem?_set_self (by rw [hsl]; exact hlt)] at hh
      cases hh
      exact (hfr.le hx.size).setCell _ _
    · rw [List.getElem?_set_ne hik] at hh
      exact ((hF j h (by omega) hh).ext hx2).setCell _ _

set_option maxRecDepth 100000 in
set_option maxHeartbeats 2000000 in
theorem SClone_own (A : Option Addr) (n c : Nat) (rows : List Row) (w : World) (hl : RowsAt w A n rows) (hn : n * 24 ≤ 140737488355328) :
    Calls Tryz.prog 121 #[.slice A n c] w (SOwnPost rows n w) := by
  obtain ⟨hs0, hh0, hg0⟩ := rows_heads hl
  have HLn := Lib.hid hl.len
  have HH := Lib.hid hh0
  have HG := Lib.hid hg0
  have HH0 := Lib.hid hh0.len
  have hold : Hid (∀ h ∈ hs0, ∀ g, w.heap.size ≤ g → Apart g h) := by
    intro h hm g hg hp ad had
    obtain ⟨i, hi⟩ := List.getElem?_of_mem hm
    have hil : i < rows.length := by
      rw [HLn.out, ← HH0.out]
      exact (List.getElem?_eq_some_iff.1 hi).1
    have hgd := hg0 i h _ hi (List.getElem?_eq_getElem hil)
    obtain ⟨b, off, x, hA, hx, hC⟩ := hgd.2.2.at_ (i := 0) hp
    rw [hA] at had
    cases had
    have := World.block_lt_of_cell? w _ hC.1
    exact fun e => by simp only at e this; omega
  clear hl hh0 hg0
  go_enter Tryz.func121, Tryz.ntmps121
  go_wp2_with fail
  refine (CloneHds_any A n c hs0 _ HH.out hn).mono ?_
  rintro e w1 ⟨A1, c1, rfl, hown1, hx1⟩
  have HO1 := Lib.hid hown1
  clear hown1
  go_wp2_with fail
  go_loopw [9] (fun i wr => SCloneRel w rows A1 n c1 i wr) (fun i _ => n - (intOf i).toNat)
  case atStart =>
    refine ⟨0, hs0, Nat.zero_le _, rfl, HH0.out, HO1.out, hx1, fun i h r a b => (HG.out i h r a b).ext hx1, fun ad hA h hm => ?_, fun j h hj => absurd hj (by omega)⟩
    subst hA
    exact hold.out h hm _ (own_lt HO1.out _ rfl)
  case round =>
    obtain ⟨k, hs, hk, rfl, hsl, hown, hx, hgd, hap, hfr⟩ := hrel
    have HGd := Lib.hid hgd
    have HAp := Lib.hid hap
    have HFr := Lib.hid hfr
    have HSl := Lib.hid hsl
    have HO := Lib.hid hown
    clear hgd hap hfr hsl hown
    by_cases hlt : k < n
    · obtain ⟨g, cp, hv, hgb, hglt⟩ := own_form HO.out (by omega)
      have hA1 : A1 = some ⟨g, 0, none⟩ := by injection hv
      subst hA1
      have hcell := Lib.hid (HO.out.cellAt k (by omega))
      obtain ⟨hd, hhd⟩ : ∃ hd, hs[k]? = some hd := ⟨_, List.getElem?_eq_getElem (by rw [HSl.out]; exact hlt)⟩
      obtain ⟨r, hr⟩ : ∃ r, rows[k]? = some r := ⟨_, List.getElem?_eq_getElem (by rw [HLn.out]; exact hlt)⟩
      have hck : wr.cell? ⟨g, k, none⟩ = some (.slice hd.1 hd.2.1 hd.2.2) := by
        rw [hcell.out]
        have := flatMap_at (fun h : Hd => [Hd.val h]) 1 (fun _ => rfl) hs k hd 0 hhd (by omega)
        simp only [Nat.mul_one, Nat.add_zero] at this
        rw [this]
        rfl
      have hfz : wr.frozen? ⟨g, k, none⟩ = false := HO.out.frozenAt k
      have hgk := HGd.out k hd r hhd hr
      have HGk := Lib.hid hgk
      have hn40 : hd.2.1 * 40 ≤ 140737488355328 := hgk.2.1
      have HHd := Lib.hid hhd
      have HRr := Lib.hid hr
      clear hgk hhd hr
      go_wp2_with fail
      refine (CloneRuns_any hd.1 hd.2.1 hd.2.2 r _ HGk.out.2.2 hn40).mono ?_
      rintro e w2 ⟨A2, c2, rfl, hnc2, hru2, hfr2, hx2⟩
      have hck2 : w2.cell? ⟨g, k, none⟩ = some (.slice hd.1 hd.2.1 hd.2.2) := hx2.cell hck
      have hfz2 : w2.frozen? ⟨g, k, none⟩ = false := hx2.frozen hck hfz
      have HRu2 := Lib.hid hru2
      clear hru2 hck hfz
      go_wp2_with fail
      exact ⟨sclone_step hlt hx hx2 HSl.out HO.out hgb hglt HGd.out (fun h hm => HAp.out _ rfl h hm) HFr.out HRr.out hn40 hnc2 HRu2.out hfr2, by simp [intOf]; omega⟩
    · have hkn : k = n := by omega
      subst hkn
      go_wp2_with fail
      go_ret
      obtain ⟨A', c', hv, hc, _, hsl', hfr'⟩ := own_sl (f := fun h : Hd => [Hd.val h]) (size := 1) (fun _ => rfl) HSl.out HO.out
      injection hv with hv1 hv2 hv3
      subst hv1 hv3
      refine ⟨A1, c1, rfl, hc, ⟨hs, HO.out, HSl.out, HGd.out, HLn.out, fun h hm => ?_⟩, hx⟩
      obtain ⟨j, hj⟩ := List.getElem?_of_mem hm
      exact HFr.out j h (by rw [← HSl.out]; exact (List.getElem?_eq_some_iff.1 hj).1) hj
theorem SClone_any (A : Option Addr) (n c : Nat) (rows : List Row) (w : World) (hl : RowsAt w A n rows) (hn : n * 24 ≤ 140737488355328) :
    Calls Tryz.prog 121 #[.slice A n c] w (SClonePost rows n w) :=
  (SClone_own A n c rows w hl hn).mono fun _ _ ⟨A1, c1, h1, h2, h3, h4⟩ => ⟨A1, c1, h1, h2, h3.fresh, h4⟩
end Go.Proofs.YtagfedbdakmlgaaGreatDoor

/-! CloneR -/
namespace Go.Proofs.YtagfedbdakmlgaaGreatDoor
set_option linter.unusedVariables false
set_option linter.unusedSimpArgs false
open Go.RowKit

theorem run_ones : ∀ (r : Run), ∀ u ∈ r.cells, u.oneCell' = true := by intro r u hu; simp [Run.cells] at hu; rcases hu with rfl | rfl | rfl | rfl | rfl <;> rfl

def RCloneRel (w : World) (rows : List Row) (n : Nat) (v i : Value) (wr : World) : Prop :=
  ∃ (k : Nat) (hs : List Hd), k ≤ n ∧ i = .int .i64 k ∧ hs.length = k ∧ wr.ownsRow w.heap.size 87 1 v k (hs.flatMap fun h => [Hd.val h]) ∧ Ext w wr ∧ Goods wr hs (rows.take k) ∧
    (∀ g, v.ownBlock = some g → ∀ h ∈ hs, Apart g h) ∧ (∀ h ∈ hs, Fresh wr 84 w.heap.size h.1)

theorem Good.grown {w w1 : World} {h : Hd} {r : Row} {row : Option Nat} (g : Good w h r) (hg : w.grownBy w1 row) (hp : ∀ q, row = some q → Apart q h) : Good w1 h r :=
  ⟨g.1, g.2.1, Sl.keep g.2.2 fun hn b off hA o x hx => by
    have hb : b < w.heap.size := World.block_lt_of_cell? w _ hx.1
    have key : ∀ q v, w.cell? ⟨b, q, none⟩ = some v → w1.cell? ⟨b, q, none⟩ = some v := fun q v hv =>
      (World.cell?_of_block (w := w) (a := ⟨b, q, none⟩) (hg.block b hb (fun e => hp b e.symm hn _ hA rfl))).trans hv
    exact ⟨key _ _ hx.1, key _ _ hx.2.1, key _ _ hx.2.2.1, key _ _ hx.2.2.2.1, key _ _ hx.2.2.2.2⟩⟩

theorem rclone_step {w wr w1 w3 : World} {rows : List Row} {n k : Nat} {hs : List Hd} {r : Row} {v v' : Value} {A1 : Option Addr} {n' c1 : Nat} {o : Obj} (hlt : k < n) (hx : Ext w wr) (hx1 : Ext wr w1) (hsl : hs.length = k)
    (hO : wr.ownsRow w.heap.size 87 1 v k (hs.flatMap fun h => [Hd.val h])) (hG : Goods wr hs (rows.take k))
    (hA : ∀ g, v.ownBlock = some g → ∀ h ∈ hs, Apart g h) (hF : ∀ h ∈ hs, Fresh wr 84 w.heap.size h.1) (hr : rows[k]? = some r) (hn40 : n' * 40 ≤ 140737488355328) (hnc : n' ≤ c1) (hru : RunsAt w1 A1 n' r) (hfr : Fresh w1 84 wr.heap.size A1) (hlt1 : 0 < n' → ∀ ad, A1 = some ad → ad.block < w1.heap.size)
    (hO3 : w3.ownsRow w.heap.size 87 1 v' (k + 1) ((hs.flatMap fun h => [Hd.val h]) ++ [Value.slice A1 n' c1])) (hgr : (w1.alloc o).grownBy w3 v.ownBlock) (hat : v'.ownBlock = v.ownBlock ∨ v'.ownBlock = some (w1.alloc o).heap.size) :
    RCloneRel w rows n v' (.int .i64 ((k : Int) + 1)) w3 := by
  have hvb : ∀ g, v.ownBlock = some g → w.heap.size ≤ g ∧ g < wr.heap.size := fun g hg => hO.lt g hg
  have hapn : ∀ g, v.ownBlock = some g → Apart g (A1, n', c1) := fun g hg _ ad had => by have := (hfr ad had).1; have := hvb g hg; omega
  have hx3 : Ext w w3 := ((hx.trans hx1).alloc o).grown hgr (fun q hq => (hvb q hq).1)
  have hblk : ∀ h ∈ hs, ∀ (r' : Row), Good wr h r' → 0 < h.2.1 → ∀ ad, h.1 = some ad → ad.block < wr.heap.size := fun h _ r' hg hp ad had => by
    obtain ⟨b, off, x, hA', _, hC⟩ := hg.2.2.at_ (i := 0) hp
    rw [hA'] at had
    cases had
    exact World.block_lt_of_cell? wr _ hC.1
  refine ⟨k + 1, hs ++ [(A1, n', c1)], by omega, by simp, by simp [hsl], ?_, hx3, ?_, ?_, ?_⟩
  · rw [List.flatMap_append]
    exact hO3
  · intro i h q hi hq
    rw [take_snoc' rows k r hr] at hq
    by_cases hik : i < k
    · rw [List.getElem?_append_left (by omega)] at hi
      rw [List.getElem?_append_left (by rw [List.length_take]; have := (List.getElem?_eq_some_iff.1 hr).1; omega)] at hq
      have hm := List.mem_of_getElem? hi
      exact (((hG i h q hi hq).ext hx1).ext ((Ext.refl w1).alloc o)).grown hgr (fun g hg => hA g hg h hm)
    · have hlen : (rows.take k).length = k := by rw [List.length_take]; have := (List.getElem?_eq_some_iff.1 hr).1; omega
      have hik' : i = k := by
        have := (List.getElem?_eq_some_iff.1 hi).1
        simp [hsl] at this
        omega
      subst hik'
      rw [List.getElem?_append_right (by omega)] at hi
      rw [List.getElem?_append_right (by omega)] at hq
      simp only [hsl, hlen, Nat.sub_self, List.getElem?_cons_zero, Option.some.injEq] at hi hq
      subst hi hq
      exact (Good.ext (h := (A1, n', c1)) ⟨hnc, hn40, hru⟩ ((Ext.refl w1).alloc o)).grown hgr hapn
  · intro g hg h hm
    rcases hat with e | e
    · rw [e] at hg
      rcases List.mem_append.1 hm with h1 | h1
      · exact hA g hg h h1
      · rw [List.mem_singleton] at h1; subst h1; exact hapn g hg
    · rw [e] at hg
      have hge : g = w1.heap.size + 1 := by simpa using hg.symm
      have hs1 := hx1.size
      rcases List.mem_append.1 hm with h1 | h1
      · intro hp ad had
        obtain ⟨i, hi⟩ := List.getElem?_of_mem h1
        have hil : i < (rows.take k).length := by
          have := (List.getElem?_eq_some_iff.1 hi).1
          rw [List.length_take]; have := (List.getElem?_eq_some_iff.1 hr).1; omega
        have := hblk h h1 _ (hG i h _ hi (List.getElem?_eq_getElem hil)) hp ad had
        omega
      · rw [List.mem_singleton] at h1
        subst h1
        intro hp ad had
        have := hlt1 hp ad had
        omega
  · intro h hm
    have hty : ∀ q, v.ownBlock = some q → Typed (w1.alloc o) 87 q := fun q hq => ((own_typed hO q hq).ext hx1).ext ((Ext.refl w1).alloc o)
    rcases List.mem_append.1 hm with h1 | h1
    · exact (((hF h h1).ext hx1).ext ((Ext.refl w1).alloc o)).grown hgr hty (by decide)
    · rw [List.mem_singleton] at h1
      subst h1
      exact ((hfr.le hx.size).ext ((Ext.refl w1).alloc o)).grown hgr hty (by decide)

set_option maxRecDepth 100000 in
set_option maxHeartbeats 2000000 in
theorem RClone_own (A : Option Addr) (n c : Nat) (rows : List Row) (w : World) (hl : RowsAt w A n rows) (hn : n * 24 ≤ 140737488355328) :
    Calls Tryz.prog 133 #[.slice A n c] w (SOwnPost rows n w) := by
  have HL := Lib.hid hl
  have HLn := Lib.hid hl.len
  clear hl
  go_enter Tryz.func133, Tryz.ntmps133
  go_wp2_with fail
  go_loopw [3, 8] (fun v i wr => RCloneRel w rows n v i wr) (fun _ i _ => n - (intOf i).toNat)
  case atStart => exact ⟨0, [], Nat.zero_le _, rfl, rfl, ⟨rfl, .inl ⟨rfl, rfl⟩⟩, Ext.refl _, fun i h r hi _ => by simp at hi, fun g hg h hm => by simp at hm, fun h hm => by simp at hm⟩
  case round =>
    obtain ⟨k, hs, hk, rfl, hsl, hown, hx, hgd, hap, hfr⟩ := hrel
    have HGd := Lib.hid hgd
    have HAp := Lib.hid hap
    have HFr := Lib.hid hfr
    have HSl := Lib.hid hsl
    have HO := Lib.hid hown
    clear hgd hap hfr hsl hown
    by_cases hlt : k < n
    · obtain ⟨b, off, r, rfl, hr, A', n', c', hcell, hnc, hc40, hruns⟩ := (HL.out.ext hx).at_ hlt
      simp only [Nat.mul_one] at hcell
      have HRu := Lib.hid hruns
      have HRr := Lib.hid hr
      clear hr hruns
      have hwr : w.heap.size ≤ wr.heap.size := hx.size
      go_wp2_with (first | (at_builtin; refine wpList_appendS rfl (.tmp 13) (.tmp 15) 85 rfl info_run Tryz.underlying85 rfl (by decide) (by exact own_nil0' (g := wr.heap.size + 1) (base := wr.heap.size + 1) (by simp) (Nat.le_refl _)) (by exact rfl) (by exact rfl) (by exact Sl.ext (Cells.stays _) HRu.out.cells (((Ext.refl wr).alloc _).alloc _)) (fun _ => rfl) run_ones (by omega) (by simp [maxLen]; omega) (by simp) ?_; intro v1 w1 hown1 hgr1 hnil1; simp only [Nat.zero_add, List.nil_append] at hown1; obtain ⟨A1, c1, hv1, hc1, _, hsl1, hfr1⟩ := own_sl (f := Run.cells) (size := 5) (fun _ => rfl) HRu.out.len hown1; have hx1 : Ext wr w1 := ((((Ext.refl wr).alloc _).alloc _).grown hgr1 (fun q hq => by simp [Value.ownBlock] at hq; omega)); have HX1 := Lib.hid hx1; have HS1 := Lib.hid hsl1; have HF1 := Lib.hid hfr1; have HOw1 := Lib.hid hown1; have hsz1 := hx1.size; clear hx1 hsl1 hfr1 hown1 hgr1 hnil1; rw [hv1] at HOw1; rw [hv1]; clear hv1) | (at_builtin; refine wpList_append1a rfl (.tmp 12) (.tmp 18) 64 rfl info_row Tryz.underlying64 rfl (by decide) ((own_ext HO.out HX1.out).alloc _) (by exact rfl) w1.heap.size _ (by exact rfl) (by exact Blk.new' rfl) (by exact rfl) (by simp [Value.oneCell']) (by omega) (by simp [maxLen]; omega) (by simp; omega) ?_; intro v' w3 hown3 hgr3 hat3))
      refine ⟨rclone_step hlt hx HX1.out HSl.out HO.out HGd.out HAp.out HFr.out HRr.out hc40 hc1 (RunsAt.of_cells HS1.out) ((Fresh.of_own HOw1.out).le (by omega)) (fun hp ad had => ?_) hown3 hgr3 hat3, by simp [intOf]; omega⟩
      obtain ⟨b', off', x, hA', _, hC⟩ := HS1.out.at_ (i := 0) hp
      rw [hA'] at had
      cases had
      exact World.block_lt_of_cell? w1 _ (hC 0 _ rfl)
    · have hkn : k = n := by omega
      subst hkn
      go_wp2_with fail
      go_ret
      obtain ⟨A', c', hv, hc, _, hsl', hfr'⟩ := own_sl (f := fun h : Hd => [Hd.val h]) (size := 1) (fun _ => rfl) HSl.out HO.out
      have HT : rows.take k = rows := List.take_of_length_le (by rw [HLn.out]; omega)
      refine ⟨A', c', by rw [← hv]; rfl, hc, ⟨hs, by rw [← hv]; exact HO.out, HSl.out, by have := HGd.out; rw [HT] at this; exact this, HLn.out, fun h hm => HFr.out h hm⟩, hx⟩
theorem RClone_any (A : Option Addr) (n c : Nat) (rows : List Row) (w : World) (hl : RowsAt w A n rows) (hn : n * 24 ≤ 140737488355328) :
    Calls Tryz.prog 133 #[.slice A n c] w (SClonePost rows n w) :=
  (RClone_own A n c rows w hl hn).mono fun _ _ ⟨A1, c1, h1, h2, h3, h4⟩ => ⟨A1, c1, h1, h2, h3.fresh, h4⟩
end Go.Proofs.YtagfedbdakmlgaaGreatDoor

/-! ECl -/
namespace Go.Proofs.YtagfedbdakmlgaaGreatDoor
set_option linter.unusedVariables false
set_option linter.unusedSimpArgs false
open Go.RowKit

/-- a store into a block of another type leaves the rows as they are -/
theorem RowsFresh.put {w : World} {L : Nat} {A : Option Addr} {n : Nat} {l : List Row} (h : RowsFresh w L A n l) {g : Nat} {t : TypeId} {cs : Array Value} (hB : Blk w g t cs) (cs' : Array Value) (h1 : 87 ≠ t) (h2 : 84 ≠ t) : RowsFresh (putB w g t cs') L A n l := by
  obtain ⟨hs, a1, a2, a3, a4, a5⟩ := h
  refine ⟨hs, Sl.keep a1 fun _ b off hA o x hx j u hu => ?_, fun i hd r a b => ?_, a3, a4.put hB cs' h1, fun x hx => (a5 x hx).put hB cs' h2⟩
  · have hb : b ≠ g := Typed.ne (a4 _ hA).2 hB.typed h1
    rw [putB_cell_other (p := ⟨b, o + j, none⟩) hb]; exact hx j u hu
  · have gd := a2 i hd r a b
    refine ⟨gd.1, gd.2.1, Sl.keep gd.2.2 fun _ b' off hA o x hx => ?_⟩
    have hb : b' ≠ g := Typed.ne (a5 hd (List.mem_of_getElem? a) _ hA).2 hB.typed h2
    have key : ∀ q v, w.cell? ⟨b', q, none⟩ = some v → (putB w g t cs').cell? ⟨b', q, none⟩ = some v := fun q v hv => by rw [putB_cell_other (p := ⟨b', q, none⟩) hb]; exact hv
    exact ⟨key _ _ hx.1, key _ _ hx.2.1, key _ _ hx.2.2.1, key _ _ hx.2.2.2.1, key _ _ hx.2.2.2.2⟩

theorem own_put {w : World} {L : Nat} {e : TypeId} {size : Nat} {v : Value} {n : Nat} {xs : List Value} (h : w.ownsRow L e size v n xs) {g : Nat} {t : TypeId} {cs : Array Value} (hB : Blk w g t cs) (cs' : Array Value) (hne : e ≠ t) : (putB w g t cs').ownsRow L e size v n xs := by
  have ht := own_typed h
  refine ⟨h.1, ?_⟩
  rcases h.2 with hn | ⟨g', cap, cur, rfl, hb, hg, rest⟩
  · exact .inl hn
  · refine .inr ⟨g', cap, cur, rfl, hb, ?_, rest⟩
    have : g ≠ g' := fun e => Typed.ne (ht g' rfl) hB.typed hne e.symm
    unfold putB
    simp only
    rw [Array.getElem?_setIfInBounds_ne this]
    exact hg
theorem RowsOwn.put {w : World} {L : Nat} {A : Option Addr} {n c : Nat} {l : List Row} (h : RowsOwn w L A n c l) {g : Nat} {t : TypeId} {cs : Array Value} (hB : Blk w g t cs) (cs' : Array Value) (h1 : 87 ≠ t) (h2 : 84 ≠ t) : RowsOwn (putB w g t cs') L A n c l := by
  obtain ⟨hs, a1, a2, a3, a4, a5⟩ := h
  refine ⟨hs, own_put a1 hB cs' h1, a2, fun i hd r a b => ?_, a4, fun x hx => (a5 x hx).put hB cs' h2⟩
  have gd := a3 i hd r a b
  refine ⟨gd.1, gd.2.1, Sl.keep gd.2.2 fun _ b' off hA o x hx => ?_⟩
  have hb : b' ≠ g := Typed.ne (a5 hd (List.mem_of_getElem? a) _ hA).2 hB.typed h2
  have key : ∀ q v, w.cell? ⟨b', q, none⟩ = some v → (putB w g t cs').cell? ⟨b', q, none⟩ = some v := fun q v hv => by rw [putB_cell_other (p := ⟨b', q, none⟩) hb]; exact hv
  exact ⟨key _ _ hx.1, key _ _ hx.2.1, key _ _ hx.2.2.1, key _ _ hx.2.2.2.1, key _ _ hx.2.2.2.2⟩

theorem size_event : (Tryz.prog.info? 66).map (·.size) = some 7 := by kernel_rfl
def evZero : Array Value := #[.int .i64 0, .int .i64 0, .int .i64 0, .string ⟨#[]⟩, .int .u8 0, .string ⟨#[]⟩, .slice none 0 0]

/-- what a copy of an event comes to -/
def EClPost (e : Ev) (n : Nat) (w : World) (en : Ending) (w' : World) : Prop :=
  ∃ A c, en = .returned (.agg (e.cells A n c)) ∧ n ≤ c ∧ RowsFresh w' w.heap.size A n e.rows ∧ Ext w w'

def EOwnPost (e : Ev) (n : Nat) (w : World) (en : Ending) (w' : World) : Prop :=
  ∃ A c, en = .returned (.agg (e.cells A n c)) ∧ n ≤ c ∧ RowsOwn w' w.heap.size A n c e.rows ∧ Ext w w'

set_option maxRecDepth 100000 in
set_option maxHeartbeats 2000000 in
theorem EClone_own (e : Ev) (A : Option Addr) (n c : Nat) (w : World) (he : EvAt w e A n c) :
    Calls Tryz.prog 57 #[.agg (e.cells A n c)] w (EOwnPost e n w) := by
  have hn24 := he.2.2
  have HE := Lib.hid he
  clear he
  have hx0 := ((Ext.refl w).alloc (.cells (e.cells A n c) 66)).alloc (.cells evZero 66)
  unfold Ev.cells evZero at hx0
  have HX0 := Lib.hid hx0
  clear hx0
  unfold Ev.cells
  go_enter Tryz.func57, Tryz.ntmps57
  go_wp2_with fail
  refine (SClone_own A n c e.rows _ (HE.out.1.ext HX0.out) hn24).mono ?_
  rintro en w1 ⟨A1, c1, rfl, hnc1, hrf, hx1⟩
  have HB0 := Lib.hid (Blk.ext ((Blk.new w 66 #[.int .i64 e.id, .int .i64 e.inn, .int .i64 e.out, .string e.region, .int .u8 e.kind, .string e.speaker, .slice A n c]).alloc _) hx1)
  have HB1 := Lib.hid (Blk.ext (Blk.new' (g := w.heap.size + 1) (by simp)) hx1)
  have hc0 := fun o => HB0.out.cell o
  have hf0 := fun o => HB0.out.frozen o
  have hset := fun u => setCell_put HB0.out 6 u
  have HRF := Lib.hid hrf
  clear hrf
  simp at hset
  go_wp2_with (first | (refine wpList_loadB rfl 66 (.tmp 1) rfl w.heap.size 66 _ _ (by exact rfl) (by exact HB0.out.put _) Tryz.underlying66 rfl (by exact size_event) ?_) | (refine wpList_storeB rfl 66 (.tmp 2) (.tmp 7) rfl (w.heap.size + 1) 66 _ _ (by exact rfl) (by exact rfl) (by exact HB1.out.put_other (by omega) _) (by exact rfl) (by exact size_event) (by simp [Value.oneCell']) ?_))
  refine bodyPost_ret (v := .agg (e.cells A1 n c1)) ?_ rfl ⟨A1, c1, rfl, hnc1, ?_, ?_⟩
  · exact results_B (P := Tryz.prog) Tryz.results57 (g := w.heap.size + 1) rfl (by exact (HB1.out.put_other (by omega) _).put _) Tryz.underlying66 rfl size_event
  · exact (RowsOwn.put (RowsOwn.put HRF.out HB0.out _ (by decide) (by decide)) (HB1.out.put_other (by omega) _) _ (by decide) (by decide)).le (by simp only [World.size_alloc]; omega)
  · exact (((HX0.out.trans hx1)).put (Nat.le_refl _) _ _).put (by omega) _ _

set_option maxRecDepth 100000 in
set_option maxHeartbeats 2000000 in
theorem REClone_own (e : Ev) (A : Option Addr) (n c : Nat) (w : World) (he : EvAt w e A n c) :
    Calls Tryz.prog 77 #[.agg (e.cells A n c)] w (EOwnPost e n w) := by
  have hn24 := he.2.2
  have HE := Lib.hid he
  clear he
  have hx0 := ((Ext.refl w).alloc (.cells (e.cells A n c) 66)).alloc (.cells evZero 66)
  unfold Ev.cells evZero at hx0
  have HX0 := Lib.hid hx0
  clear hx0
  unfold Ev.cells
  go_enter Tryz.func77, Tryz.ntmps77
  go_wp2_with fail
  refine (RClone_own A n c e.rows _ (HE.out.1.ext HX0.out) hn24).mono ?_
  rintro en w1 ⟨A1, c1, rfl, hnc1, hrf, hx1⟩
  have HB0 := Lib.hid (Blk.ext ((Blk.new w 66 #[.int .i64 e.id, .int .i64 e.inn, .int .i64 e.out, .string e.region, .int .u8 e.kind, .string e.speaker, .slice A n c]).alloc _) hx1)
  have HB1 := Lib.hid (Blk.ext (Blk.new' (g := w.heap.size + 1) (by simp)) hx1)
  have hc0 := fun o => HB0.out.cell o
  have hf0 := fun o => HB0.out.frozen o
  have hset := fun u => setCell_put HB0.out 6 u
  have HRF := Lib.hid hrf
  clear hrf
  simp at hset
  go_wp2_with (first | (refine wpList_loadB rfl 66 (.tmp 1) rfl w.heap.size 66 _ _ (by exact rfl) (by exact HB0.out.put _) Tryz.underlying66 rfl (by exact size_event) ?_) | (refine wpList_storeB rfl 66 (.tmp 2) (.tmp 7) rfl (w.heap.size + 1) 66 _ _ (by exact rfl) (by exact rfl) (by exact HB1.out.put_other (by omega) _) (by exact rfl) (by exact size_event) (by simp [Value.oneCell']) ?_))
  refine bodyPost_ret (v := .agg (e.cells A1 n c1)) ?_ rfl ⟨A1, c1, rfl, hnc1, ?_, ?_⟩
  · exact results_B (P := Tryz.prog) Tryz.results77 (g := w.heap.size + 1) rfl (by exact (HB1.out.put_other (by omega) _).put _) Tryz.underlying66 rfl size_event
  · exact (RowsOwn.put (RowsOwn.put HRF.out HB0.out _ (by decide) (by decide)) (HB1.out.put_other (by omega) _) _ (by decide) (by decide)).le (by simp only [World.size_alloc]; omega)
  · exact (((HX0.out.trans hx1)).put (Nat.le_refl _) _ _).put (by omega) _ _
theorem EClone_any (e : Ev) (A : Option Addr) (n c : Nat) (w : World) (he : EvAt w e A n c) : Calls Tryz.prog 57 #[.agg (e.cells A n c)] w (EClPost e n w) :=
  (EClone_own e A n c w he).mono fun _ _ ⟨A1, c1, h1, h2, h3, h4⟩ => ⟨A1, c1, h1, h2, h3.fresh, h4⟩
theorem REClone_any (e : Ev) (A : Option Addr) (n c : Nat) (w : World) (he : EvAt w e A n c) : Calls Tryz.prog 77 #[.agg (e.cells A n c)] w (EClPost e n w) :=
  (REClone_own e A n c w he).mono fun _ _ ⟨A1, c1, h1, h2, h3, h4⟩ => ⟨A1, c1, h1, h2, h3.fresh, h4⟩
end Go.Proofs.YtagfedbdakmlgaaGreatDoor
