/- Laid together: Lists of shows in memory: rows of one's own whose screens lie in rows of characters. Equality of runs and rows: slices.Equal, style.Same, slices.EqualFunc, style.SameRows; the reference's Same, SameRows. Equality of screens: slices.Equal, display.Same, the reference's Same. DERIVED: THE SHELF's CONTRACTS AT THIS DUMP, IN PLAIN WORDS (tools/lay-plain.mjs out of 'TryzLst.lean', which tools/lay-shelf.mjs wrote): THE SAME DECLARATIONS UNDER THE SAME NAMES: 'import', 'namespace', 'open', 'def', 'theorem' AND NOTHING ELSE: no command of the shelf's: FOR A HAND-IN. Each laying: the table of numbers ('.._ren') and one theorem, a field a fact of the dump's own or the kernel's comparison; each contract: ONE APPLICATION. The library's sort and compaction at numbers of 64 bits. -/
import Derived.Test.YtajbhfmdmajpmaaGreatDoorPk17
import Derived.Test.YtajbhfmdmajpmaaGreatDoorPk16
import Derived.Test.YtajbhfmdmajpmaaGreatDoorPk02
import Derived.Test.YtajbhfmdmajpmaaGreatDoorPk12
import Derived.Shelf.SlGeneric
import Derived.Shelf.SlLaysNS
import Derived.Shelf.SlSortCmp.KitK
import Derived.Shelf.SlicesG.CompactI
import Derived.Ground.SlsfProg
import Derived.Ground.SlgcProg
import Derived.Ground.SlgnProg
import Derived.Test.YtajbhfmdmajpmaaGreatDoorProg
import Derived.Test.YtajbhfmdmajpmaaGreatDoorShelf
import Derived.Test.YtajbhfmdmajpmaaGreatDoorPk03
import Derived.Shelf.SortG.AssemblyIn
import Derived.Sort.EveryDepth
import Derived.Lib.OwnBridge

/-! ShM -/
namespace Go.Proofs.YtajbhfmdmajpmaaGreatDoor
set_option linter.unusedVariables false
set_option linter.unusedSimpArgs false
open Go.RowKit
/-- a show, and where its screen lies -/
abbrev ShP := Sh × Option Addr × Nat
def shVals (p : ShP) : List Value := [.int .i64 p.1.inn, .int .i64 p.1.out, .slice p.2.1 p.1.scr.length p.2.2]
theorem shVals_len (p : ShP) : (shVals p).length = 3 := rfl
theorem info_show : (Tryz.prog.info? 64).map (fun i => (i.zero, i.size, i.bytes)) = some (some (.agg #[.int .i64 0, .int .i64 0, .slice none 0 0]), 3, 40) := by kernel_rfl
theorem size_show : (Tryz.prog.info? 64).map (·.size) = some 3 := by kernel_rfl
/-- the screen lies in a row of characters -/
structure ScrIn (w : World) (p : ShP) : Prop where
  gls : GlsAt w p.2.1 p.1.scr.length p.1.scr
  cap : p.1.scr.length ≤ p.2.2
  ty : ∀ ad, p.2.1 = some ad → Typed w 58 ad.block
section
variable {w w1 : World} {p : ShP}
theorem GlsAt.kb {A : Option Addr} {n : Nat} {l : List Gl} (h : GlsAt w A n l) (ht : ∀ ad, A = some ad → Typed w 58 ad.block) (k : KB 58 w w1) : GlsAt w1 A n l :=
  Sl.keep h fun _ b off hA o x hx j u hu => by rw [(ht _ hA).cell_kb k]; exact hx j u hu
theorem ScrIn.kb (h : ScrIn w p) (k : KB 58 w w1) : ScrIn w1 p := ⟨h.gls.kb h.ty k, h.cap, fun ad e => (h.ty ad e).kb k⟩
theorem ScrIn.ext (h : ScrIn w p) (k : Ext w w1) : ScrIn w1 p := h.kb (KB.ext k)
theorem ScrIn.only {T : TypeId} (h : ScrIn w p) (k : Only T w w1) (hn : 58 ≠ T) : ScrIn w1 p := h.kb (k.kb _ hn)
end
/-- shows in a row of one's own -/
def ShOwn (w : World) (base : Nat) (v : Value) (ps : List ShP) : Prop := w.ownsRow base 64 3 v ps.length (ps.flatMap shVals) ∧ ∀ p ∈ ps, ScrIn w p
section
variable {w w1 : World} {base : Nat} {v : Value} {ps : List ShP}
theorem ShOwn.nil (w : World) (base : Nat) : ShOwn w base (.slice none 0 0) [] := ⟨⟨rfl, .inl ⟨rfl, rfl⟩⟩, by simp⟩
theorem ShOwn.ext (h : ShOwn w base v ps) (k : Ext w w1) : ShOwn w1 base v ps := ⟨own_ext h.1 k, fun p hp => (h.2 p hp).ext k⟩
theorem ShOwn.snoc {p : ShP} {v' : Value} (h : ShOwn w base v ps) (hx : ScrIn w p) (ho : w1.ownsRow base 64 3 v' (ps.length + 1) (ps.flatMap shVals ++ shVals p)) (hg : w.grownBy w1 v.ownBlock) : ShOwn w1 base v' (ps ++ [p]) := by
  have hO : KB 58 w w1 := (Only.grown (T := 64) hg (own_typed h.1)).kb _ (by decide)
  refine ⟨?_, fun q hq => ?_⟩
  · rw [List.length_append, List.flatMap_append]
    simpa using ho
  · rcases List.mem_append.1 hq with hq | hq
    · exact (h.2 q hq).kb hO
    · rw [List.mem_singleton] at hq; subst hq; exact hx.kb hO
theorem ShOwn.form (h : ShOwn w base v ps) (hn : ps ≠ []) : ∃ g cap, v = .slice (some ⟨g, 0, none⟩) ps.length cap ∧ base ≤ g ∧ Typed w 64 g ∧ (∀ (k : Nat) (p : ShP), ps[k]? = some p → w.cell? ⟨g, k * 3, none⟩ = some (.int .i64 p.1.inn) ∧ w.cell? ⟨g, k * 3 + 1, none⟩ = some (.int .i64 p.1.out) ∧ w.cell? ⟨g, k * 3 + 2, none⟩ = some (.slice p.2.1 p.1.scr.length p.2.2)) := by
  obtain ⟨A, c, hv, hc, hm, hS, hb⟩ := own_sl (f := shVals) (size := 3) shVals_len rfl h.1
  have ht := own_typed h.1
  have hl : 0 < ps.length := List.length_pos_iff.2 hn
  obtain ⟨g, off, hA, hcell⟩ := hS.2 hl
  have h0 : off = 0 := by
    rcases h.1.2 with ⟨e, _⟩ | ⟨g', cap', cur, e, _⟩
    · rw [hv] at e; rw [hA] at e; cases e
    · rw [hv, hA] at e; cases e; rfl
  subst h0
  subst hA
  subst hv
  refine ⟨g, c, rfl, hb _ rfl, ht g rfl, fun k p hp => ?_⟩
  have hC := hcell k p hp
  rw [Nat.zero_add] at hC
  exact ⟨by simpa using hC 0 _ rfl, hC 1 _ rfl, hC 2 _ rfl⟩
/-- the last show goes on -/
theorem ShOwn.store {g cap k : Nat} {p : ShP} {b : Int} (h : ShOwn w base (.slice (some ⟨g, 0, none⟩) ps.length cap) ps) (hk : k + 1 = ps.length) (hp : ps[k]? = some p) :
    ShOwn (w.setCell ⟨g, k * 3 + 1, none⟩ (.int .i64 b)) base (.slice (some ⟨g, 0, none⟩) ps.length cap) (ps.set k ({ p.1 with out := b }, p.2)) ∧ (ps.set k ({ p.1 with out := b }, p.2)).map (·.1) = shExt (ps.map (·.1)) b := by
  have ht : Typed w 64 g := own_typed h.1 g rfl
  have hO : KB 58 w (w.setCell ⟨g, k * 3 + 1, none⟩ (.int .i64 b)) := (Only.set (p := ⟨g, k * 3 + 1, none⟩) ht).kb _ (by decide)
  have hs := (h.1.stored (k * 3 + 1) (.int .i64 b)).1
  rw [flat_set (f := shVals) (size := 3) shVals_len ps k 1 p ({ p.1 with out := b }, p.2) _ hp rfl (by decide)] at hs
  refine ⟨⟨by rw [List.length_set]; exact hs, fun q hq => ?_⟩, ?_⟩
  · rcases List.mem_or_eq_of_mem_set hq with hq | rfl
    · exact (h.2 q hq).kb hO
    · have := (h.2 p (List.mem_of_getElem? hp)).kb hO
      exact ⟨this.gls, this.cap, this.ty⟩
  · unfold shExt
    have hl : (ps.map (·.1)).getLast? = some p.1 := by
      rw [List.getLast?_eq_getElem?, List.length_map, List.getElem?_map, show ps.length - 1 = k by omega, hp]
      rfl
    rw [hl]
    simp only
    rw [List.map_set, List.set_eq_take_append_cons_drop, if_pos (by rw [List.length_map]; omega), List.drop_of_length_le (by rw [List.length_map]; omega), List.dropLast_eq_take, List.length_map]
    rw [show ps.length - 1 = k by omega]
end
def ShowsPost (err : Int) (l : List Sh) (w : World) (en : Ending) (w' : World) : Prop :=
  ∃ A c ps, en = .returned (.tuple #[.slice A l.length c, .int .i64 err]) ∧ ps.map (·.1) = l ∧ Sl w' 3 (Cells shVals) A l.length ps ∧ l.length ≤ c ∧ (∀ p ∈ ps, ScrIn w' p) ∧ Ext w w'
theorem showsPost_err {e : Int} {w w' : World} (hx : Ext w w') : ShowsPost e [] w (.returned (.tuple #[.slice none 0 0, .int .i64 e])) w' := ⟨none, 0, [], rfl, rfl, Sl.nil, Nat.le_refl _, by simp, hx⟩
theorem ShOwn.post {w w0 : World} {base : Nat} {v : Value} {ps : List ShP} {l : List Sh} (h : ShOwn w base v ps) (hl : ps.map (·.1) = l) (hx : Ext w0 w) : ShowsPost 0 l w0 (.returned (.tuple #[v, .int .i64 0])) w := by
  obtain ⟨A, c, rfl, hc, _, hS, _⟩ := own_sl (f := shVals) (size := 3) shVals_len rfl h.1
  have e : l.length = ps.length := by rw [← hl, List.length_map]
  unfold ShowsPost
  rw [e]
  exact ⟨A, c, ps, rfl, hl, hS, hc, h.2, hx⟩
/-- what Shows returns -/
def Doc.shw (d : Doc) : List Sh := if d.err = 0 then d.shows else []
/-- the last show, if there is one -/
theorem goes_last {ps : List ShP} {k : Nat} {p : ShP} (hk : k + 1 = ps.length) (hp : ps[k]? = some p) (a : Int) (s : List Gl) : goesB (ps.map (·.1)) a s = (decide (p.1.out = a) && decide (p.1.scr = s)) := by
  unfold goesB
  rw [List.getLast?_eq_getElem?, List.length_map, List.getElem?_map, show ps.length - 1 = k by omega, hp]
  rfl
end Go.Proofs.YtajbhfmdmajpmaaGreatDoor

/-! Same -/
namespace Go.Proofs.YtajbhfmdmajpmaaGreatDoor
set_option linter.unusedVariables false
set_option linter.unusedSimpArgs false
open Go.RowKit
def EqRel {α : Type} (w : World) (n : Nat) (l1 l2 : List α) (i : Value) (wr : World) : Prop := ∃ k : Nat, k ≤ n ∧ i = .int .i64 k ∧ Ext w wr ∧ l1.take k = l2.take k
theorem eq_of_take {α : Type} {l1 l2 : List α} {n : Nat} (h1 : l1.length = n) (h2 : l2.length = n) (h : l1.take n = l2.take n) : l1 = l2 := by
  rw [List.take_of_length_le (by omega), List.take_of_length_le (by omega)] at h
  exact h
theorem take_eq_succ {α : Type} {l1 l2 : List α} {k : Nat} {x : α} (h : l1.take k = l2.take k) (h1 : l1[k]? = some x) (h2 : l2[k]? = some x) : l1.take (k + 1) = l2.take (k + 1) := by
  rw [List.take_add_one, List.take_add_one, h, h1, h2]
theorem ne_at {α : Type} {l1 l2 : List α} {k : Nat} {x y : α} (h1 : l1[k]? = some x) (h2 : l2[k]? = some y) (h : ¬ x = y) : ¬ l1 = l2 := by
  rintro rfl
  rw [h1] at h2
  exact h (Option.some.inj h2)
end Go.Proofs.YtajbhfmdmajpmaaGreatDoor

/-! GlS -/
namespace Go.Proofs.YtajbhfmdmajpmaaGreatDoor
set_option linter.unusedVariables false
set_option linter.unusedSimpArgs false
open Go.RowKit
def Gl.aggV (c : Gl) : Value := .agg #[.int .i64 c.row, .int .i64 c.col, .int .i32 c.ch, .int .u8 c.color, .bool c.italic, .bool c.under]
theorem neq_gl (a b : Gl) (w : World) : (binOp .neq 58 a.aggV b.aggV).run Tryz.prog w = .ok (.bool (!decide (a = b))) w := by
  obtain ⟨a1, a2, a3, a4, a5, a6⟩ := a
  obtain ⟨b1, b2, b3, b4, b5, b6⟩ := b
  unfold Gl.aggV
  dsimp only
  go_simp
  repeat' split
  all_goals simp_all
theorem neq_gl_yes (a b : Gl) (h : ¬ a = b) (w : World) : (binOp .neq 58 a.aggV b.aggV).run Tryz.prog w = .ok (.bool true) w := by rw [neq_gl, decide_eq_false h]; rfl
theorem neq_gl_no (a : Gl) (w : World) : (binOp .neq 58 a.aggV a.aggV).run Tryz.prog w = .ok (.bool false) w := by rw [neq_gl, decide_eq_true rfl]; rfl
set_option maxRecDepth 100000 in
set_option maxHeartbeats 2000000 in
theorem EqualGls_any (A : Option Addr) (n c : Nat) (B : Option Addr) (m d : Nat) (l1 l2 : List Gl) (w : World) (h1 : GlsAt w A n l1) (h2 : GlsAt w B m l2) (hn : n ≤ 4611686018427387904) :
    Calls Tryz.prog 52 #[.slice A n c, .slice B m d] w fun e w' => e = .returned (.bool (decide (l1 = l2))) ∧ Ext w w' := by
  have L1 := Lib.hid h1.len
  have L2 := Lib.hid h2.len
  have H1 := Lib.hid h1
  have H2 := Lib.hid h2
  clear h1 h2
  by_cases hnm : n = m
  · subst hnm
    go_enter Tryz.func52, Tryz.ntmps52
    go_wp2_with fail
    go_loopw [13] (fun i wr => EqRel w n l1 l2 i wr) (fun i _ => n - (intOf i).toNat)
    case atStart => exact ⟨0, Nat.zero_le _, rfl, Ext.refl _, rfl⟩
    case round =>
      obtain ⟨k, hk, rfl, hx, hp⟩ := hrel
      have HP := Lib.hid hp
      clear hp
      by_cases hlt : k < n
      · obtain ⟨b1, o1, r, rfl, hr, c0, c1, c2, c3, c4, c5⟩ := (H1.out.ext hx).at6 hlt
        obtain ⟨b2, o2, s, rfl, hs, d0, d1, d2, d3, d4, d5⟩ := (H2.out.ext hx).at6 hlt
        have HR := Lib.hid hr
        have HS := Lib.hid hs
        clear hr hs
        have hk0 : (0 : Int) ≤ (k : Int) := by omega
        have hk1 : (k : Int) < (n : Int) := by omega
        by_cases hq : r = s
        · subst hq
          have HT := Lib.hid (take_eq_succ HP.out HR.out HS.out)
          have hne := fun w => neq_gl_no r w
          unfold Gl.aggV at hne
          go_wp2_with fail
          go_quiet (fail)
          go_wp2_with fail
          exact ⟨⟨k + 1, by omega, by go_num, hx.drewN _, HT.out⟩, by simp [intOf]; omega⟩
        · have hne := fun w => neq_gl_yes r s hq w
          have HN := Lib.hid (ne_at HR.out HS.out hq)
          unfold Gl.aggV at hne
          clear hq
          go_wp2_with fail
          go_quiet (fail)
          go_wp2_with fail
          go_ret
          exact ⟨ret_bool (decide_eq_false HN.out).symm, hx.drewN _⟩
      · have hkn : k = n := by omega
        subst hkn
        have HQ := Lib.hid (eq_of_take L1.out L2.out HP.out)
        go_wp2_with fail
        go_ret
        exact ⟨ret_bool (decide_eq_true HQ.out).symm, hx⟩
  · have hb : ((n : Int) != (m : Int)) = true := by simp; omega
    have HN : Hid (¬ l1 = l2) := by
      show ¬ _
      intro h
      apply hnm
      rw [← L1.out, ← L2.out, h]
    go_enter Tryz.func52, Tryz.ntmps52
    go_wp2_with fail
    go_ret
    exact ⟨ret_bool (decide_eq_false HN.out).symm, Ext.refl _⟩
set_option maxRecDepth 100000 in
set_option maxHeartbeats 2000000 in
theorem R32Same_any (A : Option Addr) (n c : Nat) (B : Option Addr) (m d : Nat) (l1 l2 : List Gl) (w : World) (h1 : GlsAt w A n l1) (h2 : GlsAt w B m l2) (hn : n ≤ 4611686018427387904) :
    Calls Tryz.prog 16 #[.slice A n c, .slice B m d] w fun e w' => e = .returned (.bool (decide (l1 = l2))) ∧ Ext w w' := by
  have L1 := Lib.hid h1.len
  have L2 := Lib.hid h2.len
  have H1 := Lib.hid h1
  have H2 := Lib.hid h2
  clear h1 h2
  by_cases hnm : n = m
  · subst hnm
    go_enter Tryz.func16, Tryz.ntmps16
    go_wp2_with fail
    go_loopw [13] (fun i wr => EqRel w n l1 l2 i wr) (fun i _ => n - (intOf i).toNat)
    case atStart => exact ⟨0, Nat.zero_le _, rfl, Ext.refl _, rfl⟩
    case round =>
      obtain ⟨k, hk, rfl, hx, hp⟩ := hrel
      have HP := Lib.hid hp
      clear hp
      by_cases hlt : k < n
      · obtain ⟨b1, o1, r, rfl, hr, c0, c1, c2, c3, c4, c5⟩ := (H1.out.ext hx).at6 hlt
        obtain ⟨b2, o2, s, rfl, hs, d0, d1, d2, d3, d4, d5⟩ := (H2.out.ext hx).at6 hlt
        have HR := Lib.hid hr
        have HS := Lib.hid hs
        clear hr hs
        have hk0 : (0 : Int) ≤ (k : Int) := by omega
        have hk1 : (k : Int) < (n : Int) := by omega
        by_cases hq : r = s
        · subst hq
          have HT := Lib.hid (take_eq_succ HP.out HR.out HS.out)
          have hne := fun w => neq_gl_no r w
          unfold Gl.aggV at hne
          go_wp2_with fail
          go_quiet (fail)
          go_wp2_with fail
          exact ⟨⟨k + 1, by omega, by go_num, hx.drewN _, HT.out⟩, by simp [intOf]; omega⟩
        · have hne := fun w => neq_gl_yes r s hq w
          have HN := Lib.hid (ne_at HR.out HS.out hq)
          unfold Gl.aggV at hne
          clear hq
          go_wp2_with fail
          go_quiet (fail)
          go_wp2_with fail
          go_ret
          exact ⟨ret_bool (decide_eq_false HN.out).symm, hx.drewN _⟩
      · have hkn : k = n := by omega
        subst hkn
        have HQ := Lib.hid (eq_of_take L1.out L2.out HP.out)
        go_wp2_with fail
        go_ret
        exact ⟨ret_bool (decide_eq_true HQ.out).symm, hx⟩
  · have hb : ((n : Int) != (m : Int)) = true := by simp; omega
    have HN : Hid (¬ l1 = l2) := by
      show ¬ _
      intro h
      apply hnm
      rw [← L1.out, ← L2.out, h]
    go_enter Tryz.func16, Tryz.ntmps16
    go_wp2_with fail
    go_ret
    exact ⟨ret_bool (decide_eq_false HN.out).symm, Ext.refl _⟩
theorem GSame_any (A : Option Addr) (n c : Nat) (B : Option Addr) (m d : Nat) (l1 l2 : List Gl) (w : World) (h1 : GlsAt w A n l1) (h2 : GlsAt w B m l2) (hn : n ≤ 4611686018427387904) :
    Calls Tryz.prog 26 #[.slice A n c, .slice B m d] w fun e w' => e = .returned (.bool (decide (l1 = l2))) ∧ Ext w w' := by
  have H := Lib.hid (EqualGls_any A n c B m d l1 l2 w h1 h2 hn)
  clear h1 h2
  go_enter Tryz.func26, Tryz.ntmps26
  go_wp2_with fail
  refine H.out.mono ?_
  rintro en w1 ⟨rfl, hx1⟩
  go_wp2_with fail
  go_ret
  exact ⟨rfl, hx1⟩
end Go.Proofs.YtajbhfmdmajpmaaGreatDoor

/-! LayDsp -/
namespace Go.Proofs
open Go.Shelf
def Tryz.srtOv_ren : Go.Shelf.Ren := ⟨fun | 6 => 43 | 15 => 70 | 14 => 73 | 28 => 115 | 29 => 116 | 20 => 119 | 21 => 120 | 22 => 121 | 23 => 122 | 24 => 123 | 25 => 124 | 26 => 125 | 27 => 126 | 46 => 152 | 47 => 147 | 48 => 148 | 49 => 153 | 50 => 154 | 57 => 163 | n => n, fun | 22 => 40 | 24 => 46 | 25 => 82 | 3 => 3 | 39 => 114 | 0 => 0 | 53 => 157 | 55 => 159 | 4 => 4 | 46 => 150 | 45 => 149 | 50 => 86 | 5 => 5 | 9 => 9 | 66 => 178 | 70 => 182 | 76 => 197 | 77 => 198 | n => n, fun | n => n⟩
theorem Tryz.srtOv : Go.Proofs.SlLaysF0.n6 Tryz.prog Tryz.srtOv_ren := {
  mixed := by kernel_rfl
  f6 := ⟨Tryz.f43.name, by decide, Tryz.func43.trans (congrArg some (by kernel_rfl))⟩
  f14 := ⟨Tryz.f73.name, by decide, Tryz.func73.trans (congrArg some (by kernel_rfl))⟩
  f15 := Tryz.func70.trans (congrArg some (by kernel_rfl))
  f20 := ⟨Tryz.f119.name, by decide, Tryz.func119.trans (congrArg some (by kernel_rfl))⟩
  f21 := ⟨Tryz.f120.name, by decide, Tryz.func120.trans (congrArg some (by kernel_rfl))⟩
  f22 := ⟨Tryz.f121.name, by decide, Tryz.func121.trans (congrArg some (by kernel_rfl))⟩
  f23 := ⟨Tryz.f122.name, by decide, Tryz.func122.trans (congrArg some (by kernel_rfl))⟩
  f24 := ⟨Tryz.f123.name, by decide, Tryz.func123.trans (congrArg some (by kernel_rfl))⟩
  f25 := ⟨Tryz.f124.name, by decide, Tryz.func124.trans (congrArg some (by kernel_rfl))⟩
  f26 := ⟨Tryz.f125.name, by decide, Tryz.func125.trans (congrArg some (by kernel_rfl))⟩
  f27 := ⟨Tryz.f126.name, by decide, Tryz.func126.trans (congrArg some (by kernel_rfl))⟩
  f28 := Tryz.func115.trans (congrArg some (by kernel_rfl))
  f29 := Tryz.func116.trans (congrArg some (by kernel_rfl))
  f46 := ⟨Tryz.f152.name, by decide, Tryz.func152.trans (congrArg some (by kernel_rfl))⟩
  f47 := Tryz.func147.trans (congrArg some (by kernel_rfl))
  f48 := Tryz.func148.trans (congrArg some (by kernel_rfl))
  f49 := ⟨Tryz.f153.name, by decide, Tryz.func153.trans (congrArg some (by kernel_rfl))⟩
  f50 := ⟨Tryz.f154.name, by decide, Tryz.func154.trans (congrArg some (by kernel_rfl))⟩
  f57 := ⟨Tryz.f163.name, by decide, Tryz.func163.trans (congrArg some (by kernel_rfl))⟩
  t0 := Tryz.underlying0
  a0 := Tryz.isAgg0
  z0 := Tryz.sizeOf0
  v0 := Tryz.zeroValue0
  t3 := Tryz.underlying3
  a3 := Tryz.isAgg3
  z3 := Tryz.sizeOf3
  v3 := Tryz.zeroValue3
  t4 := Tryz.underlying4
  a4 := Tryz.isAgg4
  z4 := Tryz.sizeOf4
  v4 := Tryz.zeroValue4
  t5 := Tryz.underlying5
  a5 := Tryz.isAgg5
  z5 := Tryz.sizeOf5
  v5 := Tryz.zeroValue5
  t9 := Tryz.underlying9
  a9 := Tryz.isAgg9
  z9 := Tryz.sizeOf9
  v9 := Tryz.zeroValue9
  t22 := Tryz.underlying40
  a22 := Tryz.isAgg40
  z22 := Tryz.sizeOf40
  v22 := Tryz.zeroValue40
  t25 := Tryz.underlying82
  a25 := Tryz.isAgg82
  z25 := Tryz.sizeOf82
  v25 := Tryz.zeroValue82
  t39 := Tryz.underlying114
  a39 := Tryz.isAgg114
  z39 := Tryz.sizeOf114
  v39 := Tryz.zeroValue114
  t45 := Tryz.underlying149
  a45 := Tryz.isAgg149
  z45 := Tryz.sizeOf149
  v45 := Tryz.zeroValue149
  t46 := Tryz.underlying150
  a46 := Tryz.isAgg150
  z46 := Tryz.sizeOf150
  v46 := Tryz.zeroValue150
  t50 := Tryz.underlying86
  a50 := Tryz.isAgg86
  z50 := Tryz.sizeOf86
  v50 := Tryz.zeroValue86
  t53 := Tryz.underlying157
  a53 := Tryz.isAgg157
  z53 := Tryz.sizeOf157
  v53 := Tryz.zeroValue157
  t55 := Tryz.underlying159
  a55 := Tryz.isAgg159
  z55 := Tryz.sizeOf159
  v55 := Tryz.zeroValue159
  t66 := Tryz.underlying178
  a66 := Tryz.isAgg178
  z66 := Tryz.sizeOf178
  v66 := Tryz.zeroValue178
  t70 := Tryz.underlying182
  a70 := Tryz.isAgg182
  z70 := Tryz.sizeOf182
  v70 := Tryz.zeroValue182
  t76 := Tryz.underlying197
  a76 := Tryz.isAgg197
  z76 := Tryz.sizeOf197
  v76 := Tryz.zeroValue197
  t77 := Tryz.underlying198
  a77 := Tryz.isAgg198
  z77 := Tryz.sizeOf198
  v77 := Tryz.zeroValue198 }
def Tryz.cmpT_ren : Go.Shelf.Ren := ⟨fun | 43 => 38 | n => n, fun | 22 => 71 | 23 => 2 | 3 => 3 | 4 => 4 | 0 => 0 | n => n, fun | n => n⟩
theorem Tryz.cmpT : Go.Proofs.SlLaysN.n43 Tryz.prog Tryz.cmpT_ren := {
  mixed := by kernel_rfl
  f43 := ⟨Tryz.f38.name, by decide, Tryz.func38.trans (congrArg some (by kernel_rfl))⟩
  t0 := Tryz.underlying0
  a0 := Tryz.isAgg0
  z0 := Tryz.sizeOf0
  v0 := Tryz.zeroValue0
  t3 := Tryz.underlying3
  a3 := Tryz.isAgg3
  z3 := Tryz.sizeOf3
  v3 := Tryz.zeroValue3
  t4 := Tryz.underlying4
  a4 := Tryz.isAgg4
  z4 := Tryz.sizeOf4
  v4 := Tryz.zeroValue4
  t22 := Tryz.underlying71
  a22 := Tryz.isAgg71
  z22 := Tryz.sizeOf71
  v22 := Tryz.zeroValue71
  t23 := Tryz.underlying2
  a23 := Tryz.isAgg2
  z23 := Tryz.sizeOf2
  v23 := Tryz.zeroValue2
  i23 := by kernel_rfl }
def Tryz.srtT_ren : Go.Shelf.Ren := ⟨fun | 53 => 37 | 64 => 70 | 63 => 69 | 78 => 115 | 79 => 116 | 70 => 106 | 71 => 107 | 72 => 108 | 73 => 109 | 74 => 110 | 75 => 111 | 59 => 112 | 76 => 113 | 77 => 114 | 88 => 146 | 89 => 147 | 90 => 148 | 91 => 149 | 92 => 150 | 68 => 138 | 96 => 161 | n => n, fun | 22 => 71 | 23 => 2 | 3 => 3 | 51 => 114 | 0 => 0 | 67 => 157 | 69 => 159 | 4 => 4 | 61 => 150 | 60 => 149 | 44 => 86 | 5 => 5 | 9 => 9 | 75 => 178 | 79 => 182 | 83 => 197 | 84 => 198 | n => n, fun | n => n⟩
theorem Tryz.srtT : Go.Proofs.SlLaysN.n53 Tryz.prog Tryz.srtT_ren := {
  mixed := by kernel_rfl
  f53 := ⟨Tryz.f37.name, by decide, Tryz.func37.trans (congrArg some (by kernel_rfl))⟩
  f59 := ⟨Tryz.f112.name, by decide, Tryz.func112.trans (congrArg some (by kernel_rfl))⟩
  f63 := ⟨Tryz.f69.name, by decide, Tryz.func69.trans (congrArg some (by kernel_rfl))⟩
  f64 := Tryz.func70.trans (congrArg some (by kernel_rfl))
  f68 := ⟨Tryz.f138.name, by decide, Tryz.func138.trans (congrArg some (by kernel_rfl))⟩
  f70 := ⟨Tryz.f106.name, by decide, Tryz.func106.trans (congrArg some (by kernel_rfl))⟩
  f71 := ⟨Tryz.f107.name, by decide, Tryz.func107.trans (congrArg some (by kernel_rfl))⟩
  f72 := ⟨Tryz.f108.name, by decide, Tryz.func108.trans (congrArg some (by kernel_rfl))⟩
  f73 := ⟨Tryz.f109.name, by decide, Tryz.func109.trans (congrArg some (by kernel_rfl))⟩
  f74 := ⟨Tryz.f110.name, by decide, Tryz.func110.trans (congrArg some (by kernel_rfl))⟩
  f75 := ⟨Tryz.f111.name, by decide, Tryz.func111.trans (congrArg some (by kernel_rfl))⟩
  f76 := ⟨Tryz.f113.name, by decide, Tryz.func113.trans (congrArg some (by kernel_rfl))⟩
  f77 := ⟨Tryz.f114.name, by decide, Tryz.func114.trans (congrArg some (by kernel_rfl))⟩
  f78 := Tryz.func115.trans (congrArg some (by kernel_rfl))
  f79 := Tryz.func116.trans (congrArg some (by kernel_rfl))
  f88 := ⟨Tryz.f146.name, by decide, Tryz.func146.trans (congrArg some (by kernel_rfl))⟩
  f89 := Tryz.func147.trans (congrArg some (by kernel_rfl))
  f90 := Tryz.func148.trans (congrArg some (by kernel_rfl))
  f91 := ⟨Tryz.f149.name, by decide, Tryz.func149.trans (congrArg some (by kernel_rfl))⟩
  f92 := ⟨Tryz.f150.name, by decide, Tryz.func150.trans (congrArg some (by kernel_rfl))⟩
  f96 := ⟨Tryz.f161.name, by decide, Tryz.func161.trans (congrArg some (by kernel_rfl))⟩
  t0 := Tryz.underlying0
  a0 := Tryz.isAgg0
  z0 := Tryz.sizeOf0
  v0 := Tryz.zeroValue0
  t3 := Tryz.underlying3
  a3 := Tryz.isAgg3
  z3 := Tryz.sizeOf3
  v3 := Tryz.zeroValue3
  t4 := Tryz.underlying4
  a4 := Tryz.isAgg4
  z4 := Tryz.sizeOf4
  v4 := Tryz.zeroValue4
  t5 := Tryz.underlying5
  a5 := Tryz.isAgg5
  z5 := Tryz.sizeOf5
  v5 := Tryz.zeroValue5
  t9 := Tryz.underlying9
  a9 := Tryz.isAgg9
  z9 := Tryz.sizeOf9
  v9 := Tryz.zeroValue9
  t22 := Tryz.underlying71
  a22 := Tryz.isAgg71
  z22 := Tryz.sizeOf71
  v22 := Tryz.zeroValue71
  t23 := Tryz.underlying2
  a23 := Tryz.isAgg2
  z23 := Tryz.sizeOf2
  v23 := Tryz.zeroValue2
  t44 := Tryz.underlying86
  a44 := Tryz.isAgg86
  z44 := Tryz.sizeOf86
  v44 := Tryz.zeroValue86
  t51 := Tryz.underlying114
  a51 := Tryz.isAgg114
  z51 := Tryz.sizeOf114
  v51 := Tryz.zeroValue114
  t60 := Tryz.underlying149
  a60 := Tryz.isAgg149
  z60 := Tryz.sizeOf149
  v60 := Tryz.zeroValue149
  t61 := Tryz.underlying150
  a61 := Tryz.isAgg150
  z61 := Tryz.sizeOf150
  v61 := Tryz.zeroValue150
  t67 := Tryz.underlying157
  a67 := Tryz.isAgg157
  z67 := Tryz.sizeOf157
  v67 := Tryz.zeroValue157
  t69 := Tryz.underlying159
  a69 := Tryz.isAgg159
  z69 := Tryz.sizeOf159
  v69 := Tryz.zeroValue159
  t75 := Tryz.underlying178
  a75 := Tryz.isAgg178
  z75 := Tryz.sizeOf178
  v75 := Tryz.zeroValue178
  t79 := Tryz.underlying182
  a79 := Tryz.isAgg182
  z79 := Tryz.sizeOf182
  v79 := Tryz.zeroValue182
  t83 := Tryz.underlying197
  a83 := Tryz.isAgg197
  z83 := Tryz.sizeOf197
  v83 := Tryz.zeroValue197
  t84 := Tryz.underlying198
  a84 := Tryz.isAgg198
  z84 := Tryz.sizeOf198
  v84 := Tryz.zeroValue198 }
end Go.Proofs

/-! SrtT -/
namespace Go.Proofs.YtajbhfmdmajpmaaGreatDoor
set_option linter.unusedVariables false
set_option linter.unusedSimpArgs false
open Go.RowKit Go.Shelf Go.Sort
theorem info_i64 : (Tryz.prog.info? 2).map (fun i => (i.zero, i.size, i.bytes)) = some (some (.int .i64 0), 1, 8) := by kernel_rfl
theorem sortT_c (blk off cap : Nat) (zs : List Int) (w : World) (hH : Holds (Value.int .i64) w blk off zs.toArray) (hblk : blk < w.heap.size) (hsz : zs.length < 4611686018427387904) :
    Calls Tryz.prog 37 #[.slice (some ⟨blk, off, none⟩) zs.length cap] w fun e w' =>
      e = .returned (.tuple #[]) ∧ ∃ n os, w' = grow (putRow (Value.int .i64) (Sort.ahead w n) blk off (srtT zs).toArray) os :=
  calls_of_every_depth fun D => AnySG.slices_Sort_int_in Tryz.srtT D blk off cap zs w hH hblk hsz
theorem compactT_c (blk off cap : Nat) (zs : List Int) (w : World) (hH : Holds (Value.int .i64) w blk off zs.toArray) (hsz : zs.length ≤ 9223372036854775807) (hcap : zs.length ≤ cap) :
    Calls Tryz.prog 38 #[.slice (some ⟨blk, off, none⟩) zs.length cap] w fun e w' => e = .returned (.slice (some ⟨blk, off, none⟩) (Lib.compact zs).length cap) ∧ ∃ q, w' = putRow (Value.int .i64) (Sort.ahead w q) blk off (Lib.compact zs ++ List.replicate (zs.length - (Lib.compact zs).length) 0).toArray :=
  AnyG.slices_Compact_int Tryz.cmpT blk off cap zs w hH hsz hcap
theorem compactT_none (a : Option Addr) (cap : Nat) (w : World) : Calls Tryz.prog 38 #[.slice a 0 cap] w fun e w' => e = .returned (.slice a 0 cap) ∧ w' = w :=
  AnyG.slices_Compact_int_empty Tryz.cmpT a cap w
theorem insT_none (p : Option Addr) (cap : Nat) (w : World) : Calls Tryz.prog 106 #[.slice p 0 cap, .int .i64 0, .int .i64 0] w fun e w' => e = .returned (.tuple #[]) ∧ Ext w w' := by
  go_enter Tryz.func106, Tryz.ntmps106
  go_wp2_with fail
  go_loopw [6] (fun i wr => i = .int .i64 1 ∧ wr = w) (fun _ _ => 0)
  case atStart => exact ⟨rfl, rfl⟩
  case round =>
    obtain ⟨rfl, rfl⟩ := hrel
    go_wp2_with fail
    go_end0
    exact ⟨rfl, Ext.refl _⟩
theorem pdqT_none (p : Option Addr) (cap : Nat) (w : World) : Calls Tryz.prog 69 #[.slice p 0 cap, .int .i64 0, .int .i64 0, .int .i64 0] w fun e w' => e = .returned (.tuple #[]) ∧ Ext w w' := by
  have HI := Lib.hid (fun w' => insT_none p cap w')
  go_enter Tryz.func69, Tryz.ntmps69
  go_wp2_with fail
  go_loopw [1, 2] (fun a b wr => a = .int .i64 0 ∧ b = .int .i64 0 ∧ wr = w) (fun _ _ _ => 0)
  case atStart => exact ⟨rfl, rfl, rfl⟩
  case round =>
    obtain ⟨rfl, rfl, rfl⟩ := hrel
    go_wp2_with fail
    refine (HI.out _).mono ?_
    rintro en w2 ⟨rfl, hx⟩
    have HX := Lib.hid hx
    clear hx
    go_wp2_with fail
    (try simp only [Exit.inBlock, Exit.then])
    refine bodyPost_ret (results_none rfl _ _ _) rfl ?_
    exact ⟨rfl, HX.out⟩
theorem sortT_none (p : Option Addr) (cap : Nat) (w : World) : Calls Tryz.prog 37 #[.slice p 0 cap] w fun e w' => e = .returned (.tuple #[]) ∧ Ext w w' := by
  have HP := Lib.hid (fun w' => pdqT_none p cap w')
  have HB := Lib.hid (fun w' => Tryz.bits_Len 0 w' (by decide) (by decide))
  go_enter Tryz.func37, Tryz.ntmps37
  go_wp2_with fail
  refine (HB.out _).mono ?_
  rintro en w2 ⟨rfl, rfl⟩
  go_wp2_with fail
  refine (HP.out _).mono ?_
  rintro en w3 ⟨rfl, hx⟩
  have HX := Lib.hid hx
  clear hx
  go_wp2_with fail
  go_end0
  exact ⟨rfl, HX.out⟩
theorem flat_ints (l : List Int) : (l.flatMap fun x => [Value.int .i64 x]) = l.map (Value.int .i64) := by
  induction l with
  | nil => rfl
  | cons a l ih => rw [List.flatMap_cons, ih]; rfl
theorem grown_sortedT {w : World} {g n : Nat} {os : Array Obj} (d : Array Int) : w.grownBy (grow (putRow (Value.int .i64) (Sort.ahead w n) g 0 d) os) (some g) := by
  refine ⟨rfl, rfl, rfl, by simp, fun k hk hne => ?_⟩
  rw [heap_grow_old _ _ (by simpa using hk)]
  have : g ≠ k := fun e => hne (by rw [e])
  simp [putRow, mapBlock, Sort.ahead, Array.getElem?_modify, this]
theorem timesT_end {w w1 : World} {base g cap n : Nat} {xs : List Value} (hx : Ext w w1) (_ : w1.ownsRow base 2 1 (.slice (some ⟨g, 0, none⟩) n cap) n xs) (hg : w.heap.size ≤ g) {nn q : Nat} {os : Array Obj} {e d : Array Int} :
    Ext w (putRow (Value.int .i64) (Sort.ahead (grow (putRow (Value.int .i64) (Sort.ahead w1 nn) g 0 e) os) q) g 0 d) :=
  Lib.below_putRow (hx.grown (grown_sortedT _) (fun j hj => by cases hj; exact hg)) hg
theorem timesT_blk {w1 : World} {b g : Nat} {t : TypeId} {cs : Array Value} (h : Blk w1 b t cs) (hg : b ≠ g) {nn q : Nat} {os : Array Obj} {e d : Array Int} :
    Blk (putRow (Value.int .i64) (Sort.ahead (grow (putRow (Value.int .i64) (Sort.ahead w1 nn) g 0 e) os) q) g 0 d) b t cs := by
  have h1 : Blk (grow (putRow (Value.int .i64) (Sort.ahead w1 nn) g 0 e) os) b t cs := by
    show _ = _
    rw [(grown_sortedT (n := nn) (os := os) e).block b h.lt (fun e => hg (Option.some.inj e))]
    exact h
  show _ = _
  have : g ≠ b := fun e => hg e.symm
  simp [putRow, mapBlock, Sort.ahead, Array.getElem?_modify, this]
  exact h1
theorem ints_of_holds {w : World} {g : Nat} {l r : List Int} (h : Holds (Value.int .i64) w g 0 (l ++ r).toArray) : IntsAt w (some ⟨g, 0, none⟩) l.length l := by
  refine ⟨rfl, fun _ => ⟨g, 0, rfl, fun i x hx j u hu => ?_⟩⟩
  have hi := (List.getElem?_eq_some_iff.1 hx).1
  match j, hu with
  | 0, hu =>
    simp at hu; subst hu
    have := (h i (by simp; omega)).1
    rw [Nat.zero_add] at this
    rw [Nat.zero_add, Nat.mul_one, Nat.add_zero, this]
    have e : (l ++ r).toArray[i]! = x := by
      rw [getElem!_pos _ _ (by simp; omega)]
      simp [List.getElem_append_left hi, (List.getElem?_eq_some_iff.1 hx).2]
    rw [e]
  | j + 1, hu => simp at hu
end Go.Proofs.YtajbhfmdmajpmaaGreatDoor
