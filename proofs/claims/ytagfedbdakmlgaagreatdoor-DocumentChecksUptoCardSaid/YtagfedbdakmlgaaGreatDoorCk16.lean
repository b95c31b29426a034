/- Laid together: Equality of runs and rows: slices.Equal, style.Same, slices.EqualFunc, style.SameRows; the reference's Same, SameRows. slices.Equal of regions. slices.Equal of comments. The walks of event.Same and of the reference's Same. slices.EqualFunc of events. The walk of document.Same. -/
import Derived.Test.YtagfedbdakmlgaaGreatDoorCk02
import Derived.Test.YtagfedbdakmlgaaGreatDoorCk06
import Derived.Test.YtagfedbdakmlgaaGreatDoorCk03
import Derived.Test.YtagfedbdakmlgaaGreatDoorCk15
import Derived.Test.YtagfedbdakmlgaaGreatDoorCk09

/-! Same -/
namespace Go.Proofs.YtagfedbdakmlgaaGreatDoor
set_option linter.unusedVariables false
set_option linter.unusedSimpArgs false
open Go.RowKit
theorem neq_run (a b : Run) (w : World) : (binOp .neq 84 a.val b.val).run Tryz.prog w = .ok (.bool (!decide (a = b))) w := by
  obtain ⟨t1, c1, i1, u1, r1⟩ := a
  obtain ⟨t2, c2, i2, u2, r2⟩ := b
  unfold Run.val
  dsimp only
  go_simp
  simp only [toList_inj]
  repeat' split
  all_goals simp_all
theorem neq_run_yes (a b : Run) (h : ¬ a = b) (w : World) : (binOp .neq 84 a.val b.val).run Tryz.prog w = .ok (.bool true) w := by rw [neq_run, decide_eq_false h]; rfl
theorem neq_run_no (a : Run) (w : World) : (binOp .neq 84 a.val a.val).run Tryz.prog w = .ok (.bool false) w := by rw [neq_run, decide_eq_true rfl]; rfl
def EqRel {α : Type} (w : World) (n : Nat) (l1 l2 : List α) (i : Value) (wr : World) : Prop := ∃ k : Nat, k ≤ n ∧ i = .int .i64 k ∧ Ext w wr ∧ l1.take k = l2.take k
theorem eq_of_take {α : Type} {l1 l2 : List α} {n : Nat} (h1 : l1.length = n) (h2 : l2.length = n) (h : l1.take n = l2.take n) : l1 = l2 := by
  rw [List.take_of_length_le (by omega), List.take_of_length_le (by omega)] at h
  exact h
theorem take_eq_succ {α : Type} {l1 l2 : List α} {k : Nat} {x : α} (h : l1.take k = l2.take k) (h1 : l1[k]? = some x) (h2 : l2[k]? = some x) : l1.take (k + 1) = l2.take (k + 1) := by
  rw [List.take_add_one, List.take_add_one, h, h1, h2]
theorem ne_at {α : Type} {l1 l2 : List α} {k : Nat} {x y : α} (h1 : l1[k]? = some x) (h2 : l2[k]? = some y) (h : ¬ x = y) : ¬ l1 = l2 := by
  rintro rfl
  rw [h1] at h2
  exact h (Option.some.inj h2)
set_option maxRecDepth 100000 in
set_option maxHeartbeats 2000000 in
theorem EqualRuns_any (A : Option Addr) (n c : Nat) (B : Option Addr) (m d : Nat) (l1 l2 : Row) (w : World) (h1 : RunsAt w A n l1) (h2 : RunsAt w B m l2) (hn : n ≤ 4611686018427387904) :
    Calls Tryz.prog 206 #[.slice A n c, .slice B m d] w fun e w' => e = .returned (.bool (decide (l1 = l2))) ∧ Ext w w' := by
  have L1 := Lib.hid h1.len
  have L2 := Lib.hid h2.len
  have H1 := Lib.hid h1
  have H2 := Lib.hid h2
  clear h1 h2
  by_cases hnm : n = m
  · subst hnm
    go_enter Tryz.func206, Tryz.ntmps206
    go_wp2_with fail
    go_loopw [13] (fun i wr => EqRel w n l1 l2 i wr) (fun i _ => n - (intOf i).toNat)
    case atStart => exact ⟨0, Nat.zero_le _, rfl, Ext.refl _, rfl⟩
    case round =>
      obtain ⟨k, hk, rfl, hx, hp⟩ := hrel
      have HP := Lib.hid hp
      clear hp
      by_cases hlt : k < n
      · obtain ⟨b1, o1, r, rfl, hr, c0, c1, c2, c3, c4⟩ := (H1.out.ext hx).at_ hlt
        obtain ⟨b2, o2, s, rfl, hs, d0, d1, d2, d3, d4⟩ := (H2.out.ext hx).at_ hlt
        have HR := Lib.hid hr
        have HS := Lib.hid hs
        clear hr hs
        have hk0 : (0 : Int) ≤ (k : Int) := by omega
        have hk1 : (k : Int) < (n : Int) := by omega
        by_cases hq : r = s
        · subst hq
          have HT := Lib.hid (take_eq_succ HP.out HR.out HS.out)
          have hne := fun w => neq_run_no r w
          unfold Run.val at hne
          go_wp2_with fail
          go_quiet (fail)
          go_wp2_with fail
          exact ⟨⟨k + 1, by omega, by go_num, hx.drewN _, HT.out⟩, by simp [intOf]; omega⟩
        · have hne := fun w => neq_run_yes r s hq w
          have HN := Lib.hid (ne_at HR.out HS.out hq)
          unfold Run.val at hne
          clear hq
          go_wp2_with fail
          go_quiet (fail)
          go_wp2_with fail
          go_ret
          exact ⟨ret_bool (decide_eq_false HN.out).symm, hx.drewN _⟩
      · have hkn : k = n := by omega
        subst hkn
        have HQ := Lib.hid (eq_of_take L1.out L2.out HP.out)
        go_wp2_with fail
        go_ret
        exact ⟨ret_bool (decide_eq_true HQ.out).symm, hx⟩
  · have hb : ((n : Int) != (m : Int)) = true := by simp; omega
    have HN : Hid (¬ l1 = l2) := by
      show ¬ _
      intro h
      apply hnm
      rw [← L1.out, ← L2.out, h]
    go_enter Tryz.func206, Tryz.ntmps206
    go_wp2_with fail
    go_ret
    exact ⟨ret_bool (decide_eq_false HN.out).symm, Ext.refl _⟩
set_option maxHeartbeats 1000000 in
theorem SSame_any (A : Option Addr) (n c : Nat) (B : Option Addr) (m d : Nat) (l1 l2 : Row) (w : World) (h1 : RunsAt w A n l1) (h2 : RunsAt w B m l2) (hn : n ≤ 4611686018427387904) :
    Calls Tryz.prog 176 #[.agg #[.slice A n c], .agg #[.slice B m d]] w fun e w' => e = .returned (.bool (decide (l1 = l2))) ∧ Ext w w' := by
  have H1 := Lib.hid h1
  have H2 := Lib.hid h2
  clear h1 h2
  have hx := ((Ext.refl w).alloc (.cells #[.slice A n c] 87)).alloc (.cells #[.slice B m d] 87)
  have HX := Lib.hid hx
  clear hx
  go_enter Tryz.func176, Tryz.ntmps176
  go_wp2_with fail
  refine (EqualRuns_any A n c B m d l1 l2 _ (H1.out.ext HX.out) (H2.out.ext HX.out) hn).mono ?_
  rintro e w1 ⟨rfl, hx1⟩
  go_wp2_with fail
  go_ret
  exact ⟨rfl, HX.out.trans hx1⟩
set_option maxRecDepth 100000 in
set_option maxHeartbeats 2000000 in
theorem EqualFunc_any (A : Option Addr) (n c : Nat) (B : Option Addr) (m d : Nat) (l1 l2 : List Row) (w : World) (h1 : RowsAt w A n l1) (h2 : RowsAt w B m l2) (hn : n ≤ 4611686018427387904) :
    Calls Tryz.prog 175 #[.slice A n c, .slice B m d, .func (.func 176) #[] #[]] w fun e w' => e = .returned (.bool (decide (l1 = l2))) ∧ Ext w w' := by
  have L1 := Lib.hid h1.len
  have L2 := Lib.hid h2.len
  have H1 := Lib.hid h1
  have H2 := Lib.hid h2
  clear h1 h2
  by_cases hnm : n = m
  · subst hnm
    go_enter Tryz.func175, Tryz.ntmps175
    go_wp2_with fail
    go_loopw [17] (fun i wr => EqRel w n l1 l2 i wr) (fun i _ => n - (intOf i).toNat)
    case atStart => exact ⟨0, Nat.zero_le _, rfl, Ext.refl _, rfl⟩
    case round =>
      obtain ⟨k, hk, rfl, hx, hp⟩ := hrel
      have HP := Lib.hid hp
      clear hp
      by_cases hlt : k < n
      · obtain ⟨b1, o1, r, rfl, hr, A1, n1, c1, e1, f1, g1, u1⟩ := (H1.out.ext hx).at_ hlt
        obtain ⟨b2, o2, s, rfl, hs, A2, n2, c2, e2, f2, g2, u2⟩ := (H2.out.ext hx).at_ hlt
        simp only [Nat.mul_one] at e1 e2
        have U1 := Lib.hid u1
        have U2 := Lib.hid u2
        have HR := Lib.hid hr
        have HS := Lib.hid hs
        clear hr hs u1 u2
        have hb2 : b2 < wr.heap.size := World.block_lt_of_cell? wr _ e2
        have hxa := ((Ext.refl wr).alloc (.cells #[.slice A1 n1 c1] 87)).alloc (.cells #[.slice A2 n2 c2] 87)
        have HX := Lib.hid hxa
        clear hxa
        go_wp2_with fail
        refine (SSame_any A1 n1 c1 A2 n2 c2 r s _ (U1.out.ext HX.out) (U2.out.ext HX.out) (by omega)).mono ?_
        rintro e w1 ⟨rfl, hx1⟩
        have hxw1 : Ext w w1 := (hx.trans HX.out).trans hx1
        by_cases hq : r = s
        · subst hq
          have HT := Lib.hid (take_eq_succ HP.out HR.out HS.out)
          rw [decide_eq_true rfl]
          go_wp2_with fail
          exact ⟨⟨k + 1, by omega, by go_num, hxw1, HT.out⟩, by simp [intOf]; omega⟩
        · have HN := Lib.hid (ne_at HR.out HS.out hq)
          rw [decide_eq_false hq]
          clear hq
          go_wp2_with fail
          go_ret
          exact ⟨ret_bool (decide_eq_false HN.out).symm, hxw1⟩
      · have hkn : k = n := by omega
        subst hkn
        have HQ := Lib.hid (eq_of_take L1.out L2.out HP.out)
        go_wp2_with fail
        go_ret
        exact ⟨ret_bool (decide_eq_true HQ.out).symm, hx⟩
  · have hb : ((n : Int) != (m : Int)) = true := by simp; omega
    have HN : Hid (¬ l1 = l2) := by
      show ¬ _
      intro h
      apply hnm
      rw [← L1.out, ← L2.out, h]
    go_enter Tryz.func175, Tryz.ntmps175
    go_wp2_with fail
    go_ret
    exact ⟨ret_bool (decide_eq_false HN.out).symm, Ext.refl _⟩
theorem SameRows_any (A : Option Addr) (n c : Nat) (B : Option Addr) (m d : Nat) (l1 l2 : List Row) (w : World) (h1 : RowsAt w A n l1) (h2 : RowsAt w B m l2) (hn : n ≤ 4611686018427387904) :
    Calls Tryz.prog 134 #[.slice A n c, .slice B m d] w fun e w' => e = .returned (.bool (decide (l1 = l2))) ∧ Ext w w' := by
  have H1 := Lib.hid h1
  have H2 := Lib.hid h2
  clear h1 h2
  go_enter Tryz.func134, Tryz.ntmps134
  go_wp2_with fail
  refine (EqualFunc_any A n c B m d l1 l2 _ H1.out H2.out hn).mono ?_
  rintro e w1 ⟨rfl, hx1⟩
  go_wp2_with fail
  go_ret
  exact ⟨rfl, hx1⟩
set_option maxRecDepth 100000 in
set_option maxHeartbeats 2000000 in
theorem RSame_any (A : Option Addr) (n c : Nat) (B : Option Addr) (m d : Nat) (l1 l2 : Row) (w : World) (h1 : RunsAt w A n l1) (h2 : RunsAt w B m l2) (hn : n ≤ 4611686018427387904) :
    Calls Tryz.prog 154 #[.agg #[.slice A n c], .agg #[.slice B m d]] w fun e w' => e = .returned (.bool (decide (l1 = l2))) ∧ Ext w w' := by
  have L1 := Lib.hid h1.len
  have L2 := Lib.hid h2.len
  have H1 := Lib.hid h1
  have H2 := Lib.hid h2
  clear h1 h2
  have hx0 := ((Ext.refl w).alloc (.cells #[.slice A n c] 87)).alloc (.cells #[.slice B m d] 87)
  have HX0 := Lib.hid hx0
  clear hx0
  by_cases hnm : n = m
  · subst hnm
    go_enter Tryz.func154, Tryz.ntmps154
    go_wp2_with fail
    go_loopw [16] (fun i wr => EqRel ((w.alloc (.cells #[.slice A n c] 87)).alloc (.cells #[.slice B n d] 87)) n l1 l2 i wr) (fun i _ => n - (intOf i).toNat)
    case atStart => exact ⟨0, Nat.zero_le _, rfl, Ext.refl _, rfl⟩
    case round =>
      obtain ⟨k, hk, rfl, hx, hp⟩ := hrel
      have HP := Lib.hid hp
      clear hp
      have hxw : Ext w wr := HX0.out.trans hx
      have hca := (((Blk.new w _ _).alloc _).ext hx).cell 0
      have hcb := ((Blk.new' (g := w.heap.size + 1) (w := w.alloc _) (by simp)).ext hx).cell 0
      simp at hca hcb
      by_cases hlt : k < n
      · obtain ⟨b1, o1, r, rfl, hr, c0, c1, c2, c3, c4⟩ := (H1.out.ext hxw).at_ hlt
        obtain ⟨b2, o2, s, rfl, hs, d0, d1, d2, d3, d4⟩ := (H2.out.ext hxw).at_ hlt
        have HR := Lib.hid hr
        have HS := Lib.hid hs
        clear hr hs
        have hk0 : (0 : Int) ≤ (k : Int) := by omega
        have hk1 : (k : Int) < (n : Int) := by omega
        by_cases hq : r = s
        · subst hq
          have HT := Lib.hid (take_eq_succ HP.out HR.out HS.out)
          have hne := fun w => neq_run_no r w
          unfold Run.val at hne
          go_wp2_with fail
          go_quiet (fail)
          go_wp2_with fail
          exact ⟨⟨k + 1, by omega, by go_num, hx.drewN _, HT.out⟩, by simp [intOf]; omega⟩
        · have hne := fun w => neq_run_yes r s hq w
          have HN := Lib.hid (ne_at HR.out HS.out hq)
          unfold Run.val at hne
          clear hq
          go_wp2_with fail
          go_quiet (fail)
          go_wp2_with fail
          go_ret
          exact ⟨ret_bool (decide_eq_false HN.out).symm, hxw.drewN _⟩
      · have hkn : k = n := by omega
        subst hkn
        have HQ := Lib.hid (eq_of_take L1.out L2.out HP.out)
        go_wp2_with fail
        go_ret
        exact ⟨ret_bool (decide_eq_true HQ.out).symm, hxw⟩
  · have hb : ((n : Int) != (m : Int)) = true := by simp; omega
    have HN : Hid (¬ l1 = l2) := by
      show ¬ _
      intro h
      apply hnm
      rw [← L1.out, ← L2.out, h]
    go_enter Tryz.func154, Tryz.ntmps154
    go_wp2_with fail
    go_ret
    exact ⟨ret_bool (decide_eq_false HN.out).symm, HX0.out⟩
set_option maxRecDepth 100000 in
set_option maxHeartbeats 2000000 in
theorem RSameRows_any (A : Option Addr) (n c : Nat) (B : Option Addr) (m d : Nat) (l1 l2 : List Row) (w : World) (h1 : RowsAt w A n l1) (h2 : RowsAt w B m l2) (hn : n ≤ 4611686018427387904) :
    Calls Tryz.prog 110 #[.slice A n c, .slice B m d] w fun e w' => e = .returned (.bool (decide (l1 = l2))) ∧ Ext w w' := by
  have L1 := Lib.hid h1.len
  have L2 := Lib.hid h2.len
  have H1 := Lib.hid h1
  have H2 := Lib.hid h2
  clear h1 h2
  by_cases hnm : n = m
  · subst hnm
    go_enter Tryz.func110, Tryz.ntmps110
    go_wp2_with fail
    go_loopw [13] (fun i wr => EqRel w n l1 l2 i wr) (fun i _ => n - (intOf i).toNat)
    case atStart => exact ⟨0, Nat.zero_le _, rfl, Ext.refl _, rfl⟩
    case round =>
      obtain ⟨k, hk, rfl, hx, hp⟩ := hrel
      have HP := Lib.hid hp
      clear hp
      by_cases hlt : k < n
      · obtain ⟨b1, o1, r, rfl, hr, A1, n1, c1, e1, f1, g1, u1⟩ := (H1.out.ext hx).at_ hlt
        obtain ⟨b2, o2, s, rfl, hs, A2, n2, c2, e2, f2, g2, u2⟩ := (H2.out.ext hx).at_ hlt
        simp only [Nat.mul_one] at e1 e2
        have U1 := Lib.hid u1
        have U2 := Lib.hid u2
        have HR := Lib.hid hr
        have HS := Lib.hid hs
        clear hr hs u1 u2
        have hk0 : (0 : Int) ≤ (k : Int) := by omega
        have hk1 : (k : Int) < (n : Int) := by omega
        go_wp2_with fail
        go_region_held3 (fun w' => w'.cell? ⟨b1, o1 + k, none⟩ = some (.slice A1 n1 c1) ∧ w'.cell? ⟨b2, o2 + k, none⟩ = some (.slice A2 n2 c2)) (first | go_keep | (go_split_ands; refine ⟨?_, ?_⟩ <;> (apply hx1.cell; assumption))) (first | (go_at_call 154; refine (RSame_any A1 n1 c1 A2 n2 c2 r s _ (U1.out.ext (by exact (Ext.refl wr).drew)) (U2.out.ext (by exact (Ext.refl wr).drew)) (by omega)).mono ?_; rintro e w1 ⟨rfl, hx1⟩))
        have hxw1 : Ext w w1 := hx.drew.trans hx1
        by_cases hq : r = s
        · subst hq
          have HT := Lib.hid (take_eq_succ HP.out HR.out HS.out)
          rw [decide_eq_true rfl]
          go_wp2_with fail
          exact ⟨⟨k + 1, by omega, by go_num, hxw1, HT.out⟩, by simp [intOf]; omega⟩
        · have HN := Lib.hid (ne_at HR.out HS.out hq)
          rw [decide_eq_false hq]
          clear hq
          go_wp2_with fail
          go_ret
          exact ⟨ret_bool (decide_eq_false HN.out).symm, hxw1⟩
      · have hkn : k = n := by omega
        subst hkn
        have HQ := Lib.hid (eq_of_take L1.out L2.out HP.out)
        go_wp2_with fail
        go_ret
        exact ⟨ret_bool (decide_eq_true HQ.out).symm, hx⟩
  · have hb : ((n : Int) != (m : Int)) = true := by simp; omega
    have HN : Hid (¬ l1 = l2) := by
      show ¬ _
      intro h
      apply hnm
      rw [← L1.out, ← L2.out, h]
    go_enter Tryz.func110, Tryz.ntmps110
    go_wp2_with fail
    go_ret
    exact ⟨ret_bool (decide_eq_false HN.out).symm, Ext.refl _⟩
end Go.Proofs.YtagfedbdakmlgaaGreatDoor

/-! EqualD -/
namespace Go.Proofs.YtagfedbdakmlgaaGreatDoor
set_option linter.unusedVariables false
set_option linter.unusedSimpArgs false
open Go.RowKit
theorem neq_reg (a b : Reg) (w : World) : (binOp .neq 94 a.val b.val).run Tryz.prog w = .ok (.bool (!decide (a = b))) w := by
  obtain ⟨nm, top, hgt, lft, wid, al, bot⟩ := a
  obtain ⟨nm', top', hgt', lft', wid', al', bot'⟩ := b
  unfold Reg.val
  dsimp only
  go_simp
  simp only [toList_inj]
  repeat' split
  all_goals simp_all
theorem neq_reg_yes (a b : Reg) (h : ¬ a = b) (w : World) : (binOp .neq 94 a.val b.val).run Tryz.prog w = .ok (.bool true) w := by rw [neq_reg, decide_eq_false h]; rfl
theorem neq_reg_no (a : Reg) (w : World) : (binOp .neq 94 a.val a.val).run Tryz.prog w = .ok (.bool false) w := by rw [neq_reg, decide_eq_true rfl]; rfl
set_option maxRecDepth 100000 in
set_option maxHeartbeats 2000000 in
theorem EqualRegs_any (A : Option Addr) (n c : Nat) (B : Option Addr) (m d : Nat) (l1 l2 : List Reg) (w : World) (h1 : RegsAt w A n l1) (h2 : RegsAt w B m l2) (hn : n ≤ 4611686018427387904) :
    Calls Tryz.prog 79 #[.slice A n c, .slice B m d] w fun e w' => e = .returned (.bool (decide (l1 = l2))) ∧ Ext w w' := by
  have L1 := Lib.hid h1.len
  have L2 := Lib.hid h2.len
  have H1 := Lib.hid h1
  have H2 := Lib.hid h2
  clear h1 h2
  by_cases hnm : n = m
  · subst hnm
    go_enter Tryz.func79, Tryz.ntmps79
    go_wp2_with fail
    go_loopw [13] (fun i wr => EqRel w n l1 l2 i wr) (fun i _ => n - (intOf i).toNat)
    case atStart => exact ⟨0, Nat.zero_le _, rfl, Ext.refl _, rfl⟩
    case round =>
      obtain ⟨k, hk, rfl, hx, hp⟩ := hrel
      have HP := Lib.hid hp
      clear hp
      by_cases hlt : k < n
      · obtain ⟨b1, o1, r, rfl, hr, c0, c1, c2, c3, c4, c5, c6⟩ := (H1.out.ext hx).at_ hlt
        obtain ⟨b2, o2, s, rfl, hs, d0, d1, d2, d3, d4, d5, d6⟩ := (H2.out.ext hx).at_ hlt
        have HR := Lib.hid hr
        have HS := Lib.hid hs
        clear hr hs
        have hk0 : (0 : Int) ≤ (k : Int) := by omega
        have hk1 : (k : Int) < (n : Int) := by omega
        by_cases hq : r = s
        · subst hq
          have HT := Lib.hid (take_eq_succ HP.out HR.out HS.out)
          have hne := fun w => neq_reg_no r w
          unfold Reg.val at hne
          go_wp2_with fail
          go_quiet (fail)
          go_wp2_with fail
          exact ⟨⟨k + 1, by omega, by go_num, hx.drewN _, HT.out⟩, by simp [intOf]; omega⟩
        · have hne := fun w => neq_reg_yes r s hq w
          have HN := Lib.hid (ne_at HR.out HS.out hq)
          unfold Reg.val at hne
          clear hq
          go_wp2_with fail
          go_quiet (fail)
          go_wp2_with fail
          go_ret
          exact ⟨ret_bool (decide_eq_false HN.out).symm, hx.drewN _⟩
      · have hkn : k = n := by omega
        subst hkn
        have HQ := Lib.hid (eq_of_take L1.out L2.out HP.out)
        go_wp2_with fail
        go_ret
        exact ⟨ret_bool (decide_eq_true HQ.out).symm, hx⟩
  · have hb : ((n : Int) != (m : Int)) = true := by simp; omega
    have HN : Hid (¬ l1 = l2) := by
      show ¬ _
      intro h
      apply hnm
      rw [← L1.out, ← L2.out, h]
    go_enter Tryz.func79, Tryz.ntmps79
    go_wp2_with fail
    go_ret
    exact ⟨ret_bool (decide_eq_false HN.out).symm, Ext.refl _⟩
end Go.Proofs.YtagfedbdakmlgaaGreatDoor

/-! EqualC -/
namespace Go.Proofs.YtagfedbdakmlgaaGreatDoor
set_option linter.unusedVariables false
set_option linter.unusedSimpArgs false
open Go.RowKit
def Com.aggV (c : Com) : Value := .agg #[.int .i64 c.id, .int .i64 c.ev, .int .i64 c.fr, .int .i64 c.til, .string c.author, .string c.text, .bool c.done, .bool c.lost]
theorem neq_com (a b : Com) (w : World) : (binOp .neq 78 a.aggV b.aggV).run Tryz.prog w = .ok (.bool (!decide (a = b))) w := by
  obtain ⟨id, ev, fr, tl, au, tx, dn, lo⟩ := a
  obtain ⟨id', ev', fr', tl', au', tx', dn', lo'⟩ := b
  unfold Com.aggV
  dsimp only
  go_simp
  simp only [toList_inj]
  repeat' split
  all_goals simp_all
theorem neq_com_yes (a b : Com) (h : ¬ a = b) (w : World) : (binOp .neq 78 a.aggV b.aggV).run Tryz.prog w = .ok (.bool true) w := by rw [neq_com, decide_eq_false h]; rfl
theorem neq_com_no (a : Com) (w : World) : (binOp .neq 78 a.aggV a.aggV).run Tryz.prog w = .ok (.bool false) w := by rw [neq_com, decide_eq_true rfl]; rfl
set_option maxRecDepth 100000 in
set_option maxHeartbeats 2000000 in
theorem EqualComs_any (A : Option Addr) (n c : Nat) (B : Option Addr) (m d : Nat) (l1 l2 : List Com) (w : World) (h1 : ComsAt w A n l1) (h2 : ComsAt w B m l2) (hn : n ≤ 4611686018427387904) :
    Calls Tryz.prog 82 #[.slice A n c, .slice B m d] w fun e w' => e = .returned (.bool (decide (l1 = l2))) ∧ Ext w w' := by
  have L1 := Lib.hid h1.len
  have L2 := Lib.hid h2.len
  have H1 := Lib.hid h1
  have H2 := Lib.hid h2
  clear h1 h2
  by_cases hnm : n = m
  · subst hnm
    go_enter Tryz.func82, Tryz.ntmps82
    go_wp2_with fail
    go_loopw [13] (fun i wr => EqRel w n l1 l2 i wr) (fun i _ => n - (intOf i).toNat)
    case atStart => exact ⟨0, Nat.zero_le _, rfl, Ext.refl _, rfl⟩
    case round =>
      obtain ⟨k, hk, rfl, hx, hp⟩ := hrel
      have HP := Lib.hid hp
      clear hp
      by_cases hlt : k < n
      · obtain ⟨b1, o1, r, rfl, hr, c0, c1, c2, c3, c4, c5, c6, c7⟩ := (H1.out.ext hx).at8 hlt
        obtain ⟨b2, o2, s, rfl, hs, d0, d1, d2, d3, d4, d5, d6, d7⟩ := (H2.out.ext hx).at8 hlt
        have HR := Lib.hid hr
        have HS := Lib.hid hs
        clear hr hs
        have hk0 : (0 : Int) ≤ (k : Int) := by omega
        have hk1 : (k : Int) < (n : Int) := by omega
        by_cases hq : r = s
        · subst hq
          have HT := Lib.hid (take_eq_succ HP.out HR.out HS.out)
          have hne := fun w => neq_com_no r w
          unfold Com.aggV at hne
          go_wp2_with fail
          go_quiet (fail)
          go_wp2_with fail
          exact ⟨⟨k + 1, by omega, by go_num, hx.drewN _, HT.out⟩, by simp [intOf]; omega⟩
        · have hne := fun w => neq_com_yes r s hq w
          have HN := Lib.hid (ne_at HR.out HS.out hq)
          unfold Com.aggV at hne
          clear hq
          go_wp2_with fail
          go_quiet (fail)
          go_wp2_with fail
          go_ret
          exact ⟨ret_bool (decide_eq_false HN.out).symm, hx.drewN _⟩
      · have hkn : k = n := by omega
        subst hkn
        have HQ := Lib.hid (eq_of_take L1.out L2.out HP.out)
        go_wp2_with fail
        go_ret
        exact ⟨ret_bool (decide_eq_true HQ.out).symm, hx⟩
  · have hb : ((n : Int) != (m : Int)) = true := by simp; omega
    have HN : Hid (¬ l1 = l2) := by
      show ¬ _
      intro h
      apply hnm
      rw [← L1.out, ← L2.out, h]
    go_enter Tryz.func82, Tryz.ntmps82
    go_wp2_with fail
    go_ret
    exact ⟨ret_bool (decide_eq_false HN.out).symm, Ext.refl _⟩
end Go.Proofs.YtagfedbdakmlgaaGreatDoor

/-! SameE -/
namespace Go.Proofs.YtagfedbdakmlgaaGreatDoor
set_option linter.unusedVariables false
set_option linter.unusedSimpArgs false
open Go.RowKit
theorem eql_span (a b a' b' : Int) (w : World) : (binOp .eql 57 (.agg #[.int .i64 a, .int .i64 b]) (.agg #[.int .i64 a', .int .i64 b'])).run Tryz.prog w = .ok (.bool (decide (a = a' ∧ b = b'))) w := by
  go_simp
  repeat' split
  all_goals simp_all
theorem ev_ne {x y : Ev} (h : ¬ (x.id = y.id ∧ (x.inn = y.inn ∧ x.out = y.out) ∧ x.region.toList = y.region.toList ∧ x.kind = y.kind ∧ x.speaker.toList = y.speaker.toList ∧ x.rows = y.rows)) : decide (x = y) = false :=
  decide_eq_false (by rintro rfl; exact h ⟨rfl, ⟨rfl, rfl⟩, rfl, rfl, rfl, rfl⟩)
theorem ev_eq {x y : Ev} (h1 : x.id = y.id) (h2 : x.inn = y.inn ∧ x.out = y.out) (h3 : x.region.toList = y.region.toList) (h4 : x.kind = y.kind) (h5 : x.speaker.toList = y.speaker.toList) : decide (x = y) = decide (x.rows = y.rows) := by
  obtain ⟨a1, a2, a3, a4, a5, a6, a7⟩ := x
  obtain ⟨b1, b2, b3, b4, b5, b6, b7⟩ := y
  rw [toList_inj] at h3 h5
  simp_all
set_option maxRecDepth 100000 in
set_option maxHeartbeats 4000000 in
theorem ESame_any (x y : Ev) (A : Option Addr) (n c : Nat) (B : Option Addr) (m d : Nat) (w : World) (h1 : EvAt w x A n c) (h2 : EvAt w y B m d) :
    Calls Tryz.prog 81 #[.agg (x.cells A n c), .agg (y.cells B m d)] w fun e w' => e = .returned (.bool (decide (x = y))) ∧ Ext w w' := by
  have hn24 : n * 24 ≤ 140737488355328 := h1.2.2
  have H1 := Lib.hid h1
  have H2 := Lib.hid h2
  clear h1 h2
  have hx := ((Ext.refl w).alloc (.cells (x.cells A n c) 66)).alloc (.cells (y.cells B m d) 66)
  have HX := Lib.hid hx
  clear hx
  unfold Ev.cells at HX ⊢
  by_cases h0 : x.id = y.id
  · have b0 : (x.id == y.id) = true := by simpa using h0
    have E0 := Lib.hid h0
    clear h0
    by_cases h1 : x.inn = y.inn ∧ x.out = y.out
    · have b1 := fun w => (eql_span x.inn x.out y.inn y.out w).trans (by rw [decide_eq_true h1])
      have E1 := Lib.hid h1
      clear h1
      by_cases h2 : x.region.toList = y.region.toList
      · have b2 : (x.region.toList == y.region.toList) = true := by simpa using h2
        have E2 := Lib.hid h2
        clear h2
        by_cases h3 : x.kind = y.kind
        · have b3 : (x.kind == y.kind) = true := by simpa using h3
          have E3 := Lib.hid h3
          clear h3
          by_cases h4 : x.speaker.toList = y.speaker.toList
          · have b4 : (x.speaker.toList == y.speaker.toList) = true := by simpa using h4
            have E4 := Lib.hid h4
            clear h4
            have HF : Hid (decide (x = y) = decide (x.rows = y.rows)) := ev_eq E0.out E1.out E2.out E3.out E4.out
            go_enter Tryz.func81, Tryz.ntmps81
            go_wp2_with fail
            refine (SameRows_any A n c B m d x.rows y.rows _ (H1.out.1.ext HX.out) (H2.out.1.ext HX.out) (by omega)).mono ?_
            rintro en w1 ⟨rfl, hx1⟩
            go_wp2_with fail
            go_ret
            exact ⟨ret_bool HF.out.symm, HX.out.trans hx1⟩
          · have b4 : (x.speaker.toList == y.speaker.toList) = false := by simpa using h4
            have HF : Hid (decide (x = y) = false) := ev_ne (fun h => h4 h.2.2.2.2.1)
            clear h4
            go_enter Tryz.func81, Tryz.ntmps81
            go_wp2_with fail
            go_ret
            exact ⟨ret_bool HF.out.symm, HX.out⟩
        · have b3 : (x.kind == y.kind) = false := by simpa using h3
          have HF : Hid (decide (x = y) = false) := ev_ne (fun h => h3 h.2.2.2.1)
          clear h3
          go_enter Tryz.func81, Tryz.ntmps81
          go_wp2_with fail
          go_ret
          exact ⟨ret_bool HF.out.symm, HX.out⟩
      · have b2 : (x.region.toList == y.region.toList) = false := by simpa using h2
        have HF : Hid (decide (x = y) = false) := ev_ne (fun h => h2 h.2.2.1)
        clear h2
        go_enter Tryz.func81, Tryz.ntmps81
        go_wp2_with fail
        go_ret
        exact ⟨ret_bool HF.out.symm, HX.out⟩
    · have b1 := fun w => (eql_span x.inn x.out y.inn y.out w).trans (by rw [decide_eq_false h1])
      have HF : Hid (decide (x = y) = false) := ev_ne (fun h => h1 h.2.1)
      clear h1
      go_enter Tryz.func81, Tryz.ntmps81
      go_wp2_with fail
      go_ret
      exact ⟨ret_bool HF.out.symm, HX.out⟩
  · have b0 : (x.id == y.id) = false := by simpa using h0
    have HF : Hid (decide (x = y) = false) := ev_ne (fun h => h0 h.1)
    clear h0
    go_enter Tryz.func81, Tryz.ntmps81
    go_wp2_with fail
    go_ret
    exact ⟨ret_bool HF.out.symm, HX.out⟩
set_option maxRecDepth 100000 in
set_option maxHeartbeats 4000000 in
theorem RESame_any (x y : Ev) (A : Option Addr) (n c : Nat) (B : Option Addr) (m d : Nat) (w : World) (h1 : EvAt w x A n c) (h2 : EvAt w y B m d) :
    Calls Tryz.prog 46 #[.agg (x.cells A n c), .agg (y.cells B m d)] w fun e w' => e = .returned (.bool (decide (x = y))) ∧ Ext w w' := by
  have hn24 : n * 24 ≤ 140737488355328 := h1.2.2
  have H1 := Lib.hid h1
  have H2 := Lib.hid h2
  clear h1 h2
  have hx := ((Ext.refl w).alloc (.cells (x.cells A n c) 66)).alloc (.cells (y.cells B m d) 66)
  have HX := Lib.hid hx
  clear hx
  unfold Ev.cells at HX ⊢
  by_cases h0 : x.id = y.id
  · have b0 : (x.id == y.id) = true := by simpa using h0
    have E0 := Lib.hid h0
    clear h0
    by_cases h1 : x.inn = y.inn ∧ x.out = y.out
    · have b1 := fun w => (eql_span x.inn x.out y.inn y.out w).trans (by rw [decide_eq_true h1])
      have E1 := Lib.hid h1
      clear h1
      by_cases h2 : x.region.toList = y.region.toList
      · have b2 : (x.region.toList == y.region.toList) = true := by simpa using h2
        have E2 := Lib.hid h2
        clear h2
        by_cases h3 : x.kind = y.kind
        · have b3 : (x.kind == y.kind) = true := by simpa using h3
          have E3 := Lib.hid h3
          clear h3
          by_cases h4 : x.speaker.toList = y.speaker.toList
          · have b4 : (x.speaker.toList == y.speaker.toList) = true := by simpa using h4
            have E4 := Lib.hid h4
            clear h4
            have HF : Hid (decide (x = y) = decide (x.rows = y.rows)) := ev_eq E0.out E1.out E2.out E3.out E4.out
            go_enter Tryz.func46, Tryz.ntmps46
            go_wp2_with fail
            refine (RSameRows_any A n c B m d x.rows y.rows _ (H1.out.1.ext HX.out) (H2.out.1.ext HX.out) (by omega)).mono ?_
            rintro en w1 ⟨rfl, hx1⟩
            go_wp2_with fail
            go_ret
            exact ⟨ret_bool HF.out.symm, HX.out.trans hx1⟩
          · have b4 : (x.speaker.toList == y.speaker.toList) = false := by simpa using h4
            have HF : Hid (decide (x = y) = false) := ev_ne (fun h => h4 h.2.2.2.2.1)
            clear h4
            go_enter Tryz.func46, Tryz.ntmps46
            go_wp2_with fail
            go_ret
            exact ⟨ret_bool HF.out.symm, HX.out⟩
        · have b3 : (x.kind == y.kind) = false := by simpa using h3
          have HF : Hid (decide (x = y) = false) := ev_ne (fun h => h3 h.2.2.2.1)
          clear h3
          go_enter Tryz.func46, Tryz.ntmps46
          go_wp2_with fail
          go_ret
          exact ⟨ret_bool HF.out.symm, HX.out⟩
      · have b2 : (x.region.toList == y.region.toList) = false := by simpa using h2
        have HF : Hid (decide (x = y) = false) := ev_ne (fun h => h2 h.2.2.1)
        clear h2
        go_enter Tryz.func46, Tryz.ntmps46
        go_wp2_with fail
        go_ret
        exact ⟨ret_bool HF.out.symm, HX.out⟩
    · have b1 := fun w => (eql_span x.inn x.out y.inn y.out w).trans (by rw [decide_eq_false h1])
      have HF : Hid (decide (x = y) = false) := ev_ne (fun h => h1 h.2.1)
      clear h1
      go_enter Tryz.func46, Tryz.ntmps46
      go_wp2_with fail
      go_ret
      exact ⟨ret_bool HF.out.symm, HX.out⟩
  · have b0 : (x.id == y.id) = false := by simpa using h0
    have HF : Hid (decide (x = y) = false) := ev_ne (fun h => h0 h.1)
    clear h0
    go_enter Tryz.func46, Tryz.ntmps46
    go_wp2_with fail
    go_ret
    exact ⟨ret_bool HF.out.symm, HX.out⟩
end Go.Proofs.YtagfedbdakmlgaaGreatDoor

/-! EqualF -/
namespace Go.Proofs.YtagfedbdakmlgaaGreatDoor
set_option linter.unusedVariables false
set_option linter.unusedSimpArgs false
open Go.RowKit
set_option maxRecDepth 100000 in
set_option maxHeartbeats 2000000 in
theorem EqualEvs_any (A : Option Addr) (n c : Nat) (B : Option Addr) (m d : Nat) (l1 l2 : List Ev) (w : World) (h1 : EvsAt w A n l1) (h2 : EvsAt w B m l2) (hn : n ≤ 4611686018427387904) :
    Calls Tryz.prog 80 #[.slice A n c, .slice B m d, .func (.func 81) #[] #[]] w fun e w' => e = .returned (.bool (decide (l1 = l2))) ∧ Ext w w' := by
  have L1 := Lib.hid h1.len
  have L2 := Lib.hid h2.len
  have H1 := Lib.hid h1
  have H2 := Lib.hid h2
  clear h1 h2
  by_cases hnm : n = m
  · subst hnm
    go_enter Tryz.func80, Tryz.ntmps80
    go_wp2_with fail
    go_loopw [17] (fun i wr => EqRel w n l1 l2 i wr) (fun i _ => n - (intOf i).toNat)
    case atStart => exact ⟨0, Nat.zero_le _, rfl, Ext.refl _, rfl⟩
    case round =>
      obtain ⟨k, hk, rfl, hx, hp⟩ := hrel
      have HP := Lib.hid hp
      clear hp
      by_cases hlt : k < n
      · obtain ⟨b1, o1, r, A1, n1, c1, rfl, hr, u1, p0, p1, p2, p3, p4, p5, p6⟩ := (H1.out.ext hx).at_ev hlt
        obtain ⟨b2, o2, s, A2, n2, c2, rfl, hs, u2, q0, q1, q2, q3, q4, q5, q6⟩ := (H2.out.ext hx).at_ev hlt
        have U1 := Lib.hid u1
        have U2 := Lib.hid u2
        have HR := Lib.hid hr
        have HS := Lib.hid hs
        clear hr hs u1 u2
        have hb2 : b2 < wr.heap.size := World.block_lt_of_cell? wr _ q0
        have hxa := ((Ext.refl wr).alloc (.cells (r.cells A1 n1 c1) 66)).alloc (.cells (s.cells A2 n2 c2) 66)
        have HX := Lib.hid hxa
        clear hxa
        have HSame := Lib.hid (fun w a b => ESame_any r s A1 n1 c1 A2 n2 c2 w a b)
        unfold Ev.cells at HX HSame
        go_wp2_with fail
        refine (HSame.out _ (U1.out.ext HX.out) (U2.out.ext HX.out)).mono ?_
        rintro e w1 ⟨rfl, hx1⟩
        have hxw1 : Ext w w1 := (hx.trans HX.out).trans hx1
        by_cases hq : r = s
        · subst hq
          have HT := Lib.hid (take_eq_succ HP.out HR.out HS.out)
          rw [decide_eq_true rfl]
          go_wp2_with fail
          exact ⟨⟨k + 1, by omega, by go_num, hxw1, HT.out⟩, by simp [intOf]; omega⟩
        · have HN := Lib.hid (ne_at HR.out HS.out hq)
          rw [decide_eq_false hq]
          clear hq
          go_wp2_with fail
          go_ret
          exact ⟨ret_bool (decide_eq_false HN.out).symm, hxw1⟩
      · have hkn : k = n := by omega
        subst hkn
        have HQ := Lib.hid (eq_of_take L1.out L2.out HP.out)
        go_wp2_with fail
        go_ret
        exact ⟨ret_bool (decide_eq_true HQ.out).symm, hx⟩
  · have hb : ((n : Int) != (m : Int)) = true := by simp; omega
    have HN : Hid (¬ l1 = l2) := by
      show ¬ _
      intro h
      apply hnm
      rw [← L1.out, ← L2.out, h]
    go_enter Tryz.func80, Tryz.ntmps80
    go_wp2_with fail
    go_ret
    exact ⟨ret_bool (decide_eq_false HN.out).symm, Ext.refl _⟩
end Go.Proofs.YtagfedbdakmlgaaGreatDoor

/-! DSame -/
namespace Go.Proofs.YtagfedbdakmlgaaGreatDoor
set_option linter.unusedVariables false
set_option linter.unusedSimpArgs false
open Go.RowKit
def Doc.hd (d : Doc) : ByteArray × ByteArray × Int × Bool × Int := (d.title, d.lang, d.rate, d.drop, d.last)
def sameDoc (a b : Doc) : Bool := decide (a.hd = b.hd) && (decide (a.regs = b.regs) && (decide (a.evs = b.evs) && decide (a.coms = b.coms)))
theorem sameDoc_self (a : Doc) : sameDoc a a = true := by simp [sameDoc]
theorem eql_head (a b : Doc) (w : World) : (binOp .eql 54 a.head b.head).run Tryz.prog w = .ok (.bool (decide (a.hd = b.hd))) w := by
  obtain ⟨a1, a2, a3, a4, a5, a6, a7, a8⟩ := a
  obtain ⟨b1, b2, b3, b4, b5, b6, b7, b8⟩ := b
  unfold Doc.head Doc.hd
  dsimp only
  go_simp
  simp only [toList_inj]
  repeat' split
  all_goals simp_all
set_option maxRecDepth 100000 in
set_option maxHeartbeats 4000000 in
theorem DSame_big (a b : Doc) (h k : DocH) (w : World) (hA : DocAt w a h) (hB : DocAt w b k) (h1 : h.rn ≤ 4611686018427387904 ∧ h.en ≤ 4611686018427387904 ∧ h.cn ≤ 4611686018427387904) :
    Calls Tryz.prog 19 #[.agg (a.cells h), .agg (b.cells k)] w fun en w' => en = .returned (.bool (sameDoc a b)) ∧ Ext w w' := by
  have HX : Hid (Ext w ((w.alloc (.cells (a.cells h) 27)).alloc (.cells (b.cells k) 27))) := ((Ext.refl w).alloc _).alloc _
  have HBa : Hid (Blk ((w.alloc (.cells (a.cells h) 27)).alloc (.cells (b.cells k) 27)) w.heap.size 27 (a.cells h)) := (Blk.new w 27 (a.cells h)).alloc _
  have HBb : Hid (Blk ((w.alloc (.cells (a.cells h) 27)).alloc (.cells (b.cells k) 27)) (w.heap.size + 1) 27 (b.cells k)) := Blk.new' (by simp)
  have HHa := Lib.hid (fun (y : EW ((w.alloc (.cells (a.cells h) 27)).alloc (.cells (b.cells k) 27))) => DHead_any a h y.w)
  have HHb := Lib.hid (fun (y : EW ((w.alloc (.cells (a.cells h) 27)).alloc (.cells (b.cells k) 27))) => DHead_any b k y.w)
  have HR := Lib.hid (fun (y : EW ((w.alloc (.cells (a.cells h) 27)).alloc (.cells (b.cells k) 27))) => EqualRegs_any h.ra h.rn h.rc k.ra k.rn k.rc a.regs b.regs y.w (hA.regs.ext (HX.out.trans y.ext)) (hB.regs.ext (HX.out.trans y.ext)) (by omega))
  have HE := Lib.hid (fun (y : EW ((w.alloc (.cells (a.cells h) 27)).alloc (.cells (b.cells k) 27))) => EqualEvs_any h.ea h.en h.ec k.ea k.en k.ec a.evs b.evs y.w (hA.evs.ext (HX.out.trans y.ext)) (hB.evs.ext (HX.out.trans y.ext)) (by omega))
  have HC := Lib.hid (fun (y : EW ((w.alloc (.cells (a.cells h) 27)).alloc (.cells (b.cells k) 27))) => EqualComs_any h.ca h.cn h.cc k.ca k.cn k.cc a.coms b.coms y.w (hA.coms.ext (HX.out.trans y.ext)) (hB.coms.ext (HX.out.trans y.ext)) (by omega))
  have hq0 := fun w => eql_head a b w
  clear hA hB
  unfold Doc.head at HHa HHb hq0
  unfold Doc.cells at *
  obtain ⟨hra, hrn, hrc, hea, hen, hec, hca, hcn, hcc⟩ := h
  obtain ⟨kra, krn, krc, kea, ken, kec, kca, kcn, kcc⟩ := k
  dsimp only at *
  have HS : Hid (sameDoc a b = (decide (a.hd = b.hd) && (decide (a.regs = b.regs) && (decide (a.evs = b.evs) && decide (a.coms = b.coms))))) := rfl
  generalize decide (a.regs = b.regs) = vr at *
  generalize decide (a.evs = b.evs) = ve at *
  generalize decide (a.coms = b.coms) = vc at *
  generalize decide (a.hd = b.hd) = vh at *
  have HQ := Lib.hid hq0
  clear hq0
  cases vh
  · have hq := fun w => HQ.out w
    go_enter Tryz.func19, Tryz.ntmps19
    go_wp2_with fail
    have hr_1 := fun (x : EW ((w.alloc (.cells #[.string a.title, .string a.lang, .int .u8 a.rate, .bool a.drop, .int .i64 a.last, .slice hra hrn hrc, .slice hea hen hec, .slice hca hcn hcc] 27)).alloc (.cells #[.string b.title, .string b.lang, .int .u8 b.rate, .bool b.drop, .int .i64 b.last, .slice kra krn krc, .slice kea ken kec, .slice kca kcn kcc] 27))) (o : Nat) => (HBa.out.ext x.ext).cell o
    have hr_2 := fun (x : EW ((w.alloc (.cells #[.string a.title, .string a.lang, .int .u8 a.rate, .bool a.drop, .int .i64 a.last, .slice hra hrn hrc, .slice hea hen hec, .slice hca hcn hcc] 27)).alloc (.cells #[.string b.title, .string b.lang, .int .u8 b.rate, .bool b.drop, .int .i64 b.last, .slice kra krn krc, .slice kea ken kec, .slice kca kcn kcc] 27))) (o : Nat) => (HBb.out.ext x.ext).cell o
    refine wp_region_ew ((w.alloc (.cells #[.string a.title, .string a.lang, .int .u8 a.rate, .bool a.drop, .int .i64 a.last, .slice hra hrn hrc, .slice hea hen hec, .slice hca hcn hcc] 27)).alloc (.cells #[.string b.title, .string b.lang, .int .u8 b.rate, .bool b.drop, .int .i64 b.last, .slice kra krn krc, .slice kea ken kec, .slice kca kcn kcc] 27)) (Ext.refl _) (by kernel_rfl) (by kernel_rfl) ?_
    repeat (go_big_quiet_step ((first | (go_at_call 36; first | with_reducible exact EW.calls _ (HHa.out _) | with_reducible exact EW.calls _ (HHb.out _)) | (go_at_call 79; exact EW.calls _ (HR.out _)) | (go_at_call 80; exact EW.calls _ (HE.out _)) | (go_at_call 82; exact EW.calls _ (HC.out _)))))
    refine wpQuiet_nil ?_
    rintro w_3 ⟨⟨_, hx_4⟩, rfl⟩
    try dsimp only
    clear hr_1 hr_2
    have HX_5 := Lib.hid (HX.out.trans hx_4)
    have HB_6 := Lib.hid (HBa.out.ext hx_4)
    have HB_7 := Lib.hid (HBb.out.ext hx_4)
    clear hx_4 HX HBa HBb
    go_wp2_with fail
    go_ret
    exact ⟨by rw [HS.out]; rfl, HX_5.out⟩
  cases vr
  · have hq := fun w => HQ.out w
    go_enter Tryz.func19, Tryz.ntmps19
    go_wp2_with fail
    have hr_8 := fun (x : EW ((w.alloc (.cells #[.string a.title, .string a.lang, .int .u8 a.rate, .bool a.drop, .int .i64 a.last, .slice hra hrn hrc, .slice hea hen hec, .slice hca hcn hcc] 27)).alloc (.cells #[.string b.title, .string b.lang, .int .u8 b.rate, .bool b.drop, .int .i64 b.last, .slice kra krn krc, .slice kea ken kec, .slice kca kcn kcc] 27))) (o : Nat) => (HBa.out.ext x.ext).cell o
    have hr_9 := fun (x : EW ((w.alloc (.cells #[.string a.title, .string a.lang, .int .u8 a.rate, .bool a.drop, .int .i64 a.last, .slice hra hrn hrc, .slice hea hen hec, .slice hca hcn hcc] 27)).alloc (.cells #[.string b.title, .string b.lang, .int .u8 b.rate, .bool b.drop, .int .i64 b.last, .slice kra krn krc, .slice kea ken kec, .slice kca kcn kcc] 27))) (o : Nat) => (HBb.out.ext x.ext).cell o
    refine wp_region_ew ((w.alloc (.cells #[.string a.title, .string a.lang, .int .u8 a.rate, .bool a.drop, .int .i64 a.last, .slice hra hrn hrc, .slice hea hen hec, .slice hca hcn hcc] 27)).alloc (.cells #[.string b.title, .string b.lang, .int .u8 b.rate, .bool b.drop, .int .i64 b.last, .slice kra krn krc, .slice kea ken kec, .slice kca kcn kcc] 27)) (Ext.refl _) (by kernel_rfl) (by kernel_rfl) ?_
    repeat (go_big_quiet_step ((first | (go_at_call 36; first | with_reducible exact EW.calls _ (HHa.out _) | with_reducible exact EW.calls _ (HHb.out _)) | (go_at_call 79; exact EW.calls _ (HR.out _)) | (go_at_call 80; exact EW.calls _ (HE.out _)) | (go_at_call 82; exact EW.calls _ (HC.out _)))))
    refine wpQuiet_nil ?_
    rintro w_10 ⟨⟨_, hx_11⟩, rfl⟩
    try dsimp only
    clear hr_8 hr_9
    have HX_12 := Lib.hid (HX.out.trans hx_11)
    have HB_13 := Lib.hid (HBa.out.ext hx_11)
    have HB_14 := Lib.hid (HBb.out.ext hx_11)
    clear hx_11 HX HBa HBb
    go_wp2_with fail
    go_ret
    exact ⟨by rw [HS.out]; rfl, HX_12.out⟩
  cases ve
  · have hq := fun w => HQ.out w
    go_enter Tryz.func19, Tryz.ntmps19
    go_wp2_with fail
    have hr_15 := fun (x : EW ((w.alloc (.cells #[.string a.title, .string a.lang, .int .u8 a.rate, .bool a.drop, .int .i64 a.last, .slice hra hrn hrc, .slice hea hen hec, .slice hca hcn hcc] 27)).alloc (.cells #[.string b.title, .string b.lang, .int .u8 b.rate, .bool b.drop, .int .i64 b.last, .slice kra krn krc, .slice kea ken kec, .slice kca kcn kcc] 27))) (o : Nat) => (HBa.out.ext x.ext).cell o
    have hr_16 := fun (x : EW ((w.alloc (.cells #[.string a.title, .string a.lang, .int .u8 a.rate, .bool a.drop, .int .i64 a.last, .slice hra hrn hrc, .slice hea hen hec, .slice hca hcn hcc] 27)).alloc (.cells #[.string b.title, .string b.lang, .int .u8 b.rate, .bool b.drop, .int .i64 b.last, .slice kra krn krc, .slice kea ken kec, .slice kca kcn kcc] 27))) (o : Nat) => (HBb.out.ext x.ext).cell o
    refine wp_region_ew ((w.alloc (.cells #[.string a.title, .string a.lang, .int .u8 a.rate, .bool a.drop, .int .i64 a.last, .slice hra hrn hrc, .slice hea hen hec, .slice hca hcn hcc] 27)).alloc (.cells #[.string b.title, .string b.lang, .int .u8 b.rate, .bool b.drop, .int .i64 b.last, .slice kra krn krc, .slice kea ken kec, .slice kca kcn kcc] 27)) (Ext.refl _) (by kernel_rfl) (by kernel_rfl) ?_
    repeat (go_big_quiet_step ((first | (go_at_call 36; first | with_reducible exact EW.calls _ (HHa.out _) | with_reducible exact EW.calls _ (HHb.out _)) | (go_at_call 79; exact EW.calls _ (HR.out _)) | (go_at_call 80; exact EW.calls _ (HE.out _)) | (go_at_call 82; exact EW.calls _ (HC.out _)))))
    refine wpQuiet_nil ?_
    rintro w_17 ⟨⟨_, hx_18⟩, rfl⟩
    try dsimp only
    clear hr_15 hr_16
    have HX_19 := Lib.hid (HX.out.trans hx_18)
    have HB_20 := Lib.hid (HBa.out.ext hx_18)
    have HB_21 := Lib.hid (HBb.out.ext hx_18)
    clear hx_18 HX HBa HBb
    go_wp2_with fail
    go_ret
    exact ⟨by rw [HS.out]; rfl, HX_19.out⟩
  have hq := fun w => HQ.out w
  go_enter Tryz.func19, Tryz.ntmps19
  go_wp2_with fail
  have hr_22 := fun (x : EW ((w.alloc (.cells #[.string a.title, .string a.lang, .int .u8 a.rate, .bool a.drop, .int .i64 a.last, .slice hra hrn hrc, .slice hea hen hec, .slice hca hcn hcc] 27)).alloc (.cells #[.string b.title, .string b.lang, .int .u8 b.rate, .bool b.drop, .int .i64 b.last, .slice kra krn krc, .slice kea ken kec, .slice kca kcn kcc] 27))) (o : Nat) => (HBa.out.ext x.ext).cell o
  have hr_23 := fun (x : EW ((w.alloc (.cells #[.string a.title, .string a.lang, .int .u8 a.rate, .bool a.drop, .int .i64 a.last, .slice hra hrn hrc, .slice hea hen hec, .slice hca hcn hcc] 27)).alloc (.cells #[.string b.title, .string b.lang, .int .u8 b.rate, .bool b.drop, .int .i64 b.last, .slice kra krn krc, .slice kea ken kec, .slice kca kcn kcc] 27))) (o : Nat) => (HBb.out.ext x.ext).cell o
  refine wp_region_ew ((w.alloc (.cells #[.string a.title, .string a.lang, .int .u8 a.rate, .bool a.drop, .int .i64 a.last, .slice hra hrn hrc, .slice hea hen hec, .slice hca hcn hcc] 27)).alloc (.cells #[.string b.title, .string b.lang, .int .u8 b.rate, .bool b.drop, .int .i64 b.last, .slice kra krn krc, .slice kea ken kec, .slice kca kcn kcc] 27)) (Ext.refl _) (by kernel_rfl) (by kernel_rfl) ?_
  repeat (go_big_quiet_step ((first | (go_at_call 36; first | with_reducible exact EW.calls _ (HHa.out _) | with_reducible exact EW.calls _ (HHb.out _)) | (go_at_call 79; exact EW.calls _ (HR.out _)) | (go_at_call 80; exact EW.calls _ (HE.out _)) | (go_at_call 82; exact EW.calls _ (HC.out _)))))
  refine wpQuiet_nil ?_
  rintro w_24 ⟨⟨_, hx_25⟩, rfl⟩
  try dsimp only
  clear hr_22 hr_23
  have HX_26 := Lib.hid (HX.out.trans hx_25)
  have HB_27 := Lib.hid (HBa.out.ext hx_25)
  have HB_28 := Lib.hid (HBb.out.ext hx_25)
  clear hx_25 HX HBa HBb
  go_wp2_with fail
  go_ret
  exact ⟨by rw [HS.out]; rfl, HX_26.out⟩
end Go.Proofs.YtagfedbdakmlgaaGreatDoor
