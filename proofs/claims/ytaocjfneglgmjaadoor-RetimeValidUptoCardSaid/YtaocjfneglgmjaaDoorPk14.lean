/- Laid together: Equality of runs and rows: slices.Equal, style.Same, slices.EqualFunc, style.SameRows; the reference's Same, SameRows. The walks of event.Same and of the reference's Same. The walk of the law package's awake: the chapter's examples. The walks of the references' Mode, negative, Quotient, Ticks, Time, Frame, Convert, known, Span. The walks of retime.size and Worst, and of the references'. -/
import Derived.Test.YtaocjfneglgmjaaDoorPk13
import Derived.Test.YtaocjfneglgmjaaDoorPk02
import Derived.Test.YtaocjfneglgmjaaDoorPk03
import Derived.Test.YtaocjfneglgmjaaDoorPk12
import Derived.Test.YtaocjfneglgmjaaDoorPk07
import Derived.Test.YtaocjfneglgmjaaDoorPk06
import Derived.Test.YtaocjfneglgmjaaDoorPk09

/-! Same -/
namespace Go.Proofs.YtaocjfneglgmjaaDoor
set_option linter.unusedVariables false
set_option linter.unusedSimpArgs false
open Go.RowKit

theorem neq_run (a b : Run) (w : World) : (binOp .neq 59 a.val b.val).run Tryd.prog w = .ok (.bool (!decide (a = b))) w := by
  obtain ⟨t1, c1, i1, u1, r1⟩ := a
  obtain ⟨t2, c2, i2, u2, r2⟩ := b
  unfold Run.val
  dsimp only
  go_simp
  simp only [toList_inj]
  repeat' split
  all_goals simp_all
theorem neq_run_yes (a b : Run) (h : ¬ a = b) (w : World) : (binOp .neq 59 a.val b.val).run Tryd.prog w = .ok (.bool true) w := by rw [neq_run, decide_eq_false h]; rfl
theorem neq_run_no (a : Run) (w : World) : (binOp .neq 59 a.val a.val).run Tryd.prog w = .ok (.bool false) w := by rw [neq_run, decide_eq_true rfl]; rfl

def EqRel {α : Type} (w : World) (n : Nat) (l1 l2 : List α) (i : Value) (wr : World) : Prop := ∃ k : Nat, k ≤ n ∧ i = .int .i64 k ∧ Ext w wr ∧ l1.take k = l2.take k
theorem eq_of_take {α : Type} {l1 l2 : List α} {n : Nat} (h1 : l1.length = n) (h2 : l2.length = n) (h : l1.take n = l2.take n) : l1 = l2 := by
  rw [List.take_of_length_le (by omega), List.take_of_length_le (by omega)] at h
  exact h
theorem take_eq_succ {α : Type} {l1 l2 : List α} {k : Nat} {x : α} (h : l1.take k = l2.take k) (h1 : l1[k]? = some x) (h2 : l2[k]? = some x) : l1.take (k + 1) = l2.take (k + 1) := by
  rw [List.take_add_one, List.take_add_one, h, h1, h2]
theorem ne_at {α : Type} {l1 l2 : List α} {k : Nat} {x y : α} (h1 : l1[k]? = some x) (h2 : l2[k]? = some y) (h : ¬ x = y) : ¬ l1 = l2 := by
  rintro rfl
  rw [h1] at h2
  exact h (Option.some.inj h2)

end Go.Proofs.YtaocjfneglgmjaaDoor

/-! SameE -/
namespace Go.Proofs.YtaocjfneglgmjaaDoor
set_option linter.unusedVariables false
set_option linter.unusedSimpArgs false
open Go.RowKit

theorem eql_span (a b a' b' : Int) (w : World) : (binOp .eql 25 (.agg #[.int .i64 a, .int .i64 b]) (.agg #[.int .i64 a', .int .i64 b'])).run Tryd.prog w = .ok (.bool (decide (a = a' ∧ b = b'))) w := by
  go_simp
  repeat' split
  all_goals simp_all

theorem ev_ne {x y : Ev} (h : ¬ (x.id = y.id ∧ (x.inn = y.inn ∧ x.out = y.out) ∧ x.region.toList = y.region.toList ∧ x.kind = y.kind ∧ x.speaker.toList = y.speaker.toList ∧ x.rows = y.rows)) : decide (x = y) = false :=
  decide_eq_false (by rintro rfl; exact h ⟨rfl, ⟨rfl, rfl⟩, rfl, rfl, rfl, rfl⟩)
theorem ev_eq {x y : Ev} (h1 : x.id = y.id) (h2 : x.inn = y.inn ∧ x.out = y.out) (h3 : x.region.toList = y.region.toList) (h4 : x.kind = y.kind) (h5 : x.speaker.toList = y.speaker.toList) : decide (x = y) = decide (x.rows = y.rows) := by
  obtain ⟨a1, a2, a3, a4, a5, a6, a7⟩ := x
  obtain ⟨b1, b2, b3, b4, b5, b6, b7⟩ := y
  rw [toList_inj] at h3 h5
  simp_all

end Go.Proofs.YtaocjfneglgmjaaDoor

/-! Awake47 -/
namespace Go.Proofs.YtaocjfneglgmjaaDoor
set_option linter.unusedVariables false
set_option linter.unusedSimpArgs false
open Go.RowKit Go.Maps

def r0n : Run := ⟨⟨#[72, 105]⟩, 0, false, false, ⟨#[]⟩⟩
def r0e : Ev := ⟨4, 1, 2, ⟨#[]⟩, 1, ⟨#[]⟩, [[r0n]]⟩
def r0 : Doc := ⟨⟨#[]⟩, ⟨#[]⟩, 6, false, 4, [], [r0e], []⟩
def r1e : Ev := ⟨1, 1, 2, ⟨#[]⟩, 1, ⟨#[]⟩, [[r0n]]⟩
def r1 : Doc := ⟨⟨#[]⟩, ⟨#[]⟩, 3, false, 1, [], [r1e], []⟩
theorem r0_err : r0.err = 0 := by kernel_rfl
theorem r0_span : r0e.span 6 3 1 = ((1, 2), 0) := by kernel_rfl
theorem r0_retE : r0.retE 3 false 1 = 0 := by
  rw [ret_4 r0_err (by decide) (.inl rfl)]
  show (if (r0e.span 6 3 1).2 ≠ 0 then _ else _) = _
  rw [r0_span]
  rfl
theorem r0_ret : r0.retD 3 false 1 = r1 := by
  unfold Doc.retD
  rw [if_pos r0_retE]
  have : retEvs 6 3 1 [r0e] = [r1e] := by
    show [retEv 6 3 1 0 r0e] = _
    unfold retEv
    rw [r0_span]
    rfl
  show Doc.mk _ _ _ _ _ _ (retEvs 6 3 1 [r0e]) _ = _
  rw [this]
  rfl
theorem r0_retL : r0.retL 3 false 1 = [⟨1, 2400, 4800⟩] := by
  unfold Doc.retL
  rw [if_pos r0_retE]
  show [retDri 6 3 1 0 r0e] = _
  unfold retDri
  rw [r0_span]
  rfl
theorem r0_fit : DocFit r0 := by
  refine ⟨⟨by decide, by decide, by decide, by decide⟩, (fun r hr => by cases hr), (fun e he => ?_), (fun e he => ?_), (fun c hc => by cases hc)⟩
  · simp only [r0, List.mem_singleton] at he
    subst he
    refine ⟨⟨by decide, by decide, fun r hr => ?_⟩, by decide⟩
    simp only [r0e, List.mem_singleton] at hr
    subst hr
    refine ⟨by decide, fun x hx => ?_⟩
    simp only [List.mem_singleton] at hx
    subst hx
    exact ⟨by decide, by decide⟩
  · simp only [r0, List.mem_singleton] at he
    subst he
    exact ⟨by decide, by decide⟩
def r0h (g : Nat) : DocH := ⟨none, 0, 0, some ⟨g, 0, none⟩, 1, 1, none, 0, 0⟩
theorem sl_one {α : Type} {C : World → Nat → Nat → α → Prop} {w : World} {size g : Nat} {x : α} (h : C w g 0 x) : Sl w size C (some ⟨g, 0, none⟩) 1 [x] := by
  refine ⟨rfl, fun _ => ⟨g, 0, rfl, fun i y hy => ?_⟩⟩
  match i, hy with
  | 0, hy => simp at hy; subst hy; simpa using h
  | i + 1, hy => simp at hy
theorem r0_at {w : World} {g0 g1 g2 : Nat} (h0 : Blk w g0 59 #[.string ⟨#[72, 105]⟩, .int .u8 0, .bool false, .bool false, .string ⟨#[]⟩]) (h1 : Blk w g1 62 #[.slice (some ⟨g0, 0, none⟩) 1 1])
    (h2 : Blk w g2 46 #[.int .i64 4, .int .i64 1, .int .i64 2, .string ⟨#[]⟩, .int .u8 1, .string ⟨#[]⟩, .slice (some ⟨g1, 0, none⟩) 1 1]) : DocAt w r0 (r0h g2) := by
  refine ⟨Sl.nil, sl_one ⟨some ⟨g1, 0, none⟩, 1, 1, fun j u hu => ?_, sl_one ⟨some ⟨g0, 0, none⟩, 1, 1, h1.cell 0, Nat.le_refl _, by decide, sl_one ⟨h0.cell 0, h0.cell 1, h0.cell 2, h0.cell 3, h0.cell 4⟩⟩, Nat.le_refl _, by decide⟩, Sl.nil⟩
  rw [Nat.zero_add, h2.cell]
  rw [← hu]
  show _ = ((r0e.cells (some ⟨g1, 0, none⟩) 1 1).toList)[j]?
  rw [Array.getElem?_toList]
  rfl
set_option maxRecDepth 100000 in
set_option maxHeartbeats 8000000 in
theorem awake47_any (w : World) (hE : Env w) : Calls Tryd.prog 9 #[] w fun en w' => en = .returned (.bool true) ∧ Ext w w' := by
  have HEn := Lib.hid hE
  clear hE
  have ha : spanT 3 2 25 50 1 = ((24, 48), 0) := by kernel_rfl
  have hb : spanT 6 3 1 2 1 = ((1, 2), 0) := by kernel_rfl
  have HA := Lib.hid (fun w => PSpan_any 3 2 25 50 1 w (by omega) (by omega) (by omega) (by omega))
  have HB := Lib.hid (fun w => PSpan_any 6 3 1 2 1 w (by omega) (by omega) (by omega) (by omega))
  unfold tupS at HA HB
  rw [ha] at HA
  rw [hb] at HB
  dsimp only at HA HB
  clear ha hb
  go_enter Tryd.func9, Tryd.ntmps9
  go_wp2_with fail
  refine (HA.out _).mono ?_
  rintro en w1 ⟨rfl, hx1⟩
  go_wp2_with fail
  refine (HB.out _).mono ?_
  rintro en w2 ⟨rfl, hx2⟩
  have HX2 := Lib.hid ((hx1.alloc (.cells #[.int .i64 24, .int .i64 48] 25)).trans hx2)
  have HBa := Lib.hid ((Blk.new w1 25 #[.int .i64 24, .int .i64 48]).ext hx2)
  clear hx1 hx2
  go_wp2_with fail
  have HX4 := Lib.hid (((((HX2.out.alloc (.cells #[.int .i64 1, .int .i64 2] 25)).alloc (.cells #[.string ⟨#[72, 105]⟩, .int .u8 0, .bool false, .bool false, .string ⟨#[]⟩] 59)).alloc (.cells #[.slice (some ⟨w2.heap.size + 1, 0, none⟩) 1 1] 62)).alloc (.cells #[.int .i64 4, .int .i64 1, .int .i64 2, .string ⟨#[]⟩, .int .u8 1, .string ⟨#[]⟩, .slice (some ⟨w2.heap.size + 1 + 1, 0, none⟩) 1 1] 46)).alloc (.cells #[.string ⟨#[]⟩, .string ⟨#[]⟩, .int .u8 6, .bool false, .int .i64 4, .slice none 0 0, .slice (some ⟨w2.heap.size + 1 + 1 + 1, 0, none⟩) 1 1, .slice none 0 0] 35))
  have HA4 := Lib.hid (((((HBa.out.alloc (.cells #[.int .i64 1, .int .i64 2] 25)).alloc (.cells #[.string ⟨#[72, 105]⟩, .int .u8 0, .bool false, .bool false, .string ⟨#[]⟩] 59)).alloc (.cells #[.slice (some ⟨w2.heap.size + 1, 0, none⟩) 1 1] 62)).alloc (.cells #[.int .i64 4, .int .i64 1, .int .i64 2, .string ⟨#[]⟩, .int .u8 1, .string ⟨#[]⟩, .slice (some ⟨w2.heap.size + 1 + 1, 0, none⟩) 1 1] 46)).alloc (.cells #[.string ⟨#[]⟩, .string ⟨#[]⟩, .int .u8 6, .bool false, .int .i64 4, .slice none 0 0, .slice (some ⟨w2.heap.size + 1 + 1 + 1, 0, none⟩) 1 1, .slice none 0 0] 35))
  have HB4 := Lib.hid (((((Blk.new w2 25 #[.int .i64 1, .int .i64 2]).alloc (.cells #[.string ⟨#[72, 105]⟩, .int .u8 0, .bool false, .bool false, .string ⟨#[]⟩] 59)).alloc (.cells #[.slice (some ⟨w2.heap.size + 1, 0, none⟩) 1 1] 62)).alloc (.cells #[.int .i64 4, .int .i64 1, .int .i64 2, .string ⟨#[]⟩, .int .u8 1, .string ⟨#[]⟩, .slice (some ⟨w2.heap.size + 1 + 1, 0, none⟩) 1 1] 46)).alloc (.cells #[.string ⟨#[]⟩, .string ⟨#[]⟩, .int .u8 6, .bool false, .int .i64 4, .slice none 0 0, .slice (some ⟨w2.heap.size + 1 + 1 + 1, 0, none⟩) 1 1, .slice none 0 0] 35))
  have hb0 := ((((Blk.new' (w := w2.alloc (.cells #[.int .i64 1, .int .i64 2] 25)) (g := w2.heap.size + 1) (t := 59) (cs := #[.string ⟨#[72, 105]⟩, .int .u8 0, .bool false, .bool false, .string ⟨#[]⟩]) (by simp)).alloc (.cells #[.slice (some ⟨w2.heap.size + 1, 0, none⟩) 1 1] 62)).alloc (.cells #[.int .i64 4, .int .i64 1, .int .i64 2, .string ⟨#[]⟩, .int .u8 1, .string ⟨#[]⟩, .slice (some ⟨w2.heap.size + 1 + 1, 0, none⟩) 1 1] 46)).alloc (.cells #[.string ⟨#[]⟩, .string ⟨#[]⟩, .int .u8 6, .bool false, .int .i64 4, .slice none 0 0, .slice (some ⟨w2.heap.size + 1 + 1 + 1, 0, none⟩) 1 1, .slice none 0 0] 35))
  have hb1 := (((Blk.new' (w := (w2.alloc (.cells #[.int .i64 1, .int .i64 2] 25)).alloc (.cells #[.string ⟨#[72, 105]⟩, .int .u8 0, .bool false, .bool false, .string ⟨#[]⟩] 59)) (g := w2.heap.size + 1 + 1) (t := 62) (cs := #[.slice (some ⟨w2.heap.size + 1, 0, none⟩) 1 1]) (by simp)).alloc (.cells #[.int .i64 4, .int .i64 1, .int .i64 2, .string ⟨#[]⟩, .int .u8 1, .string ⟨#[]⟩, .slice (some ⟨w2.heap.size + 1 + 1, 0, none⟩) 1 1] 46)).alloc (.cells #[.string ⟨#[]⟩, .string ⟨#[]⟩, .int .u8 6, .bool false, .int .i64 4, .slice none 0 0, .slice (some ⟨w2.heap.size + 1 + 1 + 1, 0, none⟩) 1 1, .slice none 0 0] 35))
  have hb2 := ((Blk.new' (w := ((w2.alloc (.cells #[.int .i64 1, .int .i64 2] 25)).alloc (.cells #[.string ⟨#[72, 105]⟩, .int .u8 0, .bool false, .bool false, .string ⟨#[]⟩] 59)).alloc (.cells #[.slice (some ⟨w2.heap.size + 1, 0, none⟩) 1 1] 62)) (g := w2.heap.size + 1 + 1 + 1) (t := 46) (cs := #[.int .i64 4, .int .i64 1, .int .i64 2, .string ⟨#[]⟩, .int .u8 1, .string ⟨#[]⟩, .slice (some ⟨w2.heap.size + 1 + 1, 0, none⟩) 1 1]) (by simp)).alloc (.cells #[.string ⟨#[]⟩, .string ⟨#[]⟩, .int .u8 6, .bool false, .int .i64 4, .slice none 0 0, .slice (some ⟨w2.heap.size + 1 + 1 + 1, 0, none⟩) 1 1, .slice none 0 0] 35))
  have HAt := Lib.hid (r0_at hb0 hb1 hb2)
  clear hb0 hb1 hb2 HX2 HBa
  refine (Retime_any r0 (r0h (w2.heap.size + 1 + 1 + 1)) 3 1 false _ (HEn.out.ext HX4.out) HAt.out r0_fit (by simp [r0h]) (by simp [r0h]) (by simp [r0h]) (by decide) (by decide)).mono ?_
  rintro en w3 ⟨⟨ra, rn, rc, ea, en3, ec, ca, cn, cc⟩, A3, n3, c3, rfl, hat3, hdr3, hnc3, hx3⟩
  rw [r0_ret, r0_retE]
  rw [r0_ret] at hat3
  rw [r0_retL] at hdr3
  obtain rfl : 1 = n3 := hdr3.len
  obtain rfl : 1 = en3 := hat3.evs.len
  obtain ⟨b, off, d, rfl, hd, c0, c1, c2⟩ := hdr3.at3 (i := 0) (by omega)
  obtain rfl : (⟨1, 2400, 4800⟩ : Dri) = d := by simpa using hd
  have HX5 := Lib.hid (HX4.out.trans hx3)
  have HA5 := Lib.hid (HA4.out.ext hx3)
  have HB5 := Lib.hid (HB4.out.ext hx3)
  clear HX4 HA4 HB4 hx3 hat3 hdr3 HAt hd
  unfold Doc.cells r1
  dsimp only
  simp only [Nat.zero_mul, Nat.add_zero] at c0 c1 c2
  have hq1 := fun w => eql_span 24 48 24 48 w
  have hq2 := fun w => eql_span 1 2 1 2 w
  have hq3 : ∀ w : World, (binOp .eql 42 (.agg #[.int .i64 1, .int .i64 2400, .int .i64 4800]) (.agg #[.int .i64 1, .int .i64 2400, .int .i64 4800])).run Tryd.prog w = .ok (.bool true) w := fun w => by kernel_rfl
  simp at hq1 hq2
  have ha0 : ∀ o, (w3.alloc o).cell? ⟨w1.heap.size, 0, none⟩ = some (.int .i64 24) := fun o => (HA5.out.alloc o).cell 0
  have ha1 : ∀ o, (w3.alloc o).cell? ⟨w1.heap.size, 1, none⟩ = some (.int .i64 48) := fun o => (HA5.out.alloc o).cell 1
  have hb0 : ∀ o, (w3.alloc o).cell? ⟨w2.heap.size, 0, none⟩ = some (.int .i64 1) := fun o => (HB5.out.alloc o).cell 0
  have hb1 : ∀ o, (w3.alloc o).cell? ⟨w2.heap.size, 1, none⟩ = some (.int .i64 2) := fun o => (HB5.out.alloc o).cell 1
  have d0 : ∀ o, (w3.alloc o).cell? ⟨b, off, none⟩ = some (.int .i64 1) := fun o => ((Ext.refl w3).alloc o).cell c0
  have d1 : ∀ o, (w3.alloc o).cell? ⟨b, off + 1, none⟩ = some (.int .i64 2400) := fun o => ((Ext.refl w3).alloc o).cell c1
  have d2 : ∀ o, (w3.alloc o).cell? ⟨b, off + 2, none⟩ = some (.int .i64 4800) := fun o => ((Ext.refl w3).alloc o).cell c2
  go_wp2_with fail
  go_ret
  exact ⟨rfl, HX5.out.alloc _⟩
end Go.Proofs.YtaocjfneglgmjaaDoor

/-! ConvR -/
namespace Go.Proofs.YtaocjfneglgmjaaDoor
set_option linter.unusedVariables false
set_option linter.unusedSimpArgs false
open Go.RowKit

theorem R2Valid_ext (r : Int) (w : World) (h0 : 0 ≤ r) (h1 : r ≤ 255) : Calls Tryd.prog 22 #[.int .u8 r] w fun e w' => e = .returned (.bool (rOk r)) ∧ Ext w w' := (R2Valid_any r w).mono fun _ _ h => ⟨h.1, h.2 ▸ Ext.refl _⟩
theorem R1Mode_any (m : Int) (w : World) (h1 : 1 ≤ m) (h3 : m ≤ 3) : Calls Tryd.prog 40 #[.int .u8 m] w fun e w' => e = .returned (.bool true) ∧ Ext w w' := by
  go_enter Tryd.func40, Tryd.ntmps40
  go_wp2
  go_ret
  exact ⟨rfl, Ext.refl _⟩
theorem negative_any (n : Int) (w : World) (h0 : 0 ≤ n) (h9 : n ≤ 9223372036854775807) : Calls Tryd.prog 82 #[.int .i64 n] w fun e w' => e = .returned (.int .i64 (-n)) ∧ Ext w w' := by
  by_cases hz : n = 0
  · subst hz
    go_enter Tryd.func82, Tryd.ntmps82
    go_wp2
    go_ret
    exact ⟨rfl, Ext.refl _⟩
  · have hp : 0 < n := by omega
    go_enter Tryd.func82, Tryd.ntmps82
    go_wp2
    go_ret
    exact ⟨rfl, Ext.refl _⟩
set_option maxRecDepth 100000 in
set_option maxHeartbeats 2000000 in
theorem RTicks_any (r : Int) (w : World) (h0 : 0 ≤ r) (h1 : r ≤ 255) : Calls Tryd.prog 14 #[.int .u8 r] w fun e w' => e = .returned (.int .i64 (rTicks r)) ∧ Ext w w' := by
  rcases rate_cases h0 with (rfl | rfl | rfl | rfl | rfl | rfl | rfl | rfl) | h8
  case inr =>
    have HO : Hid (rOk r = false) := by show _ = _; unfold rOk; rw [decide_eq_false (by omega)]
    have HN : Hid (rTicks r = 0) := by
      show _ = _
      unfold rTicks
      simp only [show ¬ r = 1 by omega, show ¬ r = 2 by omega, show ¬ r = 3 by omega, show ¬ r = 4 by omega, show ¬ r = 5 by omega, show ¬ r = 6 by omega, show ¬ r = 7 by omega, if_false]
    go_enter Tryd.func14, Tryd.ntmps14
    go_wp2_with fail
    refine (R2Valid_any r _).mono ?_
    rintro e w1 ⟨rfl, rfl⟩
    rw [HO.out]
    go_wp2_with fail
    go_ret
    exact ⟨ret_int HN.out.symm, Ext.refl _⟩
  all_goals
    go_enter Tryd.func14, Tryd.ntmps14
    go_wp2_with fail
    refine (R2Valid_any _ _).mono ?_
    rintro e w1 ⟨rfl, rfl⟩
    first | rw [show rOk 0 = false from rfl] | rw [show rOk _ = true from rfl]
    go_wp2_with fail
    go_ret
    exact ⟨rfl, by first | exact Ext.refl _ | exact (Ext.refl _).alloc _⟩
set_option maxRecDepth 100000 in
set_option maxHeartbeats 2000000 in
theorem RQuotient_any (n d : Int) (w : World) (hn0 : 0 ≤ n) (hn9 : n ≤ 4611686018427387904) (hd1 : 1 ≤ d) (hd9 : d ≤ 4611686018427387904) :
    Calls Tryd.prog 64 #[.int .i64 n, .int .i64 d, .int .u8 2] w fun e w' => e = .returned (.tuple #[.int .i64 (quoI n d 2), .int .i64 0]) ∧ Ext w w' := by
  have hq0 : 0 ≤ n / d := Int.ediv_nonneg hn0 (by omega)
  have hq1 : n / d ≤ n := Int.ediv_le_self _ hn0
  have hr0 : 0 ≤ n % d := Int.emod_nonneg _ (by omega)
  have hr1 : n % d < d := Int.emod_lt_of_pos _ (by omega)
  have hd0 : (d == 0) = false := by simp; omega
  have hz : ¬ d = 0 := by omega
  have hne : (n == -9223372036854775808) = false := by simp; omega
  have e1 : n.tdiv d = n / d := Int.tdiv_eq_ediv_of_nonneg hn0
  have e2 : n.tmod d = n % d := Int.tmod_eq_emod_of_nonneg hn0
  generalize hQ : n / d = q at *
  generalize hR : n % d = r at *
  have HQ : Hid (quoI n d 2 = if awayB r d 2 = true then q + 1 else q) := by show _ = _; unfold quoI; rw [hQ, hR]
  clear hQ hR
  go_enter Tryd.func64, Tryd.ntmps64
  go_wp2_with fail
  refine (R1Mode_any 2 _ (by omega) (by omega)).mono ?_
  rintro en w1 ⟨rfl, hx1⟩
  go_wp2_with fail
  go_quiet (fail)
  by_cases hr : r = 0
  · subst hr
    have HF : Hid (quoI n d 2 = q) := by show _ = _; rw [HQ.out]; rfl
    go_wp2_with fail
    go_ret2
    exact ⟨by rw [HF.out] <;> rfl, hx1.drewN _⟩
  · have hr' : (r == 0) = false := by simpa using hr
    have hrn : (r != 0) = true := by simpa using hr
    have hr2 : ¬ r < 0 := by omega
    have hd2 : ¬ d < 0 := by omega
    go_wp2_with fail
    refine (negative_any r _ hr0 (by omega)).mono ?_
    rintro en w2 ⟨rfl, hx2⟩
    go_wp2_with fail
    refine (negative_any d _ (by omega) (by omega)).mono ?_
    rintro en w3 ⟨rfl, hx3⟩
    go_wp2_with fail
    refine (negative_any r _ hr0 (by omega)).mono ?_
    rintro en w4 ⟨rfl, hx4⟩
    have hx := (((hx1.drewN _).trans hx2).trans hx3).trans hx4
    by_cases hle : d - r ≤ r
    · have HF : Hid (quoI n d 2 = q + 1) := by show _ = _; rw [HQ.out, (show awayB r d 2 = decide (d - r ≤ r) by unfold awayB; rw [if_neg hr]; rfl), decide_eq_true hle]; rfl
      have hle2 : -r ≤ -d - -r := by omega
      go_wp2_with fail
      go_ret2
      exact ⟨by rw [HF.out] <;> rfl, by first | exact hx | exact (((hx1.drewN _).trans hx2).trans hx3).trans hx4⟩
    · have HF : Hid (quoI n d 2 = q) := by show _ = _; rw [HQ.out, (show awayB r d 2 = decide (d - r ≤ r) by unfold awayB; rw [if_neg hr]; rfl), decide_eq_false hle]; rfl
      have hle2 : ¬ -r ≤ -d - -r := by omega
      go_wp2_with fail
      go_ret2
      exact ⟨by rw [HF.out] <;> rfl, by first | exact hx | exact (((hx1.drewN _).trans hx2).trans hx3).trans hx4⟩

set_option maxRecDepth 100000 in
set_option maxHeartbeats 2000000 in
theorem RTime_any47 (r f : Int) (w : World) (h0 : 0 ≤ r) (h1 : r ≤ 255) : Calls Tryd.prog 41 #[.int .u8 r, .int .i64 f] w fun e w' => e = .returned (tupI (timeT r f)) ∧ Ext w w' := by
  have HV := Lib.hid (fun w => R2Valid_ext r w h0 h1)
  have HTk := Lib.hid (fun w => RTicks_any r w h0 h1)
  cases ho : rOk r
  · have HO := Lib.hid ho
    have HF : Hid (timeT r f = (0, 3)) := by show _ = _; unfold timeT; rw [if_pos ho]
    clear ho
    go_enter Tryd.func41, Tryd.ntmps41
    go_wp2_with fail
    refine (HV.out _).mono ?_
    rintro en w1 ⟨rfl, hx1⟩
    rw [HO.out]
    go_wp2_with fail
    go_ret2
    exact ⟨by rw [HF.out] <;> rfl, hx1⟩
  obtain ⟨t1, t2⟩ := ticks_bd ho
  have HF : Hid (timeT r f = if f < 0 ∨ 10378368000 / rTicks r < f then (0, 2) else (f * rTicks r, 0)) := by show _ = _; unfold timeT; rw [if_neg (by simp [ho])]
  have HO := Lib.hid ho
  clear ho
  have hz : ¬ rTicks r = 0 := by omega
  have hz' : (rTicks r == 0) = false := by simpa using hz
  have e1 : (10378368000 : Int).tdiv (rTicks r) = 10378368000 / rTicks r := Int.tdiv_eq_ediv_of_nonneg (by omega)
  have hq0 : 0 ≤ (10378368000 : Int) / rTicks r := Int.ediv_nonneg (by omega) (by omega)
  have hq1 : (10378368000 : Int) / rTicks r ≤ 10378368000 := Int.ediv_le_self _ (by omega)
  have hm := Int.ediv_mul_le (10378368000 : Int) (b := rTicks r) hz
  generalize (10378368000 : Int) / rTicks r = q at *
  generalize rTicks r = t at *
  by_cases hf : f < 0
  · have HG := Lib.hid (HF.out.trans (if_pos (.inl hf)))
    go_enter Tryd.func41, Tryd.ntmps41
    go_wp2_with fail
    refine (HV.out _).mono ?_
    rintro en w1 ⟨rfl, hx1⟩
    rw [HO.out]
    go_wp2_with fail
    go_ret2
    exact ⟨by rw [HG.out] <;> rfl, hx1⟩
  by_cases hg : q < f
  · have HG := Lib.hid (HF.out.trans (if_pos (.inr hg)))
    go_enter Tryd.func41, Tryd.ntmps41
    go_wp2_with fail
    refine (HV.out _).mono ?_
    rintro en w1 ⟨rfl, hx1⟩
    rw [HO.out]
    go_wp2_with fail
    refine (HTk.out _).mono ?_
    rintro en w2 ⟨rfl, hx2⟩
    go_wp2_with fail
    go_ret2
    exact ⟨by rw [HG.out] <;> rfl, hx1.trans hx2⟩
  have HG := Lib.hid (HF.out.trans (if_neg (by omega)))
  have hp0 : 0 ≤ f * t := Int.mul_nonneg (by omega) (by omega)
  have hp1 : f * t ≤ 10378368000 := Int.le_trans (Int.mul_le_mul_of_nonneg_right (by omega) (by omega)) hm
  go_enter Tryd.func41, Tryd.ntmps41
  go_wp2_with fail
  refine (HV.out _).mono ?_
  rintro en w1 ⟨rfl, hx1⟩
  rw [HO.out]
  go_wp2_with fail
  refine (HTk.out _).mono ?_
  rintro en w2 ⟨rfl, hx2⟩
  go_wp2_with fail
  refine (HTk.out _).mono ?_
  rintro en w3 ⟨rfl, hx3⟩
  go_wp2_with fail
  go_ret2
  exact ⟨by rw [HG.out] <;> rfl, (hx1.trans hx2).trans hx3⟩

set_option maxRecDepth 100000 in
set_option maxHeartbeats 2000000 in
theorem RFrame_any47 (r t : Int) (w : World) (h0 : 0 ≤ r) (h1 : r ≤ 255) : Calls Tryd.prog 42 #[.int .u8 r, .int .i64 t, .int .u8 2] w fun e w' => e = .returned (tupI (frameT r t 2)) ∧ Ext w w' := by
  have HV := Lib.hid (fun w => R2Valid_ext r w h0 h1)
  have HTk := Lib.hid (fun w => RTicks_any r w h0 h1)
  cases ho : rOk r
  · have HO := Lib.hid ho
    have HF : Hid (frameT r t 2 = (0, 3)) := by show _ = _; unfold frameT; rw [if_pos ho]
    clear ho
    go_enter Tryd.func42, Tryd.ntmps42
    go_wp2_with fail
    refine (HV.out _).mono ?_
    rintro en w1 ⟨rfl, hx1⟩
    rw [HO.out]
    go_wp2_with fail
    go_ret2
    exact ⟨by rw [HF.out] <;> rfl, hx1⟩
  obtain ⟨t1, t2⟩ := ticks_bd ho
  have HF : Hid (frameT r t 2 = if t < 0 ∨ 10378368000 < t then (0, 2) else if 10378368000 < quoI t (rTicks r) 2 * rTicks r then (0, 2) else (quoI t (rTicks r) 2, 0)) := by show _ = _; unfold frameT; rw [if_neg (by simp [ho])]
  have HBd := Lib.hid (@frame_bd r t ho)
  have HO := Lib.hid ho
  clear ho
  by_cases ht : t < 0
  · have HG := Lib.hid (HF.out.trans (if_pos (.inl ht)))
    go_enter Tryd.func42, Tryd.ntmps42
    go_wp2_with fail
    refine (HV.out _).mono ?_
    rintro en w1 ⟨rfl, hx1⟩
    rw [HO.out]
    go_wp2_with fail
    refine (R1Mode_any 2 _ (by omega) (by omega)).mono ?_
    rintro en wm ⟨rfl, hxm⟩
    go_wp2_with fail
    go_ret2
    exact ⟨by rw [HG.out] <;> rfl, (hx1.trans hxm)⟩
  by_cases hg : 10378368000 < t
  · have HG := Lib.hid (HF.out.trans (if_pos (.inr hg)))
    go_enter Tryd.func42, Tryd.ntmps42
    go_wp2_with fail
    refine (HV.out _).mono ?_
    rintro en w1 ⟨rfl, hx1⟩
    rw [HO.out]
    go_wp2_with fail
    refine (R1Mode_any 2 _ (by omega) (by omega)).mono ?_
    rintro en wm ⟨rfl, hxm⟩
    go_wp2_with fail
    go_ret2
    exact ⟨by rw [HG.out] <;> rfl, (hx1.trans hxm)⟩
  have HG := Lib.hid (HF.out.trans (if_neg (by omega)))
  have HQu := Lib.hid (fun w => RQuotient_any t (rTicks r) w (by omega) (by omega) (by omega) (by omega))
  obtain ⟨b1, b2, b3, b4⟩ := HBd.out (by omega) (by omega)
  generalize quoI t (rTicks r) 2 = q at *
  generalize rTicks r = tk at *
  go_enter Tryd.func42, Tryd.ntmps42
  go_wp2_with fail
  refine (HV.out _).mono ?_
  rintro en w1 ⟨rfl, hx1⟩
  rw [HO.out]
  go_wp2_with fail
  refine (R1Mode_any 2 _ (by omega) (by omega)).mono ?_
  rintro en wm ⟨rfl, hxm⟩
  go_wp2_with fail
  refine (HTk.out _).mono ?_
  rintro en w2 ⟨rfl, hx2⟩
  go_wp2_with fail
  refine (HQu.out _).mono ?_
  rintro en w3 ⟨rfl, hx3⟩
  go_wp2_with fail
  refine (HTk.out _).mono ?_
  rintro en w4 ⟨rfl, hx4⟩
  have hx := (((hx1.trans hxm).trans hx2).trans hx3).trans hx4
  by_cases hb : 10378368000 < q * tk
  · have HGG := Lib.hid (HG.out.trans (if_pos hb))
    go_wp2_with fail
    go_ret2
    exact ⟨by rw [HGG.out] <;> rfl, hx⟩
  · have HGG := Lib.hid (HG.out.trans (if_neg hb))
    go_wp2_with fail
    go_ret2
    exact ⟨by rw [HGG.out] <;> rfl, hx⟩

set_option maxRecDepth 100000 in
set_option maxHeartbeats 2000000 in
theorem RConv_any47 (a b f : Int) (w : World) (h0 : 0 ≤ a) (h1 : a ≤ 255) (g0 : 0 ≤ b) (g1 : b ≤ 255) : Calls Tryd.prog 24 #[.int .u8 a, .int .u8 b, .int .i64 f, .int .u8 2] w fun e w' => e = .returned (tupI (convT a b f 2)) ∧ Ext w w' := by
  have HVa := Lib.hid (fun w => R2Valid_ext a w h0 h1)
  have HVb := Lib.hid (fun w => R2Valid_ext b w g0 g1)
  have HT := Lib.hid (fun w => RTime_any47 a f w h0 h1)
  have HFr := Lib.hid (fun t w => RFrame_any47 b t w g0 g1)
  unfold tupI at *
  cases ho : rOk a
  · have HO := Lib.hid ho
    have HF : Hid (convT a b f 2 = (0, 3)) := by show _ = _; unfold convT; rw [if_pos (.inl ho)]
    clear ho
    go_enter Tryd.func24, Tryd.ntmps24
    go_wp2_with fail
    refine (HVa.out _).mono ?_
    rintro en w1 ⟨rfl, hx1⟩
    rw [HO.out]
    go_wp2_with fail
    go_ret2
    exact ⟨by rw [HF.out] <;> rfl, hx1⟩
  cases hb : rOk b
  · have HO := Lib.hid ho
    have HP := Lib.hid hb
    have HF : Hid (convT a b f 2 = (0, 3)) := by show _ = _; unfold convT; rw [if_pos (.inr hb)]
    clear ho hb
    go_enter Tryd.func24, Tryd.ntmps24
    go_wp2_with fail
    refine (HVa.out _).mono ?_
    rintro en w1 ⟨rfl, hx1⟩
    rw [HO.out]
    go_wp2_with fail
    refine (HVb.out _).mono ?_
    rintro en w2 ⟨rfl, hx2⟩
    rw [HP.out]
    go_wp2_with fail
    go_ret2
    exact ⟨by rw [HF.out] <;> rfl, hx1.trans hx2⟩
  have HF : Hid (convT a b f 2 = if (timeT a f).2 ≠ 0 then (0, (timeT a f).2) else frameT b (timeT a f).1 2) := by show _ = _; unfold convT; rw [if_neg (by simp [ho, hb])]
  have HO := Lib.hid ho
  have HP := Lib.hid hb
  clear ho hb
  generalize timeT a f = p at *
  obtain ⟨tk, er⟩ := p
  dsimp only at *
  by_cases he : er = 0
  · subst he
    have HG := Lib.hid (HF.out.trans (if_neg (by simp)))
    go_enter Tryd.func24, Tryd.ntmps24
    go_wp2_with fail
    refine (HVa.out _).mono ?_
    rintro en w1 ⟨rfl, hx1⟩
    rw [HO.out]
    go_wp2_with fail
    refine (HVb.out _).mono ?_
    rintro en w2 ⟨rfl, hx2⟩
    rw [HP.out]
    go_wp2_with fail
    refine (R1Mode_any 2 _ (by omega) (by omega)).mono ?_
    rintro en wm ⟨rfl, hxm⟩
    go_wp2_with fail
    refine (HT.out _).mono ?_
    rintro en w3 ⟨rfl, hx3⟩
    go_wp2_with fail
    refine (HFr.out _ _).mono ?_
    rintro en w4 ⟨rfl, hx4⟩
    go_wp2_with fail
    go_ret2
    exact ⟨by rw [HG.out] <;> rfl, (((hx1.trans hx2).trans hxm).trans hx3).trans hx4⟩
  · have HG := Lib.hid (HF.out.trans (if_pos he))
    have hne : (er != 0) = true := by simpa using he
    go_enter Tryd.func24, Tryd.ntmps24
    go_wp2_with fail
    refine (HVa.out _).mono ?_
    rintro en w1 ⟨rfl, hx1⟩
    rw [HO.out]
    go_wp2_with fail
    refine (HVb.out _).mono ?_
    rintro en w2 ⟨rfl, hx2⟩
    rw [HP.out]
    go_wp2_with fail
    refine (R1Mode_any 2 _ (by omega) (by omega)).mono ?_
    rintro en wm ⟨rfl, hxm⟩
    go_wp2_with fail
    refine (HT.out _).mono ?_
    rintro en w3 ⟨rfl, hx3⟩
    go_wp2_with fail
    go_ret2
    exact ⟨by rw [HG.out] <;> rfl, ((hx1.trans hx2).trans hxm).trans hx3⟩

theorem RKnown_any47 (m : Int) (w : World) : Calls Tryd.prog 23 #[.int .u8 m] w fun e w' => e = .returned (.bool (decide (m = 1 ∨ m = 2))) ∧ w = w' := by
  by_cases h1 : m = 1
  · subst h1
    go_enter Tryd.func23, Tryd.ntmps23
    go_wp2
    go_ret
    exact ⟨rfl, rfl⟩
  by_cases h2 : m = 2
  · subst h2
    go_enter Tryd.func23, Tryd.ntmps23
    go_wp2
    go_ret
    exact ⟨rfl, rfl⟩
  have e1 : (m == 1) = false := by simpa using h1
  have e2 : (m == 2) = false := by simpa using h2
  go_enter Tryd.func23, Tryd.ntmps23
  go_wp2
  go_ret
  exact ⟨ret_bool (by rw [decide_eq_false (by omega)]), rfl⟩

set_option maxRecDepth 100000 in
set_option maxHeartbeats 4000000 in
theorem RSpan_any47 (a b i o m : Int) (w : World) (h0 : 0 ≤ a) (h1 : a ≤ 255) (g0 : 0 ≤ b) (g1 : b ≤ 255) : Calls Tryd.prog 11 #[.int .u8 a, .int .u8 b, .agg #[.int .i64 i, .int .i64 o], .int .u8 m] w fun e w' => e = .returned (tupS (spanT a b i o m)) ∧ Ext w w' := by
  have HVa := Lib.hid (fun w => R2Valid_ext a w h0 h1)
  have HVb := Lib.hid (fun w => R2Valid_ext b w g0 g1)
  have HC := Lib.hid (fun f w => RConv_any47 a b f w h0 h1 g0 g1)
  have S1 := Lib.hid (@PSpan_1 a b i o m)
  have S2 := Lib.hid (@PSpan_2 a b i o m)
  have S3 := Lib.hid (@PSpan_3 a b i o m)
  have S4 := Lib.hid (@PSpan_4 a b i o m)
  have S5 := Lib.hid (@PSpan_5 a b i o m)
  have HX := Lib.hid (((Ext.refl w).alloc (.cells #[.int .i64 i, .int .i64 o] 25)).alloc (.cells #[.int .i64 0, .int .i64 0] 25))
  have HB := Lib.hid ((Blk.new w 25 #[.int .i64 i, .int .i64 o]).alloc (.cells #[.int .i64 0, .int .i64 0] 25))
  have HZ := Lib.hid (Blk.new' (w := w.alloc (.cells #[.int .i64 i, .int .i64 o] 25)) (g := w.heap.size + 1) (t := 25) (cs := #[.int .i64 0, .int .i64 0]) (by simp))
  unfold tupI at HC
  generalize hW0 : (w.alloc (.cells #[.int .i64 i, .int .i64 o] 25)).alloc (.cells #[.int .i64 0, .int .i64 0] 25) = W0 at HX HB HZ
  have END : ∀ (w9 : World) (q1 q2 er : Int), Ext W0 w9 → spanT a b i o m = ((q1, q2), er) → ∀ (tmps : Array Value), tmps.getD 8 undef = .pointer (some ⟨w.heap.size + 1, 0, none⟩) → tmps.getD 9 undef = .int .i64 er →
      (results Tryd.f11 tmps).run Tryd.prog (putB w9 (w.heap.size + 1) 25 #[.int .i64 q1, .int .i64 q2]) = .ok (tupS (spanT a b i o m)) (putB w9 (w.heap.size + 1) 25 #[.int .i64 q1, .int .i64 q2]) ∧ Ext w (putB w9 (w.heap.size + 1) 25 #[.int .i64 q1, .int .i64 q2]) := fun w9 q1 q2 er hx hs tmps h8 h9 => by
    refine ⟨?_, (HX.out.trans hx).put (by omega) _ _⟩
    have := results_B_tmp (P := Tryd.prog) Tryd.results11 (tmps := tmps) (w := putB w9 (w.heap.size + 1) 25 #[.int .i64 q1, .int .i64 q2]) (g := w.heap.size + 1) h8 ((HZ.out.ext hx).put _) Tryd.underlying25 rfl size_span'
    rw [this, h9, hs]
    rfl
  have HEnd := Lib.hid END
  clear END
  go_enter Tryd.func11, Tryd.ntmps11
  cases ho : rOk a
  · have HO := Lib.hid ho
    clear ho
    go_wp2_with fail
    try rw [hW0]
    refine (HVa.out _).mono ?_
    rintro en w1 ⟨rfl, hx1⟩
    rw [HO.out]
    have HZ1 := Lib.hid (HZ.out.ext hx1)
    go_wp2_with (refine wpList_storeB rfl 25 (.tmp 8) _ rfl (w.heap.size + 1) 25 _ _ (by exact rfl) (by exact rfl) (by exact HZ1.out) (by exact rfl) (by exact size_span') (by simp [Value.oneCell']) ?_)
    exact (fun h => bodyPost_ret (v := tupS (spanT a b i o m)) h.1 rfl ⟨rfl, h.2⟩) (HEnd.out _ _ _ _ hx1 (S1.out (.inl HO.out)) _ (by exact rfl) (by exact rfl))
  cases hb : rOk b
  · have HO := Lib.hid ho
    have HP := Lib.hid hb
    clear ho hb
    go_wp2_with fail
    try rw [hW0]
    refine (HVa.out _).mono ?_
    rintro en w1 ⟨rfl, hx1⟩
    rw [HO.out]
    go_wp2_with fail
    refine (HVb.out _).mono ?_
    rintro en w2 ⟨rfl, hx2⟩
    rw [HP.out]
    have hx2' := hx1.trans hx2
    have HZ1 := Lib.hid (HZ.out.ext hx2')
    go_wp2_with (refine wpList_storeB rfl 25 (.tmp 8) _ rfl (w.heap.size + 1) 25 _ _ (by exact rfl) (by exact rfl) (by exact HZ1.out) (by exact rfl) (by exact size_span') (by simp [Value.oneCell']) ?_)
    exact (fun h => bodyPost_ret (v := tupS (spanT a b i o m)) h.1 rfl ⟨rfl, h.2⟩) (HEnd.out _ _ _ _ hx2' (S1.out (.inr HP.out)) _ (by exact rfl) (by exact rfl))
  have HNo : Hid (¬ (rOk a = false ∨ rOk b = false)) := by show ¬ _; simp [ho, hb]
  have HO := Lib.hid ho
  have HP := Lib.hid hb
  clear ho hb S1
  go_wp2_with fail
  try rw [hW0]
  refine (HVa.out _).mono ?_
  rintro en w1 ⟨rfl, hx1⟩
  rw [HO.out]
  go_wp2_with fail
  refine (HVb.out _).mono ?_
  rintro en w2 ⟨rfl, hx2⟩
  rw [HP.out]
  have HX2 := Lib.hid (hx1.trans hx2)
  have HZ2 := Lib.hid (HZ.out.ext HX2.out)
  have HB2 := Lib.hid (HB.out.ext HX2.out)
  clear hx1 hx2
  have hc2 := fun k => HB2.out.cell k
  go_wp2_with fail
  refine (RKnown_any47 m _).mono ?_
  rintro en w3 ⟨rfl, hx3⟩
  subst hx3
  cases hm : decide (m = 1 ∨ m = 2)
  · have HM : Hid (¬ (m = 1 ∨ m = 2)) := by show ¬ _; exact of_decide_eq_false hm
    clear hm
    go_wp2_with (refine wpList_storeB rfl 25 (.tmp 8) _ rfl (w.heap.size + 1) 25 _ _ (by exact rfl) (by exact rfl) (by exact HZ2.out) (by exact rfl) (by exact size_span') (by simp [Value.oneCell']) ?_)
    exact (fun h => bodyPost_ret (v := tupS (spanT a b i o m)) h.1 rfl ⟨rfl, h.2⟩) (HEnd.out _ _ _ _ HX2.out (S2.out HNo.out (.inl HM.out)) _ (by exact rfl) (by exact rfl))
  have HM : Hid (m = 1 ∨ m = 2) := by show _ ∨ _; exact of_decide_eq_true hm
  clear hm
  by_cases hio : o ≤ i
  · go_wp2_with (refine wpList_storeB rfl 25 (.tmp 8) _ rfl (w.heap.size + 1) 25 _ _ (by exact rfl) (by exact rfl) (by exact HZ2.out) (by exact rfl) (by exact size_span') (by simp [Value.oneCell']) ?_)
    exact (fun h => bodyPost_ret (v := tupS (spanT a b i o m)) h.1 rfl ⟨rfl, h.2⟩) (HEnd.out _ _ _ _ HX2.out (S2.out HNo.out (.inr hio)) _ (by exact rfl) (by exact rfl))
  have HM2 : Hid (¬ (¬ (m = 1 ∨ m = 2) ∨ o ≤ i)) := by show ¬ _; have := HM.out; omega
  clear S2
  by_cases hi : i < 0
  · go_wp2_with (refine wpList_storeB rfl 25 (.tmp 8) _ rfl (w.heap.size + 1) 25 _ _ (by exact rfl) (by exact rfl) (by exact HZ2.out) (by exact rfl) (by exact size_span') (by simp [Value.oneCell']) ?_)
    exact (fun h => bodyPost_ret (v := tupS (spanT a b i o m)) h.1 rfl ⟨rfl, h.2⟩) (HEnd.out _ _ _ _ HX2.out (S3.out HNo.out HM2.out (.inl hi)) _ (by exact rfl) (by exact rfl))
  by_cases hoo : 5184000 < o
  · go_wp2_with (refine wpList_storeB rfl 25 (.tmp 8) _ rfl (w.heap.size + 1) 25 _ _ (by exact rfl) (by exact rfl) (by exact HZ2.out) (by exact rfl) (by exact size_span') (by simp [Value.oneCell']) ?_)
    exact (fun h => bodyPost_ret (v := tupS (spanT a b i o m)) h.1 rfl ⟨rfl, h.2⟩) (HEnd.out _ _ _ _ HX2.out (S3.out HNo.out HM2.out (.inr hoo)) _ (by exact rfl) (by exact rfl))
  have HM3 : Hid (¬ (i < 0 ∨ 5184000 < o)) := by show ¬ _; omega
  clear S3
  by_cases h2 : m = 2
  · subst h2
    go_wp2_with (first | (refine wpList_loadB rfl 25 (.tmp 6) rfl w.heap.size 25 _ _ (by exact rfl) (by exact HB2.out) Tryd.underlying25 rfl (by exact size_span') ?_) | (refine wpList_storeB rfl 25 (.tmp 8) _ rfl (w.heap.size + 1) 25 _ _ (by exact rfl) (by exact rfl) (by exact HZ2.out) (by exact rfl) (by exact size_span') (by simp [Value.oneCell']) ?_))
    exact (fun h => bodyPost_ret (v := tupS (spanT a b i o 2)) h.1 rfl ⟨rfl, h.2⟩) (HEnd.out _ _ _ _ HX2.out (S4.out HNo.out HM2.out HM3.out trivial) _ (by exact rfl) (by exact rfl))
  have HE := Lib.hid (S5.out HNo.out HM2.out HM3.out h2)
  have h2' : (m == 2) = false := by simpa using h2
  clear S4 S5 h2
  have hbi := conv_bd a b i
  have hbo := conv_bd a b o
  have HCi := Lib.hid (HC.out i)
  have HCo := Lib.hid (HC.out o)
  clear HC
  generalize convT a b i 2 = pi at *
  generalize convT a b o 2 = po at *
  obtain ⟨ci, ei⟩ := pi
  obtain ⟨co, eo⟩ := po
  dsimp only at *
  go_wp2_with fail
  refine (HCi.out _).mono ?_
  rintro en w4 ⟨rfl, hx4⟩
  have HX4 := Lib.hid (HX2.out.trans hx4)
  have HZ4 := Lib.hid (HZ2.out.ext hx4)
  have HB4 := Lib.hid (HB2.out.ext hx4)
  clear hx4 hc2
  have hc4 := fun k => HB4.out.cell k
  by_cases hei : ei = 0
  case neg =>
    have hne : (ei != 0) = true := by simpa using hei
    have HG := Lib.hid (HE.out.trans (if_pos hei))
    go_wp2_with (refine wpList_storeB rfl 25 (.tmp 8) _ rfl (w.heap.size + 1) 25 _ _ (by exact rfl) (by exact rfl) (by exact HZ4.out) (by exact rfl) (by exact size_span') (by simp [Value.oneCell']) ?_)
    exact (fun h => bodyPost_ret (v := tupS (spanT a b i o m)) h.1 rfl ⟨rfl, h.2⟩) (HEnd.out _ _ _ _ HX4.out HG.out _ (by exact rfl) (by exact rfl))
  subst hei
  have HG := Lib.hid (HE.out.trans (if_neg (by simp)))
  clear HE
  go_wp2_with fail
  refine (HCo.out _).mono ?_
  rintro en w5 ⟨rfl, hx5⟩
  have HX5 := Lib.hid (HX4.out.trans hx5)
  have HZ5 := Lib.hid (HZ4.out.ext hx5)
  clear hx5 hc4
  by_cases heo : eo = 0
  case neg =>
    have hne : (eo != 0) = true := by simpa using heo
    have HG2 := Lib.hid (HG.out.trans (if_pos heo))
    go_wp2_with (refine wpList_storeB rfl 25 (.tmp 8) _ rfl (w.heap.size + 1) 25 _ _ (by exact rfl) (by exact rfl) (by exact HZ5.out) (by exact rfl) (by exact size_span') (by simp [Value.oneCell']) ?_)
    exact (fun h => bodyPost_ret (v := tupS (spanT a b i o m)) h.1 rfl ⟨rfl, h.2⟩) (HEnd.out _ _ _ _ HX5.out HG2.out _ (by exact rfl) (by exact rfl))
  subst heo
  have HG2 := Lib.hid (HG.out.trans (if_neg (by simp)))
  clear HG
  have hmx : 0 ≤ max co (ci + 1) ∧ max co (ci + 1) ≤ 10378373006 := by omega
  by_cases hbig : 5184000 < max co (ci + 1)
  · have HG3 := Lib.hid (HG2.out.trans (if_pos hbig))
    go_wp2_with (refine wpList_storeB rfl 25 (.tmp 8) _ rfl (w.heap.size + 1) 25 _ _ (by exact rfl) (by exact rfl) (by exact HZ5.out) (by exact rfl) (by exact size_span') (by simp [Value.oneCell']) ?_)
    exact (fun h => bodyPost_ret (v := tupS (spanT a b i o m)) h.1 rfl ⟨rfl, h.2⟩) (HEnd.out _ _ _ _ HX5.out HG3.out _ (by exact rfl) (by exact rfl))
  · have HG3 := Lib.hid (HG2.out.trans (if_neg hbig))
    go_wp2_with (refine wpList_storeB rfl 25 (.tmp 8) _ rfl (w.heap.size + 1) 25 _ _ (by exact rfl) (by exact rfl) (by exact HZ5.out) (by exact rfl) (by exact size_span') (by simp [Value.oneCell']) ?_)
    exact (fun h => bodyPost_ret (v := tupS (spanT a b i o m)) h.1 rfl ⟨rfl, h.2⟩) (HEnd.out _ _ _ _ HX5.out HG3.out _ (by exact rfl) (by exact rfl))
end Go.Proofs.YtaocjfneglgmjaaDoor

/-! WorstW -/
namespace Go.Proofs.YtaocjfneglgmjaaDoor
set_option linter.unusedVariables false
set_option linter.unusedSimpArgs false
open Go.RowKit

def WoRel (w : World) (n : Nat) (l : List Dri) (v i : Value) (wr : World) : Prop := ∃ k : Nat, k ≤ n ∧ i = .int .i64 k ∧ v = .int .i64 (worst (l.take k)) ∧ Ext w wr
theorem wp_max3 {o : Oper} {a : Act} {w : World} {K : Act → World → Prop} {Q : Exit → Act → World → Prop} {s s' s'' : Nat} {x y z : Int} (ho : o.op = .call { callee := .builtin .max, args := #[.tmp s, .tmp s', .tmp s''], argTypes := #[2, 2, 2] }) (hx : a.eval (.tmp s) = .int .i64 x) (hy : a.eval (.tmp s') = .int .i64 y) (hz : a.eval (.tmp s'') = .int .i64 z)
    (h : K (a.put o.dst (.int .i64 (max (max x y) z))) w) : o.wp Tryd.prog a w K Q := by
  obtain ⟨dst, op, ty, pos, after, guard⟩ := o
  simp only at ho
  subst ho
  simp [Act.eval] at hx hy hz
  have e : max (max x y) z = if (if x < y then y else x) < z then z else if x < y then y else x := by
    split <;> split <;> omega
  rw [e] at h
  go_simp
  exact h
/-- a chain whose values are known, each step making memory at most -/
def MvJ (vs : List Value) (W : World) (us : List Value) (w' : World) : Prop := Ext W w' ∧ ∀ (p : Nat) (u : Value), us[p]? = some u → vs[p]? = some u
theorem MvJ.start {vs : List Value} (W : World) : MvJ vs W [] W.drew := ⟨(Ext.refl W).drew, fun p u h => by simp at h⟩
theorem MvJ.snoc {vs us : List Value} {W w' w2 : World} {v : Value} (h : MvJ vs W us w') (hx : Ext w' w2) (hv : vs[us.length]? = some v) : MvJ vs W (us ++ [v]) w2 := by
  refine ⟨h.1.trans hx, fun p u hu => ?_⟩
  by_cases hp : p < us.length
  · rw [List.getElem?_append_left hp] at hu
    exact h.2 p u hu
  · rw [List.getElem?_append_right (by omega)] at hu
    have h0 : p - us.length = 0 := by
      have := (List.getElem?_eq_some_iff.1 hu).1
      simp at this
      omega
    rw [h0] at hu
    obtain rfl : v = u := by simpa using hu
    have : p = us.length := by omega
    rw [this]
    exact hv

theorem PSize47_any (n : Int) (w : World) (h1 : -9223372036854775808 ≤ n) (h2 : n ≤ 9223372036854775807) : Calls Tryd.prog 28 #[.int .i64 n] w fun e w' => e = .returned (.int .i64 (dsz n)) ∧ Ext w w' := by
  by_cases h : n = -9223372036854775808
  · subst h
    go_enter Tryd.func28, Tryd.ntmps28
    go_wp2
    go_ret
    exact ⟨rfl, Ext.refl _⟩
  have hb : (n == -9223372036854775808) = false := by simpa using h
  by_cases h0 : n < 0
  · have HF : Hid (dsz n = -n) := by show _ = _; unfold dsz; rw [if_neg h, if_pos h0]
    go_enter Tryd.func28, Tryd.ntmps28
    go_wp2
    go_ret
    exact ⟨ret_int HF.out.symm, Ext.refl _⟩
  · have HF : Hid (dsz n = n) := by show _ = _; unfold dsz; rw [if_neg h, if_neg h0]
    go_enter Tryd.func28, Tryd.ntmps28
    go_wp2
    go_ret
    exact ⟨ret_int HF.out.symm, Ext.refl _⟩
set_option maxRecDepth 100000 in
set_option maxHeartbeats 4000000 in
theorem PWorst47_any (A : Option Addr) (n c : Nat) (l : List Dri) (w : World) (hl : DrisAt w A n l) (hn : n ≤ 1000000) (hf : ∀ d ∈ l, d.Fits) : Calls Tryd.prog 15 #[.slice A n c] w fun e w' => e = .returned (.int .i64 (worst l)) ∧ Ext w w' := by
  have HL := Lib.hid hl
  have HLn := Lib.hid hl.len
  have HF := Lib.hid hf
  clear hl hf
  go_enter Tryd.func15, Tryd.ntmps15
  go_wp2_with fail
  go_loopw [3, 8] (fun v i wr => WoRel w n l v i wr) (fun _ i _ => n - (intOf i).toNat)
  case atStart => exact ⟨0, Nat.zero_le _, rfl, rfl, Ext.refl _⟩
  case round =>
    obtain ⟨k, hk, rfl, rfl, hx⟩ := hrel
    have HX := Lib.hid hx
    by_cases hlt : k < n
    · obtain ⟨b, off, d, rfl, hd, c0, c1, c2⟩ := (HL.out.ext hx).at3 hlt
      obtain ⟨⟨f1, f2⟩, f3, f4⟩ := HF.out d (List.mem_of_getElem? hd)
      have HS := Lib.hid (worst_take hd)
      have HB := Lib.hid (Blk.new wr 42 #[.int .i64 d.id, .int .i64 d.inn, .int .i64 d.out])
      have HXb := Lib.hid ((Ext.refl wr).alloc (.cells #[.int .i64 d.id, .int .i64 d.inn, .int .i64 d.out] 42))
      have HZi := Lib.hid (fun w => PSize47_any d.inn w f1 f2)
      have HZo := Lib.hid (fun w => PSize47_any d.out w f3 f4)
      clear hd
      go_wp2_with fail
      clear c0 c1 c2
      refine wp_region_links [some 12, some 13, some 14, some 15, some 16, some 17, some 18, some 19, some 3] [[], [], [1], [2], [], [4], [5, 3], [0, 3, 6], [7, 6, 0, 1, 2, 3, 4, 5, 6, 7]] [3, 6, 8] [.int .i64 (worst (List.take k l)), .pointer (some ⟨wr.heap.size, 1, none⟩), .int .i64 d.inn, undef, .pointer (some ⟨wr.heap.size, 2, none⟩), .int .i64 d.out, undef, .int .i64 (max (max (worst (List.take k l)) (dsz d.inn)) (dsz d.out)), undef] (MvJ [.int .i64 (dsz d.inn), .int .i64 (dsz d.out), .int .i64 (max (max (worst (List.take k l)) (dsz d.inn)) (dsz d.out))] (wr.alloc (.cells #[.int .i64 d.id, .int .i64 d.inn, .int .i64 d.out] 42))) (by kernel_rfl) (by kernel_rfl) (by kernel_rfl) (by kernel_rfl) (by kernel_rfl) (by kernel_rfl) (by kernel_rfl) (by decide) ?_ ?_ ?_ ?_
      · exact MvJ.start _
      · intro i o ho hc a w' us K' hJ hF hlim hk
        match i, ho with
        | 0, ho =>
          simp only [List.getElem?_toArray, List.getElem?_cons_zero, List.getElem?_cons_succ, Option.some.injEq] at ho
          subst ho
          have e3 := hF.olds 2 8 3 (.int .i64 (worst (List.take k l))) rfl rfl (hlim 2 8 rfl rfl) rfl
          simp only [Act.eval] at e3
          clear hF hlim hJ
          go_simp
          exact hk
        | 1, ho =>
          simp only [List.getElem?_toArray, List.getElem?_cons_zero, List.getElem?_cons_succ, Option.some.injEq] at ho
          subst ho
          have e5 := hF.old 5 (.pointer (some ⟨wr.heap.size, 0, none⟩)) rfl rfl
          simp only [Act.eval] at e5
          clear hF hlim hJ
          go_simp
          exact hk
        | 2, ho =>
          simp only [List.getElem?_toArray, List.getElem?_cons_zero, List.getElem?_cons_succ, Option.some.injEq] at ho
          subst ho
          have e13 := hF.pure 1 13 (.pointer (some ⟨wr.heap.size, 1, none⟩)) rfl rfl rfl rfl
          have hcl : w'.cell? ⟨wr.heap.size, 1, none⟩ = some (.int .i64 d.inn) := (HB.out.ext hJ.1).cell 1
          simp only [Act.eval] at e13
          clear hF hlim hJ
          go_simp
          exact hk
        | 3, ho => simp at hc
        | 4, ho =>
          simp only [List.getElem?_toArray, List.getElem?_cons_zero, List.getElem?_cons_succ, Option.some.injEq] at ho
          subst ho
          have e5 := hF.old 5 (.pointer (some ⟨wr.heap.size, 0, none⟩)) rfl rfl
          simp only [Act.eval] at e5
          clear hF hlim hJ
          go_simp
          exact hk
        | 5, ho =>
          simp only [List.getElem?_toArray, List.getElem?_cons_zero, List.getElem?_cons_succ, Option.some.injEq] at ho
          subst ho
          have e16 := hF.pure 4 16 (.pointer (some ⟨wr.heap.size, 2, none⟩)) rfl rfl rfl rfl
          have hcl : w'.cell? ⟨wr.heap.size, 2, none⟩ = some (.int .i64 d.out) := (HB.out.ext hJ.1).cell 2
          simp only [Act.eval] at e16
          clear hF hlim hJ
          go_simp
          exact hk
        | 6, ho => simp at hc
        | 7, ho =>
          simp only [List.getElem?_toArray, List.getElem?_cons_zero, List.getElem?_cons_succ, Option.some.injEq] at ho
          subst ho
          have e12 := hF.pure 0 12 (.int .i64 (worst (List.take k l))) rfl rfl rfl rfl
          obtain ⟨v15, hv15⟩ := getElem_ltq (hF.did 0 3 rfl rfl)
          have e15 := hF.link 0 3 15 _ rfl rfl rfl hv15
          obtain ⟨v18, hv18⟩ := getElem_ltq (hF.did 1 6 rfl rfl)
          have e18 := hF.link 1 6 18 _ rfl rfl rfl hv18
          rw [show v15 = _ from Option.some.inj (hJ.2 0 _ hv15).symm] at e15
          rw [show v18 = _ from Option.some.inj (hJ.2 1 _ hv18).symm] at e18
          exact wp_max3 rfl e12 e15 e18 hk
        | 8, ho => simp at hc
        | i + 9, ho => simp at ho
      · intro p c' o hp ho a w' us K' hl hJ hF hk
        match p, hp with
        | 0, hp =>
          obtain rfl : 3 = c' := by simpa using hp
          simp only [List.getElem?_toArray, List.getElem?_cons_zero, List.getElem?_cons_succ, Option.some.injEq] at ho
          subst ho
          obtain rfl : us = [] := List.eq_nil_of_length_eq_zero hl
          have e14 := hF.pure 2 14 (.int .i64 d.inn) rfl rfl rfl rfl
          refine wp_call1 rfl e14 Tryd.call28 (HZi.out w') ?_
          rintro en w8 ⟨rfl, hx8⟩
          exact ⟨_, rfl, hk _ _ (hJ.snoc hx8 rfl)⟩
        | 1, hp =>
          obtain rfl : 6 = c' := by simpa using hp
          simp only [List.getElem?_toArray, List.getElem?_cons_zero, List.getElem?_cons_succ, Option.some.injEq] at ho
          subst ho
          obtain ⟨u0, rfl⟩ := list_1 hl
          have e17 := hF.pure 5 17 (.int .i64 d.out) rfl rfl rfl rfl
          refine wp_call1 rfl e17 Tryd.call28 (HZo.out w') ?_
          rintro en w8 ⟨rfl, hx8⟩
          exact ⟨_, rfl, hk _ _ (hJ.snoc hx8 rfl)⟩
        | 2, hp =>
          obtain rfl : 8 = c' := by simpa using hp
          simp only [List.getElem?_toArray, List.getElem?_cons_zero, List.getElem?_cons_succ, Option.some.injEq] at ho
          subst ho
          obtain ⟨u0, u1, rfl⟩ := list_2 hl
          have e19 := hF.pure 7 19 (.int .i64 (max (max (worst (List.take k l)) (dsz d.inn)) (dsz d.out))) rfl rfl rfl rfl
          exact wp_assignx _ _ rfl e19 (hk _ _ (hJ.snoc (Ext.refl _) rfl))
        | p + 3, hp => simp at hp
      intro us w9 hl hJ
      obtain ⟨u0, u1, u2, rfl⟩ := list_3 hl
      first | (rename_i hK; refine hK _ _ ?_; clear hK) | (rename_i hK hK_1; refine hK _ _ ?_; clear hK) | (rename_i hK hK_1 hK_2; refine hK _ _ ?_; clear hK) | (rename_i hK hK_1 hK_2 hK_3; refine hK _ _ ?_; clear hK)
      generalize hL : frameL _ _ _ _ = L
      obtain rfl : L = [(12, .int .i64 (worst (List.take k l))), (13, .pointer (some ⟨wr.heap.size, 1, none⟩)), (14, .int .i64 d.inn), (15, u0), (16, .pointer (some ⟨wr.heap.size, 2, none⟩)), (17, .int .i64 d.out), (18, u1), (19, .int .i64 (max (max (worst (List.take k l)) (dsz d.inn)) (dsz d.out))), (3, u2)] := hL.symm.trans (by kernel_rfl)
      clear hL hl
      simp only [Act.put, List.foldl_cons, List.foldl_nil, List.setIfInBounds_toArray, List.set_cons_zero, List.set_cons_succ]
      have hx9 := hJ.1
      obtain rfl : u2 = _ := Option.some.inj (hJ.2 2 u2 rfl).symm
      go_wp2_with fail
      exact ⟨⟨k + 1, by omega, by go_num, by rw [HS.out]; rfl, (HX.out.trans HXb.out).trans hx9⟩, by simp [intOf]; omega⟩
    · have hkn : k = n := by omega
      subst hkn
      have htk : l.take k = l := List.take_of_length_le (by have := HLn.out; omega)
      rw [htk]
      go_wp2_with fail
      go_ret
      exact ⟨rfl, hx⟩

theorem RSize47_any (n : Int) (w : World) (h1 : -9223372036854775808 ≤ n) (h2 : n ≤ 9223372036854775807) : Calls Tryd.prog 29 #[.int .i64 n] w fun e w' => e = .returned (.int .i64 (dsz n)) ∧ Ext w w' := by
  by_cases h : n = -9223372036854775808
  · subst h
    go_enter Tryd.func29, Tryd.ntmps29
    go_wp2
    go_ret
    exact ⟨rfl, Ext.refl _⟩
  have hb : (n == -9223372036854775808) = false := by simpa using h
  by_cases h0 : n < 0
  · have HF : Hid (dsz n = -n) := by show _ = _; unfold dsz; rw [if_neg h, if_pos h0]
    go_enter Tryd.func29, Tryd.ntmps29
    go_wp2
    go_ret
    exact ⟨ret_int HF.out.symm, Ext.refl _⟩
  · have HF : Hid (dsz n = n) := by show _ = _; unfold dsz; rw [if_neg h, if_neg h0]
    go_enter Tryd.func29, Tryd.ntmps29
    go_wp2
    go_ret
    exact ⟨ret_int HF.out.symm, Ext.refl _⟩
set_option maxRecDepth 100000 in
set_option maxHeartbeats 4000000 in
theorem RWorst47_any (A : Option Addr) (n c : Nat) (l : List Dri) (w : World) (hl : DrisAt w A n l) (hn : n ≤ 1000000) (hf : ∀ d ∈ l, d.Fits) : Calls Tryd.prog 16 #[.slice A n c] w fun e w' => e = .returned (.int .i64 (worst l)) ∧ Ext w w' := by
  have HL := Lib.hid hl
  have HLn := Lib.hid hl.len
  have HF := Lib.hid hf
  clear hl hf
  go_enter Tryd.func16, Tryd.ntmps16
  go_wp2_with fail
  go_loopw [3, 8] (fun v i wr => WoRel w n l v i wr) (fun _ i _ => n - (intOf i).toNat)
  case atStart => exact ⟨0, Nat.zero_le _, rfl, rfl, Ext.refl _⟩
  case round =>
    obtain ⟨k, hk, rfl, rfl, hx⟩ := hrel
    have HX := Lib.hid hx
    by_cases hlt : k < n
    · obtain ⟨b, off, d, rfl, hd, c0, c1, c2⟩ := (HL.out.ext hx).at3 hlt
      obtain ⟨⟨f1, f2⟩, f3, f4⟩ := HF.out d (List.mem_of_getElem? hd)
      have HS := Lib.hid (worst_take hd)
      have HB := Lib.hid (Blk.new wr 42 #[.int .i64 d.id, .int .i64 d.inn, .int .i64 d.out])
      have HXb := Lib.hid ((Ext.refl wr).alloc (.cells #[.int .i64 d.id, .int .i64 d.inn, .int .i64 d.out] 42))
      have HZi := Lib.hid (fun w => RSize47_any d.inn w f1 f2)
      have HZo := Lib.hid (fun w => RSize47_any d.out w f3 f4)
      clear hd
      go_wp2_with fail
      clear c0 c1 c2
      refine wp_region_links [some 12, some 13, some 14, some 15, some 16, some 17, some 18, some 19, some 3] [[], [], [1], [2], [], [4], [5, 3], [0, 3, 6], [7, 6, 0, 1, 2, 3, 4, 5, 6, 7]] [3, 6, 8] [.int .i64 (worst (List.take k l)), .pointer (some ⟨wr.heap.size, 1, none⟩), .int .i64 d.inn, undef, .pointer (some ⟨wr.heap.size, 2, none⟩), .int .i64 d.out, undef, .int .i64 (max (max (worst (List.take k l)) (dsz d.inn)) (dsz d.out)), undef] (MvJ [.int .i64 (dsz d.inn), .int .i64 (dsz d.out), .int .i64 (max (max (worst (List.take k l)) (dsz d.inn)) (dsz d.out))] (wr.alloc (.cells #[.int .i64 d.id, .int .i64 d.inn, .int .i64 d.out] 42))) (by kernel_rfl) (by kernel_rfl) (by kernel_rfl) (by kernel_rfl) (by kernel_rfl) (by kernel_rfl) (by kernel_rfl) (by decide) ?_ ?_ ?_ ?_
      · exact MvJ.start _
      · intro i o ho hc a w' us K' hJ hF hlim hk
        match i, ho with
        | 0, ho =>
          simp only [List.getElem?_toArray, List.getElem?_cons_zero, List.getElem?_cons_succ, Option.some.injEq] at ho
          subst ho
          have e3 := hF.olds 2 8 3 (.int .i64 (worst (List.take k l))) rfl rfl (hlim 2 8 rfl rfl) rfl
          simp only [Act.eval] at e3
          clear hF hlim hJ
          go_simp
          exact hk
        | 1, ho =>
          simp only [List.getElem?_toArray, List.getElem?_cons_zero, List.getElem?_cons_succ, Option.some.injEq] at ho
          subst ho
          have e5 := hF.old 5 (.pointer (some ⟨wr.heap.size, 0, none⟩)) rfl rfl
          simp only [Act.eval] at e5
          clear hF hlim hJ
          go_simp
          exact hk
        | 2, ho =>
          simp only [List.getElem?_toArray, List.getElem?_cons_zero, List.getElem?_cons_succ, Option.some.injEq] at ho
          subst ho
          have e13 := hF.pure 1 13 (.pointer (some ⟨wr.heap.size, 1, none⟩)) rfl rfl rfl rfl
          have hcl : w'.cell? ⟨wr.heap.size, 1, none⟩ = some (.int .i64 d.inn) := (HB.out.ext hJ.1).cell 1
          simp only [Act.eval] at e13
          clear hF hlim hJ
          go_simp
          exact hk
        | 3, ho => simp at hc
        | 4, ho =>
          simp only [List.getElem?_toArray, List.getElem?_cons_zero, List.getElem?_cons_succ, Option.some.injEq] at ho
          subst ho
          have e5 := hF.old 5 (.pointer (some ⟨wr.heap.size, 0, none⟩)) rfl rfl
          simp only [Act.eval] at e5
          clear hF hlim hJ
          go_simp
          exact hk
        | 5, ho =>
          simp only [List.getElem?_toArray, List.getElem?_cons_zero, List.getElem?_cons_succ, Option.some.injEq] at ho
          subst ho
          have e16 := hF.pure 4 16 (.pointer (some ⟨wr.heap.size, 2, none⟩)) rfl rfl rfl rfl
          have hcl : w'.cell? ⟨wr.heap.size, 2, none⟩ = some (.int .i64 d.out) := (HB.out.ext hJ.1).cell 2
          simp only [Act.eval] at e16
          clear hF hlim hJ
          go_simp
          exact hk
        | 6, ho => simp at hc
        | 7, ho =>
          simp only [List.getElem?_toArray, List.getElem?_cons_zero, List.getElem?_cons_succ, Option.some.injEq] at ho
          subst ho
          have e12 := hF.pure 0 12 (.int .i64 (worst (List.take k l))) rfl rfl rfl rfl
          obtain ⟨v15, hv15⟩ := getElem_ltq (hF.did 0 3 rfl rfl)
          have e15 := hF.link 0 3 15 _ rfl rfl rfl hv15
          obtain ⟨v18, hv18⟩ := getElem_ltq (hF.did 1 6 rfl rfl)
          have e18 := hF.link 1 6 18 _ rfl rfl rfl hv18
          rw [show v15 = _ from Option.some.inj (hJ.2 0 _ hv15).symm] at e15
          rw [show v18 = _ from Option.some.inj (hJ.2 1 _ hv18).symm] at e18
          exact wp_max3 rfl e12 e15 e18 hk
        | 8, ho => simp at hc
        | i + 9, ho => simp at ho
      · intro p c' o hp ho a w' us K' hl hJ hF hk
        match p, hp with
        | 0, hp =>
          obtain rfl : 3 = c' := by simpa using hp
          simp only [List.getElem?_toArray, List.getElem?_cons_zero, List.getElem?_cons_succ, Option.some.injEq] at ho
          subst ho
          obtain rfl : us = [] := List.eq_nil_of_length_eq_zero hl
          have e14 := hF.pure 2 14 (.int .i64 d.inn) rfl rfl rfl rfl
          refine wp_call1 rfl e14 Tryd.call29 (HZi.out w') ?_
          rintro en w8 ⟨rfl, hx8⟩
          exact ⟨_, rfl, hk _ _ (hJ.snoc hx8 rfl)⟩
        | 1, hp =>
          obtain rfl : 6 = c' := by simpa using hp
          simp only [List.getElem?_toArray, List.getElem?_cons_zero, List.getElem?_cons_succ, Option.some.injEq] at ho
          subst ho
          obtain ⟨u0, rfl⟩ := list_1 hl
          have e17 := hF.pure 5 17 (.int .i64 d.out) rfl rfl rfl rfl
          refine wp_call1 rfl e17 Tryd.call29 (HZo.out w') ?_
          rintro en w8 ⟨rfl, hx8⟩
          exact ⟨_, rfl, hk _ _ (hJ.snoc hx8 rfl)⟩
        | 2, hp =>
          obtain rfl : 8 = c' := by simpa using hp
          simp only [List.getElem?_toArray, List.getElem?_cons_zero, List.getElem?_cons_succ, Option.some.injEq] at ho
          subst ho
          obtain ⟨u0, u1, rfl⟩ := list_2 hl
          have e19 := hF.pure 7 19 (.int .i64 (max (max (worst (List.take k l)) (dsz d.inn)) (dsz d.out))) rfl rfl rfl rfl
          exact wp_assignx _ _ rfl e19 (hk _ _ (hJ.snoc (Ext.refl _) rfl))
        | p + 3, hp => simp at hp
      intro us w9 hl hJ
      obtain ⟨u0, u1, u2, rfl⟩ := list_3 hl
      first | (rename_i hK; refine hK _ _ ?_; clear hK) | (rename_i hK hK_1; refine hK _ _ ?_; clear hK) | (rename_i hK hK_1 hK_2; refine hK _ _ ?_; clear hK) | (rename_i hK hK_1 hK_2 hK_3; refine hK _ _ ?_; clear hK)
      generalize hL : frameL _ _ _ _ = L
      obtain rfl : L = [(12, .int .i64 (worst (List.take k l))), (13, .pointer (some ⟨wr.heap.size, 1, none⟩)), (14, .int .i64 d.inn), (15, u0), (16, .pointer (some ⟨wr.heap.size, 2, none⟩)), (17, .int .i64 d.out), (18, u1), (19, .int .i64 (max (max (worst (List.take k l)) (dsz d.inn)) (dsz d.out))), (3, u2)] := hL.symm.trans (by kernel_rfl)
      clear hL hl
      simp only [Act.put, List.foldl_cons, List.foldl_nil, List.setIfInBounds_toArray, List.set_cons_zero, List.set_cons_succ]
      have hx9 := hJ.1
      obtain rfl : u2 = _ := Option.some.inj (hJ.2 2 u2 rfl).symm
      go_wp2_with fail
      exact ⟨⟨k + 1, by omega, by go_num, by rw [HS.out]; rfl, (HX.out.trans HXb.out).trans hx9⟩, by simp [intOf]; omega⟩
    · have hkn : k = n := by omega
      subst hkn
      have htk : l.take k = l := List.take_of_length_le (by have := HLn.out; omega)
      rw [htk]
      go_wp2_with fail
      go_ret
      exact ⟨rfl, hx⟩
end Go.Proofs.YtaocjfneglgmjaaDoor
