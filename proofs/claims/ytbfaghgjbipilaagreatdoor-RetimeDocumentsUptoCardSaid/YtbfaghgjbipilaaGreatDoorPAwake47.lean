/- The walk of the law package's awake: the chapter's examples. -/
import Derived.Test.YtbfaghgjbipilaaGreatDoorPRetW
import Derived.Test.YtbfaghgjbipilaaGreatDoorPk21
namespace Go.Proofs.YtbfaghgjbipilaaGreatDoor
set_option linter.unusedVariables false
set_option linter.unusedSimpArgs false
open Go.RowKit Go.Maps

def r0n : Run := ⟨⟨#[72, 105]⟩, 0, false, false, ⟨#[]⟩⟩
def r0e : Ev := ⟨4, 1, 2, ⟨#[]⟩, 1, ⟨#[]⟩, [[r0n]]⟩
def r0 : Doc := ⟨⟨#[]⟩, ⟨#[]⟩, 6, false, 4, [], [r0e], []⟩
def r1e : Ev := ⟨1, 1, 2, ⟨#[]⟩, 1, ⟨#[]⟩, [[r0n]]⟩
def r1 : Doc := ⟨⟨#[]⟩, ⟨#[]⟩, 3, false, 1, [], [r1e], []⟩
theorem r0_err : r0.err = 0 := by kernel_rfl
theorem r0_span : r0e.span 6 3 1 = ((1, 2), 0) := by kernel_rfl
theorem r0_retE : r0.retE 3 false 1 = 0 := by
  rw [ret_4 r0_err (by decide) (.inl rfl)]
  show (if (r0e.span 6 3 1).2 ≠ 0 then _ else _) = _
  rw [r0_span]
  rfl
theorem r0_ret : r0.retD 3 false 1 = r1 := by
  unfold Doc.retD
  rw [if_pos r0_retE]
  have : retEvs 6 3 1 [r0e] = [r1e] := by
    show [retEv 6 3 1 0 r0e] = _
    unfold retEv
    rw [r0_span]
    rfl
  show Doc.mk _ _ _ _ _ _ (retEvs 6 3 1 [r0e]) _ = _
  rw [this]
  rfl
theorem r0_retL : r0.retL 3 false 1 = [⟨1, 2400, 4800⟩] := by
  unfold Doc.retL
  rw [if_pos r0_retE]
  show [retDri 6 3 1 0 r0e] = _
  unfold retDri
  rw [r0_span]
  rfl
theorem r0_fit : DocFit r0 := by
  refine ⟨⟨by decide, by decide, by decide, by decide⟩, (fun r hr => by cases hr), (fun e he => ?_), (fun e he => ?_), (fun c hc => by cases hc)⟩
  · simp only [r0, List.mem_singleton] at he
    subst he
    refine ⟨⟨by decide, by decide, fun r hr => ?_⟩, by decide⟩
    simp only [r0e, List.mem_singleton] at hr
    subst hr
    refine ⟨by decide, fun x hx => ?_⟩
    simp only [List.mem_singleton] at hx
    subst hx
    exact ⟨by decide, by decide⟩
  · simp only [r0, List.mem_singleton] at he
    subst he
    exact ⟨by decide, by decide⟩
def r0h (g : Nat) : DocH := ⟨none, 0, 0, some ⟨g, 0, none⟩, 1, 1, none, 0, 0⟩
theorem sl_one {α : Type} {C : World → Nat → Nat → α → Prop} {w : World} {size g : Nat} {x : α} (h : C w g 0 x) : Sl w size C (some ⟨g, 0, none⟩) 1 [x] := by
  refine ⟨rfl, fun _ => ⟨g, 0, rfl, fun i y hy => ?_⟩⟩
  match i, hy with
  | 0, hy => simp at hy; subst hy; simpa using h
  | i + 1, hy => simp at hy
theorem r0_at {w : World} {g0 g1 g2 : Nat} (h0 : Blk w g0 84 #[.string ⟨#[72, 105]⟩, .int .u8 0, .bool false, .bool false, .string ⟨#[]⟩]) (h1 : Blk w g1 87 #[.slice (some ⟨g0, 0, none⟩) 1 1])
    (h2 : Blk w g2 51 #[.int .i64 4, .int .i64 1, .int .i64 2, .string ⟨#[]⟩, .int .u8 1, .string ⟨#[]⟩, .slice (some ⟨g1, 0, none⟩) 1 1]) : DocAt w r0 (r0h g2) := by
  refine ⟨Sl.nil, sl_one ⟨some ⟨g1, 0, none⟩, 1, 1, fun j u hu => ?_, sl_one ⟨some ⟨g0, 0, none⟩, 1, 1, h1.cell 0, Nat.le_refl _, by decide, sl_one ⟨h0.cell 0, h0.cell 1, h0.cell 2, h0.cell 3, h0.cell 4⟩⟩, Nat.le_refl _, by decide⟩, Sl.nil⟩
  rw [Nat.zero_add, h2.cell]
  rw [← hu]
  show _ = ((r0e.cells (some ⟨g1, 0, none⟩) 1 1).toList)[j]?
  rw [Array.getElem?_toList]
  rfl
set_option maxRecDepth 100000 in
set_option maxHeartbeats 8000000 in
theorem awake47_any (w : World) (hE : Env w) : Calls Tryz.prog 53 #[] w fun en w' => en = .returned (.bool true) ∧ Ext w w' := by
  have HEn := Lib.hid hE
  clear hE
  have ha : spanT 3 2 25 50 1 = ((24, 48), 0) := by kernel_rfl
  have hb : spanT 6 3 1 2 1 = ((1, 2), 0) := by kernel_rfl
  have HA := Lib.hid (fun w => PSpan_any 3 2 25 50 1 w (by omega) (by omega) (by omega) (by omega))
  have HB := Lib.hid (fun w => PSpan_any 6 3 1 2 1 w (by omega) (by omega) (by omega) (by omega))
  unfold tupS at HA HB
  rw [ha] at HA
  rw [hb] at HB
  dsimp only at HA HB
  clear ha hb
  go_enter Tryz.func53, Tryz.ntmps53
  go_wp2_with fail
  refine (HA.out _).mono ?_
  rintro en w1 ⟨rfl, hx1⟩
  go_wp2_with fail
  refine (HB.out _).mono ?_
  rintro en w2 ⟨rfl, hx2⟩
  have HX2 := Lib.hid ((hx1.alloc (.cells #[.int .i64 24, .int .i64 48] 42)).trans hx2)
  have HBa := Lib.hid ((Blk.new w1 42 #[.int .i64 24, .int .i64 48]).ext hx2)
  clear hx1 hx2
  go_wp2_with fail
  have HX4 := Lib.hid (((((HX2.out.alloc (.cells #[.int .i64 1, .int .i64 2] 42)).alloc (.cells #[.string ⟨#[72, 105]⟩, .int .u8 0, .bool false, .bool false, .string ⟨#[]⟩] 84)).alloc (.cells #[.slice (some ⟨w2.heap.size + 1, 0, none⟩) 1 1] 87)).alloc (.cells #[.int .i64 4, .int .i64 1, .int .i64 2, .string ⟨#[]⟩, .int .u8 1, .string ⟨#[]⟩, .slice (some ⟨w2.heap.size + 1 + 1, 0, none⟩) 1 1] 51)).alloc (.cells #[.string ⟨#[]⟩, .string ⟨#[]⟩, .int .u8 6, .bool false, .int .i64 4, .slice none 0 0, .slice (some ⟨w2.heap.size + 1 + 1 + 1, 0, none⟩) 1 1, .slice none 0 0] 27))
  have HA4 := Lib.hid (((((HBa.out.alloc (.cells #[.int .i64 1, .int .i64 2] 42)).alloc (.cells #[.string ⟨#[72, 105]⟩, .int .u8 0, .bool false, .bool false, .string ⟨#[]⟩] 84)).alloc (.cells #[.slice (some ⟨w2.heap.size + 1, 0, none⟩) 1 1] 87)).alloc (.cells #[.int .i64 4, .int .i64 1, .int .i64 2, .string ⟨#[]⟩, .int .u8 1, .string ⟨#[]⟩, .slice (some ⟨w2.heap.size + 1 + 1, 0, none⟩) 1 1] 51)).alloc (.cells #[.string ⟨#[]⟩, .string ⟨#[]⟩, .int .u8 6, .bool false, .int .i64 4, .slice none 0 0, .slice (some ⟨w2.heap.size + 1 + 1 + 1, 0, none⟩) 1 1, .slice none 0 0] 27))
  have HB4 := Lib.hid (((((Blk.new w2 42 #[.int .i64 1, .int .i64 2]).alloc (.cells #[.string ⟨#[72, 105]⟩, .int .u8 0, .bool false, .bool false, .string ⟨#[]⟩] 84)).alloc (.cells #[.slice (some ⟨w2.heap.size + 1, 0, none⟩) 1 1] 87)).alloc (.cells #[.int .i64 4, .int .i64 1, .int .i64 2, .string ⟨#[]⟩, .int .u8 1, .string ⟨#[]⟩, .slice (some ⟨w2.heap.size + 1 + 1, 0, none⟩) 1 1] 51)).alloc (.cells #[.string ⟨#[]⟩, .string ⟨#[]⟩, .int .u8 6, .bool false, .int .i64 4, .slice none 0 0, .slice (some ⟨w2.heap.size + 1 + 1 + 1, 0, none⟩) 1 1, .slice none 0 0] 27))
  have hb0 := ((((Blk.new' (w := w2.alloc (.cells #[.int .i64 1, .int .i64 2] 42)) (g := w2.heap.size + 1) (t := 84) (cs := #[.string ⟨#[72, 105]⟩, .int .u8 0, .bool false, .bool false, .string ⟨#[]⟩]) (by simp)).alloc (.cells #[.slice (some ⟨w2.heap.size + 1, 0, none⟩) 1 1] 87)).alloc (.cells #[.int .i64 4, .int .i64 1, .int .i64 2, .string ⟨#[]⟩, .int .u8 1, .string ⟨#[]⟩, .slice (some ⟨w2.heap.size + 1 + 1, 0, none⟩) 1 1] 51)).alloc (.cells #[.string ⟨#[]⟩, .string ⟨#[]⟩, .int .u8 6, .bool false, .int .i64 4, .slice none 0 0, .slice (some ⟨w2.heap.size + 1 + 1 + 1, 0, none⟩) 1 1, .slice none 0 0] 27))
  have hb1 := (((Blk.new' (w := (w2.alloc (.cells #[.int .i64 1, .int .i64 2] 42)).alloc (.cells #[.string ⟨#[72, 105]⟩, .int .u8 0, .bool false, .bool false, .string ⟨#[]⟩] 84)) (g := w2.heap.size + 1 + 1) (t := 87) (cs := #[.slice (some ⟨w2.heap.size + 1, 0, none⟩) 1 1]) (by simp)).alloc (.cells #[.int .i64 4, .int .i64 1, .int .i64 2, .string ⟨#[]⟩, .int .u8 1, .string ⟨#[]⟩, .slice (some ⟨w2.heap.size + 1 + 1, 0, none⟩) 1 1] 51)).alloc (.cells #[.string ⟨#[]⟩, .string ⟨#[]⟩, .int .u8 6, .bool false, .int .i64 4, .slice none 0 0, .slice (some ⟨w2.heap.size + 1 + 1 + 1, 0, none⟩) 1 1, .slice none 0 0] 27))
  have hb2 := ((Blk.new' (w := ((w2.alloc (.cells #[.int .i64 1, .int .i64 2] 42)).alloc (.cells #[.string ⟨#[72, 105]⟩, .int .u8 0, .bool false, .bool false, .string ⟨#[]⟩] 84)).alloc (.cells #[.slice (some ⟨w2.heap.size + 1, 0, none⟩) 1 1] 87)) (g := w2.heap.size + 1 + 1 + 1) (t := 51) (cs := #[.int .i64 4, .int .i64 1, .int .i64 2, .string ⟨#[]⟩, .int .u8 1, .string ⟨#[]⟩, .slice (some ⟨w2.heap.size + 1 + 1, 0, none⟩) 1 1]) (by simp)).alloc (.cells #[.string ⟨#[]⟩, .string ⟨#[]⟩, .int .u8 6, .bool false, .int .i64 4, .slice none 0 0, .slice (some ⟨w2.heap.size + 1 + 1 + 1, 0, none⟩) 1 1, .slice none 0 0] 27))
  have HAt := Lib.hid (r0_at hb0 hb1 hb2)
  clear hb0 hb1 hb2 HX2 HBa
  refine (Retime_any r0 (r0h (w2.heap.size + 1 + 1 + 1)) 3 1 false _ (HEn.out.ext HX4.out) HAt.out r0_fit (by simp [r0h]) (by simp [r0h]) (by simp [r0h]) (by decide) (by decide)).mono ?_
  rintro en w3 ⟨⟨ra, rn, rc, ea, en3, ec, ca, cn, cc⟩, A3, n3, c3, rfl, hat3, hdr3, hnc3, hx3⟩
  rw [r0_ret, r0_retE]
  rw [r0_ret] at hat3
  rw [r0_retL] at hdr3
  obtain rfl : 1 = n3 := hdr3.len
  obtain rfl : 1 = en3 := hat3.evs.len
  obtain ⟨b, off, d, rfl, hd, c0, c1, c2⟩ := hdr3.at3 (i := 0) (by omega)
  obtain rfl : (⟨1, 2400, 4800⟩ : Dri) = d := by simpa using hd
  have HX5 := Lib.hid (HX4.out.trans hx3)
  have HA5 := Lib.hid (HA4.out.ext hx3)
  have HB5 := Lib.hid (HB4.out.ext hx3)
  clear HX4 HA4 HB4 hx3 hat3 hdr3 HAt hd
  unfold Doc.cells r1
  dsimp only
  simp only [Nat.zero_mul, Nat.add_zero] at c0 c1 c2
  have hq1 := fun w => eql_span 24 48 24 48 w
  have hq2 := fun w => eql_span 1 2 1 2 w
  have hq3 : ∀ w : World, (binOp .eql 135 (.agg #[.int .i64 1, .int .i64 2400, .int .i64 4800]) (.agg #[.int .i64 1, .int .i64 2400, .int .i64 4800])).run Tryz.prog w = .ok (.bool true) w := fun w => by kernel_rfl
  simp at hq1 hq2
  have ha0 : ∀ o, (w3.alloc o).cell? ⟨w1.heap.size, 0, none⟩ = some (.int .i64 24) := fun o => (HA5.out.alloc o).cell 0
  have ha1 : ∀ o, (w3.alloc o).cell? ⟨w1.heap.size, 1, none⟩ = some (.int .i64 48) := fun o => (HA5.out.alloc o).cell 1
  have hb0 : ∀ o, (w3.alloc o).cell? ⟨w2.heap.size, 0, none⟩ = some (.int .i64 1) := fun o => (HB5.out.alloc o).cell 0
  have hb1 : ∀ o, (w3.alloc o).cell? ⟨w2.heap.size, 1, none⟩ = some (.int .i64 2) := fun o => (HB5.out.alloc o).cell 1
  have d0 : ∀ o, (w3.alloc o).cell? ⟨b, off, none⟩ = some (.int .i64 1) := fun o => ((Ext.refl w3).alloc o).cell c0
  have d1 : ∀ o, (w3.alloc o).cell? ⟨b, off + 1, none⟩ = some (.int .i64 2400) := fun o => ((Ext.refl w3).alloc o).cell c1
  have d2 : ∀ o, (w3.alloc o).cell? ⟨b, off + 2, none⟩ = some (.int .i64 4800) := fun o => ((Ext.refl w3).alloc o).cell c2
  go_wp2_with fail
  go_ret
  exact ⟨rfl, HX5.out.alloc _⟩
end Go.Proofs.YtbfaghgjbipilaaGreatDoor
