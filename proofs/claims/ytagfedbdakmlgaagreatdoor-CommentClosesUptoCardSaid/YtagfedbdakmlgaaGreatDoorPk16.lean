/- Laid together: The walk of the law package's awake: the chapter's example. The walk of the reference's Name. The walks of the reference's regions: Default, Check. The walks of the reference's regions: usable, Find, CheckList. -/
import Derived.Test.YtagfedbdakmlgaaGreatDoorPk15
import Derived.Test.YtagfedbdakmlgaaGreatDoorPk14
import Derived.Test.YtagfedbdakmlgaaGreatDoorPk01
import Derived.Test.YtagfedbdakmlgaaGreatDoorPk06
import Derived.Test.YtagfedbdakmlgaaGreatDoorPk05

/-! Awake14 -/
namespace Go.Proofs.YtagfedbdakmlgaaGreatDoor
set_option linter.unusedVariables false
set_option linter.unusedSimpArgs false
open Go.RowKit

def q0a : Run := ⟨⟨#[72, 105, 44]⟩, 0, false, false, ⟨#[]⟩⟩
def q0b : Run := ⟨⟨#[121, 111, 117, 46]⟩, 0, false, false, ⟨#[]⟩⟩
def q0e : Ev := ⟨1, 10, 50, ⟨#[]⟩, 1, ⟨#[]⟩, [[q0a], [q0b]]⟩
def q0 : Doc := ⟨⟨#[]⟩, ⟨#[]⟩, 3, false, 1, [], [q0e], []⟩
def q1 : Doc := ⟨⟨#[]⟩, ⟨#[]⟩, 3, false, 2, [], [q0e], [⟨2, 1, 0, 2, ⟨#[65, 78, 78]⟩, ⟨#[63]⟩, false, false⟩]⟩
theorem q0_err1 : q0.addErr 1 0 2 ⟨#[65, 78, 78]⟩ ⟨#[63]⟩ = 0 := by kernel_rfl
theorem q0_err2 : q0.addErr 1 0 9 ⟨#[65, 78, 78]⟩ ⟨#[63]⟩ = 2 := by kernel_rfl
theorem q0_id1 : q0.addId 1 0 2 ⟨#[65, 78, 78]⟩ ⟨#[63]⟩ = 2 := by unfold Doc.addId; rw [q0_err1]; rfl
theorem q0_id2 : q0.addId 1 0 9 ⟨#[65, 78, 78]⟩ ⟨#[63]⟩ = 0 := by unfold Doc.addId; rw [q0_err2]; rfl
theorem q0_add1 : q0.added 1 0 2 ⟨#[65, 78, 78]⟩ ⟨#[63]⟩ = q1 := by unfold Doc.added; rw [q0_err1]; rfl
theorem q0_add2 : q0.added 1 0 9 ⟨#[65, 78, 78]⟩ ⟨#[63]⟩ = Doc.zero := by unfold Doc.added; rw [q0_err2]; rfl
theorem q1_quX : q1.quX 2 = (⟨#[72, 105]⟩, 0) := by kernel_rfl
theorem q0_move : Mv.move (runes ⟨#[72, 105, 44]⟩ 0) (runes ⟨#[79, 104, 32, 104, 105, 44]⟩ 0) 1 false = 4 := by kernel_rfl
theorem q0e_small : EvSmall q0e ∧ q0e.bytes ≤ 1099511627776 := by
  refine ⟨⟨by decide, by decide, fun r hr => ?_⟩, by decide⟩
  simp only [q0e, List.mem_cons, List.not_mem_nil, or_false] at hr
  rcases hr with rfl | rfl
  · refine ⟨by decide, fun x hx => ?_⟩
    simp only [List.mem_singleton] at hx
    subst hx
    exact ⟨by decide, by decide⟩
  · refine ⟨by decide, fun x hx => ?_⟩
    simp only [List.mem_singleton] at hx
    subst hx
    exact ⟨by decide, by decide⟩
theorem q0_fit : DocFit q0 := by
  refine ⟨⟨by decide, by decide, by decide, by decide⟩, (fun r hr => by cases hr), (fun e he => ?_), (fun e he => ?_), (fun c hc => by cases hc)⟩
  · simp only [q0, List.mem_singleton] at he
    subst he
    exact q0e_small
  · simp only [q0, List.mem_singleton] at he
    subst he
    exact ⟨by decide, by decide⟩
theorem q1_fit : DocFit q1 := by
  refine ⟨⟨by decide, by decide, by decide, by decide⟩, (fun r hr => by cases hr), (fun e he => ?_), (fun e he => ?_), (fun c hc => ?_)⟩
  · simp only [q1, List.mem_singleton] at he
    subst he
    exact q0e_small
  · simp only [q1, List.mem_singleton] at he
    subst he
    exact ⟨by decide, by decide⟩
  · simp only [q1, List.mem_singleton] at hc
    subst hc
    exact ⟨⟨by decide, by decide⟩, ⟨by decide, by decide⟩, by decide, by decide⟩
def q0h (g : Nat) : DocH := ⟨none, 0, 0, some ⟨g, 0, none⟩, 1, 1, none, 0, 0⟩
theorem sl_1 {α : Type} {C : World → Nat → Nat → α → Prop} {w : World} {size g : Nat} {x : α} (h : C w g 0 x) : Sl w size C (some ⟨g, 0, none⟩) 1 [x] := by
  refine ⟨rfl, fun _ => ⟨g, 0, rfl, fun i y hy => ?_⟩⟩
  match i, hy with
  | 0, hy => simp at hy; subst hy; simpa using h
  | i + 1, hy => simp at hy
theorem sl_2 {α : Type} {C : World → Nat → Nat → α → Prop} {w : World} {size g : Nat} {x y : α} (h : C w g 0 x) (h2 : C w g size y) : Sl w size C (some ⟨g, 0, none⟩) 2 [x, y] := by
  refine ⟨rfl, fun _ => ⟨g, 0, rfl, fun i z hz => ?_⟩⟩
  match i, hz with
  | 0, hz => simp at hz; subst hz; simpa using h
  | 1, hz => simp at hz; subst hz; simpa using h2
  | i + 2, hz => simp at hz
theorem q0_at {w : World} {g0 g1 g2 g3 : Nat} (h0 : Blk w g0 84 #[.string ⟨#[72, 105, 44]⟩, .int .u8 0, .bool false, .bool false, .string ⟨#[]⟩]) (h1 : Blk w g1 84 #[.string ⟨#[121, 111, 117, 46]⟩, .int .u8 0, .bool false, .bool false, .string ⟨#[]⟩]) (h2 : Blk w g2 87 #[.slice (some ⟨g0, 0, none⟩) 1 1, .slice (some ⟨g1, 0, none⟩) 1 1])
    (h3 : Blk w g3 66 #[.int .i64 1, .int .i64 10, .int .i64 50, .string ⟨#[]⟩, .int .u8 1, .string ⟨#[]⟩, .slice (some ⟨g2, 0, none⟩) 2 2]) : DocAt w q0 (q0h g3) := by
  refine ⟨Sl.nil, sl_1 ⟨some ⟨g2, 0, none⟩, 2, 2, fun j u hu => ?_, sl_2 ⟨some ⟨g0, 0, none⟩, 1, 1, h2.cell 0, Nat.le_refl _, by decide, sl_1 ⟨h0.cell 0, h0.cell 1, h0.cell 2, h0.cell 3, h0.cell 4⟩⟩ ⟨some ⟨g1, 0, none⟩, 1, 1, h2.cell 1, Nat.le_refl _, by decide, sl_1 ⟨h1.cell 0, h1.cell 1, h1.cell 2, h1.cell 3, h1.cell 4⟩⟩, Nat.le_refl _, by decide⟩, Sl.nil⟩
  rw [Nat.zero_add, h3.cell]
  rw [← hu]
  show _ = ((q0e.cells (some ⟨g2, 0, none⟩) 2 2).toList)[j]?
  rw [Array.getElem?_toList]
  rfl
set_option maxRecDepth 100000 in
set_option maxHeartbeats 8000000 in
theorem awake14_any (w : World) (hE : Env w) : Calls Tryz.prog 11 #[] w fun en w' => en = .returned (.bool true) ∧ Ext w w' := by
  have HEn := Lib.hid hE
  clear hE
  go_enter Tryz.func11, Tryz.ntmps11
  go_upto_region 2 with (fail)
  have HX : Hid (Ext w (((((w.alloc (.cells #[.string ⟨#[72, 105, 44]⟩, .int .u8 0, .bool false, .bool false, .string ⟨#[]⟩] 84)).alloc (.cells #[.string ⟨#[121, 111, 117, 46]⟩, .int .u8 0, .bool false, .bool false, .string ⟨#[]⟩] 84)).alloc (.cells #[.slice (some ⟨w.heap.size, 0, none⟩) 1 1, .slice (some ⟨w.heap.size + 1, 0, none⟩) 1 1] 87)).alloc (.cells #[.int .i64 1, .int .i64 10, .int .i64 50, .string ⟨#[]⟩, .int .u8 1, .string ⟨#[]⟩, .slice (some ⟨w.heap.size + 1 + 1, 0, none⟩) 2 2] 66)).alloc (.cells #[.string ⟨#[]⟩, .string ⟨#[]⟩, .int .u8 3, .bool false, .int .i64 1, .slice none 0 0, .slice (some ⟨w.heap.size + 1 + 1 + 1, 0, none⟩) 1 1, .slice none 0 0] 27))) := by show Ext _ _; repeat (first | exact Ext.refl _ | apply Ext.alloc)
  have HB0 : Hid (Blk (((((w.alloc (.cells #[.string ⟨#[72, 105, 44]⟩, .int .u8 0, .bool false, .bool false, .string ⟨#[]⟩] 84)).alloc (.cells #[.string ⟨#[121, 111, 117, 46]⟩, .int .u8 0, .bool false, .bool false, .string ⟨#[]⟩] 84)).alloc (.cells #[.slice (some ⟨w.heap.size, 0, none⟩) 1 1, .slice (some ⟨w.heap.size + 1, 0, none⟩) 1 1] 87)).alloc (.cells #[.int .i64 1, .int .i64 10, .int .i64 50, .string ⟨#[]⟩, .int .u8 1, .string ⟨#[]⟩, .slice (some ⟨w.heap.size + 1 + 1, 0, none⟩) 2 2] 66)).alloc (.cells #[.string ⟨#[]⟩, .string ⟨#[]⟩, .int .u8 3, .bool false, .int .i64 1, .slice none 0 0, .slice (some ⟨w.heap.size + 1 + 1 + 1, 0, none⟩) 1 1, .slice none 0 0] 27)) (w.heap.size) 84 #[.string ⟨#[72, 105, 44]⟩, .int .u8 0, .bool false, .bool false, .string ⟨#[]⟩]) := ((((Blk.new' (by simp)).alloc _).alloc _).alloc _).alloc _
  have HB1 : Hid (Blk (((((w.alloc (.cells #[.string ⟨#[72, 105, 44]⟩, .int .u8 0, .bool false, .bool false, .string ⟨#[]⟩] 84)).alloc (.cells #[.string ⟨#[121, 111, 117, 46]⟩, .int .u8 0, .bool false, .bool false, .string ⟨#[]⟩] 84)).alloc (.cells #[.slice (some ⟨w.heap.size, 0, none⟩) 1 1, .slice (some ⟨w.heap.size + 1, 0, none⟩) 1 1] 87)).alloc (.cells #[.int .i64 1, .int .i64 10, .int .i64 50, .string ⟨#[]⟩, .int .u8 1, .string ⟨#[]⟩, .slice (some ⟨w.heap.size + 1 + 1, 0, none⟩) 2 2] 66)).alloc (.cells #[.string ⟨#[]⟩, .string ⟨#[]⟩, .int .u8 3, .bool false, .int .i64 1, .slice none 0 0, .slice (some ⟨w.heap.size + 1 + 1 + 1, 0, none⟩) 1 1, .slice none 0 0] 27)) (w.heap.size + 1) 84 #[.string ⟨#[121, 111, 117, 46]⟩, .int .u8 0, .bool false, .bool false, .string ⟨#[]⟩]) := (((Blk.new' (by simp)).alloc _).alloc _).alloc _
  have HB2 : Hid (Blk (((((w.alloc (.cells #[.string ⟨#[72, 105, 44]⟩, .int .u8 0, .bool false, .bool false, .string ⟨#[]⟩] 84)).alloc (.cells #[.string ⟨#[121, 111, 117, 46]⟩, .int .u8 0, .bool false, .bool false, .string ⟨#[]⟩] 84)).alloc (.cells #[.slice (some ⟨w.heap.size, 0, none⟩) 1 1, .slice (some ⟨w.heap.size + 1, 0, none⟩) 1 1] 87)).alloc (.cells #[.int .i64 1, .int .i64 10, .int .i64 50, .string ⟨#[]⟩, .int .u8 1, .string ⟨#[]⟩, .slice (some ⟨w.heap.size + 1 + 1, 0, none⟩) 2 2] 66)).alloc (.cells #[.string ⟨#[]⟩, .string ⟨#[]⟩, .int .u8 3, .bool false, .int .i64 1, .slice none 0 0, .slice (some ⟨w.heap.size + 1 + 1 + 1, 0, none⟩) 1 1, .slice none 0 0] 27)) (w.heap.size + 1 + 1) 87 #[.slice (some ⟨w.heap.size, 0, none⟩) 1 1, .slice (some ⟨w.heap.size + 1, 0, none⟩) 1 1]) := ((Blk.new' (by simp)).alloc _).alloc _
  have HB3 : Hid (Blk (((((w.alloc (.cells #[.string ⟨#[72, 105, 44]⟩, .int .u8 0, .bool false, .bool false, .string ⟨#[]⟩] 84)).alloc (.cells #[.string ⟨#[121, 111, 117, 46]⟩, .int .u8 0, .bool false, .bool false, .string ⟨#[]⟩] 84)).alloc (.cells #[.slice (some ⟨w.heap.size, 0, none⟩) 1 1, .slice (some ⟨w.heap.size + 1, 0, none⟩) 1 1] 87)).alloc (.cells #[.int .i64 1, .int .i64 10, .int .i64 50, .string ⟨#[]⟩, .int .u8 1, .string ⟨#[]⟩, .slice (some ⟨w.heap.size + 1 + 1, 0, none⟩) 2 2] 66)).alloc (.cells #[.string ⟨#[]⟩, .string ⟨#[]⟩, .int .u8 3, .bool false, .int .i64 1, .slice none 0 0, .slice (some ⟨w.heap.size + 1 + 1 + 1, 0, none⟩) 1 1, .slice none 0 0] 27)) (w.heap.size + 1 + 1 + 1) 66 #[.int .i64 1, .int .i64 10, .int .i64 50, .string ⟨#[]⟩, .int .u8 1, .string ⟨#[]⟩, .slice (some ⟨w.heap.size + 1 + 1, 0, none⟩) 2 2]) := (Blk.new' (by simp)).alloc _
  have HB4 : Hid (Blk (((((w.alloc (.cells #[.string ⟨#[72, 105, 44]⟩, .int .u8 0, .bool false, .bool false, .string ⟨#[]⟩] 84)).alloc (.cells #[.string ⟨#[121, 111, 117, 46]⟩, .int .u8 0, .bool false, .bool false, .string ⟨#[]⟩] 84)).alloc (.cells #[.slice (some ⟨w.heap.size, 0, none⟩) 1 1, .slice (some ⟨w.heap.size + 1, 0, none⟩) 1 1] 87)).alloc (.cells #[.int .i64 1, .int .i64 10, .int .i64 50, .string ⟨#[]⟩, .int .u8 1, .string ⟨#[]⟩, .slice (some ⟨w.heap.size + 1 + 1, 0, none⟩) 2 2] 66)).alloc (.cells #[.string ⟨#[]⟩, .string ⟨#[]⟩, .int .u8 3, .bool false, .int .i64 1, .slice none 0 0, .slice (some ⟨w.heap.size + 1 + 1 + 1, 0, none⟩) 1 1, .slice none 0 0] 27)) (w.heap.size + 1 + 1 + 1 + 1) 27 #[.string ⟨#[]⟩, .string ⟨#[]⟩, .int .u8 3, .bool false, .int .i64 1, .slice none 0 0, .slice (some ⟨w.heap.size + 1 + 1 + 1, 0, none⟩) 1 1, .slice none 0 0]) := Blk.new' (by simp)
  generalize hWg : (((((w.alloc (.cells #[.string ⟨#[72, 105, 44]⟩, .int .u8 0, .bool false, .bool false, .string ⟨#[]⟩] 84)).alloc (.cells #[.string ⟨#[121, 111, 117, 46]⟩, .int .u8 0, .bool false, .bool false, .string ⟨#[]⟩] 84)).alloc (.cells #[.slice (some ⟨w.heap.size, 0, none⟩) 1 1, .slice (some ⟨w.heap.size + 1, 0, none⟩) 1 1] 87)).alloc (.cells #[.int .i64 1, .int .i64 10, .int .i64 50, .string ⟨#[]⟩, .int .u8 1, .string ⟨#[]⟩, .slice (some ⟨w.heap.size + 1 + 1, 0, none⟩) 2 2] 66)).alloc (.cells #[.string ⟨#[]⟩, .string ⟨#[]⟩, .int .u8 3, .bool false, .int .i64 1, .slice none 0 0, .slice (some ⟨w.heap.size + 1 + 1 + 1, 0, none⟩) 1 1, .slice none 0 0] 27)) = W0 at *
  clear hWg
  have hat0 : DocAt W0 q0 (q0h (w.heap.size + 1 + 1 + 1)) := q0_at HB0.out HB1.out HB2.out HB3.out
  have HAt := Lib.hid hat0
  have HAdd := Lib.hid (fun fr til w' (hx : Ext W0 w') => DAdd_any q0 (q0h (w.heap.size + 1 + 1 + 1)) 1 fr til ⟨#[65, 78, 78]⟩ ⟨#[63]⟩ w' (HEn.out.ext (HX.out.trans hx)) (HAt.out.ext hx) q0_fit (by simp [q0h]) (by simp [q0h]) (by simp [q0h]) (by simp [q0h]) (by decide) (by decide))
  have HMv := Lib.hid (fun w' => CMove_any ⟨#[72, 105, 44]⟩ ⟨#[79, 104, 32, 104, 105, 44]⟩ 1 false w' (by decide) (by decide))
  rw [q0_move] at HMv
  unfold AddPost at HAdd
  unfold Doc.cells q0 q0h at HAdd
  dsimp only at HAdd
  have HX0 := Lib.hid (Ext.refl W0)
  clear hat0 HB0 HB1 HB2 HB3
  go_wp2_with (refine wpList_loadB rfl 27 (.tmp 1) rfl (w.heap.size + 1 + 1 + 1 + 1) 27 _ _ (by exact rfl) (by exact HB4.out) Tryz.underlying27 rfl (by exact size_docI) ?_)
  refine (HAdd.out 0 2 _ HX0.out).mono ?_
  rintro en w_1 ⟨⟨ra, rn, rc, ea, en1, ec, ca, cn, cc⟩, rfl, ho1, hx_2⟩
  have HO1 := Lib.hid (show DocOwn w_1 W0.heap.size (q0.added 1 0 2 ⟨#[65, 78, 78]⟩ ⟨#[63]⟩) ⟨ra, rn, rc, ea, en1, ec, ca, cn, cc⟩ from ho1)
  clear ho1
  have HX_3 := Lib.hid (HX0.out.trans hx_2)
  have HB_4 := Lib.hid (HB4.out.ext hx_2)
  clear hx_2 HX0 HB4
  rw [show (Doc.addErr ⟨⟨#[]⟩, ⟨#[]⟩, 3, false, 1, [], [q0e], []⟩ 1 0 2 ⟨#[65, 78, 78]⟩ ⟨#[63]⟩) = 0 from q0_err1, show (Doc.addId ⟨⟨#[]⟩, ⟨#[]⟩, 3, false, 1, [], [q0e], []⟩ 1 0 2 ⟨#[65, 78, 78]⟩ ⟨#[63]⟩) = 2 from q0_id1, show (Doc.added ⟨⟨#[]⟩, ⟨#[]⟩, 3, false, 1, [], [q0e], []⟩ 1 0 2 ⟨#[65, 78, 78]⟩ ⟨#[63]⟩) = q1 from q0_add1]
  rw [q0_add1] at HO1
  have hr1 := HO1.out.rlen
  have he1 := HO1.out.evs.len
  have hc1 := HO1.out.clen
  have HQu := Lib.hid (fun w' (hx : Ext w_1 w') => Quoted_any q1 ⟨ra, rn, rc, ea, en1, ec, ca, cn, cc⟩ 2 w' (HEn.out.ext (HX.out.trans (HX_3.out.trans hx))) (HO1.out.at_.ext hx) q1_fit (by simp [q1] at hr1; simp only; omega) (by simp [q1] at he1; simp only; omega) (by simp [q1] at hc1; simp only; omega))
  rw [q1_quX] at HQu
  unfold Doc.cells q1 at HQu
  unfold q1
  dsimp only at *
  clear hr1 he1 hc1 HO1
  have HX1 := Lib.hid (Ext.refl w_1)
  have HB_5 := Lib.hid (Blk.new w_1 27 #[.string ⟨#[]⟩, .string ⟨#[]⟩, .int .u8 3, .bool false, .int .i64 2, .slice ra rn rc, .slice ea en1 ec, .slice ca cn cc])
  have ha_6 := (Ext.refl w_1).alloc (.cells #[.string ⟨#[]⟩, .string ⟨#[]⟩, .int .u8 3, .bool false, .int .i64 2, .slice ra rn rc, .slice ea en1 ec, .slice ca cn cc] 27)
  have HX_7 := Lib.hid (HX_3.out.trans ha_6)
  have HB_8 := Lib.hid (HB_4.out.ext ha_6)
  clear ha_6 HX_3 HB_4
  have hxa := ((Ext.refl w_1).alloc (.cells #[.string ⟨#[]⟩, .string ⟨#[]⟩, .int .u8 3, .bool false, .int .i64 2, .slice ra rn rc, .slice ea en1 ec, .slice ca cn cc] 27))
  go_wp2_with (refine wpList_loadB rfl 27 (.tmp 2) rfl (w_1.heap.size) 27 _ _ (by exact rfl) (by exact HB_5.out) Tryz.underlying27 rfl (by exact size_docI) ?_)
  refine (HQu.out _ hxa).mono ?_
  rintro en w_9 ⟨rfl, hx_10⟩
  have HX_11 := Lib.hid (HX_7.out.trans hx_10)
  have HB_12 := Lib.hid (HB_8.out.ext hx_10)
  have HB_13 := Lib.hid (HB_5.out.ext hx_10)
  clear hx_10 HX_7 HB_8 HB_5
  clear hxa HQu HX1
  go_wp2_with (refine wpList_loadB rfl 27 (.tmp 1) rfl (w.heap.size + 1 + 1 + 1 + 1) 27 _ _ (by exact rfl) (by exact HB_12.out) Tryz.underlying27 rfl (by exact size_docI) ?_)
  refine (HAdd.out 0 9 _ HX_11.out).mono ?_
  rintro en w_14 ⟨⟨ra2, rn2, rc2, ea2, en2, ec2, ca2, cn2, cc2⟩, rfl, -, hx_15⟩
  have HX_16 := Lib.hid (HX_11.out.trans hx_15)
  have HB_17 := Lib.hid (HB_12.out.ext hx_15)
  have HB_18 := Lib.hid (HB_13.out.ext hx_15)
  clear hx_15 HX_11 HB_12 HB_13
  rw [show (Doc.addErr ⟨⟨#[]⟩, ⟨#[]⟩, 3, false, 1, [], [q0e], []⟩ 1 0 9 ⟨#[65, 78, 78]⟩ ⟨#[63]⟩) = 2 from q0_err2, show (Doc.addId ⟨⟨#[]⟩, ⟨#[]⟩, 3, false, 1, [], [q0e], []⟩ 1 0 9 ⟨#[65, 78, 78]⟩ ⟨#[63]⟩) = 0 from q0_id2, show (Doc.added ⟨⟨#[]⟩, ⟨#[]⟩, 3, false, 1, [], [q0e], []⟩ 1 0 9 ⟨#[65, 78, 78]⟩ ⟨#[63]⟩) = Doc.zero from q0_add2]
  unfold Doc.zero
  dsimp only
  go_wp2_with fail
  refine (HMv.out _).mono ?_
  rintro en w_19 ⟨rfl, hx_20⟩
  go_wp2_with fail
  go_ret
  exact ⟨rfl, HX.out.trans ((HX_16.out.alloc _).trans hx_20)⟩
end Go.Proofs.YtagfedbdakmlgaaGreatDoor

/-! NameR -/
namespace Go.Proofs.YtagfedbdakmlgaaGreatDoor
set_option linter.unusedVariables false
set_option linter.unusedSimpArgs false
open Go.RowKit

theorem digit_any (c : Int) (w : World) : Calls Tryz.prog 128 #[.int .u8 c] w fun e w' => e = .returned (.bool (decide (48 ≤ c ∧ c ≤ 57))) ∧ w = w' := by
  by_cases h1 : 48 ≤ c
  · by_cases h2 : c ≤ 57
    · go_enter Tryz.func128, Tryz.ntmps128
      go_wp2
      go_ret
      exact ⟨ret_bool (by rw [decide_eq_true ⟨h1, h2⟩]), rfl⟩
    · go_enter Tryz.func128, Tryz.ntmps128
      go_wp2
      go_ret
      exact ⟨ret_bool (by rw [decide_eq_false (by omega)]), rfl⟩
  · go_enter Tryz.func128, Tryz.ntmps128
    go_wp2
    go_ret
    exact ⟨ret_bool (by simp; omega), rfl⟩

def NameRelR (s : ByteArray) (i : Value) (w wr : World) : Prop := ∃ k : Nat, k ≤ s.size ∧ i = .int .i64 k ∧ (s.data.toList.take k).all (fun c => nbI c.toNat) = true ∧ (0 < k → ∀ h : 0 < s.size, (65 : Int) ≤ (s[0].toNat : Int) ∧ (s[0].toNat : Int) ≤ 90) ∧ w = wr
theorem nb_step {s : ByteArray} {k : Nat} (hlt : k < s.size) (h : (s.data.toList.take k).all (fun c => nbI c.toNat) = true) (hb : nbI (s[k].toNat : Int) = true) : (s.data.toList.take (k + 1)).all (fun c => nbI c.toNat) = true := by
  rw [take_snoc s k hlt, List.all_append, h]
  simp [hb]
theorem nb_let {c : Int} (h1 : 65 ≤ c) (h2 : c ≤ 90) : nbI c = true := decide_eq_true (.inl ⟨h1, h2⟩)
theorem nb_dig {c : Int} (h1 : 48 ≤ c) (h2 : c ≤ 57) : nbI c = true := decide_eq_true (.inr (.inl ⟨h1, h2⟩))

set_option maxRecDepth 100000 in
set_option maxHeartbeats 4000000 in
theorem RName_any (s : ByteArray) (w : World) (hs : s.size ≤ 9223372036854775807) :
    Calls Tryz.prog 64 #[.string s] w fun e w' => e = .returned (.bool (nameB s)) ∧ Ext w w' := by
  by_cases h : 1 ≤ s.size
  · by_cases h' : s.size ≤ 16
    · have h1 : (1 : Int) ≤ (s.size : Int) := by omega
      have h2 : (s.size : Int) ≤ 16 := by omega
      have h0 : 0 < s.size := by omega
      have HS := Lib.hid (And.intro h h')
      go_enter Tryz.func64, Tryz.ntmps64
      go_wp2
      go_loopw [3] (fun i wr => NameRelR s i w wr) (fun i _ => s.size - (intOf i).toNat)
      case atStart => exact ⟨0, Nat.zero_le _, rfl, rfl, fun h => absurd h (by omega), rfl⟩
      case round =>
        obtain ⟨k, hk, rfl, hall, hhd, rfl⟩ := hrel
        have HA := Lib.hid hall
        have HH := Lib.hid hhd
        clear hall hhd
        by_cases hlt : k < s.size
        · have hki : (k : Int) < (s.size : Int) := by omega
          by_cases hl1 : (65 : Int) ≤ (s[k].toNat : Int)
          · by_cases hl2 : (s[k].toNat : Int) ≤ 90
            · have HB := Lib.hid (nb_step hlt HA.out (nb_let hl1 hl2))
              have HH2 : Hid (∀ h : 0 < s.size, (65 : Int) ≤ (s[0].toNat : Int) ∧ (s[0].toNat : Int) ≤ 90) := fun h => by
                rcases Nat.eq_zero_or_pos k with h0 | h0
                · subst h0; exact ⟨hl1, hl2⟩
                · exact HH.out h0 h
              go_wp2
              exact ⟨⟨k + 1, by omega, by go_num, HB.out, fun _ => HH2.out, rfl⟩, by simp [intOf]; omega⟩
            · by_cases hk0 : k = 0
              · subst hk0
                have HF := Lib.hid (nameB_head h0 (by omega))
                go_wp2_with fail
                go_ret
                exact ⟨by rw [HF.out]; rfl, Ext.refl _⟩
              · have hk0' : ((k : Int) == 0) = false := by simp; omega
                have hd : ¬ ((48 : Int) ≤ (s[k].toNat : Int) ∧ (s[k].toNat : Int) ≤ 57) := by omega
                go_wp2_with fail
                refine (digit_any _ _).mono ?_
                rintro e w1 ⟨rfl, rfl⟩
                rw [decide_eq_false hd]
                by_cases h95 : (s[k].toNat : Int) = 95
                · have HB := Lib.hid (nb_step hlt HA.out (by unfold nbI; rw [h95]; decide))
                  go_wp2_with fail
                  exact ⟨⟨k + 1, by omega, by go_num, HB.out, fun _ => HH.out (by omega), rfl⟩, by simp [intOf]; omega⟩
                · by_cases h45 : (s[k].toNat : Int) = 45
                  · exfalso; omega
                  · have e95 : ((s[k].toNat : Int) != 95) = true := by simpa using h95
                    have e45 : ((s[k].toNat : Int) != 45) = true := by simpa using h45
                    have HF := Lib.hid (nameB_at k hlt (by unfold nbI; rw [decide_eq_false (by omega)]))
                    go_wp2_with fail
                    go_ret
                    exact ⟨by rw [HF.out]; rfl, Ext.refl _⟩
          · by_cases hk0 : k = 0
            · subst hk0
              have HF := Lib.hid (nameB_head h0 (by omega))
              go_wp2_with fail
              go_ret
              exact ⟨by rw [HF.out]; rfl, Ext.refl _⟩
            · have hk0' : ((k : Int) == 0) = false := by simp; omega
              go_wp2_with fail
              refine (digit_any _ _).mono ?_
              rintro e w1 ⟨rfl, rfl⟩
              by_cases hd : (48 : Int) ≤ (s[k].toNat : Int) ∧ (s[k].toNat : Int) ≤ 57
              · rw [decide_eq_true hd]
                have HB := Lib.hid (nb_step hlt HA.out (nb_dig hd.1 hd.2))
                go_wp2_with fail
                exact ⟨⟨k + 1, by omega, by go_num, HB.out, fun _ => HH.out (by omega), rfl⟩, by simp [intOf]; omega⟩
              · rw [decide_eq_false hd]
                by_cases h45 : (s[k].toNat : Int) = 45
                · have HB := Lib.hid (nb_step hlt HA.out (by unfold nbI; rw [h45]; decide))
                  have e95 : ((s[k].toNat : Int) != 95) = true := by rw [h45]; rfl
                  have e45 : ((s[k].toNat : Int) != 45) = false := by rw [h45]; rfl
                  clear h45
                  go_wp2_with fail
                  exact ⟨⟨k + 1, by omega, by go_num, HB.out, fun _ => HH.out (by omega), rfl⟩, by simp [intOf]; omega⟩
                · have e95 : ((s[k].toNat : Int) != 95) = true := by simp; omega
                  have e45 : ((s[k].toNat : Int) != 45) = true := by simpa using h45
                  have HF := Lib.hid (nameB_at k hlt (by unfold nbI; rw [decide_eq_false (by omega)]))
                  go_wp2_with fail
                  go_ret
                  exact ⟨by rw [HF.out]; rfl, Ext.refl _⟩
        · have ek : k = s.size := by omega
          subst ek
          go_wp2
          go_ret
          exact ⟨by rw [nameB_yes HS.out h0 (HH.out h0 h0) HA.out]; rfl, Ext.refl _⟩
    · have HF := Lib.hid (nameB_small (s := s) (by omega))
      have h1 : (16 : Int) < (s.size : Int) := by omega
      go_enter Tryz.func64, Tryz.ntmps64
      go_wp2
      go_ret
      exact ⟨by rw [HF.out]; rfl, Ext.refl _⟩
  · have HF := Lib.hid (nameB_small (s := s) (by omega))
    have h1 : (s.size : Int) < 1 := by omega
    go_enter Tryz.func64, Tryz.ntmps64
    go_wp2
    go_ret
    exact ⟨by rw [HF.out]; rfl, Ext.refl _⟩
end Go.Proofs.YtagfedbdakmlgaaGreatDoor

/-! RegR -/
namespace Go.Proofs.YtagfedbdakmlgaaGreatDoor
set_option linter.unusedVariables false
set_option linter.unusedSimpArgs false
open Go.RowKit

set_option maxHeartbeats 400000 in
theorem R10Default_any (w : World) : Calls Tryz.prog 186 #[] w fun e w' => e = .returned Reg.default.val ∧ Ext w w' := by
  go_enter Tryz.func186, Tryz.ntmps186
  go_wp2
  exact bodyPost_ret (v := Reg.default.val) (by simp [results, Tryz.results186, go_sem, Reg.val, Reg.default]; rfl) rfl ⟨rfl, (Ext.refl w).alloc _⟩

set_option maxHeartbeats 4000000 in
theorem R10Check_any (r : Reg) (w : World) (hs : r.name.size ≤ 9223372036854775807) : Calls Tryz.prog 146 #[r.val] w fun e w' => e = .returned (.int .i64 r.check) ∧ Ext w w' := by
  obtain ⟨nm, top, hgt, lft, wid, al, bot⟩ := r
  unfold Reg.val
  dsimp only
  cases hn : nameB nm
  · have HN := Lib.hid hn
    have HF : Hid (Reg.check ⟨nm, top, hgt, lft, wid, al, bot⟩ = 5) := by show Reg.check _ = 5; unfold Reg.check; rw [if_pos hn]
    clear hn
    go_enter Tryz.func146, Tryz.ntmps146
    go_wp2_with fail
    refine (RName_any nm _ hs).mono ?_
    rintro e w1 ⟨rfl, hx1⟩
    rw [HN.out]
    go_wp2_with fail
    go_ret
    exact ⟨ret_int HF.out.symm, ((Ext.refl w).alloc _).trans hx1⟩
  have HN := Lib.hid hn
  have HC : Hid (Reg.check ⟨nm, top, hgt, lft, wid, al, bot⟩ = if ¬ Reg.inGrid ⟨nm, top, hgt, lft, wid, al, bot⟩ then 2 else if al < 1 ∨ 3 < al then 3 else 0) := by
    show Reg.check _ = _
    unfold Reg.check
    rw [if_neg (by rw [hn]; simp)]
  have HI : Hid (Reg.inGrid ⟨nm, top, hgt, lft, wid, al, bot⟩ ↔ ((0 ≤ top ∧ top ≤ 14) ∧ (1 ≤ hgt ∧ hgt ≤ 15 - top) ∧ (0 ≤ lft ∧ lft ≤ 31) ∧ (1 ≤ wid ∧ wid ≤ 32 - lft))) := Iff.rfl
  clear hn
  by_cases h0 : top < 0
  · go_enter Tryz.func146, Tryz.ntmps146
    go_wp2_with fail
    refine (RName_any nm _ hs).mono ?_
    rintro e w1 ⟨rfl, hx1⟩
    rw [HN.out]
    have hc := fun o u => hx1.cell (p := ⟨w.heap.size, o, none⟩) (u := u)
    simp at hc
    have hx1' := Lib.hid hx1
    clear hx1
    go_wp2_with fail
    go_ret
    exact ⟨ret_int (by rw [HC.out, if_pos (by rw [HI.out]; omega)]), ((Ext.refl w).alloc _).trans hx1'.out⟩
  by_cases h1 : 14 < top
  · go_enter Tryz.func146, Tryz.ntmps146
    go_wp2_with fail
    refine (RName_any nm _ hs).mono ?_
    rintro e w1 ⟨rfl, hx1⟩
    rw [HN.out]
    have hc := fun o u => hx1.cell (p := ⟨w.heap.size, o, none⟩) (u := u)
    simp at hc
    have hx1' := Lib.hid hx1
    clear hx1
    go_wp2_with fail
    go_ret
    exact ⟨ret_int (by rw [HC.out, if_pos (by rw [HI.out]; omega)]), ((Ext.refl w).alloc _).trans hx1'.out⟩
  by_cases h2 : hgt < 1
  · go_enter Tryz.func146, Tryz.ntmps146
    go_wp2_with fail
    refine (RName_any nm _ hs).mono ?_
    rintro e w1 ⟨rfl, hx1⟩
    rw [HN.out]
    have hc := fun o u => hx1.cell (p := ⟨w.heap.size, o, none⟩) (u := u)
    simp at hc
    have hx1' := Lib.hid hx1
    clear hx1
    go_wp2_with fail
    go_ret
    exact ⟨ret_int (by rw [HC.out, if_pos (by rw [HI.out]; omega)]), ((Ext.refl w).alloc _).trans hx1'.out⟩
  by_cases h3 : 15 - top < hgt
  · go_enter Tryz.func146, Tryz.ntmps146
    go_wp2_with fail
    refine (RName_any nm _ hs).mono ?_
    rintro e w1 ⟨rfl, hx1⟩
    rw [HN.out]
    have hc := fun o u => hx1.cell (p := ⟨w.heap.size, o, none⟩) (u := u)
    simp at hc
    have hx1' := Lib.hid hx1
    clear hx1
    go_wp2_with fail
    go_ret
    exact ⟨ret_int (by rw [HC.out, if_pos (by rw [HI.out]; omega)]), ((Ext.refl w).alloc _).trans hx1'.out⟩
  by_cases h4 : lft < 0
  · go_enter Tryz.func146, Tryz.ntmps146
    go_wp2_with fail
    refine (RName_any nm _ hs).mono ?_
    rintro e w1 ⟨rfl, hx1⟩
    rw [HN.out]
    have hc := fun o u => hx1.cell (p := ⟨w.heap.size, o, none⟩) (u := u)
    simp at hc
    have hx1' := Lib.hid hx1
    clear hx1
    go_wp2_with fail
    go_ret
    exact ⟨ret_int (by rw [HC.out, if_pos (by rw [HI.out]; omega)]), ((Ext.refl w).alloc _).trans hx1'.out⟩
  by_cases h5 : 31 < lft
  · go_enter Tryz.func146, Tryz.ntmps146
    go_wp2_with fail
    refine (RName_any nm _ hs).mono ?_
    rintro e w1 ⟨rfl, hx1⟩
    rw [HN.out]
    have hc := fun o u => hx1.cell (p := ⟨w.heap.size, o, none⟩) (u := u)
    simp at hc
    have hx1' := Lib.hid hx1
    clear hx1
    go_wp2_with fail
    go_ret
    exact ⟨ret_int (by rw [HC.out, if_pos (by rw [HI.out]; omega)]), ((Ext.refl w).alloc _).trans hx1'.out⟩
  by_cases h6 : wid < 1
  · go_enter Tryz.func146, Tryz.ntmps146
    go_wp2_with fail
    refine (RName_any nm _ hs).mono ?_
    rintro e w1 ⟨rfl, hx1⟩
    rw [HN.out]
    have hc := fun o u => hx1.cell (p := ⟨w.heap.size, o, none⟩) (u := u)
    simp at hc
    have hx1' := Lib.hid hx1
    clear hx1
    go_wp2_with fail
    go_ret
    exact ⟨ret_int (by rw [HC.out, if_pos (by rw [HI.out]; omega)]), ((Ext.refl w).alloc _).trans hx1'.out⟩
  by_cases h7 : 32 - lft < wid
  · go_enter Tryz.func146, Tryz.ntmps146
    go_wp2_with fail
    refine (RName_any nm _ hs).mono ?_
    rintro e w1 ⟨rfl, hx1⟩
    rw [HN.out]
    have hc := fun o u => hx1.cell (p := ⟨w.heap.size, o, none⟩) (u := u)
    simp at hc
    have hx1' := Lib.hid hx1
    clear hx1
    go_wp2_with fail
    go_ret
    exact ⟨ret_int (by rw [HC.out, if_pos (by rw [HI.out]; omega)]), ((Ext.refl w).alloc _).trans hx1'.out⟩
  by_cases e1 : al = 1
  · subst e1
    go_enter Tryz.func146, Tryz.ntmps146
    go_wp2_with fail
    refine (RName_any nm _ hs).mono ?_
    rintro e w1 ⟨rfl, hx1⟩
    rw [HN.out]
    have hc := fun o u => hx1.cell (p := ⟨w.heap.size, o, none⟩) (u := u)
    simp at hc
    have hx1' := Lib.hid hx1
    clear hx1
    go_wp2_with fail
    go_ret
    exact ⟨ret_int (by rw [HC.out, if_neg (by rw [HI.out]; omega), if_neg (by omega)]), ((Ext.refl w).alloc _).trans hx1'.out⟩
  have f1 : (al != 1) = true := by simpa using e1
  by_cases e2 : al = 2
  · subst e2
    go_enter Tryz.func146, Tryz.ntmps146
    go_wp2_with fail
    refine (RName_any nm _ hs).mono ?_
    rintro e w1 ⟨rfl, hx1⟩
    rw [HN.out]
    have hc := fun o u => hx1.cell (p := ⟨w.heap.size, o, none⟩) (u := u)
    simp at hc
    have hx1' := Lib.hid hx1
    clear hx1
    go_wp2_with fail
    go_ret
    exact ⟨ret_int (by rw [HC.out, if_neg (by rw [HI.out]; omega), if_neg (by omega)]), ((Ext.refl w).alloc _).trans hx1'.out⟩
  have f2 : (al != 2) = true := by simpa using e2
  by_cases e3 : al = 3
  · subst e3
    go_enter Tryz.func146, Tryz.ntmps146
    go_wp2_with fail
    refine (RName_any nm _ hs).mono ?_
    rintro e w1 ⟨rfl, hx1⟩
    rw [HN.out]
    have hc := fun o u => hx1.cell (p := ⟨w.heap.size, o, none⟩) (u := u)
    simp at hc
    have hx1' := Lib.hid hx1
    clear hx1
    go_wp2_with fail
    go_ret
    exact ⟨ret_int (by rw [HC.out, if_neg (by rw [HI.out]; omega), if_neg (by omega)]), ((Ext.refl w).alloc _).trans hx1'.out⟩
  have f3 : (al != 3) = true := by simpa using e3
  go_enter Tryz.func146, Tryz.ntmps146
  go_wp2_with fail
  refine (RName_any nm _ hs).mono ?_
  rintro e w1 ⟨rfl, hx1⟩
  rw [HN.out]
  have hc := fun o u => hx1.cell (p := ⟨w.heap.size, o, none⟩) (u := u)
  simp at hc
  have hx1' := Lib.hid hx1
  clear hx1
  go_wp2_with fail
  go_ret
  exact ⟨ret_int (by rw [HC.out, if_neg (by rw [HI.out]; omega), if_pos (by omega)]), ((Ext.refl w).alloc _).trans hx1'.out⟩
end Go.Proofs.YtagfedbdakmlgaaGreatDoor

/-! RegS -/
namespace Go.Proofs.YtagfedbdakmlgaaGreatDoor
set_option linter.unusedVariables false
set_option linter.unusedSimpArgs false
open Go.RowKit

theorem wp_call0 {P : Program} {o : Oper} {a : Act} {w : World} {K : Act → World → Prop} {Q : Exit → Act → World → Prop} {f : FuncId} {ts : Array TypeId} (ho : o.op = .call { callee := .value (.func f), args := #[], argTypes := ts })
    (hent : ∀ args w, (callFunc f args).run P w = .ok (.enter f args) w) {r : Value} (hc : Calls P f #[] w fun en w' => en = .returned r ∧ Ext w w') (h : ∀ w', Ext w w' → K (a.put o.dst r) w') : o.wp P a w K Q := by
  have h2 : Calls P f #[] w (fun
      | .returned u, w'' => K (a.put o.dst u) w''
      | .panicked chain, w'' => Q (.panic chain) a w''
      | .outgrown, _ => LetsOut Q) := hc.mono fun en w' hr => by
    obtain ⟨rfl, hk⟩ := hr
    exact h w' hk
  unfold Oper.wp execOp
  have hev : a.eval (.func f) = .func (.func f) #[] #[] := rfl
  simp only [ho]
  simp [resolve, invoke, hev, hent, Sem.run_bind, Deferred.ofValue]
  exact h2

set_option maxRecDepth 100000 in
set_option maxHeartbeats 2000000 in
theorem R10usable_any (r : Reg) (w : World) (hs : r.name.size ≤ 9223372036854775807) : Calls Tryz.prog 188 #[r.val] w fun e w' => e = .returned (.bool r.usable) ∧ Ext w w' := by
  have hR := fun w => R10Check_any r w hs
  have hU : r.usable = decide (r = Reg.default ∨ r.check = 0) := rfl
  have hq0 := fun (hd : r ≠ Reg.default) w => eql_reg_no hd w
  have hq1 := fun (hd : r = Reg.default) w => eql_reg_yes Reg.default w
  generalize r.check = E at *
  by_cases hE : E = 0
  · subst hE
    have HU : Hid (r.usable = true) := by show _ = _; rw [hU]; exact decide_eq_true (.inr rfl)
    clear hU hq0 hq1
    obtain ⟨nm, top, hgt, lft, wid, al, bot⟩ := r
    have HR := Lib.hid hR
    have HB := Lib.hid (Blk.new w 94 #[.string nm, .int .i64 top, .int .i64 hgt, .int .i64 lft, .int .i64 wid, .int .u8 al, .bool bot])
    clear hR
    unfold Reg.val at HR ⊢
    dsimp only at HR ⊢
    go_enter Tryz.func188, Tryz.ntmps188
    go_wp2_with fail
    refine wp_region_vals [.agg #[.string nm, .int .i64 top, .int .i64 hgt, .int .i64 lft, .int .i64 wid, .int .u8 al, .bool bot], .int .i64 0, .bool true, .bool true, undef, undef, undef, .bool true, .bool true] [(3, .agg #[.string nm, .int .i64 top, .int .i64 hgt, .int .i64 lft, .int .i64 wid, .int .u8 al, .bool bot]), (4, .int .i64 0), (5, .bool true), (6, .bool true), (7, undef), (8, undef), (9, undef), (10, .bool true), (2, .bool true)] (by kernel_rfl) (by kernel_rfl) (by kernel_rfl) rfl rfl ?_ ?_
    · intro i o ho a w' K' hx hn hd hk
      match i, ho with
      | 0, ho =>
        simp only [List.getElem?_toArray, List.getElem?_cons_zero, List.getElem?_cons_succ, Option.some.injEq] at ho
        subst ho
        refine want_none rfl ?_
        exact wp_loadB 94 (.tmp 1) rfl _ 94 _ _ ((hn 1 rfl).trans (show _ = Value.pointer (some ⟨w.heap.size, 0, none⟩) from rfl)) (HB.out.ext hx) Tryz.underlying94 rfl (by exact info_reg) (hk _ rfl w' (Ext.refl _))
      | 1, ho =>
        simp only [List.getElem?_toArray, List.getElem?_cons_zero, List.getElem?_cons_succ, Option.some.injEq] at ho
        subst ho
        refine want_none rfl ?_
        exact wp_call1s rfl (eval_of (hd 0 3 (.agg #[.string nm, .int .i64 top, .int .i64 hgt, .int .i64 lft, .int .i64 wid, .int .u8 al, .bool bot]) rfl rfl rfl)) Tryz.call146 (HR.out w') (hk _ rfl)
      | 2, ho =>
        simp only [List.getElem?_toArray, List.getElem?_cons_zero, List.getElem?_cons_succ, Option.some.injEq] at ho
        subst ho
        refine want_none rfl ?_
        exact wp_bin rfl (eval_of (hd 1 4 (.int .i64 0) rfl rfl rfl)) rfl (by first | (go_simp; done) | simp | (simp; omega)) (hk _ rfl w' (Ext.refl _))
      | 3, ho =>
        simp only [List.getElem?_toArray, List.getElem?_cons_zero, List.getElem?_cons_succ, Option.some.injEq] at ho
        subst ho
        refine want_none rfl ?_
        exact wp_move _ _ rfl (eval_of (hd 2 5 (.bool true) rfl rfl rfl)) (hk _ rfl w' (Ext.refl _))
      | 4, ho =>
        simp only [List.getElem?_toArray, List.getElem?_cons_zero, List.getElem?_cons_succ, Option.some.injEq] at ho
        subst ho
        refine want_no rfl rfl (hd 3 6 (.bool true) rfl rfl rfl) rfl ?_
        exact hk undef rfl w' (Ext.refl _)
      | 5, ho =>
        simp only [List.getElem?_toArray, List.getElem?_cons_zero, List.getElem?_cons_succ, Option.some.injEq] at ho
        subst ho
        refine want_no rfl rfl (hd 3 6 (.bool true) rfl rfl rfl) rfl ?_
        exact hk undef rfl w' (Ext.refl _)
      | 6, ho =>
        simp only [List.getElem?_toArray, List.getElem?_cons_zero, List.getElem?_cons_succ, Option.some.injEq] at ho
        subst ho
        refine want_no rfl rfl (hd 3 6 (.bool true) rfl rfl rfl) rfl ?_
        exact hk undef rfl w' (Ext.refl _)
      | 7, ho =>
        simp only [List.getElem?_toArray, List.getElem?_cons_zero, List.getElem?_cons_succ, Option.some.injEq] at ho
        subst ho
        refine want_none rfl ?_
        exact wp_pick _ _ _ true _ rfl (eval_of (hd 3 6 (.bool true) rfl rfl rfl)) (by exact rfl) (hk _ rfl w' (Ext.refl _))
      | 8, ho =>
        simp only [List.getElem?_toArray, List.getElem?_cons_zero, List.getElem?_cons_succ, Option.some.injEq] at ho
        subst ho
        refine want_none rfl ?_
        exact wp_assignx _ _ rfl (eval_of (hd 7 10 (.bool true) rfl rfl rfl)) (hk _ rfl w' (Ext.refl _))
      | i + 9, ho => simp at ho
    intro w9 hx9
    simp only [Act.put, List.foldl_cons, List.foldl_nil, List.setIfInBounds_toArray, List.set_cons_zero, List.set_cons_succ]
    go_wp2_with fail
    go_ret
    exact ⟨by rw [HU.out]; rfl, ((Ext.refl w).alloc _).trans hx9⟩
  by_cases hd : r = Reg.default
  · have HU : Hid (r.usable = true) := by show _ = _; rw [hU]; exact decide_eq_true (.inl hd)
    have hq := hq1 hd
    clear hU hq0 hq1 hs
    subst hd
    have HR := Lib.hid hR
    have HB := Lib.hid (Blk.new w 94 #[.string ByteArray.empty, .int .i64 11, .int .i64 4, .int .i64 0, .int .i64 32, .int .u8 2, .bool true])
    clear hR
    unfold Reg.val Reg.default at HR hq ⊢
    unfold Reg.default at HU
    dsimp only at HR hq HU ⊢
    go_enter Tryz.func188, Tryz.ntmps188
    go_wp2_with fail
    refine wp_region_vals [.agg #[.string ByteArray.empty, .int .i64 11, .int .i64 4, .int .i64 0, .int .i64 32, .int .u8 2, .bool true], .int .i64 E, .bool false, .bool false, .agg #[.string ByteArray.empty, .int .i64 11, .int .i64 4, .int .i64 0, .int .i64 32, .int .u8 2, .bool true], .agg #[.string ByteArray.empty, .int .i64 11, .int .i64 4, .int .i64 0, .int .i64 32, .int .u8 2, .bool true], .bool true, .bool true, .bool true] [(3, .agg #[.string ByteArray.empty, .int .i64 11, .int .i64 4, .int .i64 0, .int .i64 32, .int .u8 2, .bool true]), (4, .int .i64 E), (5, .bool false), (6, .bool false), (7, .agg #[.string ByteArray.empty, .int .i64 11, .int .i64 4, .int .i64 0, .int .i64 32, .int .u8 2, .bool true]), (8, .agg #[.string ByteArray.empty, .int .i64 11, .int .i64 4, .int .i64 0, .int .i64 32, .int .u8 2, .bool true]), (9, .bool true), (10, .bool true), (2, .bool true)] (by kernel_rfl) (by kernel_rfl) (by kernel_rfl) rfl rfl ?_ ?_
    · intro i o ho a w' K' hx hn hd hk
      match i, ho with
      | 0, ho =>
        simp only [List.getElem?_toArray, List.getElem?_cons_zero, List.getElem?_cons_succ, Option.some.injEq] at ho
        subst ho
        refine want_none rfl ?_
        exact wp_loadB 94 (.tmp 1) rfl _ 94 _ _ ((hn 1 rfl).trans (show _ = Value.pointer (some ⟨w.heap.size, 0, none⟩) from rfl)) (HB.out.ext hx) Tryz.underlying94 rfl (by exact info_reg) (hk _ rfl w' (Ext.refl _))
      | 1, ho =>
        simp only [List.getElem?_toArray, List.getElem?_cons_zero, List.getElem?_cons_succ, Option.some.injEq] at ho
        subst ho
        refine want_none rfl ?_
        exact wp_call1s rfl (eval_of (hd 0 3 (.agg #[.string ByteArray.empty, .int .i64 11, .int .i64 4, .int .i64 0, .int .i64 32, .int .u8 2, .bool true]) rfl rfl rfl)) Tryz.call146 (HR.out w') (hk _ rfl)
      | 2, ho =>
        simp only [List.getElem?_toArray, List.getElem?_cons_zero, List.getElem?_cons_succ, Option.some.injEq] at ho
        subst ho
        refine want_none rfl ?_
        exact wp_bin rfl (eval_of (hd 1 4 (.int .i64 E) rfl rfl rfl)) rfl (by first | (go_simp; done) | simp | (simp; omega)) (hk _ rfl w' (Ext.refl _))
      | 3, ho =>
        simp only [List.getElem?_toArray, List.getElem?_cons_zero, List.getElem?_cons_succ, Option.some.injEq] at ho
        subst ho
        refine want_none rfl ?_
        exact wp_move _ _ rfl (eval_of (hd 2 5 (.bool false) rfl rfl rfl)) (hk _ rfl w' (Ext.refl _))
      | 4, ho =>
        simp only [List.getElem?_toArray, List.getElem?_cons_zero, List.getElem?_cons_succ, Option.some.injEq] at ho
        subst ho
        refine want_yes rfl rfl (hd 3 6 (.bool false) rfl rfl rfl) rfl ?_
        exact wp_loadB 94 (.tmp 1) rfl _ 94 _ _ ((hn 1 rfl).trans (show _ = Value.pointer (some ⟨w.heap.size, 0, none⟩) from rfl)) (HB.out.ext hx) Tryz.underlying94 rfl (by exact info_reg) (hk _ rfl w' (Ext.refl _))
      | 5, ho =>
        simp only [List.getElem?_toArray, List.getElem?_cons_zero, List.getElem?_cons_succ, Option.some.injEq] at ho
        subst ho
        refine want_yes rfl rfl (hd 3 6 (.bool false) rfl rfl rfl) rfl ?_
        exact wp_call0 rfl  Tryz.call186 (R10Default_any w') (hk _ rfl)
      | 6, ho =>
        simp only [List.getElem?_toArray, List.getElem?_cons_zero, List.getElem?_cons_succ, Option.some.injEq] at ho
        subst ho
        refine want_yes rfl rfl (hd 3 6 (.bool false) rfl rfl rfl) rfl ?_
        exact wp_bin rfl (eval_of (hd 4 7 (.agg #[.string ByteArray.empty, .int .i64 11, .int .i64 4, .int .i64 0, .int .i64 32, .int .u8 2, .bool true]) rfl rfl rfl)) (eval_of (hd 5 8 (.agg #[.string ByteArray.empty, .int .i64 11, .int .i64 4, .int .i64 0, .int .i64 32, .int .u8 2, .bool true]) rfl rfl rfl)) (by first | (go_simp; done) | (go_simp; exact hq w') | (go_simp; simp [hq]; done) | go_simp) (hk _ rfl w' (Ext.refl _))
      | 7, ho =>
        simp only [List.getElem?_toArray, List.getElem?_cons_zero, List.getElem?_cons_succ, Option.some.injEq] at ho
        subst ho
        refine want_none rfl ?_
        exact wp_pick _ _ _ false _ rfl (eval_of (hd 3 6 (.bool false) rfl rfl rfl)) (by exact (eval_of (hd 6 9 (.bool true) rfl rfl rfl))) (hk _ rfl w' (Ext.refl _))
      | 8, ho =>
        simp only [List.getElem?_toArray, List.getElem?_cons_zero, List.getElem?_cons_succ, Option.some.injEq] at ho
        subst ho
        refine want_none rfl ?_
        exact wp_assignx _ _ rfl (eval_of (hd 7 10 (.bool true) rfl rfl rfl)) (hk _ rfl w' (Ext.refl _))
      | i + 9, ho => simp at ho
    intro w9 hx9
    simp only [Act.put, List.foldl_cons, List.foldl_nil, List.setIfInBounds_toArray, List.set_cons_zero, List.set_cons_succ]
    go_wp2_with fail
    go_ret
    exact ⟨by rw [HU.out]; rfl, ((Ext.refl w).alloc _).trans hx9⟩
  · have HU : Hid (r.usable = false) := by show _ = _; rw [hU]; exact decide_eq_false (by simp [hd, hE])
    have hq := hq0 hd
    clear hU hq0 hq1 hs hd
    obtain ⟨nm, top, hgt, lft, wid, al, bot⟩ := r
    have HR := Lib.hid hR
    have HB := Lib.hid (Blk.new w 94 #[.string nm, .int .i64 top, .int .i64 hgt, .int .i64 lft, .int .i64 wid, .int .u8 al, .bool bot])
    clear hR
    unfold Reg.val at HR hq ⊢
    unfold Reg.default at hq
    dsimp only at HR hq ⊢
    go_enter Tryz.func188, Tryz.ntmps188
    go_wp2_with fail
    refine wp_region_vals [.agg #[.string nm, .int .i64 top, .int .i64 hgt, .int .i64 lft, .int .i64 wid, .int .u8 al, .bool bot], .int .i64 E, .bool false, .bool false, .agg #[.string nm, .int .i64 top, .int .i64 hgt, .int .i64 lft, .int .i64 wid, .int .u8 al, .bool bot], .agg #[.string ByteArray.empty, .int .i64 11, .int .i64 4, .int .i64 0, .int .i64 32, .int .u8 2, .bool true], .bool false, .bool false, .bool false] [(3, .agg #[.string nm, .int .i64 top, .int .i64 hgt, .int .i64 lft, .int .i64 wid, .int .u8 al, .bool bot]), (4, .int .i64 E), (5, .bool false), (6, .bool false), (7, .agg #[.string nm, .int .i64 top, .int .i64 hgt, .int .i64 lft, .int .i64 wid, .int .u8 al, .bool bot]), (8, .agg #[.string ByteArray.empty, .int .i64 11, .int .i64 4, .int .i64 0, .int .i64 32, .int .u8 2, .bool true]), (9, .bool false), (10, .bool false), (2, .bool false)] (by kernel_rfl) (by kernel_rfl) (by kernel_rfl) rfl rfl ?_ ?_
    · intro i o ho a w' K' hx hn hd hk
      match i, ho with
      | 0, ho =>
        simp only [List.getElem?_toArray, List.getElem?_cons_zero, List.getElem?_cons_succ, Option.some.injEq] at ho
        subst ho
        refine want_none rfl ?_
        exact wp_loadB 94 (.tmp 1) rfl _ 94 _ _ ((hn 1 rfl).trans (show _ = Value.pointer (some ⟨w.heap.size, 0, none⟩) from rfl)) (HB.out.ext hx) Tryz.underlying94 rfl (by exact info_reg) (hk _ rfl w' (Ext.refl _))
      | 1, ho =>
        simp only [List.getElem?_toArray, List.getElem?_cons_zero, List.getElem?_cons_succ, Option.some.injEq] at ho
        subst ho
        refine want_none rfl ?_
        exact wp_call1s rfl (eval_of (hd 0 3 (.agg #[.string nm, .int .i64 top, .int .i64 hgt, .int .i64 lft, .int .i64 wid, .int .u8 al, .bool bot]) rfl rfl rfl)) Tryz.call146 (HR.out w') (hk _ rfl)
      | 2, ho =>
        simp only [List.getElem?_toArray, List.getElem?_cons_zero, List.getElem?_cons_succ, Option.some.injEq] at ho
        subst ho
        refine want_none rfl ?_
        exact wp_bin rfl (eval_of (hd 1 4 (.int .i64 E) rfl rfl rfl)) rfl (by first | (go_simp; done) | simp | (simp; omega)) (hk _ rfl w' (Ext.refl _))
      | 3, ho =>
        simp only [List.getElem?_toArray, List.getElem?_cons_zero, List.getElem?_cons_succ, Option.some.injEq] at ho
        subst ho
        refine want_none rfl ?_
        exact wp_move _ _ rfl (eval_of (hd 2 5 (.bool false) rfl rfl rfl)) (hk _ rfl w' (Ext.refl _))
      | 4, ho =>
        simp only [List.getElem?_toArray, List.getElem?_cons_zero, List.getElem?_cons_succ, Option.some.injEq] at ho
        subst ho
        refine want_yes rfl rfl (hd 3 6 (.bool false) rfl rfl rfl) rfl ?_
        exact wp_loadB 94 (.tmp 1) rfl _ 94 _ _ ((hn 1 rfl).trans (show _ = Value.pointer (some ⟨w.heap.size, 0, none⟩) from rfl)) (HB.out.ext hx) Tryz.underlying94 rfl (by exact info_reg) (hk _ rfl w' (Ext.refl _))
      | 5, ho =>
        simp only [List.getElem?_toArray, List.getElem?_cons_zero, List.getElem?_cons_succ, Option.some.injEq] at ho
        subst ho
        refine want_yes rfl rfl (hd 3 6 (.bool false) rfl rfl rfl) rfl ?_
        exact wp_call0 rfl  Tryz.call186 (R10Default_any w') (hk _ rfl)
      | 6, ho =>
        simp only [List.getElem?_toArray, List.getElem?_cons_zero, List.getElem?_cons_succ, Option.some.injEq] at ho
        subst ho
        refine want_yes rfl rfl (hd 3 6 (.bool false) rfl rfl rfl) rfl ?_
        exact wp_bin rfl (eval_of (hd 4 7 (.agg #[.string nm, .int .i64 top, .int .i64 hgt, .int .i64 lft, .int .i64 wid, .int .u8 al, .bool bot]) rfl rfl rfl)) (eval_of (hd 5 8 (.agg #[.string ByteArray.empty, .int .i64 11, .int .i64 4, .int .i64 0, .int .i64 32, .int .u8 2, .bool true]) rfl rfl rfl)) (by first | (go_simp; done) | (go_simp; exact hq w') | (go_simp; simp [hq]; done) | go_simp) (hk _ rfl w' (Ext.refl _))
      | 7, ho =>
        simp only [List.getElem?_toArray, List.getElem?_cons_zero, List.getElem?_cons_succ, Option.some.injEq] at ho
        subst ho
        refine want_none rfl ?_
        exact wp_pick _ _ _ false _ rfl (eval_of (hd 3 6 (.bool false) rfl rfl rfl)) (by exact (eval_of (hd 6 9 (.bool false) rfl rfl rfl))) (hk _ rfl w' (Ext.refl _))
      | 8, ho =>
        simp only [List.getElem?_toArray, List.getElem?_cons_zero, List.getElem?_cons_succ, Option.some.injEq] at ho
        subst ho
        refine want_none rfl ?_
        exact wp_assignx _ _ rfl (eval_of (hd 7 10 (.bool false) rfl rfl rfl)) (hk _ rfl w' (Ext.refl _))
      | i + 9, ho => simp at ho
    intro w9 hx9
    simp only [Act.put, List.foldl_cons, List.foldl_nil, List.setIfInBounds_toArray, List.set_cons_zero, List.set_cons_succ]
    go_wp2_with fail
    go_ret
    exact ⟨by rw [HU.out]; rfl, ((Ext.refl w).alloc _).trans hx9⟩

theorem R10find_ret {w' : World} {g : Nat} {r : Reg} {b : Bool} {tmps : Array Value} (hB : Blk w' g 94 #[.string r.name, .int .i64 r.top, .int .i64 r.height, .int .i64 r.left, .int .i64 r.width, .int .u8 r.align, .bool r.bottom])
    (h4 : tmps.getD 4 undef = .pointer (some ⟨g, 0, none⟩)) (h5 : tmps.getD 5 undef = .bool b) : (results Tryz.f148 tmps).run Tryz.prog w' = .ok (.tuple #[r.val, .bool b]) w' := by
  rw [results_B_tmp (P := Tryz.prog) Tryz.results148 h4 hB Tryz.underlying94 rfl info_reg, h5]
  rfl

set_option maxHeartbeats 1000000 in
theorem R10Find_any (A : Option Addr) (n c : Nat) (l : List Reg) (nm : ByteArray) (w : World) (hl : RegsAt w A n l) (hn : n ≤ 9223372036854775807) :
    Calls Tryz.prog 148 #[.slice A n c, .string nm] w fun e w' => e = .returned (.tuple #[((findR l nm).getD Reg.zero).val, .bool (findR l nm).isSome]) ∧ Ext w w' := by
  by_cases h0 : nm.toList = []
  · have HF : Hid (findR l nm = some Reg.default) := by show findR l nm = _; unfold findR; rw [if_pos h0]
    have h0' : nm.toList.isEmpty = true := by rw [h0]; rfl
    clear h0
    go_enter Tryz.func148, Tryz.ntmps148
    go_wp2_with fail
    refine (R10Default_any _).mono ?_
    rintro e w1 ⟨rfl, hx1⟩
    unfold Reg.val Reg.default
    dsimp only
    have hB := Lib.hid (Blk.ext (Blk.new w _ _) hx1)
    go_wp2_with (refine wpList_storeB rfl 94 (.tmp 4) (.tmp 10) rfl w.heap.size 94 _ _ (by exact rfl) (by exact rfl) hB.out (by exact rfl) (by exact info_reg) (by simp [Value.oneCell']) ?_)
    refine bodyPost_ret (v := .tuple #[Reg.default.val, .bool true]) ?_ rfl ⟨?_, ?_⟩
    · exact R10find_ret (r := Reg.default) (hB.out.put _) rfl rfl
    · rw [HF.out]; rfl
    · exact (((Ext.refl w).alloc _).trans hx1).put (Nat.le_refl _) _ _
  · have HF : Hid (findR l nm = l.find? (fun r => r.name.toList == nm.toList)) := by show findR l nm = _; unfold findR; rw [if_neg h0]
    have h0' : nm.toList.isEmpty = false := by cases h : nm.toList with
      | nil => exact absurd h h0
      | cons a b => rfl
    clear h0
    have HL := Lib.hid hl
    clear hl
    go_enter Tryz.func148, Tryz.ntmps148
    go_wp2_with fail
    go_loopw [13] (fun i wr => FindRel w A n l nm i wr) (fun i _ => n - (intOf i).toNat)
    case atStart => exact ⟨0, Nat.zero_le _, rfl, Ext.refl _, rfl⟩
    case round =>
      obtain ⟨k, hk, rfl, hx, hp⟩ := hrel
      have HP := Lib.hid hp
      clear hp
      have hB := Lib.hid (Blk.ext (Blk.new w _ _) hx)
      have hxw : Ext w wr := ((Ext.refl w).alloc _).trans hx
      by_cases hlt : k < n
      · obtain ⟨b, off, r, rfl, hr, hC⟩ := (HL.out.ext hxw).at_ hlt
        have HR := Lib.hid hr
        clear hr
        obtain ⟨c0, c1, c2, c3, c4, c5, c6⟩ := hC
        have hdrop : Hid (l.drop k = r :: l.drop (k + 1)) := by
          show l.drop k = _
          have hkl := (List.getElem?_eq_some_iff.1 HR.out).1
          rw [List.drop_eq_getElem_cons hkl]
          congr 1
          exact (List.getElem?_eq_some_iff.1 HR.out).2
        by_cases hq : (r.name.toList == nm.toList) = true
        · go_wp2_with (refine wpList_storeB rfl 94 (.tmp 4) (.tmp 21) rfl w.heap.size 94 _ _ (by exact rfl) (by exact rfl) (hB.out.alloc _) (by exact rfl) (by exact info_reg) (by simp [Value.oneCell']) ?_)
          refine bodyPost_ret (v := .tuple #[r.val, .bool true]) ?_ rfl ⟨?_, ?_⟩
          · exact R10find_ret (r := r) ((hB.out.alloc _).put _) rfl rfl
          · rw [HF.out, HP.out, hdrop.out, List.find?_cons, hq]; rfl
          · exact (hxw.alloc _).put (Nat.le_refl _) _ _
        · have hq' : (r.name.toList == nm.toList) = false := by simpa using hq
          clear hq
          go_wp2_with fail
          refine ⟨⟨k + 1, by omega, by go_num, hx.alloc _, ?_⟩, by simp [intOf]; omega⟩
          rw [HP.out, hdrop.out, List.find?_cons, hq']
      · have hend : Hid (l.drop k = []) := List.drop_eq_nil_of_le (by rw [HL.out.len]; omega)
        go_wp2_with (refine wpList_storeB rfl 94 (.tmp 4) (.tmp 23) rfl w.heap.size 94 _ _ (by exact rfl) (by exact rfl) hB.out (by exact rfl) (by exact info_reg) (by simp [Value.oneCell']) ?_)
        refine bodyPost_ret (v := .tuple #[Reg.zero.val, .bool false]) ?_ rfl ⟨?_, ?_⟩
        · exact R10find_ret (r := Reg.zero) (hB.out.put _) rfl rfl
        · rw [HF.out, HP.out, hend.out]; rfl
        · exact hxw.put (Nat.le_refl _) _ _

set_option maxRecDepth 100000 in
set_option maxHeartbeats 4000000 in
theorem R10CheckList_any (A : Option Addr) (n c : Nat) (l : List Reg) (w : World) (hl : RegsAt w A n l) (hn : n ≤ 9223372036854775807) (hs : RegsSmall l) :
    Calls Tryz.prog 100 #[.slice A n c] w fun en w' => en = .returned (.int .i64 (regsErr l)) ∧ Ext w w' := by
  have HL := Lib.hid hl
  have HLn := Lib.hid hl.len
  have HSm := Lib.hid hs
  have HF : Hid (regsErr l = if 16 < l.length then 9 else regsLoop none l) := rfl
  rw [hl.len] at HF
  clear hl hs
  by_cases h16 : 16 < n
  · have h16i : (16 : Int) < (n : Int) := by omega
    go_enter Tryz.func100, Tryz.ntmps100
    go_wp2_with fail
    go_ret
    exact ⟨ret_int (by rw [HF.out, if_pos h16]), Ext.refl _⟩
  have h16i : ¬ (16 : Int) < (n : Int) := by omega
  have HG := Lib.hid (HF.out.trans (if_neg h16))
  go_enter Tryz.func100, Tryz.ntmps100
  go_wp2_with fail
  go_loopw [11] (fun i wr => ListRel w n l i wr) (fun i _ => n - (intOf i).toNat)
  case atStart => exact ⟨0, Nat.zero_le _, rfl, Ext.refl _, by simp [prevN]⟩
  case round =>
    obtain ⟨k, hk, rfl, hx, hP⟩ := hrel
    have HXr := Lib.hid hx
    by_cases hlt : k < n
    · obtain ⟨b, off, r, rfl, hr, c0, c1, c2, c3, c4, c5, c6⟩ := (HL.out.ext hx).at_ hlt
      have HS := Lib.hid (regs_step hr hP)
      have HPv := Lib.hid (fun h0 => prev_reg (HL.out.ext hx) (k := k) hk h0)
      have HCk := Lib.hid (fun w' => R10Check_any r w' (HSm.out r (List.mem_of_getElem? hr)))
      clear hr hP
      have HBc := Lib.hid (Blk.new wr 94 #[.string r.name, .int .i64 r.top, .int .i64 r.height, .int .i64 r.left, .int .i64 r.width, .int .u8 r.align, .bool r.bottom])
      have HXc := Lib.hid ((Ext.refl wr).alloc (.cells #[.string r.name, .int .i64 r.top, .int .i64 r.height, .int .i64 r.left, .int .i64 r.width, .int .u8 r.align, .bool r.bottom] 94))
      unfold Reg.val at HCk
      go_wp2_with (refine wpList_loadB rfl 94 (.tmp 4) rfl wr.heap.size 94 _ _ (by exact rfl) (by exact HBc.out) Tryz.underlying94 rfl (by exact info_reg) ?_)
      refine (HCk.out _).mono ?_
      rintro en w2 ⟨rfl, hx2⟩
      have HX2 := Lib.hid (HXc.out.trans hx2)
      have HB2 := Lib.hid (HBc.out.ext hx2)
      have hcb := fun o => HB2.out.cell o
      clear hx2 c0 c1 c2 c3 c4 c5 c6 HBc HXc
      by_cases hce : r.check = 0
      case neg =>
        have hne : (r.check != 0) = true := by simpa using hce
        have HC := Lib.hid hce
        clear hce
        go_wp2_with fail
        go_ret
        exact ⟨ret_int (by rw [HG.out, HS.out.1 HC.out]), hx.trans HX2.out⟩
      rw [hce]
      have HC := Lib.hid hce
      clear hce
      by_cases hk0 : k = 0
      · subst hk0
        have HN := Lib.hid (HS.out.2.2.2 HC.out (by simp [prevN]) (by simp [prevN]))
        go_wp2_with fail
        go_quiet (fail)
        go_wp2_with fail
        go_quiet (fail)
        go_wp2_with fail
        exact ⟨⟨1, by omega, by go_num, (hx.trans HX2.out).drewN _, HN.out⟩, by simp [intOf]; omega⟩
      obtain ⟨b', off', q, hA, p0, hq⟩ := HPv.out (by omega)
      cases hA
      have hki : (0 : Int) < (k : Int) := by omega
      have hkp : 0 < k := by omega
      have hk1 : ((k : Int) - 1).toNat = k - 1 := by omega
      have hk2 : (k : Int) - 1 = ((k - 1 : Nat) : Int) := by omega
      have pp0 := HX2.out.cell p0
      have HQ := Lib.hid hq
      clear p0 hq
      by_cases he : q = r.name
      · have he' : (r.name.toList == q.toList) = true := by rw [toList_eq_iff]; simpa using he.symm
        have HE := Lib.hid (HS.out.2.1 HC.out (by rw [HQ.out, he]))
        clear he
        go_wp2_with fail
        go_quiet (fail)
        go_wp2_with fail
        go_ret
        exact ⟨ret_int (by rw [HG.out, HE.out]), (hx.trans HX2.out).drewN _⟩
      have he' : (r.name.toList == q.toList) = false := by rw [toList_eq_iff]; simpa using fun h => he h.symm
      have HNe : Hid (prevN l k ≠ some r.name) := by show _ ≠ _; rw [HQ.out]; simpa using he
      clear he
      cases hl2 : Op.bytesLess r.name.toList q.toList
      case true =>
        have HE := Lib.hid (HS.out.2.2.1 HC.out HNe.out (by rw [HQ.out]; simp [hl2]))
        go_wp2_with fail
        go_quiet (fail)
        go_wp2_with fail
        go_quiet (fail)
        go_wp2_with fail
        go_ret
        exact ⟨ret_int (by rw [HG.out, HE.out]), ((hx.trans HX2.out).drewN _).drewN _⟩
      case false =>
        have HE := Lib.hid (HS.out.2.2.2 HC.out HNe.out (by rw [HQ.out]; simp [hl2]))
        go_wp2_with fail
        go_quiet (fail)
        go_wp2_with fail
        go_quiet (fail)
        go_wp2_with fail
        exact ⟨⟨k + 1, by omega, by go_num, (hx.trans HX2.out).drewN _, HE.out⟩, by simp [intOf]; omega⟩
    · have hkn : k = n := by omega
      subst hkn
      have HE := Lib.hid (hP.trans (by rw [List.drop_eq_nil_of_le (by have := HLn.out; omega)]; rfl) : regsLoop none l = 0)
      clear hP
      go_wp2_with fail
      go_ret
      exact ⟨ret_int (by rw [HG.out, HE.out]), hx⟩
end Go.Proofs.YtagfedbdakmlgaaGreatDoor
