/- Laid together: The walk of the law package's awake: the chapter's example. A region that draws its order, by an invariant: each operation is met once, whatever came ahead of it. The walks of event.Split and of the reference's Split: the errors. What a join of two events comes to; appends of rows, at a step of a region that draws its order. -/
import Derived.Test.YtagfedbdakmlgaaGreatDoorIn14
import Derived.Test.YtagfedbdakmlgaaGreatDoorIn15
import Derived.Test.YtagfedbdakmlgaaGreatDoorIn11
import Derived.Test.YtagfedbdakmlgaaGreatDoorIn05
import Derived.Test.YtagfedbdakmlgaaGreatDoorIn04
import Derived.Deep.AppendLies

/-! Awake12 -/
namespace Go.Proofs.YtagfedbdakmlgaaGreatDoor
set_option linter.unusedVariables false
set_option linter.unusedSimpArgs false
open Go.RowKit
def a12r : Run := ⟨⟨#[83, 101, 101, 32, 121, 111, 117, 32, 115, 111, 111, 110]⟩, 0, false, false, ⟨#[]⟩⟩
def a12e : Ev := ⟨0, 0, 9, ⟨#[]⟩, 1, ⟨#[]⟩, [[a12r]]⟩
def a12d : Doc := ⟨⟨#[]⟩, ⟨#[]⟩, 3, false, 0, [], [], []⟩
def a12d2 : Doc := ⟨⟨#[]⟩, ⟨#[]⟩, 3, false, 4, [], [], []⟩
def a12c : Com := ⟨0, 0, 4, 7, ⟨#[]⟩, ⟨#[]⟩, false, false⟩
theorem a12_new : newX 3 false = (a12d, 0) := by kernel_rfl
theorem a12_err : a12d2.insErr a12e = 0 := by kernel_rfl
theorem a12_ins : a12d2.insX a12e = (a12d2.insD a12e, 5, 0) := by unfold Doc.insX; rw [a12_err]; rfl
theorem a12_f1 : a12c.fol (runes ⟨#[83, 101, 101, 32, 121, 111, 117, 32, 115, 111, 111, 110]⟩ 0) (runes ⟨#[83, 101, 101, 32, 97, 108, 108, 32, 111, 102, 32, 121, 111, 117, 32, 115, 111, 111, 110]⟩ 0) = ⟨0, 0, 11, 14, ⟨#[]⟩, ⟨#[]⟩, false, false⟩ := by kernel_rfl
theorem a12_f2 : a12c.fol (runes ⟨#[83, 101, 101, 32, 121, 111, 117, 32, 115, 111, 111, 110]⟩ 0) (runes ⟨#[83, 101, 101, 32, 115, 111, 111, 110]⟩ 0) = ⟨0, 0, 0, 0, ⟨#[]⟩, ⟨#[]⟩, false, true⟩ := by kernel_rfl
theorem a12_f3 : a12c.fol (runes ⟨#[83, 101, 101, 32, 121, 111, 117, 32, 115, 111, 111, 110]⟩ 0) (runes ⟨#[83, 101, 101, 32, 121, 111, 117, 114, 32, 100, 111, 103, 32, 115, 111, 111, 110]⟩ 0) = ⟨0, 0, 4, 7, ⟨#[]⟩, ⟨#[]⟩, false, false⟩ := by kernel_rfl
theorem a12_small : EvSmall a12e := by
  refine ⟨by decide, by decide, fun r hr => ?_⟩
  simp only [a12e, List.mem_cons, List.not_mem_nil, or_false] at hr
  subst hr
  refine ⟨by decide, fun x hx => ?_⟩
  simp only [List.mem_singleton] at hx
  subst hx
  exact ⟨by decide, by decide⟩
theorem a12_fit : DocFit a12d2 := ⟨⟨by decide, by decide, by decide, by decide⟩, (fun r hr => by cases hr), (fun e he => by cases he), (fun e he => by cases he), (fun c hc => by cases hc)⟩
theorem a12_at {w : World} {h : DocH} (k : DocAt w a12d h) : DocAt w a12d2 h := ⟨k.regs, k.evs, k.coms⟩
set_option maxRecDepth 100000 in
set_option maxHeartbeats 8000000 in
theorem awake12_any (w : World) (hE : Env w) : Calls Tryz.prog 29 #[] w fun en w' => en = .returned (.bool true) ∧ Ext w w' := by
  have HEn := Lib.hid hE
  have HNw := Lib.hid (fun w' => DNew_any 3 false w' (by decide) (by decide))
  have HF1 := Lib.hid (fun w' => DFollow_any a12c ⟨#[83, 101, 101, 32, 121, 111, 117, 32, 115, 111, 111, 110]⟩ ⟨#[83, 101, 101, 32, 97, 108, 108, 32, 111, 102, 32, 121, 111, 117, 32, 115, 111, 111, 110]⟩ w' (by decide) (by decide))
  have HF2 := Lib.hid (fun w' => DFollow_any a12c ⟨#[83, 101, 101, 32, 121, 111, 117, 32, 115, 111, 111, 110]⟩ ⟨#[83, 101, 101, 32, 115, 111, 111, 110]⟩ w' (by decide) (by decide))
  have HF3 := Lib.hid (fun w' => DFollow_any a12c ⟨#[83, 101, 101, 32, 121, 111, 117, 32, 115, 111, 111, 110]⟩ ⟨#[83, 101, 101, 32, 121, 111, 117, 114, 32, 100, 111, 103, 32, 115, 111, 111, 110]⟩ w' (by decide) (by decide))
  rw [a12_f1] at HF1
  rw [a12_f2] at HF2
  rw [a12_f3] at HF3
  rw [a12_new] at HNw
  unfold Com.vals a12c at HF1 HF2 HF3
  unfold DEPost at HNw
  clear hE
  go_enter Tryz.func29, Tryz.ntmps29
  go_wp2_with fail
  refine (HNw.out _).mono ?_
  rintro en w1 ⟨⟨ra, rn, rc, ea, en1, ec, ca, cn, cc⟩, rfl, ho1, hx1⟩
  have HO1 := Lib.hid (show DocOwn w1 w.heap.size a12d ⟨ra, rn, rc, ea, en1, ec, ca, cn, cc⟩ from ho1)
  have HX1 := Lib.hid hx1
  clear ho1 hx1 HNw
  unfold Doc.cells a12d
  dsimp only
  have hbn := Blk.new w1 27 #[.string ⟨#[]⟩, .string ⟨#[]⟩, .int .u8 3, .bool false, .int .i64 0, .slice ra rn rc, .slice ea en1 ec, .slice ca cn cc]
  have hs1 := setCell_put hbn 4 (.int .i64 4)
  have hf1 := hbn.frozen 4
  have hc1 := hbn.cell 4
  simp at hs1 hc1
  go_upto_region 3 with fail
  obtain ⟨gd, hgd⟩ : ∃ gd, gd = w1.heap.size := ⟨_, rfl⟩
  obtain ⟨W2, hW2⟩ : ∃ W2, W2 = putB (w1.alloc (.cells #[.string ⟨#[]⟩, .string ⟨#[]⟩, .int .u8 3, .bool false, .int .i64 0, .slice ra rn rc, .slice ea en1 ec, .slice ca cn cc] 27)) w1.heap.size 27 #[.string ⟨#[]⟩, .string ⟨#[]⟩, .int .u8 3, .bool false, .int .i64 4, .slice ra rn rc, .slice ea en1 ec, .slice ca cn cc] := ⟨_, rfl⟩
  rw [← hW2, ← hgd]
  have HX2 : Hid (Ext w W2) := by show Ext _ _; rw [hW2]; exact (HX1.out.alloc _).put HX1.out.size _ _
  have HB2 : Hid (Blk W2 gd 27 #[.string ⟨#[]⟩, .string ⟨#[]⟩, .int .u8 3, .bool false, .int .i64 4, .slice ra rn rc, .slice ea en1 ec, .slice ca cn cc]) := by show Blk _ _ _ _; rw [hW2, hgd]; exact hbn.put _
  have HA2 : Hid (DocAt W2 a12d ⟨ra, rn, rc, ea, en1, ec, ca, cn, cc⟩) := by
    show DocAt _ _ _
    rw [hW2]
    have ho := (HO1.out.ext ((Ext.refl w1).alloc (.cells #[.string ⟨#[]⟩, .string ⟨#[]⟩, .int .u8 3, .bool false, .int .i64 0, .slice ra rn rc, .slice ea en1 ec, .slice ca cn cc] 27))).put hbn #[.string ⟨#[]⟩, .string ⟨#[]⟩, .int .u8 3, .bool false, .int .i64 4, .slice ra rn rc, .slice ea en1 ec, .slice ca cn cc]
    exact ho.at_
  have hrl := HO1.out.rlen
  have hel := HO1.out.evs.len
  have hcl := HO1.out.clen
  clear hs1 hf1 hc1 hbn hW2 hgd HX1 HO1
  go_upto_region 4 with fail
  have HX3 : Hid (Ext w (((W2.alloc (.cells #[.string ⟨#[83, 101, 101, 32, 121, 111, 117, 32, 115, 111, 111, 110]⟩, .int .u8 0, .bool false, .bool false, .string ⟨#[]⟩] 84)).alloc (.cells #[.slice (some ⟨W2.heap.size, 0, none⟩) 1 1] 87)).alloc (.cells #[.int .i64 0, .int .i64 0, .int .i64 9, .string ⟨#[]⟩, .int .u8 1, .string ⟨#[]⟩, .slice (some ⟨W2.heap.size + 1, 0, none⟩) 1 1] 66))) := ((HX2.out.alloc _).alloc _).alloc _
  have hx23 : Ext W2 (((W2.alloc (.cells #[.string ⟨#[83, 101, 101, 32, 121, 111, 117, 32, 115, 111, 111, 110]⟩, .int .u8 0, .bool false, .bool false, .string ⟨#[]⟩] 84)).alloc (.cells #[.slice (some ⟨W2.heap.size, 0, none⟩) 1 1] 87)).alloc (.cells #[.int .i64 0, .int .i64 0, .int .i64 9, .string ⟨#[]⟩, .int .u8 1, .string ⟨#[]⟩, .slice (some ⟨W2.heap.size + 1, 0, none⟩) 1 1] 66)) := (((Ext.refl W2).alloc _).alloc _).alloc _
  have HR3 : Hid (Blk (((W2.alloc (.cells #[.string ⟨#[83, 101, 101, 32, 121, 111, 117, 32, 115, 111, 111, 110]⟩, .int .u8 0, .bool false, .bool false, .string ⟨#[]⟩] 84)).alloc (.cells #[.slice (some ⟨W2.heap.size, 0, none⟩) 1 1] 87)).alloc (.cells #[.int .i64 0, .int .i64 0, .int .i64 9, .string ⟨#[]⟩, .int .u8 1, .string ⟨#[]⟩, .slice (some ⟨W2.heap.size + 1, 0, none⟩) 1 1] 66)) (W2.heap.size) 84 #[.string ⟨#[83, 101, 101, 32, 121, 111, 117, 32, 115, 111, 111, 110]⟩, .int .u8 0, .bool false, .bool false, .string ⟨#[]⟩]) := ((Blk.new W2 _ _).alloc _).alloc _
  have HW3 : Hid (Blk (((W2.alloc (.cells #[.string ⟨#[83, 101, 101, 32, 121, 111, 117, 32, 115, 111, 111, 110]⟩, .int .u8 0, .bool false, .bool false, .string ⟨#[]⟩] 84)).alloc (.cells #[.slice (some ⟨W2.heap.size, 0, none⟩) 1 1] 87)).alloc (.cells #[.int .i64 0, .int .i64 0, .int .i64 9, .string ⟨#[]⟩, .int .u8 1, .string ⟨#[]⟩, .slice (some ⟨W2.heap.size + 1, 0, none⟩) 1 1] 66)) (W2.heap.size + 1) 87 #[.slice (some ⟨W2.heap.size, 0, none⟩) 1 1]) := (Blk.new' (by simp)).alloc _
  have HV3 : Hid (Blk (((W2.alloc (.cells #[.string ⟨#[83, 101, 101, 32, 121, 111, 117, 32, 115, 111, 111, 110]⟩, .int .u8 0, .bool false, .bool false, .string ⟨#[]⟩] 84)).alloc (.cells #[.slice (some ⟨W2.heap.size, 0, none⟩) 1 1] 87)).alloc (.cells #[.int .i64 0, .int .i64 0, .int .i64 9, .string ⟨#[]⟩, .int .u8 1, .string ⟨#[]⟩, .slice (some ⟨W2.heap.size + 1, 0, none⟩) 1 1] 66)) (W2.heap.size + 1 + 1) 66 #[.int .i64 0, .int .i64 0, .int .i64 9, .string ⟨#[]⟩, .int .u8 1, .string ⟨#[]⟩, .slice (some ⟨W2.heap.size + 1, 0, none⟩) 1 1]) := Blk.new' (by simp)
  have HB3 := Lib.hid (HB2.out.ext hx23)
  have HA3 := Lib.hid (HA2.out.ext hx23)
  obtain ⟨gr, hgr⟩ : ∃ gr, gr = W2.heap.size := ⟨_, rfl⟩
  rw [← hgr] at HR3 HW3 HV3 HX3 HB3 HA3 hx23 ⊢
  generalize hWg : (((W2.alloc (.cells #[.string ⟨#[83, 101, 101, 32, 121, 111, 117, 32, 115, 111, 111, 110]⟩, .int .u8 0, .bool false, .bool false, .string ⟨#[]⟩] 84)).alloc (.cells #[.slice (some ⟨gr, 0, none⟩) 1 1] 87)).alloc (.cells #[.int .i64 0, .int .i64 0, .int .i64 9, .string ⟨#[]⟩, .int .u8 1, .string ⟨#[]⟩, .slice (some ⟨gr + 1, 0, none⟩) 1 1] 66)) = W3 at *
  clear hWg HX2 HB2 HA2 hx23 hgr
  have hev : EvAt W3 a12e (some ⟨gr + 1, 0, none⟩) 1 1 := ⟨sl_1 ⟨some ⟨gr, 0, none⟩, 1, 1, HW3.out.cell 0, Nat.le_refl _, by decide, sl_1 ⟨HR3.out.cell 0, HR3.out.cell 1, HR3.out.cell 2, HR3.out.cell 3, HR3.out.cell 4⟩⟩, Nat.le_refl _, by decide⟩
  have HIn := Lib.hid (fun w' (hx : Ext W3 w') => DInsert_any a12d2 ⟨ra, rn, rc, ea, en1, ec, ca, cn, cc⟩ a12e (some ⟨gr + 1, 0, none⟩) 1 1 w' (HEn.out.ext (HX3.out.trans hx)) (a12_at (HA3.out.ext hx)) a12_fit (by simp [a12d] at hrl; simp only; omega) (by simp [a12d] at hrl; simp only; omega) (by simp [a12d] at hel; simp only; omega) (by simp [a12d] at hcl; simp only; omega) (hev.ext hx) a12_small)
  rw [a12_ins] at HIn
  unfold DIEPost Doc.cells Ev.cells a12d2 a12e at HIn
  dsimp only at HIn
  clear hev hrl hel hcl HR3 HW3 HA3
  go_wp2_with (first | (refine wpList_loadB rfl 27 (.tmp 1) rfl gd 27 _ _ (by exact rfl) (by exact HB3.out) Tryz.underlying27 rfl (by exact size_docI) ?_) | (refine wpList_loadB rfl 66 (.tmp 3) rfl (gr + 1 + 1) 66 _ _ (by exact rfl) (by exact HV3.out) Tryz.underlying66 rfl (by exact size_event) ?_))
  refine (HIn.out _ (Ext.refl _)).mono ?_
  rintro en w4 ⟨⟨ra2, rn2, rc2, ea2, en2, ec2, ca2, cn2, cc2⟩, rfl, -, hx4⟩
  dsimp only
  have HX4 := Lib.hid (HX3.out.trans hx4)
  clear hx4 HIn HX3 HB3 HV3
  generalize (Doc.insD _ _).title = dt1
  generalize (Doc.insD _ _).lang = dt2
  generalize (Doc.insD _ _).rate = dt3
  generalize (Doc.insD _ _).drop = dt4
  generalize (Doc.insD _ _).last = dt5
  have HX5 : Hid (Ext w ((w4.alloc (.cells #[.string dt1, .string dt2, .int .u8 dt3, .bool dt4, .int .i64 dt5, .slice ra2 rn2 rc2, .slice ea2 en2 ec2, .slice ca2 cn2 cc2] 27)).alloc (.cells #[.int .i64 0, .int .i64 0, .int .i64 4, .int .i64 7, .string ⟨#[]⟩, .string ⟨#[]⟩, .bool false, .bool false] 78))) := (HX4.out.alloc _).alloc _
  have HB5 : Hid (Blk ((w4.alloc (.cells #[.string dt1, .string dt2, .int .u8 dt3, .bool dt4, .int .i64 dt5, .slice ra2 rn2 rc2, .slice ea2 en2 ec2, .slice ca2 cn2 cc2] 27)).alloc (.cells #[.int .i64 0, .int .i64 0, .int .i64 4, .int .i64 7, .string ⟨#[]⟩, .string ⟨#[]⟩, .bool false, .bool false] 78)) (w4.heap.size + 1) 78 #[.int .i64 0, .int .i64 0, .int .i64 4, .int .i64 7, .string ⟨#[]⟩, .string ⟨#[]⟩, .bool false, .bool false]) := Blk.new' (by simp)
  go_upto_region 6 with fail
  obtain ⟨gc, hgc⟩ : ∃ gc, gc = w4.heap.size + 1 := ⟨_, rfl⟩
  rw [← hgc] at HB5 ⊢
  generalize hWg : ((w4.alloc (.cells #[.string dt1, .string dt2, .int .u8 dt3, .bool dt4, .int .i64 dt5, .slice ra2 rn2 rc2, .slice ea2 en2 ec2, .slice ca2 cn2 cc2] 27)).alloc (.cells #[.int .i64 0, .int .i64 0, .int .i64 4, .int .i64 7, .string ⟨#[]⟩, .string ⟨#[]⟩, .bool false, .bool false] 78)) = W5 at *
  clear hWg HX4 hgc
  go_wp2_with (refine wpList_loadB rfl 78 (.tmp 7) rfl gc 78 _ _ (by exact rfl) (by exact HB5.out) Tryz.underlying78 rfl (by exact size_comI) ?_)
  refine (HF1.out _).mono ?_
  rintro en w_1 ⟨rfl, hx_2⟩
  have HX_3 := Lib.hid (HX5.out.trans hx_2)
  have HB_4 := Lib.hid (HB5.out.ext hx_2)
  clear hx_2 HX5 HB5
  have HB_5 := Lib.hid (Blk.new w_1 78 #[.int .i64 0, .int .i64 0, .int .i64 11, .int .i64 14, .string ⟨#[]⟩, .string ⟨#[]⟩, .bool false, .bool false])
  have ha_6 := (Ext.refl w_1).alloc (.cells #[.int .i64 0, .int .i64 0, .int .i64 11, .int .i64 14, .string ⟨#[]⟩, .string ⟨#[]⟩, .bool false, .bool false] 78)
  have HX_7 := Lib.hid (HX_3.out.trans ha_6)
  have HB_8 := Lib.hid (HB_4.out.ext ha_6)
  clear ha_6 HX_3 HB_4
  go_wp2_with (refine wpList_loadB rfl 78 (.tmp 7) rfl gc 78 _ _ (by exact rfl) (by exact HB_8.out) Tryz.underlying78 rfl (by exact size_comI) ?_)
  refine (HF2.out _).mono ?_
  rintro en w_9 ⟨rfl, hx_10⟩
  have HX_11 := Lib.hid (HX_7.out.trans hx_10)
  have HB_12 := Lib.hid (HB_8.out.ext hx_10)
  have HB_13 := Lib.hid (HB_5.out.ext hx_10)
  clear hx_10 HX_7 HB_8 HB_5
  have HB_14 := Lib.hid (Blk.new w_9 78 #[.int .i64 0, .int .i64 0, .int .i64 0, .int .i64 0, .string ⟨#[]⟩, .string ⟨#[]⟩, .bool false, .bool true])
  have ha_15 := (Ext.refl w_9).alloc (.cells #[.int .i64 0, .int .i64 0, .int .i64 0, .int .i64 0, .string ⟨#[]⟩, .string ⟨#[]⟩, .bool false, .bool true] 78)
  have HX_16 := Lib.hid (HX_11.out.trans ha_15)
  have HB_17 := Lib.hid (HB_12.out.ext ha_15)
  have HB_18 := Lib.hid (HB_13.out.ext ha_15)
  clear ha_15 HX_11 HB_12 HB_13
  go_wp2_with (refine wpList_loadB rfl 78 (.tmp 7) rfl gc 78 _ _ (by exact rfl) (by exact HB_17.out) Tryz.underlying78 rfl (by exact size_comI) ?_)
  refine (HF3.out _).mono ?_
  rintro en w_19 ⟨rfl, hx_20⟩
  have HX_21 := Lib.hid (HX_16.out.trans hx_20)
  have HB_22 := Lib.hid (HB_17.out.ext hx_20)
  have HB_23 := Lib.hid (HB_18.out.ext hx_20)
  have HB_24 := Lib.hid (HB_14.out.ext hx_20)
  clear hx_20 HX_16 HB_17 HB_18 HB_14
  have HB_25 := Lib.hid (Blk.new w_19 78 #[.int .i64 0, .int .i64 0, .int .i64 4, .int .i64 7, .string ⟨#[]⟩, .string ⟨#[]⟩, .bool false, .bool false])
  have ha_26 := (Ext.refl w_19).alloc (.cells #[.int .i64 0, .int .i64 0, .int .i64 4, .int .i64 7, .string ⟨#[]⟩, .string ⟨#[]⟩, .bool false, .bool false] 78)
  have HX_27 := Lib.hid (HX_21.out.trans ha_26)
  have HB_28 := Lib.hid (HB_22.out.ext ha_26)
  have HB_29 := Lib.hid (HB_23.out.ext ha_26)
  have HB_30 := Lib.hid (HB_24.out.ext ha_26)
  clear ha_26 HX_21 HB_22 HB_23 HB_24
  clear HB_28
  have hc_31 := fun o => HB_29.out.cell o
  have hc_32 := fun o => HB_30.out.cell o
  have hc_33 := fun o => HB_25.out.cell o
  go_wp2_with fail
  clear hc_31 hc_32 hc_33
  go_ret
  exact ⟨by first | rfl | simp, HX_27.out⟩
end Go.Proofs.YtagfedbdakmlgaaGreatDoor

/-! RegionInv -/
namespace Go.Proofs.YtagfedbdakmlgaaGreatDoor
set_option linter.unusedVariables false
set_option linter.unusedSimpArgs false
open Go.RowKit
/-- what the region 'a, b := Clone(e), Clone(e)' keeps, whatever has been done of it -/
def C2Inv (mk : Value → Value → Value → Value → Value → Value → Act) (e : Ev) (A : Option Addr) (n c : Nat) (W : World) (l : Array Bool) (a : Act) (w : World) : Prop :=
  l.size = 8 ∧ Ext W w ∧ ∃ v1 v2 v3 v4 va vb : Value, a = mk v1 v2 v3 v4 va vb ∧ (l.getD 0 false = true → v1 = .agg (e.cells A n c)) ∧ (l.getD 2 false = true → v3 = .agg (e.cells A n c)) ∧
    (l.getD 1 false = true → ∃ A1 c1, v2 = .agg (e.cells A1 n c1) ∧ n ≤ c1 ∧ RowsFresh w W.heap.size A1 n e.rows) ∧ (l.getD 3 false = true → ∃ A1 c1, v4 = .agg (e.cells A1 n c1) ∧ n ≤ c1 ∧ RowsFresh w W.heap.size A1 n e.rows) ∧
    (l.getD 4 false = true → ∃ g cs, va = .pointer (some ⟨g, 0, none⟩) ∧ W.heap.size ≤ g ∧ Blk w g 66 cs ∧ cs.size = 7 ∧ (l.getD 6 false = true → v2 = .agg cs)) ∧
    (l.getD 5 false = true → ∃ g cs, vb = .pointer (some ⟨g, 0, none⟩) ∧ W.heap.size ≤ g ∧ Blk w g 66 cs ∧ cs.size = 7 ∧ (l.getD 7 false = true → v4 = .agg cs)) ∧
    (l.getD 4 false = true → l.getD 5 false = true → va ≠ vb) ∧ (l.getD 6 false = true → l.getD 1 false = true) ∧ (l.getD 7 false = true → l.getD 3 false = true) ∧ (l.getD 6 false = true → l.getD 4 false = true) ∧ (l.getD 7 false = true → l.getD 5 false = true)
/-- a frame with six slots written -/
def put6 (a : Act) (x1 x2 x3 x4 sa sb : Nat) (v1 v2 v3 v4 va vb : Value) : Act :=
  { a with tmps := (((((a.tmps.setIfInBounds x1 v1).setIfInBounds x2 v2).setIfInBounds x3 v3).setIfInBounds x4 v4).setIfInBounds sa va).setIfInBounds sb vb }
end Go.Proofs.YtagfedbdakmlgaaGreatDoor

/-! Split -/
namespace Go.Proofs.YtagfedbdakmlgaaGreatDoor
set_option linter.unusedVariables false
set_option linter.unusedSimpArgs false
open Go.RowKit
/-- the error of a split -/
def Ev.splitErr (e : Ev) (frame : Int) (row : Int) (id : Int) : Int :=
  if row < 1 ∨ (e.rows.length : Int) ≤ row then 1
  else if frame ≤ e.inn ∨ e.out ≤ frame ∨ id < 1 ∨ 1099511627776 < id then 2
  else if id = e.id then 7 else 0
def Ev.left (e : Ev) (frame : Int) (row : Nat) : Ev := { e with out := frame, rows := e.rows.take row }
def Ev.right (e : Ev) (frame : Int) (row : Nat) (id : Int) : Ev := { e with id := id, inn := frame, rows := e.rows.drop row }
def Ev.zero : Ev := ⟨0, 0, 0, ⟨#[]⟩, 0, ⟨#[]⟩, []⟩
def Ev.splitL (e : Ev) (frame row id : Int) : Ev := if e.splitErr frame row id = 0 then e.left frame row.toNat else Ev.zero
def Ev.splitR (e : Ev) (frame row id : Int) : Ev := if e.splitErr frame row id = 0 then e.right frame row.toNat id else Ev.zero
/-- what a split comes to -/
def SplitPost (e : Ev) (frame row id : Int) (w : World) (en : Ending) (w' : World) : Prop :=
  ∃ A1 n1 c1 A2 n2 c2, en = .returned (.tuple #[.agg ((e.splitL frame row id).cells A1 n1 c1), .agg ((e.splitR frame row id).cells A2 n2 c2), .int .i64 (e.splitErr frame row id)]) ∧
    n1 ≤ c1 ∧ n2 ≤ c2 ∧ n1 ≤ e.rows.length ∧ n2 ≤ e.rows.length ∧ RowsFresh w' w.heap.size A1 n1 (e.splitL frame row id).rows ∧ RowsFresh w' w.heap.size A2 n2 (e.splitR frame row id).rows ∧ Ext w w'
theorem RowsFresh.nil (w : World) (L c : Nat) : RowsFresh w L none 0 [] := ⟨[], Sl.nil, fun i h r a b => by simp at a, rfl, fun ad h => (by cases h), fun x hx => (by cases hx)⟩
def SplitErrs (k : Int) (w : World) (en : Ending) (w' : World) : Prop := en = .returned (.tuple #[.agg evZero, .agg evZero, .int .i64 k]) ∧ Ext w w'
theorem SplitErrs.post {e : Ev} {frame row id : Int} {w : World} {en : Ending} {w' : World} (h : SplitErrs (e.splitErr frame row id) w en w') (hk : e.splitErr frame row id ≠ 0) : SplitPost e frame row id w en w' := by
  have e1 : e.splitL frame row id = Ev.zero := if_neg hk
  have e2 : e.splitR frame row id = Ev.zero := if_neg hk
  refine ⟨none, 0, 0, none, 0, 0, ?_, Nat.le_refl _, Nat.le_refl _, Nat.zero_le _, Nat.zero_le _, ?_, ?_, h.2⟩
  · rw [e1, e2]; exact h.1
  · rw [e1]; exact RowsFresh.nil _ _ 0
  · rw [e2]; exact RowsFresh.nil _ _ 0
/-- the cases of a split that fails -/
inductive SplitBad (e : Ev) (frame row id : Int) : Int → Prop
  | low : (row < 1) → SplitBad e frame row id 1
  | high : 1 ≤ row → (e.rows.length : Int) ≤ row → SplitBad e frame row id 1
  | ahead : 1 ≤ row → row < e.rows.length → frame ≤ e.inn → SplitBad e frame row id 2
  | behind : 1 ≤ row → row < e.rows.length → e.inn < frame → e.out ≤ frame → SplitBad e frame row id 2
  | idLow : 1 ≤ row → row < e.rows.length → e.inn < frame → frame < e.out → id < 1 → SplitBad e frame row id 2
  | idHigh : 1 ≤ row → row < e.rows.length → e.inn < frame → frame < e.out → 1 ≤ id → 1099511627776 < id → SplitBad e frame row id 2
  | same : 1 ≤ row → row < e.rows.length → e.inn < frame → frame < e.out → 1 ≤ id → id ≤ 1099511627776 → id = e.id → SplitBad e frame row id 7
end Go.Proofs.YtagfedbdakmlgaaGreatDoor

/-! JoinA -/
namespace Go.Proofs.YtagfedbdakmlgaaGreatDoor
set_option linter.unusedVariables false
set_option linter.unusedSimpArgs false
open Go.RowKit
def Ev.joinErr (x y : Ev) : Int := if lessB x y = false then 8 else if 4 < x.rows.length + y.rows.length then 9 else 0
def Ev.joined (x y : Ev) : Ev := { x with inn := min x.inn y.inn, out := max x.out y.out, rows := x.rows ++ y.rows }
def Ev.join (x y : Ev) : Ev := if x.joinErr y = 0 then x.joined y else Ev.zero
def JoinPost (x y : Ev) (w : World) (en : Ending) (w' : World) : Prop :=
  ∃ A n c, en = .returned (.tuple #[.agg ((x.join y).cells A n c), .int .i64 (x.joinErr y)]) ∧ n ≤ c ∧ n ≤ 4 ∧ RowsFresh w' w.heap.size A n (x.join y).rows ∧ Ext w w'
theorem run_appendS {α : Type} {f : α → List Value} {P : Program} (w : World) (t ty : TypeId) {base : Nat} {e : TypeId} {z : Value} {size bytes : Nat} (inf : (P.info? e).map (fun i => (i.zero, i.size, i.bytes)) = some (some z, size, bytes)) (ht : P.underlying t = some (.slice e)) (hzs : z.cells.size = size) (hsz : 0 < size)
    {v : Value} {n : Nat} {xs : List Value} (hown : w.ownsRow base e size v n xs) {A : Option Addr} {m c : Nat} {l : List α} (hS : Sl w size (Cells f) A m l) (hf : ∀ x, (f x).length = size) (h1 : ∀ x, ∀ u ∈ f x, u.oneCell' = true)
    (hroom : (n + m) * bytes ≤ 140737488355328) (hmax : n + m ≤ maxLen) (hbase : base ≤ w.heap.size) :
    ∃ v' w', (Builtin.append_ #[t, t] ty #[v, .slice A m c]).run P w = .ok v' w' ∧ w'.ownsRow base e size v' (n + m) (xs ++ l.flatMap f) ∧ w.grownBy w' v.ownBlock := by
  obtain ⟨i, hi, hz0, hz1, hz2⟩ := info_parts inf
  have hlen : (l.flatMap f).length = m * size := by rw [flatMap_len f size hf, hS.len]
  cases A with
  | none =>
    have hm : m = 0 := by
      rcases Nat.eq_zero_or_pos m with h0 | h0
      · exact h0
      · obtain ⟨_, _, h, _⟩ := hS.2 h0
        cases h
    subst hm
    obtain rfl : l = [] := List.eq_nil_of_length_eq_zero hS.len
    exact ⟨v, w, run_append_of_nil (P := P) w base t ty e i size ht hi v n xs hown c, by simpa using hown, World.grownBy.refl w _⟩
  | some ad =>
    obtain ⟨v', w', hrun, h2, h3, _, h5⟩ := run_append_own_at (P := P) w base t ty e i z size bytes ht hi hz0 hz1 hz2 hzs hsz v n xs hown ad m c (l.flatMap f) hlen (fun j u hu => by
      rcases Nat.eq_zero_or_pos m with h0 | h0
      · subst h0
        obtain rfl : l = [] := List.eq_nil_of_length_eq_zero hS.len
        simp at hu
      · obtain ⟨b, off, hA, hc⟩ := hS.2 h0
        cases hA
        exact sl_news hf hS.len hc j u hu) (flatMap_one h1 l) hmax hroom hbase
    exact ⟨v', w', hrun, h2, h3⟩
theorem wp_appendS {α : Type} {f : α → List Value} {P : Program} {o : Oper} {a : Act} {w : World} {K : Act → World → Prop} {Q : Exit → Act → World → Prop} (s x : Operand) (t : TypeId)
    (ho : o.op = .call { callee := .builtin .append, args := #[s, x], argTypes := #[t, t] })
    {base : Nat} {e : TypeId} {z : Value} {size bytes : Nat} (inf : (P.info? e).map (fun i => (i.zero, i.size, i.bytes)) = some (some z, size, bytes)) (ht : P.underlying t = some (.slice e)) (hzs : z.cells.size = size) (hsz : 0 < size)
    {v : Value} {n : Nat} {xs : List Value} (hown : w.ownsRow base e size v n xs) (hs : a.eval s = v) {A : Option Addr} {m c : Nat} {l : List α} (hx : a.eval x = .slice A m c) (hS : Sl w size (Cells f) A m l) (hf : ∀ x, (f x).length = size) (h1 : ∀ x, ∀ u ∈ f x, u.oneCell' = true)
    (hroom : (n + m) * bytes ≤ 140737488355328) (hmax : n + m ≤ maxLen) (hbase : base ≤ w.heap.size)
    (h : ∀ v' w', w'.ownsRow base e size v' (n + m) (xs ++ l.flatMap f) → w.grownBy w' v.ownBlock → K (a.put o.dst v') w') : o.wp P a w K Q := by
  obtain ⟨v', w', hrun, h2, h3⟩ := run_appendS (P := P) w t o.type inf ht hzs hsz hown (c := c) hS hf h1 hroom hmax hbase
  unfold Oper.wp execOp
  simp only [ho, resolve, invoke, builtin, Sem.run_bind, Sem.run_pure, Result.andThen_ok, List.map_toArray, List.map_cons, List.map_nil, hs, hx, hrun]
  exact h v' w' h2 h3
/-- a block of another type is as it was behind an append -/
theorem Blk.grown {w w1 : World} {g : Nat} {t T : TypeId} {cs : Array Value} {row : Option Nat} (h : Blk w g t cs) (hg : w.grownBy w1 row) (hr : ∀ q, row = some q → Typed w T q) (hne : t ≠ T) : Blk w1 g t cs := by
  refine (hg.block g h.lt (fun e => ?_)).trans h
  exact Typed.ne h.typed (hr g e.symm) hne rfl
end Go.Proofs.YtagfedbdakmlgaaGreatDoor
