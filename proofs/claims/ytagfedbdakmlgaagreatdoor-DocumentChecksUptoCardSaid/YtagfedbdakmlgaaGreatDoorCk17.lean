/- Laid together: The walks of the reference's Head and Same of documents. The walks of document.At and of the reference's. A document without an event, plainly; own rows under the stores. A document in another rate is accepted; its drifts are small: plainly. A region that draws its order, by an invariant: each operation is met once, whatever came ahead of it. The walks of event.Split and of the reference's Split: the errors. What a join of two events comes to; appends of rows, at a step of a region that draws its order. The plain law of EventReturns: the parts of a valid event are valid, share its frames and rows, and give it back when they are joined. No walk here. Events moved in time, plainly; a cell of an event of one's own is stored. A document with an event in the place of another, plainly; the stores of whole rows. -/
import Derived.Test.YtagfedbdakmlgaaGreatDoorCk16
import Derived.Test.YtagfedbdakmlgaaGreatDoorCk13
import Derived.Test.YtagfedbdakmlgaaGreatDoorCk06
import Derived.Test.YtagfedbdakmlgaaGreatDoorCk15
import Derived.Test.YtagfedbdakmlgaaGreatDoorCk11
import Derived.Test.YtagfedbdakmlgaaGreatDoorCk05
import Derived.Test.YtagfedbdakmlgaaGreatDoorCk04
import Derived.Deep.AppendLies

/-! DSameR -/
namespace Go.Proofs.YtagfedbdakmlgaaGreatDoor
set_option linter.unusedVariables false
set_option linter.unusedSimpArgs false
open Go.RowKit
set_option maxRecDepth 100000 in
set_option maxHeartbeats 1000000 in
theorem R12Head_any (d : Doc) (h : DocH) (w : World) : Calls Tryz.prog 37 #[.agg (d.cells h)] w fun e w' => e = .returned d.head ∧ Ext w w' := by
  have HX := Lib.hid (((Ext.refl w).alloc (.cells (d.cells h) 27)))
  unfold Doc.cells at *
  go_enter Tryz.func37, Tryz.ntmps37
  go_wp2
  exact bodyPost_ret (v := d.head) (by simp [results, Tryz.results37, go_sem, Doc.head]) rfl ⟨rfl, HX.out.alloc _⟩
theorem neq_head (a b : Doc) (w : World) : (binOp .neq 54 a.head b.head).run Tryz.prog w = .ok (.bool (!decide (a.hd = b.hd))) w := by
  obtain ⟨a1, a2, a3, a4, a5, a6, a7, a8⟩ := a
  obtain ⟨b1, b2, b3, b4, b5, b6, b7, b8⟩ := b
  unfold Doc.head Doc.hd
  dsimp only
  go_simp
  simp only [toList_inj]
  repeat' split
  all_goals simp_all
set_option maxRecDepth 100000 in
set_option maxHeartbeats 8000000 in
theorem R12Same_big (a b : Doc) (h k : DocH) (w : World) (hA : DocAt w a h) (hB : DocAt w b k) (h1 : h.rn ≤ 1000000000 ∧ h.en ≤ 1000000000 ∧ h.cn ≤ 1000000000) (h2 : k.rn ≤ 4611686018427387904 ∧ k.en ≤ 4611686018427387904 ∧ k.cn ≤ 4611686018427387904) :
    Calls Tryz.prog 14 #[.agg (a.cells h), .agg (b.cells k)] w fun en w' => en = .returned (.bool (sameDoc a b)) ∧ Ext w w' := by
  have HX : Hid (Ext w ((w.alloc (.cells (a.cells h) 27)).alloc (.cells (b.cells k) 27))) := ((Ext.refl w).alloc _).alloc _
  have HBa : Hid (Blk ((w.alloc (.cells (a.cells h) 27)).alloc (.cells (b.cells k) 27)) w.heap.size 27 (a.cells h)) := (Blk.new w 27 (a.cells h)).alloc _
  have HBb : Hid (Blk ((w.alloc (.cells (a.cells h) 27)).alloc (.cells (b.cells k) 27)) (w.heap.size + 1) 27 (b.cells k)) := Blk.new' (by simp)
  have HHa := Lib.hid (fun w' => R12Head_any a h w')
  have HHb := Lib.hid (fun w' => R12Head_any b k w')
  have HA := Lib.hid hA
  have HB := Lib.hid hB
  have hq0 := fun w => neq_head a b w
  have lr1 := hA.regs.len
  have lr2 := hB.regs.len
  have le1 := hA.evs.len
  have le2 := hB.evs.len
  have lc1 := hA.coms.len
  have lc2 := hB.coms.len
  clear hA hB
  unfold Doc.head at HHa HHb hq0
  unfold Doc.cells at *
  obtain ⟨hra, hrn, hrc, hea, hen, hec, hca, hcn, hcc⟩ := h
  obtain ⟨kra, krn, krc, kea, ken, kec, kca, kcn, kcc⟩ := k
  dsimp only at *
  have HQ := Lib.hid hq0
  have HS : Hid (sameDoc a b = (decide (a.hd = b.hd) && (decide (a.regs = b.regs) && (decide (a.evs = b.evs) && decide (a.coms = b.coms))))) := rfl
  clear hq0
  by_cases hh : a.hd = b.hd
  case neg =>
    have HH := Lib.hid hh
    have hq := fun w => HQ.out w
    rw [decide_eq_false hh] at hq
    simp only [Bool.not_false] at hq
    clear hh
    go_enter Tryz.func14, Tryz.ntmps14
    go_wp2_with fail
    have hr_1 := fun (x : EW ((w.alloc (.cells #[.string a.title, .string a.lang, .int .u8 a.rate, .bool a.drop, .int .i64 a.last, .slice hra hrn hrc, .slice hea hen hec, .slice hca hcn hcc] 27)).alloc (.cells #[.string b.title, .string b.lang, .int .u8 b.rate, .bool b.drop, .int .i64 b.last, .slice kra krn krc, .slice kea ken kec, .slice kca kcn kcc] 27))) (o : Nat) => (HBa.out.ext x.ext).cell o
    have hr_2 := fun (x : EW ((w.alloc (.cells #[.string a.title, .string a.lang, .int .u8 a.rate, .bool a.drop, .int .i64 a.last, .slice hra hrn hrc, .slice hea hen hec, .slice hca hcn hcc] 27)).alloc (.cells #[.string b.title, .string b.lang, .int .u8 b.rate, .bool b.drop, .int .i64 b.last, .slice kra krn krc, .slice kea ken kec, .slice kca kcn kcc] 27))) (o : Nat) => (HBb.out.ext x.ext).cell o
    refine wp_region_ew ((w.alloc (.cells #[.string a.title, .string a.lang, .int .u8 a.rate, .bool a.drop, .int .i64 a.last, .slice hra hrn hrc, .slice hea hen hec, .slice hca hcn hcc] 27)).alloc (.cells #[.string b.title, .string b.lang, .int .u8 b.rate, .bool b.drop, .int .i64 b.last, .slice kra krn krc, .slice kea ken kec, .slice kca kcn kcc] 27)) (Ext.refl _) (by kernel_rfl) (by kernel_rfl) ?_
    repeat (go_big_quiet_step ((go_at_call 37; first | with_reducible exact EW.calls _ (HHa.out _) | with_reducible exact EW.calls _ (HHb.out _))))
    refine wpQuiet_nil ?_
    rintro w_3 ⟨⟨_, hx_4⟩, rfl⟩
    try dsimp only
    clear hr_1 hr_2
    have HX_5 := Lib.hid (HX.out.trans hx_4)
    have HB_6 := Lib.hid (HBa.out.ext hx_4)
    have HB_7 := Lib.hid (HBb.out.ext hx_4)
    clear hx_4 HX HBa HBb
    go_wp2_with fail
    go_ret
    exact ⟨ret_bool (by rw [HS.out]; rw [decide_eq_false HH.out]; rfl), HX_5.out⟩
  have HH := Lib.hid hh
  have hq := fun w => HQ.out w
  rw [decide_eq_true hh] at hq
  simp only [Bool.not_true] at hq
  clear hh
  have L1 := Lib.hid lr1
  have L2 := Lib.hid lr2
  have L3 := Lib.hid le1
  have L4 := Lib.hid le2
  have L5 := Lib.hid lc1
  have L6 := Lib.hid lc2
  clear lr1 lr2 le1 le2 lc1 lc2
  by_cases n1 : hrn = krn
  case neg =>
    have hb1 : ((hrn : Int) != (krn : Int)) = true := by simp; omega
    have HN : Hid (¬ a.regs = b.regs) := by show ¬ _; intro h; apply n1; rw [← L1.out, ← L2.out, h]
    clear n1
    go_enter Tryz.func14, Tryz.ntmps14
    go_wp2_with fail
    have hr_8 := fun (x : EW ((w.alloc (.cells #[.string a.title, .string a.lang, .int .u8 a.rate, .bool a.drop, .int .i64 a.last, .slice hra hrn hrc, .slice hea hen hec, .slice hca hcn hcc] 27)).alloc (.cells #[.string b.title, .string b.lang, .int .u8 b.rate, .bool b.drop, .int .i64 b.last, .slice kra krn krc, .slice kea ken kec, .slice kca kcn kcc] 27))) (o : Nat) => (HBa.out.ext x.ext).cell o
    have hr_9 := fun (x : EW ((w.alloc (.cells #[.string a.title, .string a.lang, .int .u8 a.rate, .bool a.drop, .int .i64 a.last, .slice hra hrn hrc, .slice hea hen hec, .slice hca hcn hcc] 27)).alloc (.cells #[.string b.title, .string b.lang, .int .u8 b.rate, .bool b.drop, .int .i64 b.last, .slice kra krn krc, .slice kea ken kec, .slice kca kcn kcc] 27))) (o : Nat) => (HBb.out.ext x.ext).cell o
    refine wp_region_ew ((w.alloc (.cells #[.string a.title, .string a.lang, .int .u8 a.rate, .bool a.drop, .int .i64 a.last, .slice hra hrn hrc, .slice hea hen hec, .slice hca hcn hcc] 27)).alloc (.cells #[.string b.title, .string b.lang, .int .u8 b.rate, .bool b.drop, .int .i64 b.last, .slice kra krn krc, .slice kea ken kec, .slice kca kcn kcc] 27)) (Ext.refl _) (by kernel_rfl) (by kernel_rfl) ?_
    repeat (go_big_quiet_step ((go_at_call 37; first | with_reducible exact EW.calls _ (HHa.out _) | with_reducible exact EW.calls _ (HHb.out _))))
    refine wpQuiet_nil ?_
    rintro w_10 ⟨⟨_, hx_11⟩, rfl⟩
    try dsimp only
    clear hr_8 hr_9
    have HX_12 := Lib.hid (HX.out.trans hx_11)
    have HB_13 := Lib.hid (HBa.out.ext hx_11)
    have HB_14 := Lib.hid (HBb.out.ext hx_11)
    clear hx_11 HX HBa HBb
    go_wp2_with fail
    go_ret
    exact ⟨ret_bool (by rw [HS.out]; rw [decide_eq_false HN.out]; simp), HX_12.out⟩
  subst n1
  have hb1 : ((hrn : Int) != (hrn : Int)) = false := by simp
  by_cases n2 : hen = ken
  case neg =>
    have hb2 : ((hen : Int) != (ken : Int)) = true := by simp; omega
    have HN : Hid (¬ a.evs = b.evs) := by show ¬ _; intro h; apply n2; rw [← L3.out, ← L4.out, h]
    clear n2
    go_enter Tryz.func14, Tryz.ntmps14
    go_wp2_with fail
    have hr_15 := fun (x : EW ((w.alloc (.cells #[.string a.title, .string a.lang, .int .u8 a.rate, .bool a.drop, .int .i64 a.last, .slice hra hrn hrc, .slice hea hen hec, .slice hca hcn hcc] 27)).alloc (.cells #[.string b.title, .string b.lang, .int .u8 b.rate, .bool b.drop, .int .i64 b.last, .slice kra hrn krc, .slice kea ken kec, .slice kca kcn kcc] 27))) (o : Nat) => (HBa.out.ext x.ext).cell o
    have hr_16 := fun (x : EW ((w.alloc (.cells #[.string a.title, .string a.lang, .int .u8 a.rate, .bool a.drop, .int .i64 a.last, .slice hra hrn hrc, .slice hea hen hec, .slice hca hcn hcc] 27)).alloc (.cells #[.string b.title, .string b.lang, .int .u8 b.rate, .bool b.drop, .int .i64 b.last, .slice kra hrn krc, .slice kea ken kec, .slice kca kcn kcc] 27))) (o : Nat) => (HBb.out.ext x.ext).cell o
    refine wp_region_ew ((w.alloc (.cells #[.string a.title, .string a.lang, .int .u8 a.rate, .bool a.drop, .int .i64 a.last, .slice hra hrn hrc, .slice hea hen hec, .slice hca hcn hcc] 27)).alloc (.cells #[.string b.title, .string b.lang, .int .u8 b.rate, .bool b.drop, .int .i64 b.last, .slice kra hrn krc, .slice kea ken kec, .slice kca kcn kcc] 27)) (Ext.refl _) (by kernel_rfl) (by kernel_rfl) ?_
    repeat (go_big_quiet_step ((go_at_call 37; first | with_reducible exact EW.calls _ (HHa.out _) | with_reducible exact EW.calls _ (HHb.out _))))
    refine wpQuiet_nil ?_
    rintro w_17 ⟨⟨_, hx_18⟩, rfl⟩
    try dsimp only
    clear hr_15 hr_16
    have HX_19 := Lib.hid (HX.out.trans hx_18)
    have HB_20 := Lib.hid (HBa.out.ext hx_18)
    have HB_21 := Lib.hid (HBb.out.ext hx_18)
    clear hx_18 HX HBa HBb
    go_wp2_with fail
    go_ret
    exact ⟨ret_bool (by rw [HS.out]; rw [decide_eq_false HN.out]; simp), HX_19.out⟩
  subst n2
  have hb2 : ((hen : Int) != (hen : Int)) = false := by simp
  by_cases n3 : hcn = kcn
  case neg =>
    have hb3 : ((hcn : Int) != (kcn : Int)) = true := by simp; omega
    have HN : Hid (¬ a.coms = b.coms) := by show ¬ _; intro h; apply n3; rw [← L5.out, ← L6.out, h]
    clear n3
    go_enter Tryz.func14, Tryz.ntmps14
    go_wp2_with fail
    have hr_22 := fun (x : EW ((w.alloc (.cells #[.string a.title, .string a.lang, .int .u8 a.rate, .bool a.drop, .int .i64 a.last, .slice hra hrn hrc, .slice hea hen hec, .slice hca hcn hcc] 27)).alloc (.cells #[.string b.title, .string b.lang, .int .u8 b.rate, .bool b.drop, .int .i64 b.last, .slice kra hrn krc, .slice kea hen kec, .slice kca kcn kcc] 27))) (o : Nat) => (HBa.out.ext x.ext).cell o
    have hr_23 := fun (x : EW ((w.alloc (.cells #[.string a.title, .string a.lang, .int .u8 a.rate, .bool a.drop, .int .i64 a.last, .slice hra hrn hrc, .slice hea hen hec, .slice hca hcn hcc] 27)).alloc (.cells #[.string b.title, .string b.lang, .int .u8 b.rate, .bool b.drop, .int .i64 b.last, .slice kra hrn krc, .slice kea hen kec, .slice kca kcn kcc] 27))) (o : Nat) => (HBb.out.ext x.ext).cell o
    refine wp_region_ew ((w.alloc (.cells #[.string a.title, .string a.lang, .int .u8 a.rate, .bool a.drop, .int .i64 a.last, .slice hra hrn hrc, .slice hea hen hec, .slice hca hcn hcc] 27)).alloc (.cells #[.string b.title, .string b.lang, .int .u8 b.rate, .bool b.drop, .int .i64 b.last, .slice kra hrn krc, .slice kea hen kec, .slice kca kcn kcc] 27)) (Ext.refl _) (by kernel_rfl) (by kernel_rfl) ?_
    repeat (go_big_quiet_step ((go_at_call 37; first | with_reducible exact EW.calls _ (HHa.out _) | with_reducible exact EW.calls _ (HHb.out _))))
    refine wpQuiet_nil ?_
    rintro w_24 ⟨⟨_, hx_25⟩, rfl⟩
    try dsimp only
    clear hr_22 hr_23
    have HX_26 := Lib.hid (HX.out.trans hx_25)
    have HB_27 := Lib.hid (HBa.out.ext hx_25)
    have HB_28 := Lib.hid (HBb.out.ext hx_25)
    clear hx_25 HX HBa HBb
    go_wp2_with fail
    go_ret
    exact ⟨ret_bool (by rw [HS.out]; rw [decide_eq_false HN.out]; simp), HX_26.out⟩
  subst n3
  have hb3 : ((hcn : Int) != (hcn : Int)) = false := by simp
  go_enter Tryz.func14, Tryz.ntmps14
  go_wp2_with fail
  have hr_29 := fun (x : EW ((w.alloc (.cells #[.string a.title, .string a.lang, .int .u8 a.rate, .bool a.drop, .int .i64 a.last, .slice hra hrn hrc, .slice hea hen hec, .slice hca hcn hcc] 27)).alloc (.cells #[.string b.title, .string b.lang, .int .u8 b.rate, .bool b.drop, .int .i64 b.last, .slice kra hrn krc, .slice kea hen kec, .slice kca hcn kcc] 27))) (o : Nat) => (HBa.out.ext x.ext).cell o
  have hr_30 := fun (x : EW ((w.alloc (.cells #[.string a.title, .string a.lang, .int .u8 a.rate, .bool a.drop, .int .i64 a.last, .slice hra hrn hrc, .slice hea hen hec, .slice hca hcn hcc] 27)).alloc (.cells #[.string b.title, .string b.lang, .int .u8 b.rate, .bool b.drop, .int .i64 b.last, .slice kra hrn krc, .slice kea hen kec, .slice kca hcn kcc] 27))) (o : Nat) => (HBb.out.ext x.ext).cell o
  refine wp_region_ew ((w.alloc (.cells #[.string a.title, .string a.lang, .int .u8 a.rate, .bool a.drop, .int .i64 a.last, .slice hra hrn hrc, .slice hea hen hec, .slice hca hcn hcc] 27)).alloc (.cells #[.string b.title, .string b.lang, .int .u8 b.rate, .bool b.drop, .int .i64 b.last, .slice kra hrn krc, .slice kea hen kec, .slice kca hcn kcc] 27)) (Ext.refl _) (by kernel_rfl) (by kernel_rfl) ?_
  repeat (go_big_quiet_step ((go_at_call 37; first | with_reducible exact EW.calls _ (HHa.out _) | with_reducible exact EW.calls _ (HHb.out _))))
  refine wpQuiet_nil ?_
  rintro w_31 ⟨⟨_, hx_32⟩, rfl⟩
  try dsimp only
  clear hr_29 hr_30
  have HX_33 := Lib.hid (HX.out.trans hx_32)
  have HB_34 := Lib.hid (HBa.out.ext hx_32)
  have HB_35 := Lib.hid (HBb.out.ext hx_32)
  clear hx_32 HX HBa HBb
  have hc_36 := fun o => HB_34.out.cell o
  have hc_37 := fun o => HB_35.out.cell o
  go_wp2_with fail
  clear hc_36 hc_37
  go_loopw [43] (fun i wr => EqRel w_31 hrn a.regs b.regs i wr) (fun i _ => hrn - (intOf i).toNat)
  case atStart => exact ⟨0, Nat.zero_le _, rfl, Ext.refl _, rfl⟩
  case round =>
    obtain ⟨m, hm, rfl, hx, hp⟩ := hrel
    have HPr := Lib.hid hp
    have hxx := hx
    clear hp hx
    have HX_38 := Lib.hid (HX_33.out.trans hxx)
    have HB_39 := Lib.hid (HB_34.out.ext hxx)
    have HB_40 := Lib.hid (HB_35.out.ext hxx)
    clear HX_33 HB_34 HB_35
    by_cases hlt : m < hrn
    · obtain ⟨b1, o1, r, hea1, hr, c0, c1, c2, c3, c4, c5, c6⟩ := (HA.out.regs.ext HX_38.out).at_ hlt
      obtain ⟨b2, o2, s, hea2, hs, d0, d1, d2, d3, d4, d5, d6⟩ := (HB.out.regs.ext HX_38.out).at_ hlt
      subst hea1 hea2
      have HR := Lib.hid hr
      have HSs := Lib.hid hs
      clear hr hs
      have hk0 : (0 : Int) ≤ (m : Int) := by omega
      have hk1 : (m : Int) < (hrn : Int) := by omega
      by_cases hq : r = s
      · subst hq
        have HT := Lib.hid (take_eq_succ HPr.out HR.out HSs.out)
        have hne := fun w => neq_reg_no r w
        unfold Reg.val at hne
        have HXk := Lib.hid (Ext.refl wr)
        go_wp2_with fail
        have hr_43 := fun (x : EW wr) (o : Nat) => (HB_39.out.ext x.ext).cell o
        have hr_44 := fun (x : EW wr) (o : Nat) => (HB_40.out.ext x.ext).cell o
        have hr_45 := fun (y : EW wr) => y.ext.cell c0
        have hr_46 := fun (y : EW wr) => y.ext.cell c1
        have hr_47 := fun (y : EW wr) => y.ext.cell c2
        have hr_48 := fun (y : EW wr) => y.ext.cell c3
        have hr_49 := fun (y : EW wr) => y.ext.cell c4
        have hr_50 := fun (y : EW wr) => y.ext.cell c5
        have hr_51 := fun (y : EW wr) => y.ext.cell c6
        have hr_52 := fun (y : EW wr) => y.ext.cell d0
        have hr_53 := fun (y : EW wr) => y.ext.cell d1
        have hr_54 := fun (y : EW wr) => y.ext.cell d2
        have hr_55 := fun (y : EW wr) => y.ext.cell d3
        have hr_56 := fun (y : EW wr) => y.ext.cell d4
        have hr_57 := fun (y : EW wr) => y.ext.cell d5
        have hr_58 := fun (y : EW wr) => y.ext.cell d6
        refine wp_region_ew wr (Ext.refl _) (by kernel_rfl) (by kernel_rfl) ?_
        repeat (go_big_quiet_step ((fail)))
        refine wpQuiet_nil ?_
        rintro w_59 ⟨⟨_, hx_60⟩, rfl⟩
        have HLast := Lib.hid hx_60
        try dsimp only
        clear hr_43 hr_44 hr_45 hr_46 hr_47 hr_48 hr_49 hr_50 hr_51 hr_52 hr_53 hr_54 hr_55 hr_56 hr_57 hr_58
        have HX_61 := Lib.hid (HX_38.out.trans hx_60)
        have HB_62 := Lib.hid (HB_39.out.ext hx_60)
        have HB_63 := Lib.hid (HB_40.out.ext hx_60)
        clear hx_60 HX_38 HB_39 HB_40
        go_wp2_with fail
        exact ⟨⟨m + 1, by omega, by go_num, hxx.trans HLast.out, HT.out⟩, by simp [intOf]; omega⟩
      have HN := Lib.hid (ne_at HR.out HSs.out hq)
      have hne := fun w => neq_reg_yes r s hq w
      unfold Reg.val at hne
      clear hq
      go_wp2_with fail
      have hr_64 := fun (x : EW wr) (o : Nat) => (HB_39.out.ext x.ext).cell o
      have hr_65 := fun (x : EW wr) (o : Nat) => (HB_40.out.ext x.ext).cell o
      have hr_66 := fun (y : EW wr) => y.ext.cell c0
      have hr_67 := fun (y : EW wr) => y.ext.cell c1
      have hr_68 := fun (y : EW wr) => y.ext.cell c2
      have hr_69 := fun (y : EW wr) => y.ext.cell c3
      have hr_70 := fun (y : EW wr) => y.ext.cell c4
      have hr_71 := fun (y : EW wr) => y.ext.cell c5
      have hr_72 := fun (y : EW wr) => y.ext.cell c6
      have hr_73 := fun (y : EW wr) => y.ext.cell d0
      have hr_74 := fun (y : EW wr) => y.ext.cell d1
      have hr_75 := fun (y : EW wr) => y.ext.cell d2
      have hr_76 := fun (y : EW wr) => y.ext.cell d3
      have hr_77 := fun (y : EW wr) => y.ext.cell d4
      have hr_78 := fun (y : EW wr) => y.ext.cell d5
      have hr_79 := fun (y : EW wr) => y.ext.cell d6
      refine wp_region_ew wr (Ext.refl _) (by kernel_rfl) (by kernel_rfl) ?_
      repeat (go_big_quiet_step ((fail)))
      refine wpQuiet_nil ?_
      rintro w_80 ⟨⟨_, hx_81⟩, rfl⟩
      try dsimp only
      clear hr_64 hr_65 hr_66 hr_67 hr_68 hr_69 hr_70 hr_71 hr_72 hr_73 hr_74 hr_75 hr_76 hr_77 hr_78 hr_79
      have HX_82 := Lib.hid (HX_38.out.trans hx_81)
      have HB_83 := Lib.hid (HB_39.out.ext hx_81)
      have HB_84 := Lib.hid (HB_40.out.ext hx_81)
      clear hx_81 HX_38 HB_39 HB_40
      go_wp2_with fail
      go_ret
      exact ⟨ret_bool (by rw [HS.out, decide_eq_false HN.out]; simp), HX_82.out⟩
    have hmn : m = hrn := by omega
    subst hmn
    have HQr := Lib.hid (eq_of_take L1.out L2.out HPr.out)
    clear hxx
    have hc_85 := fun o => HB_39.out.cell o
    have hc_86 := fun o => HB_40.out.cell o
    go_wp2_with fail
    clear hc_85 hc_86
    obtain ⟨woe, rfl⟩ : ∃ wo : World, wo = wr := ⟨_, rfl⟩
    go_loopw [61] (fun i wr => EqRel woe hen a.evs b.evs i wr) (fun i _ => hen - (intOf i).toNat)
    case atStart => exact ⟨0, Nat.zero_le _, rfl, Ext.refl _, rfl⟩
    case round =>
      obtain ⟨m, hm, rfl, hx, hp⟩ := hrel
      have HPe := Lib.hid hp
      have hxx := hx
      clear hp hx
      have HX_87 := Lib.hid (HX_38.out.trans hxx)
      have HB_88 := Lib.hid (HB_39.out.ext hxx)
      have HB_89 := Lib.hid (HB_40.out.ext hxx)
      clear HX_38 HB_39 HB_40
      by_cases hlt : m < hen
      · obtain ⟨b1, o1, r, A1, n1, c1', hea1, hr, hat1, c0, c1, c2, c3, c4, c5, c6⟩ := (HA.out.evs.ext HX_87.out).at_ev hlt
        obtain ⟨b2, o2, s, A2, n2, c2', hea2, hs, hat2, d0, d1, d2, d3, d4, d5, d6⟩ := (HB.out.evs.ext HX_87.out).at_ev hlt
        subst hea1 hea2
        have HSm := Lib.hid (fun (y : EW wr) => RESame_any r s A1 n1 c1' A2 n2 c2' y.w (hat1.ext y.ext) (hat2.ext y.ext))
        unfold Ev.cells at HSm
        clear hat1 hat2
        have HR := Lib.hid hr
        have HSs := Lib.hid hs
        clear hr hs
        have hk0 : (0 : Int) ≤ (m : Int) := by omega
        have hk1 : (m : Int) < (hen : Int) := by omega
        by_cases hq : r = s
        · subst hq
          have HT := Lib.hid (take_eq_succ HPe.out HR.out HSs.out)
          have HSq : Hid (∀ y : EW wr, Calls Tryz.prog 46 #[.agg #[.int .i64 r.id, .int .i64 r.inn, .int .i64 r.out, .string r.region, .int .u8 r.kind, .string r.speaker, .slice A1 n1 c1'], .agg #[.int .i64 r.id, .int .i64 r.inn, .int .i64 r.out, .string r.region, .int .u8 r.kind, .string r.speaker, .slice A2 n2 c2']] y.w fun en w' => en = .returned (.bool true) ∧ Ext y.w w') := fun y => by have := HSm.out y; rwa [decide_eq_true rfl] at this
          have HXk := Lib.hid (Ext.refl wr)
          go_wp2_with fail
          have hr_92 := fun (x : EW wr) (o : Nat) => (HB_88.out.ext x.ext).cell o
          have hr_93 := fun (x : EW wr) (o : Nat) => (HB_89.out.ext x.ext).cell o
          have hr_94 := fun (y : EW wr) => y.ext.cell c0
          have hr_95 := fun (y : EW wr) => y.ext.cell c1
          have hr_96 := fun (y : EW wr) => y.ext.cell c2
          have hr_97 := fun (y : EW wr) => y.ext.cell c3
          have hr_98 := fun (y : EW wr) => y.ext.cell c4
          have hr_99 := fun (y : EW wr) => y.ext.cell c5
          have hr_100 := fun (y : EW wr) => y.ext.cell c6
          have hr_101 := fun (y : EW wr) => y.ext.cell d0
          have hr_102 := fun (y : EW wr) => y.ext.cell d1
          have hr_103 := fun (y : EW wr) => y.ext.cell d2
          have hr_104 := fun (y : EW wr) => y.ext.cell d3
          have hr_105 := fun (y : EW wr) => y.ext.cell d4
          have hr_106 := fun (y : EW wr) => y.ext.cell d5
          have hr_107 := fun (y : EW wr) => y.ext.cell d6
          refine wp_region_ew wr (Ext.refl _) (by kernel_rfl) (by kernel_rfl) ?_
          repeat (go_big_quiet_step ((go_at_call 46; exact EW.calls _ (HSq.out _))))
          refine wpQuiet_nil ?_
          rintro w_108 ⟨⟨_, hx_109⟩, rfl⟩
          have HLast := Lib.hid hx_109
          try dsimp only
          clear hr_92 hr_93 hr_94 hr_95 hr_96 hr_97 hr_98 hr_99 hr_100 hr_101 hr_102 hr_103 hr_104 hr_105 hr_106 hr_107
          have HX_110 := Lib.hid (HX_87.out.trans hx_109)
          have HB_111 := Lib.hid (HB_88.out.ext hx_109)
          have HB_112 := Lib.hid (HB_89.out.ext hx_109)
          clear hx_109 HX_87 HB_88 HB_89
          go_wp2_with fail
          exact ⟨⟨m + 1, by omega, by go_num, hxx.trans HLast.out, HT.out⟩, by simp [intOf]; omega⟩
        have HN := Lib.hid (ne_at HR.out HSs.out hq)
        have HSq : Hid (∀ y : EW wr, Calls Tryz.prog 46 #[.agg #[.int .i64 r.id, .int .i64 r.inn, .int .i64 r.out, .string r.region, .int .u8 r.kind, .string r.speaker, .slice A1 n1 c1'], .agg #[.int .i64 s.id, .int .i64 s.inn, .int .i64 s.out, .string s.region, .int .u8 s.kind, .string s.speaker, .slice A2 n2 c2']] y.w fun en w' => en = .returned (.bool false) ∧ Ext y.w w') := fun y => by have := HSm.out y; rwa [decide_eq_false hq] at this
        clear hq
        go_wp2_with fail
        have hr_113 := fun (x : EW wr) (o : Nat) => (HB_88.out.ext x.ext).cell o
        have hr_114 := fun (x : EW wr) (o : Nat) => (HB_89.out.ext x.ext).cell o
        have hr_115 := fun (y : EW wr) => y.ext.cell c0
        have hr_116 := fun (y : EW wr) => y.ext.cell c1
        have hr_117 := fun (y : EW wr) => y.ext.cell c2
        have hr_118 := fun (y : EW wr) => y.ext.cell c3
        have hr_119 := fun (y : EW wr) => y.ext.cell c4
        have hr_120 := fun (y : EW wr) => y.ext.cell c5
        have hr_121 := fun (y : EW wr) => y.ext.cell c6
        have hr_122 := fun (y : EW wr) => y.ext.cell d0
        have hr_123 := fun (y : EW wr) => y.ext.cell d1
        have hr_124 := fun (y : EW wr) => y.ext.cell d2
        have hr_125 := fun (y : EW wr) => y.ext.cell d3
        have hr_126 := fun (y : EW wr) => y.ext.cell d4
        have hr_127 := fun (y : EW wr) => y.ext.cell d5
        have hr_128 := fun (y : EW wr) => y.ext.cell d6
        refine wp_region_ew wr (Ext.refl _) (by kernel_rfl) (by kernel_rfl) ?_
        repeat (go_big_quiet_step ((go_at_call 46; exact EW.calls _ (HSq.out _))))
        refine wpQuiet_nil ?_
        rintro w_129 ⟨⟨_, hx_130⟩, rfl⟩
        try dsimp only
        clear hr_113 hr_114 hr_115 hr_116 hr_117 hr_118 hr_119 hr_120 hr_121 hr_122 hr_123 hr_124 hr_125 hr_126 hr_127 hr_128
        have HX_131 := Lib.hid (HX_87.out.trans hx_130)
        have HB_132 := Lib.hid (HB_88.out.ext hx_130)
        have HB_133 := Lib.hid (HB_89.out.ext hx_130)
        clear hx_130 HX_87 HB_88 HB_89
        go_wp2_with fail
        go_ret
        exact ⟨ret_bool (by rw [HS.out, decide_eq_false HN.out]; simp), HX_131.out⟩
      have hmn : m = hen := by omega
      subst hmn
      have HQe := Lib.hid (eq_of_take L3.out L4.out HPe.out)
      clear hxx
      have hc_134 := fun o => HB_88.out.cell o
      have hc_135 := fun o => HB_89.out.cell o
      go_wp2_with fail
      clear hc_134 hc_135
      obtain ⟨woc, rfl⟩ : ∃ wo : World, wo = wr := ⟨_, rfl⟩
      go_loopw [80] (fun i wr => EqRel woc hcn a.coms b.coms i wr) (fun i _ => hcn - (intOf i).toNat)
      case atStart => exact ⟨0, Nat.zero_le _, rfl, Ext.refl _, rfl⟩
      case round =>
        obtain ⟨m, hm, rfl, hx, hp⟩ := hrel
        have HPc := Lib.hid hp
        have hxx := hx
        clear hp hx
        have HX_136 := Lib.hid (HX_87.out.trans hxx)
        have HB_137 := Lib.hid (HB_88.out.ext hxx)
        have HB_138 := Lib.hid (HB_89.out.ext hxx)
        clear HX_87 HB_88 HB_89
        by_cases hlt : m < hcn
        · obtain ⟨b1, o1, r, hea1, hr, c0, c1, c2, c3, c4, c5, c6, c7⟩ := (HA.out.coms.ext HX_136.out).at8 hlt
          obtain ⟨b2, o2, s, hea2, hs, d0, d1, d2, d3, d4, d5, d6, d7⟩ := (HB.out.coms.ext HX_136.out).at8 hlt
          subst hea1 hea2
          have HR := Lib.hid hr
          have HSs := Lib.hid hs
          clear hr hs
          have hk0 : (0 : Int) ≤ (m : Int) := by omega
          have hk1 : (m : Int) < (hcn : Int) := by omega
          by_cases hq : r = s
          · subst hq
            have HT := Lib.hid (take_eq_succ HPc.out HR.out HSs.out)
            have hne := fun w => neq_com_no r w
            unfold Com.aggV at hne
            have HXk := Lib.hid (Ext.refl wr)
            go_wp2_with fail
            have hr_141 := fun (x : EW wr) (o : Nat) => (HB_137.out.ext x.ext).cell o
            have hr_142 := fun (x : EW wr) (o : Nat) => (HB_138.out.ext x.ext).cell o
            have hr_143 := fun (y : EW wr) => y.ext.cell c0
            have hr_144 := fun (y : EW wr) => y.ext.cell c1
            have hr_145 := fun (y : EW wr) => y.ext.cell c2
            have hr_146 := fun (y : EW wr) => y.ext.cell c3
            have hr_147 := fun (y : EW wr) => y.ext.cell c4
            have hr_148 := fun (y : EW wr) => y.ext.cell c5
            have hr_149 := fun (y : EW wr) => y.ext.cell c6
            have hr_150 := fun (y : EW wr) => y.ext.cell c7
            have hr_151 := fun (y : EW wr) => y.ext.cell d0
            have hr_152 := fun (y : EW wr) => y.ext.cell d1
            have hr_153 := fun (y : EW wr) => y.ext.cell d2
            have hr_154 := fun (y : EW wr) => y.ext.cell d3
            have hr_155 := fun (y : EW wr) => y.ext.cell d4
            have hr_156 := fun (y : EW wr) => y.ext.cell d5
            have hr_157 := fun (y : EW wr) => y.ext.cell d6
            have hr_158 := fun (y : EW wr) => y.ext.cell d7
            refine wp_region_ew wr (Ext.refl _) (by kernel_rfl) (by kernel_rfl) ?_
            repeat (go_big_quiet_step ((fail)))
            refine wpQuiet_nil ?_
            rintro w_159 ⟨⟨_, hx_160⟩, rfl⟩
            have HLast := Lib.hid hx_160
            try dsimp only
            clear hr_141 hr_142 hr_143 hr_144 hr_145 hr_146 hr_147 hr_148 hr_149 hr_150 hr_151 hr_152 hr_153 hr_154 hr_155 hr_156 hr_157 hr_158
            have HX_161 := Lib.hid (HX_136.out.trans hx_160)
            have HB_162 := Lib.hid (HB_137.out.ext hx_160)
            have HB_163 := Lib.hid (HB_138.out.ext hx_160)
            clear hx_160 HX_136 HB_137 HB_138
            go_wp2_with fail
            exact ⟨⟨m + 1, by omega, by go_num, hxx.trans HLast.out, HT.out⟩, by simp [intOf]; omega⟩
          have HN := Lib.hid (ne_at HR.out HSs.out hq)
          have hne := fun w => neq_com_yes r s hq w
          unfold Com.aggV at hne
          clear hq
          go_wp2_with fail
          have hr_164 := fun (x : EW wr) (o : Nat) => (HB_137.out.ext x.ext).cell o
          have hr_165 := fun (x : EW wr) (o : Nat) => (HB_138.out.ext x.ext).cell o
          have hr_166 := fun (y : EW wr) => y.ext.cell c0
          have hr_167 := fun (y : EW wr) => y.ext.cell c1
          have hr_168 := fun (y : EW wr) => y.ext.cell c2
          have hr_169 := fun (y : EW wr) => y.ext.cell c3
          have hr_170 := fun (y : EW wr) => y.ext.cell c4
          have hr_171 := fun (y : EW wr) => y.ext.cell c5
          have hr_172 := fun (y : EW wr) => y.ext.cell c6
          have hr_173 := fun (y : EW wr) => y.ext.cell c7
          have hr_174 := fun (y : EW wr) => y.ext.cell d0
          have hr_175 := fun (y : EW wr) => y.ext.cell d1
          have hr_176 := fun (y : EW wr) => y.ext.cell d2
          have hr_177 := fun (y : EW wr) => y.ext.cell d3
          have hr_178 := fun (y : EW wr) => y.ext.cell d4
          have hr_179 := fun (y : EW wr) => y.ext.cell d5
          have hr_180 := fun (y : EW wr) => y.ext.cell d6
          have hr_181 := fun (y : EW wr) => y.ext.cell d7
          refine wp_region_ew wr (Ext.refl _) (by kernel_rfl) (by kernel_rfl) ?_
          repeat (go_big_quiet_step ((fail)))
          refine wpQuiet_nil ?_
          rintro w_182 ⟨⟨_, hx_183⟩, rfl⟩
          try dsimp only
          clear hr_164 hr_165 hr_166 hr_167 hr_168 hr_169 hr_170 hr_171 hr_172 hr_173 hr_174 hr_175 hr_176 hr_177 hr_178 hr_179 hr_180 hr_181
          have HX_184 := Lib.hid (HX_136.out.trans hx_183)
          have HB_185 := Lib.hid (HB_137.out.ext hx_183)
          have HB_186 := Lib.hid (HB_138.out.ext hx_183)
          clear hx_183 HX_136 HB_137 HB_138
          go_wp2_with fail
          go_ret
          exact ⟨ret_bool (by rw [HS.out, decide_eq_false HN.out]; simp), HX_184.out⟩
        have hmn : m = hcn := by omega
        subst hmn
        have HQc := Lib.hid (eq_of_take L5.out L6.out HPc.out)
        clear hxx
        go_wp2_with fail
        go_ret
        exact ⟨ret_bool (by rw [HS.out, decide_eq_true HH.out, decide_eq_true HQr.out, decide_eq_true HQe.out, decide_eq_true HQc.out]; rfl), HX_136.out⟩
theorem R12Same_any (a b : Doc) (h k : DocH) (w : World) (hA : DocAt w a h) (hB : DocAt w b k) (h1 : h.rn ≤ 1000000000 ∧ h.en ≤ 1000000000 ∧ h.cn ≤ 1000000000) (h2 : k.rn ≤ 1000000000 ∧ k.en ≤ 1000000000 ∧ k.cn ≤ 1000000000) :
    Calls Tryz.prog 14 #[.agg (a.cells h), .agg (b.cells k)] w fun en w' => en = .returned (.bool (sameDoc a b)) ∧ Ext w w' := R12Same_big a b h k w hA hB h1 (by omega)
end Go.Proofs.YtagfedbdakmlgaaGreatDoor

/-! AtD -/
namespace Go.Proofs.YtagfedbdakmlgaaGreatDoor
set_option linter.unusedVariables false
set_option linter.unusedSimpArgs false
open Go.RowKit
/-- an event is seen at a frame -/
def seenB (e : Ev) (fr : Int) : Bool := decide (e.inn ≤ fr) && decide (fr < e.out)
/-- the places of the events that are seen, among the first k -/
def atTo (l : List Ev) (fr : Int) (k : Nat) : List Int := ((List.range k).filter fun i => (l[i]?.map fun e => seenB e fr) == some true).map fun i : Nat => (i : Int)
def atL (l : List Ev) (fr : Int) : List Int := atTo l fr l.length
theorem at_in {l : List Ev} {k : Nat} {x : Ev} {fr : Int} (hx : l[k]? = some x) (h : seenB x fr = true) : atTo l fr (k + 1) = atTo l fr k ++ [(k : Int)] := by
  unfold atTo
  rw [List.range_succ, List.filter_append, List.map_append]
  simp [hx, h]
theorem at_out {l : List Ev} {k : Nat} {x : Ev} {fr : Int} (hx : l[k]? = some x) (h : seenB x fr = false) : atTo l fr (k + 1) = atTo l fr k := by
  unfold atTo
  rw [List.range_succ, List.filter_append, List.map_append]
  simp [hx, h]
theorem at_len (l : List Ev) (fr : Int) (k : Nat) : (atTo l fr k).length ≤ k := by
  unfold atTo
  rw [List.length_map]
  exact Nat.le_trans (List.length_filter_le _ _) (by simp)
def AtPost (l : List Ev) (fr : Int) (w : World) (en : Ending) (w' : World) : Prop :=
  ∃ A c, en = .returned (.slice A (atL l fr).length c) ∧ IntsAt w' A (atL l fr).length (atL l fr) ∧ (atL l fr).length ≤ c ∧ Ext w w'
def AtRel (w : World) (n : Nat) (l : List Ev) (fr : Int) (v i : Value) (wr : World) : Prop :=
  ∃ k : Nat, k ≤ n ∧ i = .int .i64 k ∧ Ext w wr ∧ wr.ownsRow w.heap.size 3 1 v (atTo l fr k).length ((atTo l fr k).flatMap fun x => [Value.int .i64 x])
set_option maxRecDepth 100000 in
set_option maxHeartbeats 1000000 in
theorem DAt_any (d : Doc) (h : DocH) (fr : Int) (w : World) (hat : EvsAt w h.ea h.en d.evs) (hn : h.en ≤ 1000000) :
    Calls Tryz.prog 42 #[.agg (d.cells h), .int .i64 fr] w (AtPost d.evs fr w) := by
  have HX := Lib.hid ((Ext.refl w).alloc (.cells (d.cells h) 27))
  have HE := Lib.hid hat
  have HLn := Lib.hid hat.len
  have hb := fun o => (Blk.new w 27 (d.cells h)).cell o
  clear hat
  obtain ⟨ra, rn, rc, ea, n, ec, ca, cn, cc⟩ := h
  unfold Doc.cells at *
  dsimp only at *
  go_enter Tryz.func42, Tryz.ntmps42
  go_wp2_with fail
  clear hb
  go_loopw [5, 11] (fun v i wr => AtRel w n d.evs fr v i wr) (fun _ i _ => n - (intOf i).toNat)
  case atStart => exact ⟨0, Nat.zero_le _, rfl, HX.out, ⟨rfl, .inl ⟨rfl, rfl⟩⟩⟩
  case round =>
    obtain ⟨k, hk, rfl, hx, hown⟩ := hrel
    have hlk := at_len d.evs fr k
    have HO := Lib.hid hown
    clear hown
    by_cases hlt : k < n
    · obtain ⟨b, off, x, A', n', c', rfl, hxx, -, c0, c1, c2, c3, c4, c5, c6⟩ := (HE.out.ext hx).at_ev hlt
      have HXx := Lib.hid hxx
      clear hxx
      by_cases h1 : x.inn ≤ fr
      · by_cases h2 : fr < x.out
        · have HV := Lib.hid (at_in HXx.out (fr := fr) (by unfold seenB; simp [h1, h2]))
          go_upto_region 6 with fail
          clear c0 c1 c2 c3 c4 c5 c6
          have HX1 := Lib.hid (hx.alloc (.cells #[.int .i64 x.id, .int .i64 x.inn, .int .i64 x.out, .string x.region, .int .u8 x.kind, .string x.speaker, .slice A' n' c'] 66))
          have HO1 := Lib.hid (HO.out.alloc (.cells #[.int .i64 x.id, .int .i64 x.inn, .int .i64 x.out, .string x.region, .int .u8 x.kind, .string x.speaker, .slice A' n' c'] 66))
          have hszr := hx.size
          generalize wr.alloc (.cells #[.int .i64 x.id, .int .i64 x.inn, .int .i64 x.out, .string x.region, .int .u8 x.kind, .string x.speaker, .slice A' n' c'] 66) = W1 at *
          have hszW := HX1.out.size
          go_wp2_with (at_builtin; refine wpList_append1 rfl (.tmp 28) (.tmp 30) 59 rfl info_int Tryz.underlying59 rfl (by decide) (HO1.out.alloc _) (by exact rfl) W1.heap.size _ (by exact rfl) (by exact Blk.new' rfl) (by exact rfl) (by simp [Value.oneCell']) (by omega) (by simp [maxLen]; omega) (by simp; omega) ?_; intro v' w3 hown3 hgr)
          refine ⟨⟨k + 1, by omega, by go_num, (HX1.out.alloc _).grown hgr (fun q hq => own_lt HO1.out q hq), ?_⟩, by simp [intOf]; omega⟩
          rw [HV.out, List.length_append, List.flatMap_append]
          exact hown3
        · have HV := Lib.hid (at_out HXx.out (fr := fr) (by unfold seenB; simp [h1, h2]))
          go_wp2_with fail
          exact ⟨⟨k + 1, by omega, by go_num, hx.alloc _, by rw [HV.out]; exact HO.out.alloc _⟩, by simp [intOf]; omega⟩
      · have HV := Lib.hid (at_out HXx.out (fr := fr) (by unfold seenB; simp [h1]))
        go_wp2_with fail
        exact ⟨⟨k + 1, by omega, by go_num, hx.alloc _, by rw [HV.out]; exact HO.out.alloc _⟩, by simp [intOf]; omega⟩
    · have hkn : k = d.evs.length := by rw [HLn.out]; omega
      have hn' : n = d.evs.length := HLn.out.symm
      subst hkn
      change Hid (wr.ownsRow w.heap.size 3 1 _ (atL d.evs fr).length ((atL d.evs fr).flatMap fun x => [Value.int .i64 x])) at HO
      obtain ⟨A, c, rfl, hc, -, hsl, hfr⟩ := own_sl (f := fun x : Int => [Value.int .i64 x]) (size := 1) (fun _ => rfl) rfl HO.out
      have HS := Lib.hid hsl
      have HX2 := Lib.hid hx
      clear HO hsl hx
      go_wp2_with fail
      go_ret
      exact ⟨A, c, rfl, HS.out, hc, HX2.out⟩
set_option maxRecDepth 100000 in
set_option maxHeartbeats 1000000 in
theorem R12At_any (d : Doc) (h : DocH) (fr : Int) (w : World) (hat : EvsAt w h.ea h.en d.evs) (hn : h.en ≤ 1000000) :
    Calls Tryz.prog 43 #[.agg (d.cells h), .int .i64 fr] w (AtPost d.evs fr w) := by
  have HX := Lib.hid ((Ext.refl w).alloc (.cells (d.cells h) 27))
  have HE := Lib.hid hat
  have HLn := Lib.hid hat.len
  have hb := fun o => (Blk.new w 27 (d.cells h)).cell o
  clear hat
  obtain ⟨ra, rn, rc, ea, n, ec, ca, cn, cc⟩ := h
  unfold Doc.cells at *
  dsimp only at *
  go_enter Tryz.func43, Tryz.ntmps43
  go_wp2_with fail
  clear hb
  go_loopw [5, 11] (fun v i wr => AtRel w n d.evs fr v i wr) (fun _ i _ => n - (intOf i).toNat)
  case atStart => exact ⟨0, Nat.zero_le _, rfl, HX.out, ⟨rfl, .inl ⟨rfl, rfl⟩⟩⟩
  case round =>
    obtain ⟨k, hk, rfl, hx, hown⟩ := hrel
    have hlk := at_len d.evs fr k
    have HO := Lib.hid hown
    clear hown
    by_cases hlt : k < n
    · obtain ⟨b, off, x, A', n', c', rfl, hxx, -, c0, c1, c2, c3, c4, c5, c6⟩ := (HE.out.ext hx).at_ev hlt
      have HXx := Lib.hid hxx
      clear hxx
      by_cases h1 : x.inn ≤ fr
      · by_cases h2 : fr < x.out
        · have HV := Lib.hid (at_in HXx.out (fr := fr) (by unfold seenB; simp [h1, h2]))
          go_upto_region 6 with fail
          clear c0 c1 c2 c3 c4 c5 c6
          have HX1 := Lib.hid (hx.alloc (.cells #[.int .i64 x.id, .int .i64 x.inn, .int .i64 x.out, .string x.region, .int .u8 x.kind, .string x.speaker, .slice A' n' c'] 66))
          have HO1 := Lib.hid (HO.out.alloc (.cells #[.int .i64 x.id, .int .i64 x.inn, .int .i64 x.out, .string x.region, .int .u8 x.kind, .string x.speaker, .slice A' n' c'] 66))
          have hszr := hx.size
          generalize wr.alloc (.cells #[.int .i64 x.id, .int .i64 x.inn, .int .i64 x.out, .string x.region, .int .u8 x.kind, .string x.speaker, .slice A' n' c'] 66) = W1 at *
          have hszW := HX1.out.size
          go_wp2_with (at_builtin; refine wpList_append1 rfl (.tmp 28) (.tmp 30) 59 rfl info_int Tryz.underlying59 rfl (by decide) (HO1.out.alloc _) (by exact rfl) W1.heap.size _ (by exact rfl) (by exact Blk.new' rfl) (by exact rfl) (by simp [Value.oneCell']) (by omega) (by simp [maxLen]; omega) (by simp; omega) ?_; intro v' w3 hown3 hgr)
          refine ⟨⟨k + 1, by omega, by go_num, (HX1.out.alloc _).grown hgr (fun q hq => own_lt HO1.out q hq), ?_⟩, by simp [intOf]; omega⟩
          rw [HV.out, List.length_append, List.flatMap_append]
          exact hown3
        · have HV := Lib.hid (at_out HXx.out (fr := fr) (by unfold seenB; simp [h1, h2]))
          go_wp2_with fail
          exact ⟨⟨k + 1, by omega, by go_num, hx.alloc _, by rw [HV.out]; exact HO.out.alloc _⟩, by simp [intOf]; omega⟩
      · have HV := Lib.hid (at_out HXx.out (fr := fr) (by unfold seenB; simp [h1]))
        go_wp2_with fail
        exact ⟨⟨k + 1, by omega, by go_num, hx.alloc _, by rw [HV.out]; exact HO.out.alloc _⟩, by simp [intOf]; omega⟩
    · have hkn : k = d.evs.length := by rw [HLn.out]; omega
      have hn' : n = d.evs.length := HLn.out.symm
      subst hkn
      change Hid (wr.ownsRow w.heap.size 3 1 _ (atL d.evs fr).length ((atL d.evs fr).flatMap fun x => [Value.int .i64 x])) at HO
      obtain ⟨A, c, rfl, hc, -, hsl, hfr⟩ := own_sl (f := fun x : Int => [Value.int .i64 x]) (size := 1) (fun _ => rfl) rfl HO.out
      have HS := Lib.hid hsl
      have HX2 := Lib.hid hx
      clear HO hsl hx
      go_wp2_with fail
      go_ret
      exact ⟨A, c, rfl, HS.out, hc, HX2.out⟩
end Go.Proofs.YtagfedbdakmlgaaGreatDoor

/-! RemP -/
namespace Go.Proofs.YtagfedbdakmlgaaGreatDoor
set_option linter.unusedVariables false
set_option linter.unusedSimpArgs false
open Go.RowKit
def Com.lose (id : Int) (c : Com) : Com := if c.ev = id then ⟨c.id, c.ev, 0, 0, c.author, c.text, c.done, true⟩ else c
def Doc.cutE (d : Doc) (k : Nat) : Doc := ⟨d.title, d.lang, d.rate, d.drop, d.last, d.regs, d.evs.take k ++ d.evs.drop (k + 1), d.coms⟩
/-- what Remove comes to -/
def Doc.remX (d : Doc) (id : Int) : DE :=
  if d.err ≠ 0 then (Doc.zero, d.err) else match findE d.evs id with
    | none => (Doc.zero, 6)
    | some k => ((d.cutE k).withComs (d.coms.map (Com.lose id)), 0)
section
variable {d : Doc} {id : Int} {k : Nat}
end
end Go.Proofs.YtagfedbdakmlgaaGreatDoor

/-! RetV -/
namespace Go.Proofs.YtagfedbdakmlgaaGreatDoor
set_option linter.unusedVariables false
set_option linter.unusedSimpArgs false
open Go.RowKit
section
variable {d : Doc} {b m : Int} {drop : Bool}
/-- what a comment that is not lost must have -/
def Com.Good (c : Com) (evs : List Ev) : Prop := (∃ k e, findE evs c.ev = some k ∧ evs[k]? = some e ∧ 0 ≤ c.fr ∧ c.fr < c.til ∧ c.til ≤ e.len) ∧ nameB c.author = true ∧ vld c.text = true ∧ c.text.toList.isEmpty = false ∧ c.text.size ≤ 400
end
end Go.Proofs.YtagfedbdakmlgaaGreatDoor

/-! RegionInv -/
namespace Go.Proofs.YtagfedbdakmlgaaGreatDoor
set_option linter.unusedVariables false
set_option linter.unusedSimpArgs false
open Go.RowKit
/-- what the region 'a, b := Clone(e), Clone(e)' keeps, whatever has been done of it -/
def C2Inv (mk : Value → Value → Value → Value → Value → Value → Act) (e : Ev) (A : Option Addr) (n c : Nat) (W : World) (l : Array Bool) (a : Act) (w : World) : Prop :=
  l.size = 8 ∧ Ext W w ∧ ∃ v1 v2 v3 v4 va vb : Value, a = mk v1 v2 v3 v4 va vb ∧ (l.getD 0 false = true → v1 = .agg (e.cells A n c)) ∧ (l.getD 2 false = true → v3 = .agg (e.cells A n c)) ∧
    (l.getD 1 false = true → ∃ A1 c1, v2 = .agg (e.cells A1 n c1) ∧ n ≤ c1 ∧ RowsFresh w W.heap.size A1 n e.rows) ∧ (l.getD 3 false = true → ∃ A1 c1, v4 = .agg (e.cells A1 n c1) ∧ n ≤ c1 ∧ RowsFresh w W.heap.size A1 n e.rows) ∧
    (l.getD 4 false = true → ∃ g cs, va = .pointer (some ⟨g, 0, none⟩) ∧ W.heap.size ≤ g ∧ Blk w g 66 cs ∧ cs.size = 7 ∧ (l.getD 6 false = true → v2 = .agg cs)) ∧
    (l.getD 5 false = true → ∃ g cs, vb = .pointer (some ⟨g, 0, none⟩) ∧ W.heap.size ≤ g ∧ Blk w g 66 cs ∧ cs.size = 7 ∧ (l.getD 7 false = true → v4 = .agg cs)) ∧
    (l.getD 4 false = true → l.getD 5 false = true → va ≠ vb) ∧ (l.getD 6 false = true → l.getD 1 false = true) ∧ (l.getD 7 false = true → l.getD 3 false = true) ∧ (l.getD 6 false = true → l.getD 4 false = true) ∧ (l.getD 7 false = true → l.getD 5 false = true)
/-- a frame with six slots written -/
def put6 (a : Act) (x1 x2 x3 x4 sa sb : Nat) (v1 v2 v3 v4 va vb : Value) : Act :=
  { a with tmps := (((((a.tmps.setIfInBounds x1 v1).setIfInBounds x2 v2).setIfInBounds x3 v3).setIfInBounds x4 v4).setIfInBounds sa va).setIfInBounds sb vb }
end Go.Proofs.YtagfedbdakmlgaaGreatDoor

/-! Split -/
namespace Go.Proofs.YtagfedbdakmlgaaGreatDoor
set_option linter.unusedVariables false
set_option linter.unusedSimpArgs false
open Go.RowKit
/-- the error of a split -/
def Ev.splitErr (e : Ev) (frame : Int) (row : Int) (id : Int) : Int :=
  if row < 1 ∨ (e.rows.length : Int) ≤ row then 1
  else if frame ≤ e.inn ∨ e.out ≤ frame ∨ id < 1 ∨ 1099511627776 < id then 2
  else if id = e.id then 7 else 0
def Ev.left (e : Ev) (frame : Int) (row : Nat) : Ev := { e with out := frame, rows := e.rows.take row }
def Ev.right (e : Ev) (frame : Int) (row : Nat) (id : Int) : Ev := { e with id := id, inn := frame, rows := e.rows.drop row }
def Ev.zero : Ev := ⟨0, 0, 0, ⟨#[]⟩, 0, ⟨#[]⟩, []⟩
def Ev.splitL (e : Ev) (frame row id : Int) : Ev := if e.splitErr frame row id = 0 then e.left frame row.toNat else Ev.zero
def Ev.splitR (e : Ev) (frame row id : Int) : Ev := if e.splitErr frame row id = 0 then e.right frame row.toNat id else Ev.zero
/-- what a split comes to -/
def SplitPost (e : Ev) (frame row id : Int) (w : World) (en : Ending) (w' : World) : Prop :=
  ∃ A1 n1 c1 A2 n2 c2, en = .returned (.tuple #[.agg ((e.splitL frame row id).cells A1 n1 c1), .agg ((e.splitR frame row id).cells A2 n2 c2), .int .i64 (e.splitErr frame row id)]) ∧
    n1 ≤ c1 ∧ n2 ≤ c2 ∧ n1 ≤ e.rows.length ∧ n2 ≤ e.rows.length ∧ RowsFresh w' w.heap.size A1 n1 (e.splitL frame row id).rows ∧ RowsFresh w' w.heap.size A2 n2 (e.splitR frame row id).rows ∧ Ext w w'
theorem RowsFresh.nil (w : World) (L c : Nat) : RowsFresh w L none 0 [] := ⟨[], Sl.nil, fun i h r a b => by simp at a, rfl, fun ad h => (by cases h), fun x hx => (by cases hx)⟩
def SplitErrs (k : Int) (w : World) (en : Ending) (w' : World) : Prop := en = .returned (.tuple #[.agg evZero, .agg evZero, .int .i64 k]) ∧ Ext w w'
theorem SplitErrs.post {e : Ev} {frame row id : Int} {w : World} {en : Ending} {w' : World} (h : SplitErrs (e.splitErr frame row id) w en w') (hk : e.splitErr frame row id ≠ 0) : SplitPost e frame row id w en w' := by
  have e1 : e.splitL frame row id = Ev.zero := if_neg hk
  have e2 : e.splitR frame row id = Ev.zero := if_neg hk
  refine ⟨none, 0, 0, none, 0, 0, ?_, Nat.le_refl _, Nat.le_refl _, Nat.zero_le _, Nat.zero_le _, ?_, ?_, h.2⟩
  · rw [e1, e2]; exact h.1
  · rw [e1]; exact RowsFresh.nil _ _ 0
  · rw [e2]; exact RowsFresh.nil _ _ 0
/-- the cases of a split that fails -/
inductive SplitBad (e : Ev) (frame row id : Int) : Int → Prop
  | low : (row < 1) → SplitBad e frame row id 1
  | high : 1 ≤ row → (e.rows.length : Int) ≤ row → SplitBad e frame row id 1
  | ahead : 1 ≤ row → row < e.rows.length → frame ≤ e.inn → SplitBad e frame row id 2
  | behind : 1 ≤ row → row < e.rows.length → e.inn < frame → e.out ≤ frame → SplitBad e frame row id 2
  | idLow : 1 ≤ row → row < e.rows.length → e.inn < frame → frame < e.out → id < 1 → SplitBad e frame row id 2
  | idHigh : 1 ≤ row → row < e.rows.length → e.inn < frame → frame < e.out → 1 ≤ id → 1099511627776 < id → SplitBad e frame row id 2
  | same : 1 ≤ row → row < e.rows.length → e.inn < frame → frame < e.out → 1 ≤ id → id ≤ 1099511627776 → id = e.id → SplitBad e frame row id 7
end Go.Proofs.YtagfedbdakmlgaaGreatDoor

/-! JoinA -/
namespace Go.Proofs.YtagfedbdakmlgaaGreatDoor
set_option linter.unusedVariables false
set_option linter.unusedSimpArgs false
open Go.RowKit
def Ev.joinErr (x y : Ev) : Int := if lessB x y = false then 8 else if 4 < x.rows.length + y.rows.length then 9 else 0
def Ev.joined (x y : Ev) : Ev := { x with inn := min x.inn y.inn, out := max x.out y.out, rows := x.rows ++ y.rows }
def Ev.join (x y : Ev) : Ev := if x.joinErr y = 0 then x.joined y else Ev.zero
def JoinPost (x y : Ev) (w : World) (en : Ending) (w' : World) : Prop :=
  ∃ A n c, en = .returned (.tuple #[.agg ((x.join y).cells A n c), .int .i64 (x.joinErr y)]) ∧ n ≤ c ∧ n ≤ 4 ∧ RowsFresh w' w.heap.size A n (x.join y).rows ∧ Ext w w'
theorem run_appendS {α : Type} {f : α → List Value} {P : Program} (w : World) (t ty : TypeId) {base : Nat} {e : TypeId} {z : Value} {size bytes : Nat} (inf : (P.info? e).map (fun i => (i.zero, i.size, i.bytes)) = some (some z, size, bytes)) (ht : P.underlying t = some (.slice e)) (hzs : z.cells.size = size) (hsz : 0 < size)
    {v : Value} {n : Nat} {xs : List Value} (hown : w.ownsRow base e size v n xs) {A : Option Addr} {m c : Nat} {l : List α} (hS : Sl w size (Cells f) A m l) (hf : ∀ x, (f x).length = size) (h1 : ∀ x, ∀ u ∈ f x, u.oneCell' = true)
    (hroom : (n + m) * bytes ≤ 140737488355328) (hmax : n + m ≤ maxLen) (hbase : base ≤ w.heap.size) :
    ∃ v' w', (Builtin.append_ #[t, t] ty #[v, .slice A m c]).run P w = .ok v' w' ∧ w'.ownsRow base e size v' (n + m) (xs ++ l.flatMap f) ∧ w.grownBy w' v.ownBlock := by
  obtain ⟨i, hi, hz0, hz1, hz2⟩ := info_parts inf
  have hlen : (l.flatMap f).length = m * size := by rw [flatMap_len f size hf, hS.len]
  cases A with
  | none =>
    have hm : m = 0 := by
      rcases Nat.eq_zero_or_pos m with h0 | h0
      · exact h0
      · obtain ⟨_, _, h, _⟩ := hS.2 h0
        cases h
    subst hm
    obtain rfl : l = [] := List.eq_nil_of_length_eq_zero hS.len
    exact ⟨v, w, run_append_of_nil (P := P) w base t ty e i size ht hi v n xs hown c, by simpa using hown, World.grownBy.refl w _⟩
  | some ad =>
    obtain ⟨v', w', hrun, h2, h3, _, h5⟩ := run_append_own_at (P := P) w base t ty e i z size bytes ht hi hz0 hz1 hz2 hzs hsz v n xs hown ad m c (l.flatMap f) hlen (fun j u hu => by
      rcases Nat.eq_zero_or_pos m with h0 | h0
      · subst h0
        obtain rfl : l = [] := List.eq_nil_of_length_eq_zero hS.len
        simp at hu
      · obtain ⟨b, off, hA, hc⟩ := hS.2 h0
        cases hA
        exact sl_news hf hS.len hc j u hu) (flatMap_one h1 l) hmax hroom hbase
    exact ⟨v', w', hrun, h2, h3⟩
theorem wp_appendS {α : Type} {f : α → List Value} {P : Program} {o : Oper} {a : Act} {w : World} {K : Act → World → Prop} {Q : Exit → Act → World → Prop} (s x : Operand) (t : TypeId)
    (ho : o.op = .call { callee := .builtin .append, args := #[s, x], argTypes := #[t, t] })
    {base : Nat} {e : TypeId} {z : Value} {size bytes : Nat} (inf : (P.info? e).map (fun i => (i.zero, i.size, i.bytes)) = some (some z, size, bytes)) (ht : P.underlying t = some (.slice e)) (hzs : z.cells.size = size) (hsz : 0 < size)
    {v : Value} {n : Nat} {xs : List Value} (hown : w.ownsRow base e size v n xs) (hs : a.eval s = v) {A : Option Addr} {m c : Nat} {l : List α} (hx : a.eval x = .slice A m c) (hS : Sl w size (Cells f) A m l) (hf : ∀ x, (f x).length = size) (h1 : ∀ x, ∀ u ∈ f x, u.oneCell' = true)
    (hroom : (n + m) * bytes ≤ 140737488355328) (hmax : n + m ≤ maxLen) (hbase : base ≤ w.heap.size)
    (h : ∀ v' w', w'.ownsRow base e size v' (n + m) (xs ++ l.flatMap f) → w.grownBy w' v.ownBlock → K (a.put o.dst v') w') : o.wp P a w K Q := by
  obtain ⟨v', w', hrun, h2, h3⟩ := run_appendS (P := P) w t o.type inf ht hzs hsz hown (c := c) hS hf h1 hroom hmax hbase
  unfold Oper.wp execOp
  simp only [ho, resolve, invoke, builtin, Sem.run_bind, Sem.run_pure, Result.andThen_ok, List.map_toArray, List.map_cons, List.map_nil, hs, hx, hrun]
  exact h v' w' h2 h3
/-- a block of another type is as it was behind an append -/
theorem Blk.grown {w w1 : World} {g : Nat} {t T : TypeId} {cs : Array Value} {row : Option Nat} (h : Blk w g t cs) (hg : w.grownBy w1 row) (hr : ∀ q, row = some q → Typed w T q) (hne : t ≠ T) : Blk w1 g t cs := by
  refine (hg.block g h.lt (fun e => ?_)).trans h
  exact Typed.ne h.typed (hr g e.symm) hne rfl
end Go.Proofs.YtagfedbdakmlgaaGreatDoor

/-! RetPlain -/
namespace Go.Proofs.YtagfedbdakmlgaaGreatDoor
set_option linter.unusedVariables false
set_option linter.unusedSimpArgs false
open Go.RowKit
/-- what a valid event is -/
structure Ev.Ok (e : Ev) (regs : List Reg) : Prop where
  id1 : 1 ≤ e.id
  id2 : e.id ≤ 1099511627776
  span : spansB e.inn e.out = true
  found : ∃ r, findR regs e.region = some r ∧ r.usable = true ∧ (e.rows.length : Int) ≤ r.height ∧ ∀ x ∈ e.rows, 0 ≤ rowLen x ∧ rowLen x ≤ r.width
  kind : noKind e.kind = false
  name : ¬ (e.speaker.toList.isEmpty = false ∧ nameB e.speaker = false)
  some_ : e.rows.length ≠ 0
  few : e.rows.length ≤ 4
  rows : ∀ r ∈ e.rows, rowErrE r = 0
/-- an event with some of the rows of a valid one -/
theorem Ev.Ok.part {e f : Ev} {regs : List Reg} (h : e.Ok regs) (h1 : 1 ≤ f.id) (h2 : f.id ≤ 1099511627776) (h3 : spansB f.inn f.out = true) (hr : f.region = e.region) (hk : f.kind = e.kind) (hs : f.speaker = e.speaker) (hl : f.rows.length ≠ 0) (hle : f.rows.length ≤ e.rows.length) (hsub : ∀ r ∈ f.rows, r ∈ e.rows) : f.Ok regs := by
  obtain ⟨_, _, _, ⟨r, hr', hu, hh, hw⟩, h4, h5, h6, h7, h8⟩ := h
  exact ⟨h1, h2, h3, ⟨r, by rw [hr]; exact hr', hu, by omega, fun x hx => hw x (hsub x hx)⟩, by rw [hk]; exact h4, by rw [hs]; exact h5, hl, by omega, fun x hx => h8 x (hsub x hx)⟩
theorem lenSum_of : ∀ {l : List Int} (s : Int), (∀ x ∈ l, 0 ≤ x) → lenSum s l = s + l.sum
  | [], s, _ => by simp [lenSum]
  | n :: l, s, h => by
    have h1 := h n (List.mem_cons_self ..)
    unfold lenSum
    rw [if_neg (by omega), lenSum_of (s + n) fun x hx => h x (List.mem_cons_of_mem _ hx), List.sum_cons]
    omega
theorem Ev.Ok.len {e : Ev} {regs : List Reg} (h : e.Ok regs) : e.len = (e.rows.length : Int) - 1 + (e.rows.map rowLen).sum := by
  obtain ⟨_, _, _, hw⟩ := h.found
  unfold Ev.len
  rw [lenSum_of _ (fun x hx => by obtain ⟨y, hy, rfl⟩ := List.mem_map.1 hx; exact (hw.2 y hy).1)]
  have := h.some_
  omega
theorem Ev.Ok.frames {e : Ev} {regs : List Reg} (h : e.Ok regs) : e.frames = e.out - e.inn := by unfold Ev.frames; rw [if_pos h.span]
end Go.Proofs.YtagfedbdakmlgaaGreatDoor

/-! ShP -/
namespace Go.Proofs.YtagfedbdakmlgaaGreatDoor
set_option linter.unusedVariables false
set_option linter.unusedSimpArgs false
open Go.RowKit
def Ev.mv (fr sh : Int) (e : Ev) : Ev := if e.inn < fr then e else ⟨e.id, e.inn + sh, e.out + sh, e.region, e.kind, e.speaker, e.rows⟩
def Ev.mvBad (fr sh : Int) (e : Ev) : Bool := decide (¬ e.inn < fr ∧ (e.inn + sh < 0 ∨ 5184000 < e.out + sh))
def Doc.withEvs (d : Doc) (l : List Ev) : Doc := ⟨d.title, d.lang, d.rate, d.drop, d.last, d.regs, l, d.coms⟩
/-- what Shift comes to -/
def Doc.shX (d : Doc) (fr sh : Int) : DE :=
  if d.err ≠ 0 then (Doc.zero, d.err) else if sh < -5184000 ∨ 5184000 < sh then (Doc.zero, 2) else if d.evs.any (Ev.mvBad fr sh) = true then (Doc.zero, 2) else (d.withEvs (srtE (d.evs.map (Ev.mv fr sh))), 0)
section
variable {d : Doc} {fr sh : Int}
end
end Go.Proofs.YtagfedbdakmlgaaGreatDoor

/-! PutP -/
namespace Go.Proofs.YtagfedbdakmlgaaGreatDoor
set_option linter.unusedVariables false
set_option linter.unusedSimpArgs false
open Go.RowKit
def Ev.chars (e : Ev) : List Int := runes ⟨e.text.toArray⟩ 0
def Com.onto (id : Int) (a b : List Int) (c : Com) : Com := if c.ev = id then c.fol a b else c
def Doc.putD (d : Doc) (e x : Ev) (k : Nat) : Doc := ⟨d.title, d.lang, d.rate, d.drop, d.last, d.regs, srtE (d.evs.set k e), d.coms.map (Com.onto e.id x.chars e.chars)⟩
/-- what Put comes to -/
def Doc.putX (d : Doc) (e : Ev) : DE :=
  if d.err ≠ 0 then (Doc.zero, d.err) else match findE d.evs e.id with
    | none => (Doc.zero, 6)
    | some k => if e.err d.regs ≠ 0 then (Doc.zero, e.err d.regs) else match d.evs[k]? with
      | none => (Doc.zero, 6)
      | some x => (d.putD e x k, 0)
section
variable {d : Doc} {e x : Ev} {k : Nat}
end
/-- calls of known answers, then one store of a whole row, in a drawn region -/
structure PutJ (vs : List Value) (g o : Nat) (cs : List Value) (W : World) (us : List Value) (w' : World) : Prop where
  few : us.length ≤ vs.length → Ext W w' ∧ us = vs.take us.length
  all : us.length = vs.length + 1 → ∃ w5, Ext W w5 ∧ w' = w5.setCells g o cs
section
variable {vs us : List Value} {g o : Nat} {cs : List Value} {W w' w2 : World} {u : Value}
theorem PutJ.start (W : World) : PutJ vs g o cs W [] W.drew := ⟨fun _ => ⟨(Ext.refl W).drew, by simp⟩, fun h => by simp at h⟩
theorem PutJ.ext (j : PutJ vs g o cs W us w') (h : us.length ≤ vs.length) : Ext W w' := (j.few h).1
theorem PutJ.call (j : PutJ vs g o cs W us w') (hu : vs[us.length]? = some u) (hx : Ext w' w2) : PutJ vs g o cs W (us ++ [u]) w2 := by
  have hl := (List.getElem?_eq_some_iff.1 hu).1
  obtain ⟨h1, h2⟩ := j.few (by omega)
  refine ⟨fun _ => ⟨h1.trans hx, ?_⟩, fun h => by rw [List.length_append, List.length_singleton] at h; omega⟩
  rw [List.length_append, List.length_singleton, take_snoc' vs us.length u hu, ← h2]
theorem PutJ.val (j : PutJ vs g o cs W us w') (h : us.length ≤ vs.length) : us = vs.take us.length := (j.few h).2
end
end Go.Proofs.YtagfedbdakmlgaaGreatDoor
