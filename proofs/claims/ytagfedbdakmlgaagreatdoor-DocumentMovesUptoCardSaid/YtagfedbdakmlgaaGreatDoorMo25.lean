/- Laid together: The walks of the reference's Head and Same of documents. Arguments of chapter 14 (and 12), opened: a remark, numbers, strings. The walk of the law DocumentMoves. Arguments that are rates, spans, small numbers, booleans and lists of drifts, opened. An argument that is two numbers, opened. -/
import Derived.Test.YtagfedbdakmlgaaGreatDoorMo24
import Derived.Test.YtagfedbdakmlgaaGreatDoorMo08
import Derived.Test.YtagfedbdakmlgaaGreatDoorMo13
import Derived.Test.YtagfedbdakmlgaaGreatDoorMo16
import Derived.Test.YtagfedbdakmlgaaGreatDoorMo17
import Derived.Test.YtagfedbdakmlgaaGreatDoorMo21
import Derived.Test.YtagfedbdakmlgaaGreatDoorMo22
import Derived.Test.YtagfedbdakmlgaaGreatDoorMo01
import Derived.OpenShut

/-! DSameR -/
namespace Go.Proofs.YtagfedbdakmlgaaGreatDoor
set_option linter.unusedVariables false
set_option linter.unusedSimpArgs false
open Go.RowKit
set_option maxRecDepth 100000 in
set_option maxHeartbeats 1000000 in
theorem R12Head_any (d : Doc) (h : DocH) (w : World) : Calls Tryz.prog 37 #[.agg (d.cells h)] w fun e w' => e = .returned d.head ∧ Ext w w' := by
  have HX := Lib.hid (((Ext.refl w).alloc (.cells (d.cells h) 27)))
  unfold Doc.cells at *
  go_enter Tryz.func37, Tryz.ntmps37
  go_wp2
  exact bodyPost_ret (v := d.head) (by simp [results, Tryz.results37, go_sem, Doc.head]) rfl ⟨rfl, HX.out.alloc _⟩
theorem neq_head (a b : Doc) (w : World) : (binOp .neq 54 a.head b.head).run Tryz.prog w = .ok (.bool (!decide (a.hd = b.hd))) w := by
  obtain ⟨a1, a2, a3, a4, a5, a6, a7, a8⟩ := a
  obtain ⟨b1, b2, b3, b4, b5, b6, b7, b8⟩ := b
  unfold Doc.head Doc.hd
  dsimp only
  go_simp
  simp only [toList_inj]
  repeat' split
  all_goals simp_all
set_option maxRecDepth 100000 in
set_option maxHeartbeats 8000000 in
theorem R12Same_big (a b : Doc) (h k : DocH) (w : World) (hA : DocAt w a h) (hB : DocAt w b k) (h1 : h.rn ≤ 1000000000 ∧ h.en ≤ 1000000000 ∧ h.cn ≤ 1000000000) (h2 : k.rn ≤ 4611686018427387904 ∧ k.en ≤ 4611686018427387904 ∧ k.cn ≤ 4611686018427387904) :
    Calls Tryz.prog 14 #[.agg (a.cells h), .agg (b.cells k)] w fun en w' => en = .returned (.bool (sameDoc a b)) ∧ Ext w w' := by
  have HX : Hid (Ext w ((w.alloc (.cells (a.cells h) 27)).alloc (.cells (b.cells k) 27))) := ((Ext.refl w).alloc _).alloc _
  have HBa : Hid (Blk ((w.alloc (.cells (a.cells h) 27)).alloc (.cells (b.cells k) 27)) w.heap.size 27 (a.cells h)) := (Blk.new w 27 (a.cells h)).alloc _
  have HBb : Hid (Blk ((w.alloc (.cells (a.cells h) 27)).alloc (.cells (b.cells k) 27)) (w.heap.size + 1) 27 (b.cells k)) := Blk.new' (by simp)
  have HHa := Lib.hid (fun w' => R12Head_any a h w')
  have HHb := Lib.hid (fun w' => R12Head_any b k w')
  have HA := Lib.hid hA
  have HB := Lib.hid hB
  have hq0 := fun w => neq_head a b w
  have lr1 := hA.regs.len
  have lr2 := hB.regs.len
  have le1 := hA.evs.len
  have le2 := hB.evs.len
  have lc1 := hA.coms.len
  have lc2 := hB.coms.len
  clear hA hB
  unfold Doc.head at HHa HHb hq0
  unfold Doc.cells at *
  obtain ⟨hra, hrn, hrc, hea, hen, hec, hca, hcn, hcc⟩ := h
  obtain ⟨kra, krn, krc, kea, ken, kec, kca, kcn, kcc⟩ := k
  dsimp only at *
  have HQ := Lib.hid hq0
  have HS : Hid (sameDoc a b = (decide (a.hd = b.hd) && (decide (a.regs = b.regs) && (decide (a.evs = b.evs) && decide (a.coms = b.coms))))) := rfl
  clear hq0
  by_cases hh : a.hd = b.hd
  case neg =>
    have HH := Lib.hid hh
    have hq := fun w => HQ.out w
    rw [decide_eq_false hh] at hq
    simp only [Bool.not_false] at hq
    clear hh
    go_enter Tryz.func14, Tryz.ntmps14
    go_wp2_with fail
    have hr_1 := fun (x : EW ((w.alloc (.cells #[.string a.title, .string a.lang, .int .u8 a.rate, .bool a.drop, .int .i64 a.last, .slice hra hrn hrc, .slice hea hen hec, .slice hca hcn hcc] 27)).alloc (.cells #[.string b.title, .string b.lang, .int .u8 b.rate, .bool b.drop, .int .i64 b.last, .slice kra krn krc, .slice kea ken kec, .slice kca kcn kcc] 27))) (o : Nat) => (HBa.out.ext x.ext).cell o
    have hr_2 := fun (x : EW ((w.alloc (.cells #[.string a.title, .string a.lang, .int .u8 a.rate, .bool a.drop, .int .i64 a.last, .slice hra hrn hrc, .slice hea hen hec, .slice hca hcn hcc] 27)).alloc (.cells #[.string b.title, .string b.lang, .int .u8 b.rate, .bool b.drop, .int .i64 b.last, .slice kra krn krc, .slice kea ken kec, .slice kca kcn kcc] 27))) (o : Nat) => (HBb.out.ext x.ext).cell o
    refine wp_region_ew ((w.alloc (.cells #[.string a.title, .string a.lang, .int .u8 a.rate, .bool a.drop, .int .i64 a.last, .slice hra hrn hrc, .slice hea hen hec, .slice hca hcn hcc] 27)).alloc (.cells #[.string b.title, .string b.lang, .int .u8 b.rate, .bool b.drop, .int .i64 b.last, .slice kra krn krc, .slice kea ken kec, .slice kca kcn kcc] 27)) (Ext.refl _) (by kernel_rfl) (by kernel_rfl) ?_
    repeat (go_big_quiet_step ((go_at_call 37; first | with_reducible exact EW.calls _ (HHa.out _) | with_reducible exact EW.calls _ (HHb.out _))))
    refine wpQuiet_nil ?_
    rintro w_3 ⟨⟨_, hx_4⟩, rfl⟩
    try dsimp only
    clear hr_1 hr_2
    have HX_5 := Lib.hid (HX.out.trans hx_4)
    have HB_6 := Lib.hid (HBa.out.ext hx_4)
    have HB_7 := Lib.hid (HBb.out.ext hx_4)
    clear hx_4 HX HBa HBb
    go_wp2_with fail
    go_ret
    exact ⟨ret_bool (by rw [HS.out]; rw [decide_eq_false HH.out]; rfl), HX_5.out⟩
  have HH := Lib.hid hh
  have hq := fun w => HQ.out w
  rw [decide_eq_true hh] at hq
  simp only [Bool.not_true] at hq
  clear hh
  have L1 := Lib.hid lr1
  have L2 := Lib.hid lr2
  have L3 := Lib.hid le1
  have L4 := Lib.hid le2
  have L5 := Lib.hid lc1
  have L6 := Lib.hid lc2
  clear lr1 lr2 le1 le2 lc1 lc2
  by_cases n1 : hrn = krn
  case neg =>
    have hb1 : ((hrn : Int) != (krn : Int)) = true := by simp; omega
    have HN : Hid (¬ a.regs = b.regs) := by show ¬ _; intro h; apply n1; rw [← L1.out, ← L2.out, h]
    clear n1
    go_enter Tryz.func14, Tryz.ntmps14
    go_wp2_with fail
    have hr_8 := fun (x : EW ((w.alloc (.cells #[.string a.title, .string a.lang, .int .u8 a.rate, .bool a.drop, .int .i64 a.last, .slice hra hrn hrc, .slice hea hen hec, .slice hca hcn hcc] 27)).alloc (.cells #[.string b.title, .string b.lang, .int .u8 b.rate, .bool b.drop, .int .i64 b.last, .slice kra krn krc, .slice kea ken kec, .slice kca kcn kcc] 27))) (o : Nat) => (HBa.out.ext x.ext).cell o
    have hr_9 := fun (x : EW ((w.alloc (.cells #[.string a.title, .string a.lang, .int .u8 a.rate, .bool a.drop, .int .i64 a.last, .slice hra hrn hrc, .slice hea hen hec, .slice hca hcn hcc] 27)).alloc (.cells #[.string b.title, .string b.lang, .int .u8 b.rate, .bool b.drop, .int .i64 b.last, .slice kra krn krc, .slice kea ken kec, .slice kca kcn kcc] 27))) (o : Nat) => (HBb.out.ext x.ext).cell o
    refine wp_region_ew ((w.alloc (.cells #[.string a.title, .string a.lang, .int .u8 a.rate, .bool a.drop, .int .i64 a.last, .slice hra hrn hrc, .slice hea hen hec, .slice hca hcn hcc] 27)).alloc (.cells #[.string b.title, .string b.lang, .int .u8 b.rate, .bool b.drop, .int .i64 b.last, .slice kra krn krc, .slice kea ken kec, .slice kca kcn kcc] 27)) (Ext.refl _) (by kernel_rfl) (by kernel_rfl) ?_
    repeat (go_big_quiet_step ((go_at_call 37; first | with_reducible exact EW.calls _ (HHa.out _) | with_reducible exact EW.calls _ (HHb.out _))))
    refine wpQuiet_nil ?_
    rintro w_10 ⟨⟨_, hx_11⟩, rfl⟩
    try dsimp only
    clear hr_8 hr_9
    have HX_12 := Lib.hid (HX.out.trans hx_11)
    have HB_13 := Lib.hid (HBa.out.ext hx_11)
    have HB_14 := Lib.hid (HBb.out.ext hx_11)
    clear hx_11 HX HBa HBb
    go_wp2_with fail
    go_ret
    exact ⟨ret_bool (by rw [HS.out]; rw [decide_eq_false HN.out]; simp), HX_12.out⟩
  subst n1
  have hb1 : ((hrn : Int) != (hrn : Int)) = false := by simp
  by_cases n2 : hen = ken
  case neg =>
    have hb2 : ((hen : Int) != (ken : Int)) = true := by simp; omega
    have HN : Hid (¬ a.evs = b.evs) := by show ¬ _; intro h; apply n2; rw [← L3.out, ← L4.out, h]
    clear n2
    go_enter Tryz.func14, Tryz.ntmps14
    go_wp2_with fail
    have hr_15 := fun (x : EW ((w.alloc (.cells #[.string a.title, .string a.lang, .int .u8 a.rate, .bool a.drop, .int .i64 a.last, .slice hra hrn hrc, .slice hea hen hec, .slice hca hcn hcc] 27)).alloc (.cells #[.string b.title, .string b.lang, .int .u8 b.rate, .bool b.drop, .int .i64 b.last, .slice kra hrn krc, .slice kea ken kec, .slice kca kcn kcc] 27))) (o : Nat) => (HBa.out.ext x.ext).cell o
    have hr_16 := fun (x : EW ((w.alloc (.cells #[.string a.title, .string a.lang, .int .u8 a.rate, .bool a.drop, .int .i64 a.last, .slice hra hrn hrc, .slice hea hen hec, .slice hca hcn hcc] 27)).alloc (.cells #[.string b.title, .string b.lang, .int .u8 b.rate, .bool b.drop, .int .i64 b.last, .slice kra hrn krc, .slice kea ken kec, .slice kca kcn kcc] 27))) (o : Nat) => (HBb.out.ext x.ext).cell o
    refine wp_region_ew ((w.alloc (.cells #[.string a.title, .string a.lang, .int .u8 a.rate, .bool a.drop, .int .i64 a.last, .slice hra hrn hrc, .slice hea hen hec, .slice hca hcn hcc] 27)).alloc (.cells #[.string b.title, .string b.lang, .int .u8 b.rate, .bool b.drop, .int .i64 b.last, .slice kra hrn krc, .slice kea ken kec, .slice kca kcn kcc] 27)) (Ext.refl _) (by kernel_rfl) (by kernel_rfl) ?_
    repeat (go_big_quiet_step ((go_at_call 37; first | with_reducible exact EW.calls _ (HHa.out _) | with_reducible exact EW.calls _ (HHb.out _))))
    refine wpQuiet_nil ?_
    rintro w_17 ⟨⟨_, hx_18⟩, rfl⟩
    try dsimp only
    clear hr_15 hr_16
    have HX_19 := Lib.hid (HX.out.trans hx_18)
    have HB_20 := Lib.hid (HBa.out.ext hx_18)
    have HB_21 := Lib.hid (HBb.out.ext hx_18)
    clear hx_18 HX HBa HBb
    go_wp2_with fail
    go_ret
    exact ⟨ret_bool (by rw [HS.out]; rw [decide_eq_false HN.out]; simp), HX_19.out⟩
  subst n2
  have hb2 : ((hen : Int) != (hen : Int)) = false := by simp
  by_cases n3 : hcn = kcn
  case neg =>
    have hb3 : ((hcn : Int) != (kcn : Int)) = true := by simp; omega
    have HN : Hid (¬ a.coms = b.coms) := by show ¬ _; intro h; apply n3; rw [← L5.out, ← L6.out, h]
    clear n3
    go_enter Tryz.func14, Tryz.ntmps14
    go_wp2_with fail
    have hr_22 := fun (x : EW ((w.alloc (.cells #[.string a.title, .string a.lang, .int .u8 a.rate, .bool a.drop, .int .i64 a.last, .slice hra hrn hrc, .slice hea hen hec, .slice hca hcn hcc] 27)).alloc (.cells #[.string b.title, .string b.lang, .int .u8 b.rate, .bool b.drop, .int .i64 b.last, .slice kra hrn krc, .slice kea hen kec, .slice kca kcn kcc] 27))) (o : Nat) => (HBa.out.ext x.ext).cell o
    have hr_23 := fun (x : EW ((w.alloc (.cells #[.string a.title, .string a.lang, .int .u8 a.rate, .bool a.drop, .int .i64 a.last, .slice hra hrn hrc, .slice hea hen hec, .slice hca hcn hcc] 27)).alloc (.cells #[.string b.title, .string b.lang, .int .u8 b.rate, .bool b.drop, .int .i64 b.last, .slice kra hrn krc, .slice kea hen kec, .slice kca kcn kcc] 27))) (o : Nat) => (HBb.out.ext x.ext).cell o
    refine wp_region_ew ((w.alloc (.cells #[.string a.title, .string a.lang, .int .u8 a.rate, .bool a.drop, .int .i64 a.last, .slice hra hrn hrc, .slice hea hen hec, .slice hca hcn hcc] 27)).alloc (.cells #[.string b.title, .string b.lang, .int .u8 b.rate, .bool b.drop, .int .i64 b.last, .slice kra hrn krc, .slice kea hen kec, .slice kca kcn kcc] 27)) (Ext.refl _) (by kernel_rfl) (by kernel_rfl) ?_
    repeat (go_big_quiet_step ((go_at_call 37; first | with_reducible exact EW.calls _ (HHa.out _) | with_reducible exact EW.calls _ (HHb.out _))))
    refine wpQuiet_nil ?_
    rintro w_24 ⟨⟨_, hx_25⟩, rfl⟩
    try dsimp only
    clear hr_22 hr_23
    have HX_26 := Lib.hid (HX.out.trans hx_25)
    have HB_27 := Lib.hid (HBa.out.ext hx_25)
    have HB_28 := Lib.hid (HBb.out.ext hx_25)
    clear hx_25 HX HBa HBb
    go_wp2_with fail
    go_ret
    exact ⟨ret_bool (by rw [HS.out]; rw [decide_eq_false HN.out]; simp), HX_26.out⟩
  subst n3
  have hb3 : ((hcn : Int) != (hcn : Int)) = false := by simp
  go_enter Tryz.func14, Tryz.ntmps14
  go_wp2_with fail
  have hr_29 := fun (x : EW ((w.alloc (.cells #[.string a.title, .string a.lang, .int .u8 a.rate, .bool a.drop, .int .i64 a.last, .slice hra hrn hrc, .slice hea hen hec, .slice hca hcn hcc] 27)).alloc (.cells #[.string b.title, .string b.lang, .int .u8 b.rate, .bool b.drop, .int .i64 b.last, .slice kra hrn krc, .slice kea hen kec, .slice kca hcn kcc] 27))) (o : Nat) => (HBa.out.ext x.ext).cell o
  have hr_30 := fun (x : EW ((w.alloc (.cells #[.string a.title, .string a.lang, .int .u8 a.rate, .bool a.drop, .int .i64 a.last, .slice hra hrn hrc, .slice hea hen hec, .slice hca hcn hcc] 27)).alloc (.cells #[.string b.title, .string b.lang, .int .u8 b.rate, .bool b.drop, .int .i64 b.last, .slice kra hrn krc, .slice kea hen kec, .slice kca hcn kcc] 27))) (o : Nat) => (HBb.out.ext x.ext).cell o
  refine wp_region_ew ((w.alloc (.cells #[.string a.title, .string a.lang, .int .u8 a.rate, .bool a.drop, .int .i64 a.last, .slice hra hrn hrc, .slice hea hen hec, .slice hca hcn hcc] 27)).alloc (.cells #[.string b.title, .string b.lang, .int .u8 b.rate, .bool b.drop, .int .i64 b.last, .slice kra hrn krc, .slice kea hen kec, .slice kca hcn kcc] 27)) (Ext.refl _) (by kernel_rfl) (by kernel_rfl) ?_
  repeat (go_big_quiet_step ((go_at_call 37; first | with_reducible exact EW.calls _ (HHa.out _) | with_reducible exact EW.calls _ (HHb.out _))))
  refine wpQuiet_nil ?_
  rintro w_31 ⟨⟨_, hx_32⟩, rfl⟩
  try dsimp only
  clear hr_29 hr_30
  have HX_33 := Lib.hid (HX.out.trans hx_32)
  have HB_34 := Lib.hid (HBa.out.ext hx_32)
  have HB_35 := Lib.hid (HBb.out.ext hx_32)
  clear hx_32 HX HBa HBb
  have hc_36 := fun o => HB_34.out.cell o
  have hc_37 := fun o => HB_35.out.cell o
  go_wp2_with fail
  clear hc_36 hc_37
  go_loopw [43] (fun i wr => EqRel w_31 hrn a.regs b.regs i wr) (fun i _ => hrn - (intOf i).toNat)
  case atStart => exact ⟨0, Nat.zero_le _, rfl, Ext.refl _, rfl⟩
  case round =>
    obtain ⟨m, hm, rfl, hx, hp⟩ := hrel
    have HPr := Lib.hid hp
    have hxx := hx
    clear hp hx
    have HX_38 := Lib.hid (HX_33.out.trans hxx)
    have HB_39 := Lib.hid (HB_34.out.ext hxx)
    have HB_40 := Lib.hid (HB_35.out.ext hxx)
    clear HX_33 HB_34 HB_35
    by_cases hlt : m < hrn
    · obtain ⟨b1, o1, r, hea1, hr, c0, c1, c2, c3, c4, c5, c6⟩ := (HA.out.regs.ext HX_38.out).at_ hlt
      obtain ⟨b2, o2, s, hea2, hs, d0, d1, d2, d3, d4, d5, d6⟩ := (HB.out.regs.ext HX_38.out).at_ hlt
      subst hea1 hea2
      have HR := Lib.hid hr
      have HSs := Lib.hid hs
      clear hr hs
      have hk0 : (0 : Int) ≤ (m : Int) := by omega
      have hk1 : (m : Int) < (hrn : Int) := by omega
      by_cases hq : r = s
      · subst hq
        have HT := Lib.hid (take_eq_succ HPr.out HR.out HSs.out)
        have hne := fun w => neq_reg_no r w
        unfold Reg.val at hne
        have HXk := Lib.hid (Ext.refl wr)
        go_wp2_with fail
        have hr_43 := fun (x : EW wr) (o : Nat) => (HB_39.out.ext x.ext).cell o
        have hr_44 := fun (x : EW wr) (o : Nat) => (HB_40.out.ext x.ext).cell o
        have hr_45 := fun (y : EW wr) => y.ext.cell c0
        have hr_46 := fun (y : EW wr) => y.ext.cell c1
        have hr_47 := fun (y : EW wr) => y.ext.cell c2
        have hr_48 := fun (y : EW wr) => y.ext.cell c3
        have hr_49 := fun (y : EW wr) => y.ext.cell c4
        have hr_50 := fun (y : EW wr) => y.ext.cell c5
        have hr_51 := fun (y : EW wr) => y.ext.cell c6
        have hr_52 := fun (y : EW wr) => y.ext.cell d0
        have hr_53 := fun (y : EW wr) => y.ext.cell d1
        have hr_54 := fun (y : EW wr) => y.ext.cell d2
        have hr_55 := fun (y : EW wr) => y.ext.cell d3
        have hr_56 := fun (y : EW wr) => y.ext.cell d4
        have hr_57 := fun (y : EW wr) => y.ext.cell d5
        have hr_58 := fun (y : EW wr) => y.ext.cell d6
        refine wp_region_ew wr (Ext.refl _) (by kernel_rfl) (by kernel_rfl) ?_
        repeat (go_big_quiet_step ((fail)))
        refine wpQuiet_nil ?_
        rintro w_59 ⟨⟨_, hx_60⟩, rfl⟩
        have HLast := Lib.hid hx_60
        try dsimp only
        clear hr_43 hr_44 hr_45 hr_46 hr_47 hr_48 hr_49 hr_50 hr_51 hr_52 hr_53 hr_54 hr_55 hr_56 hr_57 hr_58
        have HX_61 := Lib.hid (HX_38.out.trans hx_60)
        have HB_62 := Lib.hid (HB_39.out.ext hx_60)
        have HB_63 := Lib.hid (HB_40.out.ext hx_60)
        clear hx_60 HX_38 HB_39 HB_40
        go_wp2_with fail
        exact ⟨⟨m + 1, by omega, by go_num, hxx.trans HLast.out, HT.out⟩, by simp [intOf]; omega⟩
      have HN := Lib.hid (ne_at HR.out HSs.out hq)
      have hne := fun w => neq_reg_yes r s hq w
      unfold Reg.val at hne
      clear hq
      go_wp2_with fail
      have hr_64 := fun (x : EW wr) (o : Nat) => (HB_39.out.ext x.ext).cell o
      have hr_65 := fun (x : EW wr) (o : Nat) => (HB_40.out.ext x.ext).cell o
      have hr_66 := fun (y : EW wr) => y.ext.cell c0
      have hr_67 := fun (y : EW wr) => y.ext.cell c1
      have hr_68 := fun (y : EW wr) => y.ext.cell c2
      have hr_69 := fun (y : EW wr) => y.ext.cell c3
      have hr_70 := fun (y : EW wr) => y.ext.cell c4
      have hr_71 := fun (y : EW wr) => y.ext.cell c5
      have hr_72 := fun (y : EW wr) => y.ext.cell c6
      have hr_73 := fun (y : EW wr) => y.ext.cell d0
      have hr_74 := fun (y : EW wr) => y.ext.cell d1
      have hr_75 := fun (y : EW wr) => y.ext.cell d2
      have hr_76 := fun (y : EW wr) => y.ext.cell d3
      have hr_77 := fun (y : EW wr) => y.ext.cell d4
      have hr_78 := fun (y : EW wr) => y.ext.cell d5
      have hr_79 := fun (y : EW wr) => y.ext.cell d6
      refine wp_region_ew wr (Ext.refl _) (by kernel_rfl) (by kernel_rfl) ?_
      repeat (go_big_quiet_step ((fail)))
      refine wpQuiet_nil ?_
      rintro w_80 ⟨⟨_, hx_81⟩, rfl⟩
      try dsimp only
      clear hr_64 hr_65 hr_66 hr_67 hr_68 hr_69 hr_70 hr_71 hr_72 hr_73 hr_74 hr_75 hr_76 hr_77 hr_78 hr_79
      have HX_82 := Lib.hid (HX_38.out.trans hx_81)
      have HB_83 := Lib.hid (HB_39.out.ext hx_81)
      have HB_84 := Lib.hid (HB_40.out.ext hx_81)
      clear hx_81 HX_38 HB_39 HB_40
      go_wp2_with fail
      go_ret
      exact ⟨ret_bool (by rw [HS.out, decide_eq_false HN.out]; simp), HX_82.out⟩
    have hmn : m = hrn := by omega
    subst hmn
    have HQr := Lib.hid (eq_of_take L1.out L2.out HPr.out)
    clear hxx
    have hc_85 := fun o => HB_39.out.cell o
    have hc_86 := fun o => HB_40.out.cell o
    go_wp2_with fail
    clear hc_85 hc_86
    obtain ⟨woe, rfl⟩ : ∃ wo : World, wo = wr := ⟨_, rfl⟩
    go_loopw [61] (fun i wr => EqRel woe hen a.evs b.evs i wr) (fun i _ => hen - (intOf i).toNat)
    case atStart => exact ⟨0, Nat.zero_le _, rfl, Ext.refl _, rfl⟩
    case round =>
      obtain ⟨m, hm, rfl, hx, hp⟩ := hrel
      have HPe := Lib.hid hp
      have hxx := hx
      clear hp hx
      have HX_87 := Lib.hid (HX_38.out.trans hxx)
      have HB_88 := Lib.hid (HB_39.out.ext hxx)
      have HB_89 := Lib.hid (HB_40.out.ext hxx)
      clear HX_38 HB_39 HB_40
      by_cases hlt : m < hen
      · obtain ⟨b1, o1, r, A1, n1, c1', hea1, hr, hat1, c0, c1, c2, c3, c4, c5, c6⟩ := (HA.out.evs.ext HX_87.out).at_ev hlt
        obtain ⟨b2, o2, s, A2, n2, c2', hea2, hs, hat2, d0, d1, d2, d3, d4, d5, d6⟩ := (HB.out.evs.ext HX_87.out).at_ev hlt
        subst hea1 hea2
        have HSm := Lib.hid (fun (y : EW wr) => RESame_any r s A1 n1 c1' A2 n2 c2' y.w (hat1.ext y.ext) (hat2.ext y.ext))
        unfold Ev.cells at HSm
        clear hat1 hat2
        have HR := Lib.hid hr
        have HSs := Lib.hid hs
        clear hr hs
        have hk0 : (0 : Int) ≤ (m : Int) := by omega
        have hk1 : (m : Int) < (hen : Int) := by omega
        by_cases hq : r = s
        · subst hq
          have HT := Lib.hid (take_eq_succ HPe.out HR.out HSs.out)
          have HSq : Hid (∀ y : EW wr, Calls Tryz.prog 46 #[.agg #[.int .i64 r.id, .int .i64 r.inn, .int .i64 r.out, .string r.region, .int .u8 r.kind, .string r.speaker, .slice A1 n1 c1'], .agg #[.int .i64 r.id, .int .i64 r.inn, .int .i64 r.out, .string r.region, .int .u8 r.kind, .string r.speaker, .slice A2 n2 c2']] y.w fun en w' => en = .returned (.bool true) ∧ Ext y.w w') := fun y => by have := HSm.out y; rwa [decide_eq_true rfl] at this
          have HXk := Lib.hid (Ext.refl wr)
          go_wp2_with fail
          have hr_92 := fun (x : EW wr) (o : Nat) => (HB_88.out.ext x.ext).cell o
          have hr_93 := fun (x : EW wr) (o : Nat) => (HB_89.out.ext x.ext).cell o
          have hr_94 := fun (y : EW wr) => y.ext.cell c0
          have hr_95 := fun (y : EW wr) => y.ext.cell c1
          have hr_96 := fun (y : EW wr) => y.ext.cell c2
          have hr_97 := fun (y : EW wr) => y.ext.cell c3
          have hr_98 := fun (y : EW wr) => y.ext.cell c4
          have hr_99 := fun (y : EW wr) => y.ext.cell c5
          have hr_100 := fun (y : EW wr) => y.ext.cell c6
          have hr_101 := fun (y : EW wr) => y.ext.cell d0
          have hr_102 := fun (y : EW wr) => y.ext.cell d1
          have hr_103 := fun (y : EW wr) => y.ext.cell d2
          have hr_104 := fun (y : EW wr) => y.ext.cell d3
          have hr_105 := fun (y : EW wr) => y.ext.cell d4
          have hr_106 := fun (y : EW wr) => y.ext.cell d5
          have hr_107 := fun (y : EW wr) => y.ext.cell d6
          refine wp_region_ew wr (Ext.refl _) (by kernel_rfl) (by kernel_rfl) ?_
          repeat (go_big_quiet_step ((go_at_call 46; exact EW.calls _ (HSq.out _))))
          refine wpQuiet_nil ?_
          rintro w_108 ⟨⟨_, hx_109⟩, rfl⟩
          have HLast := Lib.hid hx_109
          try dsimp only
          clear hr_92 hr_93 hr_94 hr_95 hr_96 hr_97 hr_98 hr_99 hr_100 hr_101 hr_102 hr_103 hr_104 hr_105 hr_106 hr_107
          have HX_110 := Lib.hid (HX_87.out.trans hx_109)
          have HB_111 := Lib.hid (HB_88.out.ext hx_109)
          have HB_112 := Lib.hid (HB_89.out.ext hx_109)
          clear hx_109 HX_87 HB_88 HB_89
          go_wp2_with fail
          exact ⟨⟨m + 1, by omega, by go_num, hxx.trans HLast.out, HT.out⟩, by simp [intOf]; omega⟩
        have HN := Lib.hid (ne_at HR.out HSs.out hq)
        have HSq : Hid (∀ y : EW wr, Calls Tryz.prog 46 #[.agg #[.int .i64 r.id, .int .i64 r.inn, .int .i64 r.out, .string r.region, .int .u8 r.kind, .string r.speaker, .slice A1 n1 c1'], .agg #[.int .i64 s.id, .int .i64 s.inn, .int .i64 s.out, .string s.region, .int .u8 s.kind, .string s.speaker, .slice A2 n2 c2']] y.w fun en w' => en = .returned (.bool false) ∧ Ext y.w w') := fun y => by have := HSm.out y; rwa [decide_eq_false hq] at this
        clear hq
        go_wp2_with fail
        have hr_113 := fun (x : EW wr) (o : Nat) => (HB_88.out.ext x.ext).cell o
        have hr_114 := fun (x : EW wr) (o : Nat) => (HB_89.out.ext x.ext).cell o
        have hr_115 := fun (y : EW wr) => y.ext.cell c0
        have hr_116 := fun (y : EW wr) => y.ext.cell c1
        have hr_117 := fun (y : EW wr) => y.ext.cell c2
        have hr_118 := fun (y : EW wr) => y.ext.cell c3
        have hr_119 := fun (y : EW wr) => y.ext.cell c4
        have hr_120 := fun (y : EW wr) => y.ext.cell c5
        have hr_121 := fun (y : EW wr) => y.ext.cell c6
        have hr_122 := fun (y : EW wr) => y.ext.cell d0
        have hr_123 := fun (y : EW wr) => y.ext.cell d1
        have hr_124 := fun (y : EW wr) => y.ext.cell d2
        have hr_125 := fun (y : EW wr) => y.ext.cell d3
        have hr_126 := fun (y : EW wr) => y.ext.cell d4
        have hr_127 := fun (y : EW wr) => y.ext.cell d5
        have hr_128 := fun (y : EW wr) => y.ext.cell d6
        refine wp_region_ew wr (Ext.refl _) (by kernel_rfl) (by kernel_rfl) ?_
        repeat (go_big_quiet_step ((go_at_call 46; exact EW.calls _ (HSq.out _))))
        refine wpQuiet_nil ?_
        rintro w_129 ⟨⟨_, hx_130⟩, rfl⟩
        try dsimp only
        clear hr_113 hr_114 hr_115 hr_116 hr_117 hr_118 hr_119 hr_120 hr_121 hr_122 hr_123 hr_124 hr_125 hr_126 hr_127 hr_128
        have HX_131 := Lib.hid (HX_87.out.trans hx_130)
        have HB_132 := Lib.hid (HB_88.out.ext hx_130)
        have HB_133 := Lib.hid (HB_89.out.ext hx_130)
        clear hx_130 HX_87 HB_88 HB_89
        go_wp2_with fail
        go_ret
        exact ⟨ret_bool (by rw [HS.out, decide_eq_false HN.out]; simp), HX_131.out⟩
      have hmn : m = hen := by omega
      subst hmn
      have HQe := Lib.hid (eq_of_take L3.out L4.out HPe.out)
      clear hxx
      have hc_134 := fun o => HB_88.out.cell o
      have hc_135 := fun o => HB_89.out.cell o
      go_wp2_with fail
      clear hc_134 hc_135
      obtain ⟨woc, rfl⟩ : ∃ wo : World, wo = wr := ⟨_, rfl⟩
      go_loopw [80] (fun i wr => EqRel woc hcn a.coms b.coms i wr) (fun i _ => hcn - (intOf i).toNat)
      case atStart => exact ⟨0, Nat.zero_le _, rfl, Ext.refl _, rfl⟩
      case round =>
        obtain ⟨m, hm, rfl, hx, hp⟩ := hrel
        have HPc := Lib.hid hp
        have hxx := hx
        clear hp hx
        have HX_136 := Lib.hid (HX_87.out.trans hxx)
        have HB_137 := Lib.hid (HB_88.out.ext hxx)
        have HB_138 := Lib.hid (HB_89.out.ext hxx)
        clear HX_87 HB_88 HB_89
        by_cases hlt : m < hcn
        · obtain ⟨b1, o1, r, hea1, hr, c0, c1, c2, c3, c4, c5, c6, c7⟩ := (HA.out.coms.ext HX_136.out).at8 hlt
          obtain ⟨b2, o2, s, hea2, hs, d0, d1, d2, d3, d4, d5, d6, d7⟩ := (HB.out.coms.ext HX_136.out).at8 hlt
          subst hea1 hea2
          have HR := Lib.hid hr
          have HSs := Lib.hid hs
          clear hr hs
          have hk0 : (0 : Int) ≤ (m : Int) := by omega
          have hk1 : (m : Int) < (hcn : Int) := by omega
          by_cases hq : r = s
          · subst hq
            have HT := Lib.hid (take_eq_succ HPc.out HR.out HSs.out)
            have hne := fun w => neq_com_no r w
            unfold Com.aggV at hne
            have HXk := Lib.hid (Ext.refl wr)
            go_wp2_with fail
            have hr_141 := fun (x : EW wr) (o : Nat) => (HB_137.out.ext x.ext).cell o
            have hr_142 := fun (x : EW wr) (o : Nat) => (HB_138.out.ext x.ext).cell o
            have hr_143 := fun (y : EW wr) => y.ext.cell c0
            have hr_144 := fun (y : EW wr) => y.ext.cell c1
            have hr_145 := fun (y : EW wr) => y.ext.cell c2
            have hr_146 := fun (y : EW wr) => y.ext.cell c3
            have hr_147 := fun (y : EW wr) => y.ext.cell c4
            have hr_148 := fun (y : EW wr) => y.ext.cell c5
            have hr_149 := fun (y : EW wr) => y.ext.cell c6
            have hr_150 := fun (y : EW wr) => y.ext.cell c7
            have hr_151 := fun (y : EW wr) => y.ext.cell d0
            have hr_152 := fun (y : EW wr) => y.ext.cell d1
            have hr_153 := fun (y : EW wr) => y.ext.cell d2
            have hr_154 := fun (y : EW wr) => y.ext.cell d3
            have hr_155 := fun (y : EW wr) => y.ext.cell d4
            have hr_156 := fun (y : EW wr) => y.ext.cell d5
            have hr_157 := fun (y : EW wr) => y.ext.cell d6
            have hr_158 := fun (y : EW wr) => y.ext.cell d7
            refine wp_region_ew wr (Ext.refl _) (by kernel_rfl) (by kernel_rfl) ?_
            repeat (go_big_quiet_step ((fail)))
            refine wpQuiet_nil ?_
            rintro w_159 ⟨⟨_, hx_160⟩, rfl⟩
            have HLast := Lib.hid hx_160
            try dsimp only
            clear hr_141 hr_142 hr_143 hr_144 hr_145 hr_146 hr_147 hr_148 hr_149 hr_150 hr_151 hr_152 hr_153 hr_154 hr_155 hr_156 hr_157 hr_158
            have HX_161 := Lib.hid (HX_136.out.trans hx_160)
            have HB_162 := Lib.hid (HB_137.out.ext hx_160)
            have HB_163 := Lib.hid (HB_138.out.ext hx_160)
            clear hx_160 HX_136 HB_137 HB_138
            go_wp2_with fail
            exact ⟨⟨m + 1, by omega, by go_num, hxx.trans HLast.out, HT.out⟩, by simp [intOf]; omega⟩
          have HN := Lib.hid (ne_at HR.out HSs.out hq)
          have hne := fun w => neq_com_yes r s hq w
          unfold Com.aggV at hne
          clear hq
          go_wp2_with fail
          have hr_164 := fun (x : EW wr) (o : Nat) => (HB_137.out.ext x.ext).cell o
          have hr_165 := fun (x : EW wr) (o : Nat) => (HB_138.out.ext x.ext).cell o
          have hr_166 := fun (y : EW wr) => y.ext.cell c0
          have hr_167 := fun (y : EW wr) => y.ext.cell c1
          have hr_168 := fun (y : EW wr) => y.ext.cell c2
          have hr_169 := fun (y : EW wr) => y.ext.cell c3
          have hr_170 := fun (y : EW wr) => y.ext.cell c4
          have hr_171 := fun (y : EW wr) => y.ext.cell c5
          have hr_172 := fun (y : EW wr) => y.ext.cell c6
          have hr_173 := fun (y : EW wr) => y.ext.cell c7
          have hr_174 := fun (y : EW wr) => y.ext.cell d0
          have hr_175 := fun (y : EW wr) => y.ext.cell d1
          have hr_176 := fun (y : EW wr) => y.ext.cell d2
          have hr_177 := fun (y : EW wr) => y.ext.cell d3
          have hr_178 := fun (y : EW wr) => y.ext.cell d4
          have hr_179 := fun (y : EW wr) => y.ext.cell d5
          have hr_180 := fun (y : EW wr) => y.ext.cell d6
          have hr_181 := fun (y : EW wr) => y.ext.cell d7
          refine wp_region_ew wr (Ext.refl _) (by kernel_rfl) (by kernel_rfl) ?_
          repeat (go_big_quiet_step ((fail)))
          refine wpQuiet_nil ?_
          rintro w_182 ⟨⟨_, hx_183⟩, rfl⟩
          try dsimp only
          clear hr_164 hr_165 hr_166 hr_167 hr_168 hr_169 hr_170 hr_171 hr_172 hr_173 hr_174 hr_175 hr_176 hr_177 hr_178 hr_179 hr_180 hr_181
          have HX_184 := Lib.hid (HX_136.out.trans hx_183)
          have HB_185 := Lib.hid (HB_137.out.ext hx_183)
          have HB_186 := Lib.hid (HB_138.out.ext hx_183)
          clear hx_183 HX_136 HB_137 HB_138
          go_wp2_with fail
          go_ret
          exact ⟨ret_bool (by rw [HS.out, decide_eq_false HN.out]; simp), HX_184.out⟩
        have hmn : m = hcn := by omega
        subst hmn
        have HQc := Lib.hid (eq_of_take L5.out L6.out HPc.out)
        clear hxx
        go_wp2_with fail
        go_ret
        exact ⟨ret_bool (by rw [HS.out, decide_eq_true HH.out, decide_eq_true HQr.out, decide_eq_true HQe.out, decide_eq_true HQc.out]; rfl), HX_136.out⟩
theorem R12Same_any (a b : Doc) (h k : DocH) (w : World) (hA : DocAt w a h) (hB : DocAt w b k) (h1 : h.rn ≤ 1000000000 ∧ h.en ≤ 1000000000 ∧ h.cn ≤ 1000000000) (h2 : k.rn ≤ 1000000000 ∧ k.en ≤ 1000000000 ∧ k.cn ≤ 1000000000) :
    Calls Tryz.prog 14 #[.agg (a.cells h), .agg (b.cells k)] w fun en w' => en = .returned (.bool (sameDoc a b)) ∧ Ext w w' := R12Same_big a b h k w hA hB h1 (by omega)
end Go.Proofs.YtagfedbdakmlgaaGreatDoor

/-! OpenC -/
namespace Go.Proofs.YtagfedbdakmlgaaGreatDoor
set_option linter.unusedVariables false
set_option linter.unusedSimpArgs false
open Go.RowKit Go.ChangeShapes Go.WideShapes Go.ChangeAt
set_option maxRecDepth 100000
theorem argC_int64 {H : Type} {enc : TypeId × Value → H} {W : World} {base : Nat} {v : Value} {d : DataW H} {p : List MemPlace} (hv : Value.okWide Tryz.prog W .any base 2 v) (h : DataW.Trod enc Tryz.prog W 0 (fun _ => true) true 2 v d p)
    (hw : ∀ n ∈ d.weights Tryz.prog 2, n ≤ reachBytes) : ∃ a : Int, v = .int .i64 a ∧ IW a := by
  obtain ⟨fuel, h⟩ := h
  obtain ⟨a, ha, hb⟩ := Opens.int Tryz.underlying2 H enc fuel _ _ h hw
  unfold Value.okWide at hv
  rw [Tryz.underlying2] at hv
  cases v with
  | agg cs => exact absurd hv (by unfold Cell.okWide; rw [Tryz.underlying2]; simp [Cell.ok])
  | _ => first | (refine ⟨a, ?_, bounds_i64 hb⟩; exact (List.cons.inj ha).1) | (simp at hv; done)
/-- the lists of a document of one's own are short -/
def DocShort (d : Doc) : Prop := d.regs.length ≤ 16 ∧ d.evs.length ≤ 1000000 ∧ d.coms.length ≤ 1000000
theorem DocOwn.short {w : World} {L : Nat} {d : Doc} {h : DocH} (o : DocOwn w L d h) (s : DocShort d) : h.rn ≤ 1000000000 ∧ h.en ≤ 1000000000 ∧ h.cn ≤ 1000000000 := by
  have h1 := o.rlen
  have h2 := o.evs.len
  have h3 := o.clen
  obtain ⟨s1, s2, s3⟩ := s
  omega
theorem zero_short : DocShort Doc.zero := ⟨by decide, by decide, by decide⟩
theorem regs_short {l : List Reg} (h : regsErr l = 0) : l.length ≤ 16 := by
  unfold regsErr at h
  split at h
  · simp at h
  · omega
theorem valid_short {d : Doc} (h : d.err = 0) : DocShort d := by
  have := doc_ok h
  exact ⟨regs_short this.2.1, by omega, by omega⟩
end Go.Proofs.YtagfedbdakmlgaaGreatDoor

/-! LawMoves12 -/
namespace Go.Proofs.YtagfedbdakmlgaaGreatDoor
set_option linter.unusedVariables false
set_option linter.unusedSimpArgs false
open Go.RowKit
theorem lose_eq {d : Doc} {c : Com} {id : Int} (h : d.err = 0) (hc : c ∈ d.coms) : c.loseR id = c.lose id := by
  obtain ⟨k, hk⟩ := List.getElem?_of_mem hc
  have h1 := (anchor_ok (com_ok (coms_ok (doc_ok h).2.2.2.2.2 k c hk)).2.2.2.2.1).2.2.1
  unfold Com.loseR Com.lose
  by_cases he : c.ev = id
  · rw [if_pos he]
    cases hl : c.lost
    · rw [if_pos ⟨he, rfl⟩]
    · obtain ⟨h2, h3⟩ := h1 hl
      rw [if_neg (by simp), ← h2]
      obtain ⟨a1, a2, a3, a4, a5, a6, a7, a8⟩ := c
      simp only at h2 h3 hl ⊢
      rw [h3, h2, hl]
  · rw [if_neg he, if_neg (by simp [he])]
theorem remRX_eq (d : Doc) (id : Int) : d.remRX id = d.remX id := by
  unfold Doc.remRX Doc.remX
  split
  · rfl
  · rename_i h
    cases findE d.evs id with
    | none => rfl
    | some k =>
      show ((d.cutE k).withComs (d.coms.map (Com.loseR id)), (0 : Int)) = ((d.cutE k).withComs (d.coms.map (Com.lose id)), 0)
      rw [List.map_congr_left (fun c hc => lose_eq (d := d) (by simpa using h) hc)]
theorem remX_short (d : Doc) (id : Int) : DocShort (d.remX id).1 := by
  unfold Doc.remX
  split
  · exact zero_short
  · rename_i h
    have hs := valid_short (d := d) (by simpa using h)
    split
    · exact zero_short
    · exact ⟨hs.1, by show (d.evs.take _ ++ d.evs.drop _).length ≤ _; have := hs.2.1; rw [List.length_append, List.length_take, List.length_drop]; omega, by show (d.coms.map _).length ≤ _; rw [List.length_map]; exact hs.2.2⟩
theorem shX_short (d : Doc) (fr sh : Int) : DocShort (d.shX fr sh).1 := by
  unfold Doc.shX
  split
  · exact zero_short
  · rename_i h
    have hs := valid_short (d := d) (by simpa using h)
    split
    · exact zero_short
    · split
      · exact zero_short
      · exact ⟨hs.1, by show (srtE (d.evs.map _)).length ≤ _; unfold srtE; rw [Stb.sortS_len, List.length_map]; exact hs.2.1, hs.2.2⟩
set_option maxRecDepth 100000 in
set_option maxHeartbeats 8000000 in
theorem DocumentMoves_any (d : Doc) (h : DocH) (id a b : Int) (w : World) (hE : Env w) (hat : DocAt w d h) (hi : DocIn d h) :
    Calls Tryz.prog 6 #[.agg (d.cells h), .int .i64 id, .agg #[.int .i64 a, .int .i64 b]] w fun en w' => en = .returned (.bool true) ∧ Ext w w' := by
  have HX : Hid (Ext w ((w.alloc (.cells (d.cells h) 27)).alloc (.cells #[.int .i64 a, .int .i64 b] 49))) := ((Ext.refl w).alloc _).alloc _
  have HB : Hid (Blk ((w.alloc (.cells (d.cells h) 27)).alloc (.cells #[.int .i64 a, .int .i64 b] 49)) w.heap.size 27 (d.cells h)) := (Blk.new w _ _).alloc _
  have HT : Hid (Blk ((w.alloc (.cells (d.cells h) 27)).alloc (.cells #[.int .i64 a, .int .i64 b] 49)) (w.heap.size + 1) 49 #[.int .i64 a, .int .i64 b]) := Blk.new' (by simp)
  have HEn := Lib.hid hE
  have HCa := Lib.hid (fun w' (hx : Ext w w') => DRemove_any d h id w' (hE.ext hx) (hat.ext hx) hi.fit hi.rn hi.rc.2 hi.en hi.cn)
  have HCb := Lib.hid (fun w' (hx : Ext w w') => R12Remove_any d h id w' (hE.ext hx) (hat.ext hx) hi.fit hi.rn hi.rc.2 hi.en hi.cn)
  have HRa := Lib.hid (fun w' (hx : Ext w w') => DShift_any d h a b w' (hE.ext hx) (hat.ext hx) hi.fit hi.rn hi.rc.2 hi.en hi.cn)
  have HRb := Lib.hid (fun w' (hx : Ext w w') => R12Shift_any d h a b w' (hE.ext hx) (hat.ext hx) hi.fit hi.rn hi.rc.2 hi.en hi.cn)
  rw [remRX_eq] at HCb
  have HSc : Hid (DocShort (d.remX id).1) := remX_short d id
  have HSr : Hid (DocShort (d.shX a b).1) := shX_short d a b
  clear hE hat hi
  unfold DEPost at HCa HCb HRa HRb
  unfold Doc.cells at HX HB HT HCa HCb HRa HRb
  generalize hC1 : (d.remX id).1 = C at *
  generalize (d.remX id).2 = ce at *
  generalize hR1 : (d.shX a b).1 = R at *
  generalize (d.shX a b).2 = re at *
  clear hC1 hR1
  obtain ⟨hra, nr, hrc, hea, hen, hec, hca, nc, hcc⟩ := h
  dsimp only at *
  unfold Doc.cells
  dsimp only
  go_enter Tryz.func6, Tryz.ntmps6
  go_wp2_with fail
  refine (awake12_any _ (HEn.out.ext HX.out)).mono ?_
  rintro en w_1 ⟨rfl, hx_2⟩
  have HX_3 := Lib.hid (HX.out.trans hx_2)
  have HB_4 := Lib.hid (HB.out.ext hx_2)
  have HB_5 := Lib.hid (HT.out.ext hx_2)
  clear hx_2 HX HB HT
  go_wp2_with (refine wpList_loadB rfl 27 (.tmp 3) rfl (w.heap.size) 27 _ _ (by exact rfl) (by exact HB_4.out) Tryz.underlying27 rfl (by exact size_docI) ?_)
  refine (HCa.out _ HX_3.out).mono ?_
  rintro en w_6 ⟨⟨ra7, rn7, rc7, ea7, en7, ec7, ca7, cn7, cc7⟩, rfl, ho7, hx_7⟩
  dsimp only
  have HO7 := Lib.hid ho7
  have HS7 := Lib.hid (ho7.short HSc.out)
  clear ho7
  have HX_8 := Lib.hid (HX_3.out.trans hx_7)
  have HB_9 := Lib.hid (HB_4.out.ext hx_7)
  have HB_10 := Lib.hid (HB_5.out.ext hx_7)
  clear hx_7 HX_3 HB_4 HB_5
  have hl7 := HB_10.out.lt
  have HB_11 := Lib.hid (Blk.new w_6 27 #[.string C.title, .string C.lang, .int .u8 C.rate, .bool C.drop, .int .i64 C.last, .slice ra7 rn7 rc7, .slice ea7 en7 ec7, .slice ca7 cn7 cc7])
  have ha_12 := (Ext.refl w_6).alloc (.cells #[.string C.title, .string C.lang, .int .u8 C.rate, .bool C.drop, .int .i64 C.last, .slice ra7 rn7 rc7, .slice ea7 en7 ec7, .slice ca7 cn7 cc7] 27)
  have HX_13 := Lib.hid (HX_8.out.trans ha_12)
  have HB_14 := Lib.hid (HB_9.out.ext ha_12)
  have HB_15 := Lib.hid (HB_10.out.ext ha_12)
  have HF_16 := Lib.hid (HO7.out.ext ha_12)
  clear ha_12 HX_8 HB_9 HB_10 HO7
  go_wp2_with (refine wpList_loadB rfl 27 (.tmp 3) rfl (w.heap.size) 27 _ _ (by exact rfl) (by exact HB_14.out) Tryz.underlying27 rfl (by exact size_docI) ?_)
  refine (HCb.out _ HX_13.out).mono ?_
  rintro en w_17 ⟨⟨ra9, rn9, rc9, ea9, en9, ec9, ca9, cn9, cc9⟩, rfl, ho9, hx_18⟩
  dsimp only
  have HO9 := Lib.hid ho9
  have HS9 := Lib.hid (ho9.short HSc.out)
  clear ho9
  have HX_19 := Lib.hid (HX_13.out.trans hx_18)
  have HB_20 := Lib.hid (HB_14.out.ext hx_18)
  have HB_21 := Lib.hid (HB_15.out.ext hx_18)
  have HB_22 := Lib.hid (HB_11.out.ext hx_18)
  have HF_23 := Lib.hid (HF_16.out.ext hx_18)
  clear hx_18 HX_13 HB_14 HB_15 HB_11 HF_16
  have hl9 := HB_22.out.lt
  have HB_24 := Lib.hid (Blk.new w_17 27 #[.string C.title, .string C.lang, .int .u8 C.rate, .bool C.drop, .int .i64 C.last, .slice ra9 rn9 rc9, .slice ea9 en9 ec9, .slice ca9 cn9 cc9])
  have ha_25 := (Ext.refl w_17).alloc (.cells #[.string C.title, .string C.lang, .int .u8 C.rate, .bool C.drop, .int .i64 C.last, .slice ra9 rn9 rc9, .slice ea9 en9 ec9, .slice ca9 cn9 cc9] 27)
  have HX_26 := Lib.hid (HX_19.out.trans ha_25)
  have HB_27 := Lib.hid (HB_20.out.ext ha_25)
  have HB_28 := Lib.hid (HB_21.out.ext ha_25)
  have HB_29 := Lib.hid (HB_22.out.ext ha_25)
  have HF_30 := Lib.hid (HF_23.out.ext ha_25)
  have HF_31 := Lib.hid (HO9.out.ext ha_25)
  clear ha_25 HX_19 HB_20 HB_21 HB_22 HF_23 HO9
  have HSa7 := Lib.hid (fun w' hx => R12Same_any C C ⟨ra7, rn7, rc7, ea7, en7, ec7, ca7, cn7, cc7⟩ ⟨ra9, rn9, rc9, ea9, en9, ec9, ca9, cn9, cc9⟩ w' (HF_30.out.at_.ext hx) (HF_31.out.at_.ext hx) HS7.out HS9.out)
  rw [sameDoc_self] at HSa7
  unfold Doc.cells at HSa7
  dsimp only at HSa7
  have hc_32 := fun o => HB_29.out.cell o
  have hc_33 := fun o => HB_24.out.cell o
  go_wp2_with fail
  clear hc_32 hc_33
  refine (HSa7.out _ (Ext.refl _)).mono ?_
  rintro en w_34 ⟨rfl, hx_35⟩
  clear HSa7
  have HX_36 := Lib.hid (HX_26.out.trans hx_35)
  have HB_37 := Lib.hid (HB_27.out.ext hx_35)
  have HB_38 := Lib.hid (HB_28.out.ext hx_35)
  have HB_39 := Lib.hid (HB_29.out.ext hx_35)
  have HB_40 := Lib.hid (HB_24.out.ext hx_35)
  clear hx_35 HX_26 HB_27 HB_28 HB_29 HB_24
  have hc_41 := fun o => HB_38.out.cell o
  go_wp2_with (first | (refine wpList_loadB rfl 27 (.tmp 3) rfl (w.heap.size) 27 _ _ (by exact rfl) (by exact HB_37.out) Tryz.underlying27 rfl (by exact size_docI) ?_) | fail)
  clear hc_41
  refine (HRa.out _ HX_36.out).mono ?_
  rintro en w_42 ⟨⟨ra34, rn34, rc34, ea34, en34, ec34, ca34, cn34, cc34⟩, rfl, ho34, hx_43⟩
  dsimp only
  have HO34 := Lib.hid ho34
  have HS34 := Lib.hid (ho34.short HSr.out)
  clear ho34
  have HX_44 := Lib.hid (HX_36.out.trans hx_43)
  have HB_45 := Lib.hid (HB_37.out.ext hx_43)
  have HB_46 := Lib.hid (HB_38.out.ext hx_43)
  have HB_47 := Lib.hid (HB_39.out.ext hx_43)
  have HB_48 := Lib.hid (HB_40.out.ext hx_43)
  clear hx_43 HX_36 HB_37 HB_38 HB_39 HB_40
  have HX_49 := Lib.hid (HX_44.out.put (g := w_6.heap.size) (by omega) 27 #[.string R.title, .string R.lang, .int .u8 R.rate, .bool R.drop, .int .i64 R.last, .slice ra34 rn34 rc34, .slice ea34 en34 ec34, .slice ca34 cn34 cc34])
  have HF_50 := Lib.hid (DocOwn.put HO34.out HB_47.out #[.string R.title, .string R.lang, .int .u8 R.rate, .bool R.drop, .int .i64 R.last, .slice ra34 rn34 rc34, .slice ea34 en34 ec34, .slice ca34 cn34 cc34])
  have HB_51 := Lib.hid (HB_45.out.put_other (g' := w_6.heap.size) (t' := 27) (by omega) #[.string R.title, .string R.lang, .int .u8 R.rate, .bool R.drop, .int .i64 R.last, .slice ra34 rn34 rc34, .slice ea34 en34 ec34, .slice ca34 cn34 cc34])
  have HB_52 := Lib.hid (HB_46.out.put_other (g' := w_6.heap.size) (t' := 27) (by omega) #[.string R.title, .string R.lang, .int .u8 R.rate, .bool R.drop, .int .i64 R.last, .slice ra34 rn34 rc34, .slice ea34 en34 ec34, .slice ca34 cn34 cc34])
  have HB_53 := Lib.hid (HB_47.out.put #[.string R.title, .string R.lang, .int .u8 R.rate, .bool R.drop, .int .i64 R.last, .slice ra34 rn34 rc34, .slice ea34 en34 ec34, .slice ca34 cn34 cc34])
  have HB_54 := Lib.hid (HB_48.out.put_other (g' := w_6.heap.size) (t' := 27) (by omega) #[.string R.title, .string R.lang, .int .u8 R.rate, .bool R.drop, .int .i64 R.last, .slice ra34 rn34 rc34, .slice ea34 en34 ec34, .slice ca34 cn34 cc34])
  clear HX_44 HB_45 HB_46 HB_48 HO34
  have hc_55 := fun o => HB_52.out.cell o
  go_wp2_with (first | (refine wpList_loadB rfl 27 (.tmp 3) rfl (w.heap.size) 27 _ _ (by exact rfl) (by exact HB_51.out) Tryz.underlying27 rfl (by exact size_docI) ?_) | (refine wpList_storeB rfl 27 (.tmp 7) _ rfl (w_6.heap.size) 27 _ _ (by exact rfl) (by exact rfl) (by exact HB_47.out) (by exact rfl) (by exact size_docI) (by simp [Value.oneCell']) ?_))
  clear hc_55
  refine (HRb.out _ HX_49.out).mono ?_
  rintro en w_56 ⟨⟨ra43, rn43, rc43, ea43, en43, ec43, ca43, cn43, cc43⟩, rfl, ho43, hx_57⟩
  dsimp only
  have HO43 := Lib.hid ho43
  have HS43 := Lib.hid (ho43.short HSr.out)
  clear ho43
  have HX_58 := Lib.hid (HX_49.out.trans hx_57)
  have HB_59 := Lib.hid (HB_51.out.ext hx_57)
  have HB_60 := Lib.hid (HB_52.out.ext hx_57)
  have HB_61 := Lib.hid (HB_53.out.ext hx_57)
  have HB_62 := Lib.hid (HB_54.out.ext hx_57)
  have HF_63 := Lib.hid (HF_50.out.ext hx_57)
  clear hx_57 HX_49 HB_51 HB_52 HB_53 HB_54 HF_50
  have HX_64 := Lib.hid (HX_58.out.put (g := w_17.heap.size) (by omega) 27 #[.string R.title, .string R.lang, .int .u8 R.rate, .bool R.drop, .int .i64 R.last, .slice ra43 rn43 rc43, .slice ea43 en43 ec43, .slice ca43 cn43 cc43])
  have HF_65 := Lib.hid (DocOwn.put HF_63.out HB_62.out #[.string R.title, .string R.lang, .int .u8 R.rate, .bool R.drop, .int .i64 R.last, .slice ra43 rn43 rc43, .slice ea43 en43 ec43, .slice ca43 cn43 cc43])
  have HF_66 := Lib.hid (DocOwn.put HO43.out HB_62.out #[.string R.title, .string R.lang, .int .u8 R.rate, .bool R.drop, .int .i64 R.last, .slice ra43 rn43 rc43, .slice ea43 en43 ec43, .slice ca43 cn43 cc43])
  have HB_67 := Lib.hid (HB_59.out.put_other (g' := w_17.heap.size) (t' := 27) (by omega) #[.string R.title, .string R.lang, .int .u8 R.rate, .bool R.drop, .int .i64 R.last, .slice ra43 rn43 rc43, .slice ea43 en43 ec43, .slice ca43 cn43 cc43])
  have HB_68 := Lib.hid (HB_60.out.put_other (g' := w_17.heap.size) (t' := 27) (by omega) #[.string R.title, .string R.lang, .int .u8 R.rate, .bool R.drop, .int .i64 R.last, .slice ra43 rn43 rc43, .slice ea43 en43 ec43, .slice ca43 cn43 cc43])
  have HB_69 := Lib.hid (HB_61.out.put_other (g' := w_17.heap.size) (t' := 27) (by omega) #[.string R.title, .string R.lang, .int .u8 R.rate, .bool R.drop, .int .i64 R.last, .slice ra43 rn43 rc43, .slice ea43 en43 ec43, .slice ca43 cn43 cc43])
  have HB_70 := Lib.hid (HB_62.out.put #[.string R.title, .string R.lang, .int .u8 R.rate, .bool R.drop, .int .i64 R.last, .slice ra43 rn43 rc43, .slice ea43 en43 ec43, .slice ca43 cn43 cc43])
  clear HX_58 HB_59 HB_60 HB_61 HF_63 HO43
  have HSa34 := Lib.hid (fun w' hx => R12Same_any R R ⟨ra34, rn34, rc34, ea34, en34, ec34, ca34, cn34, cc34⟩ ⟨ra43, rn43, rc43, ea43, en43, ec43, ca43, cn43, cc43⟩ w' (HF_65.out.at_.ext hx) (HF_66.out.at_.ext hx) HS34.out HS43.out)
  rw [sameDoc_self] at HSa34
  unfold Doc.cells at HSa34
  dsimp only at HSa34
  have hc_71 := fun o => HB_69.out.cell o
  have hc_72 := fun o => HB_70.out.cell o
  go_wp2_with (refine wpList_storeB rfl 27 (.tmp 9) _ rfl (w_17.heap.size) 27 _ _ (by exact rfl) (by exact rfl) (by exact HB_62.out) (by exact rfl) (by exact size_docI) (by simp [Value.oneCell']) ?_)
  clear hc_71 hc_72
  refine (HSa34.out _ (Ext.refl _)).mono ?_
  rintro en w_73 ⟨rfl, hx_74⟩
  clear HSa34
  have HX_75 := Lib.hid (HX_64.out.trans hx_74)
  have HB_76 := Lib.hid (HB_67.out.ext hx_74)
  have HB_77 := Lib.hid (HB_68.out.ext hx_74)
  have HB_78 := Lib.hid (HB_69.out.ext hx_74)
  have HB_79 := Lib.hid (HB_70.out.ext hx_74)
  clear hx_74 HX_64 HB_67 HB_68 HB_69 HB_70
  clear HB_78
  clear HB_79
  go_wp2_with fail
  go_ret
  exact ⟨by simp, HX_75.out⟩
end Go.Proofs.YtagfedbdakmlgaaGreatDoor

/-! OpenR -/
namespace Go.Proofs.YtagfedbdakmlgaaGreatDoor
set_option linter.unusedVariables false
set_option linter.unusedSimpArgs false
open Go.RowKit Go.ChangeShapes Go.WideShapes Go.ChangeAt
set_option maxRecDepth 100000
theorem Opens.array {P : Program} {W : World} {t e : TypeId} {n : Nat} (ht : P.underlying t = some (.array n e)) {H : Type} {enc : TypeId × Value → H} {fuel : Nat} {cs : List Value} {x : DataW H × List MemPlace}
    (h : DataW.trod enc P W 0 (fun _ => true) true fuel t cs = some x) (hw : ∀ n ∈ x.1.weights P t, n ≤ reachBytes) :
    cs.length = P.cellsOf t ∧ ∀ i, i < n → ∀ {α : Type} {R : List Value → α → Prop}, Opens P W e R → ∃ a, R ((cs.drop (i * P.cellsOf e)).take (P.cellsOf e)) a := by
  obtain ⟨xs, m, rfl, rfl, hl, hlen, hf⟩ := DataW.trod_array ht h
  refine ⟨hl, fun i hi α R hR => ?_⟩
  have h1 := hf i hi
  have hi' : i < xs.length := by omega
  rw [List.getElem?_eq_getElem hi'] at h1
  refine hR H enc m _ _ h1 (fun k hk => hw k ?_)
  simp only [DataW.weights, ht]
  exact weightsAll_mem (List.mem_map.2 ⟨_, List.getElem_mem hi', rfl⟩) hk
end Go.Proofs.YtagfedbdakmlgaaGreatDoor

/-! OpenTw -/
namespace Go.Proofs.YtagfedbdakmlgaaGreatDoor
set_option linter.unusedVariables false
set_option linter.unusedSimpArgs false
open Go.RowKit Go.ChangeShapes Go.WideShapes Go.ChangeAt
theorem OpensT_array {P : Program} {W : World} {t e : TypeId} {n : Nat} (ht : P.underlying t = some (.array n e)) {H : Type} {enc : TypeId × Value → H} {fuel : Nat} {cs : List Value} {x : DataW H × List MemPlace}
    (h : DataW.trod enc P W 0 (fun _ => true) true fuel t cs = some x) (hw : ∀ n ∈ x.1.weights P t, n ≤ reachBytes) :
    cs.length = P.cellsOf t ∧ ∀ i, i < n → ∀ {α : Type} {R : List Value → α → Prop}, Opens P W e R → ∃ a, R ((cs.drop (i * P.cellsOf e)).take (P.cellsOf e)) a := by
  obtain ⟨xs, m, rfl, rfl, hl, hlen, hf⟩ := DataW.trod_array ht h
  refine ⟨hl, fun i hi α R hR => ?_⟩
  have h1 := hf i hi
  have hi' : i < xs.length := by omega
  rw [List.getElem?_eq_getElem hi'] at h1
  refine hR H enc m _ _ h1 (fun k hk => hw k ?_)
  simp only [DataW.weights, ht]
  exact weightsAll_mem (List.mem_map.2 ⟨_, List.getElem_mem hi', rfl⟩) hk
set_option maxRecDepth 100000 in
theorem agg_of_arrayT {v : Value} {W : World} {t e : TypeId} {n b : Nat} (ht : Tryz.prog.underlying t = some (.array n e)) (hv : Value.okWide Tryz.prog W .any b t v) : ∃ cs, v = .agg cs := by
  unfold Value.okWide at hv
  rw [ht] at hv
  cases v <;> first | exact ⟨_, rfl⟩ | simp at hv
set_option maxRecDepth 100000 in
theorem argC_two {H : Type} {enc : TypeId × Value → H} {W : World} {base : Nat} {v : Value} {d : DataW H} {p : List MemPlace} (hv : Value.okWide Tryz.prog W .any base 49 v) (h : DataW.Trod enc Tryz.prog W 0 (fun _ => true) true 49 v d p)
    (hw : ∀ n ∈ d.weights Tryz.prog 49, n ≤ reachBytes) : ∃ a b : Int, v = .agg #[.int .i64 a, .int .i64 b] := by
  obtain ⟨cs, rfl⟩ := agg_of_arrayT Tryz.underlying49 hv
  obtain ⟨fuel, h⟩ := h
  obtain ⟨hl, hf⟩ := OpensT_array Tryz.underlying49 h hw
  rw [show Tryz.prog.cellsOf 49 = 2 by kernel_rfl] at hl
  obtain ⟨v0, v1, he⟩ := list_2 hl
  obtain ⟨a0, h0, s0⟩ := hf 0 (by decide) (Opens.int Tryz.underlying2)
  obtain ⟨a1, h1, s1⟩ := hf 1 (by decide) (Opens.int Tryz.underlying2)
  rw [he] at h0 h1
  simp [cells_int64] at h0 h1
  subst h0 h1
  refine ⟨a0, a1, ?_⟩
  have : cs = #[.int .i64 a0, .int .i64 a1] := Array.toList_inj.1 he
  rw [this]
end Go.Proofs.YtagfedbdakmlgaaGreatDoor
