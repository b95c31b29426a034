/- Laid together: The walks of the reference's Head and Same of documents. Arguments of chapter 14 (and 12), opened: a remark, numbers, strings. -/
import Derived.Test.YtagfedbdakmlgaaDoorKe20
import Derived.Test.YtagfedbdakmlgaaDoorKe08
import Derived.Test.YtagfedbdakmlgaaDoorKe14
import Derived.Test.YtagfedbdakmlgaaDoorKe13

/-! DSameR -/
namespace Go.Proofs.YtagfedbdakmlgaaDoor
set_option linter.unusedVariables false
set_option linter.unusedSimpArgs false
open Go.RowKit
set_option maxRecDepth 100000 in
set_option maxHeartbeats 1000000 in
theorem R12Head_any (d : Doc) (h : DocH) (w : World) : Calls Tryd.prog 44 #[.agg (d.cells h)] w fun e w' => e = .returned d.head ∧ Ext w w' := by
  have HX := Lib.hid (((Ext.refl w).alloc (.cells (d.cells h) 39)))
  unfold Doc.cells at *
  go_enter Tryd.func44, Tryd.ntmps44
  go_wp2
  exact bodyPost_ret (v := d.head) (by simp [results, Tryd.results44, go_sem, Doc.head]) rfl ⟨rfl, HX.out.alloc _⟩
theorem neq_head (a b : Doc) (w : World) : (binOp .neq 93 a.head b.head).run Tryd.prog w = .ok (.bool (!decide (a.hd = b.hd))) w := by
  obtain ⟨a1, a2, a3, a4, a5, a6, a7, a8⟩ := a
  obtain ⟨b1, b2, b3, b4, b5, b6, b7, b8⟩ := b
  unfold Doc.head Doc.hd
  dsimp only
  go_simp
  simp only [toList_inj]
  repeat' split
  all_goals simp_all
set_option maxRecDepth 100000 in
set_option maxHeartbeats 8000000 in
theorem R12Same_big (a b : Doc) (h k : DocH) (w : World) (hA : DocAt w a h) (hB : DocAt w b k) (h1 : h.rn ≤ 4611686018427387904 ∧ h.en ≤ 4611686018427387904 ∧ h.cn ≤ 4611686018427387904) (h2 : k.rn ≤ 4611686018427387904 ∧ k.en ≤ 4611686018427387904 ∧ k.cn ≤ 4611686018427387904) :
    Calls Tryd.prog 20 #[.agg (a.cells h), .agg (b.cells k)] w fun en w' => en = .returned (.bool (sameDoc a b)) ∧ Ext w w' := by
  have HX : Hid (Ext w ((w.alloc (.cells (a.cells h) 39)).alloc (.cells (b.cells k) 39))) := ((Ext.refl w).alloc _).alloc _
  have HBa : Hid (Blk ((w.alloc (.cells (a.cells h) 39)).alloc (.cells (b.cells k) 39)) w.heap.size 39 (a.cells h)) := (Blk.new w 39 (a.cells h)).alloc _
  have HBb : Hid (Blk ((w.alloc (.cells (a.cells h) 39)).alloc (.cells (b.cells k) 39)) (w.heap.size + 1) 39 (b.cells k)) := Blk.new' (by simp)
  have HHa := Lib.hid (fun w' => R12Head_any a h w')
  have HHb := Lib.hid (fun w' => R12Head_any b k w')
  have HA := Lib.hid hA
  have HB := Lib.hid hB
  have hq0 := fun w => neq_head a b w
  have lr1 := hA.regs.len
  have lr2 := hB.regs.len
  have le1 := hA.evs.len
  have le2 := hB.evs.len
  have lc1 := hA.coms.len
  have lc2 := hB.coms.len
  clear hA hB
  unfold Doc.head at HHa HHb hq0
  unfold Doc.cells at *
  obtain ⟨hra, hrn, hrc, hea, hen, hec, hca, hcn, hcc⟩ := h
  obtain ⟨kra, krn, krc, kea, ken, kec, kca, kcn, kcc⟩ := k
  dsimp only at *
  have HQ := Lib.hid hq0
  have HS : Hid (sameDoc a b = (decide (a.hd = b.hd) && (decide (a.regs = b.regs) && (decide (a.evs = b.evs) && decide (a.coms = b.coms))))) := rfl
  clear hq0
  by_cases hh : a.hd = b.hd
  case neg =>
    have HH := Lib.hid hh
    have hq := fun w => HQ.out w
    rw [decide_eq_false hh] at hq
    simp only [Bool.not_false] at hq
    clear hh
    go_enter Tryd.func20, Tryd.ntmps20
    go_wp2_with fail
    have hr_1 := fun (x : EW ((w.alloc (.cells #[.string a.title, .string a.lang, .int .u8 a.rate, .bool a.drop, .int .i64 a.last, .slice hra hrn hrc, .slice hea hen hec, .slice hca hcn hcc] 39)).alloc (.cells #[.string b.title, .string b.lang, .int .u8 b.rate, .bool b.drop, .int .i64 b.last, .slice kra krn krc, .slice kea ken kec, .slice kca kcn kcc] 39))) (o : Nat) => (HBa.out.ext x.ext).cell o
    have hr_2 := fun (x : EW ((w.alloc (.cells #[.string a.title, .string a.lang, .int .u8 a.rate, .bool a.drop, .int .i64 a.last, .slice hra hrn hrc, .slice hea hen hec, .slice hca hcn hcc] 39)).alloc (.cells #[.string b.title, .string b.lang, .int .u8 b.rate, .bool b.drop, .int .i64 b.last, .slice kra krn krc, .slice kea ken kec, .slice kca kcn kcc] 39))) (o : Nat) => (HBb.out.ext x.ext).cell o
    refine wp_region_ew ((w.alloc (.cells #[.string a.title, .string a.lang, .int .u8 a.rate, .bool a.drop, .int .i64 a.last, .slice hra hrn hrc, .slice hea hen hec, .slice hca hcn hcc] 39)).alloc (.cells #[.string b.title, .string b.lang, .int .u8 b.rate, .bool b.drop, .int .i64 b.last, .slice kra krn krc, .slice kea ken kec, .slice kca kcn kcc] 39)) (Ext.refl _) (by kernel_rfl) (by kernel_rfl) ?_
    repeat (go_big_quiet_step ((go_at_call 44; first | with_reducible exact EW.calls _ (HHa.out _) | with_reducible exact EW.calls _ (HHb.out _))))
    refine wpQuiet_nil ?_
    rintro w_3 ⟨⟨_, hx_4⟩, rfl⟩
    try dsimp only
    clear hr_1 hr_2
    have HX_5 := Lib.hid (HX.out.trans hx_4)
    have HB_6 := Lib.hid (HBa.out.ext hx_4)
    have HB_7 := Lib.hid (HBb.out.ext hx_4)
    clear hx_4 HX HBa HBb
    go_wp2_with fail
    go_ret
    exact ⟨ret_bool (by rw [HS.out]; rw [decide_eq_false HH.out]; rfl), HX_5.out⟩
  have HH := Lib.hid hh
  have hq := fun w => HQ.out w
  rw [decide_eq_true hh] at hq
  simp only [Bool.not_true] at hq
  clear hh
  have L1 := Lib.hid lr1
  have L2 := Lib.hid lr2
  have L3 := Lib.hid le1
  have L4 := Lib.hid le2
  have L5 := Lib.hid lc1
  have L6 := Lib.hid lc2
  clear lr1 lr2 le1 le2 lc1 lc2
  by_cases n1 : hrn = krn
  case neg =>
    have hb1 : ((hrn : Int) != (krn : Int)) = true := by simp; omega
    have HN : Hid (¬ a.regs = b.regs) := by show ¬ _; intro h; apply n1; rw [← L1.out, ← L2.out, h]
    clear n1
    go_enter Tryd.func20, Tryd.ntmps20
    go_wp2_with fail
    have hr_8 := fun (x : EW ((w.alloc (.cells #[.string a.title, .string a.lang, .int .u8 a.rate, .bool a.drop, .int .i64 a.last, .slice hra hrn hrc, .slice hea hen hec, .slice hca hcn hcc] 39)).alloc (.cells #[.string b.title, .string b.lang, .int .u8 b.rate, .bool b.drop, .int .i64 b.last, .slice kra krn krc, .slice kea ken kec, .slice kca kcn kcc] 39))) (o : Nat) => (HBa.out.ext x.ext).cell o
    have hr_9 := fun (x : EW ((w.alloc (.cells #[.string a.title, .string a.lang, .int .u8 a.rate, .bool a.drop, .int .i64 a.last, .slice hra hrn hrc, .slice hea hen hec, .slice hca hcn hcc] 39)).alloc (.cells #[.string b.title, .string b.lang, .int .u8 b.rate, .bool b.drop, .int .i64 b.last, .slice kra krn krc, .slice kea ken kec, .slice kca kcn kcc] 39))) (o : Nat) => (HBb.out.ext x.ext).cell o
    refine wp_region_ew ((w.alloc (.cells #[.string a.title, .string a.lang, .int .u8 a.rate, .bool a.drop, .int .i64 a.last, .slice hra hrn hrc, .slice hea hen hec, .slice hca hcn hcc] 39)).alloc (.cells #[.string b.title, .string b.lang, .int .u8 b.rate, .bool b.drop, .int .i64 b.last, .slice kra krn krc, .slice kea ken kec, .slice kca kcn kcc] 39)) (Ext.refl _) (by kernel_rfl) (by kernel_rfl) ?_
    repeat (go_big_quiet_step ((go_at_call 44; first | with_reducible exact EW.calls _ (HHa.out _) | with_reducible exact EW.calls _ (HHb.out _))))
    refine wpQuiet_nil ?_
    rintro w_10 ⟨⟨_, hx_11⟩, rfl⟩
    try dsimp only
    clear hr_8 hr_9
    have HX_12 := Lib.hid (HX.out.trans hx_11)
    have HB_13 := Lib.hid (HBa.out.ext hx_11)
    have HB_14 := Lib.hid (HBb.out.ext hx_11)
    clear hx_11 HX HBa HBb
    go_wp2_with fail
    go_ret
    exact ⟨ret_bool (by rw [HS.out]; rw [decide_eq_false HN.out]; simp), HX_12.out⟩
  subst n1
  have hb1 : ((hrn : Int) != (hrn : Int)) = false := by simp
  by_cases n2 : hen = ken
  case neg =>
    have hb2 : ((hen : Int) != (ken : Int)) = true := by simp; omega
    have HN : Hid (¬ a.evs = b.evs) := by show ¬ _; intro h; apply n2; rw [← L3.out, ← L4.out, h]
    clear n2
    go_enter Tryd.func20, Tryd.ntmps20
    go_wp2_with fail
    have hr_15 := fun (x : EW ((w.alloc (.cells #[.string a.title, .string a.lang, .int .u8 a.rate, .bool a.drop, .int .i64 a.last, .slice hra hrn hrc, .slice hea hen hec, .slice hca hcn hcc] 39)).alloc (.cells #[.string b.title, .string b.lang, .int .u8 b.rate, .bool b.drop, .int .i64 b.last, .slice kra hrn krc, .slice kea ken kec, .slice kca kcn kcc] 39))) (o : Nat) => (HBa.out.ext x.ext).cell o
    have hr_16 := fun (x : EW ((w.alloc (.cells #[.string a.title, .string a.lang, .int .u8 a.rate, .bool a.drop, .int .i64 a.last, .slice hra hrn hrc, .slice hea hen hec, .slice hca hcn hcc] 39)).alloc (.cells #[.string b.title, .string b.lang, .int .u8 b.rate, .bool b.drop, .int .i64 b.last, .slice kra hrn krc, .slice kea ken kec, .slice kca kcn kcc] 39))) (o : Nat) => (HBb.out.ext x.ext).cell o
    refine wp_region_ew ((w.alloc (.cells #[.string a.title, .string a.lang, .int .u8 a.rate, .bool a.drop, .int .i64 a.last, .slice hra hrn hrc, .slice hea hen hec, .slice hca hcn hcc] 39)).alloc (.cells #[.string b.title, .string b.lang, .int .u8 b.rate, .bool b.drop, .int .i64 b.last, .slice kra hrn krc, .slice kea ken kec, .slice kca kcn kcc] 39)) (Ext.refl _) (by kernel_rfl) (by kernel_rfl) ?_
    repeat (go_big_quiet_step ((go_at_call 44; first | with_reducible exact EW.calls _ (HHa.out _) | with_reducible exact EW.calls _ (HHb.out _))))
    refine wpQuiet_nil ?_
    rintro w_17 ⟨⟨_, hx_18⟩, rfl⟩
    try dsimp only
    clear hr_15 hr_16
    have HX_19 := Lib.hid (HX.out.trans hx_18)
    have HB_20 := Lib.hid (HBa.out.ext hx_18)
    have HB_21 := Lib.hid (HBb.out.ext hx_18)
    clear hx_18 HX HBa HBb
    go_wp2_with fail
    go_ret
    exact ⟨ret_bool (by rw [HS.out]; rw [decide_eq_false HN.out]; simp), HX_19.out⟩
  subst n2
  have hb2 : ((hen : Int) != (hen : Int)) = false := by simp
  by_cases n3 : hcn = kcn
  case neg =>
    have hb3 : ((hcn : Int) != (kcn : Int)) = true := by simp; omega
    have HN : Hid (¬ a.coms = b.coms) := by show ¬ _; intro h; apply n3; rw [← L5.out, ← L6.out, h]
    clear n3
    go_enter Tryd.func20, Tryd.ntmps20
    go_wp2_with fail
    have hr_22 := fun (x : EW ((w.alloc (.cells #[.string a.title, .string a.lang, .int .u8 a.rate, .bool a.drop, .int .i64 a.last, .slice hra hrn hrc, .slice hea hen hec, .slice hca hcn hcc] 39)).alloc (.cells #[.string b.title, .string b.lang, .int .u8 b.rate, .bool b.drop, .int .i64 b.last, .slice kra hrn krc, .slice kea hen kec, .slice kca kcn kcc] 39))) (o : Nat) => (HBa.out.ext x.ext).cell o
    have hr_23 := fun (x : EW ((w.alloc (.cells #[.string a.title, .string a.lang, .int .u8 a.rate, .bool a.drop, .int .i64 a.last, .slice hra hrn hrc, .slice hea hen hec, .slice hca hcn hcc] 39)).alloc (.cells #[.string b.title, .string b.lang, .int .u8 b.rate, .bool b.drop, .int .i64 b.last, .slice kra hrn krc, .slice kea hen kec, .slice kca kcn kcc] 39))) (o : Nat) => (HBb.out.ext x.ext).cell o
    refine wp_region_ew ((w.alloc (.cells #[.string a.title, .string a.lang, .int .u8 a.rate, .bool a.drop, .int .i64 a.last, .slice hra hrn hrc, .slice hea hen hec, .slice hca hcn hcc] 39)).alloc (.cells #[.string b.title, .string b.lang, .int .u8 b.rate, .bool b.drop, .int .i64 b.last, .slice kra hrn krc, .slice kea hen kec, .slice kca kcn kcc] 39)) (Ext.refl _) (by kernel_rfl) (by kernel_rfl) ?_
    repeat (go_big_quiet_step ((go_at_call 44; first | with_reducible exact EW.calls _ (HHa.out _) | with_reducible exact EW.calls _ (HHb.out _))))
    refine wpQuiet_nil ?_
    rintro w_24 ⟨⟨_, hx_25⟩, rfl⟩
    try dsimp only
    clear hr_22 hr_23
    have HX_26 := Lib.hid (HX.out.trans hx_25)
    have HB_27 := Lib.hid (HBa.out.ext hx_25)
    have HB_28 := Lib.hid (HBb.out.ext hx_25)
    clear hx_25 HX HBa HBb
    go_wp2_with fail
    go_ret
    exact ⟨ret_bool (by rw [HS.out]; rw [decide_eq_false HN.out]; simp), HX_26.out⟩
  subst n3
  have hb3 : ((hcn : Int) != (hcn : Int)) = false := by simp
  go_enter Tryd.func20, Tryd.ntmps20
  go_wp2_with fail
  have hr_29 := fun (x : EW ((w.alloc (.cells #[.string a.title, .string a.lang, .int .u8 a.rate, .bool a.drop, .int .i64 a.last, .slice hra hrn hrc, .slice hea hen hec, .slice hca hcn hcc] 39)).alloc (.cells #[.string b.title, .string b.lang, .int .u8 b.rate, .bool b.drop, .int .i64 b.last, .slice kra hrn krc, .slice kea hen kec, .slice kca hcn kcc] 39))) (o : Nat) => (HBa.out.ext x.ext).cell o
  have hr_30 := fun (x : EW ((w.alloc (.cells #[.string a.title, .string a.lang, .int .u8 a.rate, .bool a.drop, .int .i64 a.last, .slice hra hrn hrc, .slice hea hen hec, .slice hca hcn hcc] 39)).alloc (.cells #[.string b.title, .string b.lang, .int .u8 b.rate, .bool b.drop, .int .i64 b.last, .slice kra hrn krc, .slice kea hen kec, .slice kca hcn kcc] 39))) (o : Nat) => (HBb.out.ext x.ext).cell o
  refine wp_region_ew ((w.alloc (.cells #[.string a.title, .string a.lang, .int .u8 a.rate, .bool a.drop, .int .i64 a.last, .slice hra hrn hrc, .slice hea hen hec, .slice hca hcn hcc] 39)).alloc (.cells #[.string b.title, .string b.lang, .int .u8 b.rate, .bool b.drop, .int .i64 b.last, .slice kra hrn krc, .slice kea hen kec, .slice kca hcn kcc] 39)) (Ext.refl _) (by kernel_rfl) (by kernel_rfl) ?_
  repeat (go_big_quiet_step ((go_at_call 44; first | with_reducible exact EW.calls _ (HHa.out _) | with_reducible exact EW.calls _ (HHb.out _))))
  refine wpQuiet_nil ?_
  rintro w_31 ⟨⟨_, hx_32⟩, rfl⟩
  try dsimp only
  clear hr_29 hr_30
  have HX_33 := Lib.hid (HX.out.trans hx_32)
  have HB_34 := Lib.hid (HBa.out.ext hx_32)
  have HB_35 := Lib.hid (HBb.out.ext hx_32)
  clear hx_32 HX HBa HBb
  have hc_36 := fun o => HB_34.out.cell o
  have hc_37 := fun o => HB_35.out.cell o
  go_wp2_with fail
  clear hc_36 hc_37
  go_loopw [43] (fun i wr => EqRel w_31 hrn a.regs b.regs i wr) (fun i _ => hrn - (intOf i).toNat)
  case atStart => exact ⟨0, Nat.zero_le _, rfl, Ext.refl _, rfl⟩
  case round =>
    obtain ⟨m, hm, rfl, hx, hp⟩ := hrel
    have HPr := Lib.hid hp
    have hxx := hx
    clear hp hx
    have HX_38 := Lib.hid (HX_33.out.trans hxx)
    have HB_39 := Lib.hid (HB_34.out.ext hxx)
    have HB_40 := Lib.hid (HB_35.out.ext hxx)
    clear HX_33 HB_34 HB_35
    by_cases hlt : m < hrn
    · obtain ⟨b1, o1, r, hea1, hr, c0, c1, c2, c3, c4, c5, c6⟩ := (HA.out.regs.ext HX_38.out).at_ hlt
      obtain ⟨b2, o2, s, hea2, hs, d0, d1, d2, d3, d4, d5, d6⟩ := (HB.out.regs.ext HX_38.out).at_ hlt
      subst hea1 hea2
      have HR := Lib.hid hr
      have HSs := Lib.hid hs
      clear hr hs
      have hk0 : (0 : Int) ≤ (m : Int) := by omega
      have hk1 : (m : Int) < (hrn : Int) := by omega
      by_cases hq : r = s
      · subst hq
        have HT := Lib.hid (take_eq_succ HPr.out HR.out HSs.out)
        have hne := fun w => neq_reg_no r w
        unfold Reg.val at hne
        have HXk := Lib.hid (Ext.refl wr)
        go_wp2_with fail
        have hr_43 := fun (x : EW wr) (o : Nat) => (HB_39.out.ext x.ext).cell o
        have hr_44 := fun (x : EW wr) (o : Nat) => (HB_40.out.ext x.ext).cell o
        have hr_45 := fun (y : EW wr) => y.ext.cell c0
        have hr_46 := fun (y : EW wr) => y.ext.cell c1
        have hr_47 := fun (y : EW wr) => y.ext.cell c2
        have hr_48 := fun (y : EW wr) => y.ext.cell c3
        have hr_49 := fun (y : EW wr) => y.ext.cell c4
        have hr_50 := fun (y : EW wr) => y.ext.cell c5
        have hr_51 := fun (y : EW wr) => y.ext.cell c6
        have hr_52 := fun (y : EW wr) => y.ext.cell d0
        have hr_53 := fun (y : EW wr) => y.ext.cell d1
        have hr_54 := fun (y : EW wr) => y.ext.cell d2
        have hr_55 := fun (y : EW wr) => y.ext.cell d3
        have hr_56 := fun (y : EW wr) => y.ext.cell d4
        have hr_57 := fun (y : EW wr) => y.ext.cell d5
        have hr_58 := fun (y : EW wr) => y.ext.cell d6
        refine wp_region_ew wr (Ext.refl _) (by kernel_rfl) (by kernel_rfl) ?_
        repeat (go_big_quiet_step ((fail)))
        refine wpQuiet_nil ?_
        rintro w_59 ⟨⟨_, hx_60⟩, rfl⟩
        have HLast := Lib.hid hx_60
        try dsimp only
        clear hr_43 hr_44 hr_45 hr_46 hr_47 hr_48 hr_49 hr_50 hr_51 hr_52 hr_53 hr_54 hr_55 hr_56 hr_57 hr_58
        have HX_61 := Lib.hid (HX_38.out.trans hx_60)
        have HB_62 := Lib.hid (HB_39.out.ext hx_60)
        have HB_63 := Lib.hid (HB_40.out.ext hx_60)
        clear hx_60 HX_38 HB_39 HB_40
        go_wp2_with fail
        exact ⟨⟨m + 1, by omega, by go_num, hxx.trans HLast.out, HT.out⟩, by simp [intOf]; omega⟩
      have HN := Lib.hid (ne_at HR.out HSs.out hq)
      have hne := fun w => neq_reg_yes r s hq w
      unfold Reg.val at hne
      clear hq
      go_wp2_with fail
      have hr_64 := fun (x : EW wr) (o : Nat) => (HB_39.out.ext x.ext).cell o
      have hr_65 := fun (x : EW wr) (o : Nat) => (HB_40.out.ext x.ext).cell o
      have hr_66 := fun (y : EW wr) => y.ext.cell c0
      have hr_67 := fun (y : EW wr) => y.ext.cell c1
      have hr_68 := fun (y : EW wr) => y.ext.cell c2
      have hr_69 := fun (y : EW wr) => y.ext.cell c3
      have hr_70 := fun (y : EW wr) => y.ext.cell c4
      have hr_71 := fun (y : EW wr) => y.ext.cell c5
      have hr_72 := fun (y : EW wr) => y.ext.cell c6
      have hr_73 := fun (y : EW wr) => y.ext.cell d0
      have hr_74 := fun (y : EW wr) => y.ext.cell d1
      have hr_75 := fun (y : EW wr) => y.ext.cell d2
      have hr_76 := fun (y : EW wr) => y.ext.cell d3
      have hr_77 := fun (y : EW wr) => y.ext.cell d4
      have hr_78 := fun (y : EW wr) => y.ext.cell d5
      have hr_79 := fun (y : EW wr) => y.ext.cell d6
      refine wp_region_ew wr (Ext.refl _) (by kernel_rfl) (by kernel_rfl) ?_
      repeat (go_big_quiet_step ((fail)))
      refine wpQuiet_nil ?_
      rintro w_80 ⟨⟨_, hx_81⟩, rfl⟩
      try dsimp only
      clear hr_64 hr_65 hr_66 hr_67 hr_68 hr_69 hr_70 hr_71 hr_72 hr_73 hr_74 hr_75 hr_76 hr_77 hr_78 hr_79
      have HX_82 := Lib.hid (HX_38.out.trans hx_81)
      have HB_83 := Lib.hid (HB_39.out.ext hx_81)
      have HB_84 := Lib.hid (HB_40.out.ext hx_81)
      clear hx_81 HX_38 HB_39 HB_40
      go_wp2_with fail
      go_ret
      exact ⟨ret_bool (by rw [HS.out, decide_eq_false HN.out]; simp), HX_82.out⟩
    have hmn : m = hrn := by omega
    subst hmn
    have HQr := Lib.hid (eq_of_take L1.out L2.out HPr.out)
    clear hxx
    have hc_85 := fun o => HB_39.out.cell o
    have hc_86 := fun o => HB_40.out.cell o
    go_wp2_with fail
    clear hc_85 hc_86
    obtain ⟨woe, rfl⟩ : ∃ wo : World, wo = wr := ⟨_, rfl⟩
    go_loopw [61] (fun i wr => EqRel woe hen a.evs b.evs i wr) (fun i _ => hen - (intOf i).toNat)
    case atStart => exact ⟨0, Nat.zero_le _, rfl, Ext.refl _, rfl⟩
    case round =>
      obtain ⟨m, hm, rfl, hx, hp⟩ := hrel
      have HPe := Lib.hid hp
      have hxx := hx
      clear hp hx
      have HX_87 := Lib.hid (HX_38.out.trans hxx)
      have HB_88 := Lib.hid (HB_39.out.ext hxx)
      have HB_89 := Lib.hid (HB_40.out.ext hxx)
      clear HX_38 HB_39 HB_40
      by_cases hlt : m < hen
      · obtain ⟨b1, o1, r, A1, n1, c1', hea1, hr, hat1, c0, c1, c2, c3, c4, c5, c6⟩ := (HA.out.evs.ext HX_87.out).at_ev hlt
        obtain ⟨b2, o2, s, A2, n2, c2', hea2, hs, hat2, d0, d1, d2, d3, d4, d5, d6⟩ := (HB.out.evs.ext HX_87.out).at_ev hlt
        subst hea1 hea2
        have HSm := Lib.hid (fun (y : EW wr) => RESame_any r s A1 n1 c1' A2 n2 c2' y.w (hat1.ext y.ext) (hat2.ext y.ext))
        unfold Ev.cells at HSm
        clear hat1 hat2
        have HR := Lib.hid hr
        have HSs := Lib.hid hs
        clear hr hs
        have hk0 : (0 : Int) ≤ (m : Int) := by omega
        have hk1 : (m : Int) < (hen : Int) := by omega
        by_cases hq : r = s
        · subst hq
          have HT := Lib.hid (take_eq_succ HPe.out HR.out HSs.out)
          have HSq : Hid (∀ y : EW wr, Calls Tryd.prog 21 #[.agg #[.int .i64 r.id, .int .i64 r.inn, .int .i64 r.out, .string r.region, .int .u8 r.kind, .string r.speaker, .slice A1 n1 c1'], .agg #[.int .i64 r.id, .int .i64 r.inn, .int .i64 r.out, .string r.region, .int .u8 r.kind, .string r.speaker, .slice A2 n2 c2']] y.w fun en w' => en = .returned (.bool true) ∧ Ext y.w w') := fun y => by have := HSm.out y; rwa [decide_eq_true rfl] at this
          have HXk := Lib.hid (Ext.refl wr)
          go_wp2_with fail
          have hr_92 := fun (x : EW wr) (o : Nat) => (HB_88.out.ext x.ext).cell o
          have hr_93 := fun (x : EW wr) (o : Nat) => (HB_89.out.ext x.ext).cell o
          have hr_94 := fun (y : EW wr) => y.ext.cell c0
          have hr_95 := fun (y : EW wr) => y.ext.cell c1
          have hr_96 := fun (y : EW wr) => y.ext.cell c2
          have hr_97 := fun (y : EW wr) => y.ext.cell c3
          have hr_98 := fun (y : EW wr) => y.ext.cell c4
          have hr_99 := fun (y : EW wr) => y.ext.cell c5
          have hr_100 := fun (y : EW wr) => y.ext.cell c6
          have hr_101 := fun (y : EW wr) => y.ext.cell d0
          have hr_102 := fun (y : EW wr) => y.ext.cell d1
          have hr_103 := fun (y : EW wr) => y.ext.cell d2
          have hr_104 := fun (y : EW wr) => y.ext.cell d3
          have hr_105 := fun (y : EW wr) => y.ext.cell d4
          have hr_106 := fun (y : EW wr) => y.ext.cell d5
          have hr_107 := fun (y : EW wr) => y.ext.cell d6
          refine wp_region_ew wr (Ext.refl _) (by kernel_rfl) (by kernel_rfl) ?_
          repeat (go_big_quiet_step ((go_at_call 21; exact EW.calls _ (HSq.out _))))
          refine wpQuiet_nil ?_
          rintro w_108 ⟨⟨_, hx_109⟩, rfl⟩
          have HLast := Lib.hid hx_109
          try dsimp only
          clear hr_92 hr_93 hr_94 hr_95 hr_96 hr_97 hr_98 hr_99 hr_100 hr_101 hr_102 hr_103 hr_104 hr_105 hr_106 hr_107
          have HX_110 := Lib.hid (HX_87.out.trans hx_109)
          have HB_111 := Lib.hid (HB_88.out.ext hx_109)
          have HB_112 := Lib.hid (HB_89.out.ext hx_109)
          clear hx_109 HX_87 HB_88 HB_89
          go_wp2_with fail
          exact ⟨⟨m + 1, by omega, by go_num, hxx.trans HLast.out, HT.out⟩, by simp [intOf]; omega⟩
        have HN := Lib.hid (ne_at HR.out HSs.out hq)
        have HSq : Hid (∀ y : EW wr, Calls Tryd.prog 21 #[.agg #[.int .i64 r.id, .int .i64 r.inn, .int .i64 r.out, .string r.region, .int .u8 r.kind, .string r.speaker, .slice A1 n1 c1'], .agg #[.int .i64 s.id, .int .i64 s.inn, .int .i64 s.out, .string s.region, .int .u8 s.kind, .string s.speaker, .slice A2 n2 c2']] y.w fun en w' => en = .returned (.bool false) ∧ Ext y.w w') := fun y => by have := HSm.out y; rwa [decide_eq_false hq] at this
        clear hq
        go_wp2_with fail
        have hr_113 := fun (x : EW wr) (o : Nat) => (HB_88.out.ext x.ext).cell o
        have hr_114 := fun (x : EW wr) (o : Nat) => (HB_89.out.ext x.ext).cell o
        have hr_115 := fun (y : EW wr) => y.ext.cell c0
        have hr_116 := fun (y : EW wr) => y.ext.cell c1
        have hr_117 := fun (y : EW wr) => y.ext.cell c2
        have hr_118 := fun (y : EW wr) => y.ext.cell c3
        have hr_119 := fun (y : EW wr) => y.ext.cell c4
        have hr_120 := fun (y : EW wr) => y.ext.cell c5
        have hr_121 := fun (y : EW wr) => y.ext.cell c6
        have hr_122 := fun (y : EW wr) => y.ext.cell d0
        have hr_123 := fun (y : EW wr) => y.ext.cell d1
        have hr_124 := fun (y : EW wr) => y.ext.cell d2
        have hr_125 := fun (y : EW wr) => y.ext.cell d3
        have hr_126 := fun (y : EW wr) => y.ext.cell d4
        have hr_127 := fun (y : EW wr) => y.ext.cell d5
        have hr_128 := fun (y : EW wr) => y.ext.cell d6
        refine wp_region_ew wr (Ext.refl _) (by kernel_rfl) (by kernel_rfl) ?_
        repeat (go_big_quiet_step ((go_at_call 21; exact EW.calls _ (HSq.out _))))
        refine wpQuiet_nil ?_
        rintro w_129 ⟨⟨_, hx_130⟩, rfl⟩
        try dsimp only
        clear hr_113 hr_114 hr_115 hr_116 hr_117 hr_118 hr_119 hr_120 hr_121 hr_122 hr_123 hr_124 hr_125 hr_126 hr_127 hr_128
        have HX_131 := Lib.hid (HX_87.out.trans hx_130)
        have HB_132 := Lib.hid (HB_88.out.ext hx_130)
        have HB_133 := Lib.hid (HB_89.out.ext hx_130)
        clear hx_130 HX_87 HB_88 HB_89
        go_wp2_with fail
        go_ret
        exact ⟨ret_bool (by rw [HS.out, decide_eq_false HN.out]; simp), HX_131.out⟩
      have hmn : m = hen := by omega
      subst hmn
      have HQe := Lib.hid (eq_of_take L3.out L4.out HPe.out)
      clear hxx
      have hc_134 := fun o => HB_88.out.cell o
      have hc_135 := fun o => HB_89.out.cell o
      go_wp2_with fail
      clear hc_134 hc_135
      obtain ⟨woc, rfl⟩ : ∃ wo : World, wo = wr := ⟨_, rfl⟩
      go_loopw [80] (fun i wr => EqRel woc hcn a.coms b.coms i wr) (fun i _ => hcn - (intOf i).toNat)
      case atStart => exact ⟨0, Nat.zero_le _, rfl, Ext.refl _, rfl⟩
      case round =>
        obtain ⟨m, hm, rfl, hx, hp⟩ := hrel
        have HPc := Lib.hid hp
        have hxx := hx
        clear hp hx
        have HX_136 := Lib.hid (HX_87.out.trans hxx)
        have HB_137 := Lib.hid (HB_88.out.ext hxx)
        have HB_138 := Lib.hid (HB_89.out.ext hxx)
        clear HX_87 HB_88 HB_89
        by_cases hlt : m < hcn
        · obtain ⟨b1, o1, r, hea1, hr, c0, c1, c2, c3, c4, c5, c6, c7⟩ := (HA.out.coms.ext HX_136.out).at8 hlt
          obtain ⟨b2, o2, s, hea2, hs, d0, d1, d2, d3, d4, d5, d6, d7⟩ := (HB.out.coms.ext HX_136.out).at8 hlt
          subst hea1 hea2
          have HR := Lib.hid hr
          have HSs := Lib.hid hs
          clear hr hs
          have hk0 : (0 : Int) ≤ (m : Int) := by omega
          have hk1 : (m : Int) < (hcn : Int) := by omega
          by_cases hq : r = s
          · subst hq
            have HT := Lib.hid (take_eq_succ HPc.out HR.out HSs.out)
            have hne := fun w => neq_com_no r w
            unfold Com.aggV at hne
            have HXk := Lib.hid (Ext.refl wr)
            go_wp2_with fail
            have hr_141 := fun (x : EW wr) (o : Nat) => (HB_137.out.ext x.ext).cell o
            have hr_142 := fun (x : EW wr) (o : Nat) => (HB_138.out.ext x.ext).cell o
            have hr_143 := fun (y : EW wr) => y.ext.cell c0
            have hr_144 := fun (y : EW wr) => y.ext.cell c1
            have hr_145 := fun (y : EW wr) => y.ext.cell c2
            have hr_146 := fun (y : EW wr) => y.ext.cell c3
            have hr_147 := fun (y : EW wr) => y.ext.cell c4
            have hr_148 := fun (y : EW wr) => y.ext.cell c5
            have hr_149 := fun (y : EW wr) => y.ext.cell c6
            have hr_150 := fun (y : EW wr) => y.ext.cell c7
            have hr_151 := fun (y : EW wr) => y.ext.cell d0
            have hr_152 := fun (y : EW wr) => y.ext.cell d1
            have hr_153 := fun (y : EW wr) => y.ext.cell d2
            have hr_154 := fun (y : EW wr) => y.ext.cell d3
            have hr_155 := fun (y : EW wr) => y.ext.cell d4
            have hr_156 := fun (y : EW wr) => y.ext.cell d5
            have hr_157 := fun (y : EW wr) => y.ext.cell d6
            have hr_158 := fun (y : EW wr) => y.ext.cell d7
            refine wp_region_ew wr (Ext.refl _) (by kernel_rfl) (by kernel_rfl) ?_
            repeat (go_big_quiet_step ((fail)))
            refine wpQuiet_nil ?_
            rintro w_159 ⟨⟨_, hx_160⟩, rfl⟩
            have HLast := Lib.hid hx_160
            try dsimp only
            clear hr_141 hr_142 hr_143 hr_144 hr_145 hr_146 hr_147 hr_148 hr_149 hr_150 hr_151 hr_152 hr_153 hr_154 hr_155 hr_156 hr_157 hr_158
            have HX_161 := Lib.hid (HX_136.out.trans hx_160)
            have HB_162 := Lib.hid (HB_137.out.ext hx_160)
            have HB_163 := Lib.hid (HB_138.out.ext hx_160)
            clear hx_160 HX_136 HB_137 HB_138
            go_wp2_with fail
            exact ⟨⟨m + 1, by omega, by go_num, hxx.trans HLast.out, HT.out⟩, by simp [intOf]; omega⟩
          have HN := Lib.hid (ne_at HR.out HSs.out hq)
          have hne := fun w => neq_com_yes r s hq w
          unfold Com.aggV at hne
          clear hq
          go_wp2_with fail
          have hr_164 := fun (x : EW wr) (o : Nat) => (HB_137.out.ext x.ext).cell o
          have hr_165 := fun (x : EW wr) (o : Nat) => (HB_138.out.ext x.ext).cell o
          have hr_166 := fun (y : EW wr) => y.ext.cell c0
          have hr_167 := fun (y : EW wr) => y.ext.cell c1
          have hr_168 := fun (y : EW wr) => y.ext.cell c2
          have hr_169 := fun (y : EW wr) => y.ext.cell c3
          have hr_170 := fun (y : EW wr) => y.ext.cell c4
          have hr_171 := fun (y : EW wr) => y.ext.cell c5
          have hr_172 := fun (y : EW wr) => y.ext.cell c6
          have hr_173 := fun (y : EW wr) => y.ext.cell c7
          have hr_174 := fun (y : EW wr) => y.ext.cell d0
          have hr_175 := fun (y : EW wr) => y.ext.cell d1
          have hr_176 := fun (y : EW wr) => y.ext.cell d2
          have hr_177 := fun (y : EW wr) => y.ext.cell d3
          have hr_178 := fun (y : EW wr) => y.ext.cell d4
          have hr_179 := fun (y : EW wr) => y.ext.cell d5
          have hr_180 := fun (y : EW wr) => y.ext.cell d6
          have hr_181 := fun (y : EW wr) => y.ext.cell d7
          refine wp_region_ew wr (Ext.refl _) (by kernel_rfl) (by kernel_rfl) ?_
          repeat (go_big_quiet_step ((fail)))
          refine wpQuiet_nil ?_
          rintro w_182 ⟨⟨_, hx_183⟩, rfl⟩
          try dsimp only
          clear hr_164 hr_165 hr_166 hr_167 hr_168 hr_169 hr_170 hr_171 hr_172 hr_173 hr_174 hr_175 hr_176 hr_177 hr_178 hr_179 hr_180 hr_181
          have HX_184 := Lib.hid (HX_136.out.trans hx_183)
          have HB_185 := Lib.hid (HB_137.out.ext hx_183)
          have HB_186 := Lib.hid (HB_138.out.ext hx_183)
          clear hx_183 HX_136 HB_137 HB_138
          go_wp2_with fail
          go_ret
          exact ⟨ret_bool (by rw [HS.out, decide_eq_false HN.out]; simp), HX_184.out⟩
        have hmn : m = hcn := by omega
        subst hmn
        have HQc := Lib.hid (eq_of_take L5.out L6.out HPc.out)
        clear hxx
        go_wp2_with fail
        go_ret
        exact ⟨ret_bool (by rw [HS.out, decide_eq_true HH.out, decide_eq_true HQr.out, decide_eq_true HQe.out, decide_eq_true HQc.out]; rfl), HX_136.out⟩
end Go.Proofs.YtagfedbdakmlgaaDoor

/-! OpenC -/
namespace Go.Proofs.YtagfedbdakmlgaaDoor
set_option linter.unusedVariables false
set_option linter.unusedSimpArgs false
open Go.RowKit Go.ChangeShapes Go.WideShapes Go.ChangeAt
set_option maxRecDepth 100000
/-- the lists of a document of one's own are short -/
def DocShort (d : Doc) : Prop := d.regs.length ≤ 16 ∧ d.evs.length ≤ 1000000 ∧ d.coms.length ≤ 1000000
theorem DocOwn.short {w : World} {L : Nat} {d : Doc} {h : DocH} (o : DocOwn w L d h) (s : DocShort d) : h.rn ≤ 1000000000 ∧ h.en ≤ 1000000000 ∧ h.cn ≤ 1000000000 := by
  have h1 := o.rlen
  have h2 := o.evs.len
  have h3 := o.clen
  obtain ⟨s1, s2, s3⟩ := s
  omega
end Go.Proofs.YtagfedbdakmlgaaDoor
