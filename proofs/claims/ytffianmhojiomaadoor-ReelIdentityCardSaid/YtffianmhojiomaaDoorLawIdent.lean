/- The walk of the law ReelIdentity. -/
import Derived.Test.YtffianmhojiomaaDoorIdent
namespace Go.Proofs.YtffianmhojiomaaDoor
set_option linter.unusedVariables false
set_option linter.unusedSimpArgs false
open Go.RowKit
theorem identE_edlok {r : Int} {drop : Bool} {nm : ByteArray} {f : Int} (h0 : 0 ≤ r) (h1 : r ≤ 255) (hn : nm.size ≤ 140737488351232) (hf : I64 f) : EdlOk (identE r drop nm f) := by
  unfold identE
  split
  · exact idE_edlok h0 h1 hn hf
  · exact zeroE_edlok
theorem identE_len (r : Int) (drop : Bool) (nm : ByteArray) (f : Int) : (identE r drop nm f).cuts.length ≤ 1 := by
  unfold identE
  split <;> simp [idE, zeroE]
set_option maxRecDepth 100000 in
set_option maxHeartbeats 4000000 in
theorem ReelIdentity_any (r a b : Int) (nm : ByteArray) (w : World) (hE : Env w) (h0 : 0 ≤ r) (h1 : r ≤ 255) (hnm : nm.size ≤ 140737488351232) (ha : I64 a) :
    Calls Tryd.prog 5 #[.int .u8 r, .agg #[.int .i64 a, .int .i64 b], .string nm] w fun en w' => en = .returned (.bool true) ∧ Ext w w' := by
  have HX := Lib.hid ((Ext.refl w).alloc (.cells #[.int .i64 a, .int .i64 b] 44))
  have HB := Lib.hid (Blk.new w 44 #[.int .i64 a, .int .i64 b])
  have HE := Lib.hid hE
  have HId := Lib.hid (fun drop w' (hx : Ext w w') => Identity_any r drop nm a w' (hE.ext hx) h0 h1 hnm ha)
  have HRi := Lib.hid (fun drop w' (hx : Ext w w') => RIdentity_any r drop nm a w' h0 h1 hnm ha)
  have HRf := Lib.hid (fun drop A' n' c' w' => Ref_any (identE r drop nm a) A' n' c' w')
  have HSa := Lib.hid (fun drop A' n' c' B' d' w' => RSame_true (identE r drop nm a) A' n' c' B' d' w')
  have HAt := Lib.hid (fun drop A' n' c' w' (hx : Ext w w') (hl : CutsAt w' A' n' (identE r drop nm a).cuts) (hn : n' ≤ 1000000) => At_any (identE r drop nm a) A' n' c' b w' (hE.ext hx) hl hn (identE_edlok h0 h1 hnm ha))
  have HLb := Lib.hid (fun drop => identE_len r drop nm a)
  have HAI := Lib.hid (fun drop (h : edlErr (idE r drop nm a) = 0) => (show atE (identE r drop nm a) b = if 0 ≤ b ∧ b < a then (nm, b, true) else (⟨#[]⟩, 0, false) from by rw [ident_ok h, ident_at h]))
  clear hE h0 h1 hnm
  unfold EdlPost at HId HRi
  unfold Edl.cells at *
  unfold atVal at HAt
  go_enter Tryd.func5, Tryd.ntmps5
  go_wp2_with fail
  refine (awake_any _ (HE.out.ext HX.out)).mono ?_
  rintro en w_1 ⟨rfl, hx1⟩
  have HX_1 := Lib.hid (HX.out.trans hx1)
  have HBn_1 := Lib.hid (HB.out.ext hx1)
  clear hx1 HB
  have hcn := fun o => HBn_1.out.cell o
  go_wp2_with fail
  clear hcn
  generalize hdr : (Int.tmod b 2 == 1) = drop at *
  clear hdr
  have HId := Lib.hid (HId.out drop)
  have HRi := Lib.hid (HRi.out drop)
  have HRf := Lib.hid (HRf.out drop)
  have HSa := Lib.hid (HSa.out drop)
  have HAt := Lib.hid (HAt.out drop)
  have HLb := Lib.hid (HLb.out drop)
  have HAI := Lib.hid (HAI.out drop)
  generalize identE r drop nm a = J at *
  generalize edlErr (idE r drop nm a) = er at *
  generalize atE J b = q at *
  obtain ⟨rs, rf, rb⟩ := q
  dsimp only at *
  refine (HId.out _ HX_1.out).mono ?_
  rintro en w_2 ⟨A1, n1, c1, rfl, hat1, hle1, hx2⟩
  have HX_2 := Lib.hid (HX_1.out.trans hx2)
  have HBn_2 := Lib.hid (HBn_1.out.ext hx2)
  clear hx2 HX_1 HBn_1
  have HAT1_2 := Lib.hid hat1
  have hn1 : n1 ≤ 1000000 := by have := HLb.out; have := hat1.len; omega
  clear hat1
  have HZ_3 := Lib.hid (Blk.new w_2 32 #[.string ⟨#[]⟩, .int .u8 0, .bool false, .slice none 0 0])
  have HS_3 := Lib.hid (((Ext.refl w_2).alloc (.cells #[.string ⟨#[]⟩, .int .u8 0, .bool false, .slice none 0 0] 32)).put (g := w_2.heap.size) (Nat.le_refl _) 32 #[.string J.title, .int .u8 J.rate, .bool J.drop, .slice A1 n1 c1])
  have HX_3 := Lib.hid (HX_2.out.trans HS_3.out)
  have HBn_3 := Lib.hid (HBn_2.out.ext HS_3.out)
  have HAT1_3 := Lib.hid (HAT1_2.out.ext HS_3.out)
  have HBx_3 := Lib.hid (HZ_3.out.put #[.string J.title, .int .u8 J.rate, .bool J.drop, .slice A1 n1 c1])
  clear HX_2 HBn_2 HAT1_2
  have hcn := fun o => HBn_3.out.cell o
  go_wp2_with (refine wpList_storeB rfl 32 (.tmp 8) (.tmp 27) rfl w_2.heap.size 32 _ _ (by exact rfl) (by exact rfl) (by exact HZ_3.out) (by exact rfl) (by exact size_list) (by simp [Value.oneCell']) ?_)
  clear hcn
  refine (HRi.out _ HX_3.out).mono ?_
  rintro en w_4 ⟨A2, n2, c2, rfl, hat2, hle2, hx4⟩
  have HX_4 := Lib.hid (HX_3.out.trans hx4)
  have HBn_4 := Lib.hid (HBn_3.out.ext hx4)
  have HBx_4 := Lib.hid (HBx_3.out.ext hx4)
  have HAT1_4 := Lib.hid (HAT1_3.out.ext hx4)
  clear hx4 HX_3 HBn_3 HBx_3 HAT1_3
  obtain rfl : n2 = n1 := hat2.len.symm.trans HAT1_4.out.len
  have HAT2_4 := Lib.hid hat2
  clear hat2
  have HZ_5 := Lib.hid (Blk.new w_4 25 #[.string ⟨#[]⟩, .int .u8 0, .bool false, .slice none 0 0])
  have HS_5 := Lib.hid (((Ext.refl w_4).alloc (.cells #[.string ⟨#[]⟩, .int .u8 0, .bool false, .slice none 0 0] 25)).put (g := w_4.heap.size) (Nat.le_refl _) 25 #[.string J.title, .int .u8 J.rate, .bool J.drop, .slice A2 n2 c2])
  have HX_5 := Lib.hid (HX_4.out.trans HS_5.out)
  have HBn_5 := Lib.hid (HBn_4.out.ext HS_5.out)
  have HBx_5 := Lib.hid (HBx_4.out.ext HS_5.out)
  have HAT1_5 := Lib.hid (HAT1_4.out.ext HS_5.out)
  have HAT2_5 := Lib.hid (HAT2_4.out.ext HS_5.out)
  have HBy_5 := Lib.hid (HZ_5.out.put #[.string J.title, .int .u8 J.rate, .bool J.drop, .slice A2 n2 c2])
  clear HX_4 HBn_4 HBx_4 HAT1_4 HAT2_4
  go_wp2_with (refine wpList_storeB rfl 25 (.tmp 10) (.tmp 36) rfl w_4.heap.size 25 _ _ (by exact rfl) (by exact rfl) (by exact HZ_5.out) (by exact rfl) (by exact rsize_list) (by simp [Value.oneCell']) ?_)
  refine wp_region_vals [.agg #[.string J.title, .int .u8 J.rate, .bool J.drop, .slice A1 n2 c1], .agg #[.string J.title, .int .u8 J.rate, .bool J.drop, .slice A1 n2 c1], .agg #[.string J.title, .int .u8 J.rate, .bool J.drop, .slice A2 n2 c2], .bool true, .bool false, .bool false, .int .i64 er, .int .i64 er, .bool false, .bool false] [(38, .agg #[.string J.title, .int .u8 J.rate, .bool J.drop, .slice A1 n2 c1]), (39, .agg #[.string J.title, .int .u8 J.rate, .bool J.drop, .slice A1 n2 c1]), (40, .agg #[.string J.title, .int .u8 J.rate, .bool J.drop, .slice A2 n2 c2]), (41, .bool true), (42, .bool false), (43, .bool false), (44, .int .i64 er), (45, .int .i64 er), (46, .bool false), (47, .bool false)] (by kernel_rfl) (by kernel_rfl) (by kernel_rfl) rfl rfl ?_ ?_
  · intro i o ho a w' K' hx hn hd hk
    match i, ho with
    | 0, ho =>
      simp only [List.getElem?_toArray, List.getElem?_cons_zero, List.getElem?_cons_succ, Option.some.injEq] at ho
      subst ho
      refine want_none rfl ?_
      exact wp_loadB 32 (.tmp 8) rfl _ 32 _ _ ((hn 8 rfl).trans (show _ = Value.pointer (some ⟨w_2.heap.size, 0, none⟩) from rfl)) (HBx_5.out.ext hx) Tryd.underlying32 rfl (by exact size_list) (hk _ rfl w' (Ext.refl _))
    | 1, ho =>
      simp only [List.getElem?_toArray, List.getElem?_cons_zero, List.getElem?_cons_succ, Option.some.injEq] at ho
      subst ho
      refine want_none rfl ?_
      exact wp_call1s rfl (eval_of (hd 0 38 (.agg #[.string J.title, .int .u8 J.rate, .bool J.drop, .slice A1 n2 c1]) rfl rfl rfl)) Tryd.call17 (HRf.out _ _ _ w') (hk _ rfl)
    | 2, ho =>
      simp only [List.getElem?_toArray, List.getElem?_cons_zero, List.getElem?_cons_succ, Option.some.injEq] at ho
      subst ho
      refine want_none rfl ?_
      exact wp_loadB 25 (.tmp 10) rfl _ 25 _ _ ((hn 10 rfl).trans (show _ = Value.pointer (some ⟨w_4.heap.size, 0, none⟩) from rfl)) (HBy_5.out.ext hx) Tryd.underlying25 rfl (by exact rsize_list) (hk _ rfl w' (Ext.refl _))
    | 3, ho =>
      simp only [List.getElem?_toArray, List.getElem?_cons_zero, List.getElem?_cons_succ, Option.some.injEq] at ho
      subst ho
      refine want_none rfl ?_
      exact wp_call2 rfl (eval_of (hd 1 39 (.agg #[.string J.title, .int .u8 J.rate, .bool J.drop, .slice A1 n2 c1]) rfl rfl rfl)) (eval_of (hd 2 40 (.agg #[.string J.title, .int .u8 J.rate, .bool J.drop, .slice A2 n2 c2]) rfl rfl rfl)) Tryd.call16 (HSa.out _ _ _ _ _ w' (HAT1_5.out.ext hx) (HAT2_5.out.ext hx) hn1) (hk _ rfl)
    | 4, ho =>
      simp only [List.getElem?_toArray, List.getElem?_cons_zero, List.getElem?_cons_succ, Option.some.injEq] at ho
      subst ho
      refine want_none rfl ?_
      exact wp_un rfl (eval_of (hd 3 41 (.bool true) rfl rfl rfl)) (by go_simp) (hk _ rfl w' (Ext.refl _))
    | 5, ho =>
      simp only [List.getElem?_toArray, List.getElem?_cons_zero, List.getElem?_cons_succ, Option.some.injEq] at ho
      subst ho
      refine want_none rfl ?_
      exact wp_move _ _ rfl (eval_of (hd 4 42 (.bool false) rfl rfl rfl)) (hk _ rfl w' (Ext.refl _))
    | 6, ho =>
      simp only [List.getElem?_toArray, List.getElem?_cons_zero, List.getElem?_cons_succ, Option.some.injEq] at ho
      subst ho
      refine want_yes rfl rfl (hd 5 43 (.bool false) rfl rfl rfl) rfl ?_
      exact wp_move _ _ rfl ((hn 9 rfl).trans (show _ = .int .i64 er from rfl)) (hk _ rfl w' (Ext.refl _))
    | 7, ho =>
      simp only [List.getElem?_toArray, List.getElem?_cons_zero, List.getElem?_cons_succ, Option.some.injEq] at ho
      subst ho
      refine want_yes rfl rfl (hd 5 43 (.bool false) rfl rfl rfl) rfl ?_
      exact wp_move _ _ rfl ((hn 11 rfl).trans (show _ = .int .i64 er from rfl)) (hk _ rfl w' (Ext.refl _))
    | 8, ho =>
      simp only [List.getElem?_toArray, List.getElem?_cons_zero, List.getElem?_cons_succ, Option.some.injEq] at ho
      subst ho
      refine want_yes rfl rfl (hd 5 43 (.bool false) rfl rfl rfl) rfl ?_
      exact wp_bin rfl (eval_of (hd 6 44 (.int .i64 er) rfl rfl rfl)) (eval_of (hd 7 45 (.int .i64 er) rfl rfl rfl)) (by first | (go_simp; done) | (go_simp; simp; done) | (simp; done)) (hk _ rfl w' (Ext.refl _))
    | 9, ho =>
      simp only [List.getElem?_toArray, List.getElem?_cons_zero, List.getElem?_cons_succ, Option.some.injEq] at ho
      subst ho
      refine want_none rfl ?_
      exact wp_pick _ _ _ false _ rfl (eval_of (hd 5 43 (.bool false) rfl rfl rfl)) (by exact (eval_of (hd 8 46 (.bool false) rfl rfl rfl))) (hk _ rfl w' (Ext.refl _))
    | i + 10, ho => simp at ho
  intro w_6 hx6
  simp only [Act.put, List.foldl_cons, List.foldl_nil, List.setIfInBounds_toArray, List.set_cons_zero, List.set_cons_succ]
  have HX_6 := Lib.hid (HX_5.out.trans hx6)
  have HBn_6 := Lib.hid (HBn_5.out.ext hx6)
  have HBx_6 := Lib.hid (HBx_5.out.ext hx6)
  have HBy_6 := Lib.hid (HBy_5.out.ext hx6)
  have HAT1_6 := Lib.hid (HAT1_5.out.ext hx6)
  have HAT2_6 := Lib.hid (HAT2_5.out.ext hx6)
  clear hx6 HX_5 HBn_5 HBx_5 HBy_5 HAT1_5 HAT2_5
  have hcn := fun o => HBn_6.out.cell o
  go_wp2_with (refine wpList_loadB rfl 32 (.tmp 8) rfl w_2.heap.size 32 _ _ (by exact rfl) (by exact HBx_6.out) Tryd.underlying32 rfl (by exact size_list) ?_)
  clear hcn
  refine (HAt.out _ _ _ _ HX_6.out HAT1_6.out hn1).mono ?_
  rintro en w_7 ⟨rfl, hx7⟩
  have HX_7 := Lib.hid (HX_6.out.trans hx7)
  have HBn_7 := Lib.hid (HBn_6.out.ext hx7)
  have HBx_7 := Lib.hid (HBx_6.out.ext hx7)
  have HBy_7 := Lib.hid (HBy_6.out.ext hx7)
  have HAT1_7 := Lib.hid (HAT1_6.out.ext hx7)
  have HAT2_7 := Lib.hid (HAT2_6.out.ext hx7)
  clear hx7 HX_6 HBn_6 HBx_6 HBy_6 HAT1_6 HAT2_6
  have HZ_8 := Lib.hid (Blk.new w_7 29 #[.string ⟨#[]⟩, .int .i64 0])
  have HS_8 := Lib.hid (((Ext.refl w_7).alloc (.cells #[.string ⟨#[]⟩, .int .i64 0] 29)).put (g := w_7.heap.size) (Nat.le_refl _) 29 #[.string rs, .int .i64 rf])
  have HX_8 := Lib.hid (HX_7.out.trans HS_8.out)
  have HBn_8 := Lib.hid (HBn_7.out.ext HS_8.out)
  have HBx_8 := Lib.hid (HBx_7.out.ext HS_8.out)
  have HBy_8 := Lib.hid (HBy_7.out.ext HS_8.out)
  have HAT1_8 := Lib.hid (HAT1_7.out.ext HS_8.out)
  have HAT2_8 := Lib.hid (HAT2_7.out.ext HS_8.out)
  have HBs_8 := Lib.hid (HZ_8.out.put #[.string rs, .int .i64 rf])
  clear HX_7 HBn_7 HBx_7 HBy_7 HAT1_7 HAT2_7
  by_cases her : er = 0
  case neg =>
    have hne : (er != 0) = true := by simpa using her
    clear her
    go_wp2_with (refine wpList_storeB rfl 29 (.tmp 12) (.tmp 53) rfl w_7.heap.size 29 _ _ (by exact rfl) (by exact rfl) (by exact HZ_8.out) (by exact rfl) (by exact size_src) (by simp [Value.oneCell']) ?_)
    go_ret
    exact ⟨by first | (simp; done) | (simp; omega), HX_8.out⟩
  subst her
  have haq := HAI.out (by first | trivial | rfl)
  by_cases hb0 : 0 ≤ b
  case neg =>
    rw [if_neg (by omega)] at haq
    simp only [Prod.mk.injEq] at haq
    obtain ⟨rfl, rfl, rfl⟩ := haq
    have hcn := fun o => HBn_8.out.cell o
    have hcs := fun o => HBs_8.out.cell o
    go_wp2_with (refine wpList_storeB rfl 29 (.tmp 12) (.tmp 53) rfl w_7.heap.size 29 _ _ (by exact rfl) (by exact rfl) (by exact HZ_8.out) (by exact rfl) (by exact size_src) (by simp [Value.oneCell']) ?_)
    clear hcn hcs
    go_ret
    exact ⟨by first | (simp; done) | (simp; omega), HX_8.out⟩
  by_cases hba : b < a
  case neg =>
    rw [if_neg (by omega)] at haq
    simp only [Prod.mk.injEq] at haq
    obtain ⟨rfl, rfl, rfl⟩ := haq
    have hcn := fun o => HBn_8.out.cell o
    have hcs := fun o => HBs_8.out.cell o
    go_wp2_with (refine wpList_storeB rfl 29 (.tmp 12) (.tmp 53) rfl w_7.heap.size 29 _ _ (by exact rfl) (by exact rfl) (by exact HZ_8.out) (by exact rfl) (by exact size_src) (by simp [Value.oneCell']) ?_)
    clear hcn hcs
    go_ret
    exact ⟨by first | (simp; done) | (simp; omega), HX_8.out⟩
  rw [if_pos ⟨hb0, hba⟩] at haq
  simp only [Prod.mk.injEq] at haq
  obtain ⟨rfl, rfl, rfl⟩ := haq
  have hcn := fun o => HBn_8.out.cell o
  have hcs := fun o => HBs_8.out.cell o
  go_wp2_with (refine wpList_storeB rfl 29 (.tmp 12) (.tmp 53) rfl w_7.heap.size 29 _ _ (by exact rfl) (by exact rfl) (by exact HZ_8.out) (by exact rfl) (by exact size_src) (by simp [Value.oneCell']) ?_)
  clear hcn hcs
  go_ret
  exact ⟨by simp, HX_8.out⟩
end Go.Proofs.YtffianmhojiomaaDoor
