/- The walk of the law ReelSwaps. -/
import Derived.Test.YtffianmhojiomaaDoorSwapR
namespace Go.Proofs.YtffianmhojiomaaDoor
set_option linter.unusedVariables false
set_option linter.unusedSimpArgs false
open Go.RowKit
theorem swapE_len (e : Edl) (a b : ByteArray) : (swapE e a b).cuts.length ≤ e.cuts.length := by
  unfold swapE
  split
  · show (swapC _ _ _).length ≤ _; rw [swapC_len]; exact Nat.le_refl _
  · exact Nat.zero_le _
set_option maxRecDepth 100000 in
set_option maxHeartbeats 4000000 in
theorem ReelSwaps_any (e : Edl) (A : Option Addr) (n c : Nat) (a b : ByteArray) (w : World) (hE : Env w) (hl : CutsAt w A n e.cuts) (hok : EdlOk e) :
    Calls Tryd.prog 4 #[.agg (e.cells A n c), .string a, .string b] w fun en w' => en = .returned (.bool true) ∧ Ext w w' := by
  have HX := Lib.hid ((Ext.refl w).alloc (.cells (e.cells A n c) 25))
  have HB := Lib.hid (Blk.new w 25 (e.cells A n c))
  have HE := Lib.hid hE
  have HSm := Lib.hid (fun w' => small_any e A n c w')
  have HOf := Lib.hid (fun w' => Of_any e A n c w')
  have HSw := Lib.hid (fun w' (hx : Ext w w') (hn : n ≤ 1000000) => Swap_any e A n c a b w' (hE.ext hx) (hl.ext hx) hn hok)
  have HRs := Lib.hid (fun w' (hx : Ext w w') (hn : n ≤ 1000000) => RSwap_any e A n c a b w' (hl.ext hx) hn hok)
  have HRf := Lib.hid (fun A' n' c' w' => Ref_any (swapE e a b) A' n' c' w')
  have HSa := Lib.hid (fun A' n' c' B' d' w' => RSame_true (swapE e a b) A' n' c' B' d' w')
  have HRe := Lib.hid (fun A' n' c' w' => Ref_any e A' n' c' w')
  have HSe := Lib.hid (fun A' n' c' B' d' w' => RSame_true e A' n' c' B' d' w')
  have hok2 := swapE_edlok (a := a) (b := b) hok
  have HS2 := Lib.hid (fun (h : swapErr e a b = 0) A' n' c' w' (hx : Ext w w') (hl' : CutsAt w' A' n' (swapE e a b).cuts) (hn : n' ≤ 1000000) => (Swap_any (swapE e a b) A' n' c' a b w' (hE.ext hx) hl' hn hok2).mono (fun en w'' (h' : EdlPost _ _ w' en w'') => show ∃ A2 c2, en = .returned (.tuple #[.agg (e.cells A2 n c2), .int .i64 0]) ∧ CutsAt w'' A2 n e.cuts ∧ Ext w' w'' from by
    obtain ⟨A2, n2, c2, rfl, h2, _, h4⟩ := h'
    obtain ⟨t1, t2⟩ := swap_twice h
    rw [t2] at h2 ⊢
    rw [t1]
    have : n = n2 := by rw [← h2.len, hl.len]
    subst this
    exact ⟨A2, c2, rfl, h2, h4⟩))
  have HSb : Hid (smallB e n = true → n ≤ 1000000) := fun h => by have := of_decide_eq_true h; omega
  have HLb : Hid (n ≤ 1000000 → (swapE e a b).cuts.length ≤ 1000000) := fun h => by have := swapE_len e a b; have := hl.len; omega
  have HL_0 := Lib.hid hl
  clear hE hl hok hok2
  unfold EdlPost at HSw HRs
  unfold Edl.cells at *
  generalize swapE e a b = J at *
  generalize swapErr e a b = er at *
  go_enter Tryd.func4, Tryd.ntmps4
  go_wp2_with fail
  have HLx_0 := Lib.hid (HL_0.out.ext HX.out)
  refine (awake_any _ (HE.out.ext HX.out)).mono ?_
  rintro en w_1 ⟨rfl, hx1⟩
  have HX_1 := Lib.hid (HX.out.trans hx1)
  have HBl_1 := Lib.hid (HB.out.ext hx1)
  have HLx_1 := Lib.hid (HLx_0.out.ext hx1)
  clear hx1 HB HLx_0
  go_wp2_with (refine wpList_loadB rfl 25 (.tmp 3) rfl w.heap.size 25 _ _ (by exact rfl) (by exact HBl_1.out) Tryd.underlying25 rfl (by exact rsize_list) ?_)
  refine (HSm.out _).mono ?_
  rintro en w_2 ⟨rfl, hx2⟩
  have HX_2 := Lib.hid (HX_1.out.trans hx2)
  have HBl_2 := Lib.hid (HBl_1.out.ext hx2)
  have HLx_2 := Lib.hid (HLx_1.out.ext hx2)
  clear hx2 HX_1 HBl_1 HLx_1
  cases hsm : smallB e n
  · go_wp2_with fail
    go_ret
    exact ⟨rfl, HX_2.out⟩
  have hn := HSb.out hsm
  clear hsm HSb
  go_wp2_with (refine wpList_loadB rfl 25 (.tmp 3) rfl w.heap.size 25 _ _ (by exact rfl) (by exact HBl_2.out) Tryd.underlying25 rfl (by exact rsize_list) ?_)
  refine (HOf.out _).mono ?_
  rintro en w_3 ⟨rfl, hx3⟩
  have HX_3 := Lib.hid (HX_2.out.trans hx3)
  have HBl_3 := Lib.hid (HBl_2.out.ext hx3)
  have HLx_3 := Lib.hid (HLx_2.out.ext hx3)
  clear hx3 HX_2 HBl_2 HLx_2
  go_wp2_with fail
  refine (HSw.out _ HX_3.out hn).mono ?_
  rintro en w_4 ⟨A1, n1, c1, rfl, hat1, hle1, hx4⟩
  have HX_4 := Lib.hid (HX_3.out.trans hx4)
  have HBl_4 := Lib.hid (HBl_3.out.ext hx4)
  have HLx_4 := Lib.hid (HLx_3.out.ext hx4)
  clear hx4 HX_3 HBl_3 HLx_3
  have HAT1_4 := Lib.hid hat1
  clear hat1
  have HZ_5 := Lib.hid (Blk.new w_4 32 #[.string ⟨#[]⟩, .int .u8 0, .bool false, .slice none 0 0])
  have HS_5 := Lib.hid (((Ext.refl w_4).alloc (.cells #[.string ⟨#[]⟩, .int .u8 0, .bool false, .slice none 0 0] 32)).put (g := w_4.heap.size) (Nat.le_refl _) 32 #[.string J.title, .int .u8 J.rate, .bool J.drop, .slice A1 n1 c1])
  have HX_5 := Lib.hid (HX_4.out.trans HS_5.out)
  have HBl_5 := Lib.hid (HBl_4.out.ext HS_5.out)
  have HLx_5 := Lib.hid (HLx_4.out.ext HS_5.out)
  have HAT1_5 := Lib.hid (HAT1_4.out.ext HS_5.out)
  have HBx_5 := Lib.hid (HZ_5.out.put #[.string J.title, .int .u8 J.rate, .bool J.drop, .slice A1 n1 c1])
  clear HX_4 HBl_4 HLx_4 HAT1_4
  go_wp2_with (first | (refine wpList_storeB rfl 32 (.tmp 7) (.tmp 23) rfl w_4.heap.size 32 _ _ (by exact rfl) (by exact rfl) (by exact HZ_5.out) (by exact rfl) (by exact size_list) (by simp [Value.oneCell']) ?_) | (refine wpList_loadB rfl 25 (.tmp 3) rfl w.heap.size 25 _ _ (by exact rfl) (by exact HBl_5.out) Tryd.underlying25 rfl (by exact rsize_list) ?_))
  refine (HRs.out _ HX_5.out hn).mono ?_
  rintro en w_6 ⟨A2, n2, c2, rfl, hat2, hle2, hx6⟩
  have HX_6 := Lib.hid (HX_5.out.trans hx6)
  have HBl_6 := Lib.hid (HBl_5.out.ext hx6)
  have HBx_6 := Lib.hid (HBx_5.out.ext hx6)
  have HLx_6 := Lib.hid (HLx_5.out.ext hx6)
  have HAT1_6 := Lib.hid (HAT1_5.out.ext hx6)
  clear hx6 HX_5 HBl_5 HBx_5 HLx_5 HAT1_5
  obtain rfl : n2 = n1 := hat2.len.symm.trans HAT1_6.out.len
  have HAT2_6 := Lib.hid hat2
  have hn1 : n2 ≤ 1000000 := by have := HLb.out hn; have := hat2.len; omega
  clear hat2
  have HZ_7 := Lib.hid (Blk.new w_6 25 #[.string ⟨#[]⟩, .int .u8 0, .bool false, .slice none 0 0])
  have HS_7 := Lib.hid (((Ext.refl w_6).alloc (.cells #[.string ⟨#[]⟩, .int .u8 0, .bool false, .slice none 0 0] 25)).put (g := w_6.heap.size) (Nat.le_refl _) 25 #[.string J.title, .int .u8 J.rate, .bool J.drop, .slice A2 n2 c2])
  have HX_7 := Lib.hid (HX_6.out.trans HS_7.out)
  have HBl_7 := Lib.hid (HBl_6.out.ext HS_7.out)
  have HBx_7 := Lib.hid (HBx_6.out.ext HS_7.out)
  have HLx_7 := Lib.hid (HLx_6.out.ext HS_7.out)
  have HAT1_7 := Lib.hid (HAT1_6.out.ext HS_7.out)
  have HAT2_7 := Lib.hid (HAT2_6.out.ext HS_7.out)
  have HBy_7 := Lib.hid (HZ_7.out.put #[.string J.title, .int .u8 J.rate, .bool J.drop, .slice A2 n2 c2])
  clear HX_6 HBl_6 HBx_6 HLx_6 HAT1_6 HAT2_6
  go_wp2_with (refine wpList_storeB rfl 25 (.tmp 9) (.tmp 30) rfl w_6.heap.size 25 _ _ (by exact rfl) (by exact rfl) (by exact HZ_7.out) (by exact rfl) (by exact rsize_list) (by simp [Value.oneCell']) ?_)
  refine wp_region_vals [.agg #[.string J.title, .int .u8 J.rate, .bool J.drop, .slice A1 n2 c1], .agg #[.string J.title, .int .u8 J.rate, .bool J.drop, .slice A1 n2 c1], .agg #[.string J.title, .int .u8 J.rate, .bool J.drop, .slice A2 n2 c2], .bool true, .bool false, .bool false, .int .i64 er, .int .i64 er, .bool false, .bool false] [(32, .agg #[.string J.title, .int .u8 J.rate, .bool J.drop, .slice A1 n2 c1]), (33, .agg #[.string J.title, .int .u8 J.rate, .bool J.drop, .slice A1 n2 c1]), (34, .agg #[.string J.title, .int .u8 J.rate, .bool J.drop, .slice A2 n2 c2]), (35, .bool true), (36, .bool false), (37, .bool false), (38, .int .i64 er), (39, .int .i64 er), (40, .bool false), (41, .bool false)] (by kernel_rfl) (by kernel_rfl) (by kernel_rfl) rfl rfl ?_ ?_
  · intro i o ho a w' K' hx hn hd hk
    match i, ho with
    | 0, ho =>
      simp only [List.getElem?_toArray, List.getElem?_cons_zero, List.getElem?_cons_succ, Option.some.injEq] at ho
      subst ho
      refine want_none rfl ?_
      exact wp_loadB 32 (.tmp 7) rfl _ 32 _ _ ((hn 7 rfl).trans (show _ = Value.pointer (some ⟨w_4.heap.size, 0, none⟩) from rfl)) (HBx_7.out.ext hx) Tryd.underlying32 rfl (by exact size_list) (hk _ rfl w' (Ext.refl _))
    | 1, ho =>
      simp only [List.getElem?_toArray, List.getElem?_cons_zero, List.getElem?_cons_succ, Option.some.injEq] at ho
      subst ho
      refine want_none rfl ?_
      exact wp_call1s rfl (eval_of (hd 0 32 (.agg #[.string J.title, .int .u8 J.rate, .bool J.drop, .slice A1 n2 c1]) rfl rfl rfl)) Tryd.call17 (HRf.out _ _ _ w') (hk _ rfl)
    | 2, ho =>
      simp only [List.getElem?_toArray, List.getElem?_cons_zero, List.getElem?_cons_succ, Option.some.injEq] at ho
      subst ho
      refine want_none rfl ?_
      exact wp_loadB 25 (.tmp 9) rfl _ 25 _ _ ((hn 9 rfl).trans (show _ = Value.pointer (some ⟨w_6.heap.size, 0, none⟩) from rfl)) (HBy_7.out.ext hx) Tryd.underlying25 rfl (by exact rsize_list) (hk _ rfl w' (Ext.refl _))
    | 3, ho =>
      simp only [List.getElem?_toArray, List.getElem?_cons_zero, List.getElem?_cons_succ, Option.some.injEq] at ho
      subst ho
      refine want_none rfl ?_
      exact wp_call2 rfl (eval_of (hd 1 33 (.agg #[.string J.title, .int .u8 J.rate, .bool J.drop, .slice A1 n2 c1]) rfl rfl rfl)) (eval_of (hd 2 34 (.agg #[.string J.title, .int .u8 J.rate, .bool J.drop, .slice A2 n2 c2]) rfl rfl rfl)) Tryd.call16 (HSa.out _ _ _ _ _ w' (HAT1_7.out.ext hx) (HAT2_7.out.ext hx) hn1) (hk _ rfl)
    | 4, ho =>
      simp only [List.getElem?_toArray, List.getElem?_cons_zero, List.getElem?_cons_succ, Option.some.injEq] at ho
      subst ho
      refine want_none rfl ?_
      exact wp_un rfl (eval_of (hd 3 35 (.bool true) rfl rfl rfl)) (by go_simp) (hk _ rfl w' (Ext.refl _))
    | 5, ho =>
      simp only [List.getElem?_toArray, List.getElem?_cons_zero, List.getElem?_cons_succ, Option.some.injEq] at ho
      subst ho
      refine want_none rfl ?_
      exact wp_move _ _ rfl (eval_of (hd 4 36 (.bool false) rfl rfl rfl)) (hk _ rfl w' (Ext.refl _))
    | 6, ho =>
      simp only [List.getElem?_toArray, List.getElem?_cons_zero, List.getElem?_cons_succ, Option.some.injEq] at ho
      subst ho
      refine want_yes rfl rfl (hd 5 37 (.bool false) rfl rfl rfl) rfl ?_
      exact wp_move _ _ rfl ((hn 8 rfl).trans (show _ = .int .i64 er from rfl)) (hk _ rfl w' (Ext.refl _))
    | 7, ho =>
      simp only [List.getElem?_toArray, List.getElem?_cons_zero, List.getElem?_cons_succ, Option.some.injEq] at ho
      subst ho
      refine want_yes rfl rfl (hd 5 37 (.bool false) rfl rfl rfl) rfl ?_
      exact wp_move _ _ rfl ((hn 10 rfl).trans (show _ = .int .i64 er from rfl)) (hk _ rfl w' (Ext.refl _))
    | 8, ho =>
      simp only [List.getElem?_toArray, List.getElem?_cons_zero, List.getElem?_cons_succ, Option.some.injEq] at ho
      subst ho
      refine want_yes rfl rfl (hd 5 37 (.bool false) rfl rfl rfl) rfl ?_
      exact wp_bin rfl (eval_of (hd 6 38 (.int .i64 er) rfl rfl rfl)) (eval_of (hd 7 39 (.int .i64 er) rfl rfl rfl)) (by first | (go_simp; done) | (go_simp; simp; done) | (simp; done)) (hk _ rfl w' (Ext.refl _))
    | 9, ho =>
      simp only [List.getElem?_toArray, List.getElem?_cons_zero, List.getElem?_cons_succ, Option.some.injEq] at ho
      subst ho
      refine want_none rfl ?_
      exact wp_pick _ _ _ false _ rfl (eval_of (hd 5 37 (.bool false) rfl rfl rfl)) (by exact (eval_of (hd 8 40 (.bool false) rfl rfl rfl))) (hk _ rfl w' (Ext.refl _))
    | i + 10, ho => simp at ho
  intro w_8 hx8
  simp only [Act.put, List.foldl_cons, List.foldl_nil, List.setIfInBounds_toArray, List.set_cons_zero, List.set_cons_succ]
  have HX_8 := Lib.hid (HX_7.out.trans hx8)
  have HBl_8 := Lib.hid (HBl_7.out.ext hx8)
  have HBx_8 := Lib.hid (HBx_7.out.ext hx8)
  have HBy_8 := Lib.hid (HBy_7.out.ext hx8)
  have HLx_8 := Lib.hid (HLx_7.out.ext hx8)
  have HAT1_8 := Lib.hid (HAT1_7.out.ext hx8)
  have HAT2_8 := Lib.hid (HAT2_7.out.ext hx8)
  clear hx8 HX_7 HBl_7 HBx_7 HBy_7 HLx_7 HAT1_7 HAT2_7
  by_cases her : er = 0
  case neg =>
    have hne : (er != 0) = true := by simpa using her
    clear her
    go_wp2_with fail
    go_ret
    exact ⟨rfl, HX_8.out⟩
  subst her
  go_wp2_with (refine wpList_loadB rfl 32 (.tmp 7) rfl w_4.heap.size 32 _ _ (by exact rfl) (by exact HBx_8.out) Tryd.underlying32 rfl (by exact size_list) ?_)
  refine (HS2.out (by first | trivial | rfl) _ _ _ _ HX_8.out HAT1_8.out hn1).mono ?_
  rintro en w_9 ⟨A3, c3, rfl, hat3, hx9⟩
  have HX_9 := Lib.hid (HX_8.out.trans hx9)
  have HBl_9 := Lib.hid (HBl_8.out.ext hx9)
  have HBx_9 := Lib.hid (HBx_8.out.ext hx9)
  have HBy_9 := Lib.hid (HBy_8.out.ext hx9)
  have HLx_9 := Lib.hid (HLx_8.out.ext hx9)
  have HAT1_9 := Lib.hid (HAT1_8.out.ext hx9)
  have HAT2_9 := Lib.hid (HAT2_8.out.ext hx9)
  clear hx9 HX_8 HBl_8 HBx_8 HBy_8 HLx_8 HAT1_8 HAT2_8
  have HAT3_9 := Lib.hid hat3
  clear hat3
  have HZ_10 := Lib.hid (Blk.new w_9 32 #[.string ⟨#[]⟩, .int .u8 0, .bool false, .slice none 0 0])
  have HS_10 := Lib.hid (((Ext.refl w_9).alloc (.cells #[.string ⟨#[]⟩, .int .u8 0, .bool false, .slice none 0 0] 32)).put (g := w_9.heap.size) (Nat.le_refl _) 32 #[.string e.title, .int .u8 e.rate, .bool e.drop, .slice A3 n c3])
  have HX_10 := Lib.hid (HX_9.out.trans HS_10.out)
  have HBl_10 := Lib.hid (HBl_9.out.ext HS_10.out)
  have HBx_10 := Lib.hid (HBx_9.out.ext HS_10.out)
  have HBy_10 := Lib.hid (HBy_9.out.ext HS_10.out)
  have HLx_10 := Lib.hid (HLx_9.out.ext HS_10.out)
  have HAT1_10 := Lib.hid (HAT1_9.out.ext HS_10.out)
  have HAT2_10 := Lib.hid (HAT2_9.out.ext HS_10.out)
  have HAT3_10 := Lib.hid (HAT3_9.out.ext HS_10.out)
  have HBz_10 := Lib.hid (HZ_10.out.put #[.string e.title, .int .u8 e.rate, .bool e.drop, .slice A3 n c3])
  clear HX_9 HBl_9 HBx_9 HBy_9 HLx_9 HAT1_9 HAT2_9 HAT3_9
  have HN := Lib.hid hn
  go_wp2_with (refine wpList_storeB rfl 32 (.tmp 11) (.tmp 49) rfl w_9.heap.size 32 _ _ (by exact rfl) (by exact rfl) (by exact HZ_10.out) (by exact rfl) (by exact size_list) (by simp [Value.oneCell']) ?_)
  refine wp_region_vals [.int .i64 0, .bool true, .bool true, .agg #[.string e.title, .int .u8 e.rate, .bool e.drop, .slice A3 n c3], .agg #[.string e.title, .int .u8 e.rate, .bool e.drop, .slice A3 n c3], .agg #[.string e.title, .int .u8 e.rate, .bool e.drop, .slice A n c], .bool true, .bool true, .bool true] [(51, .int .i64 0), (52, .bool true), (53, .bool true), (54, .agg #[.string e.title, .int .u8 e.rate, .bool e.drop, .slice A3 n c3]), (55, .agg #[.string e.title, .int .u8 e.rate, .bool e.drop, .slice A3 n c3]), (56, .agg #[.string e.title, .int .u8 e.rate, .bool e.drop, .slice A n c]), (57, .bool true), (58, .bool true), (6, .bool true)] (by kernel_rfl) (by kernel_rfl) (by kernel_rfl) rfl rfl ?_ ?_
  · intro i o ho a w' K' hx hn hd hk
    match i, ho with
    | 0, ho =>
      simp only [List.getElem?_toArray, List.getElem?_cons_zero, List.getElem?_cons_succ, Option.some.injEq] at ho
      subst ho
      refine want_none rfl ?_
      exact wp_move _ _ rfl ((hn 8 rfl).trans (show _ = .int .i64 0 from rfl)) (hk _ rfl w' (Ext.refl _))
    | 1, ho =>
      simp only [List.getElem?_toArray, List.getElem?_cons_zero, List.getElem?_cons_succ, Option.some.injEq] at ho
      subst ho
      refine want_none rfl ?_
      exact wp_bin rfl (eval_of (hd 0 51 (.int .i64 0) rfl rfl rfl)) rfl (by first | (go_simp; done) | (go_simp; simp; done) | (simp; done)) (hk _ rfl w' (Ext.refl _))
    | 2, ho =>
      simp only [List.getElem?_toArray, List.getElem?_cons_zero, List.getElem?_cons_succ, Option.some.injEq] at ho
      subst ho
      refine want_none rfl ?_
      exact wp_move _ _ rfl (eval_of (hd 1 52 (.bool true) rfl rfl rfl)) (hk _ rfl w' (Ext.refl _))
    | 3, ho =>
      simp only [List.getElem?_toArray, List.getElem?_cons_zero, List.getElem?_cons_succ, Option.some.injEq] at ho
      subst ho
      refine want_yes rfl rfl (hd 2 53 (.bool true) rfl rfl rfl) rfl ?_
      exact wp_loadB 32 (.tmp 11) rfl _ 32 _ _ ((hn 11 rfl).trans (show _ = Value.pointer (some ⟨w_9.heap.size, 0, none⟩) from rfl)) (HBz_10.out.ext hx) Tryd.underlying32 rfl (by exact size_list) (hk _ rfl w' (Ext.refl _))
    | 4, ho =>
      simp only [List.getElem?_toArray, List.getElem?_cons_zero, List.getElem?_cons_succ, Option.some.injEq] at ho
      subst ho
      refine want_yes rfl rfl (hd 2 53 (.bool true) rfl rfl rfl) rfl ?_
      exact wp_call1s rfl (eval_of (hd 3 54 (.agg #[.string e.title, .int .u8 e.rate, .bool e.drop, .slice A3 n c3]) rfl rfl rfl)) Tryd.call17 (HRe.out _ _ _ w') (hk _ rfl)
    | 5, ho =>
      simp only [List.getElem?_toArray, List.getElem?_cons_zero, List.getElem?_cons_succ, Option.some.injEq] at ho
      subst ho
      refine want_yes rfl rfl (hd 2 53 (.bool true) rfl rfl rfl) rfl ?_
      exact wp_loadB 25 (.tmp 3) rfl _ 25 _ _ ((hn 3 rfl).trans (show _ = Value.pointer (some ⟨w.heap.size, 0, none⟩) from rfl)) (HBl_10.out.ext hx) Tryd.underlying25 rfl (by exact rsize_list) (hk _ rfl w' (Ext.refl _))
    | 6, ho =>
      simp only [List.getElem?_toArray, List.getElem?_cons_zero, List.getElem?_cons_succ, Option.some.injEq] at ho
      subst ho
      refine want_yes rfl rfl (hd 2 53 (.bool true) rfl rfl rfl) rfl ?_
      exact wp_call2 rfl (eval_of (hd 4 55 (.agg #[.string e.title, .int .u8 e.rate, .bool e.drop, .slice A3 n c3]) rfl rfl rfl)) (eval_of (hd 5 56 (.agg #[.string e.title, .int .u8 e.rate, .bool e.drop, .slice A n c]) rfl rfl rfl)) Tryd.call16 (HSe.out _ _ _ _ _ w' (HAT3_10.out.ext hx) (HLx_10.out.ext hx) HN.out) (hk _ rfl)
    | 7, ho =>
      simp only [List.getElem?_toArray, List.getElem?_cons_zero, List.getElem?_cons_succ, Option.some.injEq] at ho
      subst ho
      refine want_none rfl ?_
      exact wp_pick _ _ _ true _ rfl (eval_of (hd 2 53 (.bool true) rfl rfl rfl)) (by exact (eval_of (hd 6 57 (.bool true) rfl rfl rfl))) (hk _ rfl w' (Ext.refl _))
    | 8, ho =>
      simp only [List.getElem?_toArray, List.getElem?_cons_zero, List.getElem?_cons_succ, Option.some.injEq] at ho
      subst ho
      refine want_none rfl ?_
      exact wp_assignx _ _ rfl (eval_of (hd 7 58 (.bool true) rfl rfl rfl)) (hk _ rfl w' (Ext.refl _))
    | i + 9, ho => simp at ho
  intro w9 hx9
  simp only [Act.put, List.foldl_cons, List.foldl_nil, List.setIfInBounds_toArray, List.set_cons_zero, List.set_cons_succ]
  go_wp2_with fail
  go_ret
  exact ⟨rfl, HX_10.out.trans hx9⟩
end Go.Proofs.YtffianmhojiomaaDoor
