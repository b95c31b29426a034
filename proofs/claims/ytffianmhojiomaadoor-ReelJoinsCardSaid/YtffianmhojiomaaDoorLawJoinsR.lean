/- The walk of the law ReelJoins. -/
import Derived.Test.YtffianmhojiomaaDoorSwapP
import Derived.Test.YtffianmhojiomaaDoorJoinL
namespace Go.Proofs.YtffianmhojiomaaDoor
set_option linter.unusedVariables false
set_option linter.unusedSimpArgs false
open Go.RowKit
set_option maxRecDepth 100000 in
set_option maxHeartbeats 4000000 in
theorem ReelJoins_any (e : Edl) (A : Option Addr) (n c : Nat) (w : World) (hE : Env w) (hl : CutsAt w A n e.cuts) (hok : EdlOk e) :
    Calls Tryd.prog 6 #[.agg (e.cells A n c)] w fun en w' => en = .returned (.bool true) ∧ Ext w w' := by
  have HX := Lib.hid ((Ext.refl w).alloc (.cells (e.cells A n c) 25))
  have HB := Lib.hid (Blk.new w 25 (e.cells A n c))
  have HE := Lib.hid hE
  have HSm := Lib.hid (fun w' => small_any e A n c w')
  have HOf := Lib.hid (fun w' => Of_any e A n c w')
  have HJn := Lib.hid (fun w' (hx : Ext w w') (hn : n ≤ 1000000) => Join_any e A n c w' (hE.ext hx) (hl.ext hx) hn hok)
  have HRj := Lib.hid (fun w' (hx : Ext w w') (hn : n ≤ 1000000) => RJoin_any e A n c w' (hl.ext hx) hn hok)
  have HRf := Lib.hid (fun A' n' c' w' => Ref_any (joinE e) A' n' c' w')
  have HSa := Lib.hid (fun A' n' c' B' d' w' => RSame_true (joinE e) A' n' c' B' d' w')
  have HSb : Hid (smallB e n = true → n ≤ 1000000) := fun h => by have := of_decide_eq_true h; omega
  have HLb : Hid (n ≤ 1000000 → (joinE e).cuts.length ≤ 1000000) := fun h => by have := joinE_len e; have := hl.len; omega
  clear hE hl hok
  unfold JoinPost at HJn HRj
  unfold Edl.cells at *
  generalize joinE e = J at *
  generalize edlErr e = er at *
  go_enter Tryd.func6, Tryd.ntmps6
  go_wp2_with fail
  refine (awake_any _ (HE.out.ext HX.out)).mono ?_
  rintro en w_1 ⟨rfl, hx1⟩
  have HX_1 := Lib.hid (HX.out.trans hx1)
  have HBl_1 := Lib.hid (HB.out.ext hx1)
  clear hx1 HB
  go_wp2_with (refine wpList_loadB rfl 25 (.tmp 1) rfl w.heap.size 25 _ _ (by exact rfl) (by exact HBl_1.out) Tryd.underlying25 rfl (by exact rsize_list) ?_)
  refine (HSm.out _).mono ?_
  rintro en w_2 ⟨rfl, hx2⟩
  have HX_2 := Lib.hid (HX_1.out.trans hx2)
  have HBl_2 := Lib.hid (HBl_1.out.ext hx2)
  clear hx2 HX_1 HBl_1
  cases hsm : smallB e n
  · go_wp2_with fail
    go_ret
    exact ⟨rfl, HX_2.out⟩
  have hn := HSb.out hsm
  clear hsm HSb
  go_wp2_with (refine wpList_loadB rfl 25 (.tmp 1) rfl w.heap.size 25 _ _ (by exact rfl) (by exact HBl_2.out) Tryd.underlying25 rfl (by exact rsize_list) ?_)
  refine (HOf.out _).mono ?_
  rintro en w_3 ⟨rfl, hx3⟩
  have HX_3 := Lib.hid (HX_2.out.trans hx3)
  have HBl_3 := Lib.hid (HBl_2.out.ext hx3)
  clear hx3 HX_2 HBl_2
  go_wp2_with fail
  refine (HJn.out _ HX_3.out hn).mono ?_
  rintro en w_4 ⟨A1, n1, c1, rfl, hat1, hle1, hx4⟩
  have HX_4 := Lib.hid (HX_3.out.trans hx4)
  have HBl_4 := Lib.hid (HBl_3.out.ext hx4)
  clear hx4 HX_3 HBl_3
  have HAT1_4 := Lib.hid hat1
  clear hat1
  have HZ_5 := Lib.hid (Blk.new w_4 32 #[.string ⟨#[]⟩, .int .u8 0, .bool false, .slice none 0 0])
  have HS_5 := Lib.hid (((Ext.refl w_4).alloc (.cells #[.string ⟨#[]⟩, .int .u8 0, .bool false, .slice none 0 0] 32)).put (g := w_4.heap.size) (Nat.le_refl _) 32 #[.string J.title, .int .u8 J.rate, .bool J.drop, .slice A1 n1 c1])
  have HX_5 := Lib.hid (HX_4.out.trans HS_5.out)
  have HBl_5 := Lib.hid (HBl_4.out.ext HS_5.out)
  have HAT1_5 := Lib.hid (HAT1_4.out.ext HS_5.out)
  have HBa_5 := Lib.hid (HZ_5.out.put #[.string J.title, .int .u8 J.rate, .bool J.drop, .slice A1 n1 c1])
  clear HX_4 HBl_4 HAT1_4
  go_wp2_with (first | (refine wpList_storeB rfl 32 (.tmp 3) (.tmp 16) rfl w_4.heap.size 32 _ _ (by exact rfl) (by exact rfl) (by exact HZ_5.out) (by exact rfl) (by exact size_list) (by simp [Value.oneCell']) ?_) | (refine wpList_loadB rfl 25 (.tmp 1) rfl w.heap.size 25 _ _ (by exact rfl) (by exact HBl_5.out) Tryd.underlying25 rfl (by exact rsize_list) ?_))
  refine (HRj.out _ HX_5.out hn).mono ?_
  rintro en w_6 ⟨A2, n2, c2, rfl, hat2, hle2, hx6⟩
  have HX_6 := Lib.hid (HX_5.out.trans hx6)
  have HBl_6 := Lib.hid (HBl_5.out.ext hx6)
  have HBa_6 := Lib.hid (HBa_5.out.ext hx6)
  have HAT1_6 := Lib.hid (HAT1_5.out.ext hx6)
  clear hx6 HX_5 HBl_5 HBa_5 HAT1_5
  obtain rfl : n2 = n1 := hat2.len.symm.trans HAT1_6.out.len
  have HAT2_6 := Lib.hid hat2
  have hn1 : n2 ≤ 1000000 := by have := HLb.out hn; have := hat2.len; omega
  clear hat2
  have HZ_7 := Lib.hid (Blk.new w_6 25 #[.string ⟨#[]⟩, .int .u8 0, .bool false, .slice none 0 0])
  have HS_7 := Lib.hid (((Ext.refl w_6).alloc (.cells #[.string ⟨#[]⟩, .int .u8 0, .bool false, .slice none 0 0] 25)).put (g := w_6.heap.size) (Nat.le_refl _) 25 #[.string J.title, .int .u8 J.rate, .bool J.drop, .slice A2 n2 c2])
  have HX_7 := Lib.hid (HX_6.out.trans HS_7.out)
  have HBl_7 := Lib.hid (HBl_6.out.ext HS_7.out)
  have HBa_7 := Lib.hid (HBa_6.out.ext HS_7.out)
  have HAT1_7 := Lib.hid (HAT1_6.out.ext HS_7.out)
  have HAT2_7 := Lib.hid (HAT2_6.out.ext HS_7.out)
  have HBb_7 := Lib.hid (HZ_7.out.put #[.string J.title, .int .u8 J.rate, .bool J.drop, .slice A2 n2 c2])
  clear HX_6 HBl_6 HBa_6 HAT1_6 HAT2_6
  go_wp2_with (refine wpList_storeB rfl 25 (.tmp 5) (.tmp 21) rfl w_6.heap.size 25 _ _ (by exact rfl) (by exact rfl) (by exact HZ_7.out) (by exact rfl) (by exact rsize_list) (by simp [Value.oneCell']) ?_)
  refine wp_region_vals [.agg #[.string J.title, .int .u8 J.rate, .bool J.drop, .slice A1 n2 c1], .agg #[.string J.title, .int .u8 J.rate, .bool J.drop, .slice A1 n2 c1], .agg #[.string J.title, .int .u8 J.rate, .bool J.drop, .slice A2 n2 c2], .bool true, .bool true, .int .i64 er, .int .i64 er, .bool true, .bool true, .bool true] [(23, .agg #[.string J.title, .int .u8 J.rate, .bool J.drop, .slice A1 n2 c1]), (24, .agg #[.string J.title, .int .u8 J.rate, .bool J.drop, .slice A1 n2 c1]), (25, .agg #[.string J.title, .int .u8 J.rate, .bool J.drop, .slice A2 n2 c2]), (26, .bool true), (27, .bool true), (28, .int .i64 er), (29, .int .i64 er), (30, .bool true), (31, .bool true), (2, .bool true)] (by kernel_rfl) (by kernel_rfl) (by kernel_rfl) rfl rfl ?_ ?_
  · intro i o ho a w' K' hx hn hd hk
    match i, ho with
    | 0, ho =>
      simp only [List.getElem?_toArray, List.getElem?_cons_zero, List.getElem?_cons_succ, Option.some.injEq] at ho
      subst ho
      refine want_none rfl ?_
      exact wp_loadB 32 (.tmp 3) rfl _ 32 _ _ ((hn 3 rfl).trans (show _ = Value.pointer (some ⟨w_4.heap.size, 0, none⟩) from rfl)) (HBa_7.out.ext hx) Tryd.underlying32 rfl (by exact size_list) (hk _ rfl w' (Ext.refl _))
    | 1, ho =>
      simp only [List.getElem?_toArray, List.getElem?_cons_zero, List.getElem?_cons_succ, Option.some.injEq] at ho
      subst ho
      refine want_none rfl ?_
      exact wp_call1s rfl (eval_of (hd 0 23 (.agg #[.string J.title, .int .u8 J.rate, .bool J.drop, .slice A1 n2 c1]) rfl rfl rfl)) Tryd.call17 (HRf.out _ _ _ w') (hk _ rfl)
    | 2, ho =>
      simp only [List.getElem?_toArray, List.getElem?_cons_zero, List.getElem?_cons_succ, Option.some.injEq] at ho
      subst ho
      refine want_none rfl ?_
      exact wp_loadB 25 (.tmp 5) rfl _ 25 _ _ ((hn 5 rfl).trans (show _ = Value.pointer (some ⟨w_6.heap.size, 0, none⟩) from rfl)) (HBb_7.out.ext hx) Tryd.underlying25 rfl (by exact rsize_list) (hk _ rfl w' (Ext.refl _))
    | 3, ho =>
      simp only [List.getElem?_toArray, List.getElem?_cons_zero, List.getElem?_cons_succ, Option.some.injEq] at ho
      subst ho
      refine want_none rfl ?_
      exact wp_call2 rfl (eval_of (hd 1 24 (.agg #[.string J.title, .int .u8 J.rate, .bool J.drop, .slice A1 n2 c1]) rfl rfl rfl)) (eval_of (hd 2 25 (.agg #[.string J.title, .int .u8 J.rate, .bool J.drop, .slice A2 n2 c2]) rfl rfl rfl)) Tryd.call16 (HSa.out _ _ _ _ _ w' (HAT1_7.out.ext hx) (HAT2_7.out.ext hx) hn1) (hk _ rfl)
    | 4, ho =>
      simp only [List.getElem?_toArray, List.getElem?_cons_zero, List.getElem?_cons_succ, Option.some.injEq] at ho
      subst ho
      refine want_none rfl ?_
      exact wp_move _ _ rfl (eval_of (hd 3 26 (.bool true) rfl rfl rfl)) (hk _ rfl w' (Ext.refl _))
    | 5, ho =>
      simp only [List.getElem?_toArray, List.getElem?_cons_zero, List.getElem?_cons_succ, Option.some.injEq] at ho
      subst ho
      refine want_yes rfl rfl (hd 4 27 (.bool true) rfl rfl rfl) rfl ?_
      exact wp_move _ _ rfl ((hn 4 rfl).trans (show _ = .int .i64 er from rfl)) (hk _ rfl w' (Ext.refl _))
    | 6, ho =>
      simp only [List.getElem?_toArray, List.getElem?_cons_zero, List.getElem?_cons_succ, Option.some.injEq] at ho
      subst ho
      refine want_yes rfl rfl (hd 4 27 (.bool true) rfl rfl rfl) rfl ?_
      exact wp_move _ _ rfl ((hn 6 rfl).trans (show _ = .int .i64 er from rfl)) (hk _ rfl w' (Ext.refl _))
    | 7, ho =>
      simp only [List.getElem?_toArray, List.getElem?_cons_zero, List.getElem?_cons_succ, Option.some.injEq] at ho
      subst ho
      refine want_yes rfl rfl (hd 4 27 (.bool true) rfl rfl rfl) rfl ?_
      exact wp_bin rfl (eval_of (hd 5 28 (.int .i64 er) rfl rfl rfl)) (eval_of (hd 6 29 (.int .i64 er) rfl rfl rfl)) (by first | (go_simp; done) | (go_simp; simp; done) | (simp; done)) (hk _ rfl w' (Ext.refl _))
    | 8, ho =>
      simp only [List.getElem?_toArray, List.getElem?_cons_zero, List.getElem?_cons_succ, Option.some.injEq] at ho
      subst ho
      refine want_none rfl ?_
      exact wp_pick _ _ _ true _ rfl (eval_of (hd 4 27 (.bool true) rfl rfl rfl)) (by exact (eval_of (hd 7 30 (.bool true) rfl rfl rfl))) (hk _ rfl w' (Ext.refl _))
    | 9, ho =>
      simp only [List.getElem?_toArray, List.getElem?_cons_zero, List.getElem?_cons_succ, Option.some.injEq] at ho
      subst ho
      refine want_none rfl ?_
      exact wp_assignx _ _ rfl (eval_of (hd 8 31 (.bool true) rfl rfl rfl)) (hk _ rfl w' (Ext.refl _))
    | i + 10, ho => simp at ho
  intro w9 hx9
  simp only [Act.put, List.foldl_cons, List.foldl_nil, List.setIfInBounds_toArray, List.set_cons_zero, List.set_cons_succ]
  go_wp2_with fail
  go_ret
  exact ⟨rfl, HX_7.out.trans hx9⟩
end Go.Proofs.YtffianmhojiomaaDoor
