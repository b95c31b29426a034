/- The walk of the law ReelJoined. -/
import Derived.Test.YtffianmhojiomaaDoorSwapP
import Derived.Test.YtffianmhojiomaaDoorJoinL
namespace Go.Proofs.YtffianmhojiomaaDoor
set_option linter.unusedVariables false
set_option linter.unusedSimpArgs false
open Go.RowKit
set_option maxRecDepth 100000 in
set_option maxHeartbeats 4000000 in
theorem ReelJoined_any (e : Edl) (A : Option Addr) (n c : Nat) (t : Int) (w : World) (hE : Env w) (hl : CutsAt w A n e.cuts) (hok : EdlOk e) :
    Calls Tryd.prog 7 #[.agg (e.cells A n c), .int .i64 t] w fun en w' => en = .returned (.bool true) ∧ Ext w w' := by
  have HX := Lib.hid ((Ext.refl w).alloc (.cells (e.cells A n c) 25))
  have HB := Lib.hid (Blk.new w 25 (e.cells A n c))
  have HE := Lib.hid hE
  have HSm := Lib.hid (fun w' => small_any e A n c w')
  have HOf := Lib.hid (fun w' => Of_any e A n c w')
  have HJn := Lib.hid (fun w' (hx : Ext w w') (hn : n ≤ 1000000) => Join_any e A n c w' (hE.ext hx) (hl.ext hx) hn hok)
  have HCk := Lib.hid (fun w' (hx : Ext w w') (hn : n ≤ 1000000) => Check_any e A n c w' (hE.ext hx) (hl.ext hx) hn hok.r0 hok.r1 hok.title hok.fits)
  have HAt := Lib.hid (fun w' (hx : Ext w w') (hn : n ≤ 1000000) => At_any e A n c t w' (hE.ext hx) (hl.ext hx) hn hok)
  have hok2 := joinE_edlok hok
  have HAj := Lib.hid (fun (h : edlErr e = 0) A' n' c' w' (hx : Ext w w') (hl' : CutsAt w' A' n' (joinE e).cuts) (hn : n' ≤ 1000000) => (show Calls Tryd.prog 11 #[.agg ((joinE e).cells A' n' c'), .int .i64 t] w' (fun en w'' => en = .returned (atVal (atE e t)) ∧ Ext w' w'') from (join_at h t) ▸ At_any (joinE e) A' n' c' t w' (hE.ext hx) hl' hn hok2))
  have HCj := Lib.hid (fun (h : edlErr e = 0) A' n' c' w' (hx : Ext w w') (hl' : CutsAt w' A' n' (joinE e).cuts) (hn : n' ≤ 1000000) => (show Calls Tryd.prog 22 #[.agg ((joinE e).cells A' n' c')] w' (fun en w'' => en = .returned (.int .i64 0) ∧ Ext w' w'') from (join_ok h) ▸ Check_any (joinE e) A' n' c' w' (hE.ext hx) hl' hn hok2.r0 hok2.r1 hok2.title hok2.fits))
  have HJj := Lib.hid (fun (h : edlErr e = 0) A' n' c' w' (hx : Ext w w') (hl' : CutsAt w' A' n' (joinE e).cuts) (hn : n' ≤ 1000000) => (Join_any (joinE e) A' n' c' w' (hE.ext hx) hl' hn hok2).mono (fun en w'' (h' : JoinPost (joinE e) w' en w'') => show ∃ A2 c2, en = .returned (.tuple #[.agg ((joinE (joinE e)).cells A2 n' c2), .int .i64 0]) ∧ Ext w' w'' from by
    obtain ⟨A2, n2, c2, rfl, h2, _, h4⟩ := h'
    have : n' = n2 := by rw [← h2.len, join_twice h, hl'.len]
    subst this
    exact ⟨A2, c2, by rw [join_ok h], h4⟩))
  have HSb : Hid (smallB e n = true → n ≤ 1000000) := fun h => by have := of_decide_eq_true h; omega
  have HLb : Hid ((joinE e).cuts.length ≤ n) := by show _ ≤ _; have := joinE_len e; have := hl.len; omega
  clear hE hl hok hok2
  unfold JoinPost at HJn
  unfold Edl.cells at *
  unfold atVal at HAt HAj
  generalize joinE (joinE e) = K at *
  generalize joinE e = J at *
  generalize edlErr e = er at *
  generalize atE e t = r at *
  obtain ⟨rs, rf, rb⟩ := r
  dsimp only at *
  go_enter Tryd.func7, Tryd.ntmps7
  go_wp2_with fail
  refine (awake_any _ (HE.out.ext HX.out)).mono ?_
  rintro en w_1 ⟨rfl, hx1⟩
  have HX_1 := Lib.hid (HX.out.trans hx1)
  have HBl_1 := Lib.hid (HB.out.ext hx1)
  clear hx1 HB
  go_wp2_with (refine wpList_loadB rfl 25 (.tmp 2) rfl w.heap.size 25 _ _ (by exact rfl) (by exact HBl_1.out) Tryd.underlying25 rfl (by exact rsize_list) ?_)
  refine (HSm.out _).mono ?_
  rintro en w_2 ⟨rfl, hx2⟩
  have HX_2 := Lib.hid (HX_1.out.trans hx2)
  have HBl_2 := Lib.hid (HBl_1.out.ext hx2)
  clear hx2 HX_1 HBl_1
  cases hsm : smallB e n
  · go_wp2_with fail
    go_ret
    exact ⟨rfl, HX_2.out⟩
  have hn := HSb.out hsm
  clear hsm HSb
  go_wp2_with (refine wpList_loadB rfl 25 (.tmp 2) rfl w.heap.size 25 _ _ (by exact rfl) (by exact HBl_2.out) Tryd.underlying25 rfl (by exact rsize_list) ?_)
  refine (HOf.out _).mono ?_
  rintro en w_3 ⟨rfl, hx3⟩
  have HX_3 := Lib.hid (HX_2.out.trans hx3)
  have HBl_3 := Lib.hid (HBl_2.out.ext hx3)
  clear hx3 HX_2 HBl_2
  have HZ_4 := Lib.hid (Blk.new w_3 32 #[.string ⟨#[]⟩, .int .u8 0, .bool false, .slice none 0 0])
  have HS_4 := Lib.hid (((Ext.refl w_3).alloc (.cells #[.string ⟨#[]⟩, .int .u8 0, .bool false, .slice none 0 0] 32)).put (g := w_3.heap.size) (Nat.le_refl _) 32 #[.string e.title, .int .u8 e.rate, .bool e.drop, .slice A n c])
  have HX_4 := Lib.hid (HX_3.out.trans HS_4.out)
  have HBl_4 := Lib.hid (HBl_3.out.ext HS_4.out)
  have HBx_4 := Lib.hid (HZ_4.out.put #[.string e.title, .int .u8 e.rate, .bool e.drop, .slice A n c])
  clear HX_3 HBl_3
  go_wp2_with (first | (refine wpList_storeB rfl 32 (.tmp 5) (.tmp 20) rfl w_3.heap.size 32 _ _ (by exact rfl) (by exact rfl) (by exact HZ_4.out) (by exact rfl) (by exact size_list) (by simp [Value.oneCell']) ?_) | (refine wpList_loadB rfl 32 (.tmp 5) rfl w_3.heap.size 32 _ _ (by exact rfl) (by exact HBx_4.out) Tryd.underlying32 rfl (by exact size_list) ?_))
  refine (HJn.out _ HX_4.out hn).mono ?_
  rintro en w_5 ⟨A1, n1, c1, rfl, hat1, hle1, hx5⟩
  have HX_5 := Lib.hid (HX_4.out.trans hx5)
  have HBl_5 := Lib.hid (HBl_4.out.ext hx5)
  have HBx_5 := Lib.hid (HBx_4.out.ext hx5)
  clear hx5 HX_4 HBl_4 HBx_4
  have HAT1_5 := Lib.hid hat1
  have hn1 : n1 ≤ n := by have := HLb.out; have := hat1.len; omega
  clear hat1
  have HZ_6 := Lib.hid (Blk.new w_5 32 #[.string ⟨#[]⟩, .int .u8 0, .bool false, .slice none 0 0])
  have HS_6 := Lib.hid (((Ext.refl w_5).alloc (.cells #[.string ⟨#[]⟩, .int .u8 0, .bool false, .slice none 0 0] 32)).put (g := w_5.heap.size) (Nat.le_refl _) 32 #[.string J.title, .int .u8 J.rate, .bool J.drop, .slice A1 n1 c1])
  have HX_6 := Lib.hid (HX_5.out.trans HS_6.out)
  have HBl_6 := Lib.hid (HBl_5.out.ext HS_6.out)
  have HBx_6 := Lib.hid (HBx_5.out.ext HS_6.out)
  have HAT1_6 := Lib.hid (HAT1_5.out.ext HS_6.out)
  have HBa_6 := Lib.hid (HZ_6.out.put #[.string J.title, .int .u8 J.rate, .bool J.drop, .slice A1 n1 c1])
  clear HX_5 HBl_5 HBx_5 HAT1_5
  by_cases her : er = 0
  case neg =>
    have hne : (er != 0) = true := by simpa using her
    clear her
    go_wp2_with (first | (refine wpList_storeB rfl 32 (.tmp 6) (.tmp 24) rfl w_5.heap.size 32 _ _ (by exact rfl) (by exact rfl) (by exact HZ_6.out) (by exact rfl) (by exact size_list) (by simp [Value.oneCell']) ?_) | (refine wpList_loadB rfl 32 (.tmp 5) rfl w_3.heap.size 32 _ _ (by exact rfl) (by exact HBx_6.out) Tryd.underlying32 rfl (by exact size_list) ?_))
    refine (HCk.out _ HX_6.out hn).mono ?_
    rintro en w_7 ⟨rfl, hx7⟩
    have HX_7 := Lib.hid (HX_6.out.trans hx7)
    have HBl_7 := Lib.hid (HBl_6.out.ext hx7)
    have HBx_7 := Lib.hid (HBx_6.out.ext hx7)
    have HBa_7 := Lib.hid (HBa_6.out.ext hx7)
    have HAT1_7 := Lib.hid (HAT1_6.out.ext hx7)
    clear hx7 HX_6 HBl_6 HBx_6 HBa_6 HAT1_6
    go_wp2_with fail
    go_ret
    exact ⟨by simp, HX_7.out⟩
  subst her
  go_wp2_with (first | (refine wpList_storeB rfl 32 (.tmp 6) (.tmp 24) rfl w_5.heap.size 32 _ _ (by exact rfl) (by exact rfl) (by exact HZ_6.out) (by exact rfl) (by exact size_list) (by simp [Value.oneCell']) ?_) | (refine wpList_loadB rfl 32 (.tmp 5) rfl w_3.heap.size 32 _ _ (by exact rfl) (by exact HBx_6.out) Tryd.underlying32 rfl (by exact size_list) ?_))
  refine (HAt.out _ HX_6.out hn).mono ?_
  rintro en w_7 ⟨rfl, hx7⟩
  have HX_7 := Lib.hid (HX_6.out.trans hx7)
  have HBl_7 := Lib.hid (HBl_6.out.ext hx7)
  have HBx_7 := Lib.hid (HBx_6.out.ext hx7)
  have HBa_7 := Lib.hid (HBa_6.out.ext hx7)
  have HAT1_7 := Lib.hid (HAT1_6.out.ext hx7)
  clear hx7 HX_6 HBl_6 HBx_6 HBa_6 HAT1_6
  have HZ_8 := Lib.hid (Blk.new w_7 29 #[.string ⟨#[]⟩, .int .i64 0])
  have HS_8 := Lib.hid (((Ext.refl w_7).alloc (.cells #[.string ⟨#[]⟩, .int .i64 0] 29)).put (g := w_7.heap.size) (Nat.le_refl _) 29 #[.string rs, .int .i64 rf])
  have HX_8 := Lib.hid (HX_7.out.trans HS_8.out)
  have HBl_8 := Lib.hid (HBl_7.out.ext HS_8.out)
  have HBx_8 := Lib.hid (HBx_7.out.ext HS_8.out)
  have HBa_8 := Lib.hid (HBa_7.out.ext HS_8.out)
  have HAT1_8 := Lib.hid (HAT1_7.out.ext HS_8.out)
  have HBs_8 := Lib.hid (HZ_8.out.put #[.string rs, .int .i64 rf])
  clear HX_7 HBl_7 HBx_7 HBa_7 HAT1_7
  go_wp2_with (first | (refine wpList_storeB rfl 29 (.tmp 8) (.tmp 36) rfl w_7.heap.size 29 _ _ (by exact rfl) (by exact rfl) (by exact HZ_8.out) (by exact rfl) (by exact size_src) (by simp [Value.oneCell']) ?_) | (refine wpList_loadB rfl 32 (.tmp 6) rfl w_5.heap.size 32 _ _ (by exact rfl) (by exact HBa_8.out) Tryd.underlying32 rfl (by exact size_list) ?_))
  refine (HAj.out (by first | trivial | rfl) _ _ _ _ HX_8.out HAT1_8.out (by omega)).mono ?_
  rintro en w_9 ⟨rfl, hx9⟩
  have HX_9 := Lib.hid (HX_8.out.trans hx9)
  have HBl_9 := Lib.hid (HBl_8.out.ext hx9)
  have HBx_9 := Lib.hid (HBx_8.out.ext hx9)
  have HBa_9 := Lib.hid (HBa_8.out.ext hx9)
  have HBs_9 := Lib.hid (HBs_8.out.ext hx9)
  have HAT1_9 := Lib.hid (HAT1_8.out.ext hx9)
  clear hx9 HX_8 HBl_8 HBx_8 HBa_8 HBs_8 HAT1_8
  have HZ_10 := Lib.hid (Blk.new w_9 29 #[.string ⟨#[]⟩, .int .i64 0])
  have HS_10 := Lib.hid (((Ext.refl w_9).alloc (.cells #[.string ⟨#[]⟩, .int .i64 0] 29)).put (g := w_9.heap.size) (Nat.le_refl _) 29 #[.string rs, .int .i64 rf])
  have HX_10 := Lib.hid (HX_9.out.trans HS_10.out)
  have HBl_10 := Lib.hid (HBl_9.out.ext HS_10.out)
  have HBx_10 := Lib.hid (HBx_9.out.ext HS_10.out)
  have HBa_10 := Lib.hid (HBa_9.out.ext HS_10.out)
  have HBs_10 := Lib.hid (HBs_9.out.ext HS_10.out)
  have HAT1_10 := Lib.hid (HAT1_9.out.ext HS_10.out)
  have HBt_10 := Lib.hid (HZ_10.out.put #[.string rs, .int .i64 rf])
  clear HX_9 HBl_9 HBx_9 HBa_9 HBs_9 HAT1_9
  go_wp2_with (first | (refine wpList_storeB rfl 29 (.tmp 10) (.tmp 42) rfl w_9.heap.size 29 _ _ (by exact rfl) (by exact rfl) (by exact HZ_10.out) (by exact rfl) (by exact size_src) (by simp [Value.oneCell']) ?_) | (refine wpList_loadB rfl 32 (.tmp 6) rfl w_5.heap.size 32 _ _ (by exact rfl) (by exact HBa_10.out) Tryd.underlying32 rfl (by exact size_list) ?_))
  refine (HJj.out (by first | trivial | rfl) _ _ _ _ HX_10.out HAT1_10.out (by omega)).mono ?_
  rintro en w_11 ⟨A2, c2, rfl, hx11⟩
  have HX_11 := Lib.hid (HX_10.out.trans hx11)
  have HBl_11 := Lib.hid (HBl_10.out.ext hx11)
  have HBx_11 := Lib.hid (HBx_10.out.ext hx11)
  have HBa_11 := Lib.hid (HBa_10.out.ext hx11)
  have HBs_11 := Lib.hid (HBs_10.out.ext hx11)
  have HBt_11 := Lib.hid (HBt_10.out.ext hx11)
  have HAT1_11 := Lib.hid (HAT1_10.out.ext hx11)
  clear hx11 HX_10 HBl_10 HBx_10 HBa_10 HBs_10 HBt_10 HAT1_10
  have HZ_12 := Lib.hid (Blk.new w_11 32 #[.string ⟨#[]⟩, .int .u8 0, .bool false, .slice none 0 0])
  have HS_12 := Lib.hid (((Ext.refl w_11).alloc (.cells #[.string ⟨#[]⟩, .int .u8 0, .bool false, .slice none 0 0] 32)).put (g := w_11.heap.size) (Nat.le_refl _) 32 #[.string K.title, .int .u8 K.rate, .bool K.drop, .slice A2 n1 c2])
  have HX_12 := Lib.hid (HX_11.out.trans HS_12.out)
  have HBl_12 := Lib.hid (HBl_11.out.ext HS_12.out)
  have HBx_12 := Lib.hid (HBx_11.out.ext HS_12.out)
  have HBa_12 := Lib.hid (HBa_11.out.ext HS_12.out)
  have HBs_12 := Lib.hid (HBs_11.out.ext HS_12.out)
  have HBt_12 := Lib.hid (HBt_11.out.ext HS_12.out)
  have HAT1_12 := Lib.hid (HAT1_11.out.ext HS_12.out)
  have HBb_12 := Lib.hid (HZ_12.out.put #[.string K.title, .int .u8 K.rate, .bool K.drop, .slice A2 n1 c2])
  clear HX_11 HBl_11 HBx_11 HBa_11 HBs_11 HBt_11 HAT1_11
  go_wp2_with (first | (refine wpList_storeB rfl 32 (.tmp 12) (.tmp 47) rfl w_11.heap.size 32 _ _ (by exact rfl) (by exact rfl) (by exact HZ_12.out) (by exact rfl) (by exact size_list) (by simp [Value.oneCell']) ?_) | (refine wpList_loadB rfl 32 (.tmp 6) rfl w_5.heap.size 32 _ _ (by exact rfl) (by exact HBa_12.out) Tryd.underlying32 rfl (by exact size_list) ?_))
  refine (HCj.out (by first | trivial | rfl) _ _ _ _ HX_12.out HAT1_12.out (by omega)).mono ?_
  rintro en w_13 ⟨rfl, hx13⟩
  have HX_13 := Lib.hid (HX_12.out.trans hx13)
  have HBl_13 := Lib.hid (HBl_12.out.ext hx13)
  have HBx_13 := Lib.hid (HBx_12.out.ext hx13)
  have HBa_13 := Lib.hid (HBa_12.out.ext hx13)
  have HBs_13 := Lib.hid (HBs_12.out.ext hx13)
  have HBt_13 := Lib.hid (HBt_12.out.ext hx13)
  have HBb_13 := Lib.hid (HBb_12.out.ext hx13)
  have HAT1_13 := Lib.hid (HAT1_12.out.ext hx13)
  clear hx13 HX_12 HBl_12 HBx_12 HBa_12 HBs_12 HBt_12 HBb_12 HAT1_12
  have hn1i : (n1 : Int) ≤ n := by omega
  have hcs := fun o => HBs_13.out.cell o
  have hct := fun o => HBt_13.out.cell o
  have hca := fun o => HBa_13.out.cell o
  have hcx := fun o => HBx_13.out.cell o
  have hcb := fun o => HBb_13.out.cell o
  go_wp2_with fail
  clear hcs hct hca hcx hcb
  go_ret
  exact ⟨by simp, HX_13.out⟩
end Go.Proofs.YtffianmhojiomaaDoor
