/- Laid together: The walk of the law CommentStays. -/
import Derived.Test.YtagfedbdakmlgaaGreatDoorSt12
import Derived.Test.YtagfedbdakmlgaaGreatDoorSt11
import Derived.Test.YtagfedbdakmlgaaGreatDoorSt17
import Derived.Test.YtagfedbdakmlgaaGreatDoorSt19
import Derived.Test.YtagfedbdakmlgaaGreatDoorSt20

/-! LawStays14 -/
namespace Go.Proofs.YtagfedbdakmlgaaGreatDoor
set_option linter.unusedVariables false
set_option linter.unusedSimpArgs false
open Go.RowKit
theorem Goods.ext {w w1 : World} {hs : List Hd} {l : List Row} (h : Goods w hs l) (k : Ext w w1) : Goods w1 hs l := fun i hd r a b => (h i hd r a b).ext k
theorem Goods.app {w : World} {hs hs' : List Hd} {l l' : List Row} (hl : hs.length = l.length) (h : Goods w hs l) (h' : Goods w hs' l') : Goods w (hs ++ hs') (l ++ l') := fun i hd r a b => by
  by_cases hi : i < hs.length
  · rw [List.getElem?_append_left hi] at a
    rw [List.getElem?_append_left (by omega)] at b
    exact h i hd r a b
  · rw [List.getElem?_append_right (by omega)] at a b
    exact h' (i - hs.length) hd r a (by rw [hl]; exact b)
theorem opn_le (d : Doc) : d.opn.length ≤ d.coms.length := by
  unfold Doc.opn
  split
  · exact Nat.zero_le _
  · rw [List.length_map, (srtC_perm _ _).length_eq]; exact List.length_filter_le _ _
set_option maxRecDepth 100000 in
set_option maxHeartbeats 16000000 in
theorem CommentStays_any (d : Doc) (h : DocH) (ev fr til : Int) (au tx : ByteArray) (A : Option Addr) (n c : Nat) (R : List Row) (w : World) (hE : Env w) (hat : DocAt w d h) (hi : DocIn d h) (hbe : ∀ e ∈ d.evs, e.bulk ≤ 1048576) (ha : au.size ≤ 140737488351232) (ht : tx.size ≤ 140737488351232) (hR : RowsAt w A n R) (hRn : n ≤ 1048576) (hRb : rowsBulk R ≤ 1048576) :
    Calls Tryz.prog 10 #[.agg (d.cells h), .agg #[.int .i64 ev, .int .i64 fr, .int .i64 til, .string au, .string tx], .slice A n c] w fun en w' => en = .returned (.bool true) ∧ Ext w w' := by
  have HX : Hid (Ext w ((w.alloc (.cells (d.cells h) 27)).alloc (.cells #[.int .i64 ev, .int .i64 fr, .int .i64 til, .string au, .string tx] 29))) := ((Ext.refl w).alloc _).alloc _
  have HB : Hid (Blk ((w.alloc (.cells (d.cells h) 27)).alloc (.cells #[.int .i64 ev, .int .i64 fr, .int .i64 til, .string au, .string tx] 29)) w.heap.size 27 (d.cells h)) := (Blk.new w _ _).alloc _
  have HR : Hid (Blk ((w.alloc (.cells (d.cells h) 27)).alloc (.cells #[.int .i64 ev, .int .i64 fr, .int .i64 til, .string au, .string tx] 29)) (w.heap.size + 1) 29 #[.int .i64 ev, .int .i64 fr, .int .i64 til, .string au, .string tx]) := Blk.new' (by simp)
  have HEn := Lib.hid hE
  have HRw := Lib.hid hR
  have HAd := Lib.hid (fun w' (hx : Ext w w') => DAdd_any d h ev fr til au tx w' (hE.ext hx) (hat.ext hx) hi.fit hi.rn hi.rc.2 hi.en hi.cn (by omega) (by omega))
  have hfit := hi.fit
  unfold AddPost at HAd
  clear hE hat hi hR
  by_cases hz : d.addErr ev fr til au tx = 0
  case neg =>
    have HA0 : d.added ev fr til au tx = Doc.zero := by unfold Doc.added; rw [if_neg hz]
    have HI0 : d.addId ev fr til au tx = 0 := by unfold Doc.addId; rw [if_neg hz]
    rw [HA0, HI0] at HAd
    clear HA0 HI0 hfit
    generalize d.addErr ev fr til au tx = er at *
    have hne : (er != 0) = true := by simpa using hz
    clear hz
    unfold Doc.cells at HX HB HR HAd
    obtain ⟨hra, nr, hrc, hea, hen, hec, hca, nc, hcc⟩ := h
    dsimp only at *
    unfold Doc.cells
    dsimp only
    go_enter Tryz.func10, Tryz.ntmps10
    go_wp2_with fail
    refine (awake14_any _ (HEn.out.ext HX.out)).mono ?_
    rintro en w_1 ⟨rfl, hx_2⟩
    have HX_3 := Lib.hid (HX.out.trans hx_2)
    have HB_4 := Lib.hid (HB.out.ext hx_2)
    have HB_5 := Lib.hid (HR.out.ext hx_2)
    clear hx_2 HX HB HR
    have hc_6 := fun o => HB_5.out.cell o
    go_wp2_with (refine wpList_loadB rfl 27 (.tmp 3) rfl (w.heap.size) 27 _ _ (by exact rfl) (by exact HB_4.out) Tryz.underlying27 rfl (by exact size_docI) ?_)
    clear hc_6
    refine (HAd.out _ HX_3.out).mono ?_
    rintro en w_7 ⟨⟨ra5, rn5, rc5, ea5, en5, ec5, ca5, cn5, cc5⟩, rfl, ho5, hx_8⟩
    dsimp only
    have HO5 := Lib.hid ho5.at_
    have HL5 := Lib.hid (And.intro ho5.rlen (And.intro ho5.evs.len ho5.clen))
    dsimp only at HL5
    clear ho5
    have HX_9 := Lib.hid (HX_3.out.trans hx_8)
    have HB_10 := Lib.hid (HB_4.out.ext hx_8)
    have HB_11 := Lib.hid (HB_5.out.ext hx_8)
    clear hx_8 HX_3 HB_4 HB_5
    have HB_12 := Lib.hid (Blk.new w_7 27 #[.string Doc.zero.title, .string Doc.zero.lang, .int .u8 Doc.zero.rate, .bool Doc.zero.drop, .int .i64 Doc.zero.last, .slice ra5 rn5 rc5, .slice ea5 en5 ec5, .slice ca5 cn5 cc5])
    have ha_13 := (Ext.refl w_7).alloc (.cells #[.string Doc.zero.title, .string Doc.zero.lang, .int .u8 Doc.zero.rate, .bool Doc.zero.drop, .int .i64 Doc.zero.last, .slice ra5 rn5 rc5, .slice ea5 en5 ec5, .slice ca5 cn5 cc5] 27)
    have HX_14 := Lib.hid (HX_9.out.trans ha_13)
    have HB_15 := Lib.hid (HB_10.out.ext ha_13)
    have HB_16 := Lib.hid (HB_11.out.ext ha_13)
    have HF_17 := Lib.hid (HO5.out.ext ha_13)
    clear ha_13 HX_9 HB_10 HB_11 HO5
    have h0 : 0 = en5 := HL5.out.2.1
    subst h0
    have hc_18 := fun o => HB_12.out.cell o
    go_wp2_with fail
    clear hc_18
    go_ret
    exact ⟨by first | rfl | simp, HX_14.out⟩
  have HA0 : d.added ev fr til au tx = d.addD ev fr til au tx := by unfold Doc.added; rw [if_pos hz]
  have HI0 : d.addId ev fr til au tx = d.last + 1 := by unfold Doc.addId; rw [if_pos hz]
  rw [HA0, HI0, hz] at HAd
  obtain ⟨k, N, e, Q, hem, hS⟩ := stay_all (R := R) hfit hz (by omega)
  obtain ⟨hes, hby⟩ := ahead_small (hbe e hem) hRb
  have HS := Lib.hid hS
  clear HA0 HI0 hz hem hS hbe hfit
  generalize d.addD ev fr til au tx = D at *
  generalize d.last + 1 = I at *
  have HSp := HS.out.put hes hby
  have HSr := HS.out.rem
  have hvs := valid_short HS.out.ok
  obtain ⟨hs1, hs2, hs3⟩ := hvs
  have hs4 := (doc_ok HS.out.ok).2.2.1
  have HP1 := Lib.hid hes
  have HP2 := Lib.hid hby
  clear hes hby
  have hQe : Q.toList.isEmpty = false := by
    cases hq9 : Q.toList.isEmpty with
    | false => rfl
    | true =>
      exfalso
      apply HS.out.qne
      have h9 : Q.toList = [] := List.isEmpty_iff.1 hq9
      rw [ByteArray.toList_eq] at h9
      obtain ⟨⟨l9⟩⟩ := Q
      simp at h9
      rw [h9]
  have hQs := HS.out.qsz
  have hkl : (0 : Int) ≤ (k : Int) := by omega
  have hkn : decide ((k : Int) < 0) = false := decide_eq_false (by omega)
  have hNn : decide ((N : Int) < 0) = false := decide_eq_false (by omega)
  unfold Doc.cells at HX HB HR HAd
  obtain ⟨hra, nr, hrc, hea, hen, hec, hca, nc, hcc⟩ := h
  dsimp only at *
  unfold Doc.cells
  dsimp only
  go_enter Tryz.func10, Tryz.ntmps10
  go_wp2_with fail
  refine (awake14_any _ (HEn.out.ext HX.out)).mono ?_
  rintro en w_19 ⟨rfl, hx_20⟩
  have HX_21 := Lib.hid (HX.out.trans hx_20)
  have HB_22 := Lib.hid (HB.out.ext hx_20)
  have HB_23 := Lib.hid (HR.out.ext hx_20)
  clear hx_20 HX HB HR
  have hc_24 := fun o => HB_23.out.cell o
  go_wp2_with (refine wpList_loadB rfl 27 (.tmp 3) rfl (w.heap.size) 27 _ _ (by exact rfl) (by exact HB_22.out) Tryz.underlying27 rfl (by exact size_docI) ?_)
  clear hc_24
  refine (HAd.out _ HX_21.out).mono ?_
  rintro en w_25 ⟨⟨ra5, rn5, rc5, ea5, en5, ec5, ca5, cn5, cc5⟩, rfl, ho5, hx_26⟩
  dsimp only
  have HO5 := Lib.hid ho5.at_
  have HL5 := Lib.hid (And.intro ho5.rlen (And.intro ho5.evs.len ho5.clen))
  dsimp only at HL5
  clear ho5
  have HX_27 := Lib.hid (HX_21.out.trans hx_26)
  have HB_28 := Lib.hid (HB_22.out.ext hx_26)
  have HB_29 := Lib.hid (HB_23.out.ext hx_26)
  clear hx_26 HX_21 HB_22 HB_23
  have HB_30 := Lib.hid (Blk.new w_25 27 #[.string D.title, .string D.lang, .int .u8 D.rate, .bool D.drop, .int .i64 D.last, .slice ra5 rn5 rc5, .slice ea5 en5 ec5, .slice ca5 cn5 cc5])
  have ha_31 := (Ext.refl w_25).alloc (.cells #[.string D.title, .string D.lang, .int .u8 D.rate, .bool D.drop, .int .i64 D.last, .slice ra5 rn5 rc5, .slice ea5 en5 ec5, .slice ca5 cn5 cc5] 27)
  have HX_32 := Lib.hid (HX_27.out.trans ha_31)
  have HB_33 := Lib.hid (HB_28.out.ext ha_31)
  have HB_34 := Lib.hid (HB_29.out.ext ha_31)
  have HF_35 := Lib.hid (HO5.out.ext ha_31)
  clear ha_31 HX_27 HB_28 HB_29 HO5
  go_upto_region 4 with fail
  obtain ⟨W_36, hW_36⟩ : ∃ W_36, W_36 = (w_25.alloc (.cells #[.string D.title, .string D.lang, .int .u8 D.rate, .bool D.drop, .int .i64 D.last, .slice ra5 rn5 rc5, .slice ea5 en5 ec5, .slice ca5 cn5 cc5] 27)) := ⟨_, rfl⟩
  rw [← hW_36] at HX_32 HB_33 HB_34 HB_30 HF_35 ⊢
  clear hW_36
  have HQ := Lib.hid (Quoted_any D ⟨ra5, rn5, rc5, ea5, en5, ec5, ca5, cn5, cc5⟩ I W_36 (HEn.out.ext HX_32.out) HF_35.out HS.out.fit (by have := HL5.out; dsimp only; omega) (by have := HL5.out; dsimp only; omega) (by have := HL5.out; dsimp only; omega))
  rw [HS.out.qu] at HQ
  unfold Doc.cells at HQ
  dsimp only at HQ
  go_wp2_with (refine wpList_loadB rfl 27 (.tmp 7) rfl (w_25.heap.size) 27 _ _ (by exact rfl) (by exact HB_30.out) Tryz.underlying27 rfl (by exact size_docI) ?_)
  refine HQ.out.mono ?_
  rintro en w_37 ⟨rfl, hx_38⟩
  clear HQ
  have HX_39 := Lib.hid (HX_32.out.trans hx_38)
  have HB_40 := Lib.hid (HB_33.out.ext hx_38)
  have HB_41 := Lib.hid (HB_34.out.ext hx_38)
  have HB_42 := Lib.hid (HB_30.out.ext hx_38)
  have HF_43 := Lib.hid (HF_35.out.ext hx_38)
  clear hx_38 HX_32 HB_33 HB_34 HB_30 HF_35
  have HF := Lib.hid (DFind_any D ⟨ra5, rn5, rc5, ea5, en5, ec5, ca5, cn5, cc5⟩ ev w_37 HF_43.out.evs (by have := HL5.out; dsimp only; omega))
  rw [HS.out.fi] at HF
  unfold Doc.cells at HF
  dsimp only at HF
  have hc_44 := fun o => HB_41.out.cell o
  go_wp2_with (refine wpList_loadB rfl 27 (.tmp 7) rfl (w_25.heap.size) 27 _ _ (by exact rfl) (by exact HB_42.out) Tryz.underlying27 rfl (by exact size_docI) ?_)
  clear hc_44
  refine HF.out.mono ?_
  rintro en w_45 ⟨rfl, hx_46⟩
  clear HF
  have HX_47 := Lib.hid (HX_39.out.trans hx_46)
  have HB_48 := Lib.hid (HB_40.out.ext hx_46)
  have HB_49 := Lib.hid (HB_41.out.ext hx_46)
  have HB_50 := Lib.hid (HB_42.out.ext hx_46)
  have HF_51 := Lib.hid (HF_43.out.ext hx_46)
  clear hx_46 HX_39 HB_40 HB_41 HB_42 HF_43
  have HC := Lib.hid (DCheck_any D ⟨ra5, rn5, rc5, ea5, en5, ec5, ca5, cn5, cc5⟩ w_45 (HEn.out.ext HX_47.out) HF_51.out HS.out.fit (by have := HL5.out; dsimp only; omega) (by have := HL5.out; dsimp only; omega) (by have := HL5.out; dsimp only; omega))
  rw [HS.out.ok] at HC
  unfold Doc.cells at HC
  dsimp only at HC
  have hc_52 := fun o => HB_50.out.cell o
  go_wp2_with fail
  clear hc_52
  refine HC.out.mono ?_
  rintro en w_53 ⟨rfl, hx_54⟩
  clear HC
  have HX_55 := Lib.hid (HX_47.out.trans hx_54)
  have HB_56 := Lib.hid (HB_48.out.ext hx_54)
  have HB_57 := Lib.hid (HB_49.out.ext hx_54)
  have HB_58 := Lib.hid (HB_50.out.ext hx_54)
  have HF_59 := Lib.hid (HF_51.out.ext hx_54)
  clear hx_54 HX_47 HB_48 HB_49 HB_50 HF_51
  have hlE := HL5.out.2.1
  obtain ⟨b9, o9, y9, A9, n9, c9, hA9, hy9, hat9, p0, p1, p2, p3, p4, p5, p6⟩ := (HF_59.out.evs).at_ev (i := k) (show k < en5 by have := (List.getElem?_eq_some_iff.1 HS.out.get).1; omega)
  rw [HS.out.get] at hy9
  obtain rfl := Option.some.inj hy9
  dsimp only at hA9
  subst hA9
  have hk1 : (k : Int) < (en5 : Int) := by have := (List.getElem?_eq_some_iff.1 HS.out.get).1; omega
  have hn9 := hat9.len
  have hfw := HS.out.few
  have HCl := Lib.hid (EClone_any e A9 n9 c9 w_53 hat9)
  unfold EClPost Ev.cells at HCl
  clear hy9 hat9 hlE
  have hc_60 := fun o => HB_58.out.cell o
  go_wp2_with fail
  clear hc_60
  refine HCl.out.mono ?_
  rintro en wC ⟨A1, c1, rfl, hnc1, hrf, hx_62⟩
  clear HCl p0 p1 p2 p3 p4 p5 p6
  have HX_63 := Lib.hid (HX_55.out.trans hx_62)
  have HB_64 := Lib.hid (HB_56.out.ext hx_62)
  have HB_65 := Lib.hid (HB_57.out.ext hx_62)
  have HB_66 := Lib.hid (HB_58.out.ext hx_62)
  have HF_67 := Lib.hid (HF_59.out.ext hx_62)
  clear hx_62 HX_55 HB_56 HB_57 HB_58 HF_59
  obtain ⟨hs9, hh9, hg9⟩ := rows_heads hrf.rows
  obtain ⟨hs8, hh8, hg8⟩ := rows_heads (HRw.out.ext HX_63.out)
  have hl8 := hh8.len
  have hl9 := hh9.len
  have hl9R := hrf.rows.len
  have hl8R := HRw.out.len
  clear hrf
  have HBx := Lib.hid (Blk.new wC 66 (StEv e (.slice A1 n9 c1)))
  have HXC := Lib.hid ((Ext.refl wC).alloc (.cells (StEv e (.slice A1 n9 c1)) 66))
  have HH8 := Lib.hid hh8
  have HH9 := Lib.hid hh9
  have HG8 := Lib.hid hg8
  have HG9 := Lib.hid hg9
  clear hh8 hh9 hg8 hg9
  go_upto_region 11 with fail
  obtain ⟨Wx, hWx⟩ : ∃ Wx, Wx = wC.alloc (.cells (StEv e (.slice A1 n9 c1)) 66) := ⟨_, rfl⟩
  have hgx : wC.heap.size < Wx.heap.size := by rw [hWx]; simp
  change Code.wp _ _ _ _ (wC.alloc (.cells (StEv e (.slice A1 n9 c1)) 66))
  rw [← hWx] at HBx HXC ⊢
  clear hWx
  obtain ⟨gx, hgxe⟩ : ∃ gx, gx = wC.heap.size := ⟨_, rfl⟩
  have hgc : wC.heap.size ≤ gx := by omega
  rw [← hgxe] at HBx hgx ⊢
  clear hgxe
  refine wp_region_links [some 81, some 82, some 83, some 84, some 85, some 86, some 87, none] [[], [], [0, 1], [], [3], [2, 4, 2], [0, 1, 2, 3, 4, 5], [6, 5, 5, 0, 1, 2, 3, 4, 5]] [0, 2, 5, 7] [undef, .slice A n c, undef, .pointer (some ⟨gx, 6, none⟩), .slice A1 n9 c1, undef, .pointer (some ⟨gx, 6, none⟩), undef] (StyJ wC Wx gx n n9 (hs8.flatMap fun h => [Hd.val h]) (hs9.flatMap fun h => [Hd.val h]) e (.slice A1 n9 c1)) (by kernel_rfl) (by kernel_rfl) (by kernel_rfl) (by kernel_rfl) (by kernel_rfl) (by kernel_rfl) (by kernel_rfl) (by decide) ?_ ?_ ?_ ?_
  · exact StyJ.start
  · intro i o ho hc a w' us K' hJ hF hlim hk
    match i, ho with
    | 0, ho => simp at hc
    | 1, ho =>
      simp only [List.getElem?_toArray, List.getElem?_cons_zero, List.getElem?_cons_succ, Option.some.injEq] at ho
      subst ho
      have e2 := hF.old 2 (.slice A n c) rfl rfl
      simp only [Act.eval] at e2
      clear hF hlim hJ
      go_simp
      exact hk
    | 2, ho => simp at hc
    | 3, ho =>
      simp only [List.getElem?_toArray, List.getElem?_cons_zero, List.getElem?_cons_succ, Option.some.injEq] at ho
      subst ho
      have e13 := hF.old 13 (.pointer (some ⟨gx, 0, none⟩)) rfl rfl
      simp only [Act.eval] at e13
      clear hF hlim hJ
      go_simp
      exact hk
    | 4, ho =>
      simp only [List.getElem?_toArray, List.getElem?_cons_zero, List.getElem?_cons_succ, Option.some.injEq] at ho
      subst ho
      have e84 := hF.pure 3 84 (.pointer (some ⟨gx, 6, none⟩)) rfl rfl rfl rfl
      have hcl : w'.cell? ⟨gx, 6, none⟩ = some (.slice A1 n9 c1) := (HBx.out.ext (hJ.1 (by have := hlim 2 5 rfl rfl; omega))).cell 6
      simp only [Act.eval] at e84
      clear hF hlim hJ
      go_simp
      exact hk
    | 5, ho => simp at hc
    | 6, ho =>
      simp only [List.getElem?_toArray, List.getElem?_cons_zero, List.getElem?_cons_succ, Option.some.injEq] at ho
      subst ho
      have e13 := hF.old 13 (.pointer (some ⟨gx, 0, none⟩)) rfl rfl
      simp only [Act.eval] at e13
      clear hF hlim hJ
      go_simp
      exact hk
    | 7, ho => simp at hc
    | i + 8, ho => simp at ho
  · intro p c' o hp ho a w' us K' hl hJ hF hk
    match p, hp with
    | 0, hp =>
      obtain rfl : 0 = c' := by simpa using hp
      simp only [List.getElem?_toArray, List.getElem?_cons_zero, List.getElem?_cons_succ, Option.some.injEq] at ho
      subst ho
      obtain rfl : us = [] := List.eq_nil_of_length_eq_zero hl
      have hsW := (hJ.1 (by simp)).size
      have HK := Lib.hid (hk (.slice (some ⟨w'.heap.size, 0, none⟩) 0 0) (w'.alloc (.cells #[] 87)) ⟨fun _ => (hJ.1 (by simp)).alloc _, own_nil0 _ _ _ _ hsW⟩)
      clear hk hF hJ hsW
      go_simp
      exact HK.out
    | 1, hp =>
      obtain rfl : 2 = c' := by simpa using hp
      simp only [List.getElem?_toArray, List.getElem?_cons_zero, List.getElem?_cons_succ, Option.some.injEq] at ho
      subst ho
      obtain ⟨u0, rfl⟩ := list_1 hl
      have e81 := hF.link 0 0 81 _ rfl rfl rfl rfl
      have e82 := hF.pure 1 82 (.slice A n c) rfl rfl rfl rfl
      have hsW := (hJ.1 (by simp)).size
      exact wp_appendS (.tmp 81) (.tmp 82) 64 rfl info_row Tryz.underlying64 rfl (by decide) hJ.2 e81 e82 (Sl.ext (Cells.stays _) HH8.out ((HXC.out).trans (hJ.1 (by simp)))) (fun _ => rfl) row_ones' (by omega) (by unfold maxLen; omega) (by omega) (fun v' w'' ho hg => hk _ _ ⟨fun _ => (hJ.1 (by simp)).grown hg (fun q hq => own_lt hJ.2 q hq), by simpa using ho⟩)
    | 2, hp =>
      obtain rfl : 5 = c' := by simpa using hp
      simp only [List.getElem?_toArray, List.getElem?_cons_zero, List.getElem?_cons_succ, Option.some.injEq] at ho
      subst ho
      obtain ⟨u0, u1, rfl⟩ := list_2 hl
      have e83 := hF.link 1 2 83 _ rfl rfl rfl rfl
      have e85 := hF.pure 4 85 (.slice A1 n9 c1) rfl rfl rfl rfl
      have hsW := (hJ.1 (by simp)).size
      exact wp_appendS (.tmp 83) (.tmp 85) 64 rfl info_row Tryz.underlying64 rfl (by decide) hJ.2 e83 e85 (Sl.ext (Cells.stays _) HH9.out ((HXC.out).trans (hJ.1 (by simp)))) (fun _ => rfl) row_ones' (by omega) (by unfold maxLen; omega) (by omega) (fun v' w'' ho hg => hk _ _ ⟨fun _ => (hJ.1 (by simp)).grown hg (fun q hq => own_lt hJ.2 q hq), by simpa using ho⟩)
    | 3, hp =>
      obtain rfl : 7 = c' := by simpa using hp
      simp only [List.getElem?_toArray, List.getElem?_cons_zero, List.getElem?_cons_succ, Option.some.injEq] at ho
      subst ho
      obtain ⟨u0, u1, u2, rfl⟩ := list_3 hl
      have e87 := hF.pure 6 87 (.pointer (some ⟨gx, 6, none⟩)) rfl rfl rfl rfl
      have e86 := hF.link 2 5 86 _ rfl rfl rfl rfl
      have hsW := (hJ.1 (by simp)).size
      obtain ⟨A2, c2, rfl⟩ := own_isSlice hJ.2
      have hBw := HBx.out.ext (hJ.1 (by simp))
      have hs : w'.setCell ⟨gx, 6, none⟩ (.slice A2 (n + n9) c2) = putB w' gx 66 (StEv e (.slice A2 (n + n9) c2)) := setCell_put hBw 6 _
      have hc : w'.cell? ⟨gx, 6, none⟩ = some (.slice A1 n9 c1) := hBw.cell 6
      have hf := hBw.frozen 6
      have HK := Lib.hid (hk undef _ (hJ.sto HBx.out HXC.out hgc hgx))
      clear hk hF hJ hBw hsW
      simp only [Act.eval] at e86 e87
      go_simp
      exact HK.out
    | p + 4, hp => simp at hp
  intro us w11 hl hJ
  obtain ⟨u0, u1, u2, u3, rfl⟩ := list_4 hl
  first | (rename_i hK; refine hK _ _ ?_; clear hK) | (rename_i hK hK_1; refine hK _ _ ?_; clear hK) | (rename_i hK hK_1 hK_2; refine hK _ _ ?_; clear hK) | (rename_i hK hK_1 hK_2 hK_3; refine hK _ _ ?_; clear hK)
  generalize hL : frameL _ _ _ _ = L
  obtain rfl : L = [(81, u0), (82, .slice A n c), (83, u1), (84, .pointer (some ⟨gx, 6, none⟩)), (85, .slice A1 n9 c1), (86, u2), (87, .pointer (some ⟨gx, 6, none⟩))] := hL.symm.trans (by kernel_rfl)
  clear hL hl
  simp only [Act.put, List.foldl_cons, List.foldl_nil, List.setIfInBounds_toArray, List.set_cons_zero, List.set_cons_succ]
  obtain ⟨-, hx11, ho11, hB11⟩ := hJ
  rw [← List.flatMap_append] at ho11
  obtain ⟨A2, c2, rfl, hc2, -, hsl11, -⟩ := own_sl (f := fun h : Hd => [Hd.val h]) (size := 1) (fun _ => rfl) (show (hs8 ++ hs9).length = n + n9 by rw [List.length_append]; omega) ho11
  have HB11 := Lib.hid hB11
  have HN := Lib.hid (rows_of_heads hsl11 (show (R ++ e.rows).length = n + n9 by rw [List.length_append]; omega) (Goods.app (hl8.trans hl8R.symm) (HG8.out.ext hx11) (HG9.out.ext hx11)))
  have HNe : Hid (EvAt w11 (e.ahead R) A2 (n + n9) c2) := ⟨HN.out, hc2, by omega⟩
  clear ho11 hB11 hsl11 HBx HXC HH8 HH9 HG8 HG9 HN hgx hgc
  have HX_68 := Lib.hid (HX_63.out.trans hx11)
  have HB_69 := Lib.hid (HB_64.out.ext hx11)
  have HB_70 := Lib.hid (HB_65.out.ext hx11)
  have HB_71 := Lib.hid (HB_66.out.ext hx11)
  have HF_72 := Lib.hid (HF_67.out.ext hx11)
  clear hx11 HX_63 HB_64 HB_65 HB_66 HF_67
  have HPt := Lib.hid (DPut_any D ⟨ra5, rn5, rc5, some ⟨b9, o9, none⟩, en5, ec5, ca5, cn5, cc5⟩ (e.ahead R) A2 (n + n9) c2 w11 (HEn.out.ext HX_68.out) HF_72.out HS.out.fit (by have := HL5.out; dsimp only; omega) (by have := HL5.out; dsimp only; omega) (by have := HL5.out; dsimp only; omega) (by have := HL5.out; dsimp only; omega) HNe.out HP1.out HP2.out)
  unfold DEPost Doc.cells Ev.cells at HPt
  dsimp only at HPt
  generalize hDB : D.putX (e.ahead R) = XB at *
  unfold Ev.ahead at HPt
  dsimp only at HPt
  unfold StEv at HB11
  clear hDB HNe
  obtain ⟨DB, fB⟩ := XB
  dsimp only at HPt HSp
  go_wp2_with (first | (refine wpList_loadB rfl 27 (.tmp 7) rfl (w_25.heap.size) 27 _ _ (by exact rfl) (by exact HB_71.out) Tryz.underlying27 rfl (by exact size_docI) ?_) | (refine wpList_loadB rfl 66 (.tmp 13) rfl (gx) 66 _ _ (by exact rfl) (by exact HB11.out) Tryz.underlying66 rfl (by exact size_event) ?_))
  refine HPt.out.mono ?_
  rintro en w_73 ⟨⟨ra6, rn6, rc6, ea6, en6, ec6, ca6, cn6, cc6⟩, rfl, ho6, hx_74⟩
  dsimp only
  have HO6 := Lib.hid ho6.at_
  have HL6 := Lib.hid (And.intro ho6.rlen (And.intro ho6.evs.len ho6.clen))
  dsimp only at HL6
  clear ho6
  have HX_75 := Lib.hid (HX_68.out.trans hx_74)
  have HB_76 := Lib.hid (HB_69.out.ext hx_74)
  have HB_77 := Lib.hid (HB_70.out.ext hx_74)
  have HB_78 := Lib.hid (HB_71.out.ext hx_74)
  have HB_79 := Lib.hid (HB11.out.ext hx_74)
  have HF_80 := Lib.hid (HF_72.out.ext hx_74)
  clear hx_74 HX_68 HB_69 HB_70 HB_71 HB11 HF_72
  have HB_81 := Lib.hid (Blk.new w_73 27 #[.string DB.title, .string DB.lang, .int .u8 DB.rate, .bool DB.drop, .int .i64 DB.last, .slice ra6 rn6 rc6, .slice ea6 en6 ec6, .slice ca6 cn6 cc6])
  have ha_82 := (Ext.refl w_73).alloc (.cells #[.string DB.title, .string DB.lang, .int .u8 DB.rate, .bool DB.drop, .int .i64 DB.last, .slice ra6 rn6 rc6, .slice ea6 en6 ec6, .slice ca6 cn6 cc6] 27)
  have HX_83 := Lib.hid (HX_75.out.trans ha_82)
  have HB_84 := Lib.hid (HB_76.out.ext ha_82)
  have HB_85 := Lib.hid (HB_77.out.ext ha_82)
  have HB_86 := Lib.hid (HB_78.out.ext ha_82)
  have HB_87 := Lib.hid (HB_79.out.ext ha_82)
  have HF_88 := Lib.hid (HF_80.out.ext ha_82)
  have HF_89 := Lib.hid (HO6.out.ext ha_82)
  clear ha_82 HX_75 HB_76 HB_77 HB_78 HB_79 HF_80 HO6
  go_upto_region 13 with fail
  obtain ⟨W_90, hW_90⟩ : ∃ W_90, W_90 = (w_73.alloc (.cells #[.string DB.title, .string DB.lang, .int .u8 DB.rate, .bool DB.drop, .int .i64 DB.last, .slice ra6 rn6 rc6, .slice ea6 en6 ec6, .slice ca6 cn6 cc6] 27)) := ⟨_, rfl⟩
  rw [← hW_90] at HX_83 HB_84 HB_85 HB_86 HB_87 HB_81 HF_88 HF_89 ⊢
  clear hW_90
  clear HPt
  by_cases hf : fB = 0
  case neg =>
    have hb : (fB == 0) = false := by simpa using hf
    clear hf HSp
    go_upto_region 18 with fail
    obtain ⟨r1, r2, ⟨cR, r3, r4⟩, r5, r6, r7⟩ := HSr
    have hvR := valid_short r7
    have hvR4 := (doc_ok r7).2.2.1
    have HRm := Lib.hid (DRemove_any D ⟨ra5, rn5, rc5, some ⟨b9, o9, none⟩, en5, ec5, ca5, cn5, cc5⟩ ev W_90 (HEn.out.ext HX_83.out) HF_88.out HS.out.fit (by have := HL5.out; dsimp only; omega) (by have := HL5.out; dsimp only; omega) (by have := HL5.out; dsimp only; omega) (by have := HL5.out; dsimp only; omega))
    unfold DEPost Doc.cells at HRm
    dsimp only at HRm
    generalize hDR : D.remX ev = XR at *
    clear hDR
    obtain ⟨DR, fR⟩ := XR
    dsimp only at HRm r1 r2 r3 r4 r5 r6 r7 hvR hvR4
    subst r1
    obtain ⟨v1, v2, v3⟩ := hvR
    clear hvR4
    have hc_91 := fun o => HB_85.out.cell o
    go_wp2_with (refine wpList_loadB rfl 27 (.tmp 7) rfl (w_25.heap.size) 27 _ _ (by exact rfl) (by exact HB_86.out) Tryz.underlying27 rfl (by exact size_docI) ?_)
    clear hc_91
    refine HRm.out.mono ?_
    rintro en w_92 ⟨⟨ra7, rn7, rc7, ea7, en7, ec7, ca7, cn7, cc7⟩, rfl, ho7, hx_93⟩
    dsimp only
    have HO7 := Lib.hid ho7.at_
    have HL7 := Lib.hid (And.intro ho7.rlen (And.intro ho7.evs.len ho7.clen))
    dsimp only at HL7
    clear ho7
    have HX_94 := Lib.hid (HX_83.out.trans hx_93)
    have HB_95 := Lib.hid (HB_84.out.ext hx_93)
    have HB_96 := Lib.hid (HB_85.out.ext hx_93)
    have HB_97 := Lib.hid (HB_86.out.ext hx_93)
    have HB_98 := Lib.hid (HB_87.out.ext hx_93)
    have HB_99 := Lib.hid (HB_81.out.ext hx_93)
    have HF_100 := Lib.hid (HF_88.out.ext hx_93)
    have HF_101 := Lib.hid (HF_89.out.ext hx_93)
    clear hx_93 HX_83 HB_84 HB_85 HB_86 HB_87 HB_81 HF_88 HF_89
    have HB_102 := Lib.hid (Blk.new w_92 27 #[.string DR.title, .string DR.lang, .int .u8 DR.rate, .bool DR.drop, .int .i64 DR.last, .slice ra7 rn7 rc7, .slice ea7 en7 ec7, .slice ca7 cn7 cc7])
    have ha_103 := (Ext.refl w_92).alloc (.cells #[.string DR.title, .string DR.lang, .int .u8 DR.rate, .bool DR.drop, .int .i64 DR.last, .slice ra7 rn7 rc7, .slice ea7 en7 ec7, .slice ca7 cn7 cc7] 27)
    have HX_104 := Lib.hid (HX_94.out.trans ha_103)
    have HB_105 := Lib.hid (HB_95.out.ext ha_103)
    have HB_106 := Lib.hid (HB_96.out.ext ha_103)
    have HB_107 := Lib.hid (HB_97.out.ext ha_103)
    have HB_108 := Lib.hid (HB_98.out.ext ha_103)
    have HB_109 := Lib.hid (HB_99.out.ext ha_103)
    have HF_110 := Lib.hid (HF_100.out.ext ha_103)
    have HF_111 := Lib.hid (HF_101.out.ext ha_103)
    have HF_112 := Lib.hid (HO7.out.ext ha_103)
    clear ha_103 HX_94 HB_95 HB_96 HB_97 HB_98 HB_99 HF_100 HF_101 HO7
    go_upto_region 19 with fail
    obtain ⟨W_113, hW_113⟩ : ∃ W_113, W_113 = (w_92.alloc (.cells #[.string DR.title, .string DR.lang, .int .u8 DR.rate, .bool DR.drop, .int .i64 DR.last, .slice ra7 rn7 rc7, .slice ea7 en7 ec7, .slice ca7 cn7 cc7] 27)) := ⟨_, rfl⟩
    rw [← hW_113] at HX_104 HB_105 HB_106 HB_107 HB_108 HB_109 HB_102 HF_110 HF_111 HF_112 ⊢
    clear hW_113
    clear HRm
    have HFc := Lib.hid (CFind_any DR ⟨ra7, rn7, rc7, ea7, en7, ec7, ca7, cn7, cc7⟩ I W_113 HF_112.out.coms (by have := HL7.out; dsimp only; omega))
    rw [r2] at HFc
    unfold Doc.cells at HFc
    dsimp only at HFc
    go_wp2_with (refine wpList_loadB rfl 27 (.tmp 19) rfl (w_92.heap.size) 27 _ _ (by exact rfl) (by exact HB_102.out) Tryz.underlying27 rfl (by exact size_docI) ?_)
    refine HFc.out.mono ?_
    rintro en w_114 ⟨rfl, hx_115⟩
    clear HFc
    have HX_116 := Lib.hid (HX_104.out.trans hx_115)
    have HB_117 := Lib.hid (HB_105.out.ext hx_115)
    have HB_118 := Lib.hid (HB_106.out.ext hx_115)
    have HB_119 := Lib.hid (HB_107.out.ext hx_115)
    have HB_120 := Lib.hid (HB_108.out.ext hx_115)
    have HB_121 := Lib.hid (HB_109.out.ext hx_115)
    have HB_122 := Lib.hid (HB_102.out.ext hx_115)
    have HF_123 := Lib.hid (HF_110.out.ext hx_115)
    have HF_124 := Lib.hid (HF_111.out.ext hx_115)
    have HF_125 := Lib.hid (HF_112.out.ext hx_115)
    clear hx_115 HX_104 HB_105 HB_106 HB_107 HB_108 HB_109 HB_102 HF_110 HF_111 HF_112
    go_upto_region 20 with fail
    have hlC := HL7.out.2.2
    obtain ⟨b7, o7, x7, hA7, hx7, q0, q1, q2, q3, q4, q5, q6, q7⟩ := (HF_125.out.coms).at8 (i := N) (show N < cn7 by have := (List.getElem?_eq_some_iff.1 r3).1; omega)
    rw [r3] at hx7
    obtain rfl := Option.some.inj hx7
    dsimp only at hA7
    subst hA7
    rw [r4] at q7
    have HQ7 := Lib.hid q7
    have hN7 : N < cn7 := by have := (List.getElem?_eq_some_iff.1 r3).1; omega
    have HOp1 := Lib.hid (fun w' (hx : Ext w_114 w') => COpen_any DR ⟨ra7, rn7, rc7, ea7, en7, ec7, some ⟨b7, o7, none⟩, cn7, cc7⟩ w' (HEn.out.ext (HX_116.out.trans hx)) (HF_125.out.ext hx) r6 (by have := HL7.out; dsimp only; omega) (by have := HL7.out; dsimp only; omega) (by have := HL7.out; dsimp only; omega))
    have HOp2 := Lib.hid (fun w' (hx : Ext w_114 w') => COpen_any D ⟨ra5, rn5, rc5, some ⟨b9, o9, none⟩, en5, ec5, ca5, cn5, cc5⟩ w' (HEn.out.ext (HX_116.out.trans hx)) (HF_123.out.ext hx) HS.out.fit (by have := HL5.out; dsimp only; omega) (by have := HL5.out; dsimp only; omega) (by have := HL5.out; dsimp only; omega))
    unfold OpnPost Doc.cells at HOp1 HOp2
    dsimp only at HOp1 HOp2
    have hbO : D.opn.length ≤ 1000000 := by
      have h1 := opn_le D
      have h2 := (doc_ok HS.out.ok).2.2.2.2.1
      omega
    generalize DR.opn.length = L1 at *
    generalize D.opn.length = L2 at *
    obtain ⟨M, hM⟩ : ∃ M : Nat, L2 = M + 1 := ⟨L2 - 1, by omega⟩
    subst hM
    have hwM : IntKind.i64.wrap (M : Int) = (M : Int) := by rw [IntKind.wrap_i64]; omega
    have hle : (L1 : Int) ≤ (M : Int) := Int.ofNat_le.2 (Nat.le_of_succ_le_succ r5)
    have hN0 : (0 : Int) ≤ (N : Int) := by omega
    clear q0 q1 q2 q3 q4 q5 q6 q7 r2 r3 r4 r5 hx7 hlC
    have hST : QSt [(fun (u : Value) (_ : World) => ∃ A c, u = .slice A L1 c), (fun (u : Value) (_ : World) => ∃ A c, u = .slice A (M + 1) c), (fun (u : Value) (_ : World) => u = .bool true)] := by
      intro p hp u w w' hx h
      simp only [List.mem_cons, List.not_mem_nil, or_false] at hp
      rcases hp with rfl | rfl | rfl <;> exact h
    refine wp_region_linksG [(2, true), (6, true), (14, true)] [some 136, some 137, some 138, some 139, some 140, some 141, some 142, some 143, some 144, some 145, some 146, some 147, some 148, some 149, some 150, some 151, some 152, some 153, some 154, some 155, some 156, some 157, some 158, some 159, some 6] [[], [0], [1], [2], [3, 2], [2, 4], [5, 2], [6], [7, 6], [6], [8, 9, 6], [10, 6], [11, 6], [6, 12], [13, 6], [14], [15, 14, 14], [16, 14], [14], [18, 16, 14], [19, 14], [20, 14], [17, 21, 14], [14, 22], [23, 19, 0, 1, 2, 3, 4, 5, 6, 7, 8, 9, 10, 11, 12, 13, 14, 15, 16, 17, 18, 19, 20, 21, 22, 23]] [16, 19, 24] [.int .i64 0, .bool true, .bool true, .int .i64 N, .bool true, .bool true, .bool true, .pointer (some ⟨w_92.heap.size, 7, none⟩), .slice (some ⟨b7, o7, none⟩) cn7 cc7, .int .i64 N, .pointer (some ⟨b7, o7 + N * 8, none⟩), .pointer (some ⟨b7, o7 + N * 8 + 7, none⟩), .bool true, .bool true, .bool true, .agg #[.string DR.title, .string DR.lang, .int .u8 DR.rate, .bool DR.drop, .int .i64 DR.last, .slice ra7 rn7 rc7, .slice ea7 en7 ec7, .slice (some ⟨b7, o7, none⟩) cn7 cc7], undef, .int .i64 L1, .agg #[.string D.title, .string D.lang, .int .u8 D.rate, .bool D.drop, .int .i64 D.last, .slice ra5 rn5 rc5, .slice (some ⟨b9, o9, none⟩) en5 ec5, .slice ca5 cn5 cc5], undef, .int .i64 ((M : Int) + 1), .int .i64 M, .bool true, .bool true, undef] (QJ [(fun (u : Value) (_ : World) => ∃ A c, u = .slice A L1 c), (fun (u : Value) (_ : World) => ∃ A c, u = .slice A (M + 1) c), (fun (u : Value) (_ : World) => u = .bool true)] w_114) (by intro g hg; simp only [List.mem_cons, List.not_mem_nil, or_false] at hg; rcases hg with rfl | rfl | rfl <;> rfl) (by kernel_rfl) (by kernel_rfl) (by kernel_rfl) (by kernel_rfl) (by kernel_rfl) (by kernel_rfl) (by kernel_rfl) (by decide) ?_ ?_ ?_ ?_
    · exact QJ.start _ w_114
    · intro i o ho hc a w' us K' hJ hF hlim hk
      match i, ho with
      | 0, ho =>
        simp only [List.getElem?_toArray, List.getElem?_cons_zero, List.getElem?_cons_succ, Option.some.injEq] at ho
        subst ho
        have e20 := hF.old 20 (.int .i64 0) rfl rfl
        simp only [Act.eval] at e20
        clear hF hlim hJ
        go_simp
        exact hk
      | 1, ho =>
        simp only [List.getElem?_toArray, List.getElem?_cons_zero, List.getElem?_cons_succ, Option.some.injEq] at ho
        subst ho
        have e136 := hF.pure 0 136 (.int .i64 0) rfl rfl rfl rfl
        simp only [Act.eval] at e136
        clear hF hlim hJ
        go_simp
        exact hk
      | 2, ho =>
        simp only [List.getElem?_toArray, List.getElem?_cons_zero, List.getElem?_cons_succ, Option.some.injEq] at ho
        subst ho
        have e137 := hF.pure 1 137 (.bool true) rfl rfl rfl rfl
        simp only [Act.eval] at e137
        clear hF hlim hJ
        go_simp
        exact hk
      | 3, ho =>
        simp only [List.getElem?_toArray, List.getElem?_cons_zero, List.getElem?_cons_succ, Option.some.injEq] at ho
        subst ho
        have e21 := hF.old 21 (.int .i64 N) rfl rfl
        simp only [Act.eval] at e21
        clear hF hlim hJ
        go_simp
        exact hk
      | 4, ho =>
        simp only [List.getElem?_toArray, List.getElem?_cons_zero, List.getElem?_cons_succ, Option.some.injEq] at ho
        subst ho
        have e139 := hF.pure 3 139 (.int .i64 N) rfl rfl rfl rfl
        simp only [Act.eval] at e139
        clear hF hlim hJ
        go_simp
        exact hk
      | 5, ho =>
        simp only [List.getElem?_toArray, List.getElem?_cons_zero, List.getElem?_cons_succ, Option.some.injEq] at ho
        subst ho
        have e138 := hF.pure 2 138 (.bool true) rfl rfl rfl rfl
        have e140 := hF.pure 4 140 (.bool true) rfl rfl rfl rfl
        simp only [Act.eval] at e138 e140
        clear hF hlim hJ
        go_simp
        exact hk
      | 6, ho =>
        simp only [List.getElem?_toArray, List.getElem?_cons_zero, List.getElem?_cons_succ, Option.some.injEq] at ho
        subst ho
        have e141 := hF.pure 5 141 (.bool true) rfl rfl rfl rfl
        simp only [Act.eval] at e141
        clear hF hlim hJ
        go_simp
        exact hk
      | 7, ho =>
        simp only [List.getElem?_toArray, List.getElem?_cons_zero, List.getElem?_cons_succ, Option.some.injEq] at ho
        subst ho
        have e19 := hF.old 19 (.pointer (some ⟨w_92.heap.size, 0, none⟩)) rfl rfl
        simp only [Act.eval] at e19
        clear hF hlim hJ
        go_simp
        exact hk
      | 8, ho =>
        simp only [List.getElem?_toArray, List.getElem?_cons_zero, List.getElem?_cons_succ, Option.some.injEq] at ho
        subst ho
        have e143 := hF.pure 7 143 (.pointer (some ⟨w_92.heap.size, 7, none⟩)) rfl rfl rfl rfl
        have hcl : w'.cell? ⟨w_92.heap.size, 7, none⟩ = some (.slice (some ⟨b7, o7, none⟩) cn7 cc7) := (HB_122.out.ext hJ.ext).cell 7
        simp only [Act.eval] at e143
        clear hF hlim hJ
        go_simp
        exact hk
      | 9, ho =>
        simp only [List.getElem?_toArray, List.getElem?_cons_zero, List.getElem?_cons_succ, Option.some.injEq] at ho
        subst ho
        have e21 := hF.old 21 (.int .i64 N) rfl rfl
        simp only [Act.eval] at e21
        clear hF hlim hJ
        go_simp
        exact hk
      | 10, ho =>
        simp only [List.getElem?_toArray, List.getElem?_cons_zero, List.getElem?_cons_succ, Option.some.injEq] at ho
        subst ho
        have e144 := hF.pure 8 144 (.slice (some ⟨b7, o7, none⟩) cn7 cc7) rfl rfl rfl rfl
        have e145 := hF.pure 9 145 (.int .i64 N) rfl rfl rfl rfl
        exact wp_ix_com rfl e144 e145 hN7 hk
      | 11, ho =>
        simp only [List.getElem?_toArray, List.getElem?_cons_zero, List.getElem?_cons_succ, Option.some.injEq] at ho
        subst ho
        have e146 := hF.pure 10 146 (.pointer (some ⟨b7, o7 + N * 8, none⟩)) rfl rfl rfl rfl
        simp only [Act.eval] at e146
        clear hF hlim hJ
        go_simp
        exact hk
      | 12, ho =>
        simp only [List.getElem?_toArray, List.getElem?_cons_zero, List.getElem?_cons_succ, Option.some.injEq] at ho
        subst ho
        have e147 := hF.pure 11 147 (.pointer (some ⟨b7, o7 + N * 8 + 7, none⟩)) rfl rfl rfl rfl
        have hcl : w'.cell? ⟨b7, o7 + N * 8 + 7, none⟩ = some (.bool true) := hJ.ext.cell HQ7.out
        simp only [Act.eval] at e147
        clear hF hlim hJ
        go_simp
        exact hk
      | 13, ho =>
        simp only [List.getElem?_toArray, List.getElem?_cons_zero, List.getElem?_cons_succ, Option.some.injEq] at ho
        subst ho
        have e142 := hF.pure 6 142 (.bool true) rfl rfl rfl rfl
        have e148 := hF.pure 12 148 (.bool true) rfl rfl rfl rfl
        simp only [Act.eval] at e148 e142
        clear hF hlim hJ
        go_simp
        exact hk
      | 14, ho =>
        simp only [List.getElem?_toArray, List.getElem?_cons_zero, List.getElem?_cons_succ, Option.some.injEq] at ho
        subst ho
        have e149 := hF.pure 13 149 (.bool true) rfl rfl rfl rfl
        simp only [Act.eval] at e149
        clear hF hlim hJ
        go_simp
        exact hk
      | 15, ho =>
        simp only [List.getElem?_toArray, List.getElem?_cons_zero, List.getElem?_cons_succ, Option.some.injEq] at ho
        subst ho
        have e19 := hF.old 19 (.pointer (some ⟨w_92.heap.size, 0, none⟩)) rfl rfl
        exact wp_loadBk 27 (.tmp 19) rfl _ 27 _ _ e19 (HB_122.out.ext hJ.ext) Tryz.underlying27 rfl (by exact size_docI) hk
      | 16, ho => simp at hc
      | 17, ho =>
        simp only [List.getElem?_toArray, List.getElem?_cons_zero, List.getElem?_cons_succ, Option.some.injEq] at ho
        subst ho
        obtain ⟨v152, hv152⟩ := getElem_ltq (hF.did 0 16 rfl rfl)
        have e152 := hF.link 0 16 152 _ rfl rfl rfl hv152
        obtain ⟨A9, c9, hu9⟩ : (fun (u : Value) (_ : World) => ∃ A c, u = .slice A L1 c) v152 w' := hJ.val 0 v152 _ hv152 rfl
        rw [hu9] at e152
        simp only [Act.eval] at e152
        clear hF hlim hJ
        go_simp
        exact hk
      | 18, ho =>
        simp only [List.getElem?_toArray, List.getElem?_cons_zero, List.getElem?_cons_succ, Option.some.injEq] at ho
        subst ho
        have e7 := hF.old 7 (.pointer (some ⟨w_25.heap.size, 0, none⟩)) rfl rfl
        exact wp_loadBk 27 (.tmp 7) rfl _ 27 _ _ e7 (HB_119.out.ext hJ.ext) Tryz.underlying27 rfl (by exact size_docI) hk
      | 19, ho => simp at hc
      | 20, ho =>
        simp only [List.getElem?_toArray, List.getElem?_cons_zero, List.getElem?_cons_succ, Option.some.injEq] at ho
        subst ho
        obtain ⟨v155, hv155⟩ := getElem_ltq (hF.did 1 19 rfl rfl)
        have e155 := hF.link 1 19 155 _ rfl rfl rfl hv155
        obtain ⟨A9, c9, hu9⟩ : (fun (u : Value) (_ : World) => ∃ A c, u = .slice A (M + 1) c) v155 w' := hJ.val 1 v155 _ hv155 rfl
        rw [hu9] at e155
        simp only [Act.eval] at e155
        clear hF hlim hJ
        go_simp
        exact hk
      | 21, ho =>
        simp only [List.getElem?_toArray, List.getElem?_cons_zero, List.getElem?_cons_succ, Option.some.injEq] at ho
        subst ho
        have e156 := hF.pure 20 156 (.int .i64 ((M : Int) + 1)) rfl rfl rfl rfl
        simp only [Act.eval] at e156
        clear hF hlim hJ
        go_simp
        exact hk
      | 22, ho =>
        simp only [List.getElem?_toArray, List.getElem?_cons_zero, List.getElem?_cons_succ, Option.some.injEq] at ho
        subst ho
        have e153 := hF.pure 17 153 (.int .i64 L1) rfl rfl rfl rfl
        have e157 := hF.pure 21 157 (.int .i64 M) rfl rfl rfl rfl
        simp only [Act.eval] at e153 e157
        clear hF hlim hJ
        go_simp
        exact hk
      | 23, ho =>
        simp only [List.getElem?_toArray, List.getElem?_cons_zero, List.getElem?_cons_succ, Option.some.injEq] at ho
        subst ho
        have e150 := hF.pure 14 150 (.bool true) rfl rfl rfl rfl
        have e158 := hF.pure 22 158 (.bool true) rfl rfl rfl rfl
        simp only [Act.eval] at e158 e150
        clear hF hlim hJ
        go_simp
        exact hk
      | 24, ho => simp at hc
      | i + 25, ho => simp at ho
    · intro p c' o hp ho a w' us K' hl hJ hF hk
      match p, hp with
      | 0, hp =>
        obtain rfl : 16 = c' := by simpa using hp
        simp only [List.getElem?_toArray, List.getElem?_cons_zero, List.getElem?_cons_succ, Option.some.injEq] at ho
        subst ho
        obtain rfl : us = [] := List.eq_nil_of_length_eq_zero hl
        have e151 := hF.pure 15 151 (.agg #[.string DR.title, .string DR.lang, .int .u8 DR.rate, .bool DR.drop, .int .i64 DR.last, .slice ra7 rn7 rc7, .slice ea7 en7 ec7, .slice (some ⟨b7, o7, none⟩) cn7 cc7]) rfl rfl rfl rfl
        refine wp_call1 rfl e151 Tryz.call53 (HOp1.out w' hJ.ext) ?_
        rintro en w2 ⟨A9, c9, rfl, -, -, hx9⟩
        exact ⟨_, rfl, hk _ w2 (hJ.push hST hx9 (fun p hp => by cases hp; exact ⟨A9, c9, rfl⟩))⟩
      | 1, hp =>
        obtain rfl : 19 = c' := by simpa using hp
        simp only [List.getElem?_toArray, List.getElem?_cons_zero, List.getElem?_cons_succ, Option.some.injEq] at ho
        subst ho
        obtain ⟨u0, rfl⟩ := list_1 hl
        have e154 := hF.pure 18 154 (.agg #[.string D.title, .string D.lang, .int .u8 D.rate, .bool D.drop, .int .i64 D.last, .slice ra5 rn5 rc5, .slice (some ⟨b9, o9, none⟩) en5 ec5, .slice ca5 cn5 cc5]) rfl rfl rfl rfl
        refine wp_call1 rfl e154 Tryz.call53 (HOp2.out w' hJ.ext) ?_
        rintro en w2 ⟨A9, c9, rfl, -, -, hx9⟩
        exact ⟨_, rfl, hk _ w2 (hJ.push hST hx9 (fun p hp => by cases hp; exact ⟨A9, c9, rfl⟩))⟩
      | 2, hp =>
        obtain rfl : 24 = c' := by simpa using hp
        simp only [List.getElem?_toArray, List.getElem?_cons_zero, List.getElem?_cons_succ, Option.some.injEq] at ho
        subst ho
        obtain ⟨u0, u1, rfl⟩ := list_2 hl
        have e159 := hF.pure 23 159 (.bool true) rfl rfl rfl rfl
        exact wp_assignx _ _ rfl e159 (hk _ _ (hJ.push hST (Ext.refl _) (fun p hp => by cases hp; rfl)))
      | p + 3, hp => simp at hp
    intro us w20 hl hJ
    obtain ⟨u0, u1, u2, rfl⟩ := list_3 hl
    try simp only [Exit.inBlock, Exit.then]
    generalize hL : frameL _ _ _ _ = L
    obtain rfl : L = [(136, .int .i64 0), (137, .bool true), (138, .bool true), (139, .int .i64 N), (140, .bool true), (141, .bool true), (142, .bool true), (143, .pointer (some ⟨w_92.heap.size, 7, none⟩)), (144, .slice (some ⟨b7, o7, none⟩) cn7 cc7), (145, .int .i64 N), (146, .pointer (some ⟨b7, o7 + N * 8, none⟩)), (147, .pointer (some ⟨b7, o7 + N * 8 + 7, none⟩)), (148, .bool true), (149, .bool true), (150, .bool true), (151, .agg #[.string DR.title, .string DR.lang, .int .u8 DR.rate, .bool DR.drop, .int .i64 DR.last, .slice ra7 rn7 rc7, .slice ea7 en7 ec7, .slice (some ⟨b7, o7, none⟩) cn7 cc7]), (152, u0), (153, .int .i64 L1), (154, .agg #[.string D.title, .string D.lang, .int .u8 D.rate, .bool D.drop, .int .i64 D.last, .slice ra5 rn5 rc5, .slice (some ⟨b9, o9, none⟩) en5 ec5, .slice ca5 cn5 cc5]), (155, u1), (156, .int .i64 ((M : Int) + 1)), (157, .int .i64 M), (158, .bool true), (159, .bool true), (6, u2)] := hL.symm.trans (by kernel_rfl)
    clear hL hl
    simp only [Act.put, List.foldl_cons, List.foldl_nil, List.setIfInBounds_toArray, List.set_cons_zero, List.set_cons_succ]
    have hu2 : u2 = .bool true := hJ.val 2 u2 _ rfl rfl
    subst hu2
    have hxJ := hJ.ext
    clear hJ hST HOp1 HOp2
    have HX_126 := Lib.hid (HX_116.out.trans hxJ)
    have HB_127 := Lib.hid (HB_117.out.ext hxJ)
    have HB_128 := Lib.hid (HB_118.out.ext hxJ)
    have HB_129 := Lib.hid (HB_119.out.ext hxJ)
    have HB_130 := Lib.hid (HB_120.out.ext hxJ)
    have HB_131 := Lib.hid (HB_121.out.ext hxJ)
    have HB_132 := Lib.hid (HB_122.out.ext hxJ)
    have HF_133 := Lib.hid (HF_123.out.ext hxJ)
    have HF_134 := Lib.hid (HF_124.out.ext hxJ)
    have HF_135 := Lib.hid (HF_125.out.ext hxJ)
    clear hxJ HX_116 HB_117 HB_118 HB_119 HB_120 HB_121 HB_122 HF_123 HF_124 HF_125
    go_wp2_with fail
    go_ret
    exact ⟨rfl, HX_126.out⟩
  subst hf
  obtain ⟨z1, ⟨cB, z2, z3⟩, z4, z5, z6, z7⟩ := HSp rfl
  clear HSp
  obtain ⟨v1, v2, v3⟩ := valid_short z7
  have hv4 := (doc_ok z7).2.2.1
  generalize hXQ : DB.quX I = XQ at *
  obtain ⟨s9, f9⟩ := XQ
  dsimp only at z4 z5
  subst z4
  have HFb := Lib.hid (CFind_any DB ⟨ra6, rn6, rc6, ea6, en6, ec6, ca6, cn6, cc6⟩ I W_90 HF_89.out.coms (by have := HL6.out; dsimp only; omega))
  rw [z1] at HFb
  unfold Doc.cells at HFb
  dsimp only at HFb
  go_wp2_with (refine wpList_loadB rfl 27 (.tmp 14) rfl (w_73.heap.size) 27 _ _ (by exact rfl) (by exact HB_81.out) Tryz.underlying27 rfl (by exact size_docI) ?_)
  refine HFb.out.mono ?_
  rintro en w_136 ⟨rfl, hx_137⟩
  clear HFb
  have HX_138 := Lib.hid (HX_83.out.trans hx_137)
  have HB_139 := Lib.hid (HB_84.out.ext hx_137)
  have HB_140 := Lib.hid (HB_85.out.ext hx_137)
  have HB_141 := Lib.hid (HB_86.out.ext hx_137)
  have HB_142 := Lib.hid (HB_87.out.ext hx_137)
  have HB_143 := Lib.hid (HB_81.out.ext hx_137)
  have HF_144 := Lib.hid (HF_88.out.ext hx_137)
  have HF_145 := Lib.hid (HF_89.out.ext hx_137)
  clear hx_137 HX_83 HB_84 HB_85 HB_86 HB_87 HB_81 HF_88 HF_89
  have HQb := Lib.hid (Quoted_any DB ⟨ra6, rn6, rc6, ea6, en6, ec6, ca6, cn6, cc6⟩ I w_136 (HEn.out.ext HX_138.out) HF_145.out z6 (by have := HL6.out; dsimp only; omega) (by have := HL6.out; dsimp only; omega) (by have := HL6.out; dsimp only; omega))
  rw [hXQ] at HQb
  unfold Doc.cells at HQb
  dsimp only at HQb
  go_wp2_with (refine wpList_loadB rfl 27 (.tmp 14) rfl (w_73.heap.size) 27 _ _ (by exact rfl) (by exact HB_143.out) Tryz.underlying27 rfl (by exact size_docI) ?_)
  refine HQb.out.mono ?_
  rintro en w_146 ⟨rfl, hx_147⟩
  clear HQb
  have HX_148 := Lib.hid (HX_138.out.trans hx_147)
  have HB_149 := Lib.hid (HB_139.out.ext hx_147)
  have HB_150 := Lib.hid (HB_140.out.ext hx_147)
  have HB_151 := Lib.hid (HB_141.out.ext hx_147)
  have HB_152 := Lib.hid (HB_142.out.ext hx_147)
  have HB_153 := Lib.hid (HB_143.out.ext hx_147)
  have HF_154 := Lib.hid (HF_144.out.ext hx_147)
  have HF_155 := Lib.hid (HF_145.out.ext hx_147)
  clear hx_147 HX_138 HB_139 HB_140 HB_141 HB_142 HB_143 HF_144 HF_145
  have hlB := HL6.out.2.2
  obtain ⟨b6, o6, x6, hA6, hx6, q0, q1, q2, q3, q4, q5, q6, q7⟩ := (HF_155.out.coms).at8 (i := N) (show N < cn6 by have := (List.getElem?_eq_some_iff.1 z2).1; omega)
  rw [z2] at hx6
  obtain rfl := Option.some.inj hx6
  dsimp only at hA6
  subst hA6
  rw [z3] at q7
  have hN0 : (0 : Int) ≤ (N : Int) := by omega
  have hN6 : (N : Int) < (cn6 : Int) := by have := (List.getElem?_eq_some_iff.1 z2).1; omega
  have hlt : decide ((s9.size : Int) < (Q.size : Int)) = false := decide_eq_false (by omega)
  have hlt2 : ¬ (s9.size : Int) < (Q.size : Int) := by omega
  have hlt3 : ¬ s9.size < Q.size := by omega
  clear q0 q1 q2 q3 q4 q5 q6 hXQ z1 z2 z3 z6 z7 hx6 hlB v1 v2 v3 hv4 z5
  have hc_156 := fun o => HB_153.out.cell o
  go_upto_region 18 with fail
  clear hc_156 q7 hlt hlt2 hlt3
  obtain ⟨r1, r2, ⟨cR, r3, r4⟩, r5, r6, r7⟩ := HSr
  have hvR := valid_short r7
  have hvR4 := (doc_ok r7).2.2.1
  have HRm := Lib.hid (DRemove_any D ⟨ra5, rn5, rc5, some ⟨b9, o9, none⟩, en5, ec5, ca5, cn5, cc5⟩ ev w_146 (HEn.out.ext HX_148.out) HF_154.out HS.out.fit (by have := HL5.out; dsimp only; omega) (by have := HL5.out; dsimp only; omega) (by have := HL5.out; dsimp only; omega) (by have := HL5.out; dsimp only; omega))
  unfold DEPost Doc.cells at HRm
  dsimp only at HRm
  generalize hDR : D.remX ev = XR at *
  clear hDR
  obtain ⟨DR, fR⟩ := XR
  dsimp only at HRm r1 r2 r3 r4 r5 r6 r7 hvR hvR4
  subst r1
  obtain ⟨v1, v2, v3⟩ := hvR
  clear hvR4
  have hc_157 := fun o => HB_150.out.cell o
  go_wp2_with (refine wpList_loadB rfl 27 (.tmp 7) rfl (w_25.heap.size) 27 _ _ (by exact rfl) (by exact HB_151.out) Tryz.underlying27 rfl (by exact size_docI) ?_)
  clear hc_157
  refine HRm.out.mono ?_
  rintro en w_158 ⟨⟨ra7, rn7, rc7, ea7, en7, ec7, ca7, cn7, cc7⟩, rfl, ho7, hx_159⟩
  dsimp only
  have HO7 := Lib.hid ho7.at_
  have HL7 := Lib.hid (And.intro ho7.rlen (And.intro ho7.evs.len ho7.clen))
  dsimp only at HL7
  clear ho7
  have HX_160 := Lib.hid (HX_148.out.trans hx_159)
  have HB_161 := Lib.hid (HB_149.out.ext hx_159)
  have HB_162 := Lib.hid (HB_150.out.ext hx_159)
  have HB_163 := Lib.hid (HB_151.out.ext hx_159)
  have HB_164 := Lib.hid (HB_152.out.ext hx_159)
  have HB_165 := Lib.hid (HB_153.out.ext hx_159)
  have HF_166 := Lib.hid (HF_154.out.ext hx_159)
  have HF_167 := Lib.hid (HF_155.out.ext hx_159)
  clear hx_159 HX_148 HB_149 HB_150 HB_151 HB_152 HB_153 HF_154 HF_155
  have HB_168 := Lib.hid (Blk.new w_158 27 #[.string DR.title, .string DR.lang, .int .u8 DR.rate, .bool DR.drop, .int .i64 DR.last, .slice ra7 rn7 rc7, .slice ea7 en7 ec7, .slice ca7 cn7 cc7])
  have ha_169 := (Ext.refl w_158).alloc (.cells #[.string DR.title, .string DR.lang, .int .u8 DR.rate, .bool DR.drop, .int .i64 DR.last, .slice ra7 rn7 rc7, .slice ea7 en7 ec7, .slice ca7 cn7 cc7] 27)
  have HX_170 := Lib.hid (HX_160.out.trans ha_169)
  have HB_171 := Lib.hid (HB_161.out.ext ha_169)
  have HB_172 := Lib.hid (HB_162.out.ext ha_169)
  have HB_173 := Lib.hid (HB_163.out.ext ha_169)
  have HB_174 := Lib.hid (HB_164.out.ext ha_169)
  have HB_175 := Lib.hid (HB_165.out.ext ha_169)
  have HF_176 := Lib.hid (HF_166.out.ext ha_169)
  have HF_177 := Lib.hid (HF_167.out.ext ha_169)
  have HF_178 := Lib.hid (HO7.out.ext ha_169)
  clear ha_169 HX_160 HB_161 HB_162 HB_163 HB_164 HB_165 HF_166 HF_167 HO7
  go_upto_region 19 with fail
  obtain ⟨W_179, hW_179⟩ : ∃ W_179, W_179 = (w_158.alloc (.cells #[.string DR.title, .string DR.lang, .int .u8 DR.rate, .bool DR.drop, .int .i64 DR.last, .slice ra7 rn7 rc7, .slice ea7 en7 ec7, .slice ca7 cn7 cc7] 27)) := ⟨_, rfl⟩
  rw [← hW_179] at HX_170 HB_171 HB_172 HB_173 HB_174 HB_175 HB_168 HF_176 HF_177 HF_178 ⊢
  clear hW_179
  clear HRm
  have HFc := Lib.hid (CFind_any DR ⟨ra7, rn7, rc7, ea7, en7, ec7, ca7, cn7, cc7⟩ I W_179 HF_178.out.coms (by have := HL7.out; dsimp only; omega))
  rw [r2] at HFc
  unfold Doc.cells at HFc
  dsimp only at HFc
  go_wp2_with (refine wpList_loadB rfl 27 (.tmp 19) rfl (w_158.heap.size) 27 _ _ (by exact rfl) (by exact HB_168.out) Tryz.underlying27 rfl (by exact size_docI) ?_)
  refine HFc.out.mono ?_
  rintro en w_180 ⟨rfl, hx_181⟩
  clear HFc
  have HX_182 := Lib.hid (HX_170.out.trans hx_181)
  have HB_183 := Lib.hid (HB_171.out.ext hx_181)
  have HB_184 := Lib.hid (HB_172.out.ext hx_181)
  have HB_185 := Lib.hid (HB_173.out.ext hx_181)
  have HB_186 := Lib.hid (HB_174.out.ext hx_181)
  have HB_187 := Lib.hid (HB_175.out.ext hx_181)
  have HB_188 := Lib.hid (HB_168.out.ext hx_181)
  have HF_189 := Lib.hid (HF_176.out.ext hx_181)
  have HF_190 := Lib.hid (HF_177.out.ext hx_181)
  have HF_191 := Lib.hid (HF_178.out.ext hx_181)
  clear hx_181 HX_170 HB_171 HB_172 HB_173 HB_174 HB_175 HB_168 HF_176 HF_177 HF_178
  go_upto_region 20 with fail
  have hlC := HL7.out.2.2
  obtain ⟨b7, o7, x7, hA7, hx7, q0, q1, q2, q3, q4, q5, q6, q7⟩ := (HF_191.out.coms).at8 (i := N) (show N < cn7 by have := (List.getElem?_eq_some_iff.1 r3).1; omega)
  rw [r3] at hx7
  obtain rfl := Option.some.inj hx7
  dsimp only at hA7
  subst hA7
  rw [r4] at q7
  have HQ7 := Lib.hid q7
  have hN7 : N < cn7 := by have := (List.getElem?_eq_some_iff.1 r3).1; omega
  have HOp1 := Lib.hid (fun w' (hx : Ext w_180 w') => COpen_any DR ⟨ra7, rn7, rc7, ea7, en7, ec7, some ⟨b7, o7, none⟩, cn7, cc7⟩ w' (HEn.out.ext (HX_182.out.trans hx)) (HF_191.out.ext hx) r6 (by have := HL7.out; dsimp only; omega) (by have := HL7.out; dsimp only; omega) (by have := HL7.out; dsimp only; omega))
  have HOp2 := Lib.hid (fun w' (hx : Ext w_180 w') => COpen_any D ⟨ra5, rn5, rc5, some ⟨b9, o9, none⟩, en5, ec5, ca5, cn5, cc5⟩ w' (HEn.out.ext (HX_182.out.trans hx)) (HF_189.out.ext hx) HS.out.fit (by have := HL5.out; dsimp only; omega) (by have := HL5.out; dsimp only; omega) (by have := HL5.out; dsimp only; omega))
  unfold OpnPost Doc.cells at HOp1 HOp2
  dsimp only at HOp1 HOp2
  have hbO : D.opn.length ≤ 1000000 := by
    have h1 := opn_le D
    have h2 := (doc_ok HS.out.ok).2.2.2.2.1
    omega
  generalize DR.opn.length = L1 at *
  generalize D.opn.length = L2 at *
  obtain ⟨M, hM⟩ : ∃ M : Nat, L2 = M + 1 := ⟨L2 - 1, by omega⟩
  subst hM
  have hwM : IntKind.i64.wrap (M : Int) = (M : Int) := by rw [IntKind.wrap_i64]; omega
  have hle : (L1 : Int) ≤ (M : Int) := Int.ofNat_le.2 (Nat.le_of_succ_le_succ r5)
  have hN0 : (0 : Int) ≤ (N : Int) := by omega
  clear q0 q1 q2 q3 q4 q5 q6 q7 r2 r3 r4 r5 hx7 hlC
  have hST : QSt [(fun (u : Value) (_ : World) => ∃ A c, u = .slice A L1 c), (fun (u : Value) (_ : World) => ∃ A c, u = .slice A (M + 1) c), (fun (u : Value) (_ : World) => u = .bool true)] := by
    intro p hp u w w' hx h
    simp only [List.mem_cons, List.not_mem_nil, or_false] at hp
    rcases hp with rfl | rfl | rfl <;> exact h
  refine wp_region_linksG [(2, true), (6, true), (14, true)] [some 136, some 137, some 138, some 139, some 140, some 141, some 142, some 143, some 144, some 145, some 146, some 147, some 148, some 149, some 150, some 151, some 152, some 153, some 154, some 155, some 156, some 157, some 158, some 159, some 6] [[], [0], [1], [2], [3, 2], [2, 4], [5, 2], [6], [7, 6], [6], [8, 9, 6], [10, 6], [11, 6], [6, 12], [13, 6], [14], [15, 14, 14], [16, 14], [14], [18, 16, 14], [19, 14], [20, 14], [17, 21, 14], [14, 22], [23, 19, 0, 1, 2, 3, 4, 5, 6, 7, 8, 9, 10, 11, 12, 13, 14, 15, 16, 17, 18, 19, 20, 21, 22, 23]] [16, 19, 24] [.int .i64 0, .bool true, .bool true, .int .i64 N, .bool true, .bool true, .bool true, .pointer (some ⟨w_158.heap.size, 7, none⟩), .slice (some ⟨b7, o7, none⟩) cn7 cc7, .int .i64 N, .pointer (some ⟨b7, o7 + N * 8, none⟩), .pointer (some ⟨b7, o7 + N * 8 + 7, none⟩), .bool true, .bool true, .bool true, .agg #[.string DR.title, .string DR.lang, .int .u8 DR.rate, .bool DR.drop, .int .i64 DR.last, .slice ra7 rn7 rc7, .slice ea7 en7 ec7, .slice (some ⟨b7, o7, none⟩) cn7 cc7], undef, .int .i64 L1, .agg #[.string D.title, .string D.lang, .int .u8 D.rate, .bool D.drop, .int .i64 D.last, .slice ra5 rn5 rc5, .slice (some ⟨b9, o9, none⟩) en5 ec5, .slice ca5 cn5 cc5], undef, .int .i64 ((M : Int) + 1), .int .i64 M, .bool true, .bool true, undef] (QJ [(fun (u : Value) (_ : World) => ∃ A c, u = .slice A L1 c), (fun (u : Value) (_ : World) => ∃ A c, u = .slice A (M + 1) c), (fun (u : Value) (_ : World) => u = .bool true)] w_180) (by intro g hg; simp only [List.mem_cons, List.not_mem_nil, or_false] at hg; rcases hg with rfl | rfl | rfl <;> rfl) (by kernel_rfl) (by kernel_rfl) (by kernel_rfl) (by kernel_rfl) (by kernel_rfl) (by kernel_rfl) (by kernel_rfl) (by decide) ?_ ?_ ?_ ?_
  · exact QJ.start _ w_180
  · intro i o ho hc a w' us K' hJ hF hlim hk
    match i, ho with
    | 0, ho =>
      simp only [List.getElem?_toArray, List.getElem?_cons_zero, List.getElem?_cons_succ, Option.some.injEq] at ho
      subst ho
      have e20 := hF.old 20 (.int .i64 0) rfl rfl
      simp only [Act.eval] at e20
      clear hF hlim hJ
      go_simp
      exact hk
    | 1, ho =>
      simp only [List.getElem?_toArray, List.getElem?_cons_zero, List.getElem?_cons_succ, Option.some.injEq] at ho
      subst ho
      have e136 := hF.pure 0 136 (.int .i64 0) rfl rfl rfl rfl
      simp only [Act.eval] at e136
      clear hF hlim hJ
      go_simp
      exact hk
    | 2, ho =>
      simp only [List.getElem?_toArray, List.getElem?_cons_zero, List.getElem?_cons_succ, Option.some.injEq] at ho
      subst ho
      have e137 := hF.pure 1 137 (.bool true) rfl rfl rfl rfl
      simp only [Act.eval] at e137
      clear hF hlim hJ
      go_simp
      exact hk
    | 3, ho =>
      simp only [List.getElem?_toArray, List.getElem?_cons_zero, List.getElem?_cons_succ, Option.some.injEq] at ho
      subst ho
      have e21 := hF.old 21 (.int .i64 N) rfl rfl
      simp only [Act.eval] at e21
      clear hF hlim hJ
      go_simp
      exact hk
    | 4, ho =>
      simp only [List.getElem?_toArray, List.getElem?_cons_zero, List.getElem?_cons_succ, Option.some.injEq] at ho
      subst ho
      have e139 := hF.pure 3 139 (.int .i64 N) rfl rfl rfl rfl
      simp only [Act.eval] at e139
      clear hF hlim hJ
      go_simp
      exact hk
    | 5, ho =>
      simp only [List.getElem?_toArray, List.getElem?_cons_zero, List.getElem?_cons_succ, Option.some.injEq] at ho
      subst ho
      have e138 := hF.pure 2 138 (.bool true) rfl rfl rfl rfl
      have e140 := hF.pure 4 140 (.bool true) rfl rfl rfl rfl
      simp only [Act.eval] at e138 e140
      clear hF hlim hJ
      go_simp
      exact hk
    | 6, ho =>
      simp only [List.getElem?_toArray, List.getElem?_cons_zero, List.getElem?_cons_succ, Option.some.injEq] at ho
      subst ho
      have e141 := hF.pure 5 141 (.bool true) rfl rfl rfl rfl
      simp only [Act.eval] at e141
      clear hF hlim hJ
      go_simp
      exact hk
    | 7, ho =>
      simp only [List.getElem?_toArray, List.getElem?_cons_zero, List.getElem?_cons_succ, Option.some.injEq] at ho
      subst ho
      have e19 := hF.old 19 (.pointer (some ⟨w_158.heap.size, 0, none⟩)) rfl rfl
      simp only [Act.eval] at e19
      clear hF hlim hJ
      go_simp
      exact hk
    | 8, ho =>
      simp only [List.getElem?_toArray, List.getElem?_cons_zero, List.getElem?_cons_succ, Option.some.injEq] at ho
      subst ho
      have e143 := hF.pure 7 143 (.pointer (some ⟨w_158.heap.size, 7, none⟩)) rfl rfl rfl rfl
      have hcl : w'.cell? ⟨w_158.heap.size, 7, none⟩ = some (.slice (some ⟨b7, o7, none⟩) cn7 cc7) := (HB_188.out.ext hJ.ext).cell 7
      simp only [Act.eval] at e143
      clear hF hlim hJ
      go_simp
      exact hk
    | 9, ho =>
      simp only [List.getElem?_toArray, List.getElem?_cons_zero, List.getElem?_cons_succ, Option.some.injEq] at ho
      subst ho
      have e21 := hF.old 21 (.int .i64 N) rfl rfl
      simp only [Act.eval] at e21
      clear hF hlim hJ
      go_simp
      exact hk
    | 10, ho =>
      simp only [List.getElem?_toArray, List.getElem?_cons_zero, List.getElem?_cons_succ, Option.some.injEq] at ho
      subst ho
      have e144 := hF.pure 8 144 (.slice (some ⟨b7, o7, none⟩) cn7 cc7) rfl rfl rfl rfl
      have e145 := hF.pure 9 145 (.int .i64 N) rfl rfl rfl rfl
      exact wp_ix_com rfl e144 e145 hN7 hk
    | 11, ho =>
      simp only [List.getElem?_toArray, List.getElem?_cons_zero, List.getElem?_cons_succ, Option.some.injEq] at ho
      subst ho
      have e146 := hF.pure 10 146 (.pointer (some ⟨b7, o7 + N * 8, none⟩)) rfl rfl rfl rfl
      simp only [Act.eval] at e146
      clear hF hlim hJ
      go_simp
      exact hk
    | 12, ho =>
      simp only [List.getElem?_toArray, List.getElem?_cons_zero, List.getElem?_cons_succ, Option.some.injEq] at ho
      subst ho
      have e147 := hF.pure 11 147 (.pointer (some ⟨b7, o7 + N * 8 + 7, none⟩)) rfl rfl rfl rfl
      have hcl : w'.cell? ⟨b7, o7 + N * 8 + 7, none⟩ = some (.bool true) := hJ.ext.cell HQ7.out
      simp only [Act.eval] at e147
      clear hF hlim hJ
      go_simp
      exact hk
    | 13, ho =>
      simp only [List.getElem?_toArray, List.getElem?_cons_zero, List.getElem?_cons_succ, Option.some.injEq] at ho
      subst ho
      have e142 := hF.pure 6 142 (.bool true) rfl rfl rfl rfl
      have e148 := hF.pure 12 148 (.bool true) rfl rfl rfl rfl
      simp only [Act.eval] at e148 e142
      clear hF hlim hJ
      go_simp
      exact hk
    | 14, ho =>
      simp only [List.getElem?_toArray, List.getElem?_cons_zero, List.getElem?_cons_succ, Option.some.injEq] at ho
      subst ho
      have e149 := hF.pure 13 149 (.bool true) rfl rfl rfl rfl
      simp only [Act.eval] at e149
      clear hF hlim hJ
      go_simp
      exact hk
    | 15, ho =>
      simp only [List.getElem?_toArray, List.getElem?_cons_zero, List.getElem?_cons_succ, Option.some.injEq] at ho
      subst ho
      have e19 := hF.old 19 (.pointer (some ⟨w_158.heap.size, 0, none⟩)) rfl rfl
      exact wp_loadBk 27 (.tmp 19) rfl _ 27 _ _ e19 (HB_188.out.ext hJ.ext) Tryz.underlying27 rfl (by exact size_docI) hk
    | 16, ho => simp at hc
    | 17, ho =>
      simp only [List.getElem?_toArray, List.getElem?_cons_zero, List.getElem?_cons_succ, Option.some.injEq] at ho
      subst ho
      obtain ⟨v152, hv152⟩ := getElem_ltq (hF.did 0 16 rfl rfl)
      have e152 := hF.link 0 16 152 _ rfl rfl rfl hv152
      obtain ⟨A9, c9, hu9⟩ : (fun (u : Value) (_ : World) => ∃ A c, u = .slice A L1 c) v152 w' := hJ.val 0 v152 _ hv152 rfl
      rw [hu9] at e152
      simp only [Act.eval] at e152
      clear hF hlim hJ
      go_simp
      exact hk
    | 18, ho =>
      simp only [List.getElem?_toArray, List.getElem?_cons_zero, List.getElem?_cons_succ, Option.some.injEq] at ho
      subst ho
      have e7 := hF.old 7 (.pointer (some ⟨w_25.heap.size, 0, none⟩)) rfl rfl
      exact wp_loadBk 27 (.tmp 7) rfl _ 27 _ _ e7 (HB_185.out.ext hJ.ext) Tryz.underlying27 rfl (by exact size_docI) hk
    | 19, ho => simp at hc
    | 20, ho =>
      simp only [List.getElem?_toArray, List.getElem?_cons_zero, List.getElem?_cons_succ, Option.some.injEq] at ho
      subst ho
      obtain ⟨v155, hv155⟩ := getElem_ltq (hF.did 1 19 rfl rfl)
      have e155 := hF.link 1 19 155 _ rfl rfl rfl hv155
      obtain ⟨A9, c9, hu9⟩ : (fun (u : Value) (_ : World) => ∃ A c, u = .slice A (M + 1) c) v155 w' := hJ.val 1 v155 _ hv155 rfl
      rw [hu9] at e155
      simp only [Act.eval] at e155
      clear hF hlim hJ
      go_simp
      exact hk
    | 21, ho =>
      simp only [List.getElem?_toArray, List.getElem?_cons_zero, List.getElem?_cons_succ, Option.some.injEq] at ho
      subst ho
      have e156 := hF.pure 20 156 (.int .i64 ((M : Int) + 1)) rfl rfl rfl rfl
      simp only [Act.eval] at e156
      clear hF hlim hJ
      go_simp
      exact hk
    | 22, ho =>
      simp only [List.getElem?_toArray, List.getElem?_cons_zero, List.getElem?_cons_succ, Option.some.injEq] at ho
      subst ho
      have e153 := hF.pure 17 153 (.int .i64 L1) rfl rfl rfl rfl
      have e157 := hF.pure 21 157 (.int .i64 M) rfl rfl rfl rfl
      simp only [Act.eval] at e153 e157
      clear hF hlim hJ
      go_simp
      exact hk
    | 23, ho =>
      simp only [List.getElem?_toArray, List.getElem?_cons_zero, List.getElem?_cons_succ, Option.some.injEq] at ho
      subst ho
      have e150 := hF.pure 14 150 (.bool true) rfl rfl rfl rfl
      have e158 := hF.pure 22 158 (.bool true) rfl rfl rfl rfl
      simp only [Act.eval] at e158 e150
      clear hF hlim hJ
      go_simp
      exact hk
    | 24, ho => simp at hc
    | i + 25, ho => simp at ho
  · intro p c' o hp ho a w' us K' hl hJ hF hk
    match p, hp with
    | 0, hp =>
      obtain rfl : 16 = c' := by simpa using hp
      simp only [List.getElem?_toArray, List.getElem?_cons_zero, List.getElem?_cons_succ, Option.some.injEq] at ho
      subst ho
      obtain rfl : us = [] := List.eq_nil_of_length_eq_zero hl
      have e151 := hF.pure 15 151 (.agg #[.string DR.title, .string DR.lang, .int .u8 DR.rate, .bool DR.drop, .int .i64 DR.last, .slice ra7 rn7 rc7, .slice ea7 en7 ec7, .slice (some ⟨b7, o7, none⟩) cn7 cc7]) rfl rfl rfl rfl
      refine wp_call1 rfl e151 Tryz.call53 (HOp1.out w' hJ.ext) ?_
      rintro en w2 ⟨A9, c9, rfl, -, -, hx9⟩
      exact ⟨_, rfl, hk _ w2 (hJ.push hST hx9 (fun p hp => by cases hp; exact ⟨A9, c9, rfl⟩))⟩
    | 1, hp =>
      obtain rfl : 19 = c' := by simpa using hp
      simp only [List.getElem?_toArray, List.getElem?_cons_zero, List.getElem?_cons_succ, Option.some.injEq] at ho
      subst ho
      obtain ⟨u0, rfl⟩ := list_1 hl
      have e154 := hF.pure 18 154 (.agg #[.string D.title, .string D.lang, .int .u8 D.rate, .bool D.drop, .int .i64 D.last, .slice ra5 rn5 rc5, .slice (some ⟨b9, o9, none⟩) en5 ec5, .slice ca5 cn5 cc5]) rfl rfl rfl rfl
      refine wp_call1 rfl e154 Tryz.call53 (HOp2.out w' hJ.ext) ?_
      rintro en w2 ⟨A9, c9, rfl, -, -, hx9⟩
      exact ⟨_, rfl, hk _ w2 (hJ.push hST hx9 (fun p hp => by cases hp; exact ⟨A9, c9, rfl⟩))⟩
    | 2, hp =>
      obtain rfl : 24 = c' := by simpa using hp
      simp only [List.getElem?_toArray, List.getElem?_cons_zero, List.getElem?_cons_succ, Option.some.injEq] at ho
      subst ho
      obtain ⟨u0, u1, rfl⟩ := list_2 hl
      have e159 := hF.pure 23 159 (.bool true) rfl rfl rfl rfl
      exact wp_assignx _ _ rfl e159 (hk _ _ (hJ.push hST (Ext.refl _) (fun p hp => by cases hp; rfl)))
    | p + 3, hp => simp at hp
  intro us w20 hl hJ
  obtain ⟨u0, u1, u2, rfl⟩ := list_3 hl
  try simp only [Exit.inBlock, Exit.then]
  generalize hL : frameL _ _ _ _ = L
  obtain rfl : L = [(136, .int .i64 0), (137, .bool true), (138, .bool true), (139, .int .i64 N), (140, .bool true), (141, .bool true), (142, .bool true), (143, .pointer (some ⟨w_158.heap.size, 7, none⟩)), (144, .slice (some ⟨b7, o7, none⟩) cn7 cc7), (145, .int .i64 N), (146, .pointer (some ⟨b7, o7 + N * 8, none⟩)), (147, .pointer (some ⟨b7, o7 + N * 8 + 7, none⟩)), (148, .bool true), (149, .bool true), (150, .bool true), (151, .agg #[.string DR.title, .string DR.lang, .int .u8 DR.rate, .bool DR.drop, .int .i64 DR.last, .slice ra7 rn7 rc7, .slice ea7 en7 ec7, .slice (some ⟨b7, o7, none⟩) cn7 cc7]), (152, u0), (153, .int .i64 L1), (154, .agg #[.string D.title, .string D.lang, .int .u8 D.rate, .bool D.drop, .int .i64 D.last, .slice ra5 rn5 rc5, .slice (some ⟨b9, o9, none⟩) en5 ec5, .slice ca5 cn5 cc5]), (155, u1), (156, .int .i64 ((M : Int) + 1)), (157, .int .i64 M), (158, .bool true), (159, .bool true), (6, u2)] := hL.symm.trans (by kernel_rfl)
  clear hL hl
  simp only [Act.put, List.foldl_cons, List.foldl_nil, List.setIfInBounds_toArray, List.set_cons_zero, List.set_cons_succ]
  have hu2 : u2 = .bool true := hJ.val 2 u2 _ rfl rfl
  subst hu2
  have hxJ := hJ.ext
  clear hJ hST HOp1 HOp2
  have HX_192 := Lib.hid (HX_182.out.trans hxJ)
  have HB_193 := Lib.hid (HB_183.out.ext hxJ)
  have HB_194 := Lib.hid (HB_184.out.ext hxJ)
  have HB_195 := Lib.hid (HB_185.out.ext hxJ)
  have HB_196 := Lib.hid (HB_186.out.ext hxJ)
  have HB_197 := Lib.hid (HB_187.out.ext hxJ)
  have HB_198 := Lib.hid (HB_188.out.ext hxJ)
  have HF_199 := Lib.hid (HF_189.out.ext hxJ)
  have HF_200 := Lib.hid (HF_190.out.ext hxJ)
  have HF_201 := Lib.hid (HF_191.out.ext hxJ)
  clear hxJ HX_182 HB_183 HB_184 HB_185 HB_186 HB_187 HB_188 HF_189 HF_190 HF_191
  go_wp2_with fail
  go_ret
  exact ⟨rfl, HX_192.out⟩
end Go.Proofs.YtagfedbdakmlgaaGreatDoor
