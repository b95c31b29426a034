/- The walk of the law EventKeeps. -/
import Derived.Test.YtcgflkmkdpgchaaDoorAwake
import Derived.Test.YtcgflkmkdpgchaaDoorKeepA
namespace Go.Proofs.YtcgflkmkdpgchaaDoor
set_option linter.unusedVariables false
set_option linter.unusedSimpArgs false
open Go.RowKit

set_option maxRecDepth 100000 in
set_option maxHeartbeats 2000000 in
theorem EventKeeps_any (x y : Ev) (A : Option Addr) (n c : Nat) (B : Option Addr) (m d : Nat) (frame row id : Int) (w : World) (hE : Env w) (hex : EvAt w x A n c) (hey : EvAt w y B m d) :
    Calls Tryd.prog 5 #[.agg (x.cells A n c), .agg (y.cells B m d), .agg #[.int .i64 frame, .int .i64 row, .int .i64 id]] w fun en w' => en = .returned (.bool true) ∧ Ext w w' := by
  have HX0 := Lib.hid ((((Ext.refl w).alloc (.cells (x.cells A n c) 27)).alloc (.cells (y.cells B m d) 27)).alloc (.cells #[.int .i64 frame, .int .i64 row, .int .i64 id] 29))
  have HB0 := Lib.hid (((Blk.new w 27 (x.cells A n c)).alloc (.cells (y.cells B m d) 27)).alloc (.cells #[.int .i64 frame, .int .i64 row, .int .i64 id] 29))
  have HC0 := Lib.hid ((Blk.new' (w := w.alloc (.cells (x.cells A n c) 27)) (g := w.heap.size + 1) (t := 27) (cs := y.cells B m d) (by simp)).alloc (.cells #[.int .i64 frame, .int .i64 row, .int .i64 id] 29))
  have HD0 := Lib.hid (Blk.new' (w := (w.alloc (.cells (x.cells A n c) 27)).alloc (.cells (y.cells B m d) 27)) (g := w.heap.size + 1 + 1) (t := 29) (cs := #[.int .i64 frame, .int .i64 row, .int .i64 id]) (by simp))
  have HEn := Lib.hid (hE.ext HX0.out)
  have HEx := Lib.hid hex
  have HEy := Lib.hid hey
  have hnx := hex.2.2
  have hny := hey.2.2
  have hlx := hex.len
  clear hE hex hey
  go_enter Tryd.func5, Tryd.ntmps5
  go_wp2_with fail
  refine (awake_any _ HEn.out).mono ?_
  rintro en w2 ⟨rfl, hx2⟩
  have HX2 := Lib.hid (HX0.out.trans hx2)
  have HB2 := Lib.hid (HB0.out.ext hx2)
  have HC2 := Lib.hid (HC0.out.ext hx2)
  have HD2 := Lib.hid (HD0.out.ext hx2)
  have HEx2 := Lib.hid (HEx.out.ext HX2.out)
  have HEy2 := Lib.hid (HEy.out.ext HX2.out)
  clear hx2 HX0 HB0 HC0 HD0 HEn
  go_wp2_with fail
  refine wp_region_allocs [some 20, some 21, some 22, some 23, some 7, some 8, none, none] [[], [0], [], [2, 1], [], [], [4, 1, 3, 0, 1, 4, 5], [5, 3, 6, 0, 1, 2, 3, 4, 5, 6]] [1, 3, 6, 7] [4, 5] [.agg (x.cells A n c), undef, .agg (y.cells B m d), undef, undef, undef, undef, undef] (fun _ => .cells evZero 27) (KeepJ x y n m w2) (by kernel_rfl) (by kernel_rfl) (by kernel_rfl) (by kernel_rfl) (by kernel_rfl) (by kernel_rfl) (by kernel_rfl) (by decide) (by kernel_rfl) ?_ ?_ ?_ ?_ ?_ ?_
  · exact keepJ_start w2
  · intro i o ho ha a w' K' hk
    match i, ho with
    | 0, ho => simp at ha
    | 1, ho => simp at ha
    | 2, ho => simp at ha
    | 3, ho => simp at ha
    | 4, ho =>
      simp only [List.getElem?_toArray, List.getElem?_cons_zero, List.getElem?_cons_succ, Option.some.injEq] at ho
      subst ho
      exact wp_alloc_ev rfl hk
    | 5, ho =>
      simp only [List.getElem?_toArray, List.getElem?_cons_zero, List.getElem?_cons_succ, Option.some.injEq] at ho
      subst ho
      exact wp_alloc_ev rfl hk
    | 6, ho => simp at ha
    | 7, ho => simp at ha
    | i + 8, ho => simp at ho
  · intro i ha us gs w' hJ hn hlim
    match i, ha with
    | 0, ha => simp at ha
    | 1, ha => simp at ha
    | 2, ha => simp at ha
    | 3, ha => simp at ha
    | 4, ha => exact keepJ_alloc4 hJ (hlim 2 6 rfl rfl)
    | 5, ha => exact keepJ_alloc5 hJ (hlim 3 7 rfl rfl)
    | 6, ha => simp at ha
    | 7, ha => simp at ha
    | i + 8, ha => simp at ha
  · intro i o ho hc ha a w' us gs K' hJ hF hlim hk
    match i, ho with
    | 0, ho =>
      simp only [List.getElem?_toArray, List.getElem?_cons_zero, List.getElem?_cons_succ, Option.some.injEq] at ho
      subst ho
      have e3 := hF.old 3 (.pointer (some ⟨w.heap.size, 0, none⟩)) rfl rfl
      exact wp_loadBk 27 (.tmp 3) rfl _ 27 _ _ e3 (HB2.out.ext hJ.ext) Tryd.underlying27 rfl (by exact size_event) hk
    | 1, ho => simp at hc
    | 2, ho =>
      simp only [List.getElem?_toArray, List.getElem?_cons_zero, List.getElem?_cons_succ, Option.some.injEq] at ho
      subst ho
      have e4 := hF.old 4 (.pointer (some ⟨w.heap.size + 1, 0, none⟩)) rfl rfl
      exact wp_loadBk 27 (.tmp 4) rfl _ 27 _ _ e4 (HC2.out.ext hJ.ext) Tryd.underlying27 rfl (by exact size_event) hk
    | 3, ho => simp at hc
    | 4, ho => simp at ha
    | 5, ho => simp at ha
    | 6, ho => simp at hc
    | 7, ho => simp at hc
    | i + 8, ho => simp at ho
  · intro p c' o hp ho a w' us gs K' hl hJ hF hk
    match p, hp with
    | 0, hp =>
      obtain rfl : 1 = c' := by simpa using hp
      simp only [List.getElem?_toArray, List.getElem?_cons_zero, List.getElem?_cons_succ, Option.some.injEq] at ho
      subst ho
      obtain rfl : us = [] := List.eq_nil_of_length_eq_zero hl
      have e20 := hF.pure 0 20 (.agg (x.cells A n c)) rfl rfl rfl rfl rfl
      refine wp_call1 rfl e20 Tryd.call14 (REClone_any x A n c w' (HEx2.out.ext hJ.ext)) ?_
      rintro en w4 ⟨A1, c1, rfl, hnc, hrf, hx'⟩
      exact ⟨_, rfl, hk _ _ (keepJ_call0 hJ hx' hnc hrf)⟩
    | 1, hp =>
      obtain rfl : 3 = c' := by simpa using hp
      simp only [List.getElem?_toArray, List.getElem?_cons_zero, List.getElem?_cons_succ, Option.some.injEq] at ho
      subst ho
      obtain ⟨u0, rfl⟩ := list_1 hl
      have e22 := hF.pure 2 22 (.agg (y.cells B m d)) rfl rfl rfl rfl rfl
      refine wp_call1 rfl e22 Tryd.call14 (REClone_any y B m d w' (HEy2.out.ext hJ.ext)) ?_
      rintro en w4 ⟨A1, c1, rfl, hnc, hrf, hx'⟩
      exact ⟨_, rfl, hk _ _ (keepJ_call1 hJ hx' hnc hrf)⟩
    | 2, hp =>
      obtain rfl : 6 = c' := by simpa using hp
      simp only [List.getElem?_toArray, List.getElem?_cons_zero, List.getElem?_cons_succ, Option.some.injEq] at ho
      subst ho
      obtain ⟨u0, u1, rfl⟩ := list_2 hl
      obtain ⟨A1, c1, rfl, hc1, hr1⟩ := hJ.one _ rfl
      obtain ⟨g7, hg7, e7⟩ := hF.ptr 4 7 rfl rfl rfl rfl
      have e21 := hF.link 0 1 21 _ rfl rfl rfl rfl
      obtain ⟨hga, cs, hcs, hB, _⟩ := hJ.va g7 hg7
      exact wp_storeB 27 (.tmp 7) (.tmp 21) rfl g7 27 _ _ e7 e21 (by exact size_event) (by simp [Ev.cells, Value.oneCell']) hB hcs (hk undef _ (keepJ_store2 hJ hg7 hB))
    | 3, hp =>
      obtain rfl : 7 = c' := by simpa using hp
      simp only [List.getElem?_toArray, List.getElem?_cons_zero, List.getElem?_cons_succ, Option.some.injEq] at ho
      subst ho
      obtain ⟨u0, u1, u2, rfl⟩ := list_3 hl
      obtain ⟨A1, c1, rfl, hc1, hr1⟩ := hJ.one _ rfl
      obtain ⟨A2, c2, rfl, hc2, hr2⟩ := hJ.two _ rfl
      obtain ⟨g8, hg8, e8⟩ := hF.ptr 5 8 rfl rfl rfl rfl
      have e23 := hF.link 1 3 23 _ rfl rfl rfl rfl
      obtain ⟨hgb, cs, hcs, hB, _⟩ := hJ.vb g8 hg8
      exact wp_storeB 27 (.tmp 8) (.tmp 23) rfl g8 27 _ _ e8 e23 (by exact size_event) (by simp [Ev.cells, Value.oneCell']) hB hcs (hk undef _ (keepJ_store3 hJ hg8 hB))
    | p + 4, hp => simp at hp
  intro us gs w3 hl hgs hJ
  rename_i hK
  obtain ⟨u0, u1, u2, u3, rfl⟩ := list_4 hl
  obtain ⟨A1, c1, rfl, hc1, hr1⟩ := hJ.one _ rfl
  obtain ⟨A2, c2, rfl, hc2, hr2⟩ := hJ.two _ rfl
  obtain ⟨ga, hga⟩ := Option.isSome_iff_exists.1 (hgs 4 rfl)
  obtain ⟨gb, hgb⟩ := Option.isSome_iff_exists.1 (hgs 5 rfl)
  obtain ⟨_, cs, _, hBa, hcs⟩ := hJ.va ga hga
  obtain ⟨_, cs', _, hBb, hcs'⟩ := hJ.vb gb hgb
  have hcs2 := hcs (by simp)
  have hcs2' := hcs' (by simp)
  obtain rfl : x.cells A1 n c1 = cs := by simpa using hcs2
  obtain rfl : y.cells A2 m c2 = cs' := by simpa using hcs2'
  refine hK _ _ ?_
  clear hK hcs hcs' hcs2 hcs2'
  generalize hL : frameA _ _ _ _ _ _ = L
  obtain rfl : L = [(20, .agg (x.cells A n c)), (21, .agg (x.cells A1 n c1)), (22, .agg (y.cells B m d)), (23, .agg (y.cells A2 m c2)), (7, .pointer ((gs 4).map fun g => ⟨g, 0, none⟩)), (8, .pointer ((gs 5).map fun g => ⟨g, 0, none⟩))] := hL.symm.trans (by kernel_rfl)
  rw [hga, hgb]
  clear hL hl
  simp only [Act.put, Option.map_some, List.foldl_cons, List.foldl_nil, List.setIfInBounds_toArray, List.set_cons_zero, List.set_cons_succ]
  have HX3 := Lib.hid (HX2.out.trans hJ.ext)
  have HB3 := Lib.hid (HB2.out.ext hJ.ext)
  have HC3 := Lib.hid (HC2.out.ext hJ.ext)
  have HD3 := Lib.hid (HD2.out.ext hJ.ext)
  have HEx3 := Lib.hid (HEx2.out.ext hJ.ext)
  have HEy3 := Lib.hid (HEy2.out.ext hJ.ext)
  have HBa := Lib.hid hBa
  have HBb := Lib.hid hBb
  have HEw := Lib.hid (show EvAt w3 x A1 n c1 from ⟨hr1.rows, hc1, hnx⟩)
  have HEt := Lib.hid (show EvAt w3 y A2 m c2 from ⟨hr2.rows, hc2, hny⟩)
  clear hJ hBa hBb hr1 hr2 hgs hga hgb HX2 HB2 HC2 HD2 HEx2 HEy2
  have hcc := fun o => HD3.out.cell o
  go_wp2_with (refine wpList_loadB rfl 27 (.tmp 3) rfl w.heap.size 27 _ _ (by exact rfl) (by exact HB3.out) Tryd.underlying27 rfl (by exact size_event) ?_)
  refine (Split_any x A n c frame row id w3 HEx3.out).mono ?_
  rintro en w4 ⟨Aa, na, ca, Ab, nb, cb, rfl, hca, hcb, hna, hnb, hfa, hfb, hx4⟩
  have HX4 := Lib.hid hx4
  have HB4 := Lib.hid (HB3.out.ext hx4)
  have HC4 := Lib.hid (HC3.out.ext hx4)
  have HEx4 := Lib.hid (HEx3.out.ext hx4)
  have HEy4 := Lib.hid (HEy3.out.ext hx4)
  have HFa := Lib.hid hfa
  have HFb := Lib.hid hfb
  have hg1 : w.heap.size + 1 + 1 < w4.heap.size := (HD3.out.ext hx4).lt
  clear hx4 hfa hfb hcc HD3 HEx3 HEy3
  have hz1 := Lib.hid ((Blk.new w4 27 evZero).alloc (.cells evZero 27))
  have hz2 := Lib.hid (Blk.new' (w := w4.alloc (.cells evZero 27)) (g := w4.heap.size + 1) (t := 27) (cs := evZero) (by simp))
  have hxz := Lib.hid (((Ext.refl w4).alloc (.cells evZero 27)).alloc (.cells evZero 27))
  generalize x.splitL frame row id = a0 at *
  generalize x.splitR frame row id = b0 at *
  generalize x.splitErr frame row id = k0 at *
  unfold evZero at hz1 hz2 hxz
  go_upto_region 5 with (first | (refine wpList_storeB rfl 27 (.tmp 9) (.tmp 33) rfl w4.heap.size 27 _ _ (by exact rfl) (by exact rfl) (by exact hz1.out) (by exact rfl) (by exact size_event) (by simp [Ev.cells, Value.oneCell']) ?_) | (refine wpList_storeB rfl 27 (.tmp 10) (.tmp 34) rfl (w4.heap.size + 1) 27 _ _ (by exact rfl) (by exact rfl) (by exact hz2.out.put_other (by omega) _) (by exact rfl) (by exact size_event) (by simp [Ev.cells, Value.oneCell']) ?_))
  change Code.wp Tryd.prog _ _ _ (two ((w4.alloc (.cells evZero 27)).alloc (.cells evZero 27)) w4.heap.size (w4.heap.size + 1) (a0.cells Aa na ca) (b0.cells Ab nb cb))
  have hx5 : Ext w4 (two ((w4.alloc (.cells evZero 27)).alloc (.cells evZero 27)) w4.heap.size (w4.heap.size + 1) (a0.cells Aa na ca) (b0.cells Ab nb cb)) := Ext.two hxz.out (Nat.le_refl _) (by omega)
  have hba : Blk (two ((w4.alloc (.cells evZero 27)).alloc (.cells evZero 27)) w4.heap.size (w4.heap.size + 1) (a0.cells Aa na ca) (b0.cells Ab nb cb)) w4.heap.size 27 (a0.cells Aa na ca) := two_a (by omega) hz1.out.lt _ _
  have hbb : Blk (two ((w4.alloc (.cells evZero 27)).alloc (.cells evZero 27)) w4.heap.size (w4.heap.size + 1) (a0.cells Aa na ca) (b0.cells Ab nb cb)) (w4.heap.size + 1) 27 (b0.cells Ab nb cb) := two_b hz2.out.lt _ _
  generalize two ((w4.alloc (.cells evZero 27)).alloc (.cells evZero 27)) w4.heap.size (w4.heap.size + 1) (a0.cells Aa na ca) (b0.cells Ab nb cb) = w5 at hx5 hba hbb ⊢
  have HX5 := Lib.hid (HX4.out.trans hx5)
  have HB5 := Lib.hid (HB4.out.ext hx5)
  have HC5 := Lib.hid (HC4.out.ext hx5)
  have HEx5 := Lib.hid (HEx4.out.ext hx5)
  have HEy5 := Lib.hid (HEy4.out.ext hx5)
  have HFa5 := Lib.hid (HFa.out.ext hx5)
  have HFb5 := Lib.hid (HFb.out.ext hx5)
  have HBa5 := Lib.hid hba
  have HBb5 := Lib.hid hbb
  clear HX4 HB4 HC4 HEx4 HEy4 HFa HFb hz1 hz2 hxz hx5 hba hbb
  generalize w4.heap.size = gp at *
  go_wp2_with (first | (refine wpList_loadB rfl 27 (.tmp 3) rfl w.heap.size 27 _ _ (by exact rfl) (by exact HB5.out) Tryd.underlying27 rfl (by exact size_event) ?_) | (refine wpList_loadB rfl 27 (.tmp 4) rfl (w.heap.size + 1) 27 _ _ (by exact rfl) (by exact HC5.out) Tryd.underlying27 rfl (by exact size_event) ?_))
  refine (Join_any x y A n c B m d w5 HEx5.out HEy5.out).mono ?_
  rintro en w6 ⟨Aj, nj, cj, rfl, hcj, hnj, hfj, hx6⟩
  generalize x.join y = j0 at *
  generalize x.joinErr y = k1 at *
  have HX6 := Lib.hid (HX5.out.trans hx6)
  have HB6 := Lib.hid (HB5.out.ext hx6)
  have HEx6 := Lib.hid (HEx5.out.ext hx6)
  have HFa6 := Lib.hid (HFa5.out.ext hx6)
  have HFb6 := Lib.hid (HFb5.out.ext hx6)
  have HFj6 := Lib.hid (hfj.le HX5.out.size)
  have HBa6 := Lib.hid (HBa5.out.ext hx6)
  have HBb6 := Lib.hid (HBb5.out.ext hx6)
  have hz := Lib.hid (Blk.new w6 27 evZero)
  have hxz := Lib.hid ((Ext.refl w6).alloc (.cells evZero 27))
  clear hx6 hfj HX5 HB5 HC5 HEx5 HEy5 HFa5 HFb5 HBa5 HBb5
  unfold evZero at hz hxz
  go_upto_region 6 with (refine wpList_storeB rfl 27 (.tmp 12) (.tmp 40) rfl w6.heap.size 27 _ _ (by exact rfl) (by exact rfl) (by exact hz.out) (by exact rfl) (by exact size_event) (by simp [Ev.cells, Value.oneCell']) ?_)
  have hx7 := (hxz.out).put (Nat.le_refl _) 27 (j0.cells Aj nj cj)
  have hbj := hz.out.put (j0.cells Aj nj cj)
  generalize putB (w6.alloc _) w6.heap.size 27 (j0.cells Aj nj cj) = w7 at hx7 hbj ⊢
  have HX7 := Lib.hid (HX6.out.trans hx7)
  have HB7 := Lib.hid (HB6.out.ext hx7)
  have HEx7 := Lib.hid (HEx6.out.ext hx7)
  have HFa7 := Lib.hid (HFa6.out.ext hx7)
  have HFb7 := Lib.hid (HFb6.out.ext hx7)
  have HFj7 := Lib.hid (HFj6.out.ext hx7)
  have HBa7 := Lib.hid (HBa6.out.ext hx7)
  have HBb7 := Lib.hid (HBb6.out.ext hx7)
  have HBj7 := Lib.hid hbj
  clear hx7 hbj hz hxz HX6 HB6 HEx6 HFa6 HFb6 HFj6 HBa6 HBb6
  generalize w6.heap.size = gj at *
  refine wp_region_links [some 42, some 43, some 44, some 45, some 46, some 47, some 48, some 49] [[], [], [], [], [3], [0, 1, 2, 4], [5], []] [4, 5, 6] [.agg (a0.cells Aa na ca), .agg (b0.cells Ab nb cb), .agg (j0.cells Aj nj cj), .agg (x.cells A n c), undef, undef, undef, .int .i64 0] (Keep6 x n w7 (fun A8 c8 => evs4 a0 b0 j0 x Aa na ca Ab nb cb Aj nj cj A8 n c8)) (by kernel_rfl) (by kernel_rfl) (by kernel_rfl) (by kernel_rfl) (by kernel_rfl) (by kernel_rfl) (by kernel_rfl) (by decide) ?_ ?_ ?_ ?_
  · exact ((Ext.refl w7).drew)
  · intro i o ho hc a w' us K' hJ hF hlim hk
    match i, ho with
    | 0, ho =>
      simp only [List.getElem?_toArray, List.getElem?_cons_zero, List.getElem?_cons_succ, Option.some.injEq] at ho
      subst ho
      have e9 := hF.old 9 (.pointer (some ⟨gp, 0, none⟩)) rfl rfl
      exact wp_loadBk 27 (.tmp 9) rfl _ 27 _ _ e9 (HBa7.out.ext (keep6_ext hJ)) Tryd.underlying27 rfl (by exact size_event) hk
    | 1, ho =>
      simp only [List.getElem?_toArray, List.getElem?_cons_zero, List.getElem?_cons_succ, Option.some.injEq] at ho
      subst ho
      have e10 := hF.old 10 (.pointer (some ⟨gp + 1, 0, none⟩)) rfl rfl
      exact wp_loadBk 27 (.tmp 10) rfl _ 27 _ _ e10 (HBb7.out.ext (keep6_ext hJ)) Tryd.underlying27 rfl (by exact size_event) hk
    | 2, ho =>
      simp only [List.getElem?_toArray, List.getElem?_cons_zero, List.getElem?_cons_succ, Option.some.injEq] at ho
      subst ho
      have e12 := hF.old 12 (.pointer (some ⟨gj, 0, none⟩)) rfl rfl
      exact wp_loadBk 27 (.tmp 12) rfl _ 27 _ _ e12 (HBj7.out.ext (keep6_ext hJ)) Tryd.underlying27 rfl (by exact size_event) hk
    | 3, ho =>
      simp only [List.getElem?_toArray, List.getElem?_cons_zero, List.getElem?_cons_succ, Option.some.injEq] at ho
      subst ho
      have e3 := hF.old 3 (.pointer (some ⟨w.heap.size, 0, none⟩)) rfl rfl
      exact wp_loadBk 27 (.tmp 3) rfl _ 27 _ _ e3 (HB7.out.ext (keep6_ext hJ)) Tryd.underlying27 rfl (by exact size_event) hk
    | 4, ho => simp at hc
    | 5, ho => simp at hc
    | 6, ho => simp at hc
    | 7, ho =>
      simp only [List.getElem?_toArray, List.getElem?_cons_zero, List.getElem?_cons_succ, Option.some.injEq] at ho
      subst ho
      clear hF hlim hJ
      go_simp
      exact hk
    | i + 8, ho => simp at ho
  · intro p c' o hp ho a w' us K' hl hJ hF hk
    match p, hp with
    | 0, hp =>
      obtain rfl : 4 = c' := by simpa using hp
      simp only [List.getElem?_toArray, List.getElem?_cons_zero, List.getElem?_cons_succ, Option.some.injEq] at ho
      subst ho
      obtain rfl : us = [] := List.eq_nil_of_length_eq_zero hl
      have e45 := hF.pure 3 45 (.agg (x.cells A n c)) rfl rfl rfl rfl
      have hJ' : Ext w7 w' := hJ
      refine wp_call1 rfl e45 Tryd.call16 (EClone_any x A n c w' (HEx7.out.ext hJ')) ?_
      rintro en w8 ⟨A8, c8, rfl, hnc8, hrf8, hx8⟩
      exact ⟨_, rfl, hk _ _ ⟨A8, c8, rfl, hnc8, hrf8.le hJ'.size, hJ'.trans hx8⟩⟩
    | 1, hp =>
      obtain rfl : 5 = c' := by simpa using hp
      simp only [List.getElem?_toArray, List.getElem?_cons_zero, List.getElem?_cons_succ, Option.some.injEq] at ho
      subst ho
      obtain ⟨u0, rfl⟩ := list_1 hl
      obtain ⟨A8, c8, rfl, hnc8, hrf8, hx8⟩ := hJ
      have e42 := hF.pure 0 42 (.agg (a0.cells Aa na ca)) rfl rfl rfl rfl
      have e43 := hF.pure 1 43 (.agg (b0.cells Ab nb cb)) rfl rfl rfl rfl
      have e44 := hF.pure 2 44 (.agg (j0.cells Aj nj cj)) rfl rfl rfl rfl
      have e46 := hF.link 0 4 46 _ rfl rfl rfl rfl
      have HK := Lib.hid (hk (.slice (some ⟨w'.heap.size, 0, none⟩) 4 4) (w'.alloc (.cells (evs4 a0 b0 j0 x Aa na ca Ab nb cb Aj nj cj A8 n c8) 27)) ⟨A8, c8, w'.heap.size, rfl, hnc8, hrf8.ext ((Ext.refl w').alloc _), hx8.alloc _, hx8.size, Blk.new w' _ _⟩)
      clear hk hF hrf8 hx8
      unfold Ev.cells at e42 e43 e44 e46
      unfold evs4 at HK
      simp [Act.eval] at e42 e43 e44 e46
      go_simp
      exact HK.out
    | 2, hp =>
      obtain rfl : 6 = c' := by simpa using hp
      simp only [List.getElem?_toArray, List.getElem?_cons_zero, List.getElem?_cons_succ, Option.some.injEq] at ho
      subst ho
      obtain ⟨u0, u1, rfl⟩ := list_2 hl
      obtain ⟨A8, c8, g8, rfl, hrest⟩ := hJ
      have e47 := hF.link 1 5 47 _ rfl rfl rfl rfl
      simp only [Act.eval] at e47
      have HK := Lib.hid (hk (.int .i64 4) w' ⟨A8, c8, g8, rfl, rfl, hrest⟩)
      clear hk hF hrest
      go_simp
      exact HK.out
    | p + 3, hp => simp at hp
  intro us w8 hl hJ
  obtain ⟨u0, u1, u2, rfl⟩ := list_3 hl
  rename_i hK
  refine hK _ _ ?_
  clear hK
  generalize hL : frameL _ _ _ _ = L
  obtain rfl : L = [(42, .agg (a0.cells Aa na ca)), (43, .agg (b0.cells Ab nb cb)), (44, .agg (j0.cells Aj nj cj)), (45, .agg (x.cells A n c)), (46, u0), (47, u1), (48, u2), (49, .int .i64 0)] := hL.symm.trans (by kernel_rfl)
  clear hL hl
  simp only [Act.put, List.foldl_cons, List.foldl_nil, List.setIfInBounds_toArray, List.set_cons_zero, List.set_cons_succ]
  obtain ⟨A8, c8, g8, rfl, rfl, hnc8, hrf8, hx8, hg8, hb8⟩ := hJ
  obtain ⟨h1, hS1⟩ := (HFa7.out.ext hx8).shape
  obtain ⟨h2, hS2⟩ := (HFb7.out.ext hx8).shape
  obtain ⟨h3, hS3⟩ := (HFj7.out.ext hx8).shape
  obtain ⟨h4, hS4⟩ := (hrf8.le HX7.out.size).shape
  have hF4 : (Four.of a0 b0 j0 x Aa na ca Ab nb cb Aj nj cj A8 n c8 h1 h2 h3 h4).Ok w8 w3.heap.size g8 := by
    refine ⟨fun k hk => ?_, fun k hk j v hv => ?_, hb8.typed⟩
    · match k, hk with
      | 0, _ => exact hS1
      | 1, _ => exact hS2
      | 2, _ => exact hS3
      | 3, _ => exact hS4
    · rw [hb8.cell]
      exact four_cells a0 b0 j0 x Aa na ca Ab nb cb Aj nj cj A8 n c8 h1 h2 h3 h4 k hk j v hv
  have hlenF : ∀ k, k < 4 → (Four.of a0 b0 j0 x Aa na ca Ab nb cb Aj nj cj A8 n c8 h1 h2 h3 h4).len k ≤ 140737488355328 := by
    intro k hk
    match k, hk with
    | 0, _ => show na ≤ _; omega
    | 1, _ => show nb ≤ _; omega
    | 2, _ => show nj ≤ _; omega
    | 3, _ => show n ≤ _; omega
  have HF4 := Lib.hid hF4
  have HX8 := Lib.hid (HX7.out.trans hx8)
  have hg8' : w3.heap.size ≤ g8 := Nat.le_trans HX7.out.size hg8
  clear hF4 hS1 hS2 hS3 hS4 hrf8 hx8 hb8 HX7 HB7 HEx7 HFa7 HFb7 HFj7 HBa7 HBb7 HBj7
  generalize Four.of a0 b0 j0 x Aa na ca Ab nb cb Aj nj cj A8 n c8 h1 h2 h3 h4 = F at *
  go_wp2_with fail
  go_loopw [49] (fun i wr => Keep0 F w3 g8 i wr) (fun i _ => 4 - (intOf i).toNat)
  case atStart => exact ⟨0, by omega, rfl, HX8.out, HF4.out⟩
  case round =>
    clear HX8 HF4
    obtain ⟨k, hk, rfl, hxr, hfo⟩ := hrel
    have HXr := Lib.hid hxr
    have HFo := Lib.hid hfo
    clear hxr hfo
    by_cases hlt : k < 4
    · have hk0 : (0 : Int) ≤ (k : Int) := by omega
      have hk1 : (k : Int) < 4 := by omega
      have hgl : g8 < wr.heap.size := HFo.out.2.2.lt
      go_upto_region 9 with (first | (refine wpList_loadAt rfl 27 (.tmp 51) rfl g8 (k * 7) (F.cells k) _ (by exact rfl) (by exact fun j v hv => HFo.out.2.1 k hlt j v hv) Tryd.underlying27 rfl (by exact size_event) ?_) | (refine wpList_storeB rfl 27 (.tmp 15) (.tmp 52) rfl wr.heap.size 27 _ _ (by exact rfl) (by exact rfl) (by exact Blk.new wr _ _) (by exact rfl) (by exact size_event) (by simp [Four.cells, Ev.cells, Value.oneCell']) ?_))
      have hxz : Ext wr (wr.alloc (.cells evZero 27)) := (Ext.refl wr).alloc _
      have hbx := (Blk.new wr 27 evZero).put (F.cells k)
      have hfx := (HFo.out.ext hxz).put (Blk.new wr 27 evZero) (by omega) (F.cells k)
      have hxx := (HXr.out.trans hxz).put HXr.out.size 27 (F.cells k)
      unfold evZero at hbx hfx hxx
      generalize putB (wr.alloc _) wr.heap.size 27 (F.cells k) = wb at hbx hfx hxx ⊢
      have hc6 : (F.cells k)[6]? = some (.slice (F.at_ k) (F.len k) (F.cap k)) := rfl
      have HXb := Lib.hid hxx
      have HFb := Lib.hid hfx
      have HBx := Lib.hid hbx
      have HSh := Lib.hid (fun (w' : World) (h : F.Ok w' w3.heap.size g8) => h.1 k hlt)
      generalize wr.heap.size = gx at *
      clear hxz hbx hfx hxx HXr HFo
      have hN := hlenF k hlt
      generalize F.at_ k = At at *
      generalize F.len k = N at *
      generalize F.cap k = C at *
      generalize F.hds k = hs at *
      generalize F.cells k = cx at *
      have HC6 := Lib.hid hc6
      clear hc6
      have hcb6 : wb.cell? ⟨gx, 6, none⟩ = some (.slice At N C) := (HBx.out.cell 6).trans HC6.out
      go_wp2_with fail
      go_loopw [56] (fun i wr1 => Keep1 F w3 g8 gx cx N i wr1) (fun i _ => N - (intOf i).toNat)
      case atStart => exact ⟨0, by omega, rfl, HXb.out, HFb.out, HBx.out⟩
      case round =>
        clear hcb6 HXb HFb HBx wb
        obtain ⟨q, hq, rfl, hx1, hf1, hb1⟩ := hrel
        have HX1 := Lib.hid hx1
        have HF1 := Lib.hid hf1
        have HB1 := Lib.hid hb1
        clear hx1 hf1 hb1
        by_cases hqn : q < N
        · obtain ⟨b, off, hd, rfl, hhd, hC⟩ := (HSh.out _ HF1.out).1.at_ hqn
          obtain ⟨H1, nr, cr⟩ := hd
          have hcell : wr.cell? ⟨b, off + q, none⟩ = some (.slice H1 nr cr) := by have := hC 0 _ rfl; simpa [Hd.val] using this
          have hcb6 : wr.cell? ⟨gx, 6, none⟩ = some (.slice (some ⟨b, off, none⟩) N C) := (HB1.out.cell 6).trans HC6.out
          have hq0 : (0 : Int) ≤ (q : Int) := by omega
          have hq1 : (q : Int) < (N : Int) := by omega
          have HHd := Lib.hid hhd
          have hmem : (H1, nr, cr) ∈ hs := List.mem_of_getElem? hhd
          have hnr : nr ≤ 140737488355328 := ((HSh.out _ HF1.out).2.2 _ hmem).2.1
          have HMem := Lib.hid hmem
          clear hC hhd hmem
          go_wp2_with fail
          go_loopw [66] (fun i wr2 => Keep1 F w3 g8 gx cx nr i wr2) (fun i _ => nr - (intOf i).toNat)
          case atStart => exact ⟨0, by omega, rfl, HX1.out, HF1.out, HB1.out⟩
          case round =>
            clear hcell hcb6 HX1 HF1 HB1
            obtain ⟨p, hp, rfl, hx2, hf2, hb2⟩ := hrel
            have HX2 := Lib.hid hx2
            have HF2 := Lib.hid hf2
            have HB2 := Lib.hid hb2
            have hcb6 : wr.cell? ⟨gx, 6, none⟩ = some (.slice (some ⟨b, off, none⟩) N C) := (hb2.cell 6).trans HC6.out
            have hcell : wr.cell? ⟨b, off + q, none⟩ = some (.slice H1 nr cr) := by
              obtain ⟨b', off', hd', hA', hhd', hC'⟩ := (HSh.out _ hf2).1.at_ hqn
              cases hA'
              rw [HHd.out] at hhd'
              cases hhd'
              have := hC' 0 _ rfl
              simpa [Hd.val] using this
            clear hx2 hf2 hb2
            by_cases hpn : p < nr
            · obtain ⟨_, _, hFr, hTx⟩ := (HSh.out _ HF2.out).2.2 _ HMem.out
              obtain ⟨b2, off2, s0, hH1, hct⟩ := hTx p hpn
              simp only at hH1
              subst hH1
              have hT := (hFr _ rfl).2
              have hL := (hFr _ rfl).1
              have hfz : wr.frozen? ⟨b2, off2 + p * 5, none⟩ = false := hT.frozen _
              have hp0 : (0 : Int) ≤ (p : Int) := by omega
              have hp1 : (p : Int) < (nr : Int) := by omega
              have HFin := Lib.hid (show Keep1 F w3 g8 gx cx nr (.int .i64 ((p : Int) + 1)) (wr.setCell ⟨b2, off2 + p * 5, none⟩ (.string ⟨#[67, 72, 65, 78, 71, 69, 68]⟩)) from ⟨p + 1, by omega, by simp, HX2.out.setCell (p := ⟨b2, off2 + p * 5, none⟩) hL _, HF2.out.set hT hct _, HB2.out.setRun hT _⟩)
              clear hFr hTx hT hL
              go_wp2_with fail
              exact ⟨HFin.out, by simp [intOf]; omega⟩
            · have hpn' : p = nr := by omega
              subst hpn'
              go_wp2_with fail
              exact ⟨⟨q + 1, by omega, by go_num, HX2.out, HF2.out, HB2.out⟩, by simp [intOf]; omega⟩
        · have hqn' : q = N := by omega
          subst hqn'
          go_wp2_with fail
          exact ⟨⟨k + 1, by omega, by go_num, HX1.out, HF1.out⟩, by simp [intOf]; omega⟩
    · have hk4 : k = 4 := by omega
      subst hk4
      have HB9 := Lib.hid (HB3.out.ext HXr.out)
      have HC9 := Lib.hid (HC3.out.ext HXr.out)
      have HBa9 := Lib.hid (HBa.out.ext HXr.out)
      have HBb9 := Lib.hid (HBb.out.ext HXr.out)
      have HEx9 := Lib.hid (HEx.out.ext (HX3.out.trans HXr.out))
      have HEy9 := Lib.hid (HEy.out.ext (HX3.out.trans HXr.out))
      have HEw9 := Lib.hid (HEw.out.ext HXr.out)
      have HEt9 := Lib.hid (HEt.out.ext HXr.out)
      have hc0 := fun o => HB9.out.cell o
      have hca := fun o => HBa9.out.cell o
      unfold Ev.cells at hc0 hca
      go_wp2_with fail
      refine (RESame_any x x A n c A1 n c1 wr HEx9.out HEw9.out).mono ?_
      rintro en w10 ⟨rfl, hx10⟩
      rw [decide_eq_true rfl]
      have HX10 := Lib.hid (HXr.out.trans hx10)
      have hc1' := fun o => (HC9.out.ext hx10).cell o
      have hcb' := fun o => (HBb9.out.ext hx10).cell o
      have HEy10 := Lib.hid (HEy9.out.ext hx10)
      have HEt10 := Lib.hid (HEt9.out.ext hx10)
      unfold Ev.cells at hc1' hcb'
      clear hx10 hc0 hca HB9 HC9 HBa9 HBb9 HEx9 HEy9 HEw9 HEt9 HFo
      go_wp2_with fail
      refine (RESame_any y y B m d A2 m c2 w10 HEy10.out HEt10.out).mono ?_
      rintro en w11 ⟨rfl, hx11⟩
      rw [decide_eq_true rfl]
      have HX11 := Lib.hid (HX3.out.trans (HX10.out.trans hx11))
      clear hx11
      go_wp2_with fail
      go_ret
      exact ⟨rfl, HX11.out⟩
end Go.Proofs.YtcgflkmkdpgchaaDoor
