/- Texts laid together. -/
import Derived.Test.YtbmblnhfmpolbaaGreatDoorTm20
set_option linter.unusedVariables false
set_option linter.unusedSimpArgs false
namespace Go.Proofs.YtbmblnhfmpolbaaGreatDoor
section
open Go.RowKit
set_option maxHeartbeats 8000000 in
set_option maxRecDepth 100000 in
theorem add_txt (L b K : Nat) (D : Doc) (es : List Ev) (e : Ev) (rs : List Row) (r : Row) (x : Run) (tx : ByteArray) (A : Option Addr) (m c : Nat) (dep : Int) (w : World) (hD : DocBk w L b D K) (hev : D.evs = es ++ [e]) (her : e.rows = rs ++ [r ++ [x]]) (hK : K ≤ 8192) :
 Calls Tryz.prog 34 #[.pointer (some ⟨b, 0, none⟩), .agg #[.string ⟨#[]⟩, .string tx, .slice A m c, .int .i64 dep]] w (AddPost L b { D with evs := es ++ [{ e with rows := rs ++ [r ++ [{ x with text := tx }]] }] } (K + 1) w) := by
 obtain ⟨vr, ve, hs, Lr, hB, hd, hLb⟩ := hD
 obtain ⟨ge, ce, hs0, A1, n1, c1, hx1, Lx, rfl, hge, hgw, rfl, hl0, hty, hcell, hbd, hn1, hrk, hrr, hek⟩ := hd.lastE hev
 rw [her] at hbd hrk hrr
 obtain ⟨gr, cr, hs1, A2, cx, hv1, hgr1, hgr2, rfl, hl1, htyR, hcellR, hor⟩ := hbd.head
 injection hv1 with q1 q2 q3
 subst q1 q2 q3
 have hbw := hB.lt
 have hrl : (r ++ [x]).length ≤ K := hrr (r ++ [x]) (by simp)
 have hrs : rs.length < K := by simp at hrk; omega
 rw [List.length_append, List.length_cons, List.length_nil] at hrl hcellR hor hbd
 obtain ⟨gx, cx', hvx, hgx1, hgx2⟩ := own_form hor (by omega)
 injection hvx with q1 q2 q3
 subst q1 q3
 clear q2
 have htyX := own_typed hor gx rfl
 have hcellX : w.cell? ⟨gx, r.length * 5, none⟩ = some (.string x.text) := by
  obtain ⟨A', c', hv, -, -, hsl, -⟩ := own_sl (f := Run.cells) (size := 5) (l := r ++ [x]) (fun _ => rfl) (by simp) hor
  cases hv
  obtain ⟨bb, off, hA, hc⟩ := hsl.2 (by omega)
  cases hA
  have := hc r.length x (snoc_last rfl) 0 _ rfl
  simpa [Run.cells] using this
 have HBn0 := Lib.hid (Blk.new w 87 #[.string ⟨#[]⟩, .string tx, .slice A m c, .int .i64 dep])
 obtain ⟨W0, hW0⟩ : ∃ W0, W0 = (w.alloc (.cells #[.string ⟨#[]⟩, .string tx, .slice A m c, .int .i64 dep] 87)).alloc (.cells #[.string ⟨#[]⟩, .string tx, .slice A m c, .int .i64 dep, .int .i64 0] 146) := ⟨_, rfl⟩
 have HX0 : Hid (Ext w W0) := by show Ext _ _; rw [hW0]; exact ((Ext.refl w).alloc _).alloc _
 have HN0 : Hid (Blk W0 w.heap.size 87 #[.string ⟨#[]⟩, .string tx, .slice A m c, .int .i64 dep]) := by show Blk _ _ _ _; rw [hW0]; exact HBn0.out.alloc _
 have HV0 : Hid (Blk W0 (w.heap.size + 1) 146 #[.string ⟨#[]⟩, .string tx, .slice A m c, .int .i64 dep, .int .i64 0]) := by show Blk _ _ _ _; rw [hW0]; exact Blk.new' (by simp)
 have HB0 := Lib.hid (hB.ext HX0.out)
 have HD0 := Lib.hid (hd.ext HX0.out)
 have hcn0 := fun o => HBn0.out.cell o
 have hcb0 := fun o => ((hB.ext ((Ext.refl w).alloc (.cells #[.string ⟨#[]⟩, .string tx, .slice A m c, .int .i64 dep] 87))).ext ((Ext.refl _).alloc (.cells #[.string ⟨#[]⟩, .string tx, .slice A m c, .int .i64 dep, .int .i64 0] 146))).cell o
 unfold docC at hcb0 HB0
 have HW0 := Lib.hid hW0
 clear hW0
 go_enter Tryz.func34, Tryz.ntmps34
 have HTy0 := Lib.hid (hty.ext HX0.out)
 have HCell := Lib.hid (HX0.out.cell hcell)
 have HTyR0 := Lib.hid (htyR.ext HX0.out)
 have HCellR0 := Lib.hid (HX0.out.cell hcellR)
 have HTyX0 := Lib.hid (htyX.ext HX0.out)
 have HCellX0 := Lib.hid (HX0.out.cell hcellX)
 have HBd := Lib.hid (hbd.kb (KB.ext HX0.out) (KB.ext HX0.out) HX0.out.size)
 have HEv := Lib.hid hev
 have HL0 := Lib.hid hl0
 have HL1 := Lib.hid hl1
 have HOr0 := Lib.hid hor
 have hLr := HD0.out.hi
 have hLlo := HD0.out.lo
 have hLx := HBd.out.lo
 have HBb := Lib.hid HB0.out
 clear hB hd hty hcell hbd hn1 hev her hl0 hl1 htyR hcellR hor htyX hcellX
 go_upto_region 4 with (refine wpList_loadB rfl 87 (.tmp 3) rfl w.heap.size 87 _ _ (by exact rfl) (by exact HBn0.out) Tryz.underlying87 rfl (by exact size_nodeI) ?_)
 rw [← HW0.out]
 refine wp_region_linksR [some 27, some 28, some 29, some 30, some 31, some 32, some 33, some 34, some 35, some 36, some 37, some 38, some 39, some 40, some 41, some 42, some 43, some 44, some 45, some 15] [[], [0], [1], [2], [], [3, 4], [5], [6], [], [8], [9], [10], [], [11, 12], [13], [14], [15], [16], [7, 17], [18, 0, 1, 2, 3, 4, 5, 6, 7, 8, 9, 10, 11, 12, 13, 14, 15, 16, 17, 18]] [] [.pointer (some ⟨b, 0, none⟩), .pointer (some ⟨b, 0, none⟩), .pointer (some ⟨b, 6, none⟩), .slice (some ⟨ge, 0, none⟩) (es.length + 1) ce, .int .i64 (es.length : Int), .pointer (some ⟨ge, es.length * 7, none⟩), .pointer (some ⟨ge, es.length * 7 + 6, none⟩), .slice (some ⟨gr, 0, none⟩) (rs.length + 1) c1, .pointer (some ⟨b, 0, none⟩), .pointer (some ⟨b, 0, none⟩), .pointer (some ⟨b, 6, none⟩), .slice (some ⟨ge, 0, none⟩) (es.length + 1) ce, .int .i64 (es.length : Int), .pointer (some ⟨ge, es.length * 7, none⟩), .pointer (some ⟨ge, es.length * 7 + 6, none⟩), .slice (some ⟨gr, 0, none⟩) (rs.length + 1) c1, .int .i64 ((rs.length : Int) + 1), .int .i64 (rs.length : Int), .pointer (some ⟨gr, rs.length, none⟩), .pointer (some ⟨gr, rs.length, none⟩)] (NoJ W0) (by kernel_rfl) (by kernel_rfl) (by kernel_rfl) (by kernel_rfl) (by kernel_rfl) (by kernel_rfl) (by kernel_rfl) (by decide) ?_ ?_ ?_ ?_
 · exact NoJ.start _
 · intro i o ho hc a w' us K' hJ hF hlim hk
   match i, ho with
   | 0, ho =>
    simp only [List.getElem?_toArray, List.getElem?_cons_zero, List.getElem?_cons_succ, Option.some.injEq] at ho
    subst ho
    have e0 := hF.old 0 (.pointer (some ⟨b, 0, none⟩)) rfl rfl
    simp only [Act.eval] at e0
    try clear hJ
    clear hF hlim
    go_simp
    exact hk
   | 1, ho =>
    simp only [List.getElem?_toArray, List.getElem?_cons_zero, List.getElem?_cons_succ, Option.some.injEq] at ho
    subst ho
    have e27 := hF.pure 0 27 (.pointer (some ⟨b, 0, none⟩)) rfl rfl rfl rfl
    simp only [Act.eval] at e27
    try clear hJ
    clear hF hlim
    go_simp
    exact hk
   | 2, ho =>
    simp only [List.getElem?_toArray, List.getElem?_cons_zero, List.getElem?_cons_succ, Option.some.injEq] at ho
    subst ho
    have e28 := hF.pure 1 28 (.pointer (some ⟨b, 0, none⟩)) rfl rfl rfl rfl
    simp only [Act.eval] at e28
    try clear hJ
    clear hF hlim
    go_simp
    exact hk
   | 3, ho =>
    simp only [List.getElem?_toArray, List.getElem?_cons_zero, List.getElem?_cons_succ, Option.some.injEq] at ho
    subst ho
    have e29 := hF.pure 2 29 (.pointer (some ⟨b, 6, none⟩)) rfl rfl rfl rfl
    obtain ⟨-, rfl⟩ := hJ
    have hcl := HBb.out.cell 6
    simp only [List.getElem?_toArray, List.getElem?_cons_zero, List.getElem?_cons_succ] at hcl
    simp only [Act.eval] at e29
    try clear hJ
    clear hF hlim
    go_simp
    exact hk
   | 4, ho =>
    simp only [List.getElem?_toArray, List.getElem?_cons_zero, List.getElem?_cons_succ, Option.some.injEq] at ho
    subst ho
    have e6 := hF.old 6 (.int .i64 (es.length : Int)) rfl rfl
    simp only [Act.eval] at e6
    try clear hJ
    clear hF hlim
    go_simp
    exact hk
   | 5, ho =>
    simp only [List.getElem?_toArray, List.getElem?_cons_zero, List.getElem?_cons_succ, Option.some.injEq] at ho
    subst ho
    have e30 := hF.pure 3 30 (.slice (some ⟨ge, 0, none⟩) (es.length + 1) ce) rfl rfl rfl rfl
    have e31 := hF.pure 4 31 (.int .i64 (es.length : Int)) rfl rfl rfl rfl
    have hlt1 : (es.length : Int) < (es.length : Int) + 1 := by omega
    simp only [Act.eval] at e30 e31
    try clear hJ
    clear hF hlim
    go_simp
    exact hk
   | 6, ho =>
    simp only [List.getElem?_toArray, List.getElem?_cons_zero, List.getElem?_cons_succ, Option.some.injEq] at ho
    subst ho
    have e32 := hF.pure 5 32 (.pointer (some ⟨ge, es.length * 7, none⟩)) rfl rfl rfl rfl
    simp only [Act.eval] at e32
    try clear hJ
    clear hF hlim
    go_simp
    exact hk
   | 7, ho =>
    simp only [List.getElem?_toArray, List.getElem?_cons_zero, List.getElem?_cons_succ, Option.some.injEq] at ho
    subst ho
    have e33 := hF.pure 6 33 (.pointer (some ⟨ge, es.length * 7 + 6, none⟩)) rfl rfl rfl rfl
    obtain ⟨-, rfl⟩ := hJ
    have hcl := HCell.out
    simp only [Act.eval] at e33
    try clear hJ
    clear hF hlim
    go_simp
    exact hk
   | 8, ho =>
    simp only [List.getElem?_toArray, List.getElem?_cons_zero, List.getElem?_cons_succ, Option.some.injEq] at ho
    subst ho
    have e0 := hF.old 0 (.pointer (some ⟨b, 0, none⟩)) rfl rfl
    simp only [Act.eval] at e0
    try clear hJ
    clear hF hlim
    go_simp
    exact hk
   | 9, ho =>
    simp only [List.getElem?_toArray, List.getElem?_cons_zero, List.getElem?_cons_succ, Option.some.injEq] at ho
    subst ho
    have e35 := hF.pure 8 35 (.pointer (some ⟨b, 0, none⟩)) rfl rfl rfl rfl
    simp only [Act.eval] at e35
    try clear hJ
    clear hF hlim
    go_simp
    exact hk
   | 10, ho =>
    simp only [List.getElem?_toArray, List.getElem?_cons_zero, List.getElem?_cons_succ, Option.some.injEq] at ho
    subst ho
    have e36 := hF.pure 9 36 (.pointer (some ⟨b, 0, none⟩)) rfl rfl rfl rfl
    simp only [Act.eval] at e36
    try clear hJ
    clear hF hlim
    go_simp
    exact hk
   | 11, ho =>
    simp only [List.getElem?_toArray, List.getElem?_cons_zero, List.getElem?_cons_succ, Option.some.injEq] at ho
    subst ho
    have e37 := hF.pure 10 37 (.pointer (some ⟨b, 6, none⟩)) rfl rfl rfl rfl
    obtain ⟨-, rfl⟩ := hJ
    have hcl := HBb.out.cell 6
    simp only [List.getElem?_toArray, List.getElem?_cons_zero, List.getElem?_cons_succ] at hcl
    simp only [Act.eval] at e37
    try clear hJ
    clear hF hlim
    go_simp
    exact hk
   | 12, ho =>
    simp only [List.getElem?_toArray, List.getElem?_cons_zero, List.getElem?_cons_succ, Option.some.injEq] at ho
    subst ho
    have e6 := hF.old 6 (.int .i64 (es.length : Int)) rfl rfl
    simp only [Act.eval] at e6
    try clear hJ
    clear hF hlim
    go_simp
    exact hk
   | 13, ho =>
    simp only [List.getElem?_toArray, List.getElem?_cons_zero, List.getElem?_cons_succ, Option.some.injEq] at ho
    subst ho
    have e38 := hF.pure 11 38 (.slice (some ⟨ge, 0, none⟩) (es.length + 1) ce) rfl rfl rfl rfl
    have e39 := hF.pure 12 39 (.int .i64 (es.length : Int)) rfl rfl rfl rfl
    have hlt1 : (es.length : Int) < (es.length : Int) + 1 := by omega
    simp only [Act.eval] at e38 e39
    try clear hJ
    clear hF hlim
    go_simp
    exact hk
   | 14, ho =>
    simp only [List.getElem?_toArray, List.getElem?_cons_zero, List.getElem?_cons_succ, Option.some.injEq] at ho
    subst ho
    have e40 := hF.pure 13 40 (.pointer (some ⟨ge, es.length * 7, none⟩)) rfl rfl rfl rfl
    simp only [Act.eval] at e40
    try clear hJ
    clear hF hlim
    go_simp
    exact hk
   | 15, ho =>
    simp only [List.getElem?_toArray, List.getElem?_cons_zero, List.getElem?_cons_succ, Option.some.injEq] at ho
    subst ho
    have e41 := hF.pure 14 41 (.pointer (some ⟨ge, es.length * 7 + 6, none⟩)) rfl rfl rfl rfl
    obtain ⟨-, rfl⟩ := hJ
    have hcl := HCell.out
    simp only [Act.eval] at e41
    try clear hJ
    clear hF hlim
    go_simp
    exact hk
   | 16, ho =>
    simp only [List.getElem?_toArray, List.getElem?_cons_zero, List.getElem?_cons_succ, Option.some.injEq] at ho
    subst ho
    have e42 := hF.pure 15 42 (.slice (some ⟨gr, 0, none⟩) (rs.length + 1) c1) rfl rfl rfl rfl
    simp only [Act.eval] at e42
    try clear hJ
    clear hF hlim
    go_simp
    exact hk
   | 17, ho =>
    simp only [List.getElem?_toArray, List.getElem?_cons_zero, List.getElem?_cons_succ, Option.some.injEq] at ho
    subst ho
    have e43 := hF.pure 16 43 (.int .i64 ((rs.length : Int) + 1)) rfl rfl rfl rfl
    have hwr : IntKind.i64.wrap (rs.length : Int) = (rs.length : Int) := wrap_i64 (by omega) (by omega)
    simp only [Act.eval] at e43
    try clear hJ
    clear hF hlim
    go_simp
    exact hk
   | 18, ho =>
    simp only [List.getElem?_toArray, List.getElem?_cons_zero, List.getElem?_cons_succ, Option.some.injEq] at ho
    subst ho
    have e34 := hF.pure 7 34 (.slice (some ⟨gr, 0, none⟩) (rs.length + 1) c1) rfl rfl rfl rfl
    have e44 := hF.pure 17 44 (.int .i64 (rs.length : Int)) rfl rfl rfl rfl
    have hlt2 : (rs.length : Int) < (rs.length : Int) + 1 := by omega
    simp only [Act.eval] at e34 e44
    try clear hJ
    clear hF hlim
    go_simp
    exact hk
   | 19, ho =>
    simp only [List.getElem?_toArray, List.getElem?_cons_zero, List.getElem?_cons_succ, Option.some.injEq] at ho
    subst ho
    have e45 := hF.pure 18 45 (.pointer (some ⟨gr, rs.length, none⟩)) rfl rfl rfl rfl
    simp only [Act.eval] at e45
    try clear hJ
    clear hF hlim
    go_simp
    exact hk
   | i + 20, ho => simp at ho
 · intro p c' o hp ho a w' us K' hl hJ hF hk
   match p, hp with
   | p + 0, hp => simp at hp
 intro us w8b hl hJ
 obtain rfl : us = [] := List.eq_nil_of_length_eq_zero hl
 first | (rename_i hK; refine hK _ _ ?_; clear hK) | (rename_i hK hK_1; refine hK _ _ ?_; clear hK) | (rename_i hK hK_1 hK_2; refine hK _ _ ?_; clear hK) | (rename_i hK hK_1 hK_2 hK_3; refine hK _ _ ?_; clear hK)
 generalize hL : frameL _ _ _ _ = L
 obtain rfl : L = [(27, .pointer (some ⟨b, 0, none⟩)), (28, .pointer (some ⟨b, 0, none⟩)), (29, .pointer (some ⟨b, 6, none⟩)), (30, .slice (some ⟨ge, 0, none⟩) (es.length + 1) ce), (31, .int .i64 (es.length : Int)), (32, .pointer (some ⟨ge, es.length * 7, none⟩)), (33, .pointer (some ⟨ge, es.length * 7 + 6, none⟩)), (34, .slice (some ⟨gr, 0, none⟩) (rs.length + 1) c1), (35, .pointer (some ⟨b, 0, none⟩)), (36, .pointer (some ⟨b, 0, none⟩)), (37, .pointer (some ⟨b, 6, none⟩)), (38, .slice (some ⟨ge, 0, none⟩) (es.length + 1) ce), (39, .int .i64 (es.length : Int)), (40, .pointer (some ⟨ge, es.length * 7, none⟩)), (41, .pointer (some ⟨ge, es.length * 7 + 6, none⟩)), (42, .slice (some ⟨gr, 0, none⟩) (rs.length + 1) c1), (43, .int .i64 ((rs.length : Int) + 1)), (44, .int .i64 (rs.length : Int)), (45, .pointer (some ⟨gr, rs.length, none⟩)), (15, .pointer (some ⟨gr, rs.length, none⟩))] := hL.symm.trans (by kernel_rfl)
 clear hL hl
 simp only [Act.put, List.foldl_cons, List.foldl_nil, List.setIfInBounds_toArray, List.set_cons_zero, List.set_cons_succ]
 obtain ⟨-, hw8b⟩ := hJ
 have HX8 : Hid (Ext W0 w8b) := by show Ext _ _; rw [hw8b]; exact (Ext.refl W0).drew
 clear hw8b
 have HTyR := Lib.hid (HTyR0.out.ext HX8.out)
 have HCellR := Lib.hid (HX8.out.cell HCellR0.out)
 have HTyX := Lib.hid (HTyX0.out.ext HX8.out)
 have HCellX := Lib.hid (HX8.out.cell HCellX0.out)
 have HBd8 := Lib.hid (HBd.out.kb (KB.ext HX8.out) (KB.ext HX8.out) HX8.out.size)
 have HD8 := Lib.hid (HD0.out.ext HX8.out)
 have HN8 := Lib.hid (HN0.out.ext HX8.out)
 refine wp_region_linksR [some 46, some 47, some 48, some 49, some 50, some 51, some 52, some 53, some 54, some 55, some 56, some 57, some 58, some 59, none] [[], [0], [1], [2], [], [4], [5], [6], [7], [8], [], [10], [3, 9, 0, 1, 2, 3, 4, 5, 6, 7, 8, 9, 10, 11], [12, 0, 1, 2, 3, 4, 5, 6, 7, 8, 9, 10, 11], [13, 11, 0, 1, 2, 3, 4, 5, 6, 7, 8, 9, 10, 11]] [14] [.pointer (some ⟨gr, rs.length, none⟩), .pointer (some ⟨gr, rs.length, none⟩), .pointer (some ⟨gr, rs.length, none⟩), .slice (some ⟨gx, 0, none⟩) (r.length + 1) cx, .pointer (some ⟨gr, rs.length, none⟩), .pointer (some ⟨gr, rs.length, none⟩), .pointer (some ⟨gr, rs.length, none⟩), .slice (some ⟨gx, 0, none⟩) (r.length + 1) cx, .int .i64 ((r.length : Int) + 1), .int .i64 (r.length : Int), .pointer (some ⟨w.heap.size, 1, none⟩), .string tx, .pointer (some ⟨gx, r.length * 5, none⟩), .pointer (some ⟨gx, r.length * 5, none⟩), undef] (StJ w8b ⟨gx, r.length * 5, none⟩ (.string tx)) (by kernel_rfl) (by kernel_rfl) (by kernel_rfl) (by kernel_rfl) (by kernel_rfl) (by kernel_rfl) (by kernel_rfl) (by decide) ?_ ?_ ?_ ?_
 · exact StJ.start
 · intro i o ho hc a w' us K' hJ hF hlim hk
   match i, ho with
   | 0, ho =>
    simp only [List.getElem?_toArray, List.getElem?_cons_zero, List.getElem?_cons_succ, Option.some.injEq] at ho
    subst ho
    have e15 := hF.old 15 (.pointer (some ⟨gr, rs.length, none⟩)) rfl rfl
    simp only [Act.eval] at e15
    try clear hJ
    clear hF hlim
    go_simp
    exact hk
   | 1, ho =>
    simp only [List.getElem?_toArray, List.getElem?_cons_zero, List.getElem?_cons_succ, Option.some.injEq] at ho
    subst ho
    have e46 := hF.pure 0 46 (.pointer (some ⟨gr, rs.length, none⟩)) rfl rfl rfl rfl
    simp only [Act.eval] at e46
    try clear hJ
    clear hF hlim
    go_simp
    exact hk
   | 2, ho =>
    simp only [List.getElem?_toArray, List.getElem?_cons_zero, List.getElem?_cons_succ, Option.some.injEq] at ho
    subst ho
    have e47 := hF.pure 1 47 (.pointer (some ⟨gr, rs.length, none⟩)) rfl rfl rfl rfl
    simp only [Act.eval] at e47
    try clear hJ
    clear hF hlim
    go_simp
    exact hk
   | 3, ho =>
    simp only [List.getElem?_toArray, List.getElem?_cons_zero, List.getElem?_cons_succ, Option.some.injEq] at ho
    subst ho
    have e48 := hF.pure 2 48 (.pointer (some ⟨gr, rs.length, none⟩)) rfl rfl rfl rfl
    obtain ⟨rfl, rfl⟩ := hJ.no (hlim 0 14 rfl (by kernel_rfl))
    have hcl := HCellR.out
    simp only [Act.eval] at e48
    try clear hJ
    clear hF hlim
    go_simp
    exact hk
   | 4, ho =>
    simp only [List.getElem?_toArray, List.getElem?_cons_zero, List.getElem?_cons_succ, Option.some.injEq] at ho
    subst ho
    have e15 := hF.old 15 (.pointer (some ⟨gr, rs.length, none⟩)) rfl rfl
    simp only [Act.eval] at e15
    try clear hJ
    clear hF hlim
    go_simp
    exact hk
   | 5, ho =>
    simp only [List.getElem?_toArray, List.getElem?_cons_zero, List.getElem?_cons_succ, Option.some.injEq] at ho
    subst ho
    have e50 := hF.pure 4 50 (.pointer (some ⟨gr, rs.length, none⟩)) rfl rfl rfl rfl
    simp only [Act.eval] at e50
    try clear hJ
    clear hF hlim
    go_simp
    exact hk
   | 6, ho =>
    simp only [List.getElem?_toArray, List.getElem?_cons_zero, List.getElem?_cons_succ, Option.some.injEq] at ho
    subst ho
    have e51 := hF.pure 5 51 (.pointer (some ⟨gr, rs.length, none⟩)) rfl rfl rfl rfl
    simp only [Act.eval] at e51
    try clear hJ
    clear hF hlim
    go_simp
    exact hk
   | 7, ho =>
    simp only [List.getElem?_toArray, List.getElem?_cons_zero, List.getElem?_cons_succ, Option.some.injEq] at ho
    subst ho
    have e52 := hF.pure 6 52 (.pointer (some ⟨gr, rs.length, none⟩)) rfl rfl rfl rfl
    obtain ⟨rfl, rfl⟩ := hJ.no (hlim 0 14 rfl (by kernel_rfl))
    have hcl := HCellR.out
    simp only [Act.eval] at e52
    try clear hJ
    clear hF hlim
    go_simp
    exact hk
   | 8, ho =>
    simp only [List.getElem?_toArray, List.getElem?_cons_zero, List.getElem?_cons_succ, Option.some.injEq] at ho
    subst ho
    have e53 := hF.pure 7 53 (.slice (some ⟨gx, 0, none⟩) (r.length + 1) cx) rfl rfl rfl rfl
    simp only [Act.eval] at e53
    try clear hJ
    clear hF hlim
    go_simp
    exact hk
   | 9, ho =>
    simp only [List.getElem?_toArray, List.getElem?_cons_zero, List.getElem?_cons_succ, Option.some.injEq] at ho
    subst ho
    have e54 := hF.pure 8 54 (.int .i64 ((r.length : Int) + 1)) rfl rfl rfl rfl
    have hwr : IntKind.i64.wrap (r.length : Int) = (r.length : Int) := wrap_i64 (by omega) (by omega)
    simp only [Act.eval] at e54
    try clear hJ
    clear hF hlim
    go_simp
    exact hk
   | 10, ho =>
    simp only [List.getElem?_toArray, List.getElem?_cons_zero, List.getElem?_cons_succ, Option.some.injEq] at ho
    subst ho
    have e3 := hF.old 3 (.pointer (some ⟨w.heap.size, 0, none⟩)) rfl rfl
    simp only [Act.eval] at e3
    try clear hJ
    clear hF hlim
    go_simp
    exact hk
   | 11, ho =>
    simp only [List.getElem?_toArray, List.getElem?_cons_zero, List.getElem?_cons_succ, Option.some.injEq] at ho
    subst ho
    have e56 := hF.pure 10 56 (.pointer (some ⟨w.heap.size, 1, none⟩)) rfl rfl rfl rfl
    obtain ⟨rfl, rfl⟩ := hJ.no (hlim 0 14 rfl (by kernel_rfl))
    have hcl := HN8.out.cell 1
    simp only [List.getElem?_toArray, List.getElem?_cons_zero, List.getElem?_cons_succ] at hcl
    simp only [Act.eval] at e56
    try clear hJ
    clear hF hlim
    go_simp
    exact hk
   | 12, ho =>
    simp only [List.getElem?_toArray, List.getElem?_cons_zero, List.getElem?_cons_succ, Option.some.injEq] at ho
    subst ho
    have e49 := hF.pure 3 49 (.slice (some ⟨gx, 0, none⟩) (r.length + 1) cx) rfl rfl rfl rfl
    have e55 := hF.pure 9 55 (.int .i64 (r.length : Int)) rfl rfl rfl rfl
    have hlt2 : (r.length : Int) < (r.length : Int) + 1 := by omega
    simp only [Act.eval] at e49 e55
    try clear hJ
    clear hF hlim
    go_simp
    exact hk
   | 13, ho =>
    simp only [List.getElem?_toArray, List.getElem?_cons_zero, List.getElem?_cons_succ, Option.some.injEq] at ho
    subst ho
    have e58 := hF.pure 12 58 (.pointer (some ⟨gx, r.length * 5, none⟩)) rfl rfl rfl rfl
    simp only [Act.eval] at e58
    try clear hJ
    clear hF hlim
    go_simp
    exact hk
   | 14, ho => simp at hc
   | i + 15, ho => simp at ho
 · intro p c' o hp ho a w' us K' hl hJ hF hk
   match p, hp with
   | 0, hp =>
    obtain rfl : 14 = c' := by simpa using hp
    simp only [List.getElem?_toArray, List.getElem?_cons_zero, List.getElem?_cons_succ, Option.some.injEq] at ho
    subst ho
    obtain rfl : us = [] := List.eq_nil_of_length_eq_zero hl
    have e59 := hF.pure 13 59 (.pointer (some ⟨gx, r.length * 5, none⟩)) rfl rfl rfl rfl
    have e57 := hF.pure 11 57 (.string tx) rfl rfl rfl rfl
    have hcl := HCellX.out
    have hfz := HTyX.out.frozen (r.length * 5)
    have HK := Lib.hid (hk undef _ (hJ.store (u2 := undef)))
    simp [Act.eval] at e59 e57
    obtain ⟨-, rfl⟩ := hJ.no (by simp)
    clear hk hF hJ
    go_simp
    exact HK.out
   | p + 1, hp => simp at hp
 intro us w9 hl hJ
 obtain ⟨u0, rfl⟩ := list_1 hl
 generalize hL : frameL _ _ _ _ = L
 obtain rfl : L = [(46, .pointer (some ⟨gr, rs.length, none⟩)), (47, .pointer (some ⟨gr, rs.length, none⟩)), (48, .pointer (some ⟨gr, rs.length, none⟩)), (49, .slice (some ⟨gx, 0, none⟩) (r.length + 1) cx), (50, .pointer (some ⟨gr, rs.length, none⟩)), (51, .pointer (some ⟨gr, rs.length, none⟩)), (52, .pointer (some ⟨gr, rs.length, none⟩)), (53, .slice (some ⟨gx, 0, none⟩) (r.length + 1) cx), (54, .int .i64 ((r.length : Int) + 1)), (55, .int .i64 (r.length : Int)), (56, .pointer (some ⟨w.heap.size, 1, none⟩)), (57, .string tx), (58, .pointer (some ⟨gx, r.length * 5, none⟩)), (59, .pointer (some ⟨gx, r.length * 5, none⟩))] := hL.symm.trans (by kernel_rfl)
 clear hL hl
 simp only [Act.put, List.foldl_cons, List.foldl_nil, List.setIfInBounds_toArray, List.set_cons_zero, List.set_cons_succ]
 have hw9 : w9 = w8b.drew.setCell ⟨gx, r.length * 5, none⟩ (.string tx) := hJ
 have hx5 : Ext w8b w8b.drew := (Ext.refl w8b).drew
 have htx5 := HTyX.out.ext hx5
 have hbd5 := HBd8.out.kb (KB.ext hx5) (KB.ext hx5) hx5.size
 have hb6 := EvBd.txt (t := tx) hbd5 HL1.out
 rw [← hw9] at hb6
 have hkR : ∀ T : TypeId, T ≠ 83 → KB T w8b.drew w9 := fun T hn => by rw [hw9]; exact KB.set (T' := 83) htx5 hn
 have hz9 : w8b.drew.heap.size ≤ w9.heap.size := by rw [hw9, size_setC]; exact Nat.le_refl _
 have hD6 := (HD8.out.ext hx5).keepRows (w1 := w9) HEv.out HL0.out hz9 (hkR _ (by decide)) (hkR _ (by decide)) (KBL.kb (hkR _ (by decide))) (by rw [hw9]; exact KBL.set (show Lr ≤ gx by omega)) hb6 (by omega) ⟨by simp at hrk ⊢; omega, fun q hq => by
  rcases List.mem_append.1 hq with hq | hq
  · have := hrr q (List.mem_append_left _ hq); omega
  · rw [List.mem_singleton.1 hq]; simp; omega⟩
 have HBf := Lib.hid (blk_kb (HB0.out.ext (HX8.out.trans hx5)) (hkR _ (by decide)))
 have HVf := Lib.hid (blk_kb (HV0.out.ext (HX8.out.trans hx5)) (hkR _ (by decide)))
 have HKf : Hid (KpD w w9) := (KpD.ext (HX0.out.trans (HX8.out.trans hx5))).trans fun T h1 h2 h3 h4 h5 => hkR T h5
 have HWf : Hid (Below L w w9) := by
  show Below L w w9
  have hxx := HX0.out.trans (HX8.out.trans hx5)
  rw [hw9]
  exact (Below.mono hxx (by omega)).setCell (show L ≤ gx by omega) _
 have HDf := Lib.hid hD6
 have hcv := fun o => HVf.out.cell o
 clear hJ hw9 hx5 htx5 hbd5 hb6 hkR hz9 hD6
 try simp only [Exit.inBlock, Exit.then]
 go_wp2_with fail
 go_ret
 exact ⟨rfl, ⟨vr, _, _, Lr, HBf.out, HDf.out, hLb⟩, HWf.out, HKf.out⟩
end
section
open Go.RowKit
set_option maxHeartbeats 8000000 in
set_option maxRecDepth 100000 in
theorem add_tt (L b K : Nat) (d : Doc) (tx : ByteArray) (A : Option Addr) (m c : Nat) (dep : Int) (w : World) (hD : DocBk w L b Doc.zero K) (hok : TmOk d) (hat : AttrsK w A m (attrsF (ttA d))) (hm : m ≤ 16) :
 Calls Tryz.prog 34 #[.pointer (some ⟨b, 0, none⟩), .agg #[.string ⟨#[116, 116]⟩, .string tx, .slice A m c, .int .i64 dep]] w (AddPost L b { d with regs := [], evs := [], coms := [] } (K + 1) w) := by
 obtain ⟨vr, ve, hs, Lr, hB, hd, hLb⟩ := hD
 have hbw := hB.lt
 obtain ⟨Ae, ce, rfl, -, -⟩ := own_len hd.evs
 have hlast := hok.last
 have hrate := hok.rate
 have HBn0 := Lib.hid (Blk.new w 87 #[.string ⟨#[116, 116]⟩, .string tx, .slice A m c, .int .i64 dep])
 obtain ⟨W0, hW0⟩ : ∃ W0, W0 = (w.alloc (.cells #[.string ⟨#[116, 116]⟩, .string tx, .slice A m c, .int .i64 dep] 87)).alloc (.cells #[.string ⟨#[116, 116]⟩, .string tx, .slice A m c, .int .i64 dep, .int .i64 0] 146) := ⟨_, rfl⟩
 have HX0 : Hid (Ext w W0) := by show Ext _ _; rw [hW0]; exact ((Ext.refl w).alloc _).alloc _
 have HN0 : Hid (Blk W0 w.heap.size 87 #[.string ⟨#[116, 116]⟩, .string tx, .slice A m c, .int .i64 dep]) := by show Blk _ _ _ _; rw [hW0]; exact HBn0.out.alloc _
 have HV0 : Hid (Blk W0 (w.heap.size + 1) 146 #[.string ⟨#[116, 116]⟩, .string tx, .slice A m c, .int .i64 dep, .int .i64 0]) := by show Blk _ _ _ _; rw [hW0]; exact Blk.new' (by simp)
 have HB0 := Lib.hid (hB.ext HX0.out)
 have HD0 := Lib.hid (hd.ext HX0.out)
 have hcn0 := fun o => HBn0.out.cell o
 have hcb0 := fun o => ((hB.ext ((Ext.refl w).alloc (.cells #[.string ⟨#[116, 116]⟩, .string tx, .slice A m c, .int .i64 dep] 87))).ext ((Ext.refl _).alloc (.cells #[.string ⟨#[116, 116]⟩, .string tx, .slice A m c, .int .i64 dep, .int .i64 0] 146))).cell o
 unfold docC at hcb0 HB0
 have HW0 := Lib.hid hW0
 clear hW0
 go_enter Tryz.func34, Tryz.ntmps34
 have HVl : Hid (∀ w', Ext W0 w' → VlAt w' (w.heap.size + 1) ⟨#[116, 116]⟩ tx (attrsF (ttA d))) := fun w' h => ⟨A, m, c, dep, HV0.out.ext h, (hat.kb (KB.ext HX0.out)).kb (KB.ext h), hm⟩
 have HT1 : Hid (∀ w', Ext W0 w' → Calls Tryz.prog 62 #[.pointer (some ⟨w.heap.size + 1, 0, none⟩), .string ⟨#[116, 105, 116, 108, 101]⟩] w' fun e w2 => e = .returned (.string d.title) ∧ Ext w' w2) := fun w' h => by
  have := vtext_any _ _ _ _ sTitle w' (HVl.out w' h)
  rw [tt_title] at this
  exact this
 have HT2 : Hid (∀ w', Ext W0 w' → Calls Tryz.prog 62 #[.pointer (some ⟨w.heap.size + 1, 0, none⟩), .string ⟨#[108, 97, 110, 103]⟩] w' fun e w2 => e = .returned (.string d.lang) ∧ Ext w' w2) := fun w' h => by
  have := vtext_any _ _ _ _ sLang w' (HVl.out w' h)
  rw [tt_lang] at this
  exact this
 have HAt := Lib.hid hat
 clear hB hd hat
 go_wp2_with (refine wpList_loadB rfl 87 (.tmp 3) rfl w.heap.size 87 _ _ (by exact rfl) (by exact HBn0.out) Tryz.underlying87 rfl (by exact size_nodeI) ?_)
 rw [← HW0.out]
 refine (HT1.out _ (Ext.refl _)).mono ?_
 rintro e1 w1 ⟨rfl, hx1⟩
 have HX1 := Lib.hid hx1
 clear hx1
 go_wp2_with fail
 refine (HT2.out _ HX1.out).mono ?_
 rintro e1 w2 ⟨rfl, hx2⟩
 have HX2 := Lib.hid (HX1.out.trans hx2)
 have HB2 := Lib.hid (HB0.out.ext HX2.out)
 clear hx2
 have hc2 := fun o => HB2.out.cell o
 have hf2 := fun o => HB2.out.frozen o
 have hs2 := fun u => setCell_put HB2.out 0 u
 have hcp := fun cs o => (HB2.out.put cs).cell o
 have hfp := fun cs o => (HB2.out.put cs).frozen o
 have hsp := fun cs u => setCell_put (HB2.out.put cs) 1 u
 have hpp := fun cs cs' => putB_putB w2 b 27 27 cs cs'
 go_wp2_with fail
 clear hc2 hf2 hs2 hcp hfp hsp hpp
 have HKW0 : Hid (KpD w W0) := KpD.ext HX0.out
 have HWW0 : Hid (Below L w W0) := Below.mono HX0.out (by omega)
 have HDW0 := Lib.hid HD0.out
 have HBw2 := Lib.hid HB2.out
 have HVlW0 := Lib.hid HVl.out
 obtain ⟨w3, hw3⟩ : ∃ w3, w3 = putB w2 b 27 #[.string d.title, .string d.lang, .int .u8 Doc.zero.rate, .bool Doc.zero.drop, .int .i64 Doc.zero.last, vr, .slice Ae Doc.zero.evs.length ce, .slice none 0 0] := ⟨_, rfl⟩
 rw [← hw3]
 have hk : ∀ T : TypeId, T ≠ 27 → KB T W0 w3 := fun T hn => by rw [hw3]; exact (KB.ext HX2.out).trans (KB.put HBw2.out hn)
 have HBw3 : Hid (Blk w3 b 27 #[.string d.title, .string d.lang, .int .u8 Doc.zero.rate, .bool Doc.zero.drop, .int .i64 Doc.zero.last, vr, .slice Ae Doc.zero.evs.length ce, .slice none 0 0]) := by show Blk _ _ _ _; rw [hw3]; exact HBw2.out.put _
 have HKw3 : Hid (KpD w w3) := HKW0.out.trans fun T h1 _ _ _ _ => hk T h1
 have HWw3 : Hid (Below L w w3) := by show Below _ _ _; rw [hw3]; exact below_putX (HWW0.out.trans (Below.mono HX2.out (by have := HWW0.out.size; omega))) hLb _ _
 have HDw3 := Lib.hid (HDW0.out.kb (hk _ (by decide)) (hk _ (by decide)) (hk _ (by decide)) (hk _ (by decide)) (by rw [hw3, putB_size]; exact (HX2.out).size))
 have HVlw3 : Hid (∀ w', Ext w3 w' → VlAt w' (w.heap.size + 1) ⟨#[116, 116]⟩ tx (attrsF (ttA d))) := fun w' h => ((HVlW0.out W0 (Ext.refl _)).kbv (hk _ (by decide)) (hk _ (by decide))).ext h
 clear hk hw3
 have HT3 : Hid (Calls Tryz.prog 62 #[.pointer (some ⟨w.heap.size + 1, 0, none⟩), .string ⟨#[114, 97, 116, 101]⟩] w3 fun e w2 => e = .returned (.string (rName d.rate)) ∧ Ext w3 w2) := by
  have := vtext_any _ _ _ _ sRate w3 (HVlw3.out w3 (Ext.refl _))
  rw [tt_rate] at this
  exact this
 refine HT3.out.mono ?_
 rintro e1 w4 ⟨rfl, hx4⟩
 have HX4 := Lib.hid hx4
 clear hx4
 go_wp2_with fail
 refine (RParse_ok d.rate w4 hrate.1 hrate.2).mono ?_
 rintro e1 w5 ⟨rfl, hx5⟩
 have HX5 := Lib.hid (HX4.out.trans hx5)
 clear hx5
 go_wp2_with fail
 refine (vfail_ok _ _ _ _ w5 (HVlw3.out w5 HX5.out)).mono ?_
 rintro e1 w6 ⟨rfl, hx6⟩
 have HX6 := Lib.hid (HX5.out.trans hx6)
 clear hx6
 go_wp2_with fail
 refine (vflag_ok _ _ _ _ sDrop d.drop w6 (HVlw3.out w6 HX6.out) (tt_drop d) (flag_of (b := d.drop) (tt_nodup d) (by simp [ttA]))).mono ?_
 rintro e1 w7 ⟨rfl, hx7⟩
 have HX7 := Lib.hid (HX6.out.trans hx7)
 have HBw7 := Lib.hid (HBw3.out.ext HX7.out)
 clear hx7
 have hc2 := fun o => HBw7.out.cell o
 have hf2 := fun o => HBw7.out.frozen o
 have hs2 := fun u => setCell_put HBw7.out 2 u
 have hcp := fun cs o => (HBw7.out.put cs).cell o
 have hfp := fun cs o => (HBw7.out.put cs).frozen o
 have hsp := fun cs u => setCell_put (HBw7.out.put cs) 3 u
 have hpp := fun cs cs' => putB_putB w7 b 27 27 cs cs'
 go_wp2_with fail
 clear hc2 hf2 hs2 hcp hfp hsp hpp
 obtain ⟨w8, hw8⟩ : ∃ w8, w8 = putB w7 b 27 #[.string d.title, .string d.lang, .int .u8 d.rate, .bool d.drop, .int .i64 Doc.zero.last, vr, .slice Ae Doc.zero.evs.length ce, .slice none 0 0] := ⟨_, rfl⟩
 rw [← hw8]
 have hk : ∀ T : TypeId, T ≠ 27 → KB T w3 w8 := fun T hn => by rw [hw8]; exact (KB.ext HX7.out).trans (KB.put HBw7.out hn)
 have HBw8 : Hid (Blk w8 b 27 #[.string d.title, .string d.lang, .int .u8 d.rate, .bool d.drop, .int .i64 Doc.zero.last, vr, .slice Ae Doc.zero.evs.length ce, .slice none 0 0]) := by show Blk _ _ _ _; rw [hw8]; exact HBw7.out.put _
 have HKw8 : Hid (KpD w w8) := HKw3.out.trans fun T h1 _ _ _ _ => hk T h1
 have HWw8 : Hid (Below L w w8) := by show Below _ _ _; rw [hw8]; exact below_putX (HWw3.out.trans (Below.mono HX7.out (by have := HWw3.out.size; omega))) hLb _ _
 have HDw8 := Lib.hid (HDw3.out.kb (hk _ (by decide)) (hk _ (by decide)) (hk _ (by decide)) (hk _ (by decide)) (by rw [hw8, putB_size]; exact (HX7.out).size))
 have HVlw8 : Hid (∀ w', Ext w8 w' → VlAt w' (w.heap.size + 1) ⟨#[116, 116]⟩ tx (attrsF (ttA d))) := fun w' h => ((HVlw3.out w3 (Ext.refl _)).kbv (hk _ (by decide)) (hk _ (by decide))).ext h
 clear hk hw8
 refine (vnumber_ok _ _ _ _ sLast d.last 1099511627776 w8 (HVlw8.out w8 (Ext.refl _)) (tt_last d) hlast.1 hlast.2 (by decide)).mono ?_
 rintro e1 w9 ⟨rfl, hx9⟩
 have HX9 := Lib.hid hx9
 have HBw9 := Lib.hid (HBw8.out.ext HX9.out)
 have HVw9 := HVlw8.out w9 HX9.out
 obtain ⟨A5, m5, c5, dep5, hB5, -, -⟩ := HVw9
 clear hx9
 have hc2 := fun o => HBw9.out.cell o
 have hf2 := fun o => HBw9.out.frozen o
 have hs2 := fun u => setCell_put HBw9.out 4 u
 have hcv := fun cs o => (hB5.put_other (show b ≠ w.heap.size + 1 by omega) (t' := 27) cs).cell o
 go_wp2_with fail
 go_ret
 clear hc2 hf2 hs2 hcv
 obtain ⟨wf, hwf⟩ : ∃ wf, wf = putB w9 b 27 #[.string d.title, .string d.lang, .int .u8 d.rate, .bool d.drop, .int .i64 d.last, vr, .slice Ae Doc.zero.evs.length ce, .slice none 0 0] := ⟨_, rfl⟩
 rw [← hwf]
 have hk : ∀ T : TypeId, T ≠ 27 → KB T w8 wf := fun T hn => by rw [hwf]; exact (KB.ext HX9.out).trans (KB.put HBw9.out hn)
 have HBwf : Hid (Blk wf b 27 #[.string d.title, .string d.lang, .int .u8 d.rate, .bool d.drop, .int .i64 d.last, vr, .slice Ae Doc.zero.evs.length ce, .slice none 0 0]) := by show Blk _ _ _ _; rw [hwf]; exact HBw9.out.put _
 have HKwf : Hid (KpD w wf) := HKw8.out.trans fun T h1 _ _ _ _ => hk T h1
 have HWwf : Hid (Below L w wf) := by show Below _ _ _; rw [hwf]; exact below_putX (HWw8.out.trans (Below.mono HX9.out (by have := HWw8.out.size; omega))) hLb _ _
 have HDwf := Lib.hid (HDw8.out.kb (hk _ (by decide)) (hk _ (by decide)) (hk _ (by decide)) (hk _ (by decide)) (by rw [hwf, putB_size]; exact (HX9.out).size))
 have HVlwf : Hid (∀ w', Ext wf w' → VlAt w' (w.heap.size + 1) ⟨#[116, 116]⟩ tx (attrsF (ttA d))) := fun w' h => ((HVlw8.out w8 (Ext.refl _)).kbv (hk _ (by decide)) (hk _ (by decide))).ext h
 clear hk hwf
 exact ⟨rfl, ⟨vr, _, hs, Lr, HBwf.out, (HDwf.out.up (Nat.le_succ K)).top, hLb⟩, HWwf.out, HKwf.out⟩
end
section
open Go.RowKit
theorem size_regX : (Tryz.prog.info? 53).map (·.size) = some 7 := by kernel_rfl
set_option maxHeartbeats 8000000 in
set_option maxRecDepth 100000 in
theorem add_reg (L b K : Nat) (D : Doc) (r : Reg) (tx : ByteArray) (A : Option Addr) (m c : Nat) (dep : Int) (w : World) (hD : DocBk w L b D K) (hok : RegOk r) (hat : AttrsK w A m (attrsF (regA r))) (hm : m ≤ 16) (hK : K ≤ 8192) (hT : Blk w 0 73 alnCx) :
 Calls Tryz.prog 34 #[.pointer (some ⟨b, 0, none⟩), .agg #[.string ⟨#[114, 101, 103, 105, 111, 110]⟩, .string tx, .slice A m c, .int .i64 dep]] w (AddPost L b { D with regs := D.regs ++ [r] } (K + 1) w) := by
 obtain ⟨vr, ve, hs, Lr, hB, hd, hLb⟩ := hD
 have hbw := hB.lt
 obtain ⟨Ae, ce, rfl, -, -⟩ := own_len hd.evs
 obtain ⟨Ar, cr, rfl, hcr0, -⟩ := own_len hd.regs
 have hrk := hd.few.1
 have htop := hok.top
 have hhei := hok.height
 have hlef := hok.left
 have hwid := hok.width
 have hali := hok.align
 have HBn0 := Lib.hid (Blk.new w 87 #[.string ⟨#[114, 101, 103, 105, 111, 110]⟩, .string tx, .slice A m c, .int .i64 dep])
 obtain ⟨W0, hW0⟩ : ∃ W0, W0 = (w.alloc (.cells #[.string ⟨#[114, 101, 103, 105, 111, 110]⟩, .string tx, .slice A m c, .int .i64 dep] 87)).alloc (.cells #[.string ⟨#[114, 101, 103, 105, 111, 110]⟩, .string tx, .slice A m c, .int .i64 dep, .int .i64 0] 146) := ⟨_, rfl⟩
 have HX0 : Hid (Ext w W0) := by show Ext _ _; rw [hW0]; exact ((Ext.refl w).alloc _).alloc _
 have HN0 : Hid (Blk W0 w.heap.size 87 #[.string ⟨#[114, 101, 103, 105, 111, 110]⟩, .string tx, .slice A m c, .int .i64 dep]) := by show Blk _ _ _ _; rw [hW0]; exact HBn0.out.alloc _
 have HV0 : Hid (Blk W0 (w.heap.size + 1) 146 #[.string ⟨#[114, 101, 103, 105, 111, 110]⟩, .string tx, .slice A m c, .int .i64 dep, .int .i64 0]) := by show Blk _ _ _ _; rw [hW0]; exact Blk.new' (by simp)
 have HB0 := Lib.hid (hB.ext HX0.out)
 have HD0 := Lib.hid (hd.ext HX0.out)
 have hcn0 := fun o => HBn0.out.cell o
 have hcb0 := fun o => ((hB.ext ((Ext.refl w).alloc (.cells #[.string ⟨#[114, 101, 103, 105, 111, 110]⟩, .string tx, .slice A m c, .int .i64 dep] 87))).ext ((Ext.refl _).alloc (.cells #[.string ⟨#[114, 101, 103, 105, 111, 110]⟩, .string tx, .slice A m c, .int .i64 dep, .int .i64 0] 146))).cell o
 unfold docC at hcb0 HB0
 have HW0 := Lib.hid hW0
 clear hW0
 go_enter Tryz.func34, Tryz.ntmps34
 have HVl : Hid (∀ w', Ext W0 w' → VlAt w' (w.heap.size + 1) ⟨#[114, 101, 103, 105, 111, 110]⟩ tx (attrsF (regA r))) := fun w' h => ⟨A, m, c, dep, HV0.out.ext h, (hat.kb (KB.ext HX0.out)).kb (KB.ext h), hm⟩
 have HT1 : Hid (∀ w', Ext W0 w' → Calls Tryz.prog 62 #[.pointer (some ⟨w.heap.size + 1, 0, none⟩), .string ⟨#[110, 97, 109, 101]⟩] w' fun en w2 => en = .returned (.string r.name) ∧ Ext w' w2) := fun w' h => by
  have := vtext_any _ _ _ _ sName w' (HVl.out w' h)
  rw [reg_name] at this
  exact this
 have HC1 : Hid (∀ w', Ext W0 w' → Calls Tryz.prog 67 #[.pointer (some ⟨w.heap.size + 1, 0, none⟩), .string ⟨#[116, 111, 112]⟩] w' fun e w2 => e = .returned (.int .i64 r.top) ∧ Ext w' w2) := fun w' h =>
  vcell_ok _ _ _ _ sTop r.top w' (HVl.out w' h) (reg_top r) (by omega) (by omega)
 have HC2 : Hid (∀ w', Ext W0 w' → Calls Tryz.prog 67 #[.pointer (some ⟨w.heap.size + 1, 0, none⟩), .string ⟨#[104, 101, 105, 103, 104, 116]⟩] w' fun e w2 => e = .returned (.int .i64 r.height) ∧ Ext w' w2) := fun w' h =>
  vcell_ok _ _ _ _ sHeight r.height w' (HVl.out w' h) (reg_height r) (by omega) (by omega)
 have HC3 : Hid (∀ w', Ext W0 w' → Calls Tryz.prog 67 #[.pointer (some ⟨w.heap.size + 1, 0, none⟩), .string ⟨#[108, 101, 102, 116]⟩] w' fun e w2 => e = .returned (.int .i64 r.left) ∧ Ext w' w2) := fun w' h =>
  vcell_ok _ _ _ _ sLeft r.left w' (HVl.out w' h) (reg_left r) (by omega) (by omega)
 have HC4 : Hid (∀ w', Ext W0 w' → Calls Tryz.prog 67 #[.pointer (some ⟨w.heap.size + 1, 0, none⟩), .string ⟨#[119, 105, 100, 116, 104]⟩] w' fun e w2 => e = .returned (.int .i64 r.width) ∧ Ext w' w2) := fun w' h =>
  vcell_ok _ _ _ _ sWidth r.width w' (HVl.out w' h) (reg_width r) (by omega) (by omega)
 have HAl : Hid (∀ w', Ext W0 w' → Calls Tryz.prog 68 #[.pointer (some ⟨w.heap.size + 1, 0, none⟩), .string ⟨#[97, 108, 105, 103, 110]⟩, .slice (some ⟨0, 0, none⟩) 3 3] w' fun e w2 => e = .returned (.int .i64 (r.align - 1)) ∧ Ext w' w2) := fun w' h => by
  have hst : StrsAt w' (some ⟨0, 0, none⟩) 3 alnL := (StrsAt.tab (l := alnL) (hT.ext HX0.out) rfl rfl).ext h
  have := vchoice_ok _ _ _ _ sAlign _ 3 3 alnL (r.align - 1).toNat w' (HVl.out w' h) hst (by decide) (by
   rw [reg_align]
   have : r.align = 1 ∨ r.align = 2 ∨ r.align = 3 := by omega
   rcases this with e | e | e <;> rw [e] <;> rfl) (by decide)
  rwa [Int.toNat_of_nonneg (by omega)] at this
 have HAn : Hid (∀ w' g, Ext W0 w' → Blk w' g 9 #[.string ⟨#[84, 79, 80]⟩, .string ⟨#[66, 79, 84, 84, 79, 77]⟩] → Calls Tryz.prog 68 #[.pointer (some ⟨w.heap.size + 1, 0, none⟩), .string ⟨#[97, 110, 99, 104, 111, 114]⟩, .slice (some ⟨g, 0, none⟩) 2 2] w' fun e w2 => e = .returned (.int .i64 (if r.bottom = true then 1 else 0)) ∧ Ext w' w2) := fun w' g h hb => by
  have hst : StrsAt w' (some ⟨g, 0, none⟩) 2 [sTOP, sBOTTOM] := StrsAt.blk hb rfl rfl
  have := vchoice_ok _ _ _ _ sAnchor _ 2 2 [sTOP, sBOTTOM] (if r.bottom = true then 1 else 0) w' (HVl.out w' h) hst (by decide) (by
   rw [reg_anchor]
   cases r.bottom <;> rfl) (by decide)
  cases hb2 : r.bottom <;> rw [hb2] at this <;> exact this
 have hbo : ((if r.bottom = true then (1 : Int) else 0) == 1) = r.bottom := by cases r.bottom <;> rfl
 have HBq0 := Lib.hid HB0.out
 have HAt := Lib.hid hat
 have hw8 : IntKind.u8.wrap r.align = r.align := by
  have : r.align = 1 ∨ r.align = 2 ∨ r.align = 3 := by omega
  rcases this with e | e | e <;> rw [e] <;> rfl
 have ha8 : r.align - 1 + 1 = r.align := by omega
 clear hB hd hat hT htop hhei hlef hwid
 go_wp2_with (refine wpList_loadB rfl 87 (.tmp 3) rfl w.heap.size 87 _ _ (by exact rfl) (by exact HBn0.out) Tryz.underlying87 rfl (by exact size_nodeI) ?_)
 rw [← HW0.out]
 refine (HT1.out _ (Ext.refl _)).mono ?_
 rintro e1 w1 ⟨rfl, hx2⟩
 have HXw1 := Lib.hid ((Ext.refl W0).trans hx2)
 clear hx2
 go_wp2_with fail
 have HG0 : Hid (W0.heap.size ≤ w1.heap.size) := HXw1.out.size
 have HXwa := Lib.hid (HXw1.out.alloc (.cells #[.string r.name, .int .i64 0, .int .i64 0, .int .i64 0, .int .i64 0, .int .u8 0, .bool false] 53))
 have HBr1 := Lib.hid (Blk.new w1 53 #[.string r.name, .int .i64 0, .int .i64 0, .int .i64 0, .int .i64 0, .int .u8 0, .bool false])
 obtain ⟨wa, hwa⟩ : ∃ wa, wa = w1.alloc (.cells #[.string r.name, .int .i64 0, .int .i64 0, .int .i64 0, .int .i64 0, .int .u8 0, .bool false] 53) := ⟨_, rfl⟩
 rw [← hwa] at HXwa HBr1 ⊢
 obtain ⟨g0, hg0⟩ : ∃ g0, g0 = w1.heap.size := ⟨_, rfl⟩
 rw [← hg0] at HG0 HBr1 ⊢
 clear hwa hg0 HXw1
 have HBr := Lib.hid HBr1.out
 clear HBr1
 refine (HC1.out _ HXwa.out).mono ?_
 rintro e1 wb ⟨rfl, hx1⟩
 have HXwb := Lib.hid (HXwa.out.trans hx1)
 go_wp2_with fail
 refine (HC2.out _ HXwb.out).mono ?_
 rintro e1 wc ⟨rfl, hx2⟩
 have HXwc := Lib.hid (HXwb.out.trans hx2)
 have hxq := hx1.trans hx2
 have HBq := Lib.hid (HBr.out.ext hxq)
 have hcr := fun o => HBq.out.cell o
 have hfr := fun o => HBq.out.frozen o
 have hsr := fun u => setCell_put HBq.out 1 u
 have hcp := fun cs o => (HBq.out.put cs).cell o
 have hfp := fun cs o => (HBq.out.put cs).frozen o
 have hsp := fun cs u => setCell_put (HBq.out.put cs) 2 u
 have hpp := fun cs cs' => putB_putB wc g0 53 53 cs cs'
 clear hx1 hx2 hxq
 go_wp2_with fail
 obtain ⟨wd, hwo⟩ : ∃ wd, wd = putB wc g0 53 #[.string r.name, .int .i64 r.top, .int .i64 r.height, .int .i64 0, .int .i64 0, .int .u8 0, .bool false] := ⟨_, rfl⟩
 rw [← hwo]
 have HXwd : Hid (Ext W0 wd) := by show Ext _ _; rw [hwo]; exact HXwc.out.put HG0.out _ _
 clear HBr
 have HBr : Hid (Blk wd g0 53 #[.string r.name, .int .i64 r.top, .int .i64 r.height, .int .i64 0, .int .i64 0, .int .u8 0, .bool false]) := by show Blk _ _ _ _; rw [hwo]; exact HBq.out.put _
 clear hwo HBq hcr hfr hsr hcp hfp hsp hpp
 refine (HC3.out _ HXwd.out).mono ?_
 rintro e1 we ⟨rfl, hx1⟩
 have HXwe := Lib.hid (HXwd.out.trans hx1)
 go_wp2_with fail
 refine (HC4.out _ HXwe.out).mono ?_
 rintro e1 wf ⟨rfl, hx2⟩
 have HXwf := Lib.hid (HXwe.out.trans hx2)
 have hxq := hx1.trans hx2
 have HBq := Lib.hid (HBr.out.ext hxq)
 have hcr := fun o => HBq.out.cell o
 have hfr := fun o => HBq.out.frozen o
 have hsr := fun u => setCell_put HBq.out 3 u
 have hcp := fun cs o => (HBq.out.put cs).cell o
 have hfp := fun cs o => (HBq.out.put cs).frozen o
 have hsp := fun cs u => setCell_put (HBq.out.put cs) 4 u
 have hpp := fun cs cs' => putB_putB wf g0 53 53 cs cs'
 clear hx1 hx2 hxq
 go_wp2_with fail
 obtain ⟨wg, hwo⟩ : ∃ wg, wg = putB wf g0 53 #[.string r.name, .int .i64 r.top, .int .i64 r.height, .int .i64 r.left, .int .i64 r.width, .int .u8 0, .bool false] := ⟨_, rfl⟩
 rw [← hwo]
 have HXwg : Hid (Ext W0 wg) := by show Ext _ _; rw [hwo]; exact HXwf.out.put HG0.out _ _
 clear HBr
 have HBr : Hid (Blk wg g0 53 #[.string r.name, .int .i64 r.top, .int .i64 r.height, .int .i64 r.left, .int .i64 r.width, .int .u8 0, .bool false]) := by show Blk _ _ _ _; rw [hwo]; exact HBq.out.put _
 clear hwo HBq hcr hfr hsr hcp hfp hsp hpp
 refine (HAl.out _ HXwg.out).mono ?_
 rintro e1 wh ⟨rfl, hxq⟩
 have HXwh := Lib.hid (HXwg.out.trans hxq)
 have HBq := Lib.hid (HBr.out.ext hxq)
 have hcr := fun o => HBq.out.cell o
 have hfr := fun o => HBq.out.frozen o
 have hsr := fun u => setCell_put HBq.out 5 u
 clear hxq
 go_wp2_with fail
 obtain ⟨wi, hwo⟩ : ∃ wi, wi = putB wh g0 53 #[.string r.name, .int .i64 r.top, .int .i64 r.height, .int .i64 r.left, .int .i64 r.width, .int .u8 r.align, .bool false] := ⟨_, rfl⟩
 rw [← hwo]
 have HXwi : Hid (Ext W0 wi) := by show Ext _ _; rw [hwo]; exact HXwh.out.put HG0.out _ _
 clear HBr
 have HBr : Hid (Blk wi g0 53 #[.string r.name, .int .i64 r.top, .int .i64 r.height, .int .i64 r.left, .int .i64 r.width, .int .u8 r.align, .bool false]) := by show Blk _ _ _ _; rw [hwo]; exact HBq.out.put _
 clear hwo HBq hcr hfr hsr
 refine (HAn.out _ _ (HXwi.out.alloc _) (Blk.new _ _ _)).mono ?_
 rintro e1 wj ⟨rfl, hxj⟩
 have HXwj := Lib.hid ((HXwi.out.alloc (.cells #[.string ⟨#[84, 79, 80]⟩, .string ⟨#[66, 79, 84, 84, 79, 77]⟩] 9)).trans hxj)
 have hxq := ((Ext.refl wi).alloc (.cells #[.string ⟨#[84, 79, 80]⟩, .string ⟨#[66, 79, 84, 84, 79, 77]⟩] 9)).trans hxj
 have HBq := Lib.hid (HBr.out.ext hxq)
 have hcr := fun o => HBq.out.cell o
 have hfr := fun o => HBq.out.frozen o
 have hsr := fun u => setCell_put HBq.out 6 u
 clear hxq hxj
 go_upto_region 18 with fail
 obtain ⟨w8, hwo⟩ : ∃ w8, w8 = putB wj g0 53 #[.string r.name, .int .i64 r.top, .int .i64 r.height, .int .i64 r.left, .int .i64 r.width, .int .u8 r.align, .bool r.bottom] := ⟨_, rfl⟩
 rw [← hwo]
 have HXw8 : Hid (Ext W0 w8) := by show Ext _ _; rw [hwo]; exact HXwj.out.put HG0.out _ _
 clear HBr
 have HBr : Hid (Blk w8 g0 53 #[.string r.name, .int .i64 r.top, .int .i64 r.height, .int .i64 r.left, .int .i64 r.width, .int .u8 r.align, .bool r.bottom]) := by show Blk _ _ _ _; rw [hwo]; exact HBq.out.put _
 clear hwo HBq hcr hfr hsr
 have HBd8 := Lib.hid (HB0.out.ext HXw8.out)
 have HD8 := Lib.hid (HD0.out.ext HXw8.out)
 have HOr := Lib.hid HD8.out.regs
 have hLz := HD8.out.hi
 have hLl := HD8.out.lo
 have hL8 := HXw8.out.size
 refine wp_region_linksR [some 123, some 124, some 125, some 126, some 127, some 128, some 129, some 130, some 131, some 132, none] [[], [], [1], [2], [3], [], [5], [4, 6], [0, 0, 1, 2, 3, 4, 5, 6, 7], [8, 0, 1, 2, 3, 4, 5, 6, 7], [9, 7, 7, 0, 1, 2, 3, 4, 5, 6, 7]] [6, 7, 10] [.pointer (some ⟨b, 0, none⟩), .pointer (some ⟨b, 0, none⟩), .pointer (some ⟨b, 0, none⟩), .pointer (some ⟨b, 5, none⟩), .slice Ar D.regs.length cr, .agg #[.string r.name, .int .i64 r.top, .int .i64 r.height, .int .i64 r.left, .int .i64 r.width, .int .u8 r.align, .bool r.bottom], undef, undef, .pointer (some ⟨b, 0, none⟩), .pointer (some ⟨b, 5, none⟩), undef] (ApJ 53 7 #[.string r.name, .int .i64 r.top, .int .i64 r.height, .int .i64 r.left, .int .i64 r.width, .int .u8 r.align, .bool r.bottom] L (.slice Ar D.regs.length cr) D.regs.length (D.regs.flatMap Reg.vals) (⟨b, 5, none⟩) w8) (by kernel_rfl) (by kernel_rfl) (by kernel_rfl) (by kernel_rfl) (by kernel_rfl) (by kernel_rfl) (by kernel_rfl) (by decide) ?_ ?_ ?_ ?_
 · exact ApJ.start _
 · intro i o ho hc a w' us K' hJ hF hlim hk
   match i, ho with
   | 0, ho =>
    simp only [List.getElem?_toArray, List.getElem?_cons_zero, List.getElem?_cons_succ, Option.some.injEq] at ho
    subst ho
    have e0 := hF.old 0 (.pointer (some ⟨b, 0, none⟩)) rfl rfl
    simp only [Act.eval] at e0
    clear hF hlim hJ
    go_simp
    exact hk
   | 1, ho =>
    simp only [List.getElem?_toArray, List.getElem?_cons_zero, List.getElem?_cons_succ, Option.some.injEq] at ho
    subst ho
    have e0 := hF.old 0 (.pointer (some ⟨b, 0, none⟩)) rfl rfl
    simp only [Act.eval] at e0
    clear hF hlim hJ
    go_simp
    exact hk
   | 2, ho =>
    simp only [List.getElem?_toArray, List.getElem?_cons_zero, List.getElem?_cons_succ, Option.some.injEq] at ho
    subst ho
    have e124 := hF.pure 1 124 (.pointer (some ⟨b, 0, none⟩)) rfl rfl rfl rfl
    simp only [Act.eval] at e124
    clear hF hlim hJ
    go_simp
    exact hk
   | 3, ho =>
    simp only [List.getElem?_toArray, List.getElem?_cons_zero, List.getElem?_cons_succ, Option.some.injEq] at ho
    subst ho
    have e125 := hF.pure 2 125 (.pointer (some ⟨b, 0, none⟩)) rfl rfl rfl rfl
    simp only [Act.eval] at e125
    clear hF hlim hJ
    go_simp
    exact hk
   | 4, ho =>
    simp only [List.getElem?_toArray, List.getElem?_cons_zero, List.getElem?_cons_succ, Option.some.injEq] at ho
    subst ho
    have e126 := hF.pure 3 126 (.pointer (some ⟨b, 5, none⟩)) rfl rfl rfl rfl
    have hcl := (blk_kb HBd8.out (hJ.kb (hlim 2 10 rfl (by kernel_rfl)) 27 (by decide))).cell 5
    simp only [List.getElem?_toArray, List.getElem?_cons_zero, List.getElem?_cons_succ] at hcl
    simp only [Act.eval] at e126
    clear hF hlim hJ
    go_simp
    exact hk
   | 5, ho =>
    simp only [List.getElem?_toArray, List.getElem?_cons_zero, List.getElem?_cons_succ, Option.some.injEq] at ho
    subst ho
    have e9 := hF.old 9 (.pointer (some ⟨g0, 0, none⟩)) rfl rfl
    obtain rfl : us = [] := List.eq_nil_of_length_eq_zero (by have := hlim 0 6 rfl (by kernel_rfl); omega)
    exact wp_loadB 53 (.tmp 9) rfl _ 53 _ _ e9 (HBr.out.ext hJ.st) Tryz.underlying53 rfl (by exact size_regX) hk
   | 6, ho => simp at hc
   | 7, ho => simp at hc
   | 8, ho =>
    simp only [List.getElem?_toArray, List.getElem?_cons_zero, List.getElem?_cons_succ, Option.some.injEq] at ho
    subst ho
    have e123 := hF.pure 0 123 (.pointer (some ⟨b, 0, none⟩)) rfl rfl rfl rfl
    simp only [Act.eval] at e123
    clear hF hlim hJ
    go_simp
    exact hk
   | 9, ho =>
    simp only [List.getElem?_toArray, List.getElem?_cons_zero, List.getElem?_cons_succ, Option.some.injEq] at ho
    subst ho
    have e131 := hF.pure 8 131 (.pointer (some ⟨b, 0, none⟩)) rfl rfl rfl rfl
    simp only [Act.eval] at e131
    clear hF hlim hJ
    go_simp
    exact hk
   | 10, ho => simp at hc
   | i + 11, ho => simp at ho
 · intro p c' o hp ho a w' us K' hl hJ hF hk
   match p, hp with
   | 0, hp =>
    obtain rfl : 6 = c' := by simpa using hp
    simp only [List.getElem?_toArray, List.getElem?_cons_zero, List.getElem?_cons_succ, Option.some.injEq] at ho
    subst ho
    obtain rfl : us = [] := List.eq_nil_of_length_eq_zero hl
    have e128 := hF.pure 5 128 (.agg #[.string r.name, .int .i64 r.top, .int .i64 r.height, .int .i64 r.left, .int .i64 r.width, .int .u8 r.align, .bool r.bottom]) rfl rfl rfl rfl
    have HK := Lib.hid (hk (.slice (some ⟨w'.heap.size, 0, none⟩) 1 1) (w'.alloc (.cells #[.string r.name, .int .i64 r.top, .int .i64 r.height, .int .i64 r.left, .int .i64 r.width, .int .u8 r.align, .bool r.bottom] 53)) hJ.build)
    simp [Act.eval] at e128
    clear hk hF hJ
    go_simp
    exact HK.out
   | 1, hp =>
    obtain rfl : 7 = c' := by simpa using hp
    simp only [List.getElem?_toArray, List.getElem?_cons_zero, List.getElem?_cons_succ, Option.some.injEq] at ho
    subst ho
    obtain ⟨u0, rfl⟩ := list_1 hl
    obtain ⟨⟨gu, rfl, hBu⟩, hxu⟩ := hJ.st
    have e127 := hF.pure 4 127 (.slice Ar D.regs.length cr) rfl rfl rfl rfl
    have e129 := hF.link 0 6 129 _ rfl rfl rfl rfl
    exact wp_append1x (.tmp 127) (.tmp 129) 23 rfl info_regI Tryz.underlying23 rfl (by decide) (own_ext HOr.out hxu) e127 gu _ e129 hBu rfl (by simp [Value.oneCell']) (by omega) (by simp [maxLen]; omega) (by have := hxu.size; omega) (fun v' wz hoz hgz hlz => hk v' wz (hJ.app (own_typed (own_ext HOr.out hxu)) hgz hoz))
   | 2, hp =>
    obtain rfl : 10 = c' := by simpa using hp
    simp only [List.getElem?_toArray, List.getElem?_cons_zero, List.getElem?_cons_succ, Option.some.injEq] at ho
    subst ho
    obtain ⟨u0, u1, rfl⟩ := list_2 hl
    obtain ⟨wq, hxq, hgq, hoq⟩ := hJ.st
    obtain ⟨gv, cv, rfl, -, -⟩ := own_form hoq (by omega)
    have e132 := hF.pure 9 132 (.pointer (some ⟨b, 5, none⟩)) rfl rfl rfl rfl
    have e130 := hF.link 1 7 130 _ rfl rfl rfl rfl
    have hbk := blk_kb HBd8.out (hJ.kb (by simp) 27 (by decide))
    have hcl := hbk.cell 5
    simp only [List.getElem?_toArray, List.getElem?_cons_zero, List.getElem?_cons_succ] at hcl
    have hfz := hbk.frozen 5
    have HK := Lib.hid (hk undef _ (hJ.store (u2 := undef)))
    simp [Act.eval] at e132 e130
    clear hk hF hJ
    go_simp
    exact HK.out
   | p + 3, hp => simp at hp
 intro us w9 hl hJ
 obtain ⟨u0, u1, u2, rfl⟩ := list_3 hl
 generalize hL : frameL _ _ _ _ = L
 obtain rfl : L = [(123, .pointer (some ⟨b, 0, none⟩)), (124, .pointer (some ⟨b, 0, none⟩)), (125, .pointer (some ⟨b, 0, none⟩)), (126, .pointer (some ⟨b, 5, none⟩)), (127, .slice Ar D.regs.length cr), (128, .agg #[.string r.name, .int .i64 r.top, .int .i64 r.height, .int .i64 r.left, .int .i64 r.width, .int .u8 r.align, .bool r.bottom]), (129, u0), (130, u1), (131, .pointer (some ⟨b, 0, none⟩)), (132, .pointer (some ⟨b, 5, none⟩))] := hL.symm.trans (by kernel_rfl)
 clear hL hl
 simp only [Act.put, List.foldl_cons, List.foldl_nil, List.setIfInBounds_toArray, List.set_cons_zero, List.set_cons_succ]
 obtain ⟨w5, wv, hx5, hg6, ho6a, hw9a⟩ := hJ.st
 have hor5 := own_ext HOr.out hx5
 have hty5 := own_typed hor5
 obtain ⟨u1, hw9, ho6⟩ : ∃ u, w9 = wv.setCell ⟨b, 5, none⟩ u ∧ wv.ownsRow L 53 7 u (_ + 1) _ := ⟨_, hw9a, ho6a⟩
 clear hw9a ho6a
 have hbv := blk_kb (HBd8.out.ext hx5) (KB.grown hg6 hty5 (show 27 ≠ 53 by decide))
 rw [setCell_put hbv] at hw9
 have hD6 := (HD8.out.ext hx5).reg (r := r) hg6 ho6
 have hk9 : ∀ T : TypeId, T ≠ 27 → KB T wv w9 := fun T hn => by rw [hw9]; exact KB.put hbv hn
 have hD9 := hD6.kb (hk9 _ (by decide)) (hk9 _ (by decide)) (hk9 _ (by decide)) (hk9 _ (by decide)) (by rw [hw9, putB_size]; exact Nat.le_refl _)
 have HBf : Hid (Blk w9 b 27 (docC { D with regs := D.regs ++ [r] } u1 (.slice Ae D.evs.length ce))) := by show Blk _ _ _ _; rw [hw9]; exact hbv.put _
 have HVf := Lib.hid (blk_kb (blk_kb (HV0.out.ext (HXw8.out.trans hx5)) (KB.grown hg6 hty5 (show 146 ≠ 53 by decide))) (hk9 _ (by decide)))
 have HKf : Hid (KpD w w9) := (KpD.ext (HX0.out.trans (HXw8.out.trans hx5))).trans fun T h1 h2 h3 h4 h5 => (KB.grown hg6 hty5 h2).trans (hk9 T h1)
 have HWf : Hid (Below L w w9) := by
  show Below L w w9
  have hxx := HX0.out.trans (HXw8.out.trans hx5)
  rw [hw9]
  exact below_putX (((Below.mono hxx (by omega)).grown hg6 (by have := hxx.size; omega) (fun q hq => own_lt hor5 q hq))) hLb _ _
 have HDf := Lib.hid hD9
 have hcv := fun o => HVf.out.cell o
 clear hJ hx5 hg6 ho6 hw9 hor5 hty5 hbv hD6 hk9 hD9
 try simp only [Exit.inBlock, Exit.then]
 go_wp2_with fail
 all_goals
  go_ret
  exact ⟨rfl, ⟨_, _, hs, Lr, HBf.out, HDf.out, hLb⟩, HWf.out, HKf.out⟩
end
end Go.Proofs.YtbmblnhfmpolbaaGreatDoor