/- Laid together: The walk of the law ReelPieces. -/
import Derived.Test.YtablhmobekmflaaGreatDoorPk07
import Derived.Test.YtablhmobekmflaaGreatDoorPk11

/-! LawPieces -/
namespace Go.Proofs.YtablhmobekmflaaGreatDoor
set_option linter.unusedVariables false
set_option linter.unusedSimpArgs false
open Go.RowKit
set_option maxRecDepth 100000 in
set_option maxHeartbeats 8000000 in
theorem ReelPieces_any (e : Edl) (A : Option Addr) (n c : Nat) (s : ByteArray) (w : World) (hE : Env w) (hl : CutsAt w A n e.cuts) (hok : EdlOk e) :
    Calls Tryz.prog 3 #[.agg (e.cells A n c), .string s] w fun en w' => en = .returned (.bool true) ∧ Ext w w' := by
  have HX := Lib.hid ((Ext.refl w).alloc (.cells (e.cells A n c) 25))
  have HB := Lib.hid (Blk.new w 25 (e.cells A n c))
  have HE := Lib.hid hE
  have HL := Lib.hid hl
  have HSm := Lib.hid (fun w' => small_any e A n c w')
  have HOf := Lib.hid (fun w' => Of_any e A n c w')
  have HK1 := Lib.hid (fun w' (hx : Ext w w') (hn : n ≤ 1000000) => EPieces_any e A n c s w' (hE.ext hx) (hl.ext hx) hn hok)
  have HK2 := Lib.hid (fun w' (hx : Ext w w') (hn : n ≤ 1000000) => R45Pieces_any e A n c s w' (hE.ext hx) (hl.ext hx) hn hok)
  have HK3 := Lib.hid (fun w' (hx : Ext w w') (hn : n ≤ 1000000) => ECover_any e A n c w' (hE.ext hx) (hl.ext hx) hn hok)
  have HK4 := Lib.hid (fun w' (hx : Ext w w') (hn : n ≤ 1000000) => R45Cover_any e A n c w' (hE.ext hx) (hl.ext hx) hn hok)
  have HK5 := Lib.hid (fun w' (hx : Ext w w') (hn : n ≤ 1000000) => EPlayed_any e A n c s w' (hE.ext hx) (hl.ext hx) hn hok)
  have HK6 := Lib.hid (fun w' (hx : Ext w w') (hn : n ≤ 1000000) => R45Played_any e A n c s w' (hE.ext hx) (hl.ext hx) hn hok)
  have HSb : Hid (smallB e n = true → n ≤ 1000000) := fun h => by have := of_decide_eq_true h; omega
  have hb1 : (pcsE e s).length ≤ 4611686018427387904 := by
    unfold pcsE; split
    · rename_i h; have h1 := (edlErr_ok h).2.2.2.1; have h2 := pcsC_len e.cuts s e.cuts.length; rw [List.take_length] at h2; omega
    · simp
  have hb2 : (covE e).length ≤ 4611686018427387904 := by
    unfold covE; split
    · rename_i h; have h1 := (edlErr_ok h).2.2.2.1; have h2 := covC_len e.cuts e.cuts.length; have h3 := (joinS_ok (covC e.cuts)).2.2.1; rw [List.take_length] at h2; omega
    · simp
  have hb3 : (plE e s).length ≤ 4611686018427387904 := by
    unfold plE; split
    · rename_i h; have h1 := (edlErr_ok h).2.2.2.1; have h2 := plC_len e.cuts s e.cuts.length; have h3 := (joinS_ok (plC e.cuts s)).2.2.1; rw [List.take_length] at h2; omega
    · simp
  clear hE hl hok
  unfold LPost at HK1 HK2 HK3 HK4 HK5 HK6
  unfold Edl.cells at *
  generalize pcsE e s = pc at *
  generalize covE e = cv at *
  generalize plE e s = pl at *
  generalize edlErr e = er at *
  go_enter Tryz.func3, Tryz.ntmps3
  go_wp2_with fail
  refine (awake_any _ (HE.out.ext HX.out)).mono ?_
  rintro en w1 ⟨rfl, hx1⟩
  have HX1 := Lib.hid (HX.out.trans hx1)
  have HB1 := Lib.hid (HB.out.ext hx1)
  clear hx1 HX HB
  go_wp2_with (refine wpList_loadB rfl 25 (.tmp 2) rfl w.heap.size 25 _ _ (by exact rfl) (by exact HB1.out) Tryz.underlying25 rfl (by exact rsize_list) ?_)
  refine (HSm.out _).mono ?_
  rintro en w2 ⟨rfl, hx2⟩
  have HX2 := Lib.hid (HX1.out.trans hx2)
  have HB2 := Lib.hid (HB1.out.ext hx2)
  clear hx2 HX1 HB1
  cases hsm : smallB e n
  · go_wp2_with fail
    go_ret
    exact ⟨rfl, HX2.out⟩
  have hn := HSb.out hsm
  clear hsm HSb
  go_wp2_with (refine wpList_loadB rfl 25 (.tmp 2) rfl w.heap.size 25 _ _ (by exact rfl) (by exact HB2.out) Tryz.underlying25 rfl (by exact rsize_list) ?_)
  refine (HOf.out _).mono ?_
  rintro en w3 ⟨rfl, hx3⟩
  have HX3 := Lib.hid (HX2.out.trans hx3)
  have HB3 := Lib.hid (HB2.out.ext hx3)
  clear hx3 HX2 HB2
  go_upto_region 6 with fail
  have HX4 := Lib.hid (HX3.out.alloc (.cells #[.string e.title, .int .u8 e.rate, .bool e.drop, .slice A n c] 28))
  have HB4 := Lib.hid (HB3.out.alloc (.cells #[.string e.title, .int .u8 e.rate, .bool e.drop, .slice A n c] 28))
  have HC4 := Lib.hid (Blk.new w3 28 #[.string e.title, .int .u8 e.rate, .bool e.drop, .slice A n c])
  generalize w3.heap.size = gx at *
  generalize w3.alloc (.cells #[.string e.title, .int .u8 e.rate, .bool e.drop, .slice A n c] 28) = w4 at *
  clear HX3 HB3
  go_wp2_with (refine wpList_loadB rfl 28 (.tmp 5) rfl gx 28 _ _ (by exact rfl) (by exact HC4.out) Tryz.underlying28 rfl (by exact size_list) ?_)
  refine (HK1.out _ HX4.out hn).mono ?_
  rintro en w5 ⟨A1, c1, rfl, hs1, -, hx5, -⟩
  have HS1 := Lib.hid hs1
  have HX5 := Lib.hid (HX4.out.trans hx5)
  have HB5 := Lib.hid (HB4.out.ext hx5)
  have HC5 := Lib.hid (HC4.out.ext hx5)
  clear hx5 hs1 HX4 HB4 HC4 HK1
  go_wp2_with (refine wpList_loadB rfl 25 (.tmp 2) rfl w.heap.size 25 _ _ (by exact rfl) (by exact HB5.out) Tryz.underlying25 rfl (by exact rsize_list) ?_)
  refine (HK2.out _ HX5.out hn).mono ?_
  rintro en w6 ⟨A2, c2, rfl, hs2, -, hx6, -⟩
  replace HS1 := Lib.hid (Sl.ext (Cells.stays _) HS1.out hx6)
  have HS2 := Lib.hid hs2
  have HX6 := Lib.hid (HX5.out.trans hx6)
  have HB6 := Lib.hid (HB5.out.ext hx6)
  have HC6 := Lib.hid (HC5.out.ext hx6)
  clear hx6 hs2 HX5 HB5 HC5 HK2
  go_wp2_with (refine wpList_loadB rfl 28 (.tmp 5) rfl gx 28 _ _ (by exact rfl) (by exact HC6.out) Tryz.underlying28 rfl (by exact size_list) ?_)
  refine (HK3.out _ HX6.out hn).mono ?_
  rintro en w7 ⟨A3, c3, rfl, hs3, -, hx7, -⟩
  replace HS1 := Lib.hid (Sl.ext (Cells.stays _) HS1.out hx7)
  replace HS2 := Lib.hid (Sl.ext (Cells.stays _) HS2.out hx7)
  have HS3 := Lib.hid hs3
  have HX7 := Lib.hid (HX6.out.trans hx7)
  have HB7 := Lib.hid (HB6.out.ext hx7)
  have HC7 := Lib.hid (HC6.out.ext hx7)
  clear hx7 hs3 HX6 HB6 HC6 HK3
  go_wp2_with (refine wpList_loadB rfl 25 (.tmp 2) rfl w.heap.size 25 _ _ (by exact rfl) (by exact HB7.out) Tryz.underlying25 rfl (by exact rsize_list) ?_)
  refine (HK4.out _ HX7.out hn).mono ?_
  rintro en w8 ⟨A4, c4, rfl, hs4, -, hx8, -⟩
  replace HS1 := Lib.hid (Sl.ext (Cells.stays _) HS1.out hx8)
  replace HS2 := Lib.hid (Sl.ext (Cells.stays _) HS2.out hx8)
  replace HS3 := Lib.hid (Sl.ext (Cells.stays _) HS3.out hx8)
  have HS4 := Lib.hid hs4
  have HX8 := Lib.hid (HX7.out.trans hx8)
  have HB8 := Lib.hid (HB7.out.ext hx8)
  have HC8 := Lib.hid (HC7.out.ext hx8)
  clear hx8 hs4 HX7 HB7 HC7 HK4
  go_wp2_with (refine wpList_loadB rfl 28 (.tmp 5) rfl gx 28 _ _ (by exact rfl) (by exact HC8.out) Tryz.underlying28 rfl (by exact size_list) ?_)
  refine (HK5.out _ HX8.out hn).mono ?_
  rintro en w9 ⟨A5, c5, rfl, hs5, -, hx9, -⟩
  replace HS1 := Lib.hid (Sl.ext (Cells.stays _) HS1.out hx9)
  replace HS2 := Lib.hid (Sl.ext (Cells.stays _) HS2.out hx9)
  replace HS3 := Lib.hid (Sl.ext (Cells.stays _) HS3.out hx9)
  replace HS4 := Lib.hid (Sl.ext (Cells.stays _) HS4.out hx9)
  have HS5 := Lib.hid hs5
  have HX9 := Lib.hid (HX8.out.trans hx9)
  have HB9 := Lib.hid (HB8.out.ext hx9)
  have HC9 := Lib.hid (HC8.out.ext hx9)
  clear hx9 hs5 HX8 HB8 HC8 HK5
  go_wp2_with (refine wpList_loadB rfl 25 (.tmp 2) rfl w.heap.size 25 _ _ (by exact rfl) (by exact HB9.out) Tryz.underlying25 rfl (by exact rsize_list) ?_)
  refine (HK6.out _ HX9.out hn).mono ?_
  rintro en w10 ⟨A6, c6, rfl, hs6, -, hx10, -⟩
  replace HS1 := Lib.hid (Sl.ext (Cells.stays _) HS1.out hx10)
  replace HS2 := Lib.hid (Sl.ext (Cells.stays _) HS2.out hx10)
  replace HS3 := Lib.hid (Sl.ext (Cells.stays _) HS3.out hx10)
  replace HS4 := Lib.hid (Sl.ext (Cells.stays _) HS4.out hx10)
  replace HS5 := Lib.hid (Sl.ext (Cells.stays _) HS5.out hx10)
  have HS6 := Lib.hid hs6
  have HX10 := Lib.hid (HX9.out.trans hx10)
  have HB10 := Lib.hid (HB9.out.ext hx10)
  have HC10 := Lib.hid (HC9.out.ext hx10)
  clear hx10 hs6 HX9 HB9 HC9 HK6
  have HQ1 := Lib.hid (R6Same_any A1 pc.length c1 A2 pc.length c2 pc pc w10 HS1.out HS2.out hb1)
  have HQ2 := Lib.hid (fun w' (hx : Ext w10 w') => R5Same_any A3 cv.length c3 A4 cv.length c4 cv cv w' (Sl.ext (Cells.stays _) HS3.out hx) (Sl.ext (Cells.stays _) HS4.out hx) hb2)
  have HQ3 := Lib.hid (fun w' (hx : Ext w10 w') => R5Same_any A5 pl.length c5 A6 pl.length c6 pl pl w' (Sl.ext (Cells.stays _) HS5.out hx) (Sl.ext (Cells.stays _) HS6.out hx) hb3)
  simp only [decide_true] at HQ1 HQ2 HQ3
  generalize pc.length = n1 at *
  generalize cv.length = n2 at *
  generalize pl.length = n3 at *
  go_wp2_with fail
  refine HQ1.out.mono ?_
  rintro en w11 ⟨rfl, hx11⟩
  have HX11 := Lib.hid hx11
  clear hx11 HQ1
  go_wp2_with fail
  refine (HQ2.out _ HX11.out).mono ?_
  rintro en w12 ⟨rfl, hx12⟩
  have HX12 := Lib.hid (HX11.out.trans hx12)
  clear hx12 HQ2
  go_wp2_with fail
  refine (HQ3.out _ HX12.out).mono ?_
  rintro en w13 ⟨rfl, hx13⟩
  have HX13 := Lib.hid (HX10.out.trans (HX12.out.trans hx13))
  clear hx13 HQ3
  go_wp2_with fail
  go_ret
  exact ⟨rfl, HX13.out⟩
end Go.Proofs.YtablhmobekmflaaGreatDoor
