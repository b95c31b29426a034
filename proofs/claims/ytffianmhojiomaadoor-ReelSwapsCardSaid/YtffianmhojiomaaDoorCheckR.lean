/- The walk of the reference's Check. -/
import Derived.Test.YtffianmhojiomaaDoorEdlP
import Derived.Test.YtffianmhojiomaaDoorCharR
import Derived.Test.YtffianmhojiomaaDoorRateR
import Derived.Test.YtffianmhojiomaaDoorReelsR
namespace Go.Proofs.YtffianmhojiomaaDoor
set_option linter.unusedVariables false
set_option linter.unusedSimpArgs false
open Go.RowKit

def RCheckRel (w : World) (day : Int) (n : Nat) (l : List Cut) (v4 v5 i : Value) (wr : World) : Prop :=
  ∃ k : Nat, k ≤ n ∧ i = .int .i64 k ∧ v4 = .int .i64 (laAt l k) ∧ v5 = .int .i64 (ouAt l k) ∧ Ext w wr ∧ cutsErr day 0 0 l = cutsErr day (laAt l k) (ouAt l k) (l.drop k)
theorem lists_step {l : List Cut} {k : Nat} {r : Cut} (hr : l[k]? = some r) : laAt l (k + 1) = r.num ∧ ouAt l (k + 1) = r.out := by simp [laAt, ouAt, hr]
theorem rsize_list : (Tryd.prog.info? 25).map (·.size) = some 4 := by kernel_rfl
set_option maxRecDepth 100000 in
set_option maxHeartbeats 4000000 in
theorem RCheck_any (e : Edl) (A : Option Addr) (n c : Nat) (w : World) (hl : CutsAt w A n e.cuts) (hn : n ≤ 1000000) (hr0 : 0 ≤ e.rate) (hr1 : e.rate ≤ 255) (ht : e.title.size ≤ 140737488351232) (hf : ∀ c ∈ e.cuts, c.Fits) :
    Calls Tryd.prog 29 #[.agg (e.cells A n c)] w fun en w' => en = .returned (.int .i64 (edlErr e)) ∧ Ext w w' := by
  have HL := Lib.hid hl
  have HLn := Lib.hid hl.len
  have HF := Lib.hid hf
  clear hl hf
  have h1 := Lib.hid (@edl_char e)
  have h2 := Lib.hid (@edl_title e)
  have h3 := Lib.hid (@edl_rate e)
  have h4 := Lib.hid (@edl_many e)
  have h5 := Lib.hid (fun x => @edl_cuts e x)
  have h6 := Lib.hid (@edl_reels e)
  have h7 := Lib.hid (@edl_ok e)
  have HRE := Lib.hid (fun w' (hx : Ext w w') => RReels_any e A n c w' (HL.out.ext hx) hn)
  obtain ⟨title, rate, drop, cuts⟩ := e
  unfold Edl.cells at *
  dsimp only at *
  have HX0 := Lib.hid ((Ext.refl w).alloc (.cells #[.string title, .int .u8 rate, .bool drop, .slice A n c] 25))
  have HB0 := Lib.hid (Blk.new w 25 #[.string title, .int .u8 rate, .bool drop, .slice A n c])
  go_enter Tryd.func29, Tryd.ntmps29
  go_wp2_with fail
  refine (RValid_any title _ (by omega)).mono ?_
  rintro en w1 ⟨rfl, hx1⟩
  have HX1 := Lib.hid (HX0.out.trans hx1)
  have HB1 := Lib.hid (HB0.out.ext hx1)
  have hcell1 := fun o => HB1.out.cell o
  cases hv : vld title
  · have HV := Lib.hid hv
    clear hv
    go_wp2_with fail
    go_ret
    exact ⟨ret_int (by rw [h1.out HV.out]), HX1.out⟩
  have HV := Lib.hid hv
  clear hv h1
  by_cases ht4 : 400 < title.size
  · skip
    go_wp2_with fail
    go_ret
    exact ⟨ret_int (by rw [h2.out HV.out ht4]), HX1.out⟩
  have HT := Lib.hid ht4
  clear h2
  go_wp2_with fail
  refine (R3Day_any rate drop _ hr0 hr1).mono ?_
  rintro en w4 ⟨rfl, hx4⟩
  have HX4 := Lib.hid (HX1.out.trans hx4)
  have HB4 := Lib.hid (HB1.out.ext hx4)
  have hcell4 := fun o => HB4.out.cell o
  clear hcell1
  have hd9 := dayOf_bd rate drop
  have HDp := Lib.hid (dayOf_pos rate drop)
  generalize dayOf rate drop = day at *
  cases hok : rateOkB rate drop
  · have HO := Lib.hid hok
    have hz : (day == 0) = true := by rw [HDp.out, hok]; rfl
    have hz2 : day = 0 := by simpa using hz
    subst hz2
    clear hok hz
    go_wp2_with fail
    go_ret
    exact ⟨ret_int (by rw [h3.out HV.out HT.out HO.out]), HX4.out⟩
  have HO := Lib.hid hok
  have hz : (day == 0) = false := by rw [HDp.out, hok]; rfl
  have hz2 : ¬ day = 0 := by simpa using hz
  clear hok
  by_cases h64 : 64 < cuts.length
  · have h64' : (64 : Int) < (n : Int) := by have := HLn.out; omega
    go_wp2_with fail
    go_ret
    exact ⟨ret_int (by rw [h4.out HV.out HT.out HO.out h64]), HX4.out⟩
  have h64' : ¬ (64 : Int) < (n : Int) := by have := HLn.out; omega
  have H64 := Lib.hid h64
  clear h64 h3 h4
  go_wp2_with fail
  go_loopw [4, 5, 31] (fun v4 v5 i wr => RCheckRel w4 day n cuts v4 v5 i wr) (fun _ _ i _ => n - (intOf i).toNat)
  case atStart => exact ⟨0, Nat.zero_le _, rfl, rfl, rfl, Ext.refl _, by simp [laAt, ouAt]⟩
  case round =>
    obtain ⟨k, hk, rfl, rfl, rfl, hx, hP⟩ := hrel
    have HXr := Lib.hid (HX4.out.trans hx)
    have HBr := Lib.hid (HB4.out.ext hx)
    have hcellr := fun o => HBr.out.cell o
    clear hcell4
    by_cases hlt : k < n
    · obtain ⟨b, off, r, rfl, hr, c0, c1, c2, c3, c4, c5, c6⟩ := (HL.out.ext HXr.out).at7 hlt
      have HS := Lib.hid (cuts_step hr hP)
      have hfr : r.Fits := HF.out r (List.mem_of_getElem? hr)
      have HLS := Lib.hid (lists_step hr)
      have HCk := Lib.hid (fun w' => single_any r (laAt cuts k) day w' hfr hd9)
      clear hr hP hfr
      obtain ⟨num, rl, src, inn, out, nn, dd⟩ := r
      have HBc := Lib.hid (Blk.new wr 67 (Cut.cells ⟨num, rl, src, inn, out, nn, dd⟩))
      have HXc := Lib.hid ((Ext.refl wr).alloc (.cells (Cut.cells ⟨num, rl, src, inn, out, nn, dd⟩) 67))
      unfold Cut.cells at HBc HXc HCk
      dsimp only at *
      generalize laAt cuts k = la at *
      generalize ouAt cuts k = ou at *
      go_wp2_with (refine wpList_loadB rfl 67 (.tmp 7) rfl _ 67 _ _ (by exact rfl) (by exact HBc.out) Tryd.underlying67 rfl (by exact size_cut) ?_)
      refine (HCk.out _).mono ?_
      rintro en w5 ⟨rfl, hx5⟩
      have HX5 := Lib.hid (HXc.out.trans hx5)
      have HB5 := Lib.hid (HBc.out.ext hx5)
      have hcell5 := fun o => HB5.out.cell o
      by_cases hce : singleErr ⟨num, rl, src, inn, out, nn, dd⟩ la day = 0
      · rw [hce]
        by_cases hov : inn < ou
        · have HG := Lib.hid (HS.out.2.1 hce hov)
          go_wp2_with fail
          go_ret
          exact ⟨ret_int (by rw [h5.out 14 HV.out HT.out HO.out H64.out HG.out (by decide)]), HXr.out.trans HX5.out⟩
        · have HG := Lib.hid (HS.out.2.2 hce (by omega))
          have HC := Lib.hid hce
          clear hce
          go_wp2_with fail
          go_quiet (fail)
          go_wp2_with fail
          exact ⟨⟨k + 1, by omega, by go_num, by rw [HLS.out.1], by rw [HLS.out.2], hx.trans (HX5.out.drewN _), HG.out⟩, by simp [intOf]; omega⟩
      · have hne : (singleErr ⟨num, rl, src, inn, out, nn, dd⟩ la day != 0) = true := by simpa using hce
        have HC := Lib.hid hce
        have HG := Lib.hid (HS.out.1 hce)
        clear hce
        go_wp2_with fail
        go_ret
        exact ⟨ret_int (by rw [h5.out _ HV.out HT.out HO.out H64.out HG.out HC.out]), HXr.out.trans HX5.out⟩
    · have hkn : k = n := by omega
      subst hkn
      have HZ : Hid (cutsErr day 0 0 cuts = 0) := by
        show _ = _
        rw [hP, List.drop_eq_nil_of_le (by have := HLn.out; omega)]
        rfl
      clear hP
      go_wp2_with (refine wpList_loadB rfl 25 (.tmp 1) rfl _ 25 _ _ (by exact rfl) (by exact HBr.out) Tryd.underlying25 rfl (by exact rsize_list) ?_)
      refine (HRE.out _ HXr.out).mono ?_
      rintro en w5 ⟨A5, m, c5, rfl, hm, hx5⟩
      have HM := Lib.hid hm
      clear hm
      by_cases h16 : 16 < m
      · have h16' : (16 : Int) < (m : Int) := by omega
        go_wp2_with fail
        go_ret
        exact ⟨ret_int (by rw [h6.out HV.out HT.out HO.out H64.out HZ.out (by rw [← HM.out]; exact h16)]), HXr.out.trans hx5⟩
      · have h16' : ¬ (16 : Int) < (m : Int) := by omega
        go_wp2_with fail
        go_ret
        exact ⟨ret_int (by rw [h7.out HV.out HT.out HO.out H64.out HZ.out (by rw [← HM.out]; exact h16)]), HXr.out.trans hx5⟩
end Go.Proofs.YtffianmhojiomaaDoor
