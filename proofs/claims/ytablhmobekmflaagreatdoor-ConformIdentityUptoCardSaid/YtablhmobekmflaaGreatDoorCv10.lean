/- Laid together: The walk of edl.Check. The walks of the reference's charset: Repertoire, Index, Valid. The walks of the references' rates: Valid, CanDrop, Nominal, Dropped, Day. The walk of the reference's Reels: names, set into a list at their places. The walk of the reference's Check. The walks of reel.At and of the reference's At. Lists of cuts among the arguments, opened. -/
import Derived.Test.YtablhmobekmflaaGreatDoorCv09
import Derived.Test.YtablhmobekmflaaGreatDoorCv02
import Derived.Lib.ValidLaws
import Derived.Lib.TrimUEq
import Derived.Test.YtablhmobekmflaaGreatDoorCv04
import Derived.Sort.Walk0
import Derived.Test.YtablhmobekmflaaGreatDoorCv05
import Derived.Test.YtablhmobekmflaaGreatDoorCv01
set_option linter.unusedVariables false
set_option linter.unusedSimpArgs false
/-! Check -/
namespace Go.Proofs.YtablhmobekmflaaGreatDoor
open Go.RowKit
def Chk45Rel (w : World) (day : Int) (n : Nat) (l : List Cut) (i : Value) (wr : World) : Prop :=
 ∃ k : Nat, k ≤ n ∧ i = .int .i64 k ∧ Ext w wr ∧ cutsErr day 0 0 l = cutsErr day (laAt l k) (ouAt l k) (l.drop k)
theorem prev_at {w : World} {A : Option Addr} {n : Nat} {l : List Cut} (h : CutsAt w A n l) {k : Nat} (hk : k ≤ n) (h0 : 0 < k) : ∃ b off, A = some ⟨b, off, none⟩ ∧
 w.cell? ⟨b, off + (k - 1) * 7, none⟩ = some (.int .i64 (laAt l k)) ∧ w.cell? ⟨b, off + (k - 1) * 7 + 4, none⟩ = some (.int .i64 (ouAt l k)) := by
 obtain ⟨j, rfl⟩ : ∃ j, k = j + 1 := ⟨k - 1, by omega⟩
 obtain ⟨b, off, c, hA, hc, c0, c1, c2, c3, c4, c5, c6⟩ := h.at7 (i := j) (by omega)
 refine ⟨b, off, hA, ?_, ?_⟩
 · simpa [laAt, hc] using c0
 · simpa [ouAt, hc] using c4
theorem size_list : (Tryz.prog.info? 28).map (·.size) = some 4 := by kernel_rfl
set_option maxRecDepth 100000 in
set_option maxHeartbeats 4000000 in
theorem Check_any (e : Edl) (A : Option Addr) (n c : Nat) (w : World) (hE : Env w) (hl : CutsAt w A n e.cuts) (hn : n ≤ 1000000) (hr0 : 0 ≤ e.rate) (hr1 : e.rate ≤ 255) (ht : e.title.size ≤ 140737488351232) (hf : ∀ c ∈ e.cuts, c.Fits) :
 Calls Tryz.prog 41 #[.agg (e.cells A n c)] w fun en w' => en = .returned (.int .i64 (edlErr e)) ∧ Ext w w' := by
 have HL := Lib.hid hl
 have HLn := Lib.hid hl.len
 have HF := Lib.hid hf
 have HE := Lib.hid hE
 clear hl hf hE
 have h1 := Lib.hid (@edl_char e)
 have h2 := Lib.hid (@edl_title e)
 have h3 := Lib.hid (@edl_rate e)
 have h4 := Lib.hid (@edl_many e)
 have h5 := Lib.hid (fun x => @edl_cuts e x)
 have h6 := Lib.hid (@edl_reels e)
 have h7 := Lib.hid (@edl_ok e)
 have HRE := Lib.hid (fun w' (hx : Ext w w') => Reels_any e A n c w' (HL.out.ext hx) hn)
 obtain ⟨title, rate, drop, cuts⟩ := e
 unfold Edl.cells at *
 dsimp only at *
 have HX0 := Lib.hid ((Ext.refl w).alloc (.cells #[.string title, .int .u8 rate, .bool drop, .slice A n c] 28))
 have HB0 := Lib.hid (Blk.new w 28 #[.string title, .int .u8 rate, .bool drop, .slice A n c])
 go_enter Tryz.func41, Tryz.ntmps41
 go_wp2_with fail
 refine (Valid_any title _ (HE.out.ext HX0.out) (by omega)).mono ?_
 rintro en w1 ⟨rfl, hx1⟩
 have HX1 := Lib.hid (HX0.out.trans hx1)
 have HB1 := Lib.hid (HB0.out.ext hx1)
 have hcell1 := fun o => HB1.out.cell o
 cases hv : vld title
 · have HV := Lib.hid hv
   clear hv
   go_wp2_with fail
   go_ret
   exact ⟨ret_int (by rw [h1.out HV.out]), HX1.out⟩
 have HV := Lib.hid hv
 clear hv h1
 by_cases ht4 : 400 < title.size
 · skip
   go_wp2_with fail
   go_ret
   exact ⟨ret_int (by rw [h2.out HV.out ht4]), HX1.out⟩
 have HT := Lib.hid ht4
 clear h2
 go_wp2_with fail
 refine (TBValid_any rate _ hr0 hr1).mono ?_
 rintro en w2 ⟨rfl, hx2⟩
 have HX2 := Lib.hid (HX1.out.trans hx2)
 have HB2 := Lib.hid (HB1.out.ext hx2)
 have hcell2 := fun o => HB2.out.cell o
 clear hcell1
 cases hok : rOk rate
 · have HO : Hid (rateOkB rate drop = false) := by show _ = _; unfold rateOkB; rw [hok]; rfl
   clear hok
   go_wp2_with fail
   go_ret
   exact ⟨ret_int (by rw [h3.out HV.out HT.out HO.out]), HX2.out⟩
 cases drop
 · have HO : Hid (rateOkB rate false = true) := by show _ = _; unfold rateOkB; rw [hok]; rfl
   clear hok
   have HX3 := HX2
   have HB3 := HB2
   have hcell3 := hcell2
   clear hcell2
   by_cases h64 : 64 < cuts.length
   · have h64' : (64 : Int) < (n : Int) := by have := HLn.out; omega
     go_wp2_with fail
     go_ret
     exact ⟨ret_int (by rw [h4.out HV.out HT.out HO.out h64]), HX3.out⟩
   have h64' : ¬ (64 : Int) < (n : Int) := by have := HLn.out; omega
   have H64 := Lib.hid h64
   clear h64 h3 h4
   go_wp2_with fail
   refine (Day_any rate false _ hr0 hr1).mono ?_
   rintro en w4 ⟨rfl, hx4⟩
   have HX4 := Lib.hid (HX3.out.trans hx4)
   have HB4 := Lib.hid (HB3.out.ext hx4)
   have hcell4 := fun o => HB4.out.cell o
   clear hcell3
   have hd9 := dayOf_bd rate false
   have HD : Hid (∃ day, day = dayOf rate false) := ⟨_, rfl⟩
   generalize dayOf rate false = day at *
   clear HD
   go_wp2_with fail
   go_loopw [45] (fun i wr => Chk45Rel w4 day n cuts i wr) (fun i _ => n - (intOf i).toNat)
   case atStart => exact ⟨0, Nat.zero_le _, rfl, Ext.refl _, by simp [laAt, ouAt]⟩
   case round =>
    obtain ⟨k, hk, rfl, hx, hP⟩ := hrel
    have HXr := Lib.hid (HX4.out.trans hx)
    have HBr := Lib.hid (HB4.out.ext hx)
    have hcellr := fun o => HBr.out.cell o
    clear hcell4
    by_cases hlt : k < n
    · obtain ⟨b, off, r, rfl, hr, c0, c1, c2, c3, c4, c5, c6⟩ := (HL.out.ext HXr.out).at7 hlt
      skip
      have HS := Lib.hid (cuts_step hr hP)
      have hfr : r.Fits := HF.out r (List.mem_of_getElem? hr)
      have HFr := Lib.hid hfr
      have HN1 := Lib.hid (@single_num r (laAt cuts k) day)
      have HN2 := Lib.hid (@single_ord r (laAt cuts k) day)
      have HN3 := Lib.hid (@single_cut r (laAt cuts k) day)
      have HI := Lib.hid (@cutErr_inn r day)
      have HCk := Lib.hid (fun w' => checkCut_any r day w' hfr hd9)
      have HPr := Lib.hid (fun h0 => prev_at (HL.out.ext HXr.out) (k := k) hk h0)
      have HLa0 : Hid (k = 0 → laAt cuts k = 0 ∧ ouAt cuts k = 0) := fun h => by subst h; exact ⟨rfl, rfl⟩
      clear hr hP hfr
      obtain ⟨num, rl, src, inn, out, nn, dd⟩ := r
      have HBc := Lib.hid (Blk.new wr 91 (Cut.cells ⟨num, rl, src, inn, out, nn, dd⟩))
      have HXc := Lib.hid ((Ext.refl wr).alloc (.cells (Cut.cells ⟨num, rl, src, inn, out, nn, dd⟩) 91))
      unfold Cut.cells at HBc HXc HCk
      dsimp only at *
      generalize laAt cuts k = la at *
      generalize ouAt cuts k = ou at *
      by_cases hn1 : num < 1
      · go_wp2_with fail
        go_ret
        exact ⟨ret_int (by rw [h5.out 2 HV.out HT.out HO.out H64.out (by rw [HS.out.1 (by rw [HN1.out (.inl hn1)]; decide), HN1.out (.inl hn1)]) (by decide)]), HXr.out.trans HXc.out⟩
      by_cases hn2 : 999 < num
      · go_wp2_with fail
        go_ret
        exact ⟨ret_int (by rw [h5.out 2 HV.out HT.out HO.out H64.out (by rw [HS.out.1 (by rw [HN1.out (.inr hn2)]; decide), HN1.out (.inr hn2)]) (by decide)]), HXr.out.trans HXc.out⟩
      have HNN : Hid (¬ (num < 1 ∨ 999 < num)) := by show ¬ _; omega
      by_cases hk0 : k = 0
      · obtain ⟨rfl, rfl⟩ := HLa0.out hk0
        subst hk0
        simp only [Nat.zero_mul, Nat.add_zero] at c0 c1 c2 c3 c4 c5 c6
        have HOr : Hid (¬ num ≤ 0) := by show ¬ _; omega
        go_wp2_with fail
        go_quiet (fail)
        go_wp2_with (refine wpList_loadB rfl 91 (.tmp 5) rfl _ 91 _ _ (by exact rfl) (by exact HBc.out.ext ((Ext.refl _).drewN _)) Tryz.underlying91 rfl (by exact size_cut) ?_)
        refine (HCk.out _).mono ?_
        rintro en w5 ⟨rfl, hx5⟩
        have HX5 := Lib.hid ((HXc.out.drewN _).trans hx5)
        have HB5 := Lib.hid ((HBc.out.ext ((Ext.refl _).drewN _)).ext hx5)
        have hcell5 := fun o => HB5.out.cell o
        have HSg := Lib.hid (HN3.out HNN.out HOr.out)
        by_cases hce : cutErr ⟨num, rl, src, inn, out, nn, dd⟩ day = 0
        · have HI0 := HI.out hce
          have HG := Lib.hid (HS.out.2.2 (HSg.out.trans hce) (by omega))
          rw [hce]
          go_wp2_with fail
          go_quiet (fail)
          go_wp2_with fail
          exact ⟨⟨1, by omega, by go_num, hx.trans (HX5.out.drewN _), HG.out⟩, by simp [intOf]; omega⟩
        · have hne : (cutErr ⟨num, rl, src, inn, out, nn, dd⟩ day != 0) = true := by simpa using hce
          have HC := Lib.hid hce
          have HG := Lib.hid (HS.out.1 (by rw [HSg.out]; exact hce))
          clear hce
          go_wp2_with fail
          go_ret
          exact ⟨ret_int (by rw [h5.out _ HV.out HT.out HO.out H64.out HG.out (by rw [HSg.out]; exact HC.out), HSg.out]), HXr.out.trans HX5.out⟩
      · obtain ⟨b', off', hA, p0, p4⟩ := HPr.out (by omega)
        cases hA
        have hki : (0 : Int) < (k : Int) := by omega
        have hkp : 0 < k := by omega
        have hcc := fun o => HBc.out.cell o
        have hcl := fun o => (HBr.out.ext HXc.out).cell o
        have pp0 := HXc.out.cell p0
        have hk1 : ((k : Int) - 1).toNat = k - 1 := by omega
        have hk2 : (k : Int) - 1 = ((k - 1 : Nat) : Int) := by omega
        by_cases hor : num ≤ la
        · go_wp2_with fail
          go_quiet (fail)
          go_wp2_with fail
          go_ret
          exact ⟨ret_int (by rw [h5.out 8 HV.out HT.out HO.out H64.out (by rw [HS.out.1 (by rw [HN2.out HNN.out hor]; decide), HN2.out HNN.out hor]) (by decide)]), (HXr.out.trans HXc.out).drewN _⟩
        · go_wp2_with fail
          go_quiet (fail)
          go_wp2_with (refine wpList_loadB rfl 91 (.tmp 5) rfl _ 91 _ _ (by exact rfl) (by exact HBc.out.ext ((Ext.refl _).drewN _)) Tryz.underlying91 rfl (by exact size_cut) ?_)
          refine (HCk.out _).mono ?_
          rintro en w5 ⟨rfl, hx5⟩
          have HX5 := Lib.hid ((HXc.out.drewN _).trans hx5)
          have HB5 := Lib.hid ((HBc.out.ext ((Ext.refl _).drewN _)).ext hx5)
          have HBl := Lib.hid (HBr.out.ext HX5.out)
          have hcell5 := fun o => HB5.out.cell o
          have hcelll := fun o => HBl.out.cell o
          have q0 := HX5.out.cell p0
          have q4 := HX5.out.cell p4
          have HSg := Lib.hid (HN3.out HNN.out hor)
          clear p0 p4 hcellr hcc hcl pp0
          by_cases hce : cutErr ⟨num, rl, src, inn, out, nn, dd⟩ day = 0
          · rw [hce]
            by_cases hov : inn < ou
            · have HG := Lib.hid (HS.out.2.1 (HSg.out.trans hce) hov)
              go_wp2_with fail
              go_quiet (fail)
              go_wp2_with fail
              go_ret
              exact ⟨ret_int (by rw [h5.out 14 HV.out HT.out HO.out H64.out HG.out (by decide)]), (HXr.out.trans HX5.out).drewN _⟩
            · have HG := Lib.hid (HS.out.2.2 (HSg.out.trans hce) (by omega))
              go_wp2_with fail
              go_quiet (fail)
              go_wp2_with fail
              exact ⟨⟨k + 1, by omega, by go_num, hx.trans (HX5.out.drewN _), HG.out⟩, by simp [intOf]; omega⟩
          · have hne : (cutErr ⟨num, rl, src, inn, out, nn, dd⟩ day != 0) = true := by simpa using hce
            have HC := Lib.hid hce
            have HG := Lib.hid (HS.out.1 (by rw [HSg.out]; exact hce))
            clear hce
            go_wp2_with fail
            go_ret
            exact ⟨ret_int (by rw [h5.out _ HV.out HT.out HO.out H64.out HG.out (by rw [HSg.out]; exact HC.out), HSg.out]), HXr.out.trans HX5.out⟩
    · have hkn : k = n := by omega
      subst hkn
      have HZ : Hid (cutsErr day 0 0 cuts = 0) := by
       show _ = _
       rw [hP, List.drop_eq_nil_of_le (by have := HLn.out; omega)]
       rfl
      clear hP
      go_wp2_with (refine wpList_loadB rfl 28 (.tmp 1) rfl _ 28 _ _ (by exact rfl) (by exact HBr.out) Tryz.underlying28 rfl (by exact size_list) ?_)
      refine (HRE.out _ HXr.out).mono ?_
      rintro en w5 ⟨A5, m, c5, rfl, hm, hx5⟩
      have HM := Lib.hid hm
      clear hm
      by_cases h16 : 16 < m
      · have h16' : (16 : Int) < (m : Int) := by omega
        go_wp2_with fail
        go_ret
        exact ⟨ret_int (by rw [h6.out HV.out HT.out HO.out H64.out HZ.out (by rw [← HM.out]; exact h16)]), HXr.out.trans hx5⟩
      · have h16' : ¬ (16 : Int) < (m : Int) := by omega
        go_wp2_with fail
        go_ret
        exact ⟨ret_int (by rw [h7.out HV.out HT.out HO.out H64.out HZ.out (by rw [← HM.out]; exact h16)]), HXr.out.trans hx5⟩
 · go_wp2_with fail
   refine (CanDrop_any rate _ hr0 hr1).mono ?_
   rintro en w3 ⟨rfl, hx3⟩
   have HX3 := Lib.hid (HX2.out.trans hx3)
   have HB3 := Lib.hid (HB2.out.ext hx3)
   have hcell3 := fun o => HB3.out.cell o
   clear hcell2
   cases hdr : rDrop rate
   · have HO : Hid (rateOkB rate true = false) := by show _ = _; unfold rateOkB; rw [hok, hdr]; rfl
     clear hok hdr
     go_wp2_with fail
     go_ret
     exact ⟨ret_int (by rw [h3.out HV.out HT.out HO.out]), HX3.out⟩
   have HO : Hid (rateOkB rate true = true) := by show _ = _; unfold rateOkB; rw [hok, hdr]; rfl
   clear hok hdr
   by_cases h64 : 64 < cuts.length
   · have h64' : (64 : Int) < (n : Int) := by have := HLn.out; omega
     go_wp2_with fail
     go_ret
     exact ⟨ret_int (by rw [h4.out HV.out HT.out HO.out h64]), HX3.out⟩
   have h64' : ¬ (64 : Int) < (n : Int) := by have := HLn.out; omega
   have H64 := Lib.hid h64
   clear h64 h3 h4
   go_wp2_with fail
   refine (Day_any rate true _ hr0 hr1).mono ?_
   rintro en w4 ⟨rfl, hx4⟩
   have HX4 := Lib.hid (HX3.out.trans hx4)
   have HB4 := Lib.hid (HB3.out.ext hx4)
   have hcell4 := fun o => HB4.out.cell o
   clear hcell3
   have hd9 := dayOf_bd rate true
   have HD : Hid (∃ day, day = dayOf rate true) := ⟨_, rfl⟩
   generalize dayOf rate true = day at *
   clear HD
   go_wp2_with fail
   go_loopw [45] (fun i wr => Chk45Rel w4 day n cuts i wr) (fun i _ => n - (intOf i).toNat)
   case atStart => exact ⟨0, Nat.zero_le _, rfl, Ext.refl _, by simp [laAt, ouAt]⟩
   case round =>
    obtain ⟨k, hk, rfl, hx, hP⟩ := hrel
    have HXr := Lib.hid (HX4.out.trans hx)
    have HBr := Lib.hid (HB4.out.ext hx)
    have hcellr := fun o => HBr.out.cell o
    clear hcell4
    by_cases hlt : k < n
    · obtain ⟨b, off, r, rfl, hr, c0, c1, c2, c3, c4, c5, c6⟩ := (HL.out.ext HXr.out).at7 hlt
      skip
      have HS := Lib.hid (cuts_step hr hP)
      have hfr : r.Fits := HF.out r (List.mem_of_getElem? hr)
      have HFr := Lib.hid hfr
      have HN1 := Lib.hid (@single_num r (laAt cuts k) day)
      have HN2 := Lib.hid (@single_ord r (laAt cuts k) day)
      have HN3 := Lib.hid (@single_cut r (laAt cuts k) day)
      have HI := Lib.hid (@cutErr_inn r day)
      have HCk := Lib.hid (fun w' => checkCut_any r day w' hfr hd9)
      have HPr := Lib.hid (fun h0 => prev_at (HL.out.ext HXr.out) (k := k) hk h0)
      have HLa0 : Hid (k = 0 → laAt cuts k = 0 ∧ ouAt cuts k = 0) := fun h => by subst h; exact ⟨rfl, rfl⟩
      clear hr hP hfr
      obtain ⟨num, rl, src, inn, out, nn, dd⟩ := r
      have HBc := Lib.hid (Blk.new wr 91 (Cut.cells ⟨num, rl, src, inn, out, nn, dd⟩))
      have HXc := Lib.hid ((Ext.refl wr).alloc (.cells (Cut.cells ⟨num, rl, src, inn, out, nn, dd⟩) 91))
      unfold Cut.cells at HBc HXc HCk
      dsimp only at *
      generalize laAt cuts k = la at *
      generalize ouAt cuts k = ou at *
      by_cases hn1 : num < 1
      · go_wp2_with fail
        go_ret
        exact ⟨ret_int (by rw [h5.out 2 HV.out HT.out HO.out H64.out (by rw [HS.out.1 (by rw [HN1.out (.inl hn1)]; decide), HN1.out (.inl hn1)]) (by decide)]), HXr.out.trans HXc.out⟩
      by_cases hn2 : 999 < num
      · go_wp2_with fail
        go_ret
        exact ⟨ret_int (by rw [h5.out 2 HV.out HT.out HO.out H64.out (by rw [HS.out.1 (by rw [HN1.out (.inr hn2)]; decide), HN1.out (.inr hn2)]) (by decide)]), HXr.out.trans HXc.out⟩
      have HNN : Hid (¬ (num < 1 ∨ 999 < num)) := by show ¬ _; omega
      by_cases hk0 : k = 0
      · obtain ⟨rfl, rfl⟩ := HLa0.out hk0
        subst hk0
        simp only [Nat.zero_mul, Nat.add_zero] at c0 c1 c2 c3 c4 c5 c6
        have HOr : Hid (¬ num ≤ 0) := by show ¬ _; omega
        go_wp2_with fail
        go_quiet (fail)
        go_wp2_with (refine wpList_loadB rfl 91 (.tmp 5) rfl _ 91 _ _ (by exact rfl) (by exact HBc.out.ext ((Ext.refl _).drewN _)) Tryz.underlying91 rfl (by exact size_cut) ?_)
        refine (HCk.out _).mono ?_
        rintro en w5 ⟨rfl, hx5⟩
        have HX5 := Lib.hid ((HXc.out.drewN _).trans hx5)
        have HB5 := Lib.hid ((HBc.out.ext ((Ext.refl _).drewN _)).ext hx5)
        have hcell5 := fun o => HB5.out.cell o
        have HSg := Lib.hid (HN3.out HNN.out HOr.out)
        by_cases hce : cutErr ⟨num, rl, src, inn, out, nn, dd⟩ day = 0
        · have HI0 := HI.out hce
          have HG := Lib.hid (HS.out.2.2 (HSg.out.trans hce) (by omega))
          rw [hce]
          go_wp2_with fail
          go_quiet (fail)
          go_wp2_with fail
          exact ⟨⟨1, by omega, by go_num, hx.trans (HX5.out.drewN _), HG.out⟩, by simp [intOf]; omega⟩
        · have hne : (cutErr ⟨num, rl, src, inn, out, nn, dd⟩ day != 0) = true := by simpa using hce
          have HC := Lib.hid hce
          have HG := Lib.hid (HS.out.1 (by rw [HSg.out]; exact hce))
          clear hce
          go_wp2_with fail
          go_ret
          exact ⟨ret_int (by rw [h5.out _ HV.out HT.out HO.out H64.out HG.out (by rw [HSg.out]; exact HC.out), HSg.out]), HXr.out.trans HX5.out⟩
      · obtain ⟨b', off', hA, p0, p4⟩ := HPr.out (by omega)
        cases hA
        have hki : (0 : Int) < (k : Int) := by omega
        have hkp : 0 < k := by omega
        have hcc := fun o => HBc.out.cell o
        have hcl := fun o => (HBr.out.ext HXc.out).cell o
        have pp0 := HXc.out.cell p0
        have hk1 : ((k : Int) - 1).toNat = k - 1 := by omega
        have hk2 : (k : Int) - 1 = ((k - 1 : Nat) : Int) := by omega
        by_cases hor : num ≤ la
        · go_wp2_with fail
          go_quiet (fail)
          go_wp2_with fail
          go_ret
          exact ⟨ret_int (by rw [h5.out 8 HV.out HT.out HO.out H64.out (by rw [HS.out.1 (by rw [HN2.out HNN.out hor]; decide), HN2.out HNN.out hor]) (by decide)]), (HXr.out.trans HXc.out).drewN _⟩
        · go_wp2_with fail
          go_quiet (fail)
          go_wp2_with (refine wpList_loadB rfl 91 (.tmp 5) rfl _ 91 _ _ (by exact rfl) (by exact HBc.out.ext ((Ext.refl _).drewN _)) Tryz.underlying91 rfl (by exact size_cut) ?_)
          refine (HCk.out _).mono ?_
          rintro en w5 ⟨rfl, hx5⟩
          have HX5 := Lib.hid ((HXc.out.drewN _).trans hx5)
          have HB5 := Lib.hid ((HBc.out.ext ((Ext.refl _).drewN _)).ext hx5)
          have HBl := Lib.hid (HBr.out.ext HX5.out)
          have hcell5 := fun o => HB5.out.cell o
          have hcelll := fun o => HBl.out.cell o
          have q0 := HX5.out.cell p0
          have q4 := HX5.out.cell p4
          have HSg := Lib.hid (HN3.out HNN.out hor)
          clear p0 p4 hcellr hcc hcl pp0
          by_cases hce : cutErr ⟨num, rl, src, inn, out, nn, dd⟩ day = 0
          · rw [hce]
            by_cases hov : inn < ou
            · have HG := Lib.hid (HS.out.2.1 (HSg.out.trans hce) hov)
              go_wp2_with fail
              go_quiet (fail)
              go_wp2_with fail
              go_ret
              exact ⟨ret_int (by rw [h5.out 14 HV.out HT.out HO.out H64.out HG.out (by decide)]), (HXr.out.trans HX5.out).drewN _⟩
            · have HG := Lib.hid (HS.out.2.2 (HSg.out.trans hce) (by omega))
              go_wp2_with fail
              go_quiet (fail)
              go_wp2_with fail
              exact ⟨⟨k + 1, by omega, by go_num, hx.trans (HX5.out.drewN _), HG.out⟩, by simp [intOf]; omega⟩
          · have hne : (cutErr ⟨num, rl, src, inn, out, nn, dd⟩ day != 0) = true := by simpa using hce
            have HC := Lib.hid hce
            have HG := Lib.hid (HS.out.1 (by rw [HSg.out]; exact hce))
            clear hce
            go_wp2_with fail
            go_ret
            exact ⟨ret_int (by rw [h5.out _ HV.out HT.out HO.out H64.out HG.out (by rw [HSg.out]; exact HC.out), HSg.out]), HXr.out.trans HX5.out⟩
    · have hkn : k = n := by omega
      subst hkn
      have HZ : Hid (cutsErr day 0 0 cuts = 0) := by
       show _ = _
       rw [hP, List.drop_eq_nil_of_le (by have := HLn.out; omega)]
       rfl
      clear hP
      go_wp2_with (refine wpList_loadB rfl 28 (.tmp 1) rfl _ 28 _ _ (by exact rfl) (by exact HBr.out) Tryz.underlying28 rfl (by exact size_list) ?_)
      refine (HRE.out _ HXr.out).mono ?_
      rintro en w5 ⟨A5, m, c5, rfl, hm, hx5⟩
      have HM := Lib.hid hm
      clear hm
      by_cases h16 : 16 < m
      · have h16' : (16 : Int) < (m : Int) := by omega
        go_wp2_with fail
        go_ret
        exact ⟨ret_int (by rw [h6.out HV.out HT.out HO.out H64.out HZ.out (by rw [← HM.out]; exact h16)]), HXr.out.trans hx5⟩
      · have h16' : ¬ (16 : Int) < (m : Int) := by omega
        go_wp2_with fail
        go_ret
        exact ⟨ret_int (by rw [h7.out HV.out HT.out HO.out H64.out HZ.out (by rw [← HM.out]; exact h16)]), HXr.out.trans hx5⟩
end Go.Proofs.YtablhmobekmflaaGreatDoor
/-! CharR -/
namespace Go.Proofs.YtablhmobekmflaaGreatDoor
open Go.RowKit
end Go.Proofs.YtablhmobekmflaaGreatDoor
/-! RateR -/
namespace Go.Proofs.YtablhmobekmflaaGreatDoor
open Go.RowKit
end Go.Proofs.YtablhmobekmflaaGreatDoor
/-! ReelsR -/
namespace Go.Proofs.YtablhmobekmflaaGreatDoor
open Go.RowKit Go.Shelf Go.Sort
def strF (s : ByteArray) : List Value := [.string s]
def bsL (os : List ByteArray) : List Bs := os.map (·.data.toList)
def RReelsRel (w w0 : World) (n : Nat) (l : List Cut) (v i : Value) (wr : World) : Prop :=
 ∃ (k : Nat) (os : List ByteArray), k ≤ n ∧ i = .int .i64 k ∧ Ext w0 wr ∧ Ext w wr ∧ os.length ≤ k ∧ wr.ownsRow w0.heap.size 9 1 v os.length (os.flatMap strF) ∧ (bsL os).Pairwise (· < ·) ∧ ∀ x, x ∈ bsL os ↔ x ∈ (l.take k).map fun c => c.reel.data.toList
/-- the inner loop: all names ahead of place j are less -/
def RInRel (w2 : World) (os : List ByteArray) (x : ByteArray) (v : Value) (wr : World) : Prop :=
 ∃ j : Nat, j ≤ os.length ∧ v = .int .i64 j ∧ Ext w2 wr ∧ w2.heap.size = wr.heap.size ∧ ∀ i y, i < j → (bsL os)[i]? = some y → y < x.data.toList
end Go.Proofs.YtablhmobekmflaaGreatDoor
/-! CheckR -/
namespace Go.Proofs.YtablhmobekmflaaGreatDoor
open Go.RowKit
def RCheckRel (w : World) (day : Int) (n : Nat) (l : List Cut) (v4 v5 i : Value) (wr : World) : Prop :=
 ∃ k : Nat, k ≤ n ∧ i = .int .i64 k ∧ v4 = .int .i64 (laAt l k) ∧ v5 = .int .i64 (ouAt l k) ∧ Ext w wr ∧ cutsErr day 0 0 l = cutsErr day (laAt l k) (ouAt l k) (l.drop k)
theorem rsize_list : (Tryz.prog.info? 25).map (·.size) = some 4 := by kernel_rfl
end Go.Proofs.YtablhmobekmflaaGreatDoor
/-! At -/
namespace Go.Proofs.YtablhmobekmflaaGreatDoor
open Go.RowKit
/-- the first cut that covers a record frame -/
def findC (l : List Cut) (t : Int) : Option Cut := l.find? fun c => decide (c.inn ≤ t ∧ t < c.out)
/-- what a record frame plays -/
def atE (e : Edl) (t : Int) : ByteArray × Int × Bool :=
 if edlErr e = 0 then (match findC e.cuts t with | some c => (c.reel, srcAt c t, true) | none => (⟨#[]⟩, 0, false)) else (⟨#[]⟩, 0, false)
def atVal (r : ByteArray × Int × Bool) : Value := .tuple #[.agg #[.string r.1, .int .i64 r.2.1], .bool r.2.2]
theorem findC_drop {l : List Cut} {k : Nat} {r : Cut} {t : Int} (hr : l[k]? = some r) : findC (l.drop k) t = if r.inn ≤ t ∧ t < r.out then some r else findC (l.drop (k + 1)) t := by
 obtain ⟨hk, hk2⟩ := List.getElem?_eq_some_iff.1 hr
 rw [List.drop_eq_getElem_cons hk, hk2]
 unfold findC
 rw [List.find?_cons]
 by_cases h : r.inn ≤ t ∧ t < r.out
 · rw [if_pos h, decide_eq_true h]
 · rw [if_neg h, decide_eq_false h]
theorem atE_err {e : Edl} {t : Int} (h : edlErr e ≠ 0) : atE e t = (⟨#[]⟩, 0, false) := by unfold atE; rw [if_neg h]
theorem atE_some {e : Edl} {t : Int} {c : Cut} (h : edlErr e = 0) (hf : findC e.cuts t = some c) : atE e t = (c.reel, srcAt c t, true) := by unfold atE; rw [if_pos h, hf]
theorem atE_none {e : Edl} {t : Int} (h : edlErr e = 0) (hf : findC e.cuts t = none) : atE e t = (⟨#[]⟩, 0, false) := by unfold atE; rw [if_pos h, hf]
def At45Rel (w1 : World) (n : Nat) (l : List Cut) (t : Int) (i : Value) (wr : World) : Prop := ∃ k : Nat, k ≤ n ∧ i = .int .i64 k ∧ Ext w1 wr ∧ findC l t = findC (l.drop k) t
def AtSt (W : World) (g : Nat) (T : TypeId) (v : Value) (cs : Array Value) : List Value → World → Prop
 | [], w => Ext W w
 | [u], w => u = v ∧ Ext W w
 | [_, u], w => u = .agg cs ∧ Ext W w
 | [_, _, _], w => ∃ w5, Ext W w5 ∧ w = putB w5 g T cs
 | [_, _, _, b], w => b = .bool true ∧ ∃ w5, Ext W w5 ∧ w = putB w5 g T cs
 | _, _ => False
theorem AtSt.ext {W : World} {g : Nat} {T : TypeId} {v : Value} {cs : Array Value} : ∀ {us : List Value} {w : World}, AtSt W g T v cs us w → us.length ≤ 1 → Ext W w
 | [], _, h, _ => h
 | [_], _, h, _ => h.2
 | _ :: _ :: _, _, _, h => by simp at h
theorem size_src : (Tryz.prog.info? 80).map (·.size) = some 2 := by kernel_rfl
/-- what a list of cuts must have to be looked at -/
structure EdlOk (e : Edl) : Prop where
 r0 : 0 ≤ e.rate
 r1 : e.rate ≤ 255
 title : e.title.size ≤ 140737488351232
 fits : ∀ c ∈ e.cuts, c.Fits
set_option maxRecDepth 100000 in
set_option maxHeartbeats 4000000 in
theorem At_any (e : Edl) (A : Option Addr) (n c : Nat) (t : Int) (w : World) (hE : Env w) (hl : CutsAt w A n e.cuts) (hn : n ≤ 1000000) (hok : EdlOk e) :
 Calls Tryz.prog 35 #[.agg (e.cells A n c), .int .i64 t] w fun en w' => en = .returned (atVal (atE e t)) ∧ Ext w w' := by
 have HL := Lib.hid hl
 have HLn := Lib.hid hl.len
 have HX := Lib.hid (((Ext.refl w).alloc (.cells (e.cells A n c) 28)).alloc (.cells #[.string ⟨#[]⟩, .int .i64 0] 80))
 have HB0 := Lib.hid ((Blk.new w 28 (e.cells A n c)).alloc (.cells #[.string ⟨#[]⟩, .int .i64 0] 80))
 have HB1 := Lib.hid (Blk.new' (w := w.alloc (.cells (e.cells A n c) 28)) (g := w.heap.size + 1) (t := 80) (cs := #[.string ⟨#[]⟩, .int .i64 0]) (by simp))
 have HCk := Lib.hid (fun w' (hx : Ext w w') => Check_any e A n c w' (hE.ext hx) (hl.ext hx) hn hok.r0 hok.r1 hok.title hok.fits)
 have HSn := Lib.hid (fun (h : edlErr e = 0) (c : Cut) (hc : c ∈ e.cuts) => edl_sane h hc)
 have HE := Lib.hid (@atE_err e t)
 have HSm := Lib.hid (fun c => @atE_some e t c)
 have HNn := Lib.hid (@atE_none e t)
 clear hl hok hE
 unfold Edl.cells at *
 go_enter Tryz.func35, Tryz.ntmps35
 go_wp2_with (refine wpList_loadB rfl 28 (.tmp 2) rfl w.heap.size 28 _ _ (by exact rfl) (by exact HB0.out) Tryz.underlying28 rfl (by exact size_list) ?_)
 refine (HCk.out _ HX.out).mono ?_
 rintro en w1 ⟨rfl, hx1⟩
 have HX1 := Lib.hid (HX.out.trans hx1)
 have HBl := Lib.hid (HB0.out.ext hx1)
 have HBr := Lib.hid (HB1.out.ext hx1)
 clear hx1 HB0 HB1 HX
 by_cases hee : edlErr e = 0
 case neg =>
  have hne : (edlErr e != 0) = true := by simpa using hee
  have HEr := Lib.hid hee
  clear hee
  go_wp2_with (refine wpList_storeB rfl 80 (.tmp 4) (.tmp 11) rfl (w.heap.size + 1) 80 _ _ (by exact rfl) (by exact rfl) (by exact HBr.out) (by exact rfl) (by exact size_src) (by simp [Value.oneCell']) ?_)
  refine bodyPost_ret (v := atVal (⟨#[]⟩, 0, false)) ?_ rfl ⟨by rw [HE.out HEr.out], ?_⟩
  · exact results_B_tmp (P := Tryz.prog) Tryz.results35 (g := w.heap.size + 1) rfl (by exact HBr.out.put _) Tryz.underlying80 rfl size_src
  · exact HX1.out.put (by omega) _ _
 case pos =>
  rw [hee]
  have HZ := Lib.hid hee
  clear hee
  have hcell1 := fun o => HBl.out.cell o
  go_wp2_with fail
  clear hcell1
  go_loopw [15] (fun i wr => At45Rel w1 n e.cuts t i wr) (fun i _ => n - (intOf i).toNat)
  case atStart => exact ⟨0, Nat.zero_le _, rfl, Ext.refl _, by simp⟩
  case round =>
   obtain ⟨k, hk, rfl, hx, hP⟩ := hrel
   have HXr := Lib.hid (HX1.out.trans hx)
   have HBrr := Lib.hid (HBr.out.ext hx)
   by_cases hlt : k < n
   · obtain ⟨b, off, r, rfl, hr, c0, c1, c2, c3, c4, c5, c6⟩ := (HL.out.ext HXr.out).at7 hlt
     have HS := Lib.hid (findC_drop (t := t) hr)
     have HP := Lib.hid hP
     have hsn := HSn.out HZ.out r (List.mem_of_getElem? hr)
     have HSane := Lib.hid hsn
     clear hr hP hsn
     obtain ⟨num, rl, src, inn, out, nn, dd⟩ := r
     have HBc := Lib.hid (Blk.new wr 91 (Cut.cells ⟨num, rl, src, inn, out, nn, dd⟩))
     have HXc := Lib.hid ((Ext.refl wr).alloc (.cells (Cut.cells ⟨num, rl, src, inn, out, nn, dd⟩) 91))
     unfold Cut.cells at HBc HXc
     dsimp only at *
     by_cases h1 : inn ≤ t
     · by_cases h2 : t < out
       · have HSr := Lib.hid (source_any ⟨num, rl, src, inn, out, nn, dd⟩ t · HSane.out h1 h2)
         have HF := Lib.hid (HSm.out _ HZ.out (HP.out.trans (by rw [HS.out, if_pos ⟨h1, h2⟩])))
         unfold Cut.cells at HSr
         dsimp only at *
         have HBrc := Lib.hid (HBrr.out.ext HXc.out)
         have hgr := HBr.out.lt
         have hgs := HX1.out.size
         go_wp2_with fail
         have HXW := Lib.hid (HXr.out.trans HXc.out)
         generalize wr.alloc (.cells #[.int .i64 num, .string rl, .int .i64 src, .int .i64 inn, .int .i64 out, .int .i64 nn, .int .i64 dd] 91) = W at *
         generalize wr.heap.size = gc at *
         clear c0 c1 c2 c3 c4 c5 c6
         refine wp_region_links [some 31, some 32, some 33, some 34, some 35, some 36, none, some 5] [[], [0], [], [], [2, 3], [1, 4], [5, 4, 0, 1, 2, 3, 4, 5], [6, 0, 1, 2, 3, 4, 5, 6]] [4, 5, 6, 7] [.pointer (some ⟨gc, 1, none⟩), .string rl, .agg #[.int .i64 num, .string rl, .int .i64 src, .int .i64 inn, .int .i64 out, .int .i64 nn, .int .i64 dd], .int .i64 t, undef, undef, undef, undef] (AtSt W (w.heap.size + 1) 80 (.int .i64 (srcAt ⟨num, rl, src, inn, out, nn, dd⟩ t)) #[.string rl, .int .i64 (srcAt ⟨num, rl, src, inn, out, nn, dd⟩ t)]) (by kernel_rfl) (by kernel_rfl) (by kernel_rfl) (by kernel_rfl) (by kernel_rfl) (by kernel_rfl) (by kernel_rfl) (by decide) ?_ ?_ ?_ ?_
         · exact (Ext.refl W).drew
         · intro i o ho hc a w' us K' hJ hF hlim hk
           match i, ho with
           | 0, ho =>
            simp only [List.getElem?_toArray, List.getElem?_cons_zero, List.getElem?_cons_succ, Option.some.injEq] at ho
            subst ho
            have e7 := hF.old 7 (.pointer (some ⟨gc, 0, none⟩)) rfl rfl
            simp only [Act.eval] at e7
            clear hF hlim hJ
            go_simp
            exact hk
           | 1, ho =>
            simp only [List.getElem?_toArray, List.getElem?_cons_zero, List.getElem?_cons_succ, Option.some.injEq] at ho
            subst ho
            have e31 := hF.pure 0 31 (.pointer (some ⟨gc, 1, none⟩)) rfl rfl rfl rfl
            have hcl : w'.cell? ⟨gc, 1, none⟩ = some (.string rl) := (HBc.out.ext (hJ.ext (hlim 1 5 rfl rfl))).cell 1
            simp only [Act.eval] at e31
            clear hF hlim hJ
            go_simp
            exact hk
           | 2, ho =>
            simp only [List.getElem?_toArray, List.getElem?_cons_zero, List.getElem?_cons_succ, Option.some.injEq] at ho
            subst ho
            have e7 := hF.old 7 (.pointer (some ⟨gc, 0, none⟩)) rfl rfl
            exact wp_loadB 91 (.tmp 7) rfl gc 91 _ _ e7 (HBc.out.ext (hJ.ext (by have := hlim 0 4 rfl rfl; omega))) Tryz.underlying91 rfl (by exact size_cut) hk
           | 3, ho =>
            simp only [List.getElem?_toArray, List.getElem?_cons_zero, List.getElem?_cons_succ, Option.some.injEq] at ho
            subst ho
            have e1 := hF.old 1 (.int .i64 t) rfl rfl
            simp only [Act.eval] at e1
            clear hF hlim hJ
            go_simp
            exact hk
           | 4, ho => simp at hc
           | 5, ho => simp at hc
           | 6, ho => simp at hc
           | 7, ho => simp at hc
           | i + 8, ho => simp at ho
         · intro p c' o hp ho a w' us K' hl hJ hF hk
           match p, hp with
           | 0, hp =>
            obtain rfl : 4 = c' := by simpa using hp
            simp only [List.getElem?_toArray, List.getElem?_cons_zero, List.getElem?_cons_succ, Option.some.injEq] at ho
            subst ho
            obtain rfl : us = [] := List.eq_nil_of_length_eq_zero hl
            have e33 := hF.pure 2 33 (.agg #[.int .i64 num, .string rl, .int .i64 src, .int .i64 inn, .int .i64 out, .int .i64 nn, .int .i64 dd]) rfl rfl rfl rfl
            have e34 := hF.pure 3 34 (.int .i64 t) rfl rfl rfl rfl
            exact wp_call2 rfl e33 e34 Tryz.call45 (HSr.out _) (fun w5 hx5 => hk _ w5 ⟨rfl, Ext.trans hJ hx5⟩)
           | 1, hp =>
            obtain rfl : 5 = c' := by simpa using hp
            simp only [List.getElem?_toArray, List.getElem?_cons_zero, List.getElem?_cons_succ, Option.some.injEq] at ho
            subst ho
            obtain ⟨u0, rfl⟩ := list_1 hl
            have e32 := hF.pure 1 32 (.string rl) rfl rfl rfl rfl
            have e35 := hF.link 0 4 35 _ rfl rfl rfl rfl
            obtain ⟨rfl, hx⟩ := hJ
            have HK := Lib.hid (hk (.agg #[.string rl, .int .i64 (srcAt ⟨num, rl, src, inn, out, nn, dd⟩ t)]) w' ⟨rfl, hx⟩)
            have f32 : a.tmps[32]?.getD undef = .string rl := by simpa [Act.eval] using e32
            have f35 : a.tmps[35]?.getD undef = .int .i64 (srcAt ⟨num, rl, src, inn, out, nn, dd⟩ t) := by simpa [Act.eval] using e35
            clear hF hk
            go_simp
            exact HK.out
           | 2, hp =>
            obtain rfl : 6 = c' := by simpa using hp
            simp only [List.getElem?_toArray, List.getElem?_cons_zero, List.getElem?_cons_succ, Option.some.injEq] at ho
            subst ho
            obtain ⟨u0, u1, rfl⟩ := list_2 hl
            have e4 := hF.old 4 (.pointer (some ⟨w.heap.size + 1, 0, none⟩)) rfl rfl
            have e36 := hF.link 1 5 36 _ rfl rfl rfl rfl
            obtain ⟨rfl, hx⟩ := hJ
            exact wp_storeB 80 (.tmp 4) (.tmp 36) rfl (w.heap.size + 1) 80 _ _ e4 e36 (by exact size_src) (by simp [Value.oneCell']) (HBrc.out.ext hx) rfl (hk _ _ ⟨w', hx, rfl⟩)
           | 3, hp =>
            obtain rfl : 7 = c' := by simpa using hp
            simp only [List.getElem?_toArray, List.getElem?_cons_zero, List.getElem?_cons_succ, Option.some.injEq] at ho
            subst ho
            obtain ⟨u0, u1, u2, rfl⟩ := list_3 hl
            exact wp_assign _ rfl (hk _ _ ⟨rfl, hJ⟩)
           | p + 4, hp => simp at hp
         intro us w7 hl hJ
         obtain ⟨u0, u1, u2, u3, rfl⟩ := list_4 hl
         rename_i hK
         refine hK _ _ ?_
         clear hK
         generalize hL : frameL _ _ _ _ = L
         obtain rfl : L = [(31, .pointer (some ⟨gc, 1, none⟩)), (32, .string rl), (33, .agg #[.int .i64 num, .string rl, .int .i64 src, .int .i64 inn, .int .i64 out, .int .i64 nn, .int .i64 dd]), (34, .int .i64 t), (35, u0), (36, u1), (5, u3)] := hL.symm.trans (by kernel_rfl)
         clear hL hl
         simp only [Act.put, List.foldl_cons, List.foldl_nil, List.setIfInBounds_toArray, List.set_cons_zero, List.set_cons_succ]
         obtain ⟨rfl, w5, hx5, rfl⟩ := hJ
         have HB5 := Lib.hid (HBrc.out.ext hx5)
         go_wp2_with fail
         refine bodyPost_ret (v := atVal (rl, srcAt ⟨num, rl, src, inn, out, nn, dd⟩ t, true)) ?_ rfl ⟨by rw [HF.out], ?_⟩
         · exact results_B_tmp (P := Tryz.prog) Tryz.results35 (g := w.heap.size + 1) rfl (by exact HB5.out.put _) Tryz.underlying80 rfl size_src
         · exact (HXW.out.trans hx5).put (by omega) _ _
       · have HF := Lib.hid (HP.out.trans (by rw [HS.out, if_neg (fun h => h2 h.2)] : _ = findC (e.cuts.drop (k + 1)) t))
         go_wp2_with fail
         exact ⟨⟨k + 1, by omega, by go_num, hx.trans HXc.out, HF.out⟩, by simp [intOf]; omega⟩
     · have HF := Lib.hid (HP.out.trans (by rw [HS.out, if_neg (fun h => h1 h.1)] : _ = findC (e.cuts.drop (k + 1)) t))
       go_wp2_with fail
       exact ⟨⟨k + 1, by omega, by go_num, hx.trans HXc.out, HF.out⟩, by simp [intOf]; omega⟩
   · have hkn : k = n := by omega
     subst hkn
     have HF := Lib.hid (HNn.out HZ.out (hP.trans (by rw [List.drop_eq_nil_of_le (by have := HLn.out; omega)]; rfl)))
     clear hP
     go_wp2_with (refine wpList_storeB rfl 80 (.tmp 4) (.tmp 38) rfl (w.heap.size + 1) 80 _ _ (by exact rfl) (by exact rfl) (by exact HBrr.out) (by exact rfl) (by exact size_src) (by simp [Value.oneCell']) ?_)
     refine bodyPost_ret (v := atVal (⟨#[]⟩, 0, false)) ?_ rfl ⟨by rw [HF.out], ?_⟩
     · exact results_B_tmp (P := Tryz.prog) Tryz.results35 (g := w.heap.size + 1) rfl (by exact HBrr.out.put _) Tryz.underlying80 rfl size_src
     · exact HXr.out.put (by omega) _ _
end Go.Proofs.YtablhmobekmflaaGreatDoor
/-! OpenL -/
namespace Go.Proofs.YtablhmobekmflaaGreatDoor
open Go.RowKit Go.ChangeShapes Go.WideShapes Go.ChangeAt
set_option maxRecDepth 100000
theorem cells_rate : Tryz.prog.cellsOf 22 = 1 := by kernel_rfl
theorem cells_ratio : Tryz.prog.cellsOf 89 = 2 := by kernel_rfl
theorem cells_cut : Tryz.prog.cellsOf 91 = 7 := by kernel_rfl
theorem cells_cuts : Tryz.prog.cellsOf 23 = 1 := by kernel_rfl
theorem cells_list : Tryz.prog.cellsOf 25 = 4 := by kernel_rfl
theorem bytes_cut : Tryz.prog.bytesOf 91 = 64 := by kernel_rfl
theorem open_ratio (W : World) : Opens Tryz.prog W 89 (fun cs (a : Int × Int) => cs = [.int .i64 a.1, .int .i64 a.2] ∧ I64 a.1 ∧ I64 a.2) := by
 intro H enc fuel cs x h hw
 obtain ⟨hl, hf⟩ := Opens.fields Tryz.underlying89 h hw
 rw [cells_ratio] at hl
 obtain ⟨v0, v1, rfl⟩ := list_2 hl
 obtain ⟨a0, h0, s0⟩ := hf 0 _ rfl (Opens.int Tryz.underlying2)
 obtain ⟨a1, h1, s1⟩ := hf 1 _ rfl (Opens.int Tryz.underlying2)
 simp [cells_int64] at h0 h1
 subst h0 h1
 exact ⟨(a0, a1), rfl, bounds_i64 s0, bounds_i64 s1⟩
theorem open_cut7 (W : World) : Opens Tryz.prog W 91 (fun cs (c : Cut) => cs = c.vals ∧ c.Fits) := by
 intro H enc fuel cs x h hw
 obtain ⟨hl, hf⟩ := Opens.fields Tryz.underlying91 h hw
 rw [cells_cut] at hl
 obtain ⟨v0, v1, v2, v3, v4, v5, v6, rfl⟩ := list_7 hl
 obtain ⟨a0, h0, s0⟩ := hf 0 _ rfl (Opens.int Tryz.underlying3)
 obtain ⟨a1, h1, s1⟩ := hf 1 _ rfl (Opens.string Tryz.underlying9)
 obtain ⟨a2, h2, s2⟩ := hf 2 _ rfl (Opens.int Tryz.underlying2)
 obtain ⟨⟨a3, a4⟩, h3, s3, s4⟩ := hf 3 _ rfl (open_span W)
 obtain ⟨⟨a5, a6⟩, h5, s5, s6⟩ := hf 4 _ rfl (open_ratio W)
 simp [cells_int64, cells_int, cells_string, cells_span, cells_ratio] at h0 h1 h2 h3 h5
 obtain ⟨h3, h4⟩ := h3
 obtain ⟨h5, h6⟩ := h5
 subst h0 h1 h2 h3 h4 h5 h6
 exact ⟨⟨a0, a1, a2, a3, a4, a5, a6⟩, rfl, bounds_i64 s0, bounds_i64 s2, s3, s4, s5, s6, s1⟩
theorem mem_cut7 {w : World} {b o : Nat} {c : Cut} (h : Mem (fun cs (c : Cut) => cs = c.vals ∧ c.Fits) w b o c) : Cells Cut.vals w b o c ∧ c.Fits := by
 obtain ⟨cs, h1, rfl, h2⟩ := h
 exact ⟨fun j u hu => h1 j u hu, h2⟩
theorem open_list (W : World) : Opens Tryz.prog W 25 (fun cs (e : Edl) => (∃ A n c, cs = (e.cells A n c).toList ∧ CutsAt W A n e.cuts ∧ n ≤ c ∧ c ≤ maxLen) ∧ EdlOk e) := by
 intro H enc fuel cs x h hw
 obtain ⟨hl, hf⟩ := Opens.fields Tryz.underlying25 h hw
 rw [cells_list] at hl
 obtain ⟨v0, v1, v2, v3, rfl⟩ := list_4 hl
 obtain ⟨a0, h0, s0⟩ := hf 0 _ rfl (Opens.string Tryz.underlying9)
 obtain ⟨a1, h1, s1⟩ := hf 1 _ rfl (Opens.int Tryz.underlying22)
 obtain ⟨a2, h2⟩ := hf 2 _ rfl (Opens.bool Tryz.underlying4)
 obtain ⟨l, h3⟩ := hf 3 _ rfl (R := fun cs (l : List Cut) => (∃ A n c, cs = [.slice A n c] ∧ n ≤ c ∧ c ≤ maxLen ∧ CutsAt W A n l) ∧ ∀ x ∈ l, x.Fits) (fun H enc fuel cs x h hw => by
  obtain ⟨A, n, c, l, rfl, hnc, hcm, hb, hs⟩ := Opens.slice Tryz.underlying23 cells_cut (by decide) bytes_cut (open_cut7 W) h hw
  exact ⟨l, ⟨A, n, c, rfl, hnc, hcm, Sl.change hs fun _ _ _ hm => (mem_cut7 hm).1⟩, hs.all fun _ _ _ hm => (mem_cut7 hm).2⟩)
 simp [cells_string, cells_rate, cells_bool, cells_cuts] at h0 h1 h2 h3
 obtain ⟨⟨A, n, c, h3, hnc, hcm, hr⟩, hfit⟩ := h3
 subst h0 h1 h2 h3
 exact ⟨⟨a0, a1, a2, l⟩, ⟨A, n, c, rfl, hr, hnc, hcm⟩, (bounds_u8 s1).1, (bounds_u8 s1).2, s0, hfit⟩
/-- an argument that is a list of cuts -/
theorem arg_list {H : Type} {enc : TypeId × Value → H} {W : World} {base : Nat} {v : Value} {d : DataW H} {p : List MemPlace} (hv : Value.okWide Tryz.prog W .any base 25 v) (h : DataW.Trod enc Tryz.prog W 0 (fun _ => true) true 25 v d p)
 (hw : ∀ n ∈ d.weights Tryz.prog 25, n ≤ reachBytes) : ∃ e A n c, v = .agg (e.cells A n c) ∧ CutsAt W A n e.cuts ∧ n ≤ c ∧ c ≤ maxLen ∧ EdlOk e := by
 obtain ⟨cs, rfl⟩ := agg_of_cells Tryz.underlying25 hv
 obtain ⟨fuel, h⟩ := h
 obtain ⟨e, ⟨A, n, c, hc, hat, hnc, hcm⟩, hf⟩ := open_list W H enc fuel _ _ h hw
 refine ⟨e, A, n, c, ?_, hat, hnc, hcm, hf⟩
 have : cs = e.cells A n c := Array.toList_inj.1 hc
 rw [this]
/-- an argument that is a number -/
theorem arg_int64 {H : Type} {enc : TypeId × Value → H} {W : World} {base : Nat} {v : Value} {d : DataW H} {p : List MemPlace} (hv : Value.okWide Tryz.prog W .any base 2 v) (h : DataW.Trod enc Tryz.prog W 0 (fun _ => true) true 2 v d p)
 (hw : ∀ n ∈ d.weights Tryz.prog 2, n ≤ reachBytes) : ∃ k : Int, v = .int .i64 k ∧ I64 k := by
 obtain ⟨fuel, h⟩ := h
 obtain ⟨a, ha, hb⟩ := Opens.int Tryz.underlying2 H enc fuel _ _ h hw
 unfold Value.okWide at hv
 rw [Tryz.underlying2] at hv
 cases v with
 | agg cs => exact absurd hv (by unfold Cell.okWide; rw [Tryz.underlying2]; simp [Cell.ok])
 | _ => first | (refine ⟨a, ?_, bounds_i64 hb⟩; exact (List.cons.inj ha).1) | (simp at hv; done)
def wlist {H : Type} : DataW H := .agg [.lit (.string []), .lit (.int .u8 0), .lit (.bool false), .nil]
end Go.Proofs.YtablhmobekmflaaGreatDoor