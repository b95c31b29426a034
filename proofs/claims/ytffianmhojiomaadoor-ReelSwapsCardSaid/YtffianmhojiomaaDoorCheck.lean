/- The walk of edl.Check. -/
import Derived.Test.YtffianmhojiomaaDoorEdlP
import Derived.Test.YtffianmhojiomaaDoorCharB
namespace Go.Proofs.YtffianmhojiomaaDoor
set_option linter.unusedVariables false
set_option linter.unusedSimpArgs false
open Go.RowKit

def CheckRel (w : World) (day : Int) (n : Nat) (l : List Cut) (i : Value) (wr : World) : Prop :=
  ∃ k : Nat, k ≤ n ∧ i = .int .i64 k ∧ Ext w wr ∧ cutsErr day 0 0 l = cutsErr day (laAt l k) (ouAt l k) (l.drop k)
theorem prev_at {w : World} {A : Option Addr} {n : Nat} {l : List Cut} (h : CutsAt w A n l) {k : Nat} (hk : k ≤ n) (h0 : 0 < k) : ∃ b off, A = some ⟨b, off, none⟩ ∧
    w.cell? ⟨b, off + (k - 1) * 7, none⟩ = some (.int .i64 (laAt l k)) ∧ w.cell? ⟨b, off + (k - 1) * 7 + 4, none⟩ = some (.int .i64 (ouAt l k)) := by
  obtain ⟨j, rfl⟩ : ∃ j, k = j + 1 := ⟨k - 1, by omega⟩
  obtain ⟨b, off, c, hA, hc, c0, c1, c2, c3, c4, c5, c6⟩ := h.at7 (i := j) (by omega)
  refine ⟨b, off, hA, ?_, ?_⟩
  · simpa [laAt, hc] using c0
  · simpa [ouAt, hc] using c4

theorem size_list : (Tryd.prog.info? 32).map (·.size) = some 4 := by kernel_rfl
set_option maxRecDepth 100000 in
set_option maxHeartbeats 4000000 in
theorem Check_any (e : Edl) (A : Option Addr) (n c : Nat) (w : World) (hE : Env w) (hl : CutsAt w A n e.cuts) (hn : n ≤ 1000000) (hr0 : 0 ≤ e.rate) (hr1 : e.rate ≤ 255) (ht : e.title.size ≤ 140737488351232) (hf : ∀ c ∈ e.cuts, c.Fits) :
    Calls Tryd.prog 22 #[.agg (e.cells A n c)] w fun en w' => en = .returned (.int .i64 (edlErr e)) ∧ Ext w w' := by
  have HL := Lib.hid hl
  have HLn := Lib.hid hl.len
  have HF := Lib.hid hf
  have HE := Lib.hid hE
  clear hl hf hE
  have h1 := Lib.hid (@edl_char e)
  have h2 := Lib.hid (@edl_title e)
  have h3 := Lib.hid (@edl_rate e)
  have h4 := Lib.hid (@edl_many e)
  have h5 := Lib.hid (fun x => @edl_cuts e x)
  have h6 := Lib.hid (@edl_reels e)
  have h7 := Lib.hid (@edl_ok e)
  have HRE := Lib.hid (fun w' (hx : Ext w w') => Reels_any e A n c w' (HL.out.ext hx) hn)
  obtain ⟨title, rate, drop, cuts⟩ := e
  unfold Edl.cells at *
  dsimp only at *
  have HX0 := Lib.hid ((Ext.refl w).alloc (.cells #[.string title, .int .u8 rate, .bool drop, .slice A n c] 32))
  have HB0 := Lib.hid (Blk.new w 32 #[.string title, .int .u8 rate, .bool drop, .slice A n c])
  go_enter Tryd.func22, Tryd.ntmps22
  go_wp2_with fail
  refine (Valid_any title _ (HE.out.ext HX0.out) (by omega)).mono ?_
  rintro en w1 ⟨rfl, hx1⟩
  have HX1 := Lib.hid (HX0.out.trans hx1)
  have HB1 := Lib.hid (HB0.out.ext hx1)
  have hcell1 := fun o => HB1.out.cell o
  cases hv : vld title
  · have HV := Lib.hid hv
    clear hv
    go_wp2_with fail
    go_ret
    exact ⟨ret_int (by rw [h1.out HV.out]), HX1.out⟩
  have HV := Lib.hid hv
  clear hv h1
  by_cases ht4 : 400 < title.size
  · skip
    go_wp2_with fail
    go_ret
    exact ⟨ret_int (by rw [h2.out HV.out ht4]), HX1.out⟩
  have HT := Lib.hid ht4
  clear h2
  go_wp2_with fail
  refine (TBValid_any rate _ hr0 hr1).mono ?_
  rintro en w2 ⟨rfl, hx2⟩
  have HX2 := Lib.hid (HX1.out.trans hx2)
  have HB2 := Lib.hid (HB1.out.ext hx2)
  have hcell2 := fun o => HB2.out.cell o
  clear hcell1
  cases hok : rOk rate
  · have HO : Hid (rateOkB rate drop = false) := by show _ = _; unfold rateOkB; rw [hok]; rfl
    clear hok
    go_wp2_with fail
    go_ret
    exact ⟨ret_int (by rw [h3.out HV.out HT.out HO.out]), HX2.out⟩
  cases drop
  · have HO : Hid (rateOkB rate false = true) := by show _ = _; unfold rateOkB; rw [hok]; rfl
    clear hok
    have HX3 := HX2
    have HB3 := HB2
    have hcell3 := hcell2
    clear hcell2
    by_cases h64 : 64 < cuts.length
    · have h64' : (64 : Int) < (n : Int) := by have := HLn.out; omega
      go_wp2_with fail
      go_ret
      exact ⟨ret_int (by rw [h4.out HV.out HT.out HO.out h64]), HX3.out⟩
    have h64' : ¬ (64 : Int) < (n : Int) := by have := HLn.out; omega
    have H64 := Lib.hid h64
    clear h64 h3 h4
    go_wp2_with fail
    refine (Day_any rate false _ hr0 hr1).mono ?_
    rintro en w4 ⟨rfl, hx4⟩
    have HX4 := Lib.hid (HX3.out.trans hx4)
    have HB4 := Lib.hid (HB3.out.ext hx4)
    have hcell4 := fun o => HB4.out.cell o
    clear hcell3
    have hd9 := dayOf_bd rate false
    have HD : Hid (∃ day, day = dayOf rate false) := ⟨_, rfl⟩
    generalize dayOf rate false = day at *
    clear HD
    go_wp2_with fail
    go_loopw [45] (fun i wr => CheckRel w4 day n cuts i wr) (fun i _ => n - (intOf i).toNat)
    case atStart => exact ⟨0, Nat.zero_le _, rfl, Ext.refl _, by simp [laAt, ouAt]⟩
    case round =>
      obtain ⟨k, hk, rfl, hx, hP⟩ := hrel
      have HXr := Lib.hid (HX4.out.trans hx)
      have HBr := Lib.hid (HB4.out.ext hx)
      have hcellr := fun o => HBr.out.cell o
      clear hcell4
      by_cases hlt : k < n
      · obtain ⟨b, off, r, rfl, hr, c0, c1, c2, c3, c4, c5, c6⟩ := (HL.out.ext HXr.out).at7 hlt
        skip
        have HS := Lib.hid (cuts_step hr hP)
        have hfr : r.Fits := HF.out r (List.mem_of_getElem? hr)
        have HFr := Lib.hid hfr
        have HN1 := Lib.hid (@single_num r (laAt cuts k) day)
        have HN2 := Lib.hid (@single_ord r (laAt cuts k) day)
        have HN3 := Lib.hid (@single_cut r (laAt cuts k) day)
        have HI := Lib.hid (@cutErr_inn r day)
        have HCk := Lib.hid (fun w' => checkCut_any r day w' hfr hd9)
        have HPr := Lib.hid (fun h0 => prev_at (HL.out.ext HXr.out) (k := k) hk h0)
        have HLa0 : Hid (k = 0 → laAt cuts k = 0 ∧ ouAt cuts k = 0) := fun h => by subst h; exact ⟨rfl, rfl⟩
        clear hr hP hfr
        obtain ⟨num, rl, src, inn, out, nn, dd⟩ := r
        have HBc := Lib.hid (Blk.new wr 67 (Cut.cells ⟨num, rl, src, inn, out, nn, dd⟩))
        have HXc := Lib.hid ((Ext.refl wr).alloc (.cells (Cut.cells ⟨num, rl, src, inn, out, nn, dd⟩) 67))
        unfold Cut.cells at HBc HXc HCk
        dsimp only at *
        generalize laAt cuts k = la at *
        generalize ouAt cuts k = ou at *
        by_cases hn1 : num < 1
        · go_wp2_with fail
          go_ret
          exact ⟨ret_int (by rw [h5.out 2 HV.out HT.out HO.out H64.out (by rw [HS.out.1 (by rw [HN1.out (.inl hn1)]; decide), HN1.out (.inl hn1)]) (by decide)]), HXr.out.trans HXc.out⟩
        by_cases hn2 : 999 < num
        · go_wp2_with fail
          go_ret
          exact ⟨ret_int (by rw [h5.out 2 HV.out HT.out HO.out H64.out (by rw [HS.out.1 (by rw [HN1.out (.inr hn2)]; decide), HN1.out (.inr hn2)]) (by decide)]), HXr.out.trans HXc.out⟩
        have HNN : Hid (¬ (num < 1 ∨ 999 < num)) := by show ¬ _; omega
        by_cases hk0 : k = 0
        · obtain ⟨rfl, rfl⟩ := HLa0.out hk0
          subst hk0
          simp only [Nat.zero_mul, Nat.add_zero] at c0 c1 c2 c3 c4 c5 c6
          have HOr : Hid (¬ num ≤ 0) := by show ¬ _; omega
          go_wp2_with fail
          go_quiet (fail)
          go_wp2_with (refine wpList_loadB rfl 67 (.tmp 5) rfl _ 67 _ _ (by exact rfl) (by exact HBc.out.ext ((Ext.refl _).drewN _)) Tryd.underlying67 rfl (by exact size_cut) ?_)
          refine (HCk.out _).mono ?_
          rintro en w5 ⟨rfl, hx5⟩
          have HX5 := Lib.hid ((HXc.out.drewN _).trans hx5)
          have HB5 := Lib.hid ((HBc.out.ext ((Ext.refl _).drewN _)).ext hx5)
          have hcell5 := fun o => HB5.out.cell o
          have HSg := Lib.hid (HN3.out HNN.out HOr.out)
          by_cases hce : cutErr ⟨num, rl, src, inn, out, nn, dd⟩ day = 0
          · have HI0 := HI.out hce
            have HG := Lib.hid (HS.out.2.2 (HSg.out.trans hce) (by omega))
            rw [hce]
            go_wp2_with fail
            go_quiet (fail)
            go_wp2_with fail
            exact ⟨⟨1, by omega, by go_num, hx.trans (HX5.out.drewN _), HG.out⟩, by simp [intOf]; omega⟩
          · have hne : (cutErr ⟨num, rl, src, inn, out, nn, dd⟩ day != 0) = true := by simpa using hce
            have HC := Lib.hid hce
            have HG := Lib.hid (HS.out.1 (by rw [HSg.out]; exact hce))
            clear hce
            go_wp2_with fail
            go_ret
            exact ⟨ret_int (by rw [h5.out _ HV.out HT.out HO.out H64.out HG.out (by rw [HSg.out]; exact HC.out), HSg.out]), HXr.out.trans HX5.out⟩
        · obtain ⟨b', off', hA, p0, p4⟩ := HPr.out (by omega)
          cases hA
          have hki : (0 : Int) < (k : Int) := by omega
          have hkp : 0 < k := by omega
          have hcc := fun o => HBc.out.cell o
          have hcl := fun o => (HBr.out.ext HXc.out).cell o
          have pp0 := HXc.out.cell p0
          have hk1 : ((k : Int) - 1).toNat = k - 1 := by omega
          have hk2 : (k : Int) - 1 = ((k - 1 : Nat) : Int) := by omega
          by_cases hor : num ≤ la
          · go_wp2_with fail
            go_quiet (fail)
            go_wp2_with fail
            go_ret
            exact ⟨ret_int (by rw [h5.out 8 HV.out HT.out HO.out H64.out (by rw [HS.out.1 (by rw [HN2.out HNN.out hor]; decide), HN2.out HNN.out hor]) (by decide)]), (HXr.out.trans HXc.out).drewN _⟩
          · go_wp2_with fail
            go_quiet (fail)
            go_wp2_with (refine wpList_loadB rfl 67 (.tmp 5) rfl _ 67 _ _ (by exact rfl) (by exact HBc.out.ext ((Ext.refl _).drewN _)) Tryd.underlying67 rfl (by exact size_cut) ?_)
            refine (HCk.out _).mono ?_
            rintro en w5 ⟨rfl, hx5⟩
            have HX5 := Lib.hid ((HXc.out.drewN _).trans hx5)
            have HB5 := Lib.hid ((HBc.out.ext ((Ext.refl _).drewN _)).ext hx5)
            have HBl := Lib.hid (HBr.out.ext HX5.out)
            have hcell5 := fun o => HB5.out.cell o
            have hcelll := fun o => HBl.out.cell o
            have q0 := HX5.out.cell p0
            have q4 := HX5.out.cell p4
            have HSg := Lib.hid (HN3.out HNN.out hor)
            clear p0 p4 hcellr hcc hcl pp0
            by_cases hce : cutErr ⟨num, rl, src, inn, out, nn, dd⟩ day = 0
            · rw [hce]
              by_cases hov : inn < ou
              · have HG := Lib.hid (HS.out.2.1 (HSg.out.trans hce) hov)
                go_wp2_with fail
                go_quiet (fail)
                go_wp2_with fail
                go_ret
                exact ⟨ret_int (by rw [h5.out 14 HV.out HT.out HO.out H64.out HG.out (by decide)]), (HXr.out.trans HX5.out).drewN _⟩
              · have HG := Lib.hid (HS.out.2.2 (HSg.out.trans hce) (by omega))
                go_wp2_with fail
                go_quiet (fail)
                go_wp2_with fail
                exact ⟨⟨k + 1, by omega, by go_num, hx.trans (HX5.out.drewN _), HG.out⟩, by simp [intOf]; omega⟩
            · have hne : (cutErr ⟨num, rl, src, inn, out, nn, dd⟩ day != 0) = true := by simpa using hce
              have HC := Lib.hid hce
              have HG := Lib.hid (HS.out.1 (by rw [HSg.out]; exact hce))
              clear hce
              go_wp2_with fail
              go_ret
              exact ⟨ret_int (by rw [h5.out _ HV.out HT.out HO.out H64.out HG.out (by rw [HSg.out]; exact HC.out), HSg.out]), HXr.out.trans HX5.out⟩
      · have hkn : k = n := by omega
        subst hkn
        have HZ : Hid (cutsErr day 0 0 cuts = 0) := by
          show _ = _
          rw [hP, List.drop_eq_nil_of_le (by have := HLn.out; omega)]
          rfl
        clear hP
        go_wp2_with (refine wpList_loadB rfl 32 (.tmp 1) rfl _ 32 _ _ (by exact rfl) (by exact HBr.out) Tryd.underlying32 rfl (by exact size_list) ?_)
        refine (HRE.out _ HXr.out).mono ?_
        rintro en w5 ⟨A5, m, c5, rfl, hm, hx5⟩
        have HM := Lib.hid hm
        clear hm
        by_cases h16 : 16 < m
        · have h16' : (16 : Int) < (m : Int) := by omega
          go_wp2_with fail
          go_ret
          exact ⟨ret_int (by rw [h6.out HV.out HT.out HO.out H64.out HZ.out (by rw [← HM.out]; exact h16)]), HXr.out.trans hx5⟩
        · have h16' : ¬ (16 : Int) < (m : Int) := by omega
          go_wp2_with fail
          go_ret
          exact ⟨ret_int (by rw [h7.out HV.out HT.out HO.out H64.out HZ.out (by rw [← HM.out]; exact h16)]), HXr.out.trans hx5⟩
  · go_wp2_with fail
    refine (CanDrop_any rate _ hr0 hr1).mono ?_
    rintro en w3 ⟨rfl, hx3⟩
    have HX3 := Lib.hid (HX2.out.trans hx3)
    have HB3 := Lib.hid (HB2.out.ext hx3)
    have hcell3 := fun o => HB3.out.cell o
    clear hcell2
    cases hdr : rDrop rate
    · have HO : Hid (rateOkB rate true = false) := by show _ = _; unfold rateOkB; rw [hok, hdr]; rfl
      clear hok hdr
      go_wp2_with fail
      go_ret
      exact ⟨ret_int (by rw [h3.out HV.out HT.out HO.out]), HX3.out⟩
    have HO : Hid (rateOkB rate true = true) := by show _ = _; unfold rateOkB; rw [hok, hdr]; rfl
    clear hok hdr
    by_cases h64 : 64 < cuts.length
    · have h64' : (64 : Int) < (n : Int) := by have := HLn.out; omega
      go_wp2_with fail
      go_ret
      exact ⟨ret_int (by rw [h4.out HV.out HT.out HO.out h64]), HX3.out⟩
    have h64' : ¬ (64 : Int) < (n : Int) := by have := HLn.out; omega
    have H64 := Lib.hid h64
    clear h64 h3 h4
    go_wp2_with fail
    refine (Day_any rate true _ hr0 hr1).mono ?_
    rintro en w4 ⟨rfl, hx4⟩
    have HX4 := Lib.hid (HX3.out.trans hx4)
    have HB4 := Lib.hid (HB3.out.ext hx4)
    have hcell4 := fun o => HB4.out.cell o
    clear hcell3
    have hd9 := dayOf_bd rate true
    have HD : Hid (∃ day, day = dayOf rate true) := ⟨_, rfl⟩
    generalize dayOf rate true = day at *
    clear HD
    go_wp2_with fail
    go_loopw [45] (fun i wr => CheckRel w4 day n cuts i wr) (fun i _ => n - (intOf i).toNat)
    case atStart => exact ⟨0, Nat.zero_le _, rfl, Ext.refl _, by simp [laAt, ouAt]⟩
    case round =>
      obtain ⟨k, hk, rfl, hx, hP⟩ := hrel
      have HXr := Lib.hid (HX4.out.trans hx)
      have HBr := Lib.hid (HB4.out.ext hx)
      have hcellr := fun o => HBr.out.cell o
      clear hcell4
      by_cases hlt : k < n
      · obtain ⟨b, off, r, rfl, hr, c0, c1, c2, c3, c4, c5, c6⟩ := (HL.out.ext HXr.out).at7 hlt
        skip
        have HS := Lib.hid (cuts_step hr hP)
        have hfr : r.Fits := HF.out r (List.mem_of_getElem? hr)
        have HFr := Lib.hid hfr
        have HN1 := Lib.hid (@single_num r (laAt cuts k) day)
        have HN2 := Lib.hid (@single_ord r (laAt cuts k) day)
        have HN3 := Lib.hid (@single_cut r (laAt cuts k) day)
        have HI := Lib.hid (@cutErr_inn r day)
        have HCk := Lib.hid (fun w' => checkCut_any r day w' hfr hd9)
        have HPr := Lib.hid (fun h0 => prev_at (HL.out.ext HXr.out) (k := k) hk h0)
        have HLa0 : Hid (k = 0 → laAt cuts k = 0 ∧ ouAt cuts k = 0) := fun h => by subst h; exact ⟨rfl, rfl⟩
        clear hr hP hfr
        obtain ⟨num, rl, src, inn, out, nn, dd⟩ := r
        have HBc := Lib.hid (Blk.new wr 67 (Cut.cells ⟨num, rl, src, inn, out, nn, dd⟩))
        have HXc := Lib.hid ((Ext.refl wr).alloc (.cells (Cut.cells ⟨num, rl, src, inn, out, nn, dd⟩) 67))
        unfold Cut.cells at HBc HXc HCk
        dsimp only at *
        generalize laAt cuts k = la at *
        generalize ouAt cuts k = ou at *
        by_cases hn1 : num < 1
        · go_wp2_with fail
          go_ret
          exact ⟨ret_int (by rw [h5.out 2 HV.out HT.out HO.out H64.out (by rw [HS.out.1 (by rw [HN1.out (.inl hn1)]; decide), HN1.out (.inl hn1)]) (by decide)]), HXr.out.trans HXc.out⟩
        by_cases hn2 : 999 < num
        · go_wp2_with fail
          go_ret
          exact ⟨ret_int (by rw [h5.out 2 HV.out HT.out HO.out H64.out (by rw [HS.out.1 (by rw [HN1.out (.inr hn2)]; decide), HN1.out (.inr hn2)]) (by decide)]), HXr.out.trans HXc.out⟩
        have HNN : Hid (¬ (num < 1 ∨ 999 < num)) := by show ¬ _; omega
        by_cases hk0 : k = 0
        · obtain ⟨rfl, rfl⟩ := HLa0.out hk0
          subst hk0
          simp only [Nat.zero_mul, Nat.add_zero] at c0 c1 c2 c3 c4 c5 c6
          have HOr : Hid (¬ num ≤ 0) := by show ¬ _; omega
          go_wp2_with fail
          go_quiet (fail)
          go_wp2_with (refine wpList_loadB rfl 67 (.tmp 5) rfl _ 67 _ _ (by exact rfl) (by exact HBc.out.ext ((Ext.refl _).drewN _)) Tryd.underlying67 rfl (by exact size_cut) ?_)
          refine (HCk.out _).mono ?_
          rintro en w5 ⟨rfl, hx5⟩
          have HX5 := Lib.hid ((HXc.out.drewN _).trans hx5)
          have HB5 := Lib.hid ((HBc.out.ext ((Ext.refl _).drewN _)).ext hx5)
          have hcell5 := fun o => HB5.out.cell o
          have HSg := Lib.hid (HN3.out HNN.out HOr.out)
          by_cases hce : cutErr ⟨num, rl, src, inn, out, nn, dd⟩ day = 0
          · have HI0 := HI.out hce
            have HG := Lib.hid (HS.out.2.2 (HSg.out.trans hce) (by omega))
            rw [hce]
            go_wp2_with fail
            go_quiet (fail)
            go_wp2_with fail
            exact ⟨⟨1, by omega, by go_num, hx.trans (HX5.out.drewN _), HG.out⟩, by simp [intOf]; omega⟩
          · have hne : (cutErr ⟨num, rl, src, inn, out, nn, dd⟩ day != 0) = true := by simpa using hce
            have HC := Lib.hid hce
            have HG := Lib.hid (HS.out.1 (by rw [HSg.out]; exact hce))
            clear hce
            go_wp2_with fail
            go_ret
            exact ⟨ret_int (by rw [h5.out _ HV.out HT.out HO.out H64.out HG.out (by rw [HSg.out]; exact HC.out), HSg.out]), HXr.out.trans HX5.out⟩
        · obtain ⟨b', off', hA, p0, p4⟩ := HPr.out (by omega)
          cases hA
          have hki : (0 : Int) < (k : Int) := by omega
          have hkp : 0 < k := by omega
          have hcc := fun o => HBc.out.cell o
          have hcl := fun o => (HBr.out.ext HXc.out).cell o
          have pp0 := HXc.out.cell p0
          have hk1 : ((k : Int) - 1).toNat = k - 1 := by omega
          have hk2 : (k : Int) - 1 = ((k - 1 : Nat) : Int) := by omega
          by_cases hor : num ≤ la
          · go_wp2_with fail
            go_quiet (fail)
            go_wp2_with fail
            go_ret
            exact ⟨ret_int (by rw [h5.out 8 HV.out HT.out HO.out H64.out (by rw [HS.out.1 (by rw [HN2.out HNN.out hor]; decide), HN2.out HNN.out hor]) (by decide)]), (HXr.out.trans HXc.out).drewN _⟩
          · go_wp2_with fail
            go_quiet (fail)
            go_wp2_with (refine wpList_loadB rfl 67 (.tmp 5) rfl _ 67 _ _ (by exact rfl) (by exact HBc.out.ext ((Ext.refl _).drewN _)) Tryd.underlying67 rfl (by exact size_cut) ?_)
            refine (HCk.out _).mono ?_
            rintro en w5 ⟨rfl, hx5⟩
            have HX5 := Lib.hid ((HXc.out.drewN _).trans hx5)
            have HB5 := Lib.hid ((HBc.out.ext ((Ext.refl _).drewN _)).ext hx5)
            have HBl := Lib.hid (HBr.out.ext HX5.out)
            have hcell5 := fun o => HB5.out.cell o
            have hcelll := fun o => HBl.out.cell o
            have q0 := HX5.out.cell p0
            have q4 := HX5.out.cell p4
            have HSg := Lib.hid (HN3.out HNN.out hor)
            clear p0 p4 hcellr hcc hcl pp0
            by_cases hce : cutErr ⟨num, rl, src, inn, out, nn, dd⟩ day = 0
            · rw [hce]
              by_cases hov : inn < ou
              · have HG := Lib.hid (HS.out.2.1 (HSg.out.trans hce) hov)
                go_wp2_with fail
                go_quiet (fail)
                go_wp2_with fail
                go_ret
                exact ⟨ret_int (by rw [h5.out 14 HV.out HT.out HO.out H64.out HG.out (by decide)]), (HXr.out.trans HX5.out).drewN _⟩
              · have HG := Lib.hid (HS.out.2.2 (HSg.out.trans hce) (by omega))
                go_wp2_with fail
                go_quiet (fail)
                go_wp2_with fail
                exact ⟨⟨k + 1, by omega, by go_num, hx.trans (HX5.out.drewN _), HG.out⟩, by simp [intOf]; omega⟩
            · have hne : (cutErr ⟨num, rl, src, inn, out, nn, dd⟩ day != 0) = true := by simpa using hce
              have HC := Lib.hid hce
              have HG := Lib.hid (HS.out.1 (by rw [HSg.out]; exact hce))
              clear hce
              go_wp2_with fail
              go_ret
              exact ⟨ret_int (by rw [h5.out _ HV.out HT.out HO.out H64.out HG.out (by rw [HSg.out]; exact HC.out), HSg.out]), HXr.out.trans HX5.out⟩
      · have hkn : k = n := by omega
        subst hkn
        have HZ : Hid (cutsErr day 0 0 cuts = 0) := by
          show _ = _
          rw [hP, List.drop_eq_nil_of_le (by have := HLn.out; omega)]
          rfl
        clear hP
        go_wp2_with (refine wpList_loadB rfl 32 (.tmp 1) rfl _ 32 _ _ (by exact rfl) (by exact HBr.out) Tryd.underlying32 rfl (by exact size_list) ?_)
        refine (HRE.out _ HXr.out).mono ?_
        rintro en w5 ⟨A5, m, c5, rfl, hm, hx5⟩
        have HM := Lib.hid hm
        clear hm
        by_cases h16 : 16 < m
        · have h16' : (16 : Int) < (m : Int) := by omega
          go_wp2_with fail
          go_ret
          exact ⟨ret_int (by rw [h6.out HV.out HT.out HO.out H64.out HZ.out (by rw [← HM.out]; exact h16)]), HXr.out.trans hx5⟩
        · have h16' : ¬ (16 : Int) < (m : Int) := by omega
          go_wp2_with fail
          go_ret
          exact ⟨ret_int (by rw [h7.out HV.out HT.out HO.out H64.out HZ.out (by rw [← HM.out]; exact h16)]), HXr.out.trans hx5⟩
end Go.Proofs.YtffianmhojiomaaDoor
