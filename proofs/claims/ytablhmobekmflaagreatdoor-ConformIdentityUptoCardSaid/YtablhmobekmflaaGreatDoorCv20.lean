/- Laid together: The walks of reel.Pieces, Cover, Played. The walks of reel.Join and of the reference's Join. The walks of reel.Join and the reference's Join, with the word where the joined cuts lie. A field of a document that no variable holds. -/
import Derived.Test.YtablhmobekmflaaGreatDoorCv13
import Derived.Laws.OwnMore
import Derived.Test.YtablhmobekmflaaGreatDoorCv17
set_option linter.unusedVariables false
set_option linter.unusedSimpArgs false
/-! PcsD -/
namespace Go.Proofs.YtablhmobekmflaaGreatDoor
open Go.RowKit
set_option maxRecDepth 100000 in
set_option maxHeartbeats 4000000 in
theorem ECover_any (e : Edl) (A : Option Addr) (n c : Nat) (w : World) (hE : Env w) (hl : CutsAt w A n e.cuts) (hn : n ≤ 1000000) (hok : EdlOk e) :
 Calls Tryz.prog 16 #[.agg (e.cells A n c)] w (LPost Spn.vals 2 (covE e) (edlErr e) w) := by
 have HL := Lib.hid hl
 have HLn := Lib.hid hl.len
 have HX := Lib.hid ((Ext.refl w).alloc (.cells (e.cells A n c) 28))
 have HB0 := Lib.hid (Blk.new w 28 (e.cells A n c))
 have HCk := Lib.hid (fun w' (hx : Ext w w') => Check_any e A n c w' (hE.ext hx) (hl.ext hx) hn hok.r0 hok.r1 hok.title hok.fits)
 have HSn := Lib.hid (fun (h : edlErr e = 0) (c : Cut) (hc : c ∈ e.cuts) => edl_sane h hc)
 have HEr : Hid (edlErr e ≠ 0 → covE e = []) := fun h => by unfold covE; rw [if_neg h]
 have HOk : Hid (edlErr e = 0 → covE e = joinS (covC e.cuts)) := fun h => by unfold covE; rw [if_pos h]
 have HFew : Hid (edlErr e = 0 → ¬ 64 < e.cuts.length) := fun h => (edlErr_ok h).2.2.2.1
 clear hl hok hE
 unfold LPost
 unfold Edl.cells at *
 go_enter Tryz.func16, Tryz.ntmps16
 go_wp2_with (refine wpList_loadB rfl 28 (.tmp 1) rfl w.heap.size 28 _ _ (by exact rfl) (by exact HB0.out) Tryz.underlying28 rfl (by exact size_list) ?_)
 refine (HCk.out _ HX.out).mono ?_
 rintro en w1 ⟨rfl, hx1⟩
 have HX1 := Lib.hid (HX.out.trans hx1)
 have HBl := Lib.hid (HB0.out.ext hx1)
 clear hx1 HB0 HX HCk
 by_cases hee : edlErr e = 0
 case neg =>
  have hne : (edlErr e != 0) = true := by simpa using hee
  have HZ := Lib.hid (HEr.out hee)
  clear hee
  go_wp2_with fail
  go_ret2
  exact ⟨none, 0, by rw [HZ.out]; rfl, by rw [HZ.out]; exact Sl.nil, by rw [HZ.out]; exact Nat.le_refl _, HX1.out, fun ad h => by cases h⟩
 have HSn := Lib.hid (HSn.out hee)
 have hfew := HFew.out hee
 have HZ := Lib.hid (HOk.out hee)
 rw [hee]
 have HE0 := Lib.hid hee
 clear hee HEr HOk HFew
 have hn64 : n ≤ 64 := by have := HLn.out; omega
 clear hfew
 have hcell1 := fun o => HBl.out.cell o
 have hz1 := HX1.out.size
 go_wp2_with fail
 clear hcell1
 go_loopw [5, 16] (fun v i wr => LRel Spn.vals 2 60 w1 n (fun k => covC (e.cuts.take k)) v i wr) (fun _ i _ => n - (intOf i).toNat)
 case atStart => exact ⟨0, Nat.zero_le _, rfl, Ext.refl _, ⟨rfl, .inl ⟨rfl, rfl⟩⟩⟩
 case round =>
  obtain ⟨k, hk, rfl, hx, hown⟩ := hrel
  have HXr := Lib.hid hx
  have HO := Lib.hid hown
  have hjl := covC_len e.cuts k
  have hzr := hx.size
  dsimp only at HO
  clear hx hown
  by_cases hlt : k < n
  · obtain ⟨b, off, r, rfl, hr, c0, c1, c2, c3, c4, c5, c6⟩ := (HL.out.ext (HX1.out.trans HXr.out)).at7 hlt
    have HBc := Lib.hid (Blk.new wr 91 r.cells)
    have HXc := Lib.hid ((Ext.refl wr).alloc (.cells r.cells 91))
    have HSr := Lib.hid (HSn.out r (List.mem_of_getElem? hr))
    unfold Cut.cells at HBc HXc
    have HT := Lib.hid (covC_add hr)
    clear hr
    generalize covC (e.cuts.take k) = os at *
    go_upto_region 8 with fail
    have HO2 := Lib.hid (own_ext HO.out HXc.out)
    have hz2 := HXc.out.size
    obtain ⟨W2, hW2⟩ : ∃ W2, W2 = wr.alloc (.cells #[.int .i64 r.num, .string r.reel, .int .i64 r.src, .int .i64 r.inn, .int .i64 r.out, .int .i64 r.n, .int .i64 r.d] 91) := ⟨_, rfl⟩
    rw [← hW2] at HBc HXc HO2 hz2 ⊢
    clear hW2
    have hcl := fun o => HBc.out.cell o
    go_wp2_with (at_builtin; refine wpList_append1 rfl (.tmp 20) (.tmp 23) 35 rfl info_span Tryz.underlying35 rfl (by decide) (HO2.out.alloc _) (by exact rfl) W2.heap.size _ (by exact rfl) (by exact Blk.new' rfl) (by exact rfl) (by simp [Value.oneCell']) (by omega) (by simp [maxLen] <;> omega) (by first | omega | (simp; omega) | simp) ?_; intro v5 w5 hown5 hgr; have HO5 := Lib.hid hown5; have HX5 := Lib.hid (Ext.grown ((HXr.out.trans HXc.out).alloc _) hgr (fun q hq => own_lt HO.out q hq)); clear hown5 hgr)
    exact ⟨⟨k + 1, by omega, by go_num, HX5.out, by dsimp only; rw [HT.out, List.length_append, List.flatMap_append]; exact HO5.out⟩, by simp [intOf]; omega⟩
  · have hkn : k = n := by omega
    subst hkn
    have HTk : Hid ((covC (e.cuts.take k)) = covC e.cuts) := by show _ = _; rw [List.take_of_length_le (by have := HLn.out; omega)]
    rw [HTk.out] at HO hjl
    obtain ⟨A', c', rfl, hc, _, hS, hfr⟩ := own_sl (f := Spn.vals) (size := 2) (fun _ => rfl) rfl HO.out
    have HN := Lib.hid (Norm_ok A' (covC e.cuts).length c' (covC e.cuts) wr hS (by omega) (fun x hx _ => by obtain ⟨c, hc, rfl⟩ := List.mem_map.1 hx; have := HSn.out c hc; exact ⟨this.1, by show c.out ≤ _; have := this.2.2.1; omega⟩))
    unfold SpnsPost2 at HN
    clear hc hS hfr HO
    go_wp2_with fail
    refine HN.out.mono ?_
    rintro en2 w2 ⟨A2, c2, rfl, h1, h2, h3, h4⟩
    have HR := Lib.hid (And.intro h2 (And.intro h1 (And.intro h4 ((HX1.out.trans HXr.out).trans h3))))
    clear h1 h2 h3 h4 HN
    go_wp2_with fail
    go_ret2
    exact ⟨A2, c2, by rw [HZ.out, HE0.out]; rfl, by rw [HZ.out]; exact HR.out.2.1, by rw [HZ.out]; exact HR.out.1, HR.out.2.2.2, fun ad h => Nat.le_trans (Nat.le_trans hz1 hzr) (HR.out.2.2.1 ad h)⟩
set_option maxRecDepth 100000 in
set_option maxHeartbeats 4000000 in
theorem EPlayed_any (e : Edl) (A : Option Addr) (n c : Nat) (s : ByteArray) (w : World) (hE : Env w) (hl : CutsAt w A n e.cuts) (hn : n ≤ 1000000) (hok : EdlOk e) :
 Calls Tryz.prog 18 #[.agg (e.cells A n c), .string s] w (LPost Spn.vals 2 (plE e s) (edlErr e) w) := by
 have HL := Lib.hid hl
 have HLn := Lib.hid hl.len
 have HX := Lib.hid ((Ext.refl w).alloc (.cells (e.cells A n c) 28))
 have HB0 := Lib.hid (Blk.new w 28 (e.cells A n c))
 have HCk := Lib.hid (fun w' (hx : Ext w w') => Check_any e A n c w' (hE.ext hx) (hl.ext hx) hn hok.r0 hok.r1 hok.title hok.fits)
 have HSn := Lib.hid (fun (h : edlErr e = 0) (c : Cut) (hc : c ∈ e.cuts) => edl_sane h hc)
 have HEr : Hid (edlErr e ≠ 0 → plE e s = []) := fun h => by unfold plE; rw [if_neg h]
 have HOk : Hid (edlErr e = 0 → plE e s = joinS (plC e.cuts s)) := fun h => by unfold plE; rw [if_pos h]
 have HFew : Hid (edlErr e = 0 → ¬ 64 < e.cuts.length) := fun h => (edlErr_ok h).2.2.2.1
 clear hl hok hE
 unfold LPost
 unfold Edl.cells at *
 go_enter Tryz.func18, Tryz.ntmps18
 go_wp2_with (refine wpList_loadB rfl 28 (.tmp 2) rfl w.heap.size 28 _ _ (by exact rfl) (by exact HB0.out) Tryz.underlying28 rfl (by exact size_list) ?_)
 refine (HCk.out _ HX.out).mono ?_
 rintro en w1 ⟨rfl, hx1⟩
 have HX1 := Lib.hid (HX.out.trans hx1)
 have HBl := Lib.hid (HB0.out.ext hx1)
 clear hx1 HB0 HX HCk
 by_cases hee : edlErr e = 0
 case neg =>
  have hne : (edlErr e != 0) = true := by simpa using hee
  have HZ := Lib.hid (HEr.out hee)
  clear hee
  go_wp2_with fail
  go_ret2
  exact ⟨none, 0, by rw [HZ.out]; rfl, by rw [HZ.out]; exact Sl.nil, by rw [HZ.out]; exact Nat.le_refl _, HX1.out, fun ad h => by cases h⟩
 have HSn := Lib.hid (HSn.out hee)
 have hfew := HFew.out hee
 have HZ := Lib.hid (HOk.out hee)
 rw [hee]
 have HE0 := Lib.hid hee
 clear hee HEr HOk HFew
 have hn64 : n ≤ 64 := by have := HLn.out; omega
 clear hfew
 have hcell1 := fun o => HBl.out.cell o
 have hz1 := HX1.out.size
 go_wp2_with fail
 clear hcell1
 go_loopw [7, 18] (fun v i wr => LRel Spn.vals 2 60 w1 n (fun k => plC (e.cuts.take k) s) v i wr) (fun _ i _ => n - (intOf i).toNat)
 case atStart => exact ⟨0, Nat.zero_le _, rfl, Ext.refl _, ⟨rfl, .inl ⟨rfl, rfl⟩⟩⟩
 case round =>
  obtain ⟨k, hk, rfl, hx, hown⟩ := hrel
  have HXr := Lib.hid hx
  have HO := Lib.hid hown
  have hjl := plC_len e.cuts s k
  have hzr := hx.size
  dsimp only at HO
  clear hx hown
  by_cases hlt : k < n
  · obtain ⟨b, off, r, rfl, hr, c0, c1, c2, c3, c4, c5, c6⟩ := (HL.out.ext (HX1.out.trans HXr.out)).at7 hlt
    have HBc := Lib.hid (Blk.new wr 91 r.cells)
    have HXc := Lib.hid ((Ext.refl wr).alloc (.cells r.cells 91))
    have HSr := Lib.hid (HSn.out r (List.mem_of_getElem? hr))
    unfold Cut.cells at HBc HXc
    by_cases he : r.reel = s
    · skip
      have he' : (r.reel.toList == s.toList) = true := by rw [bs_eq]; simpa using he
      have HT := Lib.hid (plC_yes hr he)
      clear hr he
      generalize plC (e.cuts.take k) s = os at *
      have HSo := Lib.hid (fun w' => source_any r (r.out - 1) w' HSr.out (by have := HSr.out.2.1; omega) (by omega))
      have hsb := srcAt_bd HSr.out (t := r.out - 1) (by have := HSr.out.2.1; omega) (by omega)
      have hob := HSr.out.2.2.1
      have hob2 := HSr.out.2.1
      have hob3 := HSr.out.1
      unfold Cut.pl at HT
      unfold Cut.cells at HSo
      go_upto_region 9 with fail
      generalize hsa : srcAt r (r.out - 1) = sa at *
      clear hsa
      have HO2 := Lib.hid (own_ext HO.out HXc.out)
      have hz2 := HXc.out.size
      obtain ⟨W2, hW2⟩ : ∃ W2, W2 = wr.alloc (.cells #[.int .i64 r.num, .string r.reel, .int .i64 r.src, .int .i64 r.inn, .int .i64 r.out, .int .i64 r.n, .int .i64 r.d] 91) := ⟨_, rfl⟩
      rw [← hW2] at HBc HXc HO2 hz2 ⊢
      clear hW2
      refine wp_region_links [some 26, some 27, some 28, some 29, some 30, some 31, some 32, some 33, some 34, some 35, some 36, some 37, some 38, some 7] [[], [], [1], [], [], [4], [5], [6], [3, 7], [8], [2, 9], [10], [0, 11, 8], [12, 12, 0, 1, 2, 3, 4, 5, 6, 7, 8, 9, 10, 11, 12]] [8, 11, 12, 13] [u7, .pointer (some ⟨wr.heap.size, 2, none⟩), .int .i64 r.src, .agg #[.int .i64 r.num, .string r.reel, .int .i64 r.src, .int .i64 r.inn, .int .i64 r.out, .int .i64 r.n, .int .i64 r.d], .pointer (some ⟨wr.heap.size, 3, none⟩), .pointer (some ⟨wr.heap.size, 3 + 1, none⟩), .int .i64 r.out, .int .i64 (r.out - 1), undef, .int .i64 (sa + 1), .agg #[.int .i64 r.src, .int .i64 (sa + 1)], undef, undef, undef] (PyJ sa #[.int .i64 r.src, .int .i64 (sa + 1)] w1.heap.size u7 os.length (os.flatMap Spn.vals) W2) (by kernel_rfl) (by kernel_rfl) (by kernel_rfl) (by kernel_rfl) (by kernel_rfl) (by kernel_rfl) (by kernel_rfl) (by decide) ?_ ?_ ?_ ?_
      · exact PyJ.start W2
      · intro i o ho hc a w' us K' hJ hF hlim hk
        match i, ho with
        | 0, ho =>
         simp only [List.getElem?_toArray, List.getElem?_cons_zero, List.getElem?_cons_succ, Option.some.injEq] at ho
         subst ho
         have e7 := hF.olds 3 13 7 (u7) rfl rfl (hlim 3 13 rfl rfl) rfl
         simp only [Act.eval] at e7
         clear hF hlim hJ
         go_simp
         exact hk
        | 1, ho =>
         simp only [List.getElem?_toArray, List.getElem?_cons_zero, List.getElem?_cons_succ, Option.some.injEq] at ho
         subst ho
         have e9 := hF.old 9 (.pointer (some ⟨wr.heap.size, 0, none⟩)) rfl rfl
         simp only [Act.eval] at e9
         clear hF hlim hJ
         go_simp
         exact hk
        | 2, ho =>
         simp only [List.getElem?_toArray, List.getElem?_cons_zero, List.getElem?_cons_succ, Option.some.injEq] at ho
         subst ho
         have e27 := hF.pure 1 27 (.pointer (some ⟨wr.heap.size, 2, none⟩)) rfl rfl rfl rfl
         have hcl := (HBc.out.only hJ.only (by decide)).cell 2
         simp only [List.getElem?_toArray, List.getElem?_cons_zero, List.getElem?_cons_succ] at hcl
         simp only [Act.eval] at e27
         clear hF hlim hJ
         go_simp
         exact hk
        | 3, ho =>
         simp only [List.getElem?_toArray, List.getElem?_cons_zero, List.getElem?_cons_succ, Option.some.injEq] at ho
         subst ho
         have e9 := hF.old 9 (.pointer (some ⟨wr.heap.size, 0, none⟩)) rfl rfl
         exact wp_loadB 91 (.tmp 9) rfl wr.heap.size 91 _ _ e9 (HBc.out.only hJ.only (by decide)) Tryz.underlying91 rfl (by exact size_cut) hk
        | 4, ho =>
         simp only [List.getElem?_toArray, List.getElem?_cons_zero, List.getElem?_cons_succ, Option.some.injEq] at ho
         subst ho
         have e9 := hF.old 9 (.pointer (some ⟨wr.heap.size, 0, none⟩)) rfl rfl
         simp only [Act.eval] at e9
         clear hF hlim hJ
         go_simp
         exact hk
        | 5, ho =>
         simp only [List.getElem?_toArray, List.getElem?_cons_zero, List.getElem?_cons_succ, Option.some.injEq] at ho
         subst ho
         have e30 := hF.pure 4 30 (.pointer (some ⟨wr.heap.size, 3, none⟩)) rfl rfl rfl rfl
         simp only [Act.eval] at e30
         clear hF hlim hJ
         go_simp
         exact hk
        | 6, ho =>
         simp only [List.getElem?_toArray, List.getElem?_cons_zero, List.getElem?_cons_succ, Option.some.injEq] at ho
         subst ho
         have e31 := hF.pure 5 31 (.pointer (some ⟨wr.heap.size, 3 + 1, none⟩)) rfl rfl rfl rfl
         have hcl := (HBc.out.only hJ.only (by decide)).cell 4
         simp only [List.getElem?_toArray, List.getElem?_cons_zero, List.getElem?_cons_succ] at hcl
         simp only [Act.eval] at e31
         clear hF hlim hJ
         go_simp
         exact hk
        | 7, ho =>
         simp only [List.getElem?_toArray, List.getElem?_cons_zero, List.getElem?_cons_succ, Option.some.injEq] at ho
         subst ho
         have e32 := hF.pure 6 32 (.int .i64 r.out) rfl rfl rfl rfl
         exact wp_bin rfl e32 rfl (by first | (go_simp; done) | (go_simp; exact wrap_i64 (by omega) (by omega))) hk
        | 8, ho => simp at hc
        | 9, ho =>
         simp only [List.getElem?_toArray, List.getElem?_cons_zero, List.getElem?_cons_succ, Option.some.injEq] at ho
         subst ho
         obtain ⟨v34, hv34⟩ := getElem_ltq (hF.did 0 8 rfl rfl)
         have e34 := hF.link 0 8 34 _ rfl rfl rfl hv34
         have hu := hJ.val v34 hv34
         subst hu
         exact wp_bin rfl e34 rfl (by first | (go_simp; done) | (go_simp; exact wrap_i64 (by omega) (by omega))) hk
        | 10, ho =>
         simp only [List.getElem?_toArray, List.getElem?_cons_zero, List.getElem?_cons_succ, Option.some.injEq] at ho
         subst ho
         have e28 := hF.pure 2 28 (.int .i64 r.src) rfl rfl rfl rfl
         have e35 := hF.pure 9 35 (.int .i64 (sa + 1)) rfl rfl rfl rfl
         simp [Act.eval] at e28 e35
         clear hF hlim hJ
         go_simp
         exact hk
        | 11, ho => simp at hc
        | 12, ho => simp at hc
        | 13, ho => simp at hc
        | i + 14, ho => simp at ho
      · intro p c' o hp ho a w' us K' hl hJ hF hk
        match p, hp with
        | 0, hp =>
         obtain rfl : 8 = c' := by simpa using hp
         simp only [List.getElem?_toArray, List.getElem?_cons_zero, List.getElem?_cons_succ, Option.some.injEq] at ho
         subst ho
         obtain rfl : us = [] := List.eq_nil_of_length_eq_zero hl
         have e29 := hF.pure 3 29 (.agg #[.int .i64 r.num, .string r.reel, .int .i64 r.src, .int .i64 r.inn, .int .i64 r.out, .int .i64 r.n, .int .i64 r.d]) rfl rfl rfl rfl
         have e33 := hF.pure 7 33 (.int .i64 (r.out - 1)) rfl rfl rfl rfl
         exact wp_call2 rfl e29 e33 Tryz.call45 (HSo.out _) (fun w5 hx5 => hk _ w5 (hJ.call hx5))
        | 1, hp =>
         obtain rfl : 11 = c' := by simpa using hp
         simp only [List.getElem?_toArray, List.getElem?_cons_zero, List.getElem?_cons_succ, Option.some.injEq] at ho
         subst ho
         obtain ⟨u0, rfl⟩ := list_1 hl
         have e36 := hF.pure 10 36 (.agg #[.int .i64 r.src, .int .i64 (sa + 1)]) rfl rfl rfl rfl
         have HK := Lib.hid (hk (.slice (some ⟨w'.heap.size, 0, none⟩) 1 1) (w'.alloc (.cells #[.int .i64 r.src, .int .i64 (sa + 1)] 60)) hJ.build)
         simp [Act.eval] at e36
         clear hk hF hJ
         go_simp
         exact HK.out
        | 2, hp =>
         obtain rfl : 12 = c' := by simpa using hp
         simp only [List.getElem?_toArray, List.getElem?_cons_zero, List.getElem?_cons_succ, Option.some.injEq] at ho
         subst ho
         obtain ⟨u0, u1, rfl⟩ := list_2 hl
         obtain ⟨⟨g8, rfl, hB8⟩, hx8⟩ := hJ.st
         have e26 := hF.pure 0 26 (u7) rfl rfl rfl rfl
         have e37 := hF.link 1 11 37 _ rfl rfl rfl rfl
         exact wp_append1p (.tmp 26) (.tmp 37) 35 rfl info_span Tryz.underlying35 rfl (by decide) (own_ext HO2.out hx8) e26 g8 _ e37 hB8 rfl (by simp [Value.oneCell']) (by omega) (by simp [maxLen]; omega) (by have := hx8.size; omega) (fun v' w9 ho9 hg9 => hk v' w9 (hJ.app (own_typed (own_ext HO2.out hx8)) hg9 ho9))
        | 3, hp =>
         obtain rfl : 13 = c' := by simpa using hp
         simp only [List.getElem?_toArray, List.getElem?_cons_zero, List.getElem?_cons_succ, Option.some.injEq] at ho
         subst ho
         obtain ⟨u0, u1, u2, rfl⟩ := list_3 hl
         have e38 := hF.link 2 12 38 _ rfl rfl rfl rfl
         exact wp_assignx _ _ rfl e38 (hk _ _ hJ.asg)
        | p + 4, hp => simp at hp
      intro us w5 hl hJ
      obtain ⟨uu0, uu1, uu2, uu3, rfl⟩ := list_4 hl
      first | (rename_i hK; refine hK _ _ ?_; clear hK) | (rename_i hK hK_1; refine hK _ _ ?_; clear hK) | (rename_i hK hK_1 hK_2; refine hK _ _ ?_; clear hK) | (rename_i hK hK_1 hK_2 hK_3; refine hK _ _ ?_; clear hK)
      generalize hL : frameL _ _ _ _ = L
      obtain rfl : L = [(26, u7), (27, .pointer (some ⟨wr.heap.size, 2, none⟩)), (28, .int .i64 r.src), (29, .agg #[.int .i64 r.num, .string r.reel, .int .i64 r.src, .int .i64 r.inn, .int .i64 r.out, .int .i64 r.n, .int .i64 r.d]), (30, .pointer (some ⟨wr.heap.size, 3, none⟩)), (31, .pointer (some ⟨wr.heap.size, 3 + 1, none⟩)), (32, .int .i64 r.out), (33, .int .i64 (r.out - 1)), (34, uu0), (35, .int .i64 (sa + 1)), (36, .agg #[.int .i64 r.src, .int .i64 (sa + 1)]), (37, uu1), (38, uu2), (7, uu3)] := hL.symm.trans (by kernel_rfl)
      clear hL hl
      simp only [Act.put, List.foldl_cons, List.foldl_nil, List.setIfInBounds_toArray, List.set_cons_zero, List.set_cons_succ]
      obtain ⟨rfl, w6, hx6, hg6, ho6⟩ := hJ.st
      have HO5 := Lib.hid ho6
      have HX5 := Lib.hid (Ext.grown ((HXr.out.trans HXc.out).trans hx6) hg6 (fun q hq => own_lt HO.out q hq))
      clear hx6 hg6 ho6
      go_wp2_with fail
      exact ⟨⟨k + 1, by omega, by go_num, HX5.out, by dsimp only; rw [HT.out, List.length_append, List.flatMap_append]; exact HO5.out⟩, by simp [intOf]; omega⟩
    · have he' : (r.reel.toList == s.toList) = false := by rw [bs_eq]; simpa using he
      have HT := Lib.hid (plC_no hr he)
      clear hr he
      go_wp2_with fail
      exact ⟨⟨k + 1, by omega, by go_num, HXr.out.trans HXc.out, by dsimp only; rw [HT.out]; exact own_ext HO.out HXc.out⟩, by simp [intOf]; omega⟩
  · have hkn : k = n := by omega
    subst hkn
    have HTk : Hid ((plC (e.cuts.take k) s) = plC e.cuts s) := by show _ = _; rw [List.take_of_length_le (by have := HLn.out; omega)]
    rw [HTk.out] at HO hjl
    obtain ⟨A', c', rfl, hc, _, hS, hfr⟩ := own_sl (f := Spn.vals) (size := 2) (fun _ => rfl) rfl HO.out
    have HN := Lib.hid (Norm_ok A' (plC e.cuts s).length c' (plC e.cuts s) wr hS (by omega) (fun x hx _ => by obtain ⟨c, hc, rfl⟩ := List.mem_map.1 hx; exact pl_sane (HSn.out c (List.mem_filter.1 hc).1)))
    unfold SpnsPost2 at HN
    clear hc hS hfr HO
    go_wp2_with fail
    refine HN.out.mono ?_
    rintro en2 w2 ⟨A2, c2, rfl, h1, h2, h3, h4⟩
    have HR := Lib.hid (And.intro h2 (And.intro h1 (And.intro h4 ((HX1.out.trans HXr.out).trans h3))))
    clear h1 h2 h3 h4 HN
    go_wp2_with fail
    go_ret2
    exact ⟨A2, c2, by rw [HZ.out, HE0.out]; rfl, by rw [HZ.out]; exact HR.out.2.1, by rw [HZ.out]; exact HR.out.1, HR.out.2.2.2, fun ad h => Nat.le_trans (Nat.le_trans hz1 hzr) (HR.out.2.2.1 ad h)⟩
end Go.Proofs.YtablhmobekmflaaGreatDoor
/-! JoinL -/
namespace Go.Proofs.YtablhmobekmflaaGreatDoor
open Go.RowKit
theorem info_cut : (Tryz.prog.info? 91).map (fun i => (i.zero, i.size, i.bytes)) = some (some (.agg #[.int .i64 0, .string ⟨#[]⟩, .int .i64 0, .int .i64 0, .int .i64 0, .int .i64 0, .int .i64 0]), 7, 64) := by kernel_rfl
def JoinPost (e : Edl) (w : World) (en : Ending) (w' : World) : Prop := ∃ A' n' c', en = .returned (.tuple #[.agg ((joinE e).cells A' n' c'), .int .i64 (edlErr e)]) ∧ CutsAt w' A' n' (joinE e).cuts ∧ n' ≤ c' ∧ Ext w w'
def JoinRel (w1 : World) (n : Nat) (l : List Cut) (v i : Value) (wr : World) : Prop :=
 ∃ k : Nat, k ≤ n ∧ i = .int .i64 k ∧ Ext w1 wr ∧ wr.ownsRow w1.heap.size 91 7 v (joinC (l.take k)).length ((joinC (l.take k)).flatMap Cut.vals)
section
variable {o : Oper} {a : Act} {w : World} {K : Act → World → Prop} {Q : Exit → Act → World → Prop}
theorem wp_load_cut {s : Nat} (ho : o.op = .load 91 (.tmp s)) (g off : Nat) (c : Cut) (hx : a.eval (.tmp s) = .pointer (some ⟨g, off, none⟩)) (hC : Cells Cut.vals w g off c) (h : K (a.put o.dst (.agg c.cells)) w) : o.wp Tryz.prog a w K Q := by
 obtain ⟨dst, op, ty, pos, after, guard⟩ := o
 simp only at ho
 subst ho
 have fx : a.tmps[s]?.getD undef = .pointer (some ⟨g, off, none⟩) := by simpa [Act.eval] using hx
 have c0 : w.cell? ⟨g, off, none⟩ = some (.int .i64 c.num) := by simpa using hC 0 _ rfl
 have c1 := hC 1 _ rfl
 have c2 := hC 2 _ rfl
 have c3 := hC 3 _ rfl
 have c4 := hC 4 _ rfl
 have c5 := hC 5 _ rfl
 have c6 := hC 6 _ rfl
 unfold Cut.cells at h
 clear hC hx
 go_simp
 exact h
theorem wp_ix_cut {s s' : Nat} {b off n c k : Nat} (ho : o.op = .indexAddr 23 (.tmp s) (.tmp s')) (hx : a.eval (.tmp s) = .slice (some ⟨b, off, none⟩) n c) (hy : a.eval (.tmp s') = .int .i64 k) (hk : k < n) (h : K (a.put o.dst (.pointer (some ⟨b, off + k * 7, none⟩))) w) : o.wp Tryz.prog a w K Q := by
 obtain ⟨dst, op, ty, pos, after, guard⟩ := o
 simp only at ho
 subst ho
 have fx : a.tmps[s]?.getD undef = .slice (some ⟨b, off, none⟩) n c := by simpa [Act.eval] using hx
 have fy : a.tmps[s']?.getD undef = .int .i64 k := by simpa [Act.eval] using hy
 clear hx hy
 go_simp
 exact h
end
theorem CutsAt.same {w w' : World} {A : Option Addr} {n : Nat} {l : List Cut} (h : CutsAt w A n l) (hA : ∀ ad, A = some ad → ∀ o, w'.cell? ⟨ad.block, o, none⟩ = w.cell? ⟨ad.block, o, none⟩) : CutsAt w' A n l :=
 ⟨h.1, fun hn => (h.2 hn).elim fun b hb => hb.elim fun off ho => ⟨b, off, ho.1, fun i x hx j u hu => (hA _ ho.1 _).trans (ho.2 i x hx j u hu)⟩⟩
theorem own_cell {w : World} {base : Nat} {v : Value} {ps : List Cut} {p : Cut} (h : w.ownsRow base 91 7 v (ps.length + 1) ((ps ++ [p]).flatMap Cut.vals)) : ∃ g cap, v = .slice (some ⟨g, 0, none⟩) (ps.length + 1) cap ∧ base ≤ g ∧ g < w.heap.size ∧ Cells Cut.vals w g (ps.length * 7) p := by
 obtain ⟨g, cap, rfl, h1, h2⟩ := own_form h (by omega)
 obtain ⟨A', c', he, _, _, hS, _⟩ := own_sl (f := Cut.vals) (size := 7) (fun _ => rfl) (l := ps ++ [p]) (by simp) h
 injection he with e1 e2 e3
 subst e1
 obtain ⟨b, off, x, hA, hx, hC⟩ := hS.at_ (i := ps.length) (by omega)
 injection hA with hA
 injection hA with e4 e5
 subst e4 e5
 have : x = p := by simpa using hx.symm
 subst this
 exact ⟨g, cap, rfl, h1, h2, by simpa using hC⟩
theorem set_out {ps : List Cut} {p c : Cut} : ((ps ++ [p]).flatMap Cut.vals).set (ps.length * 7 + 4) (.int .i64 c.out) = (ps ++ [p.upto c]).flatMap Cut.vals := by
 have hl : (ps.flatMap Cut.vals).length = ps.length * 7 := flatMap_len Cut.vals 7 (fun _ => rfl) ps
 rw [List.flatMap_append, List.flatMap_append, List.set_append_right _ _ (by omega), hl]
 congr 1
 rw [show ps.length * 7 + 4 - ps.length * 7 = 4 by omega]
 rfl
end Go.Proofs.YtablhmobekmflaaGreatDoor
/-! JoinF -/
namespace Go.Proofs.YtablhmobekmflaaGreatDoor
open Go.RowKit
def JoinPostF (e : Edl) (w : World) (en : Ending) (w' : World) : Prop := ∃ A' n' c', en = .returned (.tuple #[.agg ((joinE e).cells A' n' c'), .int .i64 (edlErr e)]) ∧ CutsAt w' A' n' (joinE e).cuts ∧ n' ≤ c' ∧ Ext w w' ∧ ∀ ad, A' = some ad → w.heap.size ≤ ad.block
set_option maxRecDepth 100000 in
set_option maxHeartbeats 8000000 in
theorem JoinF_any (e : Edl) (A : Option Addr) (n c : Nat) (w : World) (hE : Env w) (hl : CutsAt w A n e.cuts) (hn : n ≤ 1000000) (hok : EdlOk e) :
 Calls Tryz.prog 55 #[.agg (e.cells A n c)] w (JoinPostF e w) := by
 have HL := Lib.hid hl
 have HLn := Lib.hid hl.len
 have HX := Lib.hid (((Ext.refl w).alloc (.cells (e.cells A n c) 28)).alloc (.cells edlZero 28))
 have HB0 := Lib.hid ((Blk.new w 28 (e.cells A n c)).alloc (.cells edlZero 28))
 have HB1 := Lib.hid (Blk.new' (w := w.alloc (.cells (e.cells A n c) 28)) (g := w.heap.size + 1) (t := 28) (cs := edlZero) (by simp))
 have HCk := Lib.hid (fun w' (hx : Ext w w') => Check_any e A n c w' (hE.ext hx) (hl.ext hx) hn hok.r0 hok.r1 hok.title hok.fits)
 have HSn := Lib.hid (fun (h : edlErr e = 0) (c : Cut) (hc : c ∈ e.cuts) => edl_sane h hc)
 have HJs := Lib.hid (fun (h : edlErr e = 0) (k : Nat) (hk : k ≤ n) => joinC_sane (l := e.cuts) (fun c hc => edl_sane h hc) k (by rw [hl.len]; exact hk))
 have HJl := Lib.hid (fun (k : Nat) (hk : k ≤ n) => joinC_len e.cuts k (by rw [hl.len]; exact hk))
 have HJe := Lib.hid (@joinE_err e)
 have HJo := Lib.hid (@joinE_ok e)
 clear hl hok hE
 unfold JoinPostF
 unfold Edl.cells edlZero at *
 go_enter Tryz.func55, Tryz.ntmps55
 go_wp2_with (refine wpList_loadB rfl 28 (.tmp 1) rfl w.heap.size 28 _ _ (by exact rfl) (by exact HB0.out) Tryz.underlying28 rfl (by exact size_list) ?_)
 refine (HCk.out _ HX.out).mono ?_
 rintro en w1 ⟨rfl, hx1⟩
 have HX1 := Lib.hid (HX.out.trans hx1)
 have HBl := Lib.hid (HB0.out.ext hx1)
 have HBr := Lib.hid (HB1.out.ext hx1)
 clear hx1 HB0 HB1 HX
 by_cases hee : edlErr e = 0
 case neg =>
  have hne : (edlErr e != 0) = true := by simpa using hee
  have HEr := Lib.hid hee
  clear hee
  go_wp2_with (refine wpList_storeB rfl 28 (.tmp 2) (.tmp 13) rfl (w.heap.size + 1) 28 _ _ (by exact rfl) (by exact rfl) (by exact HBr.out) (by exact rfl) (by exact size_list) (by simp [Value.oneCell']) ?_)
  refine bodyPost_ret (v := .tuple #[.agg #[.string ⟨#[]⟩, .int .u8 0, .bool false, .slice none 0 0], .int .i64 (edlErr e)]) ?_ rfl ⟨none, 0, 0, by rw [HJe.out HEr.out], by rw [HJe.out HEr.out]; exact Sl.nil, Nat.le_refl _, ?_, fun ad h => by cases h⟩
  · exact results_B_tmp (P := Tryz.prog) Tryz.results55 (g := w.heap.size + 1) rfl (by exact HBr.out.put _) Tryz.underlying28 rfl size_list
  · exact HX1.out.put (by omega) _ _
 case pos =>
  rw [hee]
  have HZ := Lib.hid hee
  have HJ := Lib.hid (HJo.out hee)
  clear hee HJe HJo
  have hcell1 := fun o => HBl.out.cell o
  go_wp2_with fail
  clear hcell1
  go_loopw [5, 18] (fun v i wr => JoinRel w1 n e.cuts v i wr) (fun _ i _ => n - (intOf i).toNat)
  case atStart => exact ⟨0, Nat.zero_le _, rfl, Ext.refl _, ⟨rfl, .inl ⟨rfl, rfl⟩⟩⟩
  case round =>
   obtain ⟨k, hk, rfl, hx, hown⟩ := hrel
   have HXr := Lib.hid (HX1.out.trans hx)
   have HBlr := Lib.hid (HBl.out.ext hx)
   have HBrr := Lib.hid (HBr.out.ext hx)
   have hb1 := HBr.out.lt
   have hb2 := hx.size
   have hjl := HJl.out k hk
   have HO := Lib.hid hown
   clear hown
   by_cases hlt : k < n
   · obtain ⟨b, off, r, rfl, hr, c0, c1, c2, c3, c4, c5, c6⟩ := (HL.out.ext HXr.out).at7 hlt
     have HT := Lib.hid (show joinC (e.cuts.take (k + 1)) = joinStep (joinC (e.cuts.take k)) r by rw [take_snoc' e.cuts k r hr, joinC_snoc])
     have hsr := HSn.out HZ.out r (List.mem_of_getElem? hr)
     have HSr := Lib.hid hsr
     have HSj := Lib.hid (HJs.out HZ.out k hk)
     clear hr hsr
     generalize joinC (e.cuts.take k) = os at *
     obtain ⟨num, rl, src, inn, out, nn, dd⟩ := r
     have HBc := Lib.hid (Blk.new wr 91 (Cut.cells ⟨num, rl, src, inn, out, nn, dd⟩))
     have HXc := Lib.hid ((Ext.refl wr).alloc (.cells (Cut.cells ⟨num, rl, src, inn, out, nn, dd⟩) 91))
     unfold Cut.cells at HBc HXc
     dsimp only at *
     rcases Classical.em (os = []) with hos | hos
     · subst hos
       obtain ⟨A', cap', rfl, hcap, hcm, _, _⟩ := own_sl (f := Cut.vals) (size := 7) (l := []) (fun _ => rfl) rfl HO.out
       have HT2 := Lib.hid (HT.out.trans (joinStep_nil _))
       simp only [List.length_nil] at *
       go_wp2_with fail
       go_quiet (fail)
       go_upto_region 11 with fail
       refine wp_drewN ?_
       intro w3 hx3 hs3
       clear hs3
       have HXw3 := Lib.hid (HXc.out.trans hx3)
       have HO3 := Lib.hid (own_ext HO.out HXw3.out)
       have HBc3 := Lib.hid (HBc.out.ext hx3)
       have hb3 := HXw3.out.size
       clear hx3
       go_wp2_with (first | (refine wpList_loadB rfl 91 (.tmp 7) rfl wr.heap.size 91 _ _ (by exact rfl) (by exact HBc3.out) Tryz.underlying91 rfl (by exact size_cut) ?_) | (at_builtin; refine wpList_append1 rfl (.tmp 43) (.tmp 45) 23 rfl info_cut Tryz.underlying23 rfl (by decide) (HO3.out.alloc _) (by exact rfl) w3.heap.size _ (by exact rfl) (by exact Blk.new' rfl) (by exact rfl) (by simp [Value.oneCell']) (by omega) (by simp [maxLen] <;> omega) (by simp <;> omega) ?_; intro v5 w5 hown5 hgr5; have HO5 := Lib.hid hown5; have HX5 := Lib.hid (Ext.grown ((hx.trans HXw3.out).alloc _) hgr5 (fun q hq => own_lt HO3.out q hq)); clear hown5 hgr5))
       exact ⟨⟨k + 1, by omega, by go_num, HX5.out, by rw [HT2.out]; exact HO5.out⟩, by simp [intOf]; omega⟩
     · obtain ⟨ps, p, rfl⟩ := snoc_of hos
       clear hos
       have hlen : (ps ++ [p]).length = ps.length + 1 := by simp
       rw [hlen] at HO hjl
       clear hlen
       obtain ⟨g, cap, rfl, hg1, hg2, hCp⟩ := own_cell HO.out
       have HCp := Lib.hid hCp
       have hsp := HSj.out p (by simp)
       have HGo := Lib.hid (fun w' => goesOn_any p ⟨num, rl, src, inn, out, nn, dd⟩ w' hsp HSr.out)
       have HUp : Hid ((p.upto ⟨num, rl, src, inn, out, nn, dd⟩) = { p with out := out }) := rfl
       clear hCp hsp
       cases hgo : goes45 p ⟨num, rl, src, inn, out, nn, dd⟩
       · have HT2 := Lib.hid (HT.out.trans (joinStep_no hgo))
         rw [hgo] at HGo
         clear hgo
         unfold Cut.cells at HGo
         dsimp only at HGo
         go_wp2_with fail
         refine wp_region_vals [.int .i64 (ps.length : Int), .bool true, .bool true, .slice (some ⟨g, 0, none⟩) (ps.length + 1) cap, .int .i64 (ps.length : Int), .pointer (some ⟨g, 0 + ps.length * 7, none⟩), .agg #[.int .i64 p.num, .string p.reel, .int .i64 p.src, .int .i64 p.inn, .int .i64 p.out, .int .i64 p.n, .int .i64 p.d], .agg #[.int .i64 num, .string rl, .int .i64 src, .int .i64 inn, .int .i64 out, .int .i64 nn, .int .i64 dd], .bool false, .bool false] [(25, .int .i64 (ps.length : Int)), (26, .bool true), (27, .bool true), (28, .slice (some ⟨g, 0, none⟩) (ps.length + 1) cap), (29, .int .i64 (ps.length : Int)), (30, .pointer (some ⟨g, 0 + ps.length * 7, none⟩)), (31, .agg #[.int .i64 p.num, .string p.reel, .int .i64 p.src, .int .i64 p.inn, .int .i64 p.out, .int .i64 p.n, .int .i64 p.d]), (32, .agg #[.int .i64 num, .string rl, .int .i64 src, .int .i64 inn, .int .i64 out, .int .i64 nn, .int .i64 dd]), (33, .bool false), (34, .bool false)] (by kernel_rfl) (by kernel_rfl) (by kernel_rfl) rfl rfl ?_ ?_
         · intro i o ho a w' K' hx hn hd hk
           match i, ho with
           | 0, ho =>
            simp only [List.getElem?_toArray, List.getElem?_cons_zero, List.getElem?_cons_succ, Option.some.injEq] at ho
            subst ho
            refine want_none rfl ?_
            exact wp_move _ _ rfl ((hn 8 rfl).trans (show _ = .int .i64 (ps.length : Int) from rfl)) (hk _ rfl w' (Ext.refl _))
           | 1, ho =>
            simp only [List.getElem?_toArray, List.getElem?_cons_zero, List.getElem?_cons_succ, Option.some.injEq] at ho
            subst ho
            refine want_none rfl ?_
            exact wp_bin rfl (eval_of (hd 0 25 (.int .i64 (ps.length : Int)) rfl rfl rfl)) rfl (by first | (go_simp; done) | (go_simp; exact wrap_i64 (by omega) (by omega)) | (go_simp; omega)) (hk _ rfl w' (Ext.refl _))
           | 2, ho =>
            simp only [List.getElem?_toArray, List.getElem?_cons_zero, List.getElem?_cons_succ, Option.some.injEq] at ho
            subst ho
            refine want_none rfl ?_
            exact wp_move _ _ rfl (eval_of (hd 1 26 (.bool true) rfl rfl rfl)) (hk _ rfl w' (Ext.refl _))
           | 3, ho =>
            simp only [List.getElem?_toArray, List.getElem?_cons_zero, List.getElem?_cons_succ, Option.some.injEq] at ho
            subst ho
            refine want_yes rfl rfl (hd 2 27 (.bool true) rfl rfl rfl) rfl ?_
            exact wp_move _ _ rfl ((hn 5 rfl).trans (show _ = .slice (some ⟨g, 0, none⟩) (ps.length + 1) cap from rfl)) (hk _ rfl w' (Ext.refl _))
           | 4, ho =>
            simp only [List.getElem?_toArray, List.getElem?_cons_zero, List.getElem?_cons_succ, Option.some.injEq] at ho
            subst ho
            refine want_yes rfl rfl (hd 2 27 (.bool true) rfl rfl rfl) rfl ?_
            exact wp_move _ _ rfl ((hn 8 rfl).trans (show _ = .int .i64 (ps.length : Int) from rfl)) (hk _ rfl w' (Ext.refl _))
           | 5, ho =>
            simp only [List.getElem?_toArray, List.getElem?_cons_zero, List.getElem?_cons_succ, Option.some.injEq] at ho
            subst ho
            refine want_yes rfl rfl (hd 2 27 (.bool true) rfl rfl rfl) rfl ?_
            exact wp_ix_cut rfl (eval_of (hd 3 28 (.slice (some ⟨g, 0, none⟩) (ps.length + 1) cap) rfl rfl rfl)) (eval_of (hd 4 29 (.int .i64 (ps.length : Int)) rfl rfl rfl)) (by omega) (hk _ rfl w' (Ext.refl _))
           | 6, ho =>
            simp only [List.getElem?_toArray, List.getElem?_cons_zero, List.getElem?_cons_succ, Option.some.injEq] at ho
            subst ho
            refine want_yes rfl rfl (hd 2 27 (.bool true) rfl rfl rfl) rfl ?_
            exact wp_load_cut rfl g _ p (eval_of (hd 5 30 (.pointer (some ⟨g, 0 + ps.length * 7, none⟩)) rfl rfl rfl)) (by rw [Nat.zero_add]; exact Cells.stays _ _ _ _ _ _ hx (Cells.stays _ _ _ _ _ _ HXc.out HCp.out)) (hk _ rfl w' (Ext.refl _))
           | 7, ho =>
            simp only [List.getElem?_toArray, List.getElem?_cons_zero, List.getElem?_cons_succ, Option.some.injEq] at ho
            subst ho
            refine want_yes rfl rfl (hd 2 27 (.bool true) rfl rfl rfl) rfl ?_
            exact wp_loadB 91 (.tmp 7) rfl _ 91 _ _ ((hn 7 rfl).trans (show _ = Value.pointer (some ⟨wr.heap.size, 0, none⟩) from rfl)) (HBc.out.ext hx) Tryz.underlying91 rfl (by exact size_cut) (hk _ rfl w' (Ext.refl _))
           | 8, ho =>
            simp only [List.getElem?_toArray, List.getElem?_cons_zero, List.getElem?_cons_succ, Option.some.injEq] at ho
            subst ho
            refine want_yes rfl rfl (hd 2 27 (.bool true) rfl rfl rfl) rfl ?_
            exact wp_call2 rfl (eval_of (hd 6 31 (.agg #[.int .i64 p.num, .string p.reel, .int .i64 p.src, .int .i64 p.inn, .int .i64 p.out, .int .i64 p.n, .int .i64 p.d]) rfl rfl rfl)) (eval_of (hd 7 32 (.agg #[.int .i64 num, .string rl, .int .i64 src, .int .i64 inn, .int .i64 out, .int .i64 nn, .int .i64 dd]) rfl rfl rfl)) Tryz.call115 (HGo.out _) (hk _ rfl)
           | 9, ho =>
            simp only [List.getElem?_toArray, List.getElem?_cons_zero, List.getElem?_cons_succ, Option.some.injEq] at ho
            subst ho
            refine want_none rfl ?_
            exact wp_pick _ _ _ true _ rfl (eval_of (hd 2 27 (.bool true) rfl rfl rfl)) (by exact (eval_of (hd 8 33 (.bool false) rfl rfl rfl))) (hk _ rfl w' (Ext.refl _))
           | i + 10, ho => simp at ho
         intro w3 hx3
         simp only [Act.put, List.foldl_cons, List.foldl_nil, List.setIfInBounds_toArray, List.set_cons_zero, List.set_cons_succ]
         have HXw3 := Lib.hid (HXc.out.trans hx3)
         have HO3 := Lib.hid (own_ext HO.out HXw3.out)
         have HBc3 := Lib.hid (HBc.out.ext hx3)
         have hb3 := HXw3.out.size
         clear hx3
         go_wp2_with (first | (refine wpList_loadB rfl 91 (.tmp 7) rfl wr.heap.size 91 _ _ (by exact rfl) (by exact HBc3.out) Tryz.underlying91 rfl (by exact size_cut) ?_) | (at_builtin; refine wpList_append1 rfl (.tmp 43) (.tmp 45) 23 rfl info_cut Tryz.underlying23 rfl (by decide) (HO3.out.alloc _) (by exact rfl) w3.heap.size _ (by exact rfl) (by exact Blk.new' rfl) (by exact rfl) (by simp [Value.oneCell']) (by omega) (by simp [maxLen] <;> omega) (by simp <;> omega) ?_; intro v5 w5 hown5 hgr5; have HO5 := Lib.hid hown5; have HX5 := Lib.hid (Ext.grown ((hx.trans HXw3.out).alloc _) hgr5 (fun q hq => own_lt HO3.out q hq)); clear hown5 hgr5))
         exact ⟨⟨k + 1, by omega, by go_num, HX5.out, by rw [HT2.out]; rw [show (ps ++ [p] ++ [(⟨num, rl, src, inn, out, nn, dd⟩ : Cut)]).length = ps.length + 1 + 1 by simp, List.flatMap_append]; exact HO5.out⟩, by simp [intOf]; omega⟩
       · have HT2 := Lib.hid (HT.out.trans (joinStep_go hgo))
         rw [hgo] at HGo
         clear hgo
         unfold Cut.cells at HGo
         dsimp only at HGo
         go_wp2_with fail
         refine wp_region_vals [.int .i64 (ps.length : Int), .bool true, .bool true, .slice (some ⟨g, 0, none⟩) (ps.length + 1) cap, .int .i64 (ps.length : Int), .pointer (some ⟨g, 0 + ps.length * 7, none⟩), .agg #[.int .i64 p.num, .string p.reel, .int .i64 p.src, .int .i64 p.inn, .int .i64 p.out, .int .i64 p.n, .int .i64 p.d], .agg #[.int .i64 num, .string rl, .int .i64 src, .int .i64 inn, .int .i64 out, .int .i64 nn, .int .i64 dd], .bool true, .bool true] [(25, .int .i64 (ps.length : Int)), (26, .bool true), (27, .bool true), (28, .slice (some ⟨g, 0, none⟩) (ps.length + 1) cap), (29, .int .i64 (ps.length : Int)), (30, .pointer (some ⟨g, 0 + ps.length * 7, none⟩)), (31, .agg #[.int .i64 p.num, .string p.reel, .int .i64 p.src, .int .i64 p.inn, .int .i64 p.out, .int .i64 p.n, .int .i64 p.d]), (32, .agg #[.int .i64 num, .string rl, .int .i64 src, .int .i64 inn, .int .i64 out, .int .i64 nn, .int .i64 dd]), (33, .bool true), (34, .bool true)] (by kernel_rfl) (by kernel_rfl) (by kernel_rfl) rfl rfl ?_ ?_
         · intro i o ho a w' K' hx hn hd hk
           match i, ho with
           | 0, ho =>
            simp only [List.getElem?_toArray, List.getElem?_cons_zero, List.getElem?_cons_succ, Option.some.injEq] at ho
            subst ho
            refine want_none rfl ?_
            exact wp_move _ _ rfl ((hn 8 rfl).trans (show _ = .int .i64 (ps.length : Int) from rfl)) (hk _ rfl w' (Ext.refl _))
           | 1, ho =>
            simp only [List.getElem?_toArray, List.getElem?_cons_zero, List.getElem?_cons_succ, Option.some.injEq] at ho
            subst ho
            refine want_none rfl ?_
            exact wp_bin rfl (eval_of (hd 0 25 (.int .i64 (ps.length : Int)) rfl rfl rfl)) rfl (by first | (go_simp; done) | (go_simp; exact wrap_i64 (by omega) (by omega)) | (go_simp; omega)) (hk _ rfl w' (Ext.refl _))
           | 2, ho =>
            simp only [List.getElem?_toArray, List.getElem?_cons_zero, List.getElem?_cons_succ, Option.some.injEq] at ho
            subst ho
            refine want_none rfl ?_
            exact wp_move _ _ rfl (eval_of (hd 1 26 (.bool true) rfl rfl rfl)) (hk _ rfl w' (Ext.refl _))
           | 3, ho =>
            simp only [List.getElem?_toArray, List.getElem?_cons_zero, List.getElem?_cons_succ, Option.some.injEq] at ho
            subst ho
            refine want_yes rfl rfl (hd 2 27 (.bool true) rfl rfl rfl) rfl ?_
            exact wp_move _ _ rfl ((hn 5 rfl).trans (show _ = .slice (some ⟨g, 0, none⟩) (ps.length + 1) cap from rfl)) (hk _ rfl w' (Ext.refl _))
           | 4, ho =>
            simp only [List.getElem?_toArray, List.getElem?_cons_zero, List.getElem?_cons_succ, Option.some.injEq] at ho
            subst ho
            refine want_yes rfl rfl (hd 2 27 (.bool true) rfl rfl rfl) rfl ?_
            exact wp_move _ _ rfl ((hn 8 rfl).trans (show _ = .int .i64 (ps.length : Int) from rfl)) (hk _ rfl w' (Ext.refl _))
           | 5, ho =>
            simp only [List.getElem?_toArray, List.getElem?_cons_zero, List.getElem?_cons_succ, Option.some.injEq] at ho
            subst ho
            refine want_yes rfl rfl (hd 2 27 (.bool true) rfl rfl rfl) rfl ?_
            exact wp_ix_cut rfl (eval_of (hd 3 28 (.slice (some ⟨g, 0, none⟩) (ps.length + 1) cap) rfl rfl rfl)) (eval_of (hd 4 29 (.int .i64 (ps.length : Int)) rfl rfl rfl)) (by omega) (hk _ rfl w' (Ext.refl _))
           | 6, ho =>
            simp only [List.getElem?_toArray, List.getElem?_cons_zero, List.getElem?_cons_succ, Option.some.injEq] at ho
            subst ho
            refine want_yes rfl rfl (hd 2 27 (.bool true) rfl rfl rfl) rfl ?_
            exact wp_load_cut rfl g _ p (eval_of (hd 5 30 (.pointer (some ⟨g, 0 + ps.length * 7, none⟩)) rfl rfl rfl)) (by rw [Nat.zero_add]; exact Cells.stays _ _ _ _ _ _ hx (Cells.stays _ _ _ _ _ _ HXc.out HCp.out)) (hk _ rfl w' (Ext.refl _))
           | 7, ho =>
            simp only [List.getElem?_toArray, List.getElem?_cons_zero, List.getElem?_cons_succ, Option.some.injEq] at ho
            subst ho
            refine want_yes rfl rfl (hd 2 27 (.bool true) rfl rfl rfl) rfl ?_
            exact wp_loadB 91 (.tmp 7) rfl _ 91 _ _ ((hn 7 rfl).trans (show _ = Value.pointer (some ⟨wr.heap.size, 0, none⟩) from rfl)) (HBc.out.ext hx) Tryz.underlying91 rfl (by exact size_cut) (hk _ rfl w' (Ext.refl _))
           | 8, ho =>
            simp only [List.getElem?_toArray, List.getElem?_cons_zero, List.getElem?_cons_succ, Option.some.injEq] at ho
            subst ho
            refine want_yes rfl rfl (hd 2 27 (.bool true) rfl rfl rfl) rfl ?_
            exact wp_call2 rfl (eval_of (hd 6 31 (.agg #[.int .i64 p.num, .string p.reel, .int .i64 p.src, .int .i64 p.inn, .int .i64 p.out, .int .i64 p.n, .int .i64 p.d]) rfl rfl rfl)) (eval_of (hd 7 32 (.agg #[.int .i64 num, .string rl, .int .i64 src, .int .i64 inn, .int .i64 out, .int .i64 nn, .int .i64 dd]) rfl rfl rfl)) Tryz.call115 (HGo.out _) (hk _ rfl)
           | 9, ho =>
            simp only [List.getElem?_toArray, List.getElem?_cons_zero, List.getElem?_cons_succ, Option.some.injEq] at ho
            subst ho
            refine want_none rfl ?_
            exact wp_pick _ _ _ true _ rfl (eval_of (hd 2 27 (.bool true) rfl rfl rfl)) (by exact (eval_of (hd 8 33 (.bool true) rfl rfl rfl))) (hk _ rfl w' (Ext.refl _))
           | i + 10, ho => simp at ho
         intro w3 hx3
         simp only [Act.put, List.foldl_cons, List.foldl_nil, List.setIfInBounds_toArray, List.set_cons_zero, List.set_cons_succ]
         have HXw3 := Lib.hid (HXc.out.trans hx3)
         have HO3 := Lib.hid (own_ext HO.out HXw3.out)
         have HBc3 := Lib.hid (HBc.out.ext hx3)
         have hcc3 := fun o => HBc3.out.cell o
         have hcg := hx3.cell (HXc.out.cell (HCp.out 4 _ rfl))
         have hfg := World.ownsRow.frozenAt HO3.out (ps.length * 7 + 4)
         obtain ⟨hst, hgr⟩ := World.ownsRow.stored HO3.out (ps.length * 7 + 4) (.int .i64 out)
         have HO5 := Lib.hid hst
         have HX5 := Lib.hid (Ext.grown (hx.trans HXw3.out) hgr (fun q hq => by cases hq; exact hg1))
         have HSO := Lib.hid (set_out (ps := ps) (p := p) (c := ⟨num, rl, src, inn, out, nn, dd⟩))
         clear hst hgr hx3
         go_wp2_with fail
         exact ⟨⟨k + 1, by omega, by go_num, HX5.out, by rw [HT2.out, show (ps ++ [p.upto ⟨num, rl, src, inn, out, nn, dd⟩]).length = ps.length + 1 by simp, ← HSO.out]; exact HO5.out⟩, by simp [intOf]; omega⟩
   · have hkn : k = n := by omega
     subst hkn
     have HTk := Lib.hid (show e.cuts.take k = e.cuts from List.take_of_length_le (by have := HLn.out; omega))
     obtain ⟨A', cap', rfl, hcap, hcm, hS, hfr⟩ := own_sl (f := Cut.vals) (size := 7) (fun _ => rfl) rfl HO.out
     have HS := Lib.hid hS
     have hcl := fun o => HBlr.out.cell o
     have hfl := fun o => HBlr.out.frozen o
     have hset := setCell_put HBlr.out 3 (.slice A' (joinC (e.cuts.take k)).length cap')
     have HB6 := Lib.hid (HBlr.out.put (#[.string e.title, .int .u8 e.rate, .bool e.drop, .slice A k c].setIfInBounds 3 (.slice A' (joinC (e.cuts.take k)).length cap')))
     have HB7 := Lib.hid (HBrr.out.put_other (g' := w.heap.size) (t' := 28) (by omega) (#[.string e.title, .int .u8 e.rate, .bool e.drop, .slice A k c].setIfInBounds 3 (.slice A' (joinC (e.cuts.take k)).length cap')))
     have HX6 := Lib.hid (HXr.out.put (g := w.heap.size) (Nat.le_refl _) 28 (#[.string e.title, .int .u8 e.rate, .bool e.drop, .slice A k c].setIfInBounds 3 (.slice A' (joinC (e.cuts.take k)).length cap')))
     have HO6 : Hid (∀ ad, A' = some ad → w1.heap.size ≤ ad.block) := hfr
     clear hS hfr
     have HB8 := Lib.hid (show Blk (wr.setCell ⟨w.heap.size, 3, none⟩ (.slice A' (joinC (e.cuts.take k)).length cap')) w.heap.size 28 #[.string e.title, .int .u8 e.rate, .bool e.drop, .slice A' (joinC (e.cuts.take k)).length cap'] by rw [hset]; exact HB6.out)
     have HB9 := Lib.hid (show Blk (wr.setCell ⟨w.heap.size, 3, none⟩ (.slice A' (joinC (e.cuts.take k)).length cap')) (w.heap.size + 1) 28 #[.string ⟨#[]⟩, .int .u8 0, .bool false, .slice none 0 0] by rw [hset]; exact HB7.out)
     have HX8 := Lib.hid (show Ext w (wr.setCell ⟨w.heap.size, 3, none⟩ (.slice A' (joinC (e.cuts.take k)).length cap')) by rw [hset]; exact HX6.out)
     have HX9 := Lib.hid (show Ext w1 wr from hx)
     have HC8 : Hid (∀ p : Addr, p.block ≠ w.heap.size → (wr.setCell ⟨w.heap.size, 3, none⟩ (.slice A' (joinC (e.cuts.take k)).length cap')).cell? p = wr.cell? p) := fun p hp => by rw [hset]; exact putB_cell_other hp
     clear hset HB6 HB7 HX6
     go_wp2_with (first | (refine wpList_loadB rfl 28 (.tmp 1) rfl w.heap.size 28 _ _ (by exact rfl) (by exact HB8.out) Tryz.underlying28 rfl (by exact size_list) ?_) | (refine wpList_storeB rfl 28 (.tmp 2) (.tmp 50) rfl (w.heap.size + 1) 28 _ _ (by exact rfl) (by exact rfl) (by exact HB9.out) (by exact rfl) (by exact size_list) (by simp [Value.oneCell']) ?_))
     have hjc : joinC (e.cuts.take k) = joinC e.cuts := by rw [HTk.out]
     refine bodyPost_ret (v := .tuple #[.agg #[.string e.title, .int .u8 e.rate, .bool e.drop, .slice A' (joinC (e.cuts.take k)).length cap'], .int .i64 0]) ?_ rfl ⟨A', (joinC (e.cuts.take k)).length, cap', by rw [HJ.out, HZ.out], ?_, hcap, ?_, ?_⟩
     · exact results_B_tmp (P := Tryz.prog) Tryz.results55 (g := w.heap.size + 1) rfl (by exact HB9.out.put _) Tryz.underlying28 rfl size_list
     · rw [HJ.out]
       show CutsAt _ A' (joinC (e.cuts.take k)).length (joinC e.cuts)
       rw [← hjc]
       refine CutsAt.same HS.out fun ad had o => ?_
       have hge := HO6.out ad had
       rw [putB_cell_other (by show ad.block ≠ _; omega)]
       exact HC8.out _ (by show ad.block ≠ _; omega)
     · exact HX8.out.put (by omega) _ _
     · exact fun ad had => Nat.le_trans HX1.out.size (HO6.out ad had)
end Go.Proofs.YtablhmobekmflaaGreatDoor
/-! FldD -/
namespace Go.Proofs.YtablhmobekmflaaGreatDoor
open Go.RowKit
set_option maxRecDepth 100000 in
theorem field_evs (t l : ByteArray) (r la : Int) (d : Bool) (v5 v7 : Value) (A : Option Addr) (n c : Nat) (w : World) : (Instr.field 52 (.agg #[.string t, .string l, .int .u8 r, .bool d, .int .i64 la, v5, .slice A n c, v7]) 6).run Tryz.prog w = .ok (.slice A n c) w := by
 kernel_rfl
end Go.Proofs.YtablhmobekmflaaGreatDoor