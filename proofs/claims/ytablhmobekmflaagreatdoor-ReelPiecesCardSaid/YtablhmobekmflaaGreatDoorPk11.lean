/- Laid together: The walks of reel.Pieces, Cover, Played. The walks of the reference's Pieces, Cover, Played. Equality of runs and rows: slices.Equal, style.Same, slices.EqualFunc, style.SameRows; the reference's Same, SameRows. Equality of sets and of maps; whether a frame is in a set. -/
import Derived.Test.YtablhmobekmflaaGreatDoorPk10
import Derived.Test.YtablhmobekmflaaGreatDoorPk07

/-! PcsD -/
namespace Go.Proofs.YtablhmobekmflaaGreatDoor
set_option linter.unusedVariables false
set_option linter.unusedSimpArgs false
open Go.RowKit
set_option maxRecDepth 100000 in
set_option maxHeartbeats 4000000 in
theorem EPieces_any (e : Edl) (A : Option Addr) (n c : Nat) (s : ByteArray) (w : World) (hE : Env w) (hl : CutsAt w A n e.cuts) (hn : n ≤ 1000000) (hok : EdlOk e) :
    Calls Tryz.prog 14 #[.agg (e.cells A n c), .string s] w (LPost Pc.vals 5 (pcsE e s) (edlErr e) w) := by
  have HL := Lib.hid hl
  have HLn := Lib.hid hl.len
  have HX := Lib.hid ((Ext.refl w).alloc (.cells (e.cells A n c) 28))
  have HB0 := Lib.hid (Blk.new w 28 (e.cells A n c))
  have HCk := Lib.hid (fun w' (hx : Ext w w') => Check_any e A n c w' (hE.ext hx) (hl.ext hx) hn hok.r0 hok.r1 hok.title hok.fits)
  have HSn := Lib.hid (fun (h : edlErr e = 0) (c : Cut) (hc : c ∈ e.cuts) => edl_sane h hc)
  have HEr : Hid (edlErr e ≠ 0 → pcsE e s = []) := fun h => by unfold pcsE; rw [if_neg h]
  have HOk : Hid (edlErr e = 0 → pcsE e s = pcsC e.cuts s) := fun h => by unfold pcsE; rw [if_pos h]
  have HFew : Hid (edlErr e = 0 → ¬ 64 < e.cuts.length) := fun h => (edlErr_ok h).2.2.2.1
  clear hl hok hE
  unfold LPost
  unfold Edl.cells at *
  go_enter Tryz.func14, Tryz.ntmps14
  go_wp2_with (refine wpList_loadB rfl 28 (.tmp 2) rfl w.heap.size 28 _ _ (by exact rfl) (by exact HB0.out) Tryz.underlying28 rfl (by exact size_list) ?_)
  refine (HCk.out _ HX.out).mono ?_
  rintro en w1 ⟨rfl, hx1⟩
  have HX1 := Lib.hid (HX.out.trans hx1)
  have HBl := Lib.hid (HB0.out.ext hx1)
  clear hx1 HB0 HX HCk
  by_cases hee : edlErr e = 0
  case neg =>
    have hne : (edlErr e != 0) = true := by simpa using hee
    have HZ := Lib.hid (HEr.out hee)
    clear hee
    go_wp2_with fail
    go_ret2
    exact ⟨none, 0, by rw [HZ.out]; rfl, by rw [HZ.out]; exact Sl.nil, by rw [HZ.out]; exact Nat.le_refl _, HX1.out, fun ad h => by cases h⟩
  have HSn := Lib.hid (HSn.out hee)
  have hfew := HFew.out hee
  have HZ := Lib.hid (HOk.out hee)
  rw [hee]
  have HE0 := Lib.hid hee
  clear hee HEr HOk HFew
  have hn64 : n ≤ 64 := by have := HLn.out; omega
  clear hfew
  have hcell1 := fun o => HBl.out.cell o
  have hz1 := HX1.out.size
  go_wp2_with fail
  clear hcell1
  go_loopw [7, 18] (fun v i wr => LRel Pc.vals 5 95 w1 n (fun k => pcsC (e.cuts.take k) s) v i wr) (fun _ i _ => n - (intOf i).toNat)
  case atStart => exact ⟨0, Nat.zero_le _, rfl, Ext.refl _, ⟨rfl, .inl ⟨rfl, rfl⟩⟩⟩
  case round =>
    obtain ⟨k, hk, rfl, hx, hown⟩ := hrel
    have HXr := Lib.hid hx
    have HO := Lib.hid hown
    have hjl := pcsC_len e.cuts s k
    have hzr := hx.size
    dsimp only at HO
    clear hx hown
    by_cases hlt : k < n
    · obtain ⟨b, off, r, rfl, hr, c0, c1, c2, c3, c4, c5, c6⟩ := (HL.out.ext (HX1.out.trans HXr.out)).at7 hlt
      have HBc := Lib.hid (Blk.new wr 91 r.cells)
      have HXc := Lib.hid ((Ext.refl wr).alloc (.cells r.cells 91))
      have HSr := Lib.hid (HSn.out r (List.mem_of_getElem? hr))
      unfold Cut.cells at HBc HXc
      by_cases he : r.reel = s
      · skip
        have he' : (r.reel.toList == s.toList) = true := by rw [bs_eq]; simpa using he
        have HT := Lib.hid (pcsC_yes hr he)
        clear hr he
        generalize pcsC (e.cuts.take k) s = os at *
        unfold Cut.pc at HT
        go_upto_region 9 with fail
        have HO2 := Lib.hid (own_ext HO.out HXc.out)
        have hz2 := HXc.out.size
        obtain ⟨W2, hW2⟩ : ∃ W2, W2 = wr.alloc (.cells #[.int .i64 r.num, .string r.reel, .int .i64 r.src, .int .i64 r.inn, .int .i64 r.out, .int .i64 r.n, .int .i64 r.d] 91) := ⟨_, rfl⟩
        rw [← hW2] at HBc HXc HO2 hz2 ⊢
        clear hW2
        have hcl := fun o => HBc.out.cell o
        go_wp2_with (at_builtin; refine wpList_append1 rfl (.tmp 26) (.tmp 38) 30 rfl info_pc Tryz.underlying30 rfl (by decide) (HO2.out.alloc _) (by exact rfl) W2.heap.size _ (by exact rfl) (by exact Blk.new' rfl) (by exact rfl) (by simp [Value.oneCell']) (by omega) (by simp [maxLen] <;> omega) (by first | omega | (simp; omega) | simp) ?_; intro v5 w5 hown5 hgr; have HO5 := Lib.hid hown5; have HX5 := Lib.hid (Ext.grown ((HXr.out.trans HXc.out).alloc _) hgr (fun q hq => own_lt HO.out q hq)); clear hown5 hgr)
        exact ⟨⟨k + 1, by omega, by go_num, HX5.out, by dsimp only; rw [HT.out, List.length_append, List.flatMap_append]; exact HO5.out⟩, by simp [intOf]; omega⟩
      · have he' : (r.reel.toList == s.toList) = false := by rw [bs_eq]; simpa using he
        have HT := Lib.hid (pcsC_no hr he)
        clear hr he
        go_wp2_with fail
        exact ⟨⟨k + 1, by omega, by go_num, HXr.out.trans HXc.out, by dsimp only; rw [HT.out]; exact own_ext HO.out HXc.out⟩, by simp [intOf]; omega⟩
    · have hkn : k = n := by omega
      subst hkn
      have HTk : Hid ((pcsC (e.cuts.take k) s) = pcsC e.cuts s) := by show _ = _; rw [List.take_of_length_le (by have := HLn.out; omega)]
      rw [HTk.out] at HO hjl
      obtain ⟨A', c', rfl, hc, _, hS, hfr⟩ := own_sl (f := Pc.vals) (size := 5) (fun _ => rfl) rfl HO.out
      have HR := Lib.hid (And.intro hc (And.intro hS (And.intro hfr (HX1.out.trans HXr.out))))
      clear hc hS hfr HO
      go_wp2_with fail
      go_ret2
      exact ⟨A', c', by rw [HZ.out, HE0.out]; rfl, by rw [HZ.out]; exact HR.out.2.1, by rw [HZ.out]; exact HR.out.1, HR.out.2.2.2, fun ad h => Nat.le_trans hz1 (HR.out.2.2.1 ad h)⟩
set_option maxRecDepth 100000 in
set_option maxHeartbeats 4000000 in
theorem ECover_any (e : Edl) (A : Option Addr) (n c : Nat) (w : World) (hE : Env w) (hl : CutsAt w A n e.cuts) (hn : n ≤ 1000000) (hok : EdlOk e) :
    Calls Tryz.prog 16 #[.agg (e.cells A n c)] w (LPost Spn.vals 2 (covE e) (edlErr e) w) := by
  have HL := Lib.hid hl
  have HLn := Lib.hid hl.len
  have HX := Lib.hid ((Ext.refl w).alloc (.cells (e.cells A n c) 28))
  have HB0 := Lib.hid (Blk.new w 28 (e.cells A n c))
  have HCk := Lib.hid (fun w' (hx : Ext w w') => Check_any e A n c w' (hE.ext hx) (hl.ext hx) hn hok.r0 hok.r1 hok.title hok.fits)
  have HSn := Lib.hid (fun (h : edlErr e = 0) (c : Cut) (hc : c ∈ e.cuts) => edl_sane h hc)
  have HEr : Hid (edlErr e ≠ 0 → covE e = []) := fun h => by unfold covE; rw [if_neg h]
  have HOk : Hid (edlErr e = 0 → covE e = joinS (covC e.cuts)) := fun h => by unfold covE; rw [if_pos h]
  have HFew : Hid (edlErr e = 0 → ¬ 64 < e.cuts.length) := fun h => (edlErr_ok h).2.2.2.1
  clear hl hok hE
  unfold LPost
  unfold Edl.cells at *
  go_enter Tryz.func16, Tryz.ntmps16
  go_wp2_with (refine wpList_loadB rfl 28 (.tmp 1) rfl w.heap.size 28 _ _ (by exact rfl) (by exact HB0.out) Tryz.underlying28 rfl (by exact size_list) ?_)
  refine (HCk.out _ HX.out).mono ?_
  rintro en w1 ⟨rfl, hx1⟩
  have HX1 := Lib.hid (HX.out.trans hx1)
  have HBl := Lib.hid (HB0.out.ext hx1)
  clear hx1 HB0 HX HCk
  by_cases hee : edlErr e = 0
  case neg =>
    have hne : (edlErr e != 0) = true := by simpa using hee
    have HZ := Lib.hid (HEr.out hee)
    clear hee
    go_wp2_with fail
    go_ret2
    exact ⟨none, 0, by rw [HZ.out]; rfl, by rw [HZ.out]; exact Sl.nil, by rw [HZ.out]; exact Nat.le_refl _, HX1.out, fun ad h => by cases h⟩
  have HSn := Lib.hid (HSn.out hee)
  have hfew := HFew.out hee
  have HZ := Lib.hid (HOk.out hee)
  rw [hee]
  have HE0 := Lib.hid hee
  clear hee HEr HOk HFew
  have hn64 : n ≤ 64 := by have := HLn.out; omega
  clear hfew
  have hcell1 := fun o => HBl.out.cell o
  have hz1 := HX1.out.size
  go_wp2_with fail
  clear hcell1
  go_loopw [5, 16] (fun v i wr => LRel Spn.vals 2 60 w1 n (fun k => covC (e.cuts.take k)) v i wr) (fun _ i _ => n - (intOf i).toNat)
  case atStart => exact ⟨0, Nat.zero_le _, rfl, Ext.refl _, ⟨rfl, .inl ⟨rfl, rfl⟩⟩⟩
  case round =>
    obtain ⟨k, hk, rfl, hx, hown⟩ := hrel
    have HXr := Lib.hid hx
    have HO := Lib.hid hown
    have hjl := covC_len e.cuts k
    have hzr := hx.size
    dsimp only at HO
    clear hx hown
    by_cases hlt : k < n
    · obtain ⟨b, off, r, rfl, hr, c0, c1, c2, c3, c4, c5, c6⟩ := (HL.out.ext (HX1.out.trans HXr.out)).at7 hlt
      have HBc := Lib.hid (Blk.new wr 91 r.cells)
      have HXc := Lib.hid ((Ext.refl wr).alloc (.cells r.cells 91))
      have HSr := Lib.hid (HSn.out r (List.mem_of_getElem? hr))
      unfold Cut.cells at HBc HXc
      have HT := Lib.hid (covC_add hr)
      clear hr
      generalize covC (e.cuts.take k) = os at *
      go_upto_region 8 with fail
      have HO2 := Lib.hid (own_ext HO.out HXc.out)
      have hz2 := HXc.out.size
      obtain ⟨W2, hW2⟩ : ∃ W2, W2 = wr.alloc (.cells #[.int .i64 r.num, .string r.reel, .int .i64 r.src, .int .i64 r.inn, .int .i64 r.out, .int .i64 r.n, .int .i64 r.d] 91) := ⟨_, rfl⟩
      rw [← hW2] at HBc HXc HO2 hz2 ⊢
      clear hW2
      have hcl := fun o => HBc.out.cell o
      go_wp2_with (at_builtin; refine wpList_append1 rfl (.tmp 20) (.tmp 23) 35 rfl info_span Tryz.underlying35 rfl (by decide) (HO2.out.alloc _) (by exact rfl) W2.heap.size _ (by exact rfl) (by exact Blk.new' rfl) (by exact rfl) (by simp [Value.oneCell']) (by omega) (by simp [maxLen] <;> omega) (by first | omega | (simp; omega) | simp) ?_; intro v5 w5 hown5 hgr; have HO5 := Lib.hid hown5; have HX5 := Lib.hid (Ext.grown ((HXr.out.trans HXc.out).alloc _) hgr (fun q hq => own_lt HO.out q hq)); clear hown5 hgr)
      exact ⟨⟨k + 1, by omega, by go_num, HX5.out, by dsimp only; rw [HT.out, List.length_append, List.flatMap_append]; exact HO5.out⟩, by simp [intOf]; omega⟩
    · have hkn : k = n := by omega
      subst hkn
      have HTk : Hid ((covC (e.cuts.take k)) = covC e.cuts) := by show _ = _; rw [List.take_of_length_le (by have := HLn.out; omega)]
      rw [HTk.out] at HO hjl
      obtain ⟨A', c', rfl, hc, _, hS, hfr⟩ := own_sl (f := Spn.vals) (size := 2) (fun _ => rfl) rfl HO.out
      have HN := Lib.hid (Norm_ok A' (covC e.cuts).length c' (covC e.cuts) wr hS (by omega) (fun x hx _ => by obtain ⟨c, hc, rfl⟩ := List.mem_map.1 hx; have := HSn.out c hc; exact ⟨this.1, by show c.out ≤ _; have := this.2.2.1; omega⟩))
      unfold SpnsPost2 at HN
      clear hc hS hfr HO
      go_wp2_with fail
      refine HN.out.mono ?_
      rintro en2 w2 ⟨A2, c2, rfl, h1, h2, h3, h4⟩
      have HR := Lib.hid (And.intro h2 (And.intro h1 (And.intro h4 ((HX1.out.trans HXr.out).trans h3))))
      clear h1 h2 h3 h4 HN
      go_wp2_with fail
      go_ret2
      exact ⟨A2, c2, by rw [HZ.out, HE0.out]; rfl, by rw [HZ.out]; exact HR.out.2.1, by rw [HZ.out]; exact HR.out.1, HR.out.2.2.2, fun ad h => Nat.le_trans (Nat.le_trans hz1 hzr) (HR.out.2.2.1 ad h)⟩
set_option maxRecDepth 100000 in
set_option maxHeartbeats 4000000 in
theorem EPlayed_any (e : Edl) (A : Option Addr) (n c : Nat) (s : ByteArray) (w : World) (hE : Env w) (hl : CutsAt w A n e.cuts) (hn : n ≤ 1000000) (hok : EdlOk e) :
    Calls Tryz.prog 18 #[.agg (e.cells A n c), .string s] w (LPost Spn.vals 2 (plE e s) (edlErr e) w) := by
  have HL := Lib.hid hl
  have HLn := Lib.hid hl.len
  have HX := Lib.hid ((Ext.refl w).alloc (.cells (e.cells A n c) 28))
  have HB0 := Lib.hid (Blk.new w 28 (e.cells A n c))
  have HCk := Lib.hid (fun w' (hx : Ext w w') => Check_any e A n c w' (hE.ext hx) (hl.ext hx) hn hok.r0 hok.r1 hok.title hok.fits)
  have HSn := Lib.hid (fun (h : edlErr e = 0) (c : Cut) (hc : c ∈ e.cuts) => edl_sane h hc)
  have HEr : Hid (edlErr e ≠ 0 → plE e s = []) := fun h => by unfold plE; rw [if_neg h]
  have HOk : Hid (edlErr e = 0 → plE e s = joinS (plC e.cuts s)) := fun h => by unfold plE; rw [if_pos h]
  have HFew : Hid (edlErr e = 0 → ¬ 64 < e.cuts.length) := fun h => (edlErr_ok h).2.2.2.1
  clear hl hok hE
  unfold LPost
  unfold Edl.cells at *
  go_enter Tryz.func18, Tryz.ntmps18
  go_wp2_with (refine wpList_loadB rfl 28 (.tmp 2) rfl w.heap.size 28 _ _ (by exact rfl) (by exact HB0.out) Tryz.underlying28 rfl (by exact size_list) ?_)
  refine (HCk.out _ HX.out).mono ?_
  rintro en w1 ⟨rfl, hx1⟩
  have HX1 := Lib.hid (HX.out.trans hx1)
  have HBl := Lib.hid (HB0.out.ext hx1)
  clear hx1 HB0 HX HCk
  by_cases hee : edlErr e = 0
  case neg =>
    have hne : (edlErr e != 0) = true := by simpa using hee
    have HZ := Lib.hid (HEr.out hee)
    clear hee
    go_wp2_with fail
    go_ret2
    exact ⟨none, 0, by rw [HZ.out]; rfl, by rw [HZ.out]; exact Sl.nil, by rw [HZ.out]; exact Nat.le_refl _, HX1.out, fun ad h => by cases h⟩
  have HSn := Lib.hid (HSn.out hee)
  have hfew := HFew.out hee
  have HZ := Lib.hid (HOk.out hee)
  rw [hee]
  have HE0 := Lib.hid hee
  clear hee HEr HOk HFew
  have hn64 : n ≤ 64 := by have := HLn.out; omega
  clear hfew
  have hcell1 := fun o => HBl.out.cell o
  have hz1 := HX1.out.size
  go_wp2_with fail
  clear hcell1
  go_loopw [7, 18] (fun v i wr => LRel Spn.vals 2 60 w1 n (fun k => plC (e.cuts.take k) s) v i wr) (fun _ i _ => n - (intOf i).toNat)
  case atStart => exact ⟨0, Nat.zero_le _, rfl, Ext.refl _, ⟨rfl, .inl ⟨rfl, rfl⟩⟩⟩
  case round =>
    obtain ⟨k, hk, rfl, hx, hown⟩ := hrel
    have HXr := Lib.hid hx
    have HO := Lib.hid hown
    have hjl := plC_len e.cuts s k
    have hzr := hx.size
    dsimp only at HO
    clear hx hown
    by_cases hlt : k < n
    · obtain ⟨b, off, r, rfl, hr, c0, c1, c2, c3, c4, c5, c6⟩ := (HL.out.ext (HX1.out.trans HXr.out)).at7 hlt
      have HBc := Lib.hid (Blk.new wr 91 r.cells)
      have HXc := Lib.hid ((Ext.refl wr).alloc (.cells r.cells 91))
      have HSr := Lib.hid (HSn.out r (List.mem_of_getElem? hr))
      unfold Cut.cells at HBc HXc
      by_cases he : r.reel = s
      · skip
        have he' : (r.reel.toList == s.toList) = true := by rw [bs_eq]; simpa using he
        have HT := Lib.hid (plC_yes hr he)
        clear hr he
        generalize plC (e.cuts.take k) s = os at *
        have HSo := Lib.hid (fun w' => source_any r (r.out - 1) w' HSr.out (by have := HSr.out.2.1; omega) (by omega))
        have hsb := srcAt_bd HSr.out (t := r.out - 1) (by have := HSr.out.2.1; omega) (by omega)
        have hob := HSr.out.2.2.1
        have hob2 := HSr.out.2.1
        have hob3 := HSr.out.1
        unfold Cut.pl at HT
        unfold Cut.cells at HSo
        go_upto_region 9 with fail
        generalize hsa : srcAt r (r.out - 1) = sa at *
        clear hsa
        have HO2 := Lib.hid (own_ext HO.out HXc.out)
        have hz2 := HXc.out.size
        obtain ⟨W2, hW2⟩ : ∃ W2, W2 = wr.alloc (.cells #[.int .i64 r.num, .string r.reel, .int .i64 r.src, .int .i64 r.inn, .int .i64 r.out, .int .i64 r.n, .int .i64 r.d] 91) := ⟨_, rfl⟩
        rw [← hW2] at HBc HXc HO2 hz2 ⊢
        clear hW2
        refine wp_region_links [some 26, some 27, some 28, some 29, some 30, some 31, some 32, some 33, some 34, some 35, some 36, some 37, some 38, some 7] [[], [], [1], [], [], [4], [5], [6], [3, 7], [8], [2, 9], [10], [0, 11, 8], [12, 12, 0, 1, 2, 3, 4, 5, 6, 7, 8, 9, 10, 11, 12]] [8, 11, 12, 13] [u7, .pointer (some ⟨wr.heap.size, 2, none⟩), .int .i64 r.src, .agg #[.int .i64 r.num, .string r.reel, .int .i64 r.src, .int .i64 r.inn, .int .i64 r.out, .int .i64 r.n, .int .i64 r.d], .pointer (some ⟨wr.heap.size, 3, none⟩), .pointer (some ⟨wr.heap.size, 3 + 1, none⟩), .int .i64 r.out, .int .i64 (r.out - 1), undef, .int .i64 (sa + 1), .agg #[.int .i64 r.src, .int .i64 (sa + 1)], undef, undef, undef] (PyJ sa #[.int .i64 r.src, .int .i64 (sa + 1)] w1.heap.size u7 os.length (os.flatMap Spn.vals) W2) (by kernel_rfl) (by kernel_rfl) (by kernel_rfl) (by kernel_rfl) (by kernel_rfl) (by kernel_rfl) (by kernel_rfl) (by decide) ?_ ?_ ?_ ?_
        · exact PyJ.start W2
        · intro i o ho hc a w' us K' hJ hF hlim hk
          match i, ho with
          | 0, ho =>
            simp only [List.getElem?_toArray, List.getElem?_cons_zero, List.getElem?_cons_succ, Option.some.injEq] at ho
            subst ho
            have e7 := hF.olds 3 13 7 (u7) rfl rfl (hlim 3 13 rfl rfl) rfl
            simp only [Act.eval] at e7
            clear hF hlim hJ
            go_simp
            exact hk
          | 1, ho =>
            simp only [List.getElem?_toArray, List.getElem?_cons_zero, List.getElem?_cons_succ, Option.some.injEq] at ho
            subst ho
            have e9 := hF.old 9 (.pointer (some ⟨wr.heap.size, 0, none⟩)) rfl rfl
            simp only [Act.eval] at e9
            clear hF hlim hJ
            go_simp
            exact hk
          | 2, ho =>
            simp only [List.getElem?_toArray, List.getElem?_cons_zero, List.getElem?_cons_succ, Option.some.injEq] at ho
            subst ho
            have e27 := hF.pure 1 27 (.pointer (some ⟨wr.heap.size, 2, none⟩)) rfl rfl rfl rfl
            have hcl := (HBc.out.only hJ.only (by decide)).cell 2
            simp only [List.getElem?_toArray, List.getElem?_cons_zero, List.getElem?_cons_succ] at hcl
            simp only [Act.eval] at e27
            clear hF hlim hJ
            go_simp
            exact hk
          | 3, ho =>
            simp only [List.getElem?_toArray, List.getElem?_cons_zero, List.getElem?_cons_succ, Option.some.injEq] at ho
            subst ho
            have e9 := hF.old 9 (.pointer (some ⟨wr.heap.size, 0, none⟩)) rfl rfl
            exact wp_loadB 91 (.tmp 9) rfl wr.heap.size 91 _ _ e9 (HBc.out.only hJ.only (by decide)) Tryz.underlying91 rfl (by exact size_cut) hk
          | 4, ho =>
            simp only [List.getElem?_toArray, List.getElem?_cons_zero, List.getElem?_cons_succ, Option.some.injEq] at ho
            subst ho
            have e9 := hF.old 9 (.pointer (some ⟨wr.heap.size, 0, none⟩)) rfl rfl
            simp only [Act.eval] at e9
            clear hF hlim hJ
            go_simp
            exact hk
          | 5, ho =>
            simp only [List.getElem?_toArray, List.getElem?_cons_zero, List.getElem?_cons_succ, Option.some.injEq] at ho
            subst ho
            have e30 := hF.pure 4 30 (.pointer (some ⟨wr.heap.size, 3, none⟩)) rfl rfl rfl rfl
            simp only [Act.eval] at e30
            clear hF hlim hJ
            go_simp
            exact hk
          | 6, ho =>
            simp only [List.getElem?_toArray, List.getElem?_cons_zero, List.getElem?_cons_succ, Option.some.injEq] at ho
            subst ho
            have e31 := hF.pure 5 31 (.pointer (some ⟨wr.heap.size, 3 + 1, none⟩)) rfl rfl rfl rfl
            have hcl := (HBc.out.only hJ.only (by decide)).cell 4
            simp only [List.getElem?_toArray, List.getElem?_cons_zero, List.getElem?_cons_succ] at hcl
            simp only [Act.eval] at e31
            clear hF hlim hJ
            go_simp
            exact hk
          | 7, ho =>
            simp only [List.getElem?_toArray, List.getElem?_cons_zero, List.getElem?_cons_succ, Option.some.injEq] at ho
            subst ho
            have e32 := hF.pure 6 32 (.int .i64 r.out) rfl rfl rfl rfl
            exact wp_bin rfl e32 rfl (by first | (go_simp; done) | (go_simp; exact wrap_i64 (by omega) (by omega))) hk
          | 8, ho => simp at hc
          | 9, ho =>
            simp only [List.getElem?_toArray, List.getElem?_cons_zero, List.getElem?_cons_succ, Option.some.injEq] at ho
            subst ho
            obtain ⟨v34, hv34⟩ := getElem_ltq (hF.did 0 8 rfl rfl)
            have e34 := hF.link 0 8 34 _ rfl rfl rfl hv34
            have hu := hJ.val v34 hv34
            subst hu
            exact wp_bin rfl e34 rfl (by first | (go_simp; done) | (go_simp; exact wrap_i64 (by omega) (by omega))) hk
          | 10, ho =>
            simp only [List.getElem?_toArray, List.getElem?_cons_zero, List.getElem?_cons_succ, Option.some.injEq] at ho
            subst ho
            have e28 := hF.pure 2 28 (.int .i64 r.src) rfl rfl rfl rfl
            have e35 := hF.pure 9 35 (.int .i64 (sa + 1)) rfl rfl rfl rfl
            simp [Act.eval] at e28 e35
            clear hF hlim hJ
            go_simp
            exact hk
          | 11, ho => simp at hc
          | 12, ho => simp at hc
          | 13, ho => simp at hc
          | i + 14, ho => simp at ho
        · intro p c' o hp ho a w' us K' hl hJ hF hk
          match p, hp with
          | 0, hp =>
            obtain rfl : 8 = c' := by simpa using hp
            simp only [List.getElem?_toArray, List.getElem?_cons_zero, List.getElem?_cons_succ, Option.some.injEq] at ho
            subst ho
            obtain rfl : us = [] := List.eq_nil_of_length_eq_zero hl
            have e29 := hF.pure 3 29 (.agg #[.int .i64 r.num, .string r.reel, .int .i64 r.src, .int .i64 r.inn, .int .i64 r.out, .int .i64 r.n, .int .i64 r.d]) rfl rfl rfl rfl
            have e33 := hF.pure 7 33 (.int .i64 (r.out - 1)) rfl rfl rfl rfl
            exact wp_call2 rfl e29 e33 Tryz.call45 (HSo.out _) (fun w5 hx5 => hk _ w5 (hJ.call hx5))
          | 1, hp =>
            obtain rfl : 11 = c' := by simpa using hp
            simp only [List.getElem?_toArray, List.getElem?_cons_zero, List.getElem?_cons_succ, Option.some.injEq] at ho
            subst ho
            obtain ⟨u0, rfl⟩ := list_1 hl
            have e36 := hF.pure 10 36 (.agg #[.int .i64 r.src, .int .i64 (sa + 1)]) rfl rfl rfl rfl
            have HK := Lib.hid (hk (.slice (some ⟨w'.heap.size, 0, none⟩) 1 1) (w'.alloc (.cells #[.int .i64 r.src, .int .i64 (sa + 1)] 60)) hJ.build)
            simp [Act.eval] at e36
            clear hk hF hJ
            go_simp
            exact HK.out
          | 2, hp =>
            obtain rfl : 12 = c' := by simpa using hp
            simp only [List.getElem?_toArray, List.getElem?_cons_zero, List.getElem?_cons_succ, Option.some.injEq] at ho
            subst ho
            obtain ⟨u0, u1, rfl⟩ := list_2 hl
            obtain ⟨⟨g8, rfl, hB8⟩, hx8⟩ := hJ.st
            have e26 := hF.pure 0 26 (u7) rfl rfl rfl rfl
            have e37 := hF.link 1 11 37 _ rfl rfl rfl rfl
            exact wp_append1p (.tmp 26) (.tmp 37) 35 rfl info_span Tryz.underlying35 rfl (by decide) (own_ext HO2.out hx8) e26 g8 _ e37 hB8 rfl (by simp [Value.oneCell']) (by omega) (by simp [maxLen]; omega) (by have := hx8.size; omega) (fun v' w9 ho9 hg9 => hk v' w9 (hJ.app (own_typed (own_ext HO2.out hx8)) hg9 ho9))
          | 3, hp =>
            obtain rfl : 13 = c' := by simpa using hp
            simp only [List.getElem?_toArray, List.getElem?_cons_zero, List.getElem?_cons_succ, Option.some.injEq] at ho
            subst ho
            obtain ⟨u0, u1, u2, rfl⟩ := list_3 hl
            have e38 := hF.link 2 12 38 _ rfl rfl rfl rfl
            exact wp_assignx _ _ rfl e38 (hk _ _ hJ.asg)
          | p + 4, hp => simp at hp
        intro us w5 hl hJ
        obtain ⟨uu0, uu1, uu2, uu3, rfl⟩ := list_4 hl
        first | (rename_i hK; refine hK _ _ ?_; clear hK) | (rename_i hK hK_1; refine hK _ _ ?_; clear hK) | (rename_i hK hK_1 hK_2; refine hK _ _ ?_; clear hK) | (rename_i hK hK_1 hK_2 hK_3; refine hK _ _ ?_; clear hK)
        generalize hL : frameL _ _ _ _ = L
        obtain rfl : L = [(26, u7), (27, .pointer (some ⟨wr.heap.size, 2, none⟩)), (28, .int .i64 r.src), (29, .agg #[.int .i64 r.num, .string r.reel, .int .i64 r.src, .int .i64 r.inn, .int .i64 r.out, .int .i64 r.n, .int .i64 r.d]), (30, .pointer (some ⟨wr.heap.size, 3, none⟩)), (31, .pointer (some ⟨wr.heap.size, 3 + 1, none⟩)), (32, .int .i64 r.out), (33, .int .i64 (r.out - 1)), (34, uu0), (35, .int .i64 (sa + 1)), (36, .agg #[.int .i64 r.src, .int .i64 (sa + 1)]), (37, uu1), (38, uu2), (7, uu3)] := hL.symm.trans (by kernel_rfl)
        clear hL hl
        simp only [Act.put, List.foldl_cons, List.foldl_nil, List.setIfInBounds_toArray, List.set_cons_zero, List.set_cons_succ]
        obtain ⟨rfl, w6, hx6, hg6, ho6⟩ := hJ.st
        have HO5 := Lib.hid ho6
        have HX5 := Lib.hid (Ext.grown ((HXr.out.trans HXc.out).trans hx6) hg6 (fun q hq => own_lt HO.out q hq))
        clear hx6 hg6 ho6
        go_wp2_with fail
        exact ⟨⟨k + 1, by omega, by go_num, HX5.out, by dsimp only; rw [HT.out, List.length_append, List.flatMap_append]; exact HO5.out⟩, by simp [intOf]; omega⟩
      · have he' : (r.reel.toList == s.toList) = false := by rw [bs_eq]; simpa using he
        have HT := Lib.hid (plC_no hr he)
        clear hr he
        go_wp2_with fail
        exact ⟨⟨k + 1, by omega, by go_num, HXr.out.trans HXc.out, by dsimp only; rw [HT.out]; exact own_ext HO.out HXc.out⟩, by simp [intOf]; omega⟩
    · have hkn : k = n := by omega
      subst hkn
      have HTk : Hid ((plC (e.cuts.take k) s) = plC e.cuts s) := by show _ = _; rw [List.take_of_length_le (by have := HLn.out; omega)]
      rw [HTk.out] at HO hjl
      obtain ⟨A', c', rfl, hc, _, hS, hfr⟩ := own_sl (f := Spn.vals) (size := 2) (fun _ => rfl) rfl HO.out
      have HN := Lib.hid (Norm_ok A' (plC e.cuts s).length c' (plC e.cuts s) wr hS (by omega) (fun x hx _ => by obtain ⟨c, hc, rfl⟩ := List.mem_map.1 hx; exact pl_sane (HSn.out c (List.mem_filter.1 hc).1)))
      unfold SpnsPost2 at HN
      clear hc hS hfr HO
      go_wp2_with fail
      refine HN.out.mono ?_
      rintro en2 w2 ⟨A2, c2, rfl, h1, h2, h3, h4⟩
      have HR := Lib.hid (And.intro h2 (And.intro h1 (And.intro h4 ((HX1.out.trans HXr.out).trans h3))))
      clear h1 h2 h3 h4 HN
      go_wp2_with fail
      go_ret2
      exact ⟨A2, c2, by rw [HZ.out, HE0.out]; rfl, by rw [HZ.out]; exact HR.out.2.1, by rw [HZ.out]; exact HR.out.1, HR.out.2.2.2, fun ad h => Nat.le_trans (Nat.le_trans hz1 hzr) (HR.out.2.2.1 ad h)⟩
end Go.Proofs.YtablhmobekmflaaGreatDoor

/-! PcsR -/
namespace Go.Proofs.YtablhmobekmflaaGreatDoor
set_option linter.unusedVariables false
set_option linter.unusedSimpArgs false
open Go.RowKit
set_option maxRecDepth 100000 in
set_option maxHeartbeats 4000000 in
theorem R45Pieces_any (e : Edl) (A : Option Addr) (n c : Nat) (s : ByteArray) (w : World) (hE : Env w) (hl : CutsAt w A n e.cuts) (hn : n ≤ 1000000) (hok : EdlOk e) :
    Calls Tryz.prog 15 #[.agg (e.cells A n c), .string s] w (LPost Pc.vals 5 (pcsE e s) (edlErr e) w) := by
  have HL := Lib.hid hl
  have HLn := Lib.hid hl.len
  have HX := Lib.hid ((Ext.refl w).alloc (.cells (e.cells A n c) 25))
  have HB0 := Lib.hid (Blk.new w 25 (e.cells A n c))
  have HCk := Lib.hid (fun w' (hx : Ext w w') => R44Check_any e A n c w' (hl.ext hx) hn hok.r0 hok.r1 hok.title hok.fits)
  have HSn := Lib.hid (fun (h : edlErr e = 0) (c : Cut) (hc : c ∈ e.cuts) => edl_sane h hc)
  have HEr : Hid (edlErr e ≠ 0 → pcsE e s = []) := fun h => by unfold pcsE; rw [if_neg h]
  have HOk : Hid (edlErr e = 0 → pcsE e s = pcsC e.cuts s) := fun h => by unfold pcsE; rw [if_pos h]
  have HFew : Hid (edlErr e = 0 → ¬ 64 < e.cuts.length) := fun h => (edlErr_ok h).2.2.2.1
  clear hl hok hE
  unfold LPost
  unfold Edl.cells at *
  go_enter Tryz.func15, Tryz.ntmps15
  go_wp2_with (refine wpList_loadB rfl 25 (.tmp 2) rfl w.heap.size 25 _ _ (by exact rfl) (by exact HB0.out) Tryz.underlying25 rfl (by exact rsize_list) ?_)
  refine (HCk.out _ HX.out).mono ?_
  rintro en w1 ⟨rfl, hx1⟩
  have HX1 := Lib.hid (HX.out.trans hx1)
  have HBl := Lib.hid (HB0.out.ext hx1)
  clear hx1 HB0 HX HCk
  by_cases hee : edlErr e = 0
  case neg =>
    have hne : (edlErr e != 0) = true := by simpa using hee
    have HZ := Lib.hid (HEr.out hee)
    clear hee
    go_wp2_with fail
    go_ret2
    exact ⟨none, 0, by rw [HZ.out]; rfl, by rw [HZ.out]; exact Sl.nil, by rw [HZ.out]; exact Nat.le_refl _, HX1.out, fun ad h => by cases h⟩
  have HSn := Lib.hid (HSn.out hee)
  have hfew := HFew.out hee
  have HZ := Lib.hid (HOk.out hee)
  rw [hee]
  have HE0 := Lib.hid hee
  clear hee HEr HOk HFew
  have hn64 : n ≤ 64 := by have := HLn.out; omega
  clear hfew
  have hcell1 := fun o => HBl.out.cell o
  have hz1 := HX1.out.size
  go_wp2_with fail
  clear hcell1
  go_loopw [7, 18] (fun v i wr => LRel Pc.vals 5 95 w1 n (fun k => pcsC (e.cuts.take k) s) v i wr) (fun _ i _ => n - (intOf i).toNat)
  case atStart => exact ⟨0, Nat.zero_le _, rfl, Ext.refl _, ⟨rfl, .inl ⟨rfl, rfl⟩⟩⟩
  case round =>
    obtain ⟨k, hk, rfl, hx, hown⟩ := hrel
    have HXr := Lib.hid hx
    have HO := Lib.hid hown
    have hjl := pcsC_len e.cuts s k
    have hzr := hx.size
    dsimp only at HO
    clear hx hown
    by_cases hlt : k < n
    · obtain ⟨b, off, r, rfl, hr, c0, c1, c2, c3, c4, c5, c6⟩ := (HL.out.ext (HX1.out.trans HXr.out)).at7 hlt
      have HBc := Lib.hid (Blk.new wr 91 r.cells)
      have HXc := Lib.hid ((Ext.refl wr).alloc (.cells r.cells 91))
      have HSr := Lib.hid (HSn.out r (List.mem_of_getElem? hr))
      unfold Cut.cells at HBc HXc
      by_cases he : r.reel = s
      · skip
        have he' : (r.reel.toList == s.toList) = true := by rw [bs_eq]; simpa using he
        have HT := Lib.hid (pcsC_yes hr he)
        clear hr he
        generalize pcsC (e.cuts.take k) s = os at *
        unfold Cut.pc at HT
        go_upto_region 9 with fail
        have HO2 := Lib.hid (own_ext HO.out HXc.out)
        have hz2 := HXc.out.size
        obtain ⟨W2, hW2⟩ : ∃ W2, W2 = wr.alloc (.cells #[.int .i64 r.num, .string r.reel, .int .i64 r.src, .int .i64 r.inn, .int .i64 r.out, .int .i64 r.n, .int .i64 r.d] 91) := ⟨_, rfl⟩
        rw [← hW2] at HBc HXc HO2 hz2 ⊢
        clear hW2
        have hcl := fun o => HBc.out.cell o
        go_wp2_with (at_builtin; refine wpList_append1 rfl (.tmp 26) (.tmp 38) 30 rfl info_pc Tryz.underlying30 rfl (by decide) (HO2.out.alloc _) (by exact rfl) W2.heap.size _ (by exact rfl) (by exact Blk.new' rfl) (by exact rfl) (by simp [Value.oneCell']) (by omega) (by simp [maxLen] <;> omega) (by first | omega | (simp; omega) | simp) ?_; intro v5 w5 hown5 hgr; have HO5 := Lib.hid hown5; have HX5 := Lib.hid (Ext.grown ((HXr.out.trans HXc.out).alloc _) hgr (fun q hq => own_lt HO.out q hq)); clear hown5 hgr)
        exact ⟨⟨k + 1, by omega, by go_num, HX5.out, by dsimp only; rw [HT.out, List.length_append, List.flatMap_append]; exact HO5.out⟩, by simp [intOf]; omega⟩
      · have he' : (r.reel.toList == s.toList) = false := by rw [bs_eq]; simpa using he
        have HT := Lib.hid (pcsC_no hr he)
        clear hr he
        go_wp2_with fail
        exact ⟨⟨k + 1, by omega, by go_num, HXr.out.trans HXc.out, by dsimp only; rw [HT.out]; exact own_ext HO.out HXc.out⟩, by simp [intOf]; omega⟩
    · have hkn : k = n := by omega
      subst hkn
      have HTk : Hid ((pcsC (e.cuts.take k) s) = pcsC e.cuts s) := by show _ = _; rw [List.take_of_length_le (by have := HLn.out; omega)]
      rw [HTk.out] at HO hjl
      obtain ⟨A', c', rfl, hc, _, hS, hfr⟩ := own_sl (f := Pc.vals) (size := 5) (fun _ => rfl) rfl HO.out
      have HR := Lib.hid (And.intro hc (And.intro hS (And.intro hfr (HX1.out.trans HXr.out))))
      clear hc hS hfr HO
      go_wp2_with fail
      go_ret2
      exact ⟨A', c', by rw [HZ.out, HE0.out]; rfl, by rw [HZ.out]; exact HR.out.2.1, by rw [HZ.out]; exact HR.out.1, HR.out.2.2.2, fun ad h => Nat.le_trans hz1 (HR.out.2.2.1 ad h)⟩
set_option maxRecDepth 100000 in
set_option maxHeartbeats 4000000 in
theorem R45Cover_any (e : Edl) (A : Option Addr) (n c : Nat) (w : World) (hE : Env w) (hl : CutsAt w A n e.cuts) (hn : n ≤ 1000000) (hok : EdlOk e) :
    Calls Tryz.prog 17 #[.agg (e.cells A n c)] w (LPost Spn.vals 2 (covE e) (edlErr e) w) := by
  have HL := Lib.hid hl
  have HLn := Lib.hid hl.len
  have HX := Lib.hid ((Ext.refl w).alloc (.cells (e.cells A n c) 25))
  have HB0 := Lib.hid (Blk.new w 25 (e.cells A n c))
  have HCk := Lib.hid (fun w' (hx : Ext w w') => R44Check_any e A n c w' (hl.ext hx) hn hok.r0 hok.r1 hok.title hok.fits)
  have HSn := Lib.hid (fun (h : edlErr e = 0) (c : Cut) (hc : c ∈ e.cuts) => edl_sane h hc)
  have HEr : Hid (edlErr e ≠ 0 → covE e = []) := fun h => by unfold covE; rw [if_neg h]
  have HOk : Hid (edlErr e = 0 → covE e = joinS (covC e.cuts)) := fun h => by unfold covE; rw [if_pos h]
  have HFew : Hid (edlErr e = 0 → ¬ 64 < e.cuts.length) := fun h => (edlErr_ok h).2.2.2.1
  clear hl hok hE
  unfold LPost
  unfold Edl.cells at *
  go_enter Tryz.func17, Tryz.ntmps17
  go_wp2_with (refine wpList_loadB rfl 25 (.tmp 1) rfl w.heap.size 25 _ _ (by exact rfl) (by exact HB0.out) Tryz.underlying25 rfl (by exact rsize_list) ?_)
  refine (HCk.out _ HX.out).mono ?_
  rintro en w1 ⟨rfl, hx1⟩
  have HX1 := Lib.hid (HX.out.trans hx1)
  have HBl := Lib.hid (HB0.out.ext hx1)
  clear hx1 HB0 HX HCk
  by_cases hee : edlErr e = 0
  case neg =>
    have hne : (edlErr e != 0) = true := by simpa using hee
    have HZ := Lib.hid (HEr.out hee)
    clear hee
    go_wp2_with fail
    go_ret2
    exact ⟨none, 0, by rw [HZ.out]; rfl, by rw [HZ.out]; exact Sl.nil, by rw [HZ.out]; exact Nat.le_refl _, HX1.out, fun ad h => by cases h⟩
  have HSn := Lib.hid (HSn.out hee)
  have hfew := HFew.out hee
  have HZ := Lib.hid (HOk.out hee)
  rw [hee]
  have HE0 := Lib.hid hee
  clear hee HEr HOk HFew
  have hn64 : n ≤ 64 := by have := HLn.out; omega
  clear hfew
  have hcell1 := fun o => HBl.out.cell o
  have hz1 := HX1.out.size
  go_wp2_with fail
  clear hcell1
  go_loopw [5, 16] (fun v i wr => LRel Spn.vals 2 60 w1 n (fun k => covC (e.cuts.take k)) v i wr) (fun _ i _ => n - (intOf i).toNat)
  case atStart => exact ⟨0, Nat.zero_le _, rfl, Ext.refl _, ⟨rfl, .inl ⟨rfl, rfl⟩⟩⟩
  case round =>
    obtain ⟨k, hk, rfl, hx, hown⟩ := hrel
    have HXr := Lib.hid hx
    have HO := Lib.hid hown
    have hjl := covC_len e.cuts k
    have hzr := hx.size
    dsimp only at HO
    clear hx hown
    by_cases hlt : k < n
    · obtain ⟨b, off, r, rfl, hr, c0, c1, c2, c3, c4, c5, c6⟩ := (HL.out.ext (HX1.out.trans HXr.out)).at7 hlt
      have HBc := Lib.hid (Blk.new wr 91 r.cells)
      have HXc := Lib.hid ((Ext.refl wr).alloc (.cells r.cells 91))
      have HSr := Lib.hid (HSn.out r (List.mem_of_getElem? hr))
      unfold Cut.cells at HBc HXc
      have HT := Lib.hid (covC_add hr)
      clear hr
      generalize covC (e.cuts.take k) = os at *
      go_upto_region 8 with fail
      have HO2 := Lib.hid (own_ext HO.out HXc.out)
      have hz2 := HXc.out.size
      obtain ⟨W2, hW2⟩ : ∃ W2, W2 = wr.alloc (.cells #[.int .i64 r.num, .string r.reel, .int .i64 r.src, .int .i64 r.inn, .int .i64 r.out, .int .i64 r.n, .int .i64 r.d] 91) := ⟨_, rfl⟩
      rw [← hW2] at HBc HXc HO2 hz2 ⊢
      clear hW2
      have hcl := fun o => HBc.out.cell o
      go_wp2_with (at_builtin; refine wpList_append1 rfl (.tmp 20) (.tmp 23) 35 rfl info_span Tryz.underlying35 rfl (by decide) (HO2.out.alloc _) (by exact rfl) W2.heap.size _ (by exact rfl) (by exact Blk.new' rfl) (by exact rfl) (by simp [Value.oneCell']) (by omega) (by simp [maxLen] <;> omega) (by first | omega | (simp; omega) | simp) ?_; intro v5 w5 hown5 hgr; have HO5 := Lib.hid hown5; have HX5 := Lib.hid (Ext.grown ((HXr.out.trans HXc.out).alloc _) hgr (fun q hq => own_lt HO.out q hq)); clear hown5 hgr)
      exact ⟨⟨k + 1, by omega, by go_num, HX5.out, by dsimp only; rw [HT.out, List.length_append, List.flatMap_append]; exact HO5.out⟩, by simp [intOf]; omega⟩
    · have hkn : k = n := by omega
      subst hkn
      have HTk : Hid ((covC (e.cuts.take k)) = covC e.cuts) := by show _ = _; rw [List.take_of_length_le (by have := HLn.out; omega)]
      rw [HTk.out] at HO hjl
      obtain ⟨A', c', rfl, hc, _, hS, hfr⟩ := own_sl (f := Spn.vals) (size := 2) (fun _ => rfl) rfl HO.out
      have HN := Lib.hid (R5Join_any A' (covC e.cuts).length c' (covC e.cuts) wr hS (by omega))
      unfold SpnsPost at HN
      clear hc hS hfr HO
      go_wp2_with fail
      refine HN.out.mono ?_
      rintro en2 w2 ⟨A2, c2, rfl, h1, h2, h3, h4⟩
      have HR := Lib.hid (And.intro h2 (And.intro h1 (And.intro h4 ((HX1.out.trans HXr.out).trans h3))))
      clear h1 h2 h3 h4 HN
      go_wp2_with fail
      go_ret2
      exact ⟨A2, c2, by rw [HZ.out, HE0.out]; rfl, by rw [HZ.out]; exact HR.out.2.1, by rw [HZ.out]; exact HR.out.1, HR.out.2.2.2, fun ad h => Nat.le_trans (Nat.le_trans hz1 hzr) (HR.out.2.2.1 ad h)⟩
set_option maxRecDepth 100000 in
set_option maxHeartbeats 4000000 in
theorem R45Played_any (e : Edl) (A : Option Addr) (n c : Nat) (s : ByteArray) (w : World) (hE : Env w) (hl : CutsAt w A n e.cuts) (hn : n ≤ 1000000) (hok : EdlOk e) :
    Calls Tryz.prog 19 #[.agg (e.cells A n c), .string s] w (LPost Spn.vals 2 (plE e s) (edlErr e) w) := by
  have HL := Lib.hid hl
  have HLn := Lib.hid hl.len
  have HX := Lib.hid ((Ext.refl w).alloc (.cells (e.cells A n c) 25))
  have HB0 := Lib.hid (Blk.new w 25 (e.cells A n c))
  have HCk := Lib.hid (fun w' (hx : Ext w w') => R44Check_any e A n c w' (hl.ext hx) hn hok.r0 hok.r1 hok.title hok.fits)
  have HSn := Lib.hid (fun (h : edlErr e = 0) (c : Cut) (hc : c ∈ e.cuts) => edl_sane h hc)
  have HEr : Hid (edlErr e ≠ 0 → plE e s = []) := fun h => by unfold plE; rw [if_neg h]
  have HOk : Hid (edlErr e = 0 → plE e s = joinS (plC e.cuts s)) := fun h => by unfold plE; rw [if_pos h]
  have HFew : Hid (edlErr e = 0 → ¬ 64 < e.cuts.length) := fun h => (edlErr_ok h).2.2.2.1
  clear hl hok hE
  unfold LPost
  unfold Edl.cells at *
  go_enter Tryz.func19, Tryz.ntmps19
  go_wp2_with (refine wpList_loadB rfl 25 (.tmp 2) rfl w.heap.size 25 _ _ (by exact rfl) (by exact HB0.out) Tryz.underlying25 rfl (by exact rsize_list) ?_)
  refine (HCk.out _ HX.out).mono ?_
  rintro en w1 ⟨rfl, hx1⟩
  have HX1 := Lib.hid (HX.out.trans hx1)
  have HBl := Lib.hid (HB0.out.ext hx1)
  clear hx1 HB0 HX HCk
  by_cases hee : edlErr e = 0
  case neg =>
    have hne : (edlErr e != 0) = true := by simpa using hee
    have HZ := Lib.hid (HEr.out hee)
    clear hee
    go_wp2_with fail
    go_ret2
    exact ⟨none, 0, by rw [HZ.out]; rfl, by rw [HZ.out]; exact Sl.nil, by rw [HZ.out]; exact Nat.le_refl _, HX1.out, fun ad h => by cases h⟩
  have HSn := Lib.hid (HSn.out hee)
  have hfew := HFew.out hee
  have HZ := Lib.hid (HOk.out hee)
  rw [hee]
  have HE0 := Lib.hid hee
  clear hee HEr HOk HFew
  have hn64 : n ≤ 64 := by have := HLn.out; omega
  clear hfew
  have hcell1 := fun o => HBl.out.cell o
  have hz1 := HX1.out.size
  go_wp2_with fail
  clear hcell1
  go_loopw [7, 18] (fun v i wr => LRel Spn.vals 2 60 w1 n (fun k => plC (e.cuts.take k) s) v i wr) (fun _ i _ => n - (intOf i).toNat)
  case atStart => exact ⟨0, Nat.zero_le _, rfl, Ext.refl _, ⟨rfl, .inl ⟨rfl, rfl⟩⟩⟩
  case round =>
    obtain ⟨k, hk, rfl, hx, hown⟩ := hrel
    have HXr := Lib.hid hx
    have HO := Lib.hid hown
    have hjl := plC_len e.cuts s k
    have hzr := hx.size
    dsimp only at HO
    clear hx hown
    by_cases hlt : k < n
    · obtain ⟨b, off, r, rfl, hr, c0, c1, c2, c3, c4, c5, c6⟩ := (HL.out.ext (HX1.out.trans HXr.out)).at7 hlt
      have HBc := Lib.hid (Blk.new wr 91 r.cells)
      have HXc := Lib.hid ((Ext.refl wr).alloc (.cells r.cells 91))
      have HSr := Lib.hid (HSn.out r (List.mem_of_getElem? hr))
      unfold Cut.cells at HBc HXc
      by_cases he : r.reel = s
      · skip
        have he' : (r.reel.toList == s.toList) = true := by rw [bs_eq]; simpa using he
        have HT := Lib.hid (plC_yes hr he)
        clear hr he
        generalize plC (e.cuts.take k) s = os at *
        have HSo := Lib.hid (fun w' => Played_any r (r.out - 1) w' HSr.out (by have := HSr.out.2.1; omega) (by omega))
        have hsb := srcAt_bd HSr.out (t := r.out - 1) (by have := HSr.out.2.1; omega) (by omega)
        have hob := HSr.out.2.2.1
        have hob2 := HSr.out.2.1
        have hob3 := HSr.out.1
        unfold Cut.pl at HT
        unfold Cut.cells at HSo
        go_upto_region 9 with fail
        generalize hsa : srcAt r (r.out - 1) = sa at *
        clear hsa
        have HO2 := Lib.hid (own_ext HO.out HXc.out)
        have hz2 := HXc.out.size
        obtain ⟨W2, hW2⟩ : ∃ W2, W2 = wr.alloc (.cells #[.int .i64 r.num, .string r.reel, .int .i64 r.src, .int .i64 r.inn, .int .i64 r.out, .int .i64 r.n, .int .i64 r.d] 91) := ⟨_, rfl⟩
        rw [← hW2] at HBc HXc HO2 hz2 ⊢
        clear hW2
        refine wp_region_links [some 26, some 27, some 28, some 29, some 30, some 31, some 32, some 33, some 34, some 35, some 36, some 37, some 38, some 7] [[], [], [1], [], [], [4], [5], [6], [3, 7], [8], [2, 9], [10], [0, 11, 8], [12, 12, 0, 1, 2, 3, 4, 5, 6, 7, 8, 9, 10, 11, 12]] [8, 11, 12, 13] [u7, .pointer (some ⟨wr.heap.size, 2, none⟩), .int .i64 r.src, .agg #[.int .i64 r.num, .string r.reel, .int .i64 r.src, .int .i64 r.inn, .int .i64 r.out, .int .i64 r.n, .int .i64 r.d], .pointer (some ⟨wr.heap.size, 3, none⟩), .pointer (some ⟨wr.heap.size, 3 + 1, none⟩), .int .i64 r.out, .int .i64 (r.out - 1), undef, .int .i64 (sa + 1), .agg #[.int .i64 r.src, .int .i64 (sa + 1)], undef, undef, undef] (PyJ sa #[.int .i64 r.src, .int .i64 (sa + 1)] w1.heap.size u7 os.length (os.flatMap Spn.vals) W2) (by kernel_rfl) (by kernel_rfl) (by kernel_rfl) (by kernel_rfl) (by kernel_rfl) (by kernel_rfl) (by kernel_rfl) (by decide) ?_ ?_ ?_ ?_
        · exact PyJ.start W2
        · intro i o ho hc a w' us K' hJ hF hlim hk
          match i, ho with
          | 0, ho =>
            simp only [List.getElem?_toArray, List.getElem?_cons_zero, List.getElem?_cons_succ, Option.some.injEq] at ho
            subst ho
            have e7 := hF.olds 3 13 7 (u7) rfl rfl (hlim 3 13 rfl rfl) rfl
            simp only [Act.eval] at e7
            clear hF hlim hJ
            go_simp
            exact hk
          | 1, ho =>
            simp only [List.getElem?_toArray, List.getElem?_cons_zero, List.getElem?_cons_succ, Option.some.injEq] at ho
            subst ho
            have e9 := hF.old 9 (.pointer (some ⟨wr.heap.size, 0, none⟩)) rfl rfl
            simp only [Act.eval] at e9
            clear hF hlim hJ
            go_simp
            exact hk
          | 2, ho =>
            simp only [List.getElem?_toArray, List.getElem?_cons_zero, List.getElem?_cons_succ, Option.some.injEq] at ho
            subst ho
            have e27 := hF.pure 1 27 (.pointer (some ⟨wr.heap.size, 2, none⟩)) rfl rfl rfl rfl
            have hcl := (HBc.out.only hJ.only (by decide)).cell 2
            simp only [List.getElem?_toArray, List.getElem?_cons_zero, List.getElem?_cons_succ] at hcl
            simp only [Act.eval] at e27
            clear hF hlim hJ
            go_simp
            exact hk
          | 3, ho =>
            simp only [List.getElem?_toArray, List.getElem?_cons_zero, List.getElem?_cons_succ, Option.some.injEq] at ho
            subst ho
            have e9 := hF.old 9 (.pointer (some ⟨wr.heap.size, 0, none⟩)) rfl rfl
            exact wp_loadB 91 (.tmp 9) rfl wr.heap.size 91 _ _ e9 (HBc.out.only hJ.only (by decide)) Tryz.underlying91 rfl (by exact size_cut) hk
          | 4, ho =>
            simp only [List.getElem?_toArray, List.getElem?_cons_zero, List.getElem?_cons_succ, Option.some.injEq] at ho
            subst ho
            have e9 := hF.old 9 (.pointer (some ⟨wr.heap.size, 0, none⟩)) rfl rfl
            simp only [Act.eval] at e9
            clear hF hlim hJ
            go_simp
            exact hk
          | 5, ho =>
            simp only [List.getElem?_toArray, List.getElem?_cons_zero, List.getElem?_cons_succ, Option.some.injEq] at ho
            subst ho
            have e30 := hF.pure 4 30 (.pointer (some ⟨wr.heap.size, 3, none⟩)) rfl rfl rfl rfl
            simp only [Act.eval] at e30
            clear hF hlim hJ
            go_simp
            exact hk
          | 6, ho =>
            simp only [List.getElem?_toArray, List.getElem?_cons_zero, List.getElem?_cons_succ, Option.some.injEq] at ho
            subst ho
            have e31 := hF.pure 5 31 (.pointer (some ⟨wr.heap.size, 3 + 1, none⟩)) rfl rfl rfl rfl
            have hcl := (HBc.out.only hJ.only (by decide)).cell 4
            simp only [List.getElem?_toArray, List.getElem?_cons_zero, List.getElem?_cons_succ] at hcl
            simp only [Act.eval] at e31
            clear hF hlim hJ
            go_simp
            exact hk
          | 7, ho =>
            simp only [List.getElem?_toArray, List.getElem?_cons_zero, List.getElem?_cons_succ, Option.some.injEq] at ho
            subst ho
            have e32 := hF.pure 6 32 (.int .i64 r.out) rfl rfl rfl rfl
            exact wp_bin rfl e32 rfl (by first | (go_simp; done) | (go_simp; exact wrap_i64 (by omega) (by omega))) hk
          | 8, ho => simp at hc
          | 9, ho =>
            simp only [List.getElem?_toArray, List.getElem?_cons_zero, List.getElem?_cons_succ, Option.some.injEq] at ho
            subst ho
            obtain ⟨v34, hv34⟩ := getElem_ltq (hF.did 0 8 rfl rfl)
            have e34 := hF.link 0 8 34 _ rfl rfl rfl hv34
            have hu := hJ.val v34 hv34
            subst hu
            exact wp_bin rfl e34 rfl (by first | (go_simp; done) | (go_simp; exact wrap_i64 (by omega) (by omega))) hk
          | 10, ho =>
            simp only [List.getElem?_toArray, List.getElem?_cons_zero, List.getElem?_cons_succ, Option.some.injEq] at ho
            subst ho
            have e28 := hF.pure 2 28 (.int .i64 r.src) rfl rfl rfl rfl
            have e35 := hF.pure 9 35 (.int .i64 (sa + 1)) rfl rfl rfl rfl
            simp [Act.eval] at e28 e35
            clear hF hlim hJ
            go_simp
            exact hk
          | 11, ho => simp at hc
          | 12, ho => simp at hc
          | 13, ho => simp at hc
          | i + 14, ho => simp at ho
        · intro p c' o hp ho a w' us K' hl hJ hF hk
          match p, hp with
          | 0, hp =>
            obtain rfl : 8 = c' := by simpa using hp
            simp only [List.getElem?_toArray, List.getElem?_cons_zero, List.getElem?_cons_succ, Option.some.injEq] at ho
            subst ho
            obtain rfl : us = [] := List.eq_nil_of_length_eq_zero hl
            have e29 := hF.pure 3 29 (.agg #[.int .i64 r.num, .string r.reel, .int .i64 r.src, .int .i64 r.inn, .int .i64 r.out, .int .i64 r.n, .int .i64 r.d]) rfl rfl rfl rfl
            have e33 := hF.pure 7 33 (.int .i64 (r.out - 1)) rfl rfl rfl rfl
            exact wp_call2 rfl e29 e33 Tryz.call46 (HSo.out _) (fun w5 hx5 => hk _ w5 (hJ.call hx5))
          | 1, hp =>
            obtain rfl : 11 = c' := by simpa using hp
            simp only [List.getElem?_toArray, List.getElem?_cons_zero, List.getElem?_cons_succ, Option.some.injEq] at ho
            subst ho
            obtain ⟨u0, rfl⟩ := list_1 hl
            have e36 := hF.pure 10 36 (.agg #[.int .i64 r.src, .int .i64 (sa + 1)]) rfl rfl rfl rfl
            have HK := Lib.hid (hk (.slice (some ⟨w'.heap.size, 0, none⟩) 1 1) (w'.alloc (.cells #[.int .i64 r.src, .int .i64 (sa + 1)] 60)) hJ.build)
            simp [Act.eval] at e36
            clear hk hF hJ
            go_simp
            exact HK.out
          | 2, hp =>
            obtain rfl : 12 = c' := by simpa using hp
            simp only [List.getElem?_toArray, List.getElem?_cons_zero, List.getElem?_cons_succ, Option.some.injEq] at ho
            subst ho
            obtain ⟨u0, u1, rfl⟩ := list_2 hl
            obtain ⟨⟨g8, rfl, hB8⟩, hx8⟩ := hJ.st
            have e26 := hF.pure 0 26 (u7) rfl rfl rfl rfl
            have e37 := hF.link 1 11 37 _ rfl rfl rfl rfl
            exact wp_append1p (.tmp 26) (.tmp 37) 35 rfl info_span Tryz.underlying35 rfl (by decide) (own_ext HO2.out hx8) e26 g8 _ e37 hB8 rfl (by simp [Value.oneCell']) (by omega) (by simp [maxLen]; omega) (by have := hx8.size; omega) (fun v' w9 ho9 hg9 => hk v' w9 (hJ.app (own_typed (own_ext HO2.out hx8)) hg9 ho9))
          | 3, hp =>
            obtain rfl : 13 = c' := by simpa using hp
            simp only [List.getElem?_toArray, List.getElem?_cons_zero, List.getElem?_cons_succ, Option.some.injEq] at ho
            subst ho
            obtain ⟨u0, u1, u2, rfl⟩ := list_3 hl
            have e38 := hF.link 2 12 38 _ rfl rfl rfl rfl
            exact wp_assignx _ _ rfl e38 (hk _ _ hJ.asg)
          | p + 4, hp => simp at hp
        intro us w5 hl hJ
        obtain ⟨uu0, uu1, uu2, uu3, rfl⟩ := list_4 hl
        first | (rename_i hK; refine hK _ _ ?_; clear hK) | (rename_i hK hK_1; refine hK _ _ ?_; clear hK) | (rename_i hK hK_1 hK_2; refine hK _ _ ?_; clear hK) | (rename_i hK hK_1 hK_2 hK_3; refine hK _ _ ?_; clear hK)
        generalize hL : frameL _ _ _ _ = L
        obtain rfl : L = [(26, u7), (27, .pointer (some ⟨wr.heap.size, 2, none⟩)), (28, .int .i64 r.src), (29, .agg #[.int .i64 r.num, .string r.reel, .int .i64 r.src, .int .i64 r.inn, .int .i64 r.out, .int .i64 r.n, .int .i64 r.d]), (30, .pointer (some ⟨wr.heap.size, 3, none⟩)), (31, .pointer (some ⟨wr.heap.size, 3 + 1, none⟩)), (32, .int .i64 r.out), (33, .int .i64 (r.out - 1)), (34, uu0), (35, .int .i64 (sa + 1)), (36, .agg #[.int .i64 r.src, .int .i64 (sa + 1)]), (37, uu1), (38, uu2), (7, uu3)] := hL.symm.trans (by kernel_rfl)
        clear hL hl
        simp only [Act.put, List.foldl_cons, List.foldl_nil, List.setIfInBounds_toArray, List.set_cons_zero, List.set_cons_succ]
        obtain ⟨rfl, w6, hx6, hg6, ho6⟩ := hJ.st
        have HO5 := Lib.hid ho6
        have HX5 := Lib.hid (Ext.grown ((HXr.out.trans HXc.out).trans hx6) hg6 (fun q hq => own_lt HO.out q hq))
        clear hx6 hg6 ho6
        go_wp2_with fail
        exact ⟨⟨k + 1, by omega, by go_num, HX5.out, by dsimp only; rw [HT.out, List.length_append, List.flatMap_append]; exact HO5.out⟩, by simp [intOf]; omega⟩
      · have he' : (r.reel.toList == s.toList) = false := by rw [bs_eq]; simpa using he
        have HT := Lib.hid (plC_no hr he)
        clear hr he
        go_wp2_with fail
        exact ⟨⟨k + 1, by omega, by go_num, HXr.out.trans HXc.out, by dsimp only; rw [HT.out]; exact own_ext HO.out HXc.out⟩, by simp [intOf]; omega⟩
    · have hkn : k = n := by omega
      subst hkn
      have HTk : Hid ((plC (e.cuts.take k) s) = plC e.cuts s) := by show _ = _; rw [List.take_of_length_le (by have := HLn.out; omega)]
      rw [HTk.out] at HO hjl
      obtain ⟨A', c', rfl, hc, _, hS, hfr⟩ := own_sl (f := Spn.vals) (size := 2) (fun _ => rfl) rfl HO.out
      have HN := Lib.hid (R5Join_any A' (plC e.cuts s).length c' (plC e.cuts s) wr hS (by omega))
      unfold SpnsPost at HN
      clear hc hS hfr HO
      go_wp2_with fail
      refine HN.out.mono ?_
      rintro en2 w2 ⟨A2, c2, rfl, h1, h2, h3, h4⟩
      have HR := Lib.hid (And.intro h2 (And.intro h1 (And.intro h4 ((HX1.out.trans HXr.out).trans h3))))
      clear h1 h2 h3 h4 HN
      go_wp2_with fail
      go_ret2
      exact ⟨A2, c2, by rw [HZ.out, HE0.out]; rfl, by rw [HZ.out]; exact HR.out.2.1, by rw [HZ.out]; exact HR.out.1, HR.out.2.2.2, fun ad h => Nat.le_trans (Nat.le_trans hz1 hzr) (HR.out.2.2.1 ad h)⟩
end Go.Proofs.YtablhmobekmflaaGreatDoor

/-! Same -/
namespace Go.Proofs.YtablhmobekmflaaGreatDoor
set_option linter.unusedVariables false
set_option linter.unusedSimpArgs false
open Go.RowKit
def EqRel {α : Type} (w : World) (n : Nat) (l1 l2 : List α) (i : Value) (wr : World) : Prop := ∃ k : Nat, k ≤ n ∧ i = .int .i64 k ∧ Ext w wr ∧ l1.take k = l2.take k
theorem eq_of_take {α : Type} {l1 l2 : List α} {n : Nat} (h1 : l1.length = n) (h2 : l2.length = n) (h : l1.take n = l2.take n) : l1 = l2 := by
  rw [List.take_of_length_le (by omega), List.take_of_length_le (by omega)] at h
  exact h
theorem take_eq_succ {α : Type} {l1 l2 : List α} {k : Nat} {x : α} (h : l1.take k = l2.take k) (h1 : l1[k]? = some x) (h2 : l2[k]? = some x) : l1.take (k + 1) = l2.take (k + 1) := by
  rw [List.take_add_one, List.take_add_one, h, h1, h2]
theorem ne_at {α : Type} {l1 l2 : List α} {k : Nat} {x y : α} (h1 : l1[k]? = some x) (h2 : l2[k]? = some y) (h : ¬ x = y) : ¬ l1 = l2 := by
  rintro rfl
  rw [h1] at h2
  exact h (Option.some.inj h2)
end Go.Proofs.YtablhmobekmflaaGreatDoor

/-! Sam6 -/
namespace Go.Proofs.YtablhmobekmflaaGreatDoor
set_option linter.unusedVariables false
set_option linter.unusedSimpArgs false
open Go.RowKit
theorem neq_spn (a b : Spn) (w : World) : (binOp .neq 60 (.agg #[.int .i64 a.inn, .int .i64 a.out]) (.agg #[.int .i64 b.inn, .int .i64 b.out])).run Tryz.prog w = .ok (.bool (!decide (a = b))) w := by
  obtain ⟨a1, a2⟩ := a
  obtain ⟨b1, b2⟩ := b
  dsimp only
  go_simp
  repeat' split
  all_goals simp_all
set_option maxRecDepth 100000 in
set_option maxHeartbeats 2000000 in
theorem R5Same_any (A : Option Addr) (n c : Nat) (B : Option Addr) (m d : Nat) (l1 l2 : List Spn) (w : World) (h1 : SpnsAt w A n l1) (h2 : SpnsAt w B m l2) (hn : n ≤ 4611686018427387904) :
    Calls Tryz.prog 21 #[.slice A n c, .slice B m d] w fun e w' => e = .returned (.bool (decide (l1 = l2))) ∧ Ext w w' := by
  have L1 := Lib.hid h1.len
  have L2 := Lib.hid h2.len
  have H1 := Lib.hid h1
  have H2 := Lib.hid h2
  clear h1 h2
  by_cases hnm : n = m
  · subst hnm
    go_enter Tryz.func21, Tryz.ntmps21
    go_wp2_with fail
    go_loopw [13] (fun i wr => EqRel w n l1 l2 i wr) (fun i _ => n - (intOf i).toNat)
    case atStart => exact ⟨0, Nat.zero_le _, rfl, Ext.refl _, rfl⟩
    case round =>
      obtain ⟨k, hk, rfl, hx, hp⟩ := hrel
      have HP := Lib.hid hp
      clear hp
      by_cases hlt : k < n
      · obtain ⟨b1, o1, r, rfl, hr, hC⟩ := (H1.out.ext hx).at_ hlt
        obtain ⟨b2, o2, s, rfl, hs, hD⟩ := (H2.out.ext hx).at_ hlt
        have c0 := hC 0 _ rfl
        have c1 := hC 1 _ rfl
        simp only [Nat.add_zero] at c0
        have d0 := hD 0 _ rfl
        have d1 := hD 1 _ rfl
        simp only [Nat.add_zero] at d0
        have HR := Lib.hid hr
        have HS := Lib.hid hs
        clear hr hs hC hD
        have hk0 : (0 : Int) ≤ (k : Int) := by omega
        have hk1 : (k : Int) < (n : Int) := by omega
        by_cases hq : r = s
        · subst hq
          have HT := Lib.hid (take_eq_succ HP.out HR.out HS.out)
          have hne := fun w => (neq_spn r r w).trans (by rw [decide_eq_true rfl]; rfl : _ = .ok (.bool false) w)
          go_wp2_with fail
          go_quiet (fail)
          go_wp2_with fail
          exact ⟨⟨k + 1, by omega, by go_num, hx.drewN _, HT.out⟩, by simp [intOf]; omega⟩
        · have hne := fun w => (neq_spn r s w).trans (by rw [decide_eq_false hq]; rfl : _ = .ok (.bool true) w)
          have HN := Lib.hid (ne_at HR.out HS.out hq)
          clear hq
          go_wp2_with fail
          go_quiet (fail)
          go_wp2_with fail
          go_ret
          exact ⟨ret_bool (decide_eq_false HN.out).symm, hx.drewN _⟩
      · have hkn : k = n := by omega
        subst hkn
        have HQ := Lib.hid (eq_of_take L1.out L2.out HP.out)
        go_wp2_with fail
        go_ret
        exact ⟨ret_bool (decide_eq_true HQ.out).symm, hx⟩
  · have hb : ((n : Int) != (m : Int)) = true := by simp; omega
    have HN : Hid (¬ l1 = l2) := by
      show ¬ _
      intro h
      apply hnm
      rw [← L1.out, ← L2.out, h]
    go_enter Tryz.func21, Tryz.ntmps21
    go_wp2_with fail
    go_ret
    exact ⟨ret_bool (decide_eq_false HN.out).symm, Ext.refl _⟩
theorem neq_pc (a b : Pc) (w : World) : (binOp .neq 95 (.agg #[.int .i64 a.inn, .int .i64 a.out, .int .i64 a.dst, .int .i64 a.n, .int .i64 a.d]) (.agg #[.int .i64 b.inn, .int .i64 b.out, .int .i64 b.dst, .int .i64 b.n, .int .i64 b.d])).run Tryz.prog w = .ok (.bool (!decide (a = b))) w := by
  obtain ⟨a1, a2, a3, a4, a5⟩ := a
  obtain ⟨b1, b2, b3, b4, b5⟩ := b
  dsimp only
  go_simp
  repeat' split
  all_goals simp_all
set_option maxRecDepth 100000 in
set_option maxHeartbeats 2000000 in
theorem R6Same_any (A : Option Addr) (n c : Nat) (B : Option Addr) (m d : Nat) (l1 l2 : List Pc) (w : World) (h1 : PcsAt w A n l1) (h2 : PcsAt w B m l2) (hn : n ≤ 4611686018427387904) :
    Calls Tryz.prog 20 #[.slice A n c, .slice B m d] w fun e w' => e = .returned (.bool (decide (l1 = l2))) ∧ Ext w w' := by
  have L1 := Lib.hid h1.len
  have L2 := Lib.hid h2.len
  have H1 := Lib.hid h1
  have H2 := Lib.hid h2
  clear h1 h2
  by_cases hnm : n = m
  · subst hnm
    go_enter Tryz.func20, Tryz.ntmps20
    go_wp2_with fail
    go_loopw [13] (fun i wr => EqRel w n l1 l2 i wr) (fun i _ => n - (intOf i).toNat)
    case atStart => exact ⟨0, Nat.zero_le _, rfl, Ext.refl _, rfl⟩
    case round =>
      obtain ⟨k, hk, rfl, hx, hp⟩ := hrel
      have HP := Lib.hid hp
      clear hp
      by_cases hlt : k < n
      · obtain ⟨b1, o1, r, rfl, hr, hC⟩ := (H1.out.ext hx).at_ hlt
        obtain ⟨b2, o2, s, rfl, hs, hD⟩ := (H2.out.ext hx).at_ hlt
        have c0 := hC 0 _ rfl
        have c1 := hC 1 _ rfl
        have c2 := hC 2 _ rfl
        have c3 := hC 3 _ rfl
        have c4 := hC 4 _ rfl
        simp only [Nat.add_zero] at c0
        have d0 := hD 0 _ rfl
        have d1 := hD 1 _ rfl
        have d2 := hD 2 _ rfl
        have d3 := hD 3 _ rfl
        have d4 := hD 4 _ rfl
        simp only [Nat.add_zero] at d0
        have HR := Lib.hid hr
        have HS := Lib.hid hs
        clear hr hs hC hD
        have hk0 : (0 : Int) ≤ (k : Int) := by omega
        have hk1 : (k : Int) < (n : Int) := by omega
        by_cases hq : r = s
        · subst hq
          have HT := Lib.hid (take_eq_succ HP.out HR.out HS.out)
          have hne := fun w => (neq_pc r r w).trans (by rw [decide_eq_true rfl]; rfl : _ = .ok (.bool false) w)
          go_wp2_with fail
          go_quiet (fail)
          go_wp2_with fail
          exact ⟨⟨k + 1, by omega, by go_num, hx.drewN _, HT.out⟩, by simp [intOf]; omega⟩
        · have hne := fun w => (neq_pc r s w).trans (by rw [decide_eq_false hq]; rfl : _ = .ok (.bool true) w)
          have HN := Lib.hid (ne_at HR.out HS.out hq)
          clear hq
          go_wp2_with fail
          go_quiet (fail)
          go_wp2_with fail
          go_ret
          exact ⟨ret_bool (decide_eq_false HN.out).symm, hx.drewN _⟩
      · have hkn : k = n := by omega
        subst hkn
        have HQ := Lib.hid (eq_of_take L1.out L2.out HP.out)
        go_wp2_with fail
        go_ret
        exact ⟨ret_bool (decide_eq_true HQ.out).symm, hx⟩
  · have hb : ((n : Int) != (m : Int)) = true := by simp; omega
    have HN : Hid (¬ l1 = l2) := by
      show ¬ _
      intro h
      apply hnm
      rw [← L1.out, ← L2.out, h]
    go_enter Tryz.func20, Tryz.ntmps20
    go_wp2_with fail
    go_ret
    exact ⟨ret_bool (decide_eq_false HN.out).symm, Ext.refl _⟩
def inB (l : List Spn) (f : Int) : Bool := l.any fun s => decide (s.inn ≤ f ∧ f < s.out)
def WiRel (w : World) (n : Nat) (l : List Spn) (f : Int) (i : Value) (wr : World) : Prop := ∃ k : Nat, k ≤ n ∧ i = .int .i64 k ∧ Ext w wr ∧ inB l f = inB (l.drop k) f
end Go.Proofs.YtablhmobekmflaaGreatDoor
