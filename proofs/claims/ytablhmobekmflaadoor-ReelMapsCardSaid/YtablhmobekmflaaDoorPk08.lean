/- Laid together: The walks of reel.Pieces, Cover, Played. Two lists compared from the front. Equality of sets and of maps; whether a frame is in a set. The walks of timemap.to, speed, Check at accepted maps, At. The walk of the law ReelMaps. -/
import Derived.Test.YtablhmobekmflaaDoorPk07
import Derived.Test.YtablhmobekmflaaDoorPk01
import Derived.Test.YtablhmobekmflaaDoorPk06

/-! PcsD -/
namespace Go.Proofs.YtablhmobekmflaaDoor
set_option linter.unusedVariables false
set_option linter.unusedSimpArgs false
open Go.RowKit
set_option maxRecDepth 100000 in
set_option maxHeartbeats 4000000 in
theorem EPieces_any (e : Edl) (A : Option Addr) (n c : Nat) (s : ByteArray) (w : World) (hE : Env w) (hl : CutsAt w A n e.cuts) (hn : n ≤ 1000000) (hok : EdlOk e) :
    Calls Tryd.prog 8 #[.agg (e.cells A n c), .string s] w (LPost Pc.vals 5 (pcsE e s) (edlErr e) w) := by
  have HL := Lib.hid hl
  have HLn := Lib.hid hl.len
  have HX := Lib.hid ((Ext.refl w).alloc (.cells (e.cells A n c) 28))
  have HB0 := Lib.hid (Blk.new w 28 (e.cells A n c))
  have HCk := Lib.hid (fun w' (hx : Ext w w') => Check_any e A n c w' (hE.ext hx) (hl.ext hx) hn hok.r0 hok.r1 hok.title hok.fits)
  have HSn := Lib.hid (fun (h : edlErr e = 0) (c : Cut) (hc : c ∈ e.cuts) => edl_sane h hc)
  have HEr : Hid (edlErr e ≠ 0 → pcsE e s = []) := fun h => by unfold pcsE; rw [if_neg h]
  have HOk : Hid (edlErr e = 0 → pcsE e s = pcsC e.cuts s) := fun h => by unfold pcsE; rw [if_pos h]
  have HFew : Hid (edlErr e = 0 → ¬ 64 < e.cuts.length) := fun h => (edlErr_ok h).2.2.2.1
  clear hl hok hE
  unfold LPost
  unfold Edl.cells at *
  go_enter Tryd.func8, Tryd.ntmps8
  go_wp2_with (refine wpList_loadB rfl 28 (.tmp 2) rfl w.heap.size 28 _ _ (by exact rfl) (by exact HB0.out) Tryd.underlying28 rfl (by exact size_list) ?_)
  refine (HCk.out _ HX.out).mono ?_
  rintro en w1 ⟨rfl, hx1⟩
  have HX1 := Lib.hid (HX.out.trans hx1)
  have HBl := Lib.hid (HB0.out.ext hx1)
  clear hx1 HB0 HX HCk
  by_cases hee : edlErr e = 0
  case neg =>
    have hne : (edlErr e != 0) = true := by simpa using hee
    have HZ := Lib.hid (HEr.out hee)
    clear hee
    go_wp2_with fail
    go_ret2
    exact ⟨none, 0, by rw [HZ.out]; rfl, by rw [HZ.out]; exact Sl.nil, by rw [HZ.out]; exact Nat.le_refl _, HX1.out, fun ad h => by cases h⟩
  have HSn := Lib.hid (HSn.out hee)
  have hfew := HFew.out hee
  have HZ := Lib.hid (HOk.out hee)
  rw [hee]
  have HE0 := Lib.hid hee
  clear hee HEr HOk HFew
  have hn64 : n ≤ 64 := by have := HLn.out; omega
  clear hfew
  have hcell1 := fun o => HBl.out.cell o
  have hz1 := HX1.out.size
  go_wp2_with fail
  clear hcell1
  go_loopw [7, 18] (fun v i wr => LRel Pc.vals 5 57 w1 n (fun k => pcsC (e.cuts.take k) s) v i wr) (fun _ i _ => n - (intOf i).toNat)
  case atStart => exact ⟨0, Nat.zero_le _, rfl, Ext.refl _, ⟨rfl, .inl ⟨rfl, rfl⟩⟩⟩
  case round =>
    obtain ⟨k, hk, rfl, hx, hown⟩ := hrel
    have HXr := Lib.hid hx
    have HO := Lib.hid hown
    have hjl := pcsC_len e.cuts s k
    have hzr := hx.size
    dsimp only at HO
    clear hx hown
    by_cases hlt : k < n
    · obtain ⟨b, off, r, rfl, hr, c0, c1, c2, c3, c4, c5, c6⟩ := (HL.out.ext (HX1.out.trans HXr.out)).at7 hlt
      have HBc := Lib.hid (Blk.new wr 52 r.cells)
      have HXc := Lib.hid ((Ext.refl wr).alloc (.cells r.cells 52))
      have HSr := Lib.hid (HSn.out r (List.mem_of_getElem? hr))
      unfold Cut.cells at HBc HXc
      by_cases he : r.reel = s
      · skip
        have he' : (r.reel.toList == s.toList) = true := by rw [bs_eq]; simpa using he
        have HT := Lib.hid (pcsC_yes hr he)
        clear hr he
        generalize pcsC (e.cuts.take k) s = os at *
        unfold Cut.pc at HT
        go_upto_region 9 with fail
        have HO2 := Lib.hid (own_ext HO.out HXc.out)
        have hz2 := HXc.out.size
        obtain ⟨W2, hW2⟩ : ∃ W2, W2 = wr.alloc (.cells #[.int .i64 r.num, .string r.reel, .int .i64 r.src, .int .i64 r.inn, .int .i64 r.out, .int .i64 r.n, .int .i64 r.d] 52) := ⟨_, rfl⟩
        rw [← hW2] at HBc HXc HO2 hz2 ⊢
        clear hW2
        have hcl := fun o => HBc.out.cell o
        go_wp2_with (at_builtin; refine wpList_append1 rfl (.tmp 26) (.tmp 38) 34 rfl info_pc Tryd.underlying34 rfl (by decide) (HO2.out.alloc _) (by exact rfl) W2.heap.size _ (by exact rfl) (by exact Blk.new' rfl) (by exact rfl) (by simp [Value.oneCell']) (by omega) (by simp [maxLen] <;> omega) (by first | omega | (simp; omega) | simp) ?_; intro v5 w5 hown5 hgr; have HO5 := Lib.hid hown5; have HX5 := Lib.hid (Ext.grown ((HXr.out.trans HXc.out).alloc _) hgr (fun q hq => own_lt HO.out q hq)); clear hown5 hgr)
        exact ⟨⟨k + 1, by omega, by go_num, HX5.out, by dsimp only; rw [HT.out, List.length_append, List.flatMap_append]; exact HO5.out⟩, by simp [intOf]; omega⟩
      · have he' : (r.reel.toList == s.toList) = false := by rw [bs_eq]; simpa using he
        have HT := Lib.hid (pcsC_no hr he)
        clear hr he
        go_wp2_with fail
        exact ⟨⟨k + 1, by omega, by go_num, HXr.out.trans HXc.out, by dsimp only; rw [HT.out]; exact own_ext HO.out HXc.out⟩, by simp [intOf]; omega⟩
    · have hkn : k = n := by omega
      subst hkn
      have HTk : Hid ((pcsC (e.cuts.take k) s) = pcsC e.cuts s) := by show _ = _; rw [List.take_of_length_le (by have := HLn.out; omega)]
      rw [HTk.out] at HO hjl
      obtain ⟨A', c', rfl, hc, _, hS, hfr⟩ := own_sl (f := Pc.vals) (size := 5) (fun _ => rfl) rfl HO.out
      have HR := Lib.hid (And.intro hc (And.intro hS (And.intro hfr (HX1.out.trans HXr.out))))
      clear hc hS hfr HO
      go_wp2_with fail
      go_ret2
      exact ⟨A', c', by rw [HZ.out, HE0.out]; rfl, by rw [HZ.out]; exact HR.out.2.1, by rw [HZ.out]; exact HR.out.1, HR.out.2.2.2, fun ad h => Nat.le_trans hz1 (HR.out.2.2.1 ad h)⟩
set_option maxRecDepth 100000 in
set_option maxHeartbeats 4000000 in
theorem ECover_any (e : Edl) (A : Option Addr) (n c : Nat) (w : World) (hE : Env w) (hl : CutsAt w A n e.cuts) (hn : n ≤ 1000000) (hok : EdlOk e) :
    Calls Tryd.prog 9 #[.agg (e.cells A n c)] w (LPost Spn.vals 2 (covE e) (edlErr e) w) := by
  have HL := Lib.hid hl
  have HLn := Lib.hid hl.len
  have HX := Lib.hid ((Ext.refl w).alloc (.cells (e.cells A n c) 28))
  have HB0 := Lib.hid (Blk.new w 28 (e.cells A n c))
  have HCk := Lib.hid (fun w' (hx : Ext w w') => Check_any e A n c w' (hE.ext hx) (hl.ext hx) hn hok.r0 hok.r1 hok.title hok.fits)
  have HSn := Lib.hid (fun (h : edlErr e = 0) (c : Cut) (hc : c ∈ e.cuts) => edl_sane h hc)
  have HEr : Hid (edlErr e ≠ 0 → covE e = []) := fun h => by unfold covE; rw [if_neg h]
  have HOk : Hid (edlErr e = 0 → covE e = joinS (covC e.cuts)) := fun h => by unfold covE; rw [if_pos h]
  have HFew : Hid (edlErr e = 0 → ¬ 64 < e.cuts.length) := fun h => (edlErr_ok h).2.2.2.1
  clear hl hok hE
  unfold LPost
  unfold Edl.cells at *
  go_enter Tryd.func9, Tryd.ntmps9
  go_wp2_with (refine wpList_loadB rfl 28 (.tmp 1) rfl w.heap.size 28 _ _ (by exact rfl) (by exact HB0.out) Tryd.underlying28 rfl (by exact size_list) ?_)
  refine (HCk.out _ HX.out).mono ?_
  rintro en w1 ⟨rfl, hx1⟩
  have HX1 := Lib.hid (HX.out.trans hx1)
  have HBl := Lib.hid (HB0.out.ext hx1)
  clear hx1 HB0 HX HCk
  by_cases hee : edlErr e = 0
  case neg =>
    have hne : (edlErr e != 0) = true := by simpa using hee
    have HZ := Lib.hid (HEr.out hee)
    clear hee
    go_wp2_with fail
    go_ret2
    exact ⟨none, 0, by rw [HZ.out]; rfl, by rw [HZ.out]; exact Sl.nil, by rw [HZ.out]; exact Nat.le_refl _, HX1.out, fun ad h => by cases h⟩
  have HSn := Lib.hid (HSn.out hee)
  have hfew := HFew.out hee
  have HZ := Lib.hid (HOk.out hee)
  rw [hee]
  have HE0 := Lib.hid hee
  clear hee HEr HOk HFew
  have hn64 : n ≤ 64 := by have := HLn.out; omega
  clear hfew
  have hcell1 := fun o => HBl.out.cell o
  have hz1 := HX1.out.size
  go_wp2_with fail
  clear hcell1
  go_loopw [5, 16] (fun v i wr => LRel Spn.vals 2 48 w1 n (fun k => covC (e.cuts.take k)) v i wr) (fun _ i _ => n - (intOf i).toNat)
  case atStart => exact ⟨0, Nat.zero_le _, rfl, Ext.refl _, ⟨rfl, .inl ⟨rfl, rfl⟩⟩⟩
  case round =>
    obtain ⟨k, hk, rfl, hx, hown⟩ := hrel
    have HXr := Lib.hid hx
    have HO := Lib.hid hown
    have hjl := covC_len e.cuts k
    have hzr := hx.size
    dsimp only at HO
    clear hx hown
    by_cases hlt : k < n
    · obtain ⟨b, off, r, rfl, hr, c0, c1, c2, c3, c4, c5, c6⟩ := (HL.out.ext (HX1.out.trans HXr.out)).at7 hlt
      have HBc := Lib.hid (Blk.new wr 52 r.cells)
      have HXc := Lib.hid ((Ext.refl wr).alloc (.cells r.cells 52))
      have HSr := Lib.hid (HSn.out r (List.mem_of_getElem? hr))
      unfold Cut.cells at HBc HXc
      have HT := Lib.hid (covC_add hr)
      clear hr
      generalize covC (e.cuts.take k) = os at *
      go_upto_region 8 with fail
      have HO2 := Lib.hid (own_ext HO.out HXc.out)
      have hz2 := HXc.out.size
      obtain ⟨W2, hW2⟩ : ∃ W2, W2 = wr.alloc (.cells #[.int .i64 r.num, .string r.reel, .int .i64 r.src, .int .i64 r.inn, .int .i64 r.out, .int .i64 r.n, .int .i64 r.d] 52) := ⟨_, rfl⟩
      rw [← hW2] at HBc HXc HO2 hz2 ⊢
      clear hW2
      have hcl := fun o => HBc.out.cell o
      go_wp2_with (at_builtin; refine wpList_append1 rfl (.tmp 20) (.tmp 23) 38 rfl info_span Tryd.underlying38 rfl (by decide) (HO2.out.alloc _) (by exact rfl) W2.heap.size _ (by exact rfl) (by exact Blk.new' rfl) (by exact rfl) (by simp [Value.oneCell']) (by omega) (by simp [maxLen] <;> omega) (by first | omega | (simp; omega) | simp) ?_; intro v5 w5 hown5 hgr; have HO5 := Lib.hid hown5; have HX5 := Lib.hid (Ext.grown ((HXr.out.trans HXc.out).alloc _) hgr (fun q hq => own_lt HO.out q hq)); clear hown5 hgr)
      exact ⟨⟨k + 1, by omega, by go_num, HX5.out, by dsimp only; rw [HT.out, List.length_append, List.flatMap_append]; exact HO5.out⟩, by simp [intOf]; omega⟩
    · have hkn : k = n := by omega
      subst hkn
      have HTk : Hid ((covC (e.cuts.take k)) = covC e.cuts) := by show _ = _; rw [List.take_of_length_le (by have := HLn.out; omega)]
      rw [HTk.out] at HO hjl
      obtain ⟨A', c', rfl, hc, _, hS, hfr⟩ := own_sl (f := Spn.vals) (size := 2) (fun _ => rfl) rfl HO.out
      have HN := Lib.hid (Norm_ok A' (covC e.cuts).length c' (covC e.cuts) wr hS (by omega) (fun x hx _ => by obtain ⟨c, hc, rfl⟩ := List.mem_map.1 hx; have := HSn.out c hc; exact ⟨this.1, by show c.out ≤ _; have := this.2.2.1; omega⟩))
      unfold SpnsPost2 at HN
      clear hc hS hfr HO
      go_wp2_with fail
      refine HN.out.mono ?_
      rintro en2 w2 ⟨A2, c2, rfl, h1, h2, h3, h4⟩
      have HR := Lib.hid (And.intro h2 (And.intro h1 (And.intro h4 ((HX1.out.trans HXr.out).trans h3))))
      clear h1 h2 h3 h4 HN
      go_wp2_with fail
      go_ret2
      exact ⟨A2, c2, by rw [HZ.out, HE0.out]; rfl, by rw [HZ.out]; exact HR.out.2.1, by rw [HZ.out]; exact HR.out.1, HR.out.2.2.2, fun ad h => Nat.le_trans (Nat.le_trans hz1 hzr) (HR.out.2.2.1 ad h)⟩
set_option maxRecDepth 100000 in
set_option maxHeartbeats 4000000 in
theorem EPlayed_any (e : Edl) (A : Option Addr) (n c : Nat) (s : ByteArray) (w : World) (hE : Env w) (hl : CutsAt w A n e.cuts) (hn : n ≤ 1000000) (hok : EdlOk e) :
    Calls Tryd.prog 12 #[.agg (e.cells A n c), .string s] w (LPost Spn.vals 2 (plE e s) (edlErr e) w) := by
  have HL := Lib.hid hl
  have HLn := Lib.hid hl.len
  have HX := Lib.hid ((Ext.refl w).alloc (.cells (e.cells A n c) 28))
  have HB0 := Lib.hid (Blk.new w 28 (e.cells A n c))
  have HCk := Lib.hid (fun w' (hx : Ext w w') => Check_any e A n c w' (hE.ext hx) (hl.ext hx) hn hok.r0 hok.r1 hok.title hok.fits)
  have HSn := Lib.hid (fun (h : edlErr e = 0) (c : Cut) (hc : c ∈ e.cuts) => edl_sane h hc)
  have HEr : Hid (edlErr e ≠ 0 → plE e s = []) := fun h => by unfold plE; rw [if_neg h]
  have HOk : Hid (edlErr e = 0 → plE e s = joinS (plC e.cuts s)) := fun h => by unfold plE; rw [if_pos h]
  have HFew : Hid (edlErr e = 0 → ¬ 64 < e.cuts.length) := fun h => (edlErr_ok h).2.2.2.1
  clear hl hok hE
  unfold LPost
  unfold Edl.cells at *
  go_enter Tryd.func12, Tryd.ntmps12
  go_wp2_with (refine wpList_loadB rfl 28 (.tmp 2) rfl w.heap.size 28 _ _ (by exact rfl) (by exact HB0.out) Tryd.underlying28 rfl (by exact size_list) ?_)
  refine (HCk.out _ HX.out).mono ?_
  rintro en w1 ⟨rfl, hx1⟩
  have HX1 := Lib.hid (HX.out.trans hx1)
  have HBl := Lib.hid (HB0.out.ext hx1)
  clear hx1 HB0 HX HCk
  by_cases hee : edlErr e = 0
  case neg =>
    have hne : (edlErr e != 0) = true := by simpa using hee
    have HZ := Lib.hid (HEr.out hee)
    clear hee
    go_wp2_with fail
    go_ret2
    exact ⟨none, 0, by rw [HZ.out]; rfl, by rw [HZ.out]; exact Sl.nil, by rw [HZ.out]; exact Nat.le_refl _, HX1.out, fun ad h => by cases h⟩
  have HSn := Lib.hid (HSn.out hee)
  have hfew := HFew.out hee
  have HZ := Lib.hid (HOk.out hee)
  rw [hee]
  have HE0 := Lib.hid hee
  clear hee HEr HOk HFew
  have hn64 : n ≤ 64 := by have := HLn.out; omega
  clear hfew
  have hcell1 := fun o => HBl.out.cell o
  have hz1 := HX1.out.size
  go_wp2_with fail
  clear hcell1
  go_loopw [7, 18] (fun v i wr => LRel Spn.vals 2 48 w1 n (fun k => plC (e.cuts.take k) s) v i wr) (fun _ i _ => n - (intOf i).toNat)
  case atStart => exact ⟨0, Nat.zero_le _, rfl, Ext.refl _, ⟨rfl, .inl ⟨rfl, rfl⟩⟩⟩
  case round =>
    obtain ⟨k, hk, rfl, hx, hown⟩ := hrel
    have HXr := Lib.hid hx
    have HO := Lib.hid hown
    have hjl := plC_len e.cuts s k
    have hzr := hx.size
    dsimp only at HO
    clear hx hown
    by_cases hlt : k < n
    · obtain ⟨b, off, r, rfl, hr, c0, c1, c2, c3, c4, c5, c6⟩ := (HL.out.ext (HX1.out.trans HXr.out)).at7 hlt
      have HBc := Lib.hid (Blk.new wr 52 r.cells)
      have HXc := Lib.hid ((Ext.refl wr).alloc (.cells r.cells 52))
      have HSr := Lib.hid (HSn.out r (List.mem_of_getElem? hr))
      unfold Cut.cells at HBc HXc
      by_cases he : r.reel = s
      · skip
        have he' : (r.reel.toList == s.toList) = true := by rw [bs_eq]; simpa using he
        have HT := Lib.hid (plC_yes hr he)
        clear hr he
        generalize plC (e.cuts.take k) s = os at *
        have HSo := Lib.hid (fun w' => source_any r (r.out - 1) w' HSr.out (by have := HSr.out.2.1; omega) (by omega))
        have hsb := srcAt_bd HSr.out (t := r.out - 1) (by have := HSr.out.2.1; omega) (by omega)
        have hob := HSr.out.2.2.1
        have hob2 := HSr.out.2.1
        have hob3 := HSr.out.1
        unfold Cut.pl at HT
        unfold Cut.cells at HSo
        go_upto_region 9 with fail
        generalize hsa : srcAt r (r.out - 1) = sa at *
        clear hsa
        have HO2 := Lib.hid (own_ext HO.out HXc.out)
        have hz2 := HXc.out.size
        obtain ⟨W2, hW2⟩ : ∃ W2, W2 = wr.alloc (.cells #[.int .i64 r.num, .string r.reel, .int .i64 r.src, .int .i64 r.inn, .int .i64 r.out, .int .i64 r.n, .int .i64 r.d] 52) := ⟨_, rfl⟩
        rw [← hW2] at HBc HXc HO2 hz2 ⊢
        clear hW2
        refine wp_region_links [some 26, some 27, some 28, some 29, some 30, some 31, some 32, some 33, some 34, some 35, some 36, some 37, some 38, some 7] [[], [], [1], [], [], [4], [5], [6], [3, 7], [8], [2, 9], [10], [0, 11, 8], [12, 12, 0, 1, 2, 3, 4, 5, 6, 7, 8, 9, 10, 11, 12]] [8, 11, 12, 13] [u7, .pointer (some ⟨wr.heap.size, 2, none⟩), .int .i64 r.src, .agg #[.int .i64 r.num, .string r.reel, .int .i64 r.src, .int .i64 r.inn, .int .i64 r.out, .int .i64 r.n, .int .i64 r.d], .pointer (some ⟨wr.heap.size, 3, none⟩), .pointer (some ⟨wr.heap.size, 3 + 1, none⟩), .int .i64 r.out, .int .i64 (r.out - 1), undef, .int .i64 (sa + 1), .agg #[.int .i64 r.src, .int .i64 (sa + 1)], undef, undef, undef] (PyJ sa #[.int .i64 r.src, .int .i64 (sa + 1)] w1.heap.size u7 os.length (os.flatMap Spn.vals) W2) (by kernel_rfl) (by kernel_rfl) (by kernel_rfl) (by kernel_rfl) (by kernel_rfl) (by kernel_rfl) (by kernel_rfl) (by decide) ?_ ?_ ?_ ?_
        · exact PyJ.start W2
        · intro i o ho hc a w' us K' hJ hF hlim hk
          match i, ho with
          | 0, ho =>
            simp only [List.getElem?_toArray, List.getElem?_cons_zero, List.getElem?_cons_succ, Option.some.injEq] at ho
            subst ho
            have e7 := hF.olds 3 13 7 (u7) rfl rfl (hlim 3 13 rfl rfl) rfl
            simp only [Act.eval] at e7
            clear hF hlim hJ
            go_simp
            exact hk
          | 1, ho =>
            simp only [List.getElem?_toArray, List.getElem?_cons_zero, List.getElem?_cons_succ, Option.some.injEq] at ho
            subst ho
            have e9 := hF.old 9 (.pointer (some ⟨wr.heap.size, 0, none⟩)) rfl rfl
            simp only [Act.eval] at e9
            clear hF hlim hJ
            go_simp
            exact hk
          | 2, ho =>
            simp only [List.getElem?_toArray, List.getElem?_cons_zero, List.getElem?_cons_succ, Option.some.injEq] at ho
            subst ho
            have e27 := hF.pure 1 27 (.pointer (some ⟨wr.heap.size, 2, none⟩)) rfl rfl rfl rfl
            have hcl := (HBc.out.only hJ.only (by decide)).cell 2
            simp only [List.getElem?_toArray, List.getElem?_cons_zero, List.getElem?_cons_succ] at hcl
            simp only [Act.eval] at e27
            clear hF hlim hJ
            go_simp
            exact hk
          | 3, ho =>
            simp only [List.getElem?_toArray, List.getElem?_cons_zero, List.getElem?_cons_succ, Option.some.injEq] at ho
            subst ho
            have e9 := hF.old 9 (.pointer (some ⟨wr.heap.size, 0, none⟩)) rfl rfl
            exact wp_loadB 52 (.tmp 9) rfl wr.heap.size 52 _ _ e9 (HBc.out.only hJ.only (by decide)) Tryd.underlying52 rfl (by exact size_cut) hk
          | 4, ho =>
            simp only [List.getElem?_toArray, List.getElem?_cons_zero, List.getElem?_cons_succ, Option.some.injEq] at ho
            subst ho
            have e9 := hF.old 9 (.pointer (some ⟨wr.heap.size, 0, none⟩)) rfl rfl
            simp only [Act.eval] at e9
            clear hF hlim hJ
            go_simp
            exact hk
          | 5, ho =>
            simp only [List.getElem?_toArray, List.getElem?_cons_zero, List.getElem?_cons_succ, Option.some.injEq] at ho
            subst ho
            have e30 := hF.pure 4 30 (.pointer (some ⟨wr.heap.size, 3, none⟩)) rfl rfl rfl rfl
            simp only [Act.eval] at e30
            clear hF hlim hJ
            go_simp
            exact hk
          | 6, ho =>
            simp only [List.getElem?_toArray, List.getElem?_cons_zero, List.getElem?_cons_succ, Option.some.injEq] at ho
            subst ho
            have e31 := hF.pure 5 31 (.pointer (some ⟨wr.heap.size, 3 + 1, none⟩)) rfl rfl rfl rfl
            have hcl := (HBc.out.only hJ.only (by decide)).cell 4
            simp only [List.getElem?_toArray, List.getElem?_cons_zero, List.getElem?_cons_succ] at hcl
            simp only [Act.eval] at e31
            clear hF hlim hJ
            go_simp
            exact hk
          | 7, ho =>
            simp only [List.getElem?_toArray, List.getElem?_cons_zero, List.getElem?_cons_succ, Option.some.injEq] at ho
            subst ho
            have e32 := hF.pure 6 32 (.int .i64 r.out) rfl rfl rfl rfl
            exact wp_bin rfl e32 rfl (by first | (go_simp; done) | (go_simp; exact wrap_i64 (by omega) (by omega))) hk
          | 8, ho => simp at hc
          | 9, ho =>
            simp only [List.getElem?_toArray, List.getElem?_cons_zero, List.getElem?_cons_succ, Option.some.injEq] at ho
            subst ho
            obtain ⟨v34, hv34⟩ := getElem_ltq (hF.did 0 8 rfl rfl)
            have e34 := hF.link 0 8 34 _ rfl rfl rfl hv34
            have hu := hJ.val v34 hv34
            subst hu
            exact wp_bin rfl e34 rfl (by first | (go_simp; done) | (go_simp; exact wrap_i64 (by omega) (by omega))) hk
          | 10, ho =>
            simp only [List.getElem?_toArray, List.getElem?_cons_zero, List.getElem?_cons_succ, Option.some.injEq] at ho
            subst ho
            have e28 := hF.pure 2 28 (.int .i64 r.src) rfl rfl rfl rfl
            have e35 := hF.pure 9 35 (.int .i64 (sa + 1)) rfl rfl rfl rfl
            simp [Act.eval] at e28 e35
            clear hF hlim hJ
            go_simp
            exact hk
          | 11, ho => simp at hc
          | 12, ho => simp at hc
          | 13, ho => simp at hc
          | i + 14, ho => simp at ho
        · intro p c' o hp ho a w' us K' hl hJ hF hk
          match p, hp with
          | 0, hp =>
            obtain rfl : 8 = c' := by simpa using hp
            simp only [List.getElem?_toArray, List.getElem?_cons_zero, List.getElem?_cons_succ, Option.some.injEq] at ho
            subst ho
            obtain rfl : us = [] := List.eq_nil_of_length_eq_zero hl
            have e29 := hF.pure 3 29 (.agg #[.int .i64 r.num, .string r.reel, .int .i64 r.src, .int .i64 r.inn, .int .i64 r.out, .int .i64 r.n, .int .i64 r.d]) rfl rfl rfl rfl
            have e33 := hF.pure 7 33 (.int .i64 (r.out - 1)) rfl rfl rfl rfl
            exact wp_call2 rfl e29 e33 Tryd.call15 (HSo.out _) (fun w5 hx5 => hk _ w5 (hJ.call hx5))
          | 1, hp =>
            obtain rfl : 11 = c' := by simpa using hp
            simp only [List.getElem?_toArray, List.getElem?_cons_zero, List.getElem?_cons_succ, Option.some.injEq] at ho
            subst ho
            obtain ⟨u0, rfl⟩ := list_1 hl
            have e36 := hF.pure 10 36 (.agg #[.int .i64 r.src, .int .i64 (sa + 1)]) rfl rfl rfl rfl
            have HK := Lib.hid (hk (.slice (some ⟨w'.heap.size, 0, none⟩) 1 1) (w'.alloc (.cells #[.int .i64 r.src, .int .i64 (sa + 1)] 48)) hJ.build)
            simp [Act.eval] at e36
            clear hk hF hJ
            go_simp
            exact HK.out
          | 2, hp =>
            obtain rfl : 12 = c' := by simpa using hp
            simp only [List.getElem?_toArray, List.getElem?_cons_zero, List.getElem?_cons_succ, Option.some.injEq] at ho
            subst ho
            obtain ⟨u0, u1, rfl⟩ := list_2 hl
            obtain ⟨⟨g8, rfl, hB8⟩, hx8⟩ := hJ.st
            have e26 := hF.pure 0 26 (u7) rfl rfl rfl rfl
            have e37 := hF.link 1 11 37 _ rfl rfl rfl rfl
            exact wp_append1p (.tmp 26) (.tmp 37) 38 rfl info_span Tryd.underlying38 rfl (by decide) (own_ext HO2.out hx8) e26 g8 _ e37 hB8 rfl (by simp [Value.oneCell']) (by omega) (by simp [maxLen]; omega) (by have := hx8.size; omega) (fun v' w9 ho9 hg9 => hk v' w9 (hJ.app (own_typed (own_ext HO2.out hx8)) hg9 ho9))
          | 3, hp =>
            obtain rfl : 13 = c' := by simpa using hp
            simp only [List.getElem?_toArray, List.getElem?_cons_zero, List.getElem?_cons_succ, Option.some.injEq] at ho
            subst ho
            obtain ⟨u0, u1, u2, rfl⟩ := list_3 hl
            have e38 := hF.link 2 12 38 _ rfl rfl rfl rfl
            exact wp_assignx _ _ rfl e38 (hk _ _ hJ.asg)
          | p + 4, hp => simp at hp
        intro us w5 hl hJ
        obtain ⟨uu0, uu1, uu2, uu3, rfl⟩ := list_4 hl
        first | (rename_i hK; refine hK _ _ ?_; clear hK) | (rename_i hK hK_1; refine hK _ _ ?_; clear hK) | (rename_i hK hK_1 hK_2; refine hK _ _ ?_; clear hK) | (rename_i hK hK_1 hK_2 hK_3; refine hK _ _ ?_; clear hK)
        generalize hL : frameL _ _ _ _ = L
        obtain rfl : L = [(26, u7), (27, .pointer (some ⟨wr.heap.size, 2, none⟩)), (28, .int .i64 r.src), (29, .agg #[.int .i64 r.num, .string r.reel, .int .i64 r.src, .int .i64 r.inn, .int .i64 r.out, .int .i64 r.n, .int .i64 r.d]), (30, .pointer (some ⟨wr.heap.size, 3, none⟩)), (31, .pointer (some ⟨wr.heap.size, 3 + 1, none⟩)), (32, .int .i64 r.out), (33, .int .i64 (r.out - 1)), (34, uu0), (35, .int .i64 (sa + 1)), (36, .agg #[.int .i64 r.src, .int .i64 (sa + 1)]), (37, uu1), (38, uu2), (7, uu3)] := hL.symm.trans (by kernel_rfl)
        clear hL hl
        simp only [Act.put, List.foldl_cons, List.foldl_nil, List.setIfInBounds_toArray, List.set_cons_zero, List.set_cons_succ]
        obtain ⟨rfl, w6, hx6, hg6, ho6⟩ := hJ.st
        have HO5 := Lib.hid ho6
        have HX5 := Lib.hid (Ext.grown ((HXr.out.trans HXc.out).trans hx6) hg6 (fun q hq => own_lt HO.out q hq))
        clear hx6 hg6 ho6
        go_wp2_with fail
        exact ⟨⟨k + 1, by omega, by go_num, HX5.out, by dsimp only; rw [HT.out, List.length_append, List.flatMap_append]; exact HO5.out⟩, by simp [intOf]; omega⟩
      · have he' : (r.reel.toList == s.toList) = false := by rw [bs_eq]; simpa using he
        have HT := Lib.hid (plC_no hr he)
        clear hr he
        go_wp2_with fail
        exact ⟨⟨k + 1, by omega, by go_num, HXr.out.trans HXc.out, by dsimp only; rw [HT.out]; exact own_ext HO.out HXc.out⟩, by simp [intOf]; omega⟩
    · have hkn : k = n := by omega
      subst hkn
      have HTk : Hid ((plC (e.cuts.take k) s) = plC e.cuts s) := by show _ = _; rw [List.take_of_length_le (by have := HLn.out; omega)]
      rw [HTk.out] at HO hjl
      obtain ⟨A', c', rfl, hc, _, hS, hfr⟩ := own_sl (f := Spn.vals) (size := 2) (fun _ => rfl) rfl HO.out
      have HN := Lib.hid (Norm_ok A' (plC e.cuts s).length c' (plC e.cuts s) wr hS (by omega) (fun x hx _ => by obtain ⟨c, hc, rfl⟩ := List.mem_map.1 hx; exact pl_sane (HSn.out c (List.mem_filter.1 hc).1)))
      unfold SpnsPost2 at HN
      clear hc hS hfr HO
      go_wp2_with fail
      refine HN.out.mono ?_
      rintro en2 w2 ⟨A2, c2, rfl, h1, h2, h3, h4⟩
      have HR := Lib.hid (And.intro h2 (And.intro h1 (And.intro h4 ((HX1.out.trans HXr.out).trans h3))))
      clear h1 h2 h3 h4 HN
      go_wp2_with fail
      go_ret2
      exact ⟨A2, c2, by rw [HZ.out, HE0.out]; rfl, by rw [HZ.out]; exact HR.out.2.1, by rw [HZ.out]; exact HR.out.1, HR.out.2.2.2, fun ad h => Nat.le_trans (Nat.le_trans hz1 hzr) (HR.out.2.2.1 ad h)⟩
end Go.Proofs.YtablhmobekmflaaDoor

/-! EqL -/
namespace Go.Proofs.YtablhmobekmflaaDoor
set_option linter.unusedVariables false
set_option linter.unusedSimpArgs false
open Go.RowKit
def EqRel {α : Type} (w : World) (n : Nat) (l1 l2 : List α) (i : Value) (wr : World) : Prop := ∃ k : Nat, k ≤ n ∧ i = .int .i64 k ∧ Ext w wr ∧ l1.take k = l2.take k
end Go.Proofs.YtablhmobekmflaaDoor

/-! Sam6 -/
namespace Go.Proofs.YtablhmobekmflaaDoor
set_option linter.unusedVariables false
set_option linter.unusedSimpArgs false
open Go.RowKit
def inB (l : List Spn) (f : Int) : Bool := l.any fun s => decide (s.inn ≤ f ∧ f < s.out)
theorem inB_inn (l : List Spn) (f : Int) : inB l f = true ↔ Inn l f := by unfold inB Inn; simp
def WiRel (w : World) (n : Nat) (l : List Spn) (f : Int) (i : Value) (wr : World) : Prop := ∃ k : Nat, k ≤ n ∧ i = .int .i64 k ∧ Ext w wr ∧ inB l f = inB (l.drop k) f
set_option maxRecDepth 100000 in
set_option maxHeartbeats 2000000 in
theorem R5Within_any (A : Option Addr) (n c : Nat) (l : List Spn) (f : Int) (w : World) (hl : SpnsAt w A n l) (hn : n ≤ 1000000) :
    Calls Tryd.prog 13 #[.slice A n c, .int .i64 f] w fun e w' => e = .returned (.bool (inB l f)) ∧ Ext w w' := by
  have HL := Lib.hid hl
  have HLn := Lib.hid hl.len
  clear hl
  go_enter Tryd.func13, Tryd.ntmps13
  go_wp2_with fail
  go_loopw [9] (fun i wr => WiRel w n l f i wr) (fun i _ => n - (intOf i).toNat)
  case atStart => exact ⟨0, Nat.zero_le _, rfl, Ext.refl _, by simp⟩
  case round =>
    obtain ⟨k, hk, rfl, hx, hp⟩ := hrel
    have HP := Lib.hid hp
    have HX := Lib.hid hx
    clear hp hx
    by_cases hlt : k < n
    · obtain ⟨b, off, x, rfl, hxk, hC⟩ := (HL.out.ext HX.out).at_ hlt
      have c0 := hC 0 _ rfl
      have c1 := hC 1 _ rfl
      simp only [Nat.add_zero] at c0
      have HD := Lib.hid (drop_at l k x hxk)
      have HX1 := Lib.hid (HX.out.alloc (.cells #[.int .i64 x.inn, .int .i64 x.out] 48))
      clear hC hxk
      by_cases h1 : x.inn ≤ f
      · by_cases h2 : f < x.out
        · have d1 : decide (f ≥ x.inn) = true := by simpa using h1
          have d1' : decide (x.inn ≤ f) = true := by simpa using h1
          have d2 : decide (f < x.out) = true := by simpa using h2
          have HR : Hid (inB l f = true) := by show _ = _; rw [HP.out, HD.out]; unfold inB; rw [List.any_cons, decide_eq_true (And.intro h1 h2)]; rfl
          clear h1 h2
          go_wp2_with fail
          go_ret
          exact ⟨ret_bool HR.out.symm, HX1.out⟩
        · have d1 : decide (f ≥ x.inn) = true := by simpa using h1
          have d1' : decide (x.inn ≤ f) = true := by simpa using h1
          have d2 : decide (f < x.out) = false := by simpa using h2
          have HR : Hid (inB l f = inB (l.drop (k + 1)) f) := by show _ = _; rw [HP.out, HD.out]; unfold inB; rw [List.any_cons, decide_eq_false (fun h => h2 h.2)]; rfl
          clear h1 h2
          go_wp2_with fail
          exact ⟨⟨k + 1, by omega, by go_num, HX1.out, HR.out⟩, by simp [intOf]; omega⟩
      · have d1 : decide (f ≥ x.inn) = false := by simpa using h1
        have d1' : decide (x.inn ≤ f) = false := by simpa using h1
        have HR : Hid (inB l f = inB (l.drop (k + 1)) f) := by show _ = _; rw [HP.out, HD.out]; unfold inB; rw [List.any_cons, decide_eq_false (fun h => h1 h.1)]; rfl
        clear h1
        go_wp2_with fail
        exact ⟨⟨k + 1, by omega, by go_num, HX1.out, HR.out⟩, by simp [intOf]; omega⟩
    · have hkn : k = n := by omega
      subst hkn
      have HR : Hid (inB l f = false) := by show _ = _; rw [HP.out, List.drop_eq_nil_of_le (by have := HLn.out; omega)]; rfl
      go_wp2_with fail
      go_ret
      exact ⟨ret_bool HR.out.symm, HX.out⟩
end Go.Proofs.YtablhmobekmflaaDoor

/-! TmD -/
namespace Go.Proofs.YtablhmobekmflaaDoor
set_option linter.unusedVariables false
set_option linter.unusedSimpArgs false
open Go.RowKit
def toP (p : Pc) (t : Int) : Int := p.dst + (t - p.inn) * p.n / p.d
structure Pc.Ok (p : Pc) : Prop where
  i0 : 0 ≤ p.inn
  io : p.inn < p.out
  o1 : p.out ≤ 5184000
  n0 : 0 ≤ p.n
  n8 : p.n ≤ 8
  d1 : 1 ≤ p.d
  d8 : p.d ≤ 8
  t0 : 0 ≤ p.dst
  t1 : p.dst < 5184000
  rat : ratioB p.n p.d = true
  last : toP p (p.out - 1) < 5184000
structure MapOk (l : List Pc) : Prop where
  each : ∀ p ∈ l, p.Ok
  asc : l.Pairwise fun a b => a.out ≤ b.inn
  few : l.length ≤ 64
theorem cuts_asc {day : Int} : ∀ {l : List Cut} {la ou : Int}, cutsErr day la ou l = 0 → day ≤ 5184000 → (∀ c ∈ l, ou ≤ c.inn) ∧ l.Pairwise fun a b => a.out ≤ b.inn
  | [], _, _, _, _ => ⟨by simp, List.Pairwise.nil⟩
  | d :: r, la, ou, h, hd => by
    have hs := cutErr_sane (cutsErr_ok h d (by simp)).1 hd
    unfold cutsErr at h
    split at h
    · omega
    · split at h
      · omega
      · rename_i h2
        obtain ⟨k1, k2⟩ := cuts_asc h hd
        refine ⟨fun c hc => ?_, List.pairwise_cons.2 ⟨fun c hc => k1 c hc, k2⟩⟩
        rcases List.mem_cons.1 hc with rfl | hc
        · omega
        · have := k1 c hc
          have := hs.2.1
          omega
theorem cut_pc_ok {c : Cut} {day : Int} (h : cutErr c day = 0) (hd : day ≤ 5184000) : c.pc.Ok := by
  have hs := cutErr_sane h hd
  unfold cutErr at h
  repeat' split at h
  all_goals first | omega | skip
  rename_i h1 h2 h3 h4 h5
  have h4' : speedB c = true := by simpa using h4
  have hr : ratioB c.n c.d = true := by unfold speedB at h4'; simp at h4'; exact h4'.1
  obtain ⟨a1, a2, a3, a4, a5, a6, a7, a8, a9⟩ := hs
  refine ⟨a1, a2, a3, a4, a5, a6, a7, a8, by show c.src < _; omega, hr, ?_⟩
  show srcAt c (c.out - 1) < _
  omega
theorem pcs_ok {e : Edl} (h : edlErr e = 0) (s : ByteArray) : MapOk (pcsC e.cuts s) := by
  have hk := (edlErr_ok h).2.2.2.2.1
  refine ⟨fun p hp => ?_, ?_, ?_⟩
  · obtain ⟨c, hc, rfl⟩ := List.mem_map.1 hp
    exact cut_pc_ok (cutsErr_ok hk c (List.mem_filter.1 hc).1).1 (dayOf_bd _ _)
  · unfold pcsC
    exact List.pairwise_map.2 ((cuts_asc hk (dayOf_bd _ _)).2.filter _)
  · have h1 := (edlErr_ok h).2.2.2.1
    have h2 := pcsC_len e.cuts s e.cuts.length
    rw [List.take_length] at h2
    omega
set_option maxRecDepth 100000 in
set_option maxHeartbeats 1000000 in
theorem To_any (p : Pc) (t : Int) (w : World) (hp : p.Ok) (h1 : p.inn ≤ t) (h2 : t < p.out) :
    Calls Tryd.prog 24 #[.agg #[.int .i64 p.inn, .int .i64 p.out, .int .i64 p.dst, .int .i64 p.n, .int .i64 p.d], .int .i64 t] w fun e w' => e = .returned (.int .i64 (toP p t)) ∧ Ext w w' := by
  obtain ⟨inn, out, dst, n, d⟩ := p
  obtain ⟨a1, a2, a3, a4, a5, a6, a7, a8, a9, -, -⟩ := hp
  dsimp only at *
  have hm := mul_bd8 (a := t - inn) (n := n) (by omega) (by omega) a4 a5
  have hq := div_bd hm.1 hm.2 a6
  have HF : Hid (toP ⟨inn, out, dst, n, d⟩ t = dst + (t - inn) * n / d) := rfl
  have HX := Lib.hid ((Ext.refl w).alloc (.cells #[.int .i64 inn, .int .i64 out, .int .i64 dst, .int .i64 n, .int .i64 d] 57))
  go_enter Tryd.func24, Tryd.ntmps24
  go_wp2_with fail
  refine (Quotient_any ((t - inn) * n) d 1 _ hm.1 (by omega) a6 (by omega) (by omega) (by omega)).mono ?_
  rintro e w1 ⟨rfl, hx⟩
  rw [quoI_floor]
  have hB := Blk.ext (Blk.new w 57 #[.int .i64 inn, .int .i64 out, .int .i64 dst, .int .i64 n, .int .i64 d]) hx
  have hcell := fun o => hB.cell o
  have HB := Lib.hid hB
  clear hB
  go_wp2_with fail
  go_ret
  exact ⟨ret_int HF.out.symm, HX.out.trans hx⟩
set_option maxRecDepth 100000 in
set_option maxHeartbeats 1000000 in
theorem Speed_ok (n d : Int) (w : World) (h0 : 0 ≤ n) (h8 : n ≤ 8) (d8 : d ≤ 8) (hr : ratioB n d = true) :
    Calls Tryd.prog 40 #[.agg #[.int .i64 n, .int .i64 d]] w fun e w' => e = .returned (.bool true) ∧ Ext w w' := by
  have HB0 := Lib.hid (Blk.new w 50 #[.int .i64 n, .int .i64 d])
  have HX := Lib.hid ((Ext.refl w).alloc (.cells #[.int .i64 n, .int .i64 d] 50))
  have HV := Lib.hid (fun w' => RatValid_any n d w')
  rw [hr] at HV
  have e1 : decide (n ≥ 0) = true := by simpa using h0
  have e1' : decide (0 ≤ n) = true := by simpa using h0
  have e2 : decide (n ≤ 8) = true := by simpa using h8
  have e3 : decide (d ≤ 8) = true := by simpa using d8
  clear h0 h8 d8 hr
  go_enter Tryd.func40, Tryd.ntmps40
  go_wp2_with fail
  refine (HV.out _).mono ?_
  rintro e w1 ⟨rfl, hx⟩
  have HX1 := Lib.hid (HX.out.trans hx)
  have b0 := (HB0.out.ext hx).cell 0
  have b1 := (HB0.out.ext hx).cell 1
  simp only [List.getElem?_toArray, List.getElem?_cons_zero, List.getElem?_cons_succ] at b0 b1
  clear hx
  go_wp2_with fail
  go_ret
  exact ⟨rfl, HX1.out⟩
def TmRel (w : World) (n : Nat) (i : Value) (wr : World) : Prop := ∃ k : Nat, k ≤ n ∧ i = .int .i64 k ∧ Ext w wr
set_option maxRecDepth 100000 in
set_option maxHeartbeats 4000000 in
theorem TCheck_ok (A : Option Addr) (n c : Nat) (l : List Pc) (w : World) (hl : PcsAt w A n l) (hok : MapOk l) :
    Calls Tryd.prog 23 #[.slice A n c] w fun e w' => e = .returned (.int .i64 0) ∧ Ext w w' := by
  have HL := Lib.hid hl
  have HLn := Lib.hid hl.len
  have HOk := Lib.hid hok
  have hn : n ≤ 64 := by rw [← hl.len]; exact hok.few
  have hb : decide ((n : Int) > 64) = false := by simp; omega
  have hb2 : decide ((64 : Int) < n) = false := by simp; omega
  clear hl hok
  go_enter Tryd.func23, Tryd.ntmps23
  go_wp2_with fail
  clear hb hb2
  go_loopw [10] (fun i wr => TmRel w n i wr) (fun i _ => n - (intOf i).toNat)
  case atStart => exact ⟨0, Nat.zero_le _, rfl, Ext.refl _⟩
  case round =>
    obtain ⟨k, hk, rfl, hx⟩ := hrel
    have HX := Lib.hid hx
    clear hx
    by_cases hlt : k < n
    case neg =>
      have hkn : k = n := by omega
      subst hkn
      go_wp2_with fail
      go_ret
      exact ⟨rfl, HX.out⟩
    obtain ⟨b, off, x, rfl, hxk, hC⟩ := (HL.out.ext HX.out).at_ hlt
    have c0 := hC 0 _ rfl
    have c1 := hC 1 _ rfl
    have c2 := hC 2 _ rfl
    have c3 := hC 3 _ rfl
    have c4 := hC 4 _ rfl
    simp only [Nat.add_zero] at c0
    have hxo := HOk.out.each x (List.mem_of_getElem? hxk)
    have HPr : Hid (∀ j y, k = j + 1 → l[j]? = some y → ¬ x.inn < y.out) := fun j y hj hy => by
      subst hj
      have h1 := List.pairwise_iff_getElem.1 HOk.out.asc j (j + 1) (List.getElem?_eq_some_iff.1 hy).1 (List.getElem?_eq_some_iff.1 hxk).1 (by omega)
      rw [(List.getElem?_eq_some_iff.1 hy).2, (List.getElem?_eq_some_iff.1 hxk).2] at h1
      omega
    have HSp := Lib.hid (fun w' => Speed_ok x.n x.d w' hxo.n0 hxo.n8 hxo.d8 hxo.rat)
    have HTo := Lib.hid (fun w' => To_any x (x.out - 1) w' hxo (by have := hxo.io; omega) (by omega))
    have hlast := hxo.last
    have g1 : decide (x.inn ≥ x.out) = false := by have := hxo.io; simp; omega
    have g1' : decide (x.out ≤ x.inn) = false := by have := hxo.io; simp; omega
    have g2 : decide (x.inn < 0) = false := by have := hxo.i0; simp; omega
    have g3 : decide (x.out > 5184000) = false := by have := hxo.o1; simp; omega
    have g3' : decide (5184000 < x.out) = false := by have := hxo.o1; simp; omega
    have g4 : decide (x.dst < 0) = false := by have := hxo.t0; simp; omega
    have g5 : decide (x.dst ≥ 5184000) = false := by have := hxo.t1; simp; omega
    have g5' : decide (5184000 ≤ x.dst) = false := by have := hxo.t1; simp; omega
    have hob := hxo.o1
    have hob2 := hxo.io
    have hob3 := hxo.i0
    generalize toP x (x.out - 1) = tl at *
    have g6 : decide (tl ≥ 5184000) = false := by simp; omega
    have g6' : decide (5184000 ≤ tl) = false := by simp; omega
    have HBx := Lib.hid (Blk.new wr 57 #[.int .i64 x.inn, .int .i64 x.out, .int .i64 x.dst, .int .i64 x.n, .int .i64 x.d])
    have HXx := Lib.hid ((Ext.refl wr).alloc (.cells #[.int .i64 x.inn, .int .i64 x.out, .int .i64 x.dst, .int .i64 x.n, .int .i64 x.d] 57))
    clear hC hxk hxo hlast
    go_wp2_with fail
    refine (HSp.out _).mono ?_
    rintro e w1 ⟨rfl, hx1⟩
    have HX1 := Lib.hid (HXx.out.trans hx1)
    have HB1 := Lib.hid (HBx.out.ext hx1)
    have hcl := fun o => HB1.out.cell o
    clear hx1 HSp
    go_wp2_with (refine wpList_loadB rfl 57 (.tmp 4) rfl wr.heap.size 57 _ _ (by exact rfl) (by exact HB1.out) Tryd.underlying57 rfl (by exact size_pc) ?_)
    refine (HTo.out _).mono ?_
    rintro e w2 ⟨rfl, hx2⟩
    have HX2 := Lib.hid (HX1.out.trans hx2)
    have HB2 := Lib.hid (HB1.out.ext hx2)
    clear hcl
    have hcl2 := fun o => HB2.out.cell o
    clear hx2 HTo
    by_cases hk0 : 0 < k
    · obtain ⟨b', off', y, hA, hyk, hD⟩ := (HL.out.ext (HX.out.trans HX2.out)).at_ (i := k - 1) (by omega)
      cases hA
      have d1 := hD 1 _ rfl
      have hny := HPr.out (k - 1) y (by omega) hyk
      have g7 : decide (x.inn < y.out) = false := by simpa using hny
      have g8 : decide ((k : Int) > 0) = true := by simp; omega
      have g8' : decide ((0 : Int) < k) = true := by simp; omega
      obtain ⟨j, rfl⟩ : ∃ j, k = j + 1 := ⟨k - 1, by omega⟩
      simp only [Nat.add_sub_cancel] at d1
      clear hD hyk hny
      go_wp2_with fail
      go_quiet (fail)
      go_wp2_with fail
      exact ⟨⟨j + 1 + 1, by omega, by go_num, (HX.out.trans HX2.out).drewN _⟩, by simp [intOf]; omega⟩
    · have hk00 : k = 0 := by omega
      subst hk00
      go_wp2_with fail
      go_quiet (fail)
      go_wp2_with fail
      exact ⟨⟨0 + 1, by omega, by go_num, (HX.out.trans HX2.out).drewN _⟩, by simp [intOf]; omega⟩
/-- where a map leads a frame -/
def tmAt (l : List Pc) (t : Int) : Int × Bool := match l.find? fun p => decide (p.inn ≤ t ∧ t < p.out) with | some p => (toP p t, true) | none => (0, false)
theorem tmAt_drop {l : List Pc} {k : Nat} {x : Pc} {t : Int} (h : l[k]? = some x) : tmAt (l.drop k) t = if x.inn ≤ t ∧ t < x.out then (toP x t, true) else tmAt (l.drop (k + 1)) t := by
  rw [drop_at l k x h]
  unfold tmAt
  rw [List.find?_cons]
  by_cases hc : x.inn ≤ t ∧ t < x.out
  · rw [if_pos hc, decide_eq_true hc]
  · rw [if_neg hc, decide_eq_false hc]
def TaRel (w : World) (n : Nat) (l : List Pc) (t : Int) (i : Value) (wr : World) : Prop := ∃ k : Nat, k ≤ n ∧ i = .int .i64 k ∧ Ext w wr ∧ tmAt l t = tmAt (l.drop k) t
set_option maxRecDepth 100000 in
set_option maxHeartbeats 2000000 in
theorem TAt_any (A : Option Addr) (n c : Nat) (l : List Pc) (t : Int) (w : World) (hl : PcsAt w A n l) (hok : MapOk l) :
    Calls Tryd.prog 11 #[.slice A n c, .int .i64 t] w fun e w' => e = .returned (.tuple #[.int .i64 (tmAt l t).1, .bool (tmAt l t).2]) ∧ Ext w w' := by
  have HL := Lib.hid hl
  have HLn := Lib.hid hl.len
  have HOk := Lib.hid hok
  have hn : n ≤ 64 := by rw [← hl.len]; exact hok.few
  have HC := Lib.hid (TCheck_ok A n c l w hl hok)
  clear hl hok
  go_enter Tryd.func11, Tryd.ntmps11
  go_wp2_with fail
  refine HC.out.mono ?_
  rintro e w1 ⟨rfl, hx1⟩
  have HX1 := Lib.hid hx1
  clear hx1 HC
  go_wp2_with fail
  go_loopw [13] (fun i wr => TaRel w n l t i wr) (fun i _ => n - (intOf i).toNat)
  case atStart => exact ⟨0, Nat.zero_le _, rfl, HX1.out, by simp⟩
  case round =>
    obtain ⟨k, hk, rfl, hx, hp⟩ := hrel
    have HX := Lib.hid hx
    have HP := Lib.hid hp
    clear hx hp
    by_cases hlt : k < n
    case neg =>
      have hkn : k = n := by omega
      subst hkn
      have HR : Hid (tmAt l t = (0, false)) := by show _ = _; rw [HP.out, List.drop_eq_nil_of_le (by have := HLn.out; omega)]; rfl
      go_wp2_with fail
      go_ret2
      exact ⟨by rw [HR.out]; rfl, HX.out⟩
    obtain ⟨b, off, x, rfl, hxk, hC⟩ := (HL.out.ext HX.out).at_ hlt
    have c0 := hC 0 _ rfl
    have c1 := hC 1 _ rfl
    have c2 := hC 2 _ rfl
    have c3 := hC 3 _ rfl
    have c4 := hC 4 _ rfl
    simp only [Nat.add_zero] at c0
    have HD := Lib.hid (tmAt_drop (t := t) hxk)
    have HXo := Lib.hid (HOk.out.each x (List.mem_of_getElem? hxk))
    have HBx := Lib.hid (Blk.new wr 57 #[.int .i64 x.inn, .int .i64 x.out, .int .i64 x.dst, .int .i64 x.n, .int .i64 x.d])
    have HXx := Lib.hid (HX.out.alloc (.cells #[.int .i64 x.inn, .int .i64 x.out, .int .i64 x.dst, .int .i64 x.n, .int .i64 x.d] 57))
    clear hC hxk
    by_cases h1 : x.inn ≤ t
    · have e1 : decide (x.inn ≤ t) = true := by simpa using h1
      by_cases h2 : t < x.out
      · have e2 : decide (t < x.out) = true := by simpa using h2
        have HR : Hid (tmAt l t = (toP x t, true)) := by show _ = _; rw [HP.out, HD.out, if_pos ⟨h1, h2⟩]
        have HTo := Lib.hid (fun w' => To_any x t w' HXo.out h1 h2)
        clear h1 h2
        generalize toP x t = tl at *
        go_wp2_with (refine wpList_loadB rfl 57 (.tmp 7) rfl wr.heap.size 57 _ _ (by exact rfl) (by exact HBx.out) Tryd.underlying57 rfl (by exact size_pc) ?_)
        refine (HTo.out _).mono ?_
        rintro e w2 ⟨rfl, hx2⟩
        have HX2 := Lib.hid (HXx.out.trans hx2)
        clear hx2
        go_wp2_with fail
        go_ret2
        exact ⟨by rw [HR.out]; rfl, HX2.out⟩
      · have e2 : decide (t < x.out) = false := by simpa using h2
        have HR : Hid (tmAt l t = tmAt (l.drop (k + 1)) t) := by show _ = _; rw [HP.out, HD.out, if_neg (fun h => h2 h.2)]
        clear h1 h2
        go_wp2_with fail
        exact ⟨⟨k + 1, by omega, by go_num, HXx.out, HR.out⟩, by simp [intOf]; omega⟩
    · have e1 : decide (x.inn ≤ t) = false := by simpa using h1
      have HR : Hid (tmAt l t = tmAt (l.drop (k + 1)) t) := by show _ = _; rw [HP.out, HD.out, if_neg (fun h => h1 h.1)]
      clear h1
      go_wp2_with fail
      exact ⟨⟨k + 1, by omega, by go_num, HXx.out, HR.out⟩, by simp [intOf]; omega⟩
end Go.Proofs.YtablhmobekmflaaDoor

/-! LawMaps -/
namespace Go.Proofs.YtablhmobekmflaaDoor
set_option linter.unusedVariables false
set_option linter.unusedSimpArgs false
open Go.RowKit
theorem srcAt_mono {c : Cut} (h : c.Sane) {t u : Int} (h2 : t ≤ u) : srcAt c t ≤ srcAt c u := by
  obtain ⟨a1, a2, a3, a4, a5, a6, a7, a8, a9⟩ := h
  unfold srcAt
  have := Int.ediv_le_ediv (c := c.d) (by omega) (Int.mul_le_mul_of_nonneg_right (show t - c.inn ≤ u - c.inn by omega) a4)
  omega
theorem srcAt_first {c : Cut} : srcAt c c.inn = c.src := by unfold srcAt; rw [Int.sub_self, Int.zero_mul, Int.zero_ediv]; omega
theorem find_some {l : List Cut} {t : Int} {c : Cut} (h : findC l t = some c) : c ∈ l ∧ c.inn ≤ t ∧ t < c.out := by
  unfold findC at h
  have h1 := List.find?_some h
  exact ⟨List.mem_of_find?_eq_some h, by simpa using h1⟩
theorem find_none {l : List Cut} {t : Int} (h : findC l t = none) : ∀ c ∈ l, ¬ (c.inn ≤ t ∧ t < c.out) := by
  unfold findC at h
  intro c hc
  have := List.find?_eq_none.1 h c hc
  simpa using this
theorem find_uniq {l : List Cut} (ha : l.Pairwise fun a b => a.out ≤ b.inn) {t : Int} {c d : Cut} (hc : c ∈ l) (hd : d ∈ l) (h1 : c.inn ≤ t ∧ t < c.out) (h2 : d.inn ≤ t ∧ t < d.out) : c = d := by
  obtain ⟨i, hi, rfl⟩ := List.mem_iff_getElem.1 hc
  obtain ⟨j, hj, rfl⟩ := List.mem_iff_getElem.1 hd
  have hp := List.pairwise_iff_getElem.1 ha
  rcases Nat.lt_trichotomy i j with h | h | h
  · have := hp i j hi hj h; omega
  · subst h; rfl
  · have := hp j i hj hi h; omega
theorem tm_none {l : List Cut} {s : ByteArray} {t : Int} (h : ∀ c ∈ l, c.reel = s → ¬ (c.inn ≤ t ∧ t < c.out)) : tmAt (pcsC l s) t = (0, false) := by
  unfold tmAt
  rw [List.find?_eq_none.2 (fun p hp => by
    obtain ⟨c, hc, rfl⟩ := List.mem_map.1 hp
    have hm := List.mem_filter.1 hc
    have h3 := h c hm.1 (by simpa using hm.2)
    intro hd
    exact h3 (of_decide_eq_true hd))]
theorem tm_some {l : List Cut} (ha : l.Pairwise fun a b => a.out ≤ b.inn) {s : ByteArray} {t : Int} {c : Cut} (hc : c ∈ l) (hs : c.reel = s) (ht : c.inn ≤ t ∧ t < c.out) : tmAt (pcsC l s) t = (srcAt c t, true) := by
  unfold tmAt
  cases hf : (pcsC l s).find? fun p => decide (p.inn ≤ t ∧ t < p.out) with
  | none =>
    have := List.find?_eq_none.1 hf c.pc (List.mem_map.2 ⟨c, List.mem_filter.2 ⟨hc, by simpa using hs⟩, rfl⟩)
    exact absurd (decide_eq_true (show c.pc.inn ≤ t ∧ t < c.pc.out from ht)) this
  | some p =>
    obtain ⟨d, hd, rfl⟩ := List.mem_map.1 (List.mem_of_find?_eq_some hf)
    have h2 := List.find?_some hf
    have := find_uniq ha hc (List.mem_filter.1 hd).1 ht (of_decide_eq_true h2)
    subst this
    rfl
theorem cov_in {l : List Cut} {t : Int} : inB (joinS (covC l)) t = (findC l t).isSome := by
  have h1 : inB (joinS (covC l)) t = true ↔ (findC l t).isSome = true := by
    rw [inB_inn, (joinS_ok (covC l)).2.1]
    unfold Inn covC
    constructor
    · rintro ⟨s, hs, h⟩
      obtain ⟨c, hc, rfl⟩ := List.mem_map.1 hs
      cases hf : findC l t with
      | none => exact absurd h (find_none hf c hc)
      | some d => rfl
    · intro h
      obtain ⟨c, hf⟩ := Option.isSome_iff_exists.1 h
      obtain ⟨h1, h2⟩ := find_some hf
      exact ⟨_, List.mem_map.2 ⟨c, h1, rfl⟩, h2⟩
  cases hx : inB (joinS (covC l)) t <;> cases hy : (findC l t).isSome <;> simp_all
theorem pl_in {l : List Cut} (hs : ∀ c ∈ l, c.Sane) {s : ByteArray} {t : Int} {c : Cut} (hc : c ∈ l) (hr : c.reel = s) (ht : c.inn ≤ t ∧ t < c.out) : inB (joinS (plC l s)) (srcAt c t) = true := by
  rw [inB_inn, (joinS_ok (plC l s)).2.1]
  refine ⟨c.pl, List.mem_map.2 ⟨c, List.mem_filter.2 ⟨hc, by simpa using hr⟩, rfl⟩, ?_, ?_⟩
  · show c.src ≤ _
    have := srcAt_mono (hs c hc) ht.1
    rw [srcAt_first] at this
    exact this
  · show _ < srcAt c (c.out - 1) + 1
    have := srcAt_mono (hs c hc) (t := t) (u := c.out - 1) (by omega)
    omega
set_option maxRecDepth 100000 in
set_option maxHeartbeats 8000000 in
theorem ReelMaps_any (e : Edl) (A : Option Addr) (n c : Nat) (s : ByteArray) (t : Int) (w : World) (hE : Env w) (hl : CutsAt w A n e.cuts) (hok : EdlOk e) :
    Calls Tryd.prog 3 #[.agg (e.cells A n c), .string s, .int .i64 t] w fun en w' => en = .returned (.bool true) ∧ Ext w w' := by
  have HX := Lib.hid ((Ext.refl w).alloc (.cells (e.cells A n c) 25))
  have HB := Lib.hid (Blk.new w 25 (e.cells A n c))
  have HE := Lib.hid hE
  have HSm := Lib.hid (fun w' => small_any e A n c w')
  have HOf := Lib.hid (fun w' => Of_any e A n c w')
  have HAt := Lib.hid (fun w' (hx : Ext w w') (hn : n ≤ 1000000) => At_any e A n c t w' (hE.ext hx) (hl.ext hx) hn hok)
  have HK1 := Lib.hid (fun w' (hx : Ext w w') (hn : n ≤ 1000000) => EPieces_any e A n c s w' (hE.ext hx) (hl.ext hx) hn hok)
  have HK2 := Lib.hid (fun w' (hx : Ext w w') (hn : n ≤ 1000000) => ECover_any e A n c w' (hE.ext hx) (hl.ext hx) hn hok)
  have HK3 := Lib.hid (fun w' (hx : Ext w w') (hn : n ≤ 1000000) => EPlayed_any e A n c s w' (hE.ext hx) (hl.ext hx) hn hok)
  have HCk := Lib.hid (fun w' (hx : Ext w w') (hn : n ≤ 1000000) => Check_any e A n c w' (hE.ext hx) (hl.ext hx) hn hok.r0 hok.r1 hok.title hok.fits)
  have HSb : Hid (smallB e n = true → n ≤ 1000000) := fun h => by have := of_decide_eq_true h; omega
  have HEr : Hid (edlErr e ≠ 0 → atE e t = (⟨#[]⟩, 0, false)) := fun h => atE_err h
  have HMk : Hid (edlErr e = 0 → MapOk (pcsE e s)) := fun h => by unfold pcsE; rw [if_pos h]; exact pcs_ok h s
  have HCv : Hid (edlErr e = 0 → inB (covE e) t = (atE e t).2.2) := fun h => by
    unfold covE atE; rw [if_pos h, if_pos h, cov_in]; cases findC e.cuts t <;> rfl
  have HNo : Hid (edlErr e = 0 → ∀ b, (atE e t).2.2 = b → (b = true → ¬ (atE e t).1 = s) → tmAt (pcsE e s) t = (0, false)) := fun h b hb hn => by
    unfold pcsE; rw [if_pos h]
    unfold atE at hb hn; rw [if_pos h] at hb hn
    refine tm_none fun d hd hr hc => ?_
    cases hf : findC e.cuts t with
    | none => exact find_none hf d hd hc
    | some c0 =>
      rw [hf] at hb hn
      obtain ⟨k1, k2⟩ := find_some hf
      have := find_uniq (cuts_asc (edlErr_ok h).2.2.2.2.1 (dayOf_bd _ _)).2 k1 hd k2 hc
      subst this
      exact hn hb.symm hr
  have HYes : Hid (edlErr e = 0 → (atE e t).2.2 = true → (atE e t).1 = s → tmAt (pcsE e s) t = ((atE e t).2.1, true) ∧ inB (plE e s) (atE e t).2.1 = true) := fun h hb hr => by
    unfold pcsE plE; rw [if_pos h, if_pos h]
    unfold atE at hb hr ⊢; rw [if_pos h] at hb hr ⊢
    cases hf : findC e.cuts t with
    | none => rw [hf] at hb; cases hb
    | some c0 =>
      rw [hf] at hb hr
      obtain ⟨k1, k2⟩ := find_some hf
      exact ⟨tm_some (cuts_asc (edlErr_ok h).2.2.2.2.1 (dayOf_bd _ _)).2 k1 hr k2, pl_in (fun c hc => edl_sane h hc) k1 hr k2⟩
  have hb2 : (covE e).length ≤ 1000000 := by
    unfold covE; split
    · rename_i h; have h1 := (edlErr_ok h).2.2.2.1; have h2 := covC_len e.cuts e.cuts.length; have h3 := (joinS_ok (covC e.cuts)).2.2.1; rw [List.take_length] at h2; omega
    · simp
  have hb3 : (plE e s).length ≤ 1000000 := by
    unfold plE; split
    · rename_i h; have h1 := (edlErr_ok h).2.2.2.1; have h2 := plC_len e.cuts s e.cuts.length; have h3 := (joinS_ok (plC e.cuts s)).2.2.1; rw [List.take_length] at h2; omega
    · simp
  clear hE hl hok
  unfold LPost at HK1 HK2 HK3
  unfold Edl.cells at *
  unfold atVal at HAt
  generalize pcsE e s = pc at *
  generalize covE e = cv at *
  generalize plE e s = pl at *
  generalize edlErr e = er at *
  generalize atE e t = r at *
  obtain ⟨rs, rf, rb⟩ := r
  dsimp only at *
  go_enter Tryd.func3, Tryd.ntmps3
  go_wp2_with fail
  refine (awake_any _ (HE.out.ext HX.out)).mono ?_
  rintro en w1 ⟨rfl, hx1⟩
  have HX1 := Lib.hid (HX.out.trans hx1)
  have HB1 := Lib.hid (HB.out.ext hx1)
  clear hx1 HX HB
  go_wp2_with (refine wpList_loadB rfl 25 (.tmp 3) rfl w.heap.size 25 _ _ (by exact rfl) (by exact HB1.out) Tryd.underlying25 rfl (by exact rsize_list) ?_)
  refine (HSm.out _).mono ?_
  rintro en w2 ⟨rfl, hx2⟩
  have HX2 := Lib.hid (HX1.out.trans hx2)
  have HB2 := Lib.hid (HB1.out.ext hx2)
  clear hx2 HX1 HB1
  cases hsm : smallB e n
  · go_wp2_with fail
    go_ret
    exact ⟨rfl, HX2.out⟩
  have hn := HSb.out hsm
  clear hsm HSb
  go_wp2_with (refine wpList_loadB rfl 25 (.tmp 3) rfl w.heap.size 25 _ _ (by exact rfl) (by exact HB2.out) Tryd.underlying25 rfl (by exact rsize_list) ?_)
  refine (HOf.out _).mono ?_
  rintro en w3 ⟨rfl, hx3⟩
  have HX3 := Lib.hid (HX2.out.trans hx3)
  clear hx3 HX2 HB2
  go_upto_region 6 with fail
  have HX4 := Lib.hid (HX3.out.alloc (.cells #[.string e.title, .int .u8 e.rate, .bool e.drop, .slice A n c] 28))
  have HC4 := Lib.hid (Blk.new w3 28 #[.string e.title, .int .u8 e.rate, .bool e.drop, .slice A n c])
  generalize w3.heap.size = gx at *
  generalize w3.alloc (.cells #[.string e.title, .int .u8 e.rate, .bool e.drop, .slice A n c] 28) = w4 at *
  clear HX3
  go_wp2_with (refine wpList_loadB rfl 28 (.tmp 7) rfl gx 28 _ _ (by exact rfl) (by exact HC4.out) Tryd.underlying28 rfl (by exact size_list) ?_)
  refine (HAt.out _ HX4.out hn).mono ?_
  rintro en w5 ⟨rfl, hx5⟩
  have HX5 := Lib.hid (HX4.out.trans hx5)
  have HC5 := Lib.hid (HC4.out.ext hx5)
  clear hx5 HX4 HC4 HAt
  go_upto_region 7 with fail
  have HX6 := Lib.hid (HX5.out.alloc (.cells #[.string rs, .int .i64 rf] 31))
  have HC6 := Lib.hid (HC5.out.alloc (.cells #[.string rs, .int .i64 rf] 31))
  have HS6 := Lib.hid (Blk.new w5 31 #[.string rs, .int .i64 rf])
  generalize w5.heap.size = gs at *
  generalize w5.alloc (.cells #[.string rs, .int .i64 rf] 31) = w6 at *
  clear HX5 HC5
  go_wp2_with (refine wpList_loadB rfl 28 (.tmp 7) rfl gx 28 _ _ (by exact rfl) (by exact HC6.out) Tryd.underlying28 rfl (by exact size_list) ?_)
  refine (HK1.out _ HX6.out hn).mono ?_
  rintro en w7 ⟨A1, c1, rfl, hs1, -, hx7, -⟩
  have HS1x := Lib.hid hs1
  have HX7 := Lib.hid (HX6.out.trans hx7)
  have HC7 := Lib.hid (HC6.out.ext hx7)
  have HS7 := Lib.hid (HS6.out.ext hx7)
  clear hx7 hs1 HX6 HC6 HK1 HS6
  go_wp2_with (refine wpList_loadB rfl 28 (.tmp 7) rfl gx 28 _ _ (by exact rfl) (by exact HC7.out) Tryd.underlying28 rfl (by exact size_list) ?_)
  refine (HK2.out _ HX7.out hn).mono ?_
  rintro en w8 ⟨A2, c2, rfl, hs2, -, hx8, -⟩
  replace HS1x := Lib.hid (Sl.ext (Cells.stays _) HS1x.out hx8)
  have HS2x := Lib.hid hs2
  have HX8 := Lib.hid (HX7.out.trans hx8)
  have HC8 := Lib.hid (HC7.out.ext hx8)
  have HS8 := Lib.hid (HS7.out.ext hx8)
  clear hx8 hs2 HX7 HC7 HK2 HS7
  by_cases he : er = 0
  case neg =>
    have hne : (er != 0) = true := by simpa using he
    have hr := HEr.out he
    simp only [Prod.mk.injEq] at hr
    obtain ⟨h1, h2, h3⟩ := hr
    subst h1 h2 h3
    clear he HYes HNo HCv HMk HEr
    have hcl8 := fun o => HC8.out.cell o
    go_wp2_with fail
    refine (HCk.out _ HX8.out hn).mono ?_
    rintro en w9 ⟨rfl, hx9⟩
    have HX9 := Lib.hid (HX8.out.trans hx9)
    clear hx9
    go_wp2_with fail
    go_ret
    exact ⟨rfl, HX9.out⟩
  subst he
  have HMo := Lib.hid (HMk.out rfl)
  have HC := Lib.hid (HCv.out rfl)
  have HTm := Lib.hid (fun w' (hx : Ext w8 w') => TAt_any A1 pc.length c1 pc t w' (Sl.ext (Cells.stays _) HS1x.out hx) HMo.out)
  have HW1 := Lib.hid (fun w' (hx : Ext w8 w') => R5Within_any A2 cv.length c2 cv t w' (Sl.ext (Cells.stays _) HS2x.out hx) hb2)
  rw [HC.out] at HW1
  have HWp := Lib.hid (fun w' A' c' f (hs : SpnsAt w' A' pl.length pl) => R5Within_any A' pl.length c' pl f w' hs hb3)
  clear HMk HCv HEr HC hb2 hb3
  cases rb with
  | false =>
    have HT := Lib.hid (HNo.out rfl false rfl (fun h => by cases h))
    rw [HT.out] at HTm
    clear HNo HYes
    go_wp2_with fail
    refine (HTm.out _ (Ext.refl _)).mono ?_
    rintro en w9 ⟨rfl, hx9⟩
    have HX9 := Lib.hid (HX8.out.trans hx9)
    have HC9 := Lib.hid (HC8.out.ext hx9)
    have HS9 := Lib.hid (HS8.out.ext hx9)
    have hsc0 := HS9.out.cell 0
    have hsc1 := HS9.out.cell 1
    simp only [List.getElem?_toArray, List.getElem?_cons_zero, List.getElem?_cons_succ] at hsc0 hsc1
    have HX89 := Lib.hid hx9
    clear hx9 HTm
    go_wp2_with (refine wpList_loadB rfl 28 (.tmp 7) rfl gx 28 _ _ (by exact rfl) (by exact HC9.out) Tryd.underlying28 rfl (by exact size_list) ?_)
    refine (HK3.out _ HX9.out hn).mono ?_
    rintro en w10 ⟨A3, c3, rfl, hs3, -, hx10, -⟩
    have HX10 := Lib.hid (HX9.out.trans hx10)
    have HX810 := Lib.hid (HX89.out.trans hx10)
    have HS3 := Lib.hid hs3
    clear hs3 hx10 hsc0 hsc1
    go_wp2_with fail
    refine (HW1.out _ HX810.out).mono ?_
    rintro en w11 ⟨rfl, hx11⟩
    have HX11 := Lib.hid (HX10.out.trans hx11)
    have HS11 := Lib.hid (Sl.ext (Cells.stays _) HS3.out hx11)
    clear hx11
    go_wp2_with fail
    go_ret
    exact ⟨rfl, HX11.out⟩
  | true =>
    by_cases hrs : rs = s
    · skip
      have HT := Lib.hid (HYes.out rfl rfl hrs)
      have HIn := Lib.hid HT.out.2
      rw [HT.out.1] at HTm
      have he' : (rs.toList == s.toList) = true := by rw [bs_eq]; simpa using hrs
      clear HNo HYes HT hrs
      go_wp2_with fail
      refine (HTm.out _ (Ext.refl _)).mono ?_
      rintro en w9 ⟨rfl, hx9⟩
      have HX9 := Lib.hid (HX8.out.trans hx9)
      have HC9 := Lib.hid (HC8.out.ext hx9)
      have HS9 := Lib.hid (HS8.out.ext hx9)
      have hsc0 := HS9.out.cell 0
      have hsc1 := HS9.out.cell 1
      simp only [List.getElem?_toArray, List.getElem?_cons_zero, List.getElem?_cons_succ] at hsc0 hsc1
      have HX89 := Lib.hid hx9
      clear hx9 HTm
      go_wp2_with (refine wpList_loadB rfl 28 (.tmp 7) rfl gx 28 _ _ (by exact rfl) (by exact HC9.out) Tryd.underlying28 rfl (by exact size_list) ?_)
      refine (HK3.out _ HX9.out hn).mono ?_
      rintro en w10 ⟨A3, c3, rfl, hs3, -, hx10, -⟩
      have HX10 := Lib.hid (HX9.out.trans hx10)
      have HX810 := Lib.hid (HX89.out.trans hx10)
      have HS3 := Lib.hid hs3
      clear hs3 hx10 hsc0 hsc1
      go_wp2_with fail
      refine (HW1.out _ HX810.out).mono ?_
      rintro en w11 ⟨rfl, hx11⟩
      have HX11 := Lib.hid (HX10.out.trans hx11)
      have HS11 := Lib.hid (Sl.ext (Cells.stays _) HS3.out hx11)
      clear hx11
      have HW2 := Lib.hid (HWp.out _ A3 c3 rf HS11.out)
      rw [HIn.out] at HW2
      go_wp2_with fail
      refine HW2.out.mono ?_
      rintro en w12 ⟨rfl, hx12⟩
      have HX12 := Lib.hid (HX11.out.trans hx12)
      clear hx12
      go_wp2_with fail
      go_ret
      exact ⟨rfl, HX12.out⟩
    · skip
      have HT := Lib.hid (HNo.out rfl true rfl (fun _ => hrs))
      rw [HT.out] at HTm
      have he' : (rs.toList == s.toList) = false := by rw [bs_eq]; simpa using hrs
      clear HNo HYes hrs
      go_wp2_with fail
      refine (HTm.out _ (Ext.refl _)).mono ?_
      rintro en w9 ⟨rfl, hx9⟩
      have HX9 := Lib.hid (HX8.out.trans hx9)
      have HC9 := Lib.hid (HC8.out.ext hx9)
      have HS9 := Lib.hid (HS8.out.ext hx9)
      have hsc0 := HS9.out.cell 0
      have hsc1 := HS9.out.cell 1
      simp only [List.getElem?_toArray, List.getElem?_cons_zero, List.getElem?_cons_succ] at hsc0 hsc1
      have HX89 := Lib.hid hx9
      clear hx9 HTm
      go_wp2_with (refine wpList_loadB rfl 28 (.tmp 7) rfl gx 28 _ _ (by exact rfl) (by exact HC9.out) Tryd.underlying28 rfl (by exact size_list) ?_)
      refine (HK3.out _ HX9.out hn).mono ?_
      rintro en w10 ⟨A3, c3, rfl, hs3, -, hx10, -⟩
      have HX10 := Lib.hid (HX9.out.trans hx10)
      have HX810 := Lib.hid (HX89.out.trans hx10)
      have HS3 := Lib.hid hs3
      clear hs3 hx10 hsc0 hsc1
      go_wp2_with fail
      refine (HW1.out _ HX810.out).mono ?_
      rintro en w11 ⟨rfl, hx11⟩
      have HX11 := Lib.hid (HX10.out.trans hx11)
      have HS11 := Lib.hid (Sl.ext (Cells.stays _) HS3.out hx11)
      clear hx11
      go_wp2_with fail
      go_ret
      exact ⟨rfl, HX11.out⟩
end Go.Proofs.YtablhmobekmflaaDoor
