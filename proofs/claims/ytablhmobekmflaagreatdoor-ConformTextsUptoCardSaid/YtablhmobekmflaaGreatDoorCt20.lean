/- Texts laid together. -/
import Derived.Test.YtablhmobekmflaaGreatDoorCt19
import Derived.Test.YtablhmobekmflaaGreatDoorCt16
set_option linter.unusedVariables false
set_option linter.unusedSimpArgs false
namespace Go.Proofs.YtablhmobekmflaaGreatDoor
section
open Go.RowKit
def JoinPostF (e : Edl) (w : World) (en : Ending) (w' : World) : Prop := ∃ A' n' c', en = .returned (.tuple #[.agg ((joinE e).cells A' n' c'), .int .i64 (edlErr e)]) ∧ CutsAt w' A' n' (joinE e).cuts ∧ n' ≤ c' ∧ Ext w w' ∧ ∀ ad, A' = some ad → w.heap.size ≤ ad.block
set_option maxRecDepth 100000 in
set_option maxHeartbeats 8000000 in
theorem JoinF_any (e : Edl) (A : Option Addr) (n c : Nat) (w : World) (hE : Env w) (hl : CutsAt w A n e.cuts) (hn : n ≤ 1000000) (hok : EdlOk e) :
 Calls Tryz.prog 55 #[.agg (e.cells A n c)] w (JoinPostF e w) := by
 have HL := Lib.hid hl
 have HLn := Lib.hid hl.len
 have HX := Lib.hid (((Ext.refl w).alloc (.cells (e.cells A n c) 28)).alloc (.cells edlZero 28))
 have HB0 := Lib.hid ((Blk.new w 28 (e.cells A n c)).alloc (.cells edlZero 28))
 have HB1 := Lib.hid (Blk.new' (w := w.alloc (.cells (e.cells A n c) 28)) (g := w.heap.size + 1) (t := 28) (cs := edlZero) (by simp))
 have HCk := Lib.hid (fun w' (hx : Ext w w') => Check_any e A n c w' (hE.ext hx) (hl.ext hx) hn hok.r0 hok.r1 hok.title hok.fits)
 have HSn := Lib.hid (fun (h : edlErr e = 0) (c : Cut) (hc : c ∈ e.cuts) => edl_sane h hc)
 have HJs := Lib.hid (fun (h : edlErr e = 0) (k : Nat) (hk : k ≤ n) => joinC_sane (l := e.cuts) (fun c hc => edl_sane h hc) k (by rw [hl.len]; exact hk))
 have HJl := Lib.hid (fun (k : Nat) (hk : k ≤ n) => joinC_len e.cuts k (by rw [hl.len]; exact hk))
 have HJe := Lib.hid (@joinE_err e)
 have HJo := Lib.hid (@joinE_ok e)
 clear hl hok hE
 unfold JoinPostF
 unfold Edl.cells edlZero at *
 go_enter Tryz.func55, Tryz.ntmps55
 go_wp2_with (refine wpList_loadB rfl 28 (.tmp 1) rfl w.heap.size 28 _ _ (by exact rfl) (by exact HB0.out) Tryz.underlying28 rfl (by exact size_list) ?_)
 refine (HCk.out _ HX.out).mono ?_
 rintro en w1 ⟨rfl, hx1⟩
 have HX1 := Lib.hid (HX.out.trans hx1)
 have HBl := Lib.hid (HB0.out.ext hx1)
 have HBr := Lib.hid (HB1.out.ext hx1)
 clear hx1 HB0 HB1 HX
 by_cases hee : edlErr e = 0
 case neg =>
  have hne : (edlErr e != 0) = true := by simpa using hee
  have HEr := Lib.hid hee
  clear hee
  go_wp2_with (refine wpList_storeB rfl 28 (.tmp 2) (.tmp 13) rfl (w.heap.size + 1) 28 _ _ (by exact rfl) (by exact rfl) (by exact HBr.out) (by exact rfl) (by exact size_list) (by simp [Value.oneCell']) ?_)
  refine bodyPost_ret (v := .tuple #[.agg #[.string ⟨#[]⟩, .int .u8 0, .bool false, .slice none 0 0], .int .i64 (edlErr e)]) ?_ rfl ⟨none, 0, 0, by rw [HJe.out HEr.out], by rw [HJe.out HEr.out]; exact Sl.nil, Nat.le_refl _, ?_, fun ad h => by cases h⟩
  · exact results_B_tmp (P := Tryz.prog) Tryz.results55 (g := w.heap.size + 1) rfl (by exact HBr.out.put _) Tryz.underlying28 rfl size_list
  · exact HX1.out.put (by omega) _ _
 case pos =>
  rw [hee]
  have HZ := Lib.hid hee
  have HJ := Lib.hid (HJo.out hee)
  clear hee HJe HJo
  have hcell1 := fun o => HBl.out.cell o
  go_wp2_with fail
  clear hcell1
  go_loopw [5, 18] (fun v i wr => JoinRel w1 n e.cuts v i wr) (fun _ i _ => n - (intOf i).toNat)
  case atStart => exact ⟨0, Nat.zero_le _, rfl, Ext.refl _, ⟨rfl, .inl ⟨rfl, rfl⟩⟩⟩
  case round =>
   obtain ⟨k, hk, rfl, hx, hown⟩ := hrel
   have HXr := Lib.hid (HX1.out.trans hx)
   have HBlr := Lib.hid (HBl.out.ext hx)
   have HBrr := Lib.hid (HBr.out.ext hx)
   have hb1 := HBr.out.lt
   have hb2 := hx.size
   have hjl := HJl.out k hk
   have HO := Lib.hid hown
   clear hown
   by_cases hlt : k < n
   · obtain ⟨b, off, r, rfl, hr, c0, c1, c2, c3, c4, c5, c6⟩ := (HL.out.ext HXr.out).at7 hlt
     have HT := Lib.hid (show joinC (e.cuts.take (k + 1)) = joinStep (joinC (e.cuts.take k)) r by rw [take_snoc' e.cuts k r hr, joinC_snoc])
     have hsr := HSn.out HZ.out r (List.mem_of_getElem? hr)
     have HSr := Lib.hid hsr
     have HSj := Lib.hid (HJs.out HZ.out k hk)
     clear hr hsr
     generalize joinC (e.cuts.take k) = os at *
     obtain ⟨num, rl, src, inn, out, nn, dd⟩ := r
     have HBc := Lib.hid (Blk.new wr 91 (Cut.cells ⟨num, rl, src, inn, out, nn, dd⟩))
     have HXc := Lib.hid ((Ext.refl wr).alloc (.cells (Cut.cells ⟨num, rl, src, inn, out, nn, dd⟩) 91))
     unfold Cut.cells at HBc HXc
     dsimp only at *
     rcases Classical.em (os = []) with hos | hos
     · subst hos
       obtain ⟨A', cap', rfl, hcap, hcm, _, _⟩ := own_sl (f := Cut.vals) (size := 7) (l := []) (fun _ => rfl) rfl HO.out
       have HT2 := Lib.hid (HT.out.trans (joinStep_nil _))
       simp only [List.length_nil] at *
       go_wp2_with fail
       go_quiet (fail)
       go_upto_region 11 with fail
       refine wp_drewN ?_
       intro w3 hx3 hs3
       clear hs3
       have HXw3 := Lib.hid (HXc.out.trans hx3)
       have HO3 := Lib.hid (own_ext HO.out HXw3.out)
       have HBc3 := Lib.hid (HBc.out.ext hx3)
       have hb3 := HXw3.out.size
       clear hx3
       go_wp2_with (first | (refine wpList_loadB rfl 91 (.tmp 7) rfl wr.heap.size 91 _ _ (by exact rfl) (by exact HBc3.out) Tryz.underlying91 rfl (by exact size_cut) ?_) | (at_builtin; refine wpList_append1 rfl (.tmp 43) (.tmp 45) 23 rfl info_cut Tryz.underlying23 rfl (by decide) (HO3.out.alloc _) (by exact rfl) w3.heap.size _ (by exact rfl) (by exact Blk.new' rfl) (by exact rfl) (by simp [Value.oneCell']) (by omega) (by simp [maxLen] <;> omega) (by simp <;> omega) ?_; intro v5 w5 hown5 hgr5; have HO5 := Lib.hid hown5; have HX5 := Lib.hid (Ext.grown ((hx.trans HXw3.out).alloc _) hgr5 (fun q hq => own_lt HO3.out q hq)); clear hown5 hgr5))
       exact ⟨⟨k + 1, by omega, by go_num, HX5.out, by rw [HT2.out]; exact HO5.out⟩, by simp [intOf]; omega⟩
     · obtain ⟨ps, p, rfl⟩ := snoc_of hos
       clear hos
       have hlen : (ps ++ [p]).length = ps.length + 1 := by simp
       rw [hlen] at HO hjl
       clear hlen
       obtain ⟨g, cap, rfl, hg1, hg2, hCp⟩ := own_cell HO.out
       have HCp := Lib.hid hCp
       have hsp := HSj.out p (by simp)
       have HGo := Lib.hid (fun w' => goesOn_any p ⟨num, rl, src, inn, out, nn, dd⟩ w' hsp HSr.out)
       have HUp : Hid ((p.upto ⟨num, rl, src, inn, out, nn, dd⟩) = { p with out := out }) := rfl
       clear hCp hsp
       cases hgo : goes45 p ⟨num, rl, src, inn, out, nn, dd⟩
       · have HT2 := Lib.hid (HT.out.trans (joinStep_no hgo))
         rw [hgo] at HGo
         clear hgo
         unfold Cut.cells at HGo
         dsimp only at HGo
         go_wp2_with fail
         refine wp_region_vals [.int .i64 (ps.length : Int), .bool true, .bool true, .slice (some ⟨g, 0, none⟩) (ps.length + 1) cap, .int .i64 (ps.length : Int), .pointer (some ⟨g, 0 + ps.length * 7, none⟩), .agg #[.int .i64 p.num, .string p.reel, .int .i64 p.src, .int .i64 p.inn, .int .i64 p.out, .int .i64 p.n, .int .i64 p.d], .agg #[.int .i64 num, .string rl, .int .i64 src, .int .i64 inn, .int .i64 out, .int .i64 nn, .int .i64 dd], .bool false, .bool false] [(25, .int .i64 (ps.length : Int)), (26, .bool true), (27, .bool true), (28, .slice (some ⟨g, 0, none⟩) (ps.length + 1) cap), (29, .int .i64 (ps.length : Int)), (30, .pointer (some ⟨g, 0 + ps.length * 7, none⟩)), (31, .agg #[.int .i64 p.num, .string p.reel, .int .i64 p.src, .int .i64 p.inn, .int .i64 p.out, .int .i64 p.n, .int .i64 p.d]), (32, .agg #[.int .i64 num, .string rl, .int .i64 src, .int .i64 inn, .int .i64 out, .int .i64 nn, .int .i64 dd]), (33, .bool false), (34, .bool false)] (by kernel_rfl) (by kernel_rfl) (by kernel_rfl) rfl rfl ?_ ?_
         · intro i o ho a w' K' hx hn hd hk
           match i, ho with
           | 0, ho =>
            simp only [List.getElem?_toArray, List.getElem?_cons_zero, List.getElem?_cons_succ, Option.some.injEq] at ho
            subst ho
            refine want_none rfl ?_
            exact wp_move _ _ rfl ((hn 8 rfl).trans (show _ = .int .i64 (ps.length : Int) from rfl)) (hk _ rfl w' (Ext.refl _))
           | 1, ho =>
            simp only [List.getElem?_toArray, List.getElem?_cons_zero, List.getElem?_cons_succ, Option.some.injEq] at ho
            subst ho
            refine want_none rfl ?_
            exact wp_bin rfl (eval_of (hd 0 25 (.int .i64 (ps.length : Int)) rfl rfl rfl)) rfl (by first | (go_simp; done) | (go_simp; exact wrap_i64 (by omega) (by omega)) | (go_simp; omega)) (hk _ rfl w' (Ext.refl _))
           | 2, ho =>
            simp only [List.getElem?_toArray, List.getElem?_cons_zero, List.getElem?_cons_succ, Option.some.injEq] at ho
            subst ho
            refine want_none rfl ?_
            exact wp_move _ _ rfl (eval_of (hd 1 26 (.bool true) rfl rfl rfl)) (hk _ rfl w' (Ext.refl _))
           | 3, ho =>
            simp only [List.getElem?_toArray, List.getElem?_cons_zero, List.getElem?_cons_succ, Option.some.injEq] at ho
            subst ho
            refine want_yes rfl rfl (hd 2 27 (.bool true) rfl rfl rfl) rfl ?_
            exact wp_move _ _ rfl ((hn 5 rfl).trans (show _ = .slice (some ⟨g, 0, none⟩) (ps.length + 1) cap from rfl)) (hk _ rfl w' (Ext.refl _))
           | 4, ho =>
            simp only [List.getElem?_toArray, List.getElem?_cons_zero, List.getElem?_cons_succ, Option.some.injEq] at ho
            subst ho
            refine want_yes rfl rfl (hd 2 27 (.bool true) rfl rfl rfl) rfl ?_
            exact wp_move _ _ rfl ((hn 8 rfl).trans (show _ = .int .i64 (ps.length : Int) from rfl)) (hk _ rfl w' (Ext.refl _))
           | 5, ho =>
            simp only [List.getElem?_toArray, List.getElem?_cons_zero, List.getElem?_cons_succ, Option.some.injEq] at ho
            subst ho
            refine want_yes rfl rfl (hd 2 27 (.bool true) rfl rfl rfl) rfl ?_
            exact wp_ix_cut rfl (eval_of (hd 3 28 (.slice (some ⟨g, 0, none⟩) (ps.length + 1) cap) rfl rfl rfl)) (eval_of (hd 4 29 (.int .i64 (ps.length : Int)) rfl rfl rfl)) (by omega) (hk _ rfl w' (Ext.refl _))
           | 6, ho =>
            simp only [List.getElem?_toArray, List.getElem?_cons_zero, List.getElem?_cons_succ, Option.some.injEq] at ho
            subst ho
            refine want_yes rfl rfl (hd 2 27 (.bool true) rfl rfl rfl) rfl ?_
            exact wp_load_cut rfl g _ p (eval_of (hd 5 30 (.pointer (some ⟨g, 0 + ps.length * 7, none⟩)) rfl rfl rfl)) (by rw [Nat.zero_add]; exact Cells.stays _ _ _ _ _ _ hx (Cells.stays _ _ _ _ _ _ HXc.out HCp.out)) (hk _ rfl w' (Ext.refl _))
           | 7, ho =>
            simp only [List.getElem?_toArray, List.getElem?_cons_zero, List.getElem?_cons_succ, Option.some.injEq] at ho
            subst ho
            refine want_yes rfl rfl (hd 2 27 (.bool true) rfl rfl rfl) rfl ?_
            exact wp_loadB 91 (.tmp 7) rfl _ 91 _ _ ((hn 7 rfl).trans (show _ = Value.pointer (some ⟨wr.heap.size, 0, none⟩) from rfl)) (HBc.out.ext hx) Tryz.underlying91 rfl (by exact size_cut) (hk _ rfl w' (Ext.refl _))
           | 8, ho =>
            simp only [List.getElem?_toArray, List.getElem?_cons_zero, List.getElem?_cons_succ, Option.some.injEq] at ho
            subst ho
            refine want_yes rfl rfl (hd 2 27 (.bool true) rfl rfl rfl) rfl ?_
            exact wp_call2 rfl (eval_of (hd 6 31 (.agg #[.int .i64 p.num, .string p.reel, .int .i64 p.src, .int .i64 p.inn, .int .i64 p.out, .int .i64 p.n, .int .i64 p.d]) rfl rfl rfl)) (eval_of (hd 7 32 (.agg #[.int .i64 num, .string rl, .int .i64 src, .int .i64 inn, .int .i64 out, .int .i64 nn, .int .i64 dd]) rfl rfl rfl)) Tryz.call115 (HGo.out _) (hk _ rfl)
           | 9, ho =>
            simp only [List.getElem?_toArray, List.getElem?_cons_zero, List.getElem?_cons_succ, Option.some.injEq] at ho
            subst ho
            refine want_none rfl ?_
            exact wp_pick _ _ _ true _ rfl (eval_of (hd 2 27 (.bool true) rfl rfl rfl)) (by exact (eval_of (hd 8 33 (.bool false) rfl rfl rfl))) (hk _ rfl w' (Ext.refl _))
           | i + 10, ho => simp at ho
         intro w3 hx3
         simp only [Act.put, List.foldl_cons, List.foldl_nil, List.setIfInBounds_toArray, List.set_cons_zero, List.set_cons_succ]
         have HXw3 := Lib.hid (HXc.out.trans hx3)
         have HO3 := Lib.hid (own_ext HO.out HXw3.out)
         have HBc3 := Lib.hid (HBc.out.ext hx3)
         have hb3 := HXw3.out.size
         clear hx3
         go_wp2_with (first | (refine wpList_loadB rfl 91 (.tmp 7) rfl wr.heap.size 91 _ _ (by exact rfl) (by exact HBc3.out) Tryz.underlying91 rfl (by exact size_cut) ?_) | (at_builtin; refine wpList_append1 rfl (.tmp 43) (.tmp 45) 23 rfl info_cut Tryz.underlying23 rfl (by decide) (HO3.out.alloc _) (by exact rfl) w3.heap.size _ (by exact rfl) (by exact Blk.new' rfl) (by exact rfl) (by simp [Value.oneCell']) (by omega) (by simp [maxLen] <;> omega) (by simp <;> omega) ?_; intro v5 w5 hown5 hgr5; have HO5 := Lib.hid hown5; have HX5 := Lib.hid (Ext.grown ((hx.trans HXw3.out).alloc _) hgr5 (fun q hq => own_lt HO3.out q hq)); clear hown5 hgr5))
         exact ⟨⟨k + 1, by omega, by go_num, HX5.out, by rw [HT2.out]; rw [show (ps ++ [p] ++ [(⟨num, rl, src, inn, out, nn, dd⟩ : Cut)]).length = ps.length + 1 + 1 by simp, List.flatMap_append]; exact HO5.out⟩, by simp [intOf]; omega⟩
       · have HT2 := Lib.hid (HT.out.trans (joinStep_go hgo))
         rw [hgo] at HGo
         clear hgo
         unfold Cut.cells at HGo
         dsimp only at HGo
         go_wp2_with fail
         refine wp_region_vals [.int .i64 (ps.length : Int), .bool true, .bool true, .slice (some ⟨g, 0, none⟩) (ps.length + 1) cap, .int .i64 (ps.length : Int), .pointer (some ⟨g, 0 + ps.length * 7, none⟩), .agg #[.int .i64 p.num, .string p.reel, .int .i64 p.src, .int .i64 p.inn, .int .i64 p.out, .int .i64 p.n, .int .i64 p.d], .agg #[.int .i64 num, .string rl, .int .i64 src, .int .i64 inn, .int .i64 out, .int .i64 nn, .int .i64 dd], .bool true, .bool true] [(25, .int .i64 (ps.length : Int)), (26, .bool true), (27, .bool true), (28, .slice (some ⟨g, 0, none⟩) (ps.length + 1) cap), (29, .int .i64 (ps.length : Int)), (30, .pointer (some ⟨g, 0 + ps.length * 7, none⟩)), (31, .agg #[.int .i64 p.num, .string p.reel, .int .i64 p.src, .int .i64 p.inn, .int .i64 p.out, .int .i64 p.n, .int .i64 p.d]), (32, .agg #[.int .i64 num, .string rl, .int .i64 src, .int .i64 inn, .int .i64 out, .int .i64 nn, .int .i64 dd]), (33, .bool true), (34, .bool true)] (by kernel_rfl) (by kernel_rfl) (by kernel_rfl) rfl rfl ?_ ?_
         · intro i o ho a w' K' hx hn hd hk
           match i, ho with
           | 0, ho =>
            simp only [List.getElem?_toArray, List.getElem?_cons_zero, List.getElem?_cons_succ, Option.some.injEq] at ho
            subst ho
            refine want_none rfl ?_
            exact wp_move _ _ rfl ((hn 8 rfl).trans (show _ = .int .i64 (ps.length : Int) from rfl)) (hk _ rfl w' (Ext.refl _))
           | 1, ho =>
            simp only [List.getElem?_toArray, List.getElem?_cons_zero, List.getElem?_cons_succ, Option.some.injEq] at ho
            subst ho
            refine want_none rfl ?_
            exact wp_bin rfl (eval_of (hd 0 25 (.int .i64 (ps.length : Int)) rfl rfl rfl)) rfl (by first | (go_simp; done) | (go_simp; exact wrap_i64 (by omega) (by omega)) | (go_simp; omega)) (hk _ rfl w' (Ext.refl _))
           | 2, ho =>
            simp only [List.getElem?_toArray, List.getElem?_cons_zero, List.getElem?_cons_succ, Option.some.injEq] at ho
            subst ho
            refine want_none rfl ?_
            exact wp_move _ _ rfl (eval_of (hd 1 26 (.bool true) rfl rfl rfl)) (hk _ rfl w' (Ext.refl _))
           | 3, ho =>
            simp only [List.getElem?_toArray, List.getElem?_cons_zero, List.getElem?_cons_succ, Option.some.injEq] at ho
            subst ho
            refine want_yes rfl rfl (hd 2 27 (.bool true) rfl rfl rfl) rfl ?_
            exact wp_move _ _ rfl ((hn 5 rfl).trans (show _ = .slice (some ⟨g, 0, none⟩) (ps.length + 1) cap from rfl)) (hk _ rfl w' (Ext.refl _))
           | 4, ho =>
            simp only [List.getElem?_toArray, List.getElem?_cons_zero, List.getElem?_cons_succ, Option.some.injEq] at ho
            subst ho
            refine want_yes rfl rfl (hd 2 27 (.bool true) rfl rfl rfl) rfl ?_
            exact wp_move _ _ rfl ((hn 8 rfl).trans (show _ = .int .i64 (ps.length : Int) from rfl)) (hk _ rfl w' (Ext.refl _))
           | 5, ho =>
            simp only [List.getElem?_toArray, List.getElem?_cons_zero, List.getElem?_cons_succ, Option.some.injEq] at ho
            subst ho
            refine want_yes rfl rfl (hd 2 27 (.bool true) rfl rfl rfl) rfl ?_
            exact wp_ix_cut rfl (eval_of (hd 3 28 (.slice (some ⟨g, 0, none⟩) (ps.length + 1) cap) rfl rfl rfl)) (eval_of (hd 4 29 (.int .i64 (ps.length : Int)) rfl rfl rfl)) (by omega) (hk _ rfl w' (Ext.refl _))
           | 6, ho =>
            simp only [List.getElem?_toArray, List.getElem?_cons_zero, List.getElem?_cons_succ, Option.some.injEq] at ho
            subst ho
            refine want_yes rfl rfl (hd 2 27 (.bool true) rfl rfl rfl) rfl ?_
            exact wp_load_cut rfl g _ p (eval_of (hd 5 30 (.pointer (some ⟨g, 0 + ps.length * 7, none⟩)) rfl rfl rfl)) (by rw [Nat.zero_add]; exact Cells.stays _ _ _ _ _ _ hx (Cells.stays _ _ _ _ _ _ HXc.out HCp.out)) (hk _ rfl w' (Ext.refl _))
           | 7, ho =>
            simp only [List.getElem?_toArray, List.getElem?_cons_zero, List.getElem?_cons_succ, Option.some.injEq] at ho
            subst ho
            refine want_yes rfl rfl (hd 2 27 (.bool true) rfl rfl rfl) rfl ?_
            exact wp_loadB 91 (.tmp 7) rfl _ 91 _ _ ((hn 7 rfl).trans (show _ = Value.pointer (some ⟨wr.heap.size, 0, none⟩) from rfl)) (HBc.out.ext hx) Tryz.underlying91 rfl (by exact size_cut) (hk _ rfl w' (Ext.refl _))
           | 8, ho =>
            simp only [List.getElem?_toArray, List.getElem?_cons_zero, List.getElem?_cons_succ, Option.some.injEq] at ho
            subst ho
            refine want_yes rfl rfl (hd 2 27 (.bool true) rfl rfl rfl) rfl ?_
            exact wp_call2 rfl (eval_of (hd 6 31 (.agg #[.int .i64 p.num, .string p.reel, .int .i64 p.src, .int .i64 p.inn, .int .i64 p.out, .int .i64 p.n, .int .i64 p.d]) rfl rfl rfl)) (eval_of (hd 7 32 (.agg #[.int .i64 num, .string rl, .int .i64 src, .int .i64 inn, .int .i64 out, .int .i64 nn, .int .i64 dd]) rfl rfl rfl)) Tryz.call115 (HGo.out _) (hk _ rfl)
           | 9, ho =>
            simp only [List.getElem?_toArray, List.getElem?_cons_zero, List.getElem?_cons_succ, Option.some.injEq] at ho
            subst ho
            refine want_none rfl ?_
            exact wp_pick _ _ _ true _ rfl (eval_of (hd 2 27 (.bool true) rfl rfl rfl)) (by exact (eval_of (hd 8 33 (.bool true) rfl rfl rfl))) (hk _ rfl w' (Ext.refl _))
           | i + 10, ho => simp at ho
         intro w3 hx3
         simp only [Act.put, List.foldl_cons, List.foldl_nil, List.setIfInBounds_toArray, List.set_cons_zero, List.set_cons_succ]
         have HXw3 := Lib.hid (HXc.out.trans hx3)
         have HO3 := Lib.hid (own_ext HO.out HXw3.out)
         have HBc3 := Lib.hid (HBc.out.ext hx3)
         have hcc3 := fun o => HBc3.out.cell o
         have hcg := hx3.cell (HXc.out.cell (HCp.out 4 _ rfl))
         have hfg := World.ownsRow.frozenAt HO3.out (ps.length * 7 + 4)
         obtain ⟨hst, hgr⟩ := World.ownsRow.stored HO3.out (ps.length * 7 + 4) (.int .i64 out)
         have HO5 := Lib.hid hst
         have HX5 := Lib.hid (Ext.grown (hx.trans HXw3.out) hgr (fun q hq => by cases hq; exact hg1))
         have HSO := Lib.hid (set_out (ps := ps) (p := p) (c := ⟨num, rl, src, inn, out, nn, dd⟩))
         clear hst hgr hx3
         go_wp2_with fail
         exact ⟨⟨k + 1, by omega, by go_num, HX5.out, by rw [HT2.out, show (ps ++ [p.upto ⟨num, rl, src, inn, out, nn, dd⟩]).length = ps.length + 1 by simp, ← HSO.out]; exact HO5.out⟩, by simp [intOf]; omega⟩
   · have hkn : k = n := by omega
     subst hkn
     have HTk := Lib.hid (show e.cuts.take k = e.cuts from List.take_of_length_le (by have := HLn.out; omega))
     obtain ⟨A', cap', rfl, hcap, hcm, hS, hfr⟩ := own_sl (f := Cut.vals) (size := 7) (fun _ => rfl) rfl HO.out
     have HS := Lib.hid hS
     have hcl := fun o => HBlr.out.cell o
     have hfl := fun o => HBlr.out.frozen o
     have hset := setCell_put HBlr.out 3 (.slice A' (joinC (e.cuts.take k)).length cap')
     have HB6 := Lib.hid (HBlr.out.put (#[.string e.title, .int .u8 e.rate, .bool e.drop, .slice A k c].setIfInBounds 3 (.slice A' (joinC (e.cuts.take k)).length cap')))
     have HB7 := Lib.hid (HBrr.out.put_other (g' := w.heap.size) (t' := 28) (by omega) (#[.string e.title, .int .u8 e.rate, .bool e.drop, .slice A k c].setIfInBounds 3 (.slice A' (joinC (e.cuts.take k)).length cap')))
     have HX6 := Lib.hid (HXr.out.put (g := w.heap.size) (Nat.le_refl _) 28 (#[.string e.title, .int .u8 e.rate, .bool e.drop, .slice A k c].setIfInBounds 3 (.slice A' (joinC (e.cuts.take k)).length cap')))
     have HO6 : Hid (∀ ad, A' = some ad → w1.heap.size ≤ ad.block) := hfr
     clear hS hfr
     have HB8 := Lib.hid (show Blk (wr.setCell ⟨w.heap.size, 3, none⟩ (.slice A' (joinC (e.cuts.take k)).length cap')) w.heap.size 28 #[.string e.title, .int .u8 e.rate, .bool e.drop, .slice A' (joinC (e.cuts.take k)).length cap'] by rw [hset]; exact HB6.out)
     have HB9 := Lib.hid (show Blk (wr.setCell ⟨w.heap.size, 3, none⟩ (.slice A' (joinC (e.cuts.take k)).length cap')) (w.heap.size + 1) 28 #[.string ⟨#[]⟩, .int .u8 0, .bool false, .slice none 0 0] by rw [hset]; exact HB7.out)
     have HX8 := Lib.hid (show Ext w (wr.setCell ⟨w.heap.size, 3, none⟩ (.slice A' (joinC (e.cuts.take k)).length cap')) by rw [hset]; exact HX6.out)
     have HX9 := Lib.hid (show Ext w1 wr from hx)
     have HC8 : Hid (∀ p : Addr, p.block ≠ w.heap.size → (wr.setCell ⟨w.heap.size, 3, none⟩ (.slice A' (joinC (e.cuts.take k)).length cap')).cell? p = wr.cell? p) := fun p hp => by rw [hset]; exact putB_cell_other hp
     clear hset HB6 HB7 HX6
     go_wp2_with (first | (refine wpList_loadB rfl 28 (.tmp 1) rfl w.heap.size 28 _ _ (by exact rfl) (by exact HB8.out) Tryz.underlying28 rfl (by exact size_list) ?_) | (refine wpList_storeB rfl 28 (.tmp 2) (.tmp 50) rfl (w.heap.size + 1) 28 _ _ (by exact rfl) (by exact rfl) (by exact HB9.out) (by exact rfl) (by exact size_list) (by simp [Value.oneCell']) ?_))
     have hjc : joinC (e.cuts.take k) = joinC e.cuts := by rw [HTk.out]
     refine bodyPost_ret (v := .tuple #[.agg #[.string e.title, .int .u8 e.rate, .bool e.drop, .slice A' (joinC (e.cuts.take k)).length cap'], .int .i64 0]) ?_ rfl ⟨A', (joinC (e.cuts.take k)).length, cap', by rw [HJ.out, HZ.out], ?_, hcap, ?_, ?_⟩
     · exact results_B_tmp (P := Tryz.prog) Tryz.results55 (g := w.heap.size + 1) rfl (by exact HB9.out.put _) Tryz.underlying28 rfl size_list
     · rw [HJ.out]
       show CutsAt _ A' (joinC (e.cuts.take k)).length (joinC e.cuts)
       rw [← hjc]
       refine CutsAt.same HS.out fun ad had o => ?_
       have hge := HO6.out ad had
       rw [putB_cell_other (by show ad.block ≠ _; omega)]
       exact HC8.out _ (by show ad.block ≠ _; omega)
     · exact HX8.out.put (by omega) _ _
     · exact fun ad had => Nat.le_trans HX1.out.size (HO6.out ad had)
end
section
open Go.RowKit
set_option maxRecDepth 100000 in
theorem field_evs (t l : ByteArray) (r la : Int) (d : Bool) (v5 v7 : Value) (A : Option Addr) (n c : Nat) (w : World) : (Instr.field 52 (.agg #[.string t, .string l, .int .u8 r, .bool d, .int .i64 la, v5, .slice A n c, v7]) 6).run Tryz.prog w = .ok (.slice A n c) w := by
 kernel_rfl
end
end Go.Proofs.YtablhmobekmflaaGreatDoor