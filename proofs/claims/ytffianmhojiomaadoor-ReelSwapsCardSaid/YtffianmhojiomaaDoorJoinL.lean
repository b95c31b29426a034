/- The walks of reel.Join and of the reference's Join. -/
import Derived.Test.YtffianmhojiomaaDoorJoinP
import Derived.Laws.OwnMore
namespace Go.Proofs.YtffianmhojiomaaDoor
set_option linter.unusedVariables false
set_option linter.unusedSimpArgs false
open Go.RowKit

theorem info_cut : (Tryd.prog.info? 67).map (fun i => (i.zero, i.size, i.bytes)) = some (some (.agg #[.int .i64 0, .string ⟨#[]⟩, .int .i64 0, .int .i64 0, .int .i64 0, .int .i64 0, .int .i64 0]), 7, 64) := by kernel_rfl
def JoinPost (e : Edl) (w : World) (en : Ending) (w' : World) : Prop := ∃ A' n' c', en = .returned (.tuple #[.agg ((joinE e).cells A' n' c'), .int .i64 (edlErr e)]) ∧ CutsAt w' A' n' (joinE e).cuts ∧ n' ≤ c' ∧ Ext w w'
def JoinRel (w1 : World) (n : Nat) (l : List Cut) (v i : Value) (wr : World) : Prop :=
  ∃ k : Nat, k ≤ n ∧ i = .int .i64 k ∧ Ext w1 wr ∧ wr.ownsRow w1.heap.size 67 7 v (joinC (l.take k)).length ((joinC (l.take k)).flatMap Cut.vals)
section
variable {o : Oper} {a : Act} {w : World} {K : Act → World → Prop} {Q : Exit → Act → World → Prop}
theorem wp_load_cut {s : Nat} (ho : o.op = .load 67 (.tmp s)) (g off : Nat) (c : Cut) (hx : a.eval (.tmp s) = .pointer (some ⟨g, off, none⟩)) (hC : Cells Cut.vals w g off c) (h : K (a.put o.dst (.agg c.cells)) w) : o.wp Tryd.prog a w K Q := by
  obtain ⟨dst, op, ty, pos, after, guard⟩ := o
  simp only at ho
  subst ho
  have fx : a.tmps[s]?.getD undef = .pointer (some ⟨g, off, none⟩) := by simpa [Act.eval] using hx
  have c0 : w.cell? ⟨g, off, none⟩ = some (.int .i64 c.num) := by simpa using hC 0 _ rfl
  have c1 := hC 1 _ rfl
  have c2 := hC 2 _ rfl
  have c3 := hC 3 _ rfl
  have c4 := hC 4 _ rfl
  have c5 := hC 5 _ rfl
  have c6 := hC 6 _ rfl
  unfold Cut.cells at h
  clear hC hx
  go_simp
  exact h
theorem wp_ix_cut {s s' : Nat} {b off n c k : Nat} (ho : o.op = .indexAddr 23 (.tmp s) (.tmp s')) (hx : a.eval (.tmp s) = .slice (some ⟨b, off, none⟩) n c) (hy : a.eval (.tmp s') = .int .i64 k) (hk : k < n) (h : K (a.put o.dst (.pointer (some ⟨b, off + k * 7, none⟩))) w) : o.wp Tryd.prog a w K Q := by
  obtain ⟨dst, op, ty, pos, after, guard⟩ := o
  simp only at ho
  subst ho
  have fx : a.tmps[s]?.getD undef = .slice (some ⟨b, off, none⟩) n c := by simpa [Act.eval] using hx
  have fy : a.tmps[s']?.getD undef = .int .i64 k := by simpa [Act.eval] using hy
  clear hx hy
  go_simp
  exact h
end
theorem CutsAt.same {w w' : World} {A : Option Addr} {n : Nat} {l : List Cut} (h : CutsAt w A n l) (hA : ∀ ad, A = some ad → ∀ o, w'.cell? ⟨ad.block, o, none⟩ = w.cell? ⟨ad.block, o, none⟩) : CutsAt w' A n l :=
  ⟨h.1, fun hn => (h.2 hn).elim fun b hb => hb.elim fun off ho => ⟨b, off, ho.1, fun i x hx j u hu => (hA _ ho.1 _).trans (ho.2 i x hx j u hu)⟩⟩
theorem own_cell {w : World} {base : Nat} {v : Value} {ps : List Cut} {p : Cut} (h : w.ownsRow base 67 7 v (ps.length + 1) ((ps ++ [p]).flatMap Cut.vals)) : ∃ g cap, v = .slice (some ⟨g, 0, none⟩) (ps.length + 1) cap ∧ base ≤ g ∧ g < w.heap.size ∧ Cells Cut.vals w g (ps.length * 7) p := by
  obtain ⟨g, cap, rfl, h1, h2⟩ := own_form h (by omega)
  obtain ⟨A', c', he, _, _, hS, _⟩ := own_sl (f := Cut.vals) (size := 7) (fun _ => rfl) (l := ps ++ [p]) (by simp) h
  injection he with e1 e2 e3
  subst e1
  obtain ⟨b, off, x, hA, hx, hC⟩ := hS.at_ (i := ps.length) (by omega)
  injection hA with hA
  injection hA with e4 e5
  subst e4 e5
  have : x = p := by simpa using hx.symm
  subst this
  exact ⟨g, cap, rfl, h1, h2, by simpa using hC⟩
theorem set_out {ps : List Cut} {p c : Cut} : ((ps ++ [p]).flatMap Cut.vals).set (ps.length * 7 + 4) (.int .i64 c.out) = (ps ++ [p.upto c]).flatMap Cut.vals := by
  have hl : (ps.flatMap Cut.vals).length = ps.length * 7 := flatMap_len Cut.vals 7 (fun _ => rfl) ps
  rw [List.flatMap_append, List.flatMap_append, List.set_append_right _ _ (by omega), hl]
  congr 1
  rw [show ps.length * 7 + 4 - ps.length * 7 = 4 by omega]
  rfl

set_option maxRecDepth 100000 in
set_option maxHeartbeats 8000000 in
theorem Join_any (e : Edl) (A : Option Addr) (n c : Nat) (w : World) (hE : Env w) (hl : CutsAt w A n e.cuts) (hn : n ≤ 1000000) (hok : EdlOk e) :
    Calls Tryd.prog 20 #[.agg (e.cells A n c)] w (JoinPost e w) := by
  have HL := Lib.hid hl
  have HLn := Lib.hid hl.len
  have HX := Lib.hid (((Ext.refl w).alloc (.cells (e.cells A n c) 32)).alloc (.cells edlZero 32))
  have HB0 := Lib.hid ((Blk.new w 32 (e.cells A n c)).alloc (.cells edlZero 32))
  have HB1 := Lib.hid (Blk.new' (w := w.alloc (.cells (e.cells A n c) 32)) (g := w.heap.size + 1) (t := 32) (cs := edlZero) (by simp))
  have HCk := Lib.hid (fun w' (hx : Ext w w') => Check_any e A n c w' (hE.ext hx) (hl.ext hx) hn hok.r0 hok.r1 hok.title hok.fits)
  have HSn := Lib.hid (fun (h : edlErr e = 0) (c : Cut) (hc : c ∈ e.cuts) => edl_sane h hc)
  have HJs := Lib.hid (fun (h : edlErr e = 0) (k : Nat) (hk : k ≤ n) => joinC_sane (l := e.cuts) (fun c hc => edl_sane h hc) k (by rw [hl.len]; exact hk))
  have HJl := Lib.hid (fun (k : Nat) (hk : k ≤ n) => joinC_len e.cuts k (by rw [hl.len]; exact hk))
  have HJe := Lib.hid (@joinE_err e)
  have HJo := Lib.hid (@joinE_ok e)
  clear hl hok hE
  unfold JoinPost
  unfold Edl.cells edlZero at *
  go_enter Tryd.func20, Tryd.ntmps20
  go_wp2_with (refine wpList_loadB rfl 32 (.tmp 1) rfl w.heap.size 32 _ _ (by exact rfl) (by exact HB0.out) Tryd.underlying32 rfl (by exact size_list) ?_)
  refine (HCk.out _ HX.out).mono ?_
  rintro en w1 ⟨rfl, hx1⟩
  have HX1 := Lib.hid (HX.out.trans hx1)
  have HBl := Lib.hid (HB0.out.ext hx1)
  have HBr := Lib.hid (HB1.out.ext hx1)
  clear hx1 HB0 HB1 HX
  by_cases hee : edlErr e = 0
  case neg =>
    have hne : (edlErr e != 0) = true := by simpa using hee
    have HEr := Lib.hid hee
    clear hee
    go_wp2_with (refine wpList_storeB rfl 32 (.tmp 2) (.tmp 13) rfl (w.heap.size + 1) 32 _ _ (by exact rfl) (by exact rfl) (by exact HBr.out) (by exact rfl) (by exact size_list) (by simp [Value.oneCell']) ?_)
    refine bodyPost_ret (v := .tuple #[.agg #[.string ⟨#[]⟩, .int .u8 0, .bool false, .slice none 0 0], .int .i64 (edlErr e)]) ?_ rfl ⟨none, 0, 0, by rw [HJe.out HEr.out], by rw [HJe.out HEr.out]; exact Sl.nil, Nat.le_refl _, ?_⟩
    · exact results_B_tmp (P := Tryd.prog) Tryd.results20 (g := w.heap.size + 1) rfl (by exact HBr.out.put _) Tryd.underlying32 rfl size_list
    · exact HX1.out.put (by omega) _ _
  case pos =>
    rw [hee]
    have HZ := Lib.hid hee
    have HJ := Lib.hid (HJo.out hee)
    clear hee HJe HJo
    have hcell1 := fun o => HBl.out.cell o
    go_wp2_with fail
    clear hcell1
    go_loopw [5, 18] (fun v i wr => JoinRel w1 n e.cuts v i wr) (fun _ i _ => n - (intOf i).toNat)
    case atStart => exact ⟨0, Nat.zero_le _, rfl, Ext.refl _, ⟨rfl, .inl ⟨rfl, rfl⟩⟩⟩
    case round =>
      obtain ⟨k, hk, rfl, hx, hown⟩ := hrel
      have HXr := Lib.hid (HX1.out.trans hx)
      have HBlr := Lib.hid (HBl.out.ext hx)
      have HBrr := Lib.hid (HBr.out.ext hx)
      have hb1 := HBr.out.lt
      have hb2 := hx.size
      have hjl := HJl.out k hk
      have HO := Lib.hid hown
      clear hown
      by_cases hlt : k < n
      · obtain ⟨b, off, r, rfl, hr, c0, c1, c2, c3, c4, c5, c6⟩ := (HL.out.ext HXr.out).at7 hlt
        have HT := Lib.hid (show joinC (e.cuts.take (k + 1)) = joinStep (joinC (e.cuts.take k)) r by rw [take_snoc' e.cuts k r hr, joinC_snoc])
        have hsr := HSn.out HZ.out r (List.mem_of_getElem? hr)
        have HSr := Lib.hid hsr
        have HSj := Lib.hid (HJs.out HZ.out k hk)
        clear hr hsr
        generalize joinC (e.cuts.take k) = os at *
        obtain ⟨num, rl, src, inn, out, nn, dd⟩ := r
        have HBc := Lib.hid (Blk.new wr 67 (Cut.cells ⟨num, rl, src, inn, out, nn, dd⟩))
        have HXc := Lib.hid ((Ext.refl wr).alloc (.cells (Cut.cells ⟨num, rl, src, inn, out, nn, dd⟩) 67))
        unfold Cut.cells at HBc HXc
        dsimp only at *
        rcases Classical.em (os = []) with hos | hos
        · subst hos
          obtain ⟨A', cap', rfl, hcap, hcm, _, _⟩ := own_sl (f := Cut.vals) (size := 7) (l := []) (fun _ => rfl) rfl HO.out
          have HT2 := Lib.hid (HT.out.trans (joinStep_nil _))
          simp only [List.length_nil] at *
          go_wp2_with fail
          go_quiet (fail)
          go_upto_region 11 with fail
          refine wp_drewN ?_
          intro w3 hx3 hs3
          clear hs3
          have HXw3 := Lib.hid (HXc.out.trans hx3)
          have HO3 := Lib.hid (own_ext HO.out HXw3.out)
          have HBc3 := Lib.hid (HBc.out.ext hx3)
          have hb3 := HXw3.out.size
          clear hx3
          go_wp2_with (first | (refine wpList_loadB rfl 67 (.tmp 7) rfl wr.heap.size 67 _ _ (by exact rfl) (by exact HBc3.out) Tryd.underlying67 rfl (by exact size_cut) ?_) | (at_builtin; refine wpList_append1 rfl (.tmp 43) (.tmp 45) 23 rfl info_cut Tryd.underlying23 rfl (by decide) (HO3.out.alloc _) (by exact rfl) w3.heap.size _ (by exact rfl) (by exact Blk.new' rfl) (by exact rfl) (by simp [Value.oneCell']) (by omega) (by simp [maxLen] <;> omega) (by simp <;> omega) ?_; intro v5 w5 hown5 hgr5; have HO5 := Lib.hid hown5; have HX5 := Lib.hid (Ext.grown ((hx.trans HXw3.out).alloc _) hgr5 (fun q hq => own_lt HO3.out q hq)); clear hown5 hgr5))
          exact ⟨⟨k + 1, by omega, by go_num, HX5.out, by rw [HT2.out]; exact HO5.out⟩, by simp [intOf]; omega⟩
        · obtain ⟨ps, p, rfl⟩ := snoc_of hos
          clear hos
          have hlen : (ps ++ [p]).length = ps.length + 1 := by simp
          rw [hlen] at HO hjl
          clear hlen
          obtain ⟨g, cap, rfl, hg1, hg2, hCp⟩ := own_cell HO.out
          have HCp := Lib.hid hCp
          have hsp := HSj.out p (by simp)
          have HGo := Lib.hid (fun w' => goesOn_any p ⟨num, rl, src, inn, out, nn, dd⟩ w' hsp HSr.out)
          have HUp : Hid ((p.upto ⟨num, rl, src, inn, out, nn, dd⟩) = { p with out := out }) := rfl
          clear hCp hsp
          cases hgo : goesB p ⟨num, rl, src, inn, out, nn, dd⟩
          · have HT2 := Lib.hid (HT.out.trans (joinStep_no hgo))
            rw [hgo] at HGo
            clear hgo
            unfold Cut.cells at HGo
            dsimp only at HGo
            go_wp2_with fail
            refine wp_region_vals [.int .i64 (ps.length : Int), .bool true, .bool true, .slice (some ⟨g, 0, none⟩) (ps.length + 1) cap, .int .i64 (ps.length : Int), .pointer (some ⟨g, 0 + ps.length * 7, none⟩), .agg #[.int .i64 p.num, .string p.reel, .int .i64 p.src, .int .i64 p.inn, .int .i64 p.out, .int .i64 p.n, .int .i64 p.d], .agg #[.int .i64 num, .string rl, .int .i64 src, .int .i64 inn, .int .i64 out, .int .i64 nn, .int .i64 dd], .bool false, .bool false] [(25, .int .i64 (ps.length : Int)), (26, .bool true), (27, .bool true), (28, .slice (some ⟨g, 0, none⟩) (ps.length + 1) cap), (29, .int .i64 (ps.length : Int)), (30, .pointer (some ⟨g, 0 + ps.length * 7, none⟩)), (31, .agg #[.int .i64 p.num, .string p.reel, .int .i64 p.src, .int .i64 p.inn, .int .i64 p.out, .int .i64 p.n, .int .i64 p.d]), (32, .agg #[.int .i64 num, .string rl, .int .i64 src, .int .i64 inn, .int .i64 out, .int .i64 nn, .int .i64 dd]), (33, .bool false), (34, .bool false)] (by kernel_rfl) (by kernel_rfl) (by kernel_rfl) rfl rfl ?_ ?_
            · intro i o ho a w' K' hx hn hd hk
              match i, ho with
              | 0, ho =>
                simp only [List.getElem?_toArray, List.getElem?_cons_zero, List.getElem?_cons_succ, Option.some.injEq] at ho
                subst ho
                refine want_none rfl ?_
                exact wp_move _ _ rfl ((hn 8 rfl).trans (show _ = .int .i64 (ps.length : Int) from rfl)) (hk _ rfl w' (Ext.refl _))
              | 1, ho =>
                simp only [List.getElem?_toArray, List.getElem?_cons_zero, List.getElem?_cons_succ, Option.some.injEq] at ho
                subst ho
                refine want_none rfl ?_
                exact wp_bin rfl (eval_of (hd 0 25 (.int .i64 (ps.length : Int)) rfl rfl rfl)) rfl (by first | (go_simp; done) | (go_simp; exact wrap_i64 (by omega) (by omega)) | (go_simp; omega)) (hk _ rfl w' (Ext.refl _))
              | 2, ho =>
                simp only [List.getElem?_toArray, List.getElem?_cons_zero, List.getElem?_cons_succ, Option.some.injEq] at ho
                subst ho
                refine want_none rfl ?_
                exact wp_move _ _ rfl (eval_of (hd 1 26 (.bool true) rfl rfl rfl)) (hk _ rfl w' (Ext.refl _))
              | 3, ho =>
                simp only [List.getElem?_toArray, List.getElem?_cons_zero, List.getElem?_cons_succ, Option.some.injEq] at ho
                subst ho
                refine want_yes rfl rfl (hd 2 27 (.bool true) rfl rfl rfl) rfl ?_
                exact wp_move _ _ rfl ((hn 5 rfl).trans (show _ = .slice (some ⟨g, 0, none⟩) (ps.length + 1) cap from rfl)) (hk _ rfl w' (Ext.refl _))
              | 4, ho =>
                simp only [List.getElem?_toArray, List.getElem?_cons_zero, List.getElem?_cons_succ, Option.some.injEq] at ho
                subst ho
                refine want_yes rfl rfl (hd 2 27 (.bool true) rfl rfl rfl) rfl ?_
                exact wp_move _ _ rfl ((hn 8 rfl).trans (show _ = .int .i64 (ps.length : Int) from rfl)) (hk _ rfl w' (Ext.refl _))
              | 5, ho =>
                simp only [List.getElem?_toArray, List.getElem?_cons_zero, List.getElem?_cons_succ, Option.some.injEq] at ho
                subst ho
                refine want_yes rfl rfl (hd 2 27 (.bool true) rfl rfl rfl) rfl ?_
                exact wp_ix_cut rfl (eval_of (hd 3 28 (.slice (some ⟨g, 0, none⟩) (ps.length + 1) cap) rfl rfl rfl)) (eval_of (hd 4 29 (.int .i64 (ps.length : Int)) rfl rfl rfl)) (by omega) (hk _ rfl w' (Ext.refl _))
              | 6, ho =>
                simp only [List.getElem?_toArray, List.getElem?_cons_zero, List.getElem?_cons_succ, Option.some.injEq] at ho
                subst ho
                refine want_yes rfl rfl (hd 2 27 (.bool true) rfl rfl rfl) rfl ?_
                exact wp_load_cut rfl g _ p (eval_of (hd 5 30 (.pointer (some ⟨g, 0 + ps.length * 7, none⟩)) rfl rfl rfl)) (by rw [Nat.zero_add]; exact Cells.stays _ _ _ _ _ _ hx (Cells.stays _ _ _ _ _ _ HXc.out HCp.out)) (hk _ rfl w' (Ext.refl _))
              | 7, ho =>
                simp only [List.getElem?_toArray, List.getElem?_cons_zero, List.getElem?_cons_succ, Option.some.injEq] at ho
                subst ho
                refine want_yes rfl rfl (hd 2 27 (.bool true) rfl rfl rfl) rfl ?_
                exact wp_loadB 67 (.tmp 7) rfl _ 67 _ _ ((hn 7 rfl).trans (show _ = Value.pointer (some ⟨wr.heap.size, 0, none⟩) from rfl)) (HBc.out.ext hx) Tryd.underlying67 rfl (by exact size_cut) (hk _ rfl w' (Ext.refl _))
              | 8, ho =>
                simp only [List.getElem?_toArray, List.getElem?_cons_zero, List.getElem?_cons_succ, Option.some.injEq] at ho
                subst ho
                refine want_yes rfl rfl (hd 2 27 (.bool true) rfl rfl rfl) rfl ?_
                exact wp_call2 rfl (eval_of (hd 6 31 (.agg #[.int .i64 p.num, .string p.reel, .int .i64 p.src, .int .i64 p.inn, .int .i64 p.out, .int .i64 p.n, .int .i64 p.d]) rfl rfl rfl)) (eval_of (hd 7 32 (.agg #[.int .i64 num, .string rl, .int .i64 src, .int .i64 inn, .int .i64 out, .int .i64 nn, .int .i64 dd]) rfl rfl rfl)) Tryd.call34 (HGo.out _) (hk _ rfl)
              | 9, ho =>
                simp only [List.getElem?_toArray, List.getElem?_cons_zero, List.getElem?_cons_succ, Option.some.injEq] at ho
                subst ho
                refine want_none rfl ?_
                exact wp_pick _ _ _ true _ rfl (eval_of (hd 2 27 (.bool true) rfl rfl rfl)) (by exact (eval_of (hd 8 33 (.bool false) rfl rfl rfl))) (hk _ rfl w' (Ext.refl _))
              | i + 10, ho => simp at ho
            intro w3 hx3
            simp only [Act.put, List.foldl_cons, List.foldl_nil, List.setIfInBounds_toArray, List.set_cons_zero, List.set_cons_succ]
            have HXw3 := Lib.hid (HXc.out.trans hx3)
            have HO3 := Lib.hid (own_ext HO.out HXw3.out)
            have HBc3 := Lib.hid (HBc.out.ext hx3)
            have hb3 := HXw3.out.size
            clear hx3
            go_wp2_with (first | (refine wpList_loadB rfl 67 (.tmp 7) rfl wr.heap.size 67 _ _ (by exact rfl) (by exact HBc3.out) Tryd.underlying67 rfl (by exact size_cut) ?_) | (at_builtin; refine wpList_append1 rfl (.tmp 43) (.tmp 45) 23 rfl info_cut Tryd.underlying23 rfl (by decide) (HO3.out.alloc _) (by exact rfl) w3.heap.size _ (by exact rfl) (by exact Blk.new' rfl) (by exact rfl) (by simp [Value.oneCell']) (by omega) (by simp [maxLen] <;> omega) (by simp <;> omega) ?_; intro v5 w5 hown5 hgr5; have HO5 := Lib.hid hown5; have HX5 := Lib.hid (Ext.grown ((hx.trans HXw3.out).alloc _) hgr5 (fun q hq => own_lt HO3.out q hq)); clear hown5 hgr5))
            exact ⟨⟨k + 1, by omega, by go_num, HX5.out, by rw [HT2.out]; rw [show (ps ++ [p] ++ [(⟨num, rl, src, inn, out, nn, dd⟩ : Cut)]).length = ps.length + 1 + 1 by simp, List.flatMap_append]; exact HO5.out⟩, by simp [intOf]; omega⟩
          · have HT2 := Lib.hid (HT.out.trans (joinStep_go hgo))
            rw [hgo] at HGo
            clear hgo
            unfold Cut.cells at HGo
            dsimp only at HGo
            go_wp2_with fail
            refine wp_region_vals [.int .i64 (ps.length : Int), .bool true, .bool true, .slice (some ⟨g, 0, none⟩) (ps.length + 1) cap, .int .i64 (ps.length : Int), .pointer (some ⟨g, 0 + ps.length * 7, none⟩), .agg #[.int .i64 p.num, .string p.reel, .int .i64 p.src, .int .i64 p.inn, .int .i64 p.out, .int .i64 p.n, .int .i64 p.d], .agg #[.int .i64 num, .string rl, .int .i64 src, .int .i64 inn, .int .i64 out, .int .i64 nn, .int .i64 dd], .bool true, .bool true] [(25, .int .i64 (ps.length : Int)), (26, .bool true), (27, .bool true), (28, .slice (some ⟨g, 0, none⟩) (ps.length + 1) cap), (29, .int .i64 (ps.length : Int)), (30, .pointer (some ⟨g, 0 + ps.length * 7, none⟩)), (31, .agg #[.int .i64 p.num, .string p.reel, .int .i64 p.src, .int .i64 p.inn, .int .i64 p.out, .int .i64 p.n, .int .i64 p.d]), (32, .agg #[.int .i64 num, .string rl, .int .i64 src, .int .i64 inn, .int .i64 out, .int .i64 nn, .int .i64 dd]), (33, .bool true), (34, .bool true)] (by kernel_rfl) (by kernel_rfl) (by kernel_rfl) rfl rfl ?_ ?_
            · intro i o ho a w' K' hx hn hd hk
              match i, ho with
              | 0, ho =>
                simp only [List.getElem?_toArray, List.getElem?_cons_zero, List.getElem?_cons_succ, Option.some.injEq] at ho
                subst ho
                refine want_none rfl ?_
                exact wp_move _ _ rfl ((hn 8 rfl).trans (show _ = .int .i64 (ps.length : Int) from rfl)) (hk _ rfl w' (Ext.refl _))
              | 1, ho =>
                simp only [List.getElem?_toArray, List.getElem?_cons_zero, List.getElem?_cons_succ, Option.some.injEq] at ho
                subst ho
                refine want_none rfl ?_
                exact wp_bin rfl (eval_of (hd 0 25 (.int .i64 (ps.length : Int)) rfl rfl rfl)) rfl (by first | (go_simp; done) | (go_simp; exact wrap_i64 (by omega) (by omega)) | (go_simp; omega)) (hk _ rfl w' (Ext.refl _))
              | 2, ho =>
                simp only [List.getElem?_toArray, List.getElem?_cons_zero, List.getElem?_cons_succ, Option.some.injEq] at ho
                subst ho
                refine want_none rfl ?_
                exact wp_move _ _ rfl (eval_of (hd 1 26 (.bool true) rfl rfl rfl)) (hk _ rfl w' (Ext.refl _))
              | 3, ho =>
                simp only [List.getElem?_toArray, List.getElem?_cons_zero, List.getElem?_cons_succ, Option.some.injEq] at ho
                subst ho
                refine want_yes rfl rfl (hd 2 27 (.bool true) rfl rfl rfl) rfl ?_
                exact wp_move _ _ rfl ((hn 5 rfl).trans (show _ = .slice (some ⟨g, 0, none⟩) (ps.length + 1) cap from rfl)) (hk _ rfl w' (Ext.refl _))
              | 4, ho =>
                simp only [List.getElem?_toArray, List.getElem?_cons_zero, List.getElem?_cons_succ, Option.some.injEq] at ho
                subst ho
                refine want_yes rfl rfl (hd 2 27 (.bool true) rfl rfl rfl) rfl ?_
                exact wp_move _ _ rfl ((hn 8 rfl).trans (show _ = .int .i64 (ps.length : Int) from rfl)) (hk _ rfl w' (Ext.refl _))
              | 5, ho =>
                simp only [List.getElem?_toArray, List.getElem?_cons_zero, List.getElem?_cons_succ, Option.some.injEq] at ho
                subst ho
                refine want_yes rfl rfl (hd 2 27 (.bool true) rfl rfl rfl) rfl ?_
                exact wp_ix_cut rfl (eval_of (hd 3 28 (.slice (some ⟨g, 0, none⟩) (ps.length + 1) cap) rfl rfl rfl)) (eval_of (hd 4 29 (.int .i64 (ps.length : Int)) rfl rfl rfl)) (by omega) (hk _ rfl w' (Ext.refl _))
              | 6, ho =>
                simp only [List.getElem?_toArray, List.getElem?_cons_zero, List.getElem?_cons_succ, Option.some.injEq] at ho
                subst ho
                refine want_yes rfl rfl (hd 2 27 (.bool true) rfl rfl rfl) rfl ?_
                exact wp_load_cut rfl g _ p (eval_of (hd 5 30 (.pointer (some ⟨g, 0 + ps.length * 7, none⟩)) rfl rfl rfl)) (by rw [Nat.zero_add]; exact Cells.stays _ _ _ _ _ _ hx (Cells.stays _ _ _ _ _ _ HXc.out HCp.out)) (hk _ rfl w' (Ext.refl _))
              | 7, ho =>
                simp only [List.getElem?_toArray, List.getElem?_cons_zero, List.getElem?_cons_succ, Option.some.injEq] at ho
                subst ho
                refine want_yes rfl rfl (hd 2 27 (.bool true) rfl rfl rfl) rfl ?_
                exact wp_loadB 67 (.tmp 7) rfl _ 67 _ _ ((hn 7 rfl).trans (show _ = Value.pointer (some ⟨wr.heap.size, 0, none⟩) from rfl)) (HBc.out.ext hx) Tryd.underlying67 rfl (by exact size_cut) (hk _ rfl w' (Ext.refl _))
              | 8, ho =>
                simp only [List.getElem?_toArray, List.getElem?_cons_zero, List.getElem?_cons_succ, Option.some.injEq] at ho
                subst ho
                refine want_yes rfl rfl (hd 2 27 (.bool true) rfl rfl rfl) rfl ?_
                exact wp_call2 rfl (eval_of (hd 6 31 (.agg #[.int .i64 p.num, .string p.reel, .int .i64 p.src, .int .i64 p.inn, .int .i64 p.out, .int .i64 p.n, .int .i64 p.d]) rfl rfl rfl)) (eval_of (hd 7 32 (.agg #[.int .i64 num, .string rl, .int .i64 src, .int .i64 inn, .int .i64 out, .int .i64 nn, .int .i64 dd]) rfl rfl rfl)) Tryd.call34 (HGo.out _) (hk _ rfl)
              | 9, ho =>
                simp only [List.getElem?_toArray, List.getElem?_cons_zero, List.getElem?_cons_succ, Option.some.injEq] at ho
                subst ho
                refine want_none rfl ?_
                exact wp_pick _ _ _ true _ rfl (eval_of (hd 2 27 (.bool true) rfl rfl rfl)) (by exact (eval_of (hd 8 33 (.bool true) rfl rfl rfl))) (hk _ rfl w' (Ext.refl _))
              | i + 10, ho => simp at ho
            intro w3 hx3
            simp only [Act.put, List.foldl_cons, List.foldl_nil, List.setIfInBounds_toArray, List.set_cons_zero, List.set_cons_succ]
            have HXw3 := Lib.hid (HXc.out.trans hx3)
            have HO3 := Lib.hid (own_ext HO.out HXw3.out)
            have HBc3 := Lib.hid (HBc.out.ext hx3)
            have hcc3 := fun o => HBc3.out.cell o
            have hcg := hx3.cell (HXc.out.cell (HCp.out 4 _ rfl))
            have hfg := World.ownsRow.frozenAt HO3.out (ps.length * 7 + 4)
            obtain ⟨hst, hgr⟩ := World.ownsRow.stored HO3.out (ps.length * 7 + 4) (.int .i64 out)
            have HO5 := Lib.hid hst
            have HX5 := Lib.hid (Ext.grown (hx.trans HXw3.out) hgr (fun q hq => by cases hq; exact hg1))
            have HSO := Lib.hid (set_out (ps := ps) (p := p) (c := ⟨num, rl, src, inn, out, nn, dd⟩))
            clear hst hgr hx3
            go_wp2_with fail
            exact ⟨⟨k + 1, by omega, by go_num, HX5.out, by rw [HT2.out, show (ps ++ [p.upto ⟨num, rl, src, inn, out, nn, dd⟩]).length = ps.length + 1 by simp, ← HSO.out]; exact HO5.out⟩, by simp [intOf]; omega⟩
      · have hkn : k = n := by omega
        subst hkn
        have HTk := Lib.hid (show e.cuts.take k = e.cuts from List.take_of_length_le (by have := HLn.out; omega))
        obtain ⟨A', cap', rfl, hcap, hcm, hS, hfr⟩ := own_sl (f := Cut.vals) (size := 7) (fun _ => rfl) rfl HO.out
        have HS := Lib.hid hS
        have hcl := fun o => HBlr.out.cell o
        have hfl := fun o => HBlr.out.frozen o
        have hset := setCell_put HBlr.out 3 (.slice A' (joinC (e.cuts.take k)).length cap')
        have HB6 := Lib.hid (HBlr.out.put (#[.string e.title, .int .u8 e.rate, .bool e.drop, .slice A k c].setIfInBounds 3 (.slice A' (joinC (e.cuts.take k)).length cap')))
        have HB7 := Lib.hid (HBrr.out.put_other (g' := w.heap.size) (t' := 32) (by omega) (#[.string e.title, .int .u8 e.rate, .bool e.drop, .slice A k c].setIfInBounds 3 (.slice A' (joinC (e.cuts.take k)).length cap')))
        have HX6 := Lib.hid (HXr.out.put (g := w.heap.size) (Nat.le_refl _) 32 (#[.string e.title, .int .u8 e.rate, .bool e.drop, .slice A k c].setIfInBounds 3 (.slice A' (joinC (e.cuts.take k)).length cap')))
        have HO6 : Hid (∀ ad, A' = some ad → w1.heap.size ≤ ad.block) := hfr
        clear hS hfr
        have HB8 := Lib.hid (show Blk (wr.setCell ⟨w.heap.size, 3, none⟩ (.slice A' (joinC (e.cuts.take k)).length cap')) w.heap.size 32 #[.string e.title, .int .u8 e.rate, .bool e.drop, .slice A' (joinC (e.cuts.take k)).length cap'] by rw [hset]; exact HB6.out)
        have HB9 := Lib.hid (show Blk (wr.setCell ⟨w.heap.size, 3, none⟩ (.slice A' (joinC (e.cuts.take k)).length cap')) (w.heap.size + 1) 32 #[.string ⟨#[]⟩, .int .u8 0, .bool false, .slice none 0 0] by rw [hset]; exact HB7.out)
        have HX8 := Lib.hid (show Ext w (wr.setCell ⟨w.heap.size, 3, none⟩ (.slice A' (joinC (e.cuts.take k)).length cap')) by rw [hset]; exact HX6.out)
        have HX9 := Lib.hid (show Ext w1 wr from hx)
        have HC8 : Hid (∀ p : Addr, p.block ≠ w.heap.size → (wr.setCell ⟨w.heap.size, 3, none⟩ (.slice A' (joinC (e.cuts.take k)).length cap')).cell? p = wr.cell? p) := fun p hp => by rw [hset]; exact putB_cell_other hp
        clear hset HB6 HB7 HX6
        go_wp2_with (first | (refine wpList_loadB rfl 32 (.tmp 1) rfl w.heap.size 32 _ _ (by exact rfl) (by exact HB8.out) Tryd.underlying32 rfl (by exact size_list) ?_) | (refine wpList_storeB rfl 32 (.tmp 2) (.tmp 50) rfl (w.heap.size + 1) 32 _ _ (by exact rfl) (by exact rfl) (by exact HB9.out) (by exact rfl) (by exact size_list) (by simp [Value.oneCell']) ?_))
        have hjc : joinC (e.cuts.take k) = joinC e.cuts := by rw [HTk.out]
        refine bodyPost_ret (v := .tuple #[.agg #[.string e.title, .int .u8 e.rate, .bool e.drop, .slice A' (joinC (e.cuts.take k)).length cap'], .int .i64 0]) ?_ rfl ⟨A', (joinC (e.cuts.take k)).length, cap', by rw [HJ.out, HZ.out], ?_, hcap, ?_⟩
        · exact results_B_tmp (P := Tryd.prog) Tryd.results20 (g := w.heap.size + 1) rfl (by exact HB9.out.put _) Tryd.underlying32 rfl size_list
        · rw [HJ.out]
          show CutsAt _ A' (joinC (e.cuts.take k)).length (joinC e.cuts)
          rw [← hjc]
          refine CutsAt.same HS.out fun ad had o => ?_
          have hge := HO6.out ad had
          rw [putB_cell_other (by show ad.block ≠ _; omega)]
          exact HC8.out _ (by show ad.block ≠ _; omega)
        · exact HX8.out.put (by omega) _ _

set_option maxRecDepth 100000 in
set_option maxHeartbeats 8000000 in
theorem RJoin_any (e : Edl) (A : Option Addr) (n c : Nat) (w : World) (hl : CutsAt w A n e.cuts) (hn : n ≤ 1000000) (hok : EdlOk e) :
    Calls Tryd.prog 21 #[.agg (e.cells A n c)] w (JoinPost e w) := by
  have HL := Lib.hid hl
  have HLn := Lib.hid hl.len
  have HX := Lib.hid (((Ext.refl w).alloc (.cells (e.cells A n c) 25)).alloc (.cells edlZero 25))
  have HB0 := Lib.hid ((Blk.new w 25 (e.cells A n c)).alloc (.cells edlZero 25))
  have HB1 := Lib.hid (Blk.new' (w := w.alloc (.cells (e.cells A n c) 25)) (g := w.heap.size + 1) (t := 25) (cs := edlZero) (by simp))
  have HCk := Lib.hid (fun w' (hx : Ext w w') => RCheck_any e A n c w' (hl.ext hx) hn hok.r0 hok.r1 hok.title hok.fits)
  have HSn := Lib.hid (fun (h : edlErr e = 0) (c : Cut) (hc : c ∈ e.cuts) => edl_sane h hc)
  have HJs := Lib.hid (fun (h : edlErr e = 0) (k : Nat) (hk : k ≤ n) => joinC_sane (l := e.cuts) (fun c hc => edl_sane h hc) k (by rw [hl.len]; exact hk))
  have HJl := Lib.hid (fun (k : Nat) (hk : k ≤ n) => joinC_len e.cuts k (by rw [hl.len]; exact hk))
  have HJe := Lib.hid (@joinE_err e)
  have HJo := Lib.hid (@joinE_ok e)
  clear hl hok
  unfold JoinPost
  unfold Edl.cells edlZero at *
  go_enter Tryd.func21, Tryd.ntmps21
  go_wp2_with (refine wpList_loadB rfl 25 (.tmp 1) rfl w.heap.size 25 _ _ (by exact rfl) (by exact HB0.out) Tryd.underlying25 rfl (by exact rsize_list) ?_)
  refine (HCk.out _ HX.out).mono ?_
  rintro en w1 ⟨rfl, hx1⟩
  have HX1 := Lib.hid (HX.out.trans hx1)
  have HBl := Lib.hid (HB0.out.ext hx1)
  have HBr := Lib.hid (HB1.out.ext hx1)
  clear hx1 HB0 HB1 HX
  by_cases hee : edlErr e = 0
  case neg =>
    have hne : (edlErr e != 0) = true := by simpa using hee
    have HEr := Lib.hid hee
    clear hee
    go_wp2_with (refine wpList_storeB rfl 25 (.tmp 2) (.tmp 13) rfl (w.heap.size + 1) 25 _ _ (by exact rfl) (by exact rfl) (by exact HBr.out) (by exact rfl) (by exact rsize_list) (by simp [Value.oneCell']) ?_)
    refine bodyPost_ret (v := .tuple #[.agg #[.string ⟨#[]⟩, .int .u8 0, .bool false, .slice none 0 0], .int .i64 (edlErr e)]) ?_ rfl ⟨none, 0, 0, by rw [HJe.out HEr.out], by rw [HJe.out HEr.out]; exact Sl.nil, Nat.le_refl _, ?_⟩
    · exact results_B_tmp (P := Tryd.prog) Tryd.results21 (g := w.heap.size + 1) rfl (by exact HBr.out.put _) Tryd.underlying25 rfl rsize_list
    · exact HX1.out.put (by omega) _ _
  case pos =>
    rw [hee]
    have HZ := Lib.hid hee
    have HJ := Lib.hid (HJo.out hee)
    clear hee HJe HJo
    have hcell1 := fun o => HBl.out.cell o
    go_wp2_with fail
    clear hcell1
    go_loopw [5, 18] (fun v i wr => JoinRel w1 n e.cuts v i wr) (fun _ i _ => n - (intOf i).toNat)
    case atStart => exact ⟨0, Nat.zero_le _, rfl, Ext.refl _, ⟨rfl, .inl ⟨rfl, rfl⟩⟩⟩
    case round =>
      obtain ⟨k, hk, rfl, hx, hown⟩ := hrel
      have HXr := Lib.hid (HX1.out.trans hx)
      have HBlr := Lib.hid (HBl.out.ext hx)
      have HBrr := Lib.hid (HBr.out.ext hx)
      have hb1 := HBr.out.lt
      have hb2 := hx.size
      have hjl := HJl.out k hk
      have HO := Lib.hid hown
      clear hown
      by_cases hlt : k < n
      · obtain ⟨b, off, r, rfl, hr, c0, c1, c2, c3, c4, c5, c6⟩ := (HL.out.ext HXr.out).at7 hlt
        have HT := Lib.hid (show joinC (e.cuts.take (k + 1)) = joinStep (joinC (e.cuts.take k)) r by rw [take_snoc' e.cuts k r hr, joinC_snoc])
        have hsr := HSn.out HZ.out r (List.mem_of_getElem? hr)
        have HSr := Lib.hid hsr
        have HSj := Lib.hid (HJs.out HZ.out k hk)
        clear hr hsr
        generalize joinC (e.cuts.take k) = os at *
        obtain ⟨num, rl, src, inn, out, nn, dd⟩ := r
        have HBc := Lib.hid (Blk.new wr 67 (Cut.cells ⟨num, rl, src, inn, out, nn, dd⟩))
        have HXc := Lib.hid ((Ext.refl wr).alloc (.cells (Cut.cells ⟨num, rl, src, inn, out, nn, dd⟩) 67))
        unfold Cut.cells at HBc HXc
        dsimp only at *
        rcases Classical.em (os = []) with hos | hos
        · subst hos
          obtain ⟨A', cap', rfl, hcap, hcm, _, _⟩ := own_sl (f := Cut.vals) (size := 7) (l := []) (fun _ => rfl) rfl HO.out
          have HT2 := Lib.hid (HT.out.trans (joinStep_nil _))
          simp only [List.length_nil] at *
          go_wp2_with fail
          go_quiet (fail)
          go_upto_region 11 with fail
          refine wp_drewN ?_
          intro w3 hx3 hs3
          clear hs3
          have HXw3 := Lib.hid (HXc.out.trans hx3)
          have HO3 := Lib.hid (own_ext HO.out HXw3.out)
          have HBc3 := Lib.hid (HBc.out.ext hx3)
          have hb3 := HXw3.out.size
          clear hx3
          go_wp2_with (first | (refine wpList_loadB rfl 67 (.tmp 7) rfl wr.heap.size 67 _ _ (by exact rfl) (by exact HBc3.out) Tryd.underlying67 rfl (by exact size_cut) ?_) | (at_builtin; refine wpList_append1 rfl (.tmp 44) (.tmp 46) 23 rfl info_cut Tryd.underlying23 rfl (by decide) (HO3.out.alloc _) (by exact rfl) w3.heap.size _ (by exact rfl) (by exact Blk.new' rfl) (by exact rfl) (by simp [Value.oneCell']) (by omega) (by simp [maxLen] <;> omega) (by simp <;> omega) ?_; intro v5 w5 hown5 hgr5; have HO5 := Lib.hid hown5; have HX5 := Lib.hid (Ext.grown ((hx.trans HXw3.out).alloc _) hgr5 (fun q hq => own_lt HO3.out q hq)); clear hown5 hgr5))
          exact ⟨⟨k + 1, by omega, by go_num, HX5.out, by rw [HT2.out]; exact HO5.out⟩, by simp [intOf]; omega⟩
        · obtain ⟨ps, p, rfl⟩ := snoc_of hos
          clear hos
          have hlen : (ps ++ [p]).length = ps.length + 1 := by simp
          rw [hlen] at HO hjl
          clear hlen
          obtain ⟨g, cap, rfl, hg1, hg2, hCp⟩ := own_cell HO.out
          have HCp := Lib.hid hCp
          have hsp := HSj.out p (by simp)
          have HGo := Lib.hid (fun w' => goes_any p ⟨num, rl, src, inn, out, nn, dd⟩ w' hsp HSr.out)
          have HUp : Hid ((p.upto ⟨num, rl, src, inn, out, nn, dd⟩) = { p with out := out }) := rfl
          clear hCp hsp
          cases hgo : goesB p ⟨num, rl, src, inn, out, nn, dd⟩
          · have HT2 := Lib.hid (HT.out.trans (joinStep_no hgo))
            rw [hgo] at HGo
            clear hgo
            unfold Cut.cells at HGo
            dsimp only at HGo
            go_wp2_with fail
            refine wp_region_vals [.int .i64 ((ps.length : Int) + 1), .bool true, .bool true, .slice (some ⟨g, 0, none⟩) (ps.length + 1) cap, .int .i64 ((ps.length : Int) + 1), .int .i64 (ps.length : Int), .pointer (some ⟨g, 0 + ps.length * 7, none⟩), .agg #[.int .i64 p.num, .string p.reel, .int .i64 p.src, .int .i64 p.inn, .int .i64 p.out, .int .i64 p.n, .int .i64 p.d], .agg #[.int .i64 num, .string rl, .int .i64 src, .int .i64 inn, .int .i64 out, .int .i64 nn, .int .i64 dd], .bool false, .bool false] [(24, .int .i64 ((ps.length : Int) + 1)), (25, .bool true), (26, .bool true), (27, .slice (some ⟨g, 0, none⟩) (ps.length + 1) cap), (28, .int .i64 ((ps.length : Int) + 1)), (29, .int .i64 (ps.length : Int)), (30, .pointer (some ⟨g, 0 + ps.length * 7, none⟩)), (31, .agg #[.int .i64 p.num, .string p.reel, .int .i64 p.src, .int .i64 p.inn, .int .i64 p.out, .int .i64 p.n, .int .i64 p.d]), (32, .agg #[.int .i64 num, .string rl, .int .i64 src, .int .i64 inn, .int .i64 out, .int .i64 nn, .int .i64 dd]), (33, .bool false), (34, .bool false)] (by kernel_rfl) (by kernel_rfl) (by kernel_rfl) rfl rfl ?_ ?_
            · intro i o ho a w' K' hx hn hd hk
              match i, ho with
              | 0, ho =>
                simp only [List.getElem?_toArray, List.getElem?_cons_zero, List.getElem?_cons_succ, Option.some.injEq] at ho
                subst ho
                refine want_none rfl ?_
                exact wp_move _ _ rfl ((hn 8 rfl).trans (show _ = .int .i64 ((ps.length : Int) + 1) from rfl)) (hk _ rfl w' (Ext.refl _))
              | 1, ho =>
                simp only [List.getElem?_toArray, List.getElem?_cons_zero, List.getElem?_cons_succ, Option.some.injEq] at ho
                subst ho
                refine want_none rfl ?_
                exact wp_bin rfl (eval_of (hd 0 24 (.int .i64 ((ps.length : Int) + 1)) rfl rfl rfl)) rfl (by first | (go_simp; done) | (go_simp; exact wrap_i64 (by omega) (by omega)) | (go_simp; omega)) (hk _ rfl w' (Ext.refl _))
              | 2, ho =>
                simp only [List.getElem?_toArray, List.getElem?_cons_zero, List.getElem?_cons_succ, Option.some.injEq] at ho
                subst ho
                refine want_none rfl ?_
                exact wp_move _ _ rfl (eval_of (hd 1 25 (.bool true) rfl rfl rfl)) (hk _ rfl w' (Ext.refl _))
              | 3, ho =>
                simp only [List.getElem?_toArray, List.getElem?_cons_zero, List.getElem?_cons_succ, Option.some.injEq] at ho
                subst ho
                refine want_yes rfl rfl (hd 2 26 (.bool true) rfl rfl rfl) rfl ?_
                exact wp_move _ _ rfl ((hn 5 rfl).trans (show _ = .slice (some ⟨g, 0, none⟩) (ps.length + 1) cap from rfl)) (hk _ rfl w' (Ext.refl _))
              | 4, ho =>
                simp only [List.getElem?_toArray, List.getElem?_cons_zero, List.getElem?_cons_succ, Option.some.injEq] at ho
                subst ho
                refine want_yes rfl rfl (hd 2 26 (.bool true) rfl rfl rfl) rfl ?_
                exact wp_move _ _ rfl ((hn 8 rfl).trans (show _ = .int .i64 ((ps.length : Int) + 1) from rfl)) (hk _ rfl w' (Ext.refl _))
              | 5, ho =>
                simp only [List.getElem?_toArray, List.getElem?_cons_zero, List.getElem?_cons_succ, Option.some.injEq] at ho
                subst ho
                refine want_yes rfl rfl (hd 2 26 (.bool true) rfl rfl rfl) rfl ?_
                exact wp_bin rfl (eval_of (hd 4 28 (.int .i64 ((ps.length : Int) + 1)) rfl rfl rfl)) rfl (by first | (go_simp; done) | (go_simp; exact wrap_i64 (by omega) (by omega)) | (go_simp; omega)) (hk _ rfl w' (Ext.refl _))
              | 6, ho =>
                simp only [List.getElem?_toArray, List.getElem?_cons_zero, List.getElem?_cons_succ, Option.some.injEq] at ho
                subst ho
                refine want_yes rfl rfl (hd 2 26 (.bool true) rfl rfl rfl) rfl ?_
                exact wp_ix_cut rfl (eval_of (hd 3 27 (.slice (some ⟨g, 0, none⟩) (ps.length + 1) cap) rfl rfl rfl)) (eval_of (hd 5 29 (.int .i64 (ps.length : Int)) rfl rfl rfl)) (by omega) (hk _ rfl w' (Ext.refl _))
              | 7, ho =>
                simp only [List.getElem?_toArray, List.getElem?_cons_zero, List.getElem?_cons_succ, Option.some.injEq] at ho
                subst ho
                refine want_yes rfl rfl (hd 2 26 (.bool true) rfl rfl rfl) rfl ?_
                exact wp_load_cut rfl g _ p (eval_of (hd 6 30 (.pointer (some ⟨g, 0 + ps.length * 7, none⟩)) rfl rfl rfl)) (by rw [Nat.zero_add]; exact Cells.stays _ _ _ _ _ _ hx (Cells.stays _ _ _ _ _ _ HXc.out HCp.out)) (hk _ rfl w' (Ext.refl _))
              | 8, ho =>
                simp only [List.getElem?_toArray, List.getElem?_cons_zero, List.getElem?_cons_succ, Option.some.injEq] at ho
                subst ho
                refine want_yes rfl rfl (hd 2 26 (.bool true) rfl rfl rfl) rfl ?_
                exact wp_loadB 67 (.tmp 7) rfl _ 67 _ _ ((hn 7 rfl).trans (show _ = Value.pointer (some ⟨wr.heap.size, 0, none⟩) from rfl)) (HBc.out.ext hx) Tryd.underlying67 rfl (by exact size_cut) (hk _ rfl w' (Ext.refl _))
              | 9, ho =>
                simp only [List.getElem?_toArray, List.getElem?_cons_zero, List.getElem?_cons_succ, Option.some.injEq] at ho
                subst ho
                refine want_yes rfl rfl (hd 2 26 (.bool true) rfl rfl rfl) rfl ?_
                exact wp_call2 rfl (eval_of (hd 7 31 (.agg #[.int .i64 p.num, .string p.reel, .int .i64 p.src, .int .i64 p.inn, .int .i64 p.out, .int .i64 p.n, .int .i64 p.d]) rfl rfl rfl)) (eval_of (hd 8 32 (.agg #[.int .i64 num, .string rl, .int .i64 src, .int .i64 inn, .int .i64 out, .int .i64 nn, .int .i64 dd]) rfl rfl rfl)) Tryd.call35 (HGo.out _) (hk _ rfl)
              | 10, ho =>
                simp only [List.getElem?_toArray, List.getElem?_cons_zero, List.getElem?_cons_succ, Option.some.injEq] at ho
                subst ho
                refine want_none rfl ?_
                exact wp_pick _ _ _ true _ rfl (eval_of (hd 2 26 (.bool true) rfl rfl rfl)) (by exact (eval_of (hd 9 33 (.bool false) rfl rfl rfl))) (hk _ rfl w' (Ext.refl _))
              | i + 11, ho => simp at ho
            intro w3 hx3
            simp only [Act.put, List.foldl_cons, List.foldl_nil, List.setIfInBounds_toArray, List.set_cons_zero, List.set_cons_succ]
            have HXw3 := Lib.hid (HXc.out.trans hx3)
            have HO3 := Lib.hid (own_ext HO.out HXw3.out)
            have HBc3 := Lib.hid (HBc.out.ext hx3)
            have hb3 := HXw3.out.size
            clear hx3
            go_wp2_with (first | (refine wpList_loadB rfl 67 (.tmp 7) rfl wr.heap.size 67 _ _ (by exact rfl) (by exact HBc3.out) Tryd.underlying67 rfl (by exact size_cut) ?_) | (at_builtin; refine wpList_append1 rfl (.tmp 44) (.tmp 46) 23 rfl info_cut Tryd.underlying23 rfl (by decide) (HO3.out.alloc _) (by exact rfl) w3.heap.size _ (by exact rfl) (by exact Blk.new' rfl) (by exact rfl) (by simp [Value.oneCell']) (by omega) (by simp [maxLen] <;> omega) (by simp <;> omega) ?_; intro v5 w5 hown5 hgr5; have HO5 := Lib.hid hown5; have HX5 := Lib.hid (Ext.grown ((hx.trans HXw3.out).alloc _) hgr5 (fun q hq => own_lt HO3.out q hq)); clear hown5 hgr5))
            exact ⟨⟨k + 1, by omega, by go_num, HX5.out, by rw [HT2.out]; rw [show (ps ++ [p] ++ [(⟨num, rl, src, inn, out, nn, dd⟩ : Cut)]).length = ps.length + 1 + 1 by simp, List.flatMap_append]; exact HO5.out⟩, by simp [intOf]; omega⟩
          · have HT2 := Lib.hid (HT.out.trans (joinStep_go hgo))
            rw [hgo] at HGo
            clear hgo
            unfold Cut.cells at HGo
            dsimp only at HGo
            go_wp2_with fail
            refine wp_region_vals [.int .i64 ((ps.length : Int) + 1), .bool true, .bool true, .slice (some ⟨g, 0, none⟩) (ps.length + 1) cap, .int .i64 ((ps.length : Int) + 1), .int .i64 (ps.length : Int), .pointer (some ⟨g, 0 + ps.length * 7, none⟩), .agg #[.int .i64 p.num, .string p.reel, .int .i64 p.src, .int .i64 p.inn, .int .i64 p.out, .int .i64 p.n, .int .i64 p.d], .agg #[.int .i64 num, .string rl, .int .i64 src, .int .i64 inn, .int .i64 out, .int .i64 nn, .int .i64 dd], .bool true, .bool true] [(24, .int .i64 ((ps.length : Int) + 1)), (25, .bool true), (26, .bool true), (27, .slice (some ⟨g, 0, none⟩) (ps.length + 1) cap), (28, .int .i64 ((ps.length : Int) + 1)), (29, .int .i64 (ps.length : Int)), (30, .pointer (some ⟨g, 0 + ps.length * 7, none⟩)), (31, .agg #[.int .i64 p.num, .string p.reel, .int .i64 p.src, .int .i64 p.inn, .int .i64 p.out, .int .i64 p.n, .int .i64 p.d]), (32, .agg #[.int .i64 num, .string rl, .int .i64 src, .int .i64 inn, .int .i64 out, .int .i64 nn, .int .i64 dd]), (33, .bool true), (34, .bool true)] (by kernel_rfl) (by kernel_rfl) (by kernel_rfl) rfl rfl ?_ ?_
            · intro i o ho a w' K' hx hn hd hk
              match i, ho with
              | 0, ho =>
                simp only [List.getElem?_toArray, List.getElem?_cons_zero, List.getElem?_cons_succ, Option.some.injEq] at ho
                subst ho
                refine want_none rfl ?_
                exact wp_move _ _ rfl ((hn 8 rfl).trans (show _ = .int .i64 ((ps.length : Int) + 1) from rfl)) (hk _ rfl w' (Ext.refl _))
              | 1, ho =>
                simp only [List.getElem?_toArray, List.getElem?_cons_zero, List.getElem?_cons_succ, Option.some.injEq] at ho
                subst ho
                refine want_none rfl ?_
                exact wp_bin rfl (eval_of (hd 0 24 (.int .i64 ((ps.length : Int) + 1)) rfl rfl rfl)) rfl (by first | (go_simp; done) | (go_simp; exact wrap_i64 (by omega) (by omega)) | (go_simp; omega)) (hk _ rfl w' (Ext.refl _))
              | 2, ho =>
                simp only [List.getElem?_toArray, List.getElem?_cons_zero, List.getElem?_cons_succ, Option.some.injEq] at ho
                subst ho
                refine want_none rfl ?_
                exact wp_move _ _ rfl (eval_of (hd 1 25 (.bool true) rfl rfl rfl)) (hk _ rfl w' (Ext.refl _))
              | 3, ho =>
                simp only [List.getElem?_toArray, List.getElem?_cons_zero, List.getElem?_cons_succ, Option.some.injEq] at ho
                subst ho
                refine want_yes rfl rfl (hd 2 26 (.bool true) rfl rfl rfl) rfl ?_
                exact wp_move _ _ rfl ((hn 5 rfl).trans (show _ = .slice (some ⟨g, 0, none⟩) (ps.length + 1) cap from rfl)) (hk _ rfl w' (Ext.refl _))
              | 4, ho =>
                simp only [List.getElem?_toArray, List.getElem?_cons_zero, List.getElem?_cons_succ, Option.some.injEq] at ho
                subst ho
                refine want_yes rfl rfl (hd 2 26 (.bool true) rfl rfl rfl) rfl ?_
                exact wp_move _ _ rfl ((hn 8 rfl).trans (show _ = .int .i64 ((ps.length : Int) + 1) from rfl)) (hk _ rfl w' (Ext.refl _))
              | 5, ho =>
                simp only [List.getElem?_toArray, List.getElem?_cons_zero, List.getElem?_cons_succ, Option.some.injEq] at ho
                subst ho
                refine want_yes rfl rfl (hd 2 26 (.bool true) rfl rfl rfl) rfl ?_
                exact wp_bin rfl (eval_of (hd 4 28 (.int .i64 ((ps.length : Int) + 1)) rfl rfl rfl)) rfl (by first | (go_simp; done) | (go_simp; exact wrap_i64 (by omega) (by omega)) | (go_simp; omega)) (hk _ rfl w' (Ext.refl _))
              | 6, ho =>
                simp only [List.getElem?_toArray, List.getElem?_cons_zero, List.getElem?_cons_succ, Option.some.injEq] at ho
                subst ho
                refine want_yes rfl rfl (hd 2 26 (.bool true) rfl rfl rfl) rfl ?_
                exact wp_ix_cut rfl (eval_of (hd 3 27 (.slice (some ⟨g, 0, none⟩) (ps.length + 1) cap) rfl rfl rfl)) (eval_of (hd 5 29 (.int .i64 (ps.length : Int)) rfl rfl rfl)) (by omega) (hk _ rfl w' (Ext.refl _))
              | 7, ho =>
                simp only [List.getElem?_toArray, List.getElem?_cons_zero, List.getElem?_cons_succ, Option.some.injEq] at ho
                subst ho
                refine want_yes rfl rfl (hd 2 26 (.bool true) rfl rfl rfl) rfl ?_
                exact wp_load_cut rfl g _ p (eval_of (hd 6 30 (.pointer (some ⟨g, 0 + ps.length * 7, none⟩)) rfl rfl rfl)) (by rw [Nat.zero_add]; exact Cells.stays _ _ _ _ _ _ hx (Cells.stays _ _ _ _ _ _ HXc.out HCp.out)) (hk _ rfl w' (Ext.refl _))
              | 8, ho =>
                simp only [List.getElem?_toArray, List.getElem?_cons_zero, List.getElem?_cons_succ, Option.some.injEq] at ho
                subst ho
                refine want_yes rfl rfl (hd 2 26 (.bool true) rfl rfl rfl) rfl ?_
                exact wp_loadB 67 (.tmp 7) rfl _ 67 _ _ ((hn 7 rfl).trans (show _ = Value.pointer (some ⟨wr.heap.size, 0, none⟩) from rfl)) (HBc.out.ext hx) Tryd.underlying67 rfl (by exact size_cut) (hk _ rfl w' (Ext.refl _))
              | 9, ho =>
                simp only [List.getElem?_toArray, List.getElem?_cons_zero, List.getElem?_cons_succ, Option.some.injEq] at ho
                subst ho
                refine want_yes rfl rfl (hd 2 26 (.bool true) rfl rfl rfl) rfl ?_
                exact wp_call2 rfl (eval_of (hd 7 31 (.agg #[.int .i64 p.num, .string p.reel, .int .i64 p.src, .int .i64 p.inn, .int .i64 p.out, .int .i64 p.n, .int .i64 p.d]) rfl rfl rfl)) (eval_of (hd 8 32 (.agg #[.int .i64 num, .string rl, .int .i64 src, .int .i64 inn, .int .i64 out, .int .i64 nn, .int .i64 dd]) rfl rfl rfl)) Tryd.call35 (HGo.out _) (hk _ rfl)
              | 10, ho =>
                simp only [List.getElem?_toArray, List.getElem?_cons_zero, List.getElem?_cons_succ, Option.some.injEq] at ho
                subst ho
                refine want_none rfl ?_
                exact wp_pick _ _ _ true _ rfl (eval_of (hd 2 26 (.bool true) rfl rfl rfl)) (by exact (eval_of (hd 9 33 (.bool true) rfl rfl rfl))) (hk _ rfl w' (Ext.refl _))
              | i + 11, ho => simp at ho
            intro w3 hx3
            simp only [Act.put, List.foldl_cons, List.foldl_nil, List.setIfInBounds_toArray, List.set_cons_zero, List.set_cons_succ]
            have HXw3 := Lib.hid (HXc.out.trans hx3)
            have HO3 := Lib.hid (own_ext HO.out HXw3.out)
            have HBc3 := Lib.hid (HBc.out.ext hx3)
            have hcc3 := fun o => HBc3.out.cell o
            have hcg := hx3.cell (HXc.out.cell (HCp.out 4 _ rfl))
            have hfg := World.ownsRow.frozenAt HO3.out (ps.length * 7 + 4)
            obtain ⟨hst, hgr⟩ := World.ownsRow.stored HO3.out (ps.length * 7 + 4) (.int .i64 out)
            have HO5 := Lib.hid hst
            have HX5 := Lib.hid (Ext.grown (hx.trans HXw3.out) hgr (fun q hq => by cases hq; exact hg1))
            have HSO := Lib.hid (set_out (ps := ps) (p := p) (c := ⟨num, rl, src, inn, out, nn, dd⟩))
            clear hst hgr hx3
            go_wp2_with fail
            exact ⟨⟨k + 1, by omega, by go_num, HX5.out, by rw [HT2.out, show (ps ++ [p.upto ⟨num, rl, src, inn, out, nn, dd⟩]).length = ps.length + 1 by simp, ← HSO.out]; exact HO5.out⟩, by simp [intOf]; omega⟩
      · have hkn : k = n := by omega
        subst hkn
        have HTk := Lib.hid (show e.cuts.take k = e.cuts from List.take_of_length_le (by have := HLn.out; omega))
        obtain ⟨A', cap', rfl, hcap, hcm, hS, hfr⟩ := own_sl (f := Cut.vals) (size := 7) (fun _ => rfl) rfl HO.out
        have HS := Lib.hid hS
        have hcl := fun o => HBlr.out.cell o
        have hfl := fun o => HBlr.out.frozen o
        have hset := setCell_put HBlr.out 3 (.slice A' (joinC (e.cuts.take k)).length cap')
        have HB6 := Lib.hid (HBlr.out.put (#[.string e.title, .int .u8 e.rate, .bool e.drop, .slice A k c].setIfInBounds 3 (.slice A' (joinC (e.cuts.take k)).length cap')))
        have HB7 := Lib.hid (HBrr.out.put_other (g' := w.heap.size) (t' := 25) (by omega) (#[.string e.title, .int .u8 e.rate, .bool e.drop, .slice A k c].setIfInBounds 3 (.slice A' (joinC (e.cuts.take k)).length cap')))
        have HX6 := Lib.hid (HXr.out.put (g := w.heap.size) (Nat.le_refl _) 25 (#[.string e.title, .int .u8 e.rate, .bool e.drop, .slice A k c].setIfInBounds 3 (.slice A' (joinC (e.cuts.take k)).length cap')))
        have HO6 : Hid (∀ ad, A' = some ad → w1.heap.size ≤ ad.block) := hfr
        clear hS hfr
        have HB8 := Lib.hid (show Blk (wr.setCell ⟨w.heap.size, 3, none⟩ (.slice A' (joinC (e.cuts.take k)).length cap')) w.heap.size 25 #[.string e.title, .int .u8 e.rate, .bool e.drop, .slice A' (joinC (e.cuts.take k)).length cap'] by rw [hset]; exact HB6.out)
        have HB9 := Lib.hid (show Blk (wr.setCell ⟨w.heap.size, 3, none⟩ (.slice A' (joinC (e.cuts.take k)).length cap')) (w.heap.size + 1) 25 #[.string ⟨#[]⟩, .int .u8 0, .bool false, .slice none 0 0] by rw [hset]; exact HB7.out)
        have HX8 := Lib.hid (show Ext w (wr.setCell ⟨w.heap.size, 3, none⟩ (.slice A' (joinC (e.cuts.take k)).length cap')) by rw [hset]; exact HX6.out)
        have HX9 := Lib.hid (show Ext w1 wr from hx)
        have HC8 : Hid (∀ p : Addr, p.block ≠ w.heap.size → (wr.setCell ⟨w.heap.size, 3, none⟩ (.slice A' (joinC (e.cuts.take k)).length cap')).cell? p = wr.cell? p) := fun p hp => by rw [hset]; exact putB_cell_other hp
        clear hset HB6 HB7 HX6
        go_wp2_with (first | (refine wpList_loadB rfl 25 (.tmp 1) rfl w.heap.size 25 _ _ (by exact rfl) (by exact HB8.out) Tryd.underlying25 rfl (by exact rsize_list) ?_) | (refine wpList_storeB rfl 25 (.tmp 2) (.tmp 51) rfl (w.heap.size + 1) 25 _ _ (by exact rfl) (by exact rfl) (by exact HB9.out) (by exact rfl) (by exact rsize_list) (by simp [Value.oneCell']) ?_))
        have hjc : joinC (e.cuts.take k) = joinC e.cuts := by rw [HTk.out]
        refine bodyPost_ret (v := .tuple #[.agg #[.string e.title, .int .u8 e.rate, .bool e.drop, .slice A' (joinC (e.cuts.take k)).length cap'], .int .i64 0]) ?_ rfl ⟨A', (joinC (e.cuts.take k)).length, cap', by rw [HJ.out, HZ.out], ?_, hcap, ?_⟩
        · exact results_B_tmp (P := Tryd.prog) Tryd.results21 (g := w.heap.size + 1) rfl (by exact HB9.out.put _) Tryd.underlying25 rfl rsize_list
        · rw [HJ.out]
          show CutsAt _ A' (joinC (e.cuts.take k)).length (joinC e.cuts)
          rw [← hjc]
          refine CutsAt.same HS.out fun ad had o => ?_
          have hge := HO6.out ad had
          rw [putB_cell_other (by show ad.block ≠ _; omega)]
          exact HC8.out _ (by show ad.block ≠ _; omega)
        · exact HX8.out.put (by omega) _ _
end Go.Proofs.YtffianmhojiomaaDoor
