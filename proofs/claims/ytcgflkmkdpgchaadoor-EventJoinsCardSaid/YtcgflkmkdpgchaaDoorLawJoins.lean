/- The walk of the law EventJoins. -/
import Derived.Test.YtcgflkmkdpgchaaDoorAwake
import Derived.Test.YtcgflkmkdpgchaaDoorSameE
import Derived.Test.YtcgflkmkdpgchaaDoorRJoin
namespace Go.Proofs.YtcgflkmkdpgchaaDoor
set_option linter.unusedVariables false
set_option linter.unusedSimpArgs false
open Go.RowKit

theorem wp_bin {P : Program} {o : Oper} {a : Act} {w : World} {K : Act → World → Prop} {Q : Exit → Act → World → Prop} {op : BinOp} {x y : Operand} {ty ty' : TypeId} {u v r : Value} (ho : o.op = .binOp op ty x y ty') (hx : a.eval x = u) (hy : a.eval y = v) (hr : (do eqGuard op ty x y u v; binOp op ty u v : Sem Value).run P w = .ok r w) (h : K (a.put o.dst r) w) : o.wp P a w K Q := by
  unfold Oper.wp execOp
  simp only [ho, hx, hy]
  simp only [Sem.run_bind] at hr ⊢
  rw [hr]
  exact h

set_option maxRecDepth 100000 in
set_option maxHeartbeats 4000000 in
theorem EventJoins_any (x y : Ev) (A : Option Addr) (n c : Nat) (B : Option Addr) (m d : Nat) (w : World) (hE : Env w) (hex : EvAt w x A n c) (hey : EvAt w y B m d) :
    Calls Tryd.prog 6 #[.agg (x.cells A n c), .agg (y.cells B m d)] w fun en w' => en = .returned (.bool true) ∧ Ext w w' := by
  have HX0 := Lib.hid (((Ext.refl w).alloc (.cells (x.cells A n c) 27)).alloc (.cells (y.cells B m d) 27))
  have HB0 := Lib.hid ((Blk.new w 27 (x.cells A n c)).alloc (.cells (y.cells B m d) 27))
  have HC0 := Lib.hid (Blk.new' (w := w.alloc (.cells (x.cells A n c) 27)) (g := w.heap.size + 1) (t := 27) (cs := y.cells B m d) (by simp))
  have HEn := Lib.hid (hE.ext HX0.out)
  have HEx := Lib.hid hex
  have HEy := Lib.hid hey
  clear hE hex hey
  go_enter Tryd.func6, Tryd.ntmps6
  go_wp2_with fail
  refine (awake_any _ HEn.out).mono ?_
  rintro en w2 ⟨rfl, hx2⟩
  have HX2 := Lib.hid (HX0.out.trans hx2)
  have HB2 := Lib.hid (HB0.out.ext hx2)
  have HC2 := Lib.hid (HC0.out.ext hx2)
  have HEx2 := Lib.hid (HEx.out.ext HX2.out)
  have HEy2 := Lib.hid (HEy.out.ext HX2.out)
  clear hx2 HX0 HB0 HC0 HEn
  go_wp2_with (first | (refine wpList_loadB rfl 27 (.tmp 2) rfl w.heap.size 27 _ _ (by exact rfl) (by exact HB2.out) Tryd.underlying27 rfl (by exact size_event) ?_) | (refine wpList_loadB rfl 27 (.tmp 3) rfl (w.heap.size + 1) 27 _ _ (by exact rfl) (by exact HC2.out) Tryd.underlying27 rfl (by exact size_event) ?_))
  refine (Join_any x y A n c B m d w2 HEx2.out HEy2.out).mono ?_
  rintro en w4 ⟨Aj, nj, cj, rfl, hcj, hnj, hfj, hx4⟩
  generalize hj0 : x.join y = j0 at *
  generalize hk0 : x.joinErr y = k0 at *
  have HX4 := Lib.hid (HX2.out.trans hx4)
  have HB4 := Lib.hid (HB2.out.ext hx4)
  have HC4 := Lib.hid (HC2.out.ext hx4)
  have HFj := Lib.hid hfj
  have hz := Lib.hid (Blk.new w4 27 evZero)
  have hxz := Lib.hid ((Ext.refl w4).alloc (.cells evZero 27))
  clear hx4 hfj HB2 HC2 HX2 HEx2 HEy2
  unfold evZero at hz hxz
  go_upto_region 4 with (refine wpList_storeB rfl 27 (.tmp 5) (.tmp 15) rfl w4.heap.size 27 _ _ (by exact rfl) (by exact rfl) (by exact hz.out) (by exact rfl) (by exact size_event) (by simp [Ev.cells, Value.oneCell']) ?_)
  have hx5 := (hxz.out).put (Nat.le_refl _) 27 (j0.cells Aj nj cj)
  have hbj := hz.out.put (j0.cells Aj nj cj)
  have hg4 : w.heap.size + 1 < w4.heap.size := HC4.out.lt
  generalize putB (w4.alloc _) w4.heap.size 27 (j0.cells Aj nj cj) = w5 at hx5 hbj ⊢
  have HX5 := Lib.hid (HX4.out.trans hx5)
  have HB5 := Lib.hid (HB4.out.ext hx5)
  have HC5 := Lib.hid (HC4.out.ext hx5)
  have HFj5 := Lib.hid (show EvAt w5 j0 Aj nj cj from ⟨(HFj.out.ext hx5).rows, hcj, by omega⟩)
  have HBj5 := Lib.hid hbj
  have HEx5 := Lib.hid (HEx.out.ext HX5.out)
  have HEy5 := Lib.hid (HEy.out.ext HX5.out)
  clear hx5 hbj hz hxz HX4 HB4 HC4 HFj
  generalize w4.heap.size = gj at *
  go_wp2_with (first | (refine wpList_loadB rfl 27 (.tmp 2) rfl w.heap.size 27 _ _ (by exact rfl) (by exact HB5.out) Tryd.underlying27 rfl (by exact size_event) ?_) | (refine wpList_loadB rfl 27 (.tmp 3) rfl (w.heap.size + 1) 27 _ _ (by exact rfl) (by exact HC5.out) Tryd.underlying27 rfl (by exact size_event) ?_))
  refine (RJoin_any x y A n c B m d w5 HEx5.out HEy5.out).mono ?_
  rintro en w6 ⟨Ak, nk, ck, rfl, hck, hnk, hfk, hx6⟩
  rw [hj0, hk0] at *
  have HX6 := Lib.hid (HX5.out.trans hx6)
  have HB6 := Lib.hid (HB5.out.ext hx6)
  have HC6 := Lib.hid (HC5.out.ext hx6)
  have HFj6 := Lib.hid (HFj5.out.ext hx6)
  have HBj6 := Lib.hid (HBj5.out.ext hx6)
  have HFk := Lib.hid hfk
  have hz := Lib.hid (Blk.new w6 27 evZero)
  have hxz := Lib.hid ((Ext.refl w6).alloc (.cells evZero 27))
  clear hx6 hfk HX5 HB5 HC5 HFj5 HBj5 HEx5 HEy5
  unfold evZero at hz hxz
  go_upto_region 5 with (refine wpList_storeB rfl 27 (.tmp 7) (.tmp 21) rfl w6.heap.size 27 _ _ (by exact rfl) (by exact rfl) (by exact hz.out) (by exact rfl) (by exact size_event) (by simp [Ev.cells, Value.oneCell']) ?_)
  have hx7 := (hxz.out).put (Nat.le_refl _) 27 (j0.cells Ak nk ck)
  have hbk := hz.out.put (j0.cells Ak nk ck)
  generalize putB (w6.alloc _) w6.heap.size 27 (j0.cells Ak nk ck) = w7 at hx7 hbk ⊢
  have HX7 := Lib.hid (HX6.out.trans hx7)
  have HBx := Lib.hid (HB6.out.ext hx7)
  have HBy := Lib.hid (HC6.out.ext hx7)
  have HFj7 := Lib.hid (HFj6.out.ext hx7)
  have HBj := Lib.hid (HBj6.out.ext hx7)
  have HFk7 := Lib.hid (show EvAt w7 j0 Ak nk ck from ⟨(HFk.out.ext hx7).rows, hck, by omega⟩)
  have HBk := Lib.hid hbk
  have HEx7 := Lib.hid (HEx.out.ext HX7.out)
  have HEy7 := Lib.hid (HEy.out.ext HX7.out)
  clear hx7 hbk hz hxz HX6 HB6 HC6 HFj6 HBj6 HFk
  generalize w6.heap.size = gk at *
  have HSj := Lib.hid (fun w' hx => by have := RESame_any j0 j0 Aj nj cj Ak nk ck w' (HFj7.out.ext hx) (HFk7.out.ext hx); rwa [decide_eq_true rfl] at this : ∀ w', Ext w7 w' → Calls Tryd.prog 11 #[.agg (j0.cells Aj nj cj), .agg (j0.cells Ak nk ck)] w' fun e w'' => e = .returned (.bool true) ∧ Ext w' w'')
  have HSxy := Lib.hid (fun w' hx => ESame_any x y A n c B m d w' (HEx7.out.ext hx) (HEy7.out.ext hx) : ∀ w', Ext w7 w' → Calls Tryd.prog 18 #[.agg (x.cells A n c), .agg (y.cells B m d)] w' fun e w'' => e = .returned (.bool (decide (x = y))) ∧ Ext w' w'')
  have HRxy := Lib.hid (fun w' hx => RESame_any x y A n c B m d w' (HEx7.out.ext hx) (HEy7.out.ext hx) : ∀ w', Ext w7 w' → Calls Tryd.prog 11 #[.agg (x.cells A n c), .agg (y.cells B m d)] w' fun e w'' => e = .returned (.bool (decide (x = y))) ∧ Ext w' w'')
  have HSxx := Lib.hid (fun w' hx => by have := ESame_any x x A n c A n c w' (HEx7.out.ext hx) (HEx7.out.ext hx); rwa [decide_eq_true rfl] at this : ∀ w', Ext w7 w' → Calls Tryd.prog 18 #[.agg (x.cells A n c), .agg (x.cells A n c)] w' fun e w'' => e = .returned (.bool true) ∧ Ext w' w'')
  refine wp_region_vals [.int .i64 k0, .int .i64 k0, .bool true, .bool true, .agg (j0.cells Aj nj cj), .agg (j0.cells Ak nk ck), .bool true, .bool true, .bool true, .agg (x.cells A n c), .agg (y.cells B m d), .bool (decide (x = y)), .agg (x.cells A n c), .agg (y.cells B m d), .bool (decide (x = y)), .bool true, .bool true, .bool true, .agg (x.cells A n c), .agg (x.cells A n c), .bool true, .bool true, .bool true] _ (by kernel_rfl) (by kernel_rfl) (by kernel_rfl) rfl rfl ?_ ?_
  · intro i o ho a w' K' hx hn hd hk
    match i, ho with
    | 0, ho =>
      simp only [List.getElem?_toArray, List.getElem?_cons_zero, List.getElem?_cons_succ, Option.some.injEq] at ho
      subst ho
      refine want_none rfl ?_
      exact wp_move _ _ rfl ((hn 6 rfl).trans rfl) (hk _ rfl w' (Ext.refl _))
    | 1, ho =>
      simp only [List.getElem?_toArray, List.getElem?_cons_zero, List.getElem?_cons_succ, Option.some.injEq] at ho
      subst ho
      refine want_none rfl ?_
      exact wp_move _ _ rfl ((hn 8 rfl).trans rfl) (hk _ rfl w' (Ext.refl _))
    | 2, ho =>
      simp only [List.getElem?_toArray, List.getElem?_cons_zero, List.getElem?_cons_succ, Option.some.injEq] at ho
      subst ho
      refine want_none rfl ?_
      exact wp_bin rfl (eval_of (hd 0 23 (.int .i64 k0) rfl rfl rfl)) (eval_of (hd 1 24 (.int .i64 k0) rfl rfl rfl)) (by go_simp) (hk _ rfl w' (Ext.refl _))
    | 3, ho =>
      simp only [List.getElem?_toArray, List.getElem?_cons_zero, List.getElem?_cons_succ, Option.some.injEq] at ho
      subst ho
      refine want_none rfl ?_
      exact wp_move _ _ rfl (eval_of (hd 2 25 (.bool true) rfl rfl rfl)) (hk _ rfl w' (Ext.refl _))
    | 4, ho =>
      simp only [List.getElem?_toArray, List.getElem?_cons_zero, List.getElem?_cons_succ, Option.some.injEq] at ho
      subst ho
      refine want_yes rfl rfl (hd 3 26 (.bool true) rfl rfl rfl) rfl ?_
      exact wp_loadB 27 (.tmp 5) rfl _ 27 _ _ ((hn 5 rfl).trans rfl) (HBj.out.ext hx) Tryd.underlying27 rfl (by exact size_event) (hk _ rfl w' (Ext.refl _))
    | 5, ho =>
      simp only [List.getElem?_toArray, List.getElem?_cons_zero, List.getElem?_cons_succ, Option.some.injEq] at ho
      subst ho
      refine want_yes rfl rfl (hd 3 26 (.bool true) rfl rfl rfl) rfl ?_
      exact wp_loadB 27 (.tmp 7) rfl _ 27 _ _ ((hn 7 rfl).trans rfl) (HBk.out.ext hx) Tryd.underlying27 rfl (by exact size_event) (hk _ rfl w' (Ext.refl _))
    | 6, ho =>
      simp only [List.getElem?_toArray, List.getElem?_cons_zero, List.getElem?_cons_succ, Option.some.injEq] at ho
      subst ho
      refine want_yes rfl rfl (hd 3 26 (.bool true) rfl rfl rfl) rfl ?_
      exact wp_call2 rfl (eval_of (hd 4 27 (.agg (j0.cells Aj nj cj)) rfl rfl rfl)) (eval_of (hd 5 28 (.agg (j0.cells Ak nk ck)) rfl rfl rfl)) Tryd.call11 (HSj.out w' hx) (hk _ rfl)
    | 7, ho =>
      simp only [List.getElem?_toArray, List.getElem?_cons_zero, List.getElem?_cons_succ, Option.some.injEq] at ho
      subst ho
      refine want_none rfl ?_
      exact wp_pick _ _ _ true _ rfl (eval_of (hd 3 26 (.bool true) rfl rfl rfl)) (by exact (eval_of (hd 6 29 (.bool true) rfl rfl rfl))) (hk _ rfl w' (Ext.refl _))
    | 8, ho =>
      simp only [List.getElem?_toArray, List.getElem?_cons_zero, List.getElem?_cons_succ, Option.some.injEq] at ho
      subst ho
      refine want_none rfl ?_
      exact wp_move _ _ rfl (eval_of (hd 7 30 (.bool true) rfl rfl rfl)) (hk _ rfl w' (Ext.refl _))
    | 9, ho =>
      simp only [List.getElem?_toArray, List.getElem?_cons_zero, List.getElem?_cons_succ, Option.some.injEq] at ho
      subst ho
      refine want_yes rfl rfl (hd 8 31 (.bool true) rfl rfl rfl) rfl ?_
      exact wp_loadB 27 (.tmp 2) rfl _ 27 _ _ ((hn 2 rfl).trans rfl) (HBx.out.ext hx) Tryd.underlying27 rfl (by exact size_event) (hk _ rfl w' (Ext.refl _))
    | 10, ho =>
      simp only [List.getElem?_toArray, List.getElem?_cons_zero, List.getElem?_cons_succ, Option.some.injEq] at ho
      subst ho
      refine want_yes rfl rfl (hd 8 31 (.bool true) rfl rfl rfl) rfl ?_
      exact wp_loadB 27 (.tmp 3) rfl _ 27 _ _ ((hn 3 rfl).trans rfl) (HBy.out.ext hx) Tryd.underlying27 rfl (by exact size_event) (hk _ rfl w' (Ext.refl _))
    | 11, ho =>
      simp only [List.getElem?_toArray, List.getElem?_cons_zero, List.getElem?_cons_succ, Option.some.injEq] at ho
      subst ho
      refine want_yes rfl rfl (hd 8 31 (.bool true) rfl rfl rfl) rfl ?_
      exact wp_call2 rfl (eval_of (hd 9 32 (.agg (x.cells A n c)) rfl rfl rfl)) (eval_of (hd 10 33 (.agg (y.cells B m d)) rfl rfl rfl)) Tryd.call18 (HSxy.out w' hx) (hk _ rfl)
    | 12, ho =>
      simp only [List.getElem?_toArray, List.getElem?_cons_zero, List.getElem?_cons_succ, Option.some.injEq] at ho
      subst ho
      refine want_yes rfl rfl (hd 8 31 (.bool true) rfl rfl rfl) rfl ?_
      exact wp_loadB 27 (.tmp 2) rfl _ 27 _ _ ((hn 2 rfl).trans rfl) (HBx.out.ext hx) Tryd.underlying27 rfl (by exact size_event) (hk _ rfl w' (Ext.refl _))
    | 13, ho =>
      simp only [List.getElem?_toArray, List.getElem?_cons_zero, List.getElem?_cons_succ, Option.some.injEq] at ho
      subst ho
      refine want_yes rfl rfl (hd 8 31 (.bool true) rfl rfl rfl) rfl ?_
      exact wp_loadB 27 (.tmp 3) rfl _ 27 _ _ ((hn 3 rfl).trans rfl) (HBy.out.ext hx) Tryd.underlying27 rfl (by exact size_event) (hk _ rfl w' (Ext.refl _))
    | 14, ho =>
      simp only [List.getElem?_toArray, List.getElem?_cons_zero, List.getElem?_cons_succ, Option.some.injEq] at ho
      subst ho
      refine want_yes rfl rfl (hd 8 31 (.bool true) rfl rfl rfl) rfl ?_
      exact wp_call2 rfl (eval_of (hd 12 35 (.agg (x.cells A n c)) rfl rfl rfl)) (eval_of (hd 13 36 (.agg (y.cells B m d)) rfl rfl rfl)) Tryd.call11 (HRxy.out w' hx) (hk _ rfl)
    | 15, ho =>
      simp only [List.getElem?_toArray, List.getElem?_cons_zero, List.getElem?_cons_succ, Option.some.injEq] at ho
      subst ho
      refine want_yes rfl rfl (hd 8 31 (.bool true) rfl rfl rfl) rfl ?_
      exact wp_bin rfl (eval_of (hd 11 34 (.bool (decide (x = y))) rfl rfl rfl)) (eval_of (hd 14 37 (.bool (decide (x = y))) rfl rfl rfl)) (by go_simp) (hk _ rfl w' (Ext.refl _))
    | 16, ho =>
      simp only [List.getElem?_toArray, List.getElem?_cons_zero, List.getElem?_cons_succ, Option.some.injEq] at ho
      subst ho
      refine want_none rfl ?_
      exact wp_pick _ _ _ true _ rfl (eval_of (hd 8 31 (.bool true) rfl rfl rfl)) (by exact (eval_of (hd 15 38 (.bool true) rfl rfl rfl))) (hk _ rfl w' (Ext.refl _))
    | 17, ho =>
      simp only [List.getElem?_toArray, List.getElem?_cons_zero, List.getElem?_cons_succ, Option.some.injEq] at ho
      subst ho
      refine want_none rfl ?_
      exact wp_move _ _ rfl (eval_of (hd 16 39 (.bool true) rfl rfl rfl)) (hk _ rfl w' (Ext.refl _))
    | 18, ho =>
      simp only [List.getElem?_toArray, List.getElem?_cons_zero, List.getElem?_cons_succ, Option.some.injEq] at ho
      subst ho
      refine want_yes rfl rfl (hd 17 40 (.bool true) rfl rfl rfl) rfl ?_
      exact wp_loadB 27 (.tmp 2) rfl _ 27 _ _ ((hn 2 rfl).trans rfl) (HBx.out.ext hx) Tryd.underlying27 rfl (by exact size_event) (hk _ rfl w' (Ext.refl _))
    | 19, ho =>
      simp only [List.getElem?_toArray, List.getElem?_cons_zero, List.getElem?_cons_succ, Option.some.injEq] at ho
      subst ho
      refine want_yes rfl rfl (hd 17 40 (.bool true) rfl rfl rfl) rfl ?_
      exact wp_loadB 27 (.tmp 2) rfl _ 27 _ _ ((hn 2 rfl).trans rfl) (HBx.out.ext hx) Tryd.underlying27 rfl (by exact size_event) (hk _ rfl w' (Ext.refl _))
    | 20, ho =>
      simp only [List.getElem?_toArray, List.getElem?_cons_zero, List.getElem?_cons_succ, Option.some.injEq] at ho
      subst ho
      refine want_yes rfl rfl (hd 17 40 (.bool true) rfl rfl rfl) rfl ?_
      exact wp_call2 rfl (eval_of (hd 18 41 (.agg (x.cells A n c)) rfl rfl rfl)) (eval_of (hd 19 42 (.agg (x.cells A n c)) rfl rfl rfl)) Tryd.call18 (HSxx.out w' hx) (hk _ rfl)
    | 21, ho =>
      simp only [List.getElem?_toArray, List.getElem?_cons_zero, List.getElem?_cons_succ, Option.some.injEq] at ho
      subst ho
      refine want_none rfl ?_
      exact wp_pick _ _ _ true _ rfl (eval_of (hd 17 40 (.bool true) rfl rfl rfl)) (by exact (eval_of (hd 20 43 (.bool true) rfl rfl rfl))) (hk _ rfl w' (Ext.refl _))
    | 22, ho =>
      simp only [List.getElem?_toArray, List.getElem?_cons_zero, List.getElem?_cons_succ, Option.some.injEq] at ho
      subst ho
      refine want_none rfl ?_
      exact wp_assignx _ _ rfl (eval_of (hd 21 44 (.bool true) rfl rfl rfl)) (hk _ rfl w' (Ext.refl _))
    | i + 23, ho => simp at ho
  intro w8 hx8
  rename_i hK
  refine hK _ _ ?_
  clear hK
  simp only [Act.put, List.zip_cons_cons, List.map_cons, List.map_nil, Option.getD_some, List.zip_nil_right, List.foldl_cons, List.foldl_nil, List.setIfInBounds_toArray, List.set_cons_zero, List.set_cons_succ]
  have HX8 := Lib.hid (HX7.out.trans hx8)
  clear hx8
  go_wp2_with fail
  go_ret
  exact ⟨rfl, HX8.out⟩
end Go.Proofs.YtcgflkmkdpgchaaDoor
