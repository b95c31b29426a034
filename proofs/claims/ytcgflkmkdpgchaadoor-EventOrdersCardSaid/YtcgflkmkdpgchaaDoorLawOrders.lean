/- The walk of the law EventOrders. -/
import Derived.Test.YtcgflkmkdpgchaaDoorAwake
import Derived.Test.YtcgflkmkdpgchaaDoorLess
import Derived.Test.YtcgflkmkdpgchaaDoorRegionDet
namespace Go.Proofs.YtcgflkmkdpgchaaDoor
set_option linter.unusedVariables false
set_option linter.unusedSimpArgs false
open Go.RowKit

theorem less_self (x : Ev) : lessB x x = false := by unfold lessB; exact decide_eq_false (by omega)
theorem less_asymm {x y : Ev} (h : lessB x y = true) : lessB y x = false := by
  unfold lessB at *
  simp only [decide_eq_true_eq, decide_eq_false_iff_not] at *
  omega
theorem less_total {x y : Ev} (h : lessB x y = false) (h2 : lessB y x = false) : x.id = y.id := by
  unfold lessB at *
  simp only [decide_eq_false_iff_not] at *
  omega
theorem less_trans {x y z : Ev} (h : lessB x y = true) (h2 : lessB y z = true) : lessB x z = true := by
  unfold lessB at *
  simp only [decide_eq_true_eq] at *
  omega

set_option maxRecDepth 100000 in
set_option maxHeartbeats 8000000 in
theorem orders_ahead (x y z : Ev) (A : Option Addr) (n c : Nat) (B : Option Addr) (m d : Nat) (C : Option Addr) (k e : Nat) (w : World) (hE : Env w) (hxy : lessB x y = true) :
    Calls Tryd.prog 4 #[.agg (x.cells A n c), .agg (y.cells B m d), .agg (z.cells C k e)] w fun en w' => en = .returned (.bool true) ∧ Ext w w' := by
  have HLxx := Lib.hid (fun w => by have := Less_any x x A n c A n c w; rwa [less_self x] at this : ∀ w, Calls Tryd.prog 12 #[.agg (x.cells A n c), .agg (x.cells A n c)] w fun en w' => en = .returned (.bool false) ∧ Ext w w')
  have HLxy := Lib.hid (fun w => by have := Less_any x y A n c B m d w; rwa [hxy] at this : ∀ w, Calls Tryd.prog 12 #[.agg (x.cells A n c), .agg (y.cells B m d)] w fun en w' => en = .returned (.bool true) ∧ Ext w w')
  have HRxy := Lib.hid (fun w => by have := RLess_any x y A n c B m d w; rwa [hxy] at this : ∀ w, Calls Tryd.prog 13 #[.agg (x.cells A n c), .agg (y.cells B m d)] w fun en w' => en = .returned (.bool true) ∧ Ext w w')
  have HLyx := Lib.hid (fun w => by have := Less_any y x B m d A n c w; rwa [less_asymm hxy] at this : ∀ w, Calls Tryd.prog 12 #[.agg (y.cells B m d), .agg (x.cells A n c)] w fun en w' => en = .returned (.bool false) ∧ Ext w w')
  have HX0 := Lib.hid ((((Ext.refl w).alloc (.cells (x.cells A n c) 27)).alloc (.cells (y.cells B m d) 27)).alloc (.cells (z.cells C k e) 27))
  have HBx := Lib.hid (((Blk.new w 27 (x.cells A n c)).alloc (.cells (y.cells B m d) 27)).alloc (.cells (z.cells C k e) 27))
  have HBy := Lib.hid ((Blk.new' (w := w.alloc (.cells (x.cells A n c) 27)) (g := w.heap.size + 1) (t := 27) (cs := y.cells B m d) (by simp)).alloc (.cells (z.cells C k e) 27))
  have HBz := Lib.hid (Blk.new' (w := (w.alloc (.cells (x.cells A n c) 27)).alloc (.cells (y.cells B m d) 27)) (g := w.heap.size + 1 + 1) (t := 27) (cs := z.cells C k e) (by simp))
  have HEn := Lib.hid (hE.ext HX0.out)
  clear hE
  go_enter Tryd.func4, Tryd.ntmps4
  go_wp2_with fail
  refine (awake_any _ HEn.out).mono ?_
  rintro en w2 ⟨rfl, hx2⟩
  have HX2 := Lib.hid (HX0.out.trans hx2)
  have HBx2 := Lib.hid (HBx.out.ext hx2)
  have HBy2 := Lib.hid (HBy.out.ext hx2)
  have HBz2 := Lib.hid (HBz.out.ext hx2)
  clear hx2 HX0 HBx HBy HBz HEn
  go_wp2_with fail
  refine wp_region_vals [.agg (x.cells A n c), .agg (x.cells A n c), .bool false, .bool false, .agg (x.cells A n c), .agg (y.cells B m d), .bool true, .agg (x.cells A n c), .agg (y.cells B m d), .bool true, .bool false, .bool false, .bool false, .agg (x.cells A n c), .agg (y.cells B m d), .bool true, .bool true, .agg (y.cells B m d), .agg (x.cells A n c), .bool false, .bool false, .bool false] _ (by kernel_rfl) (by simp [dstOK]) (by simp [ordB, Region.binds]) rfl rfl ?_ ?_
  · intro i o ho a w' K' hx hn hd hk
    match i, ho with
    | 0, ho =>
      simp only [List.getElem?_toArray, List.getElem?_cons_zero, List.getElem?_cons_succ, Option.some.injEq] at ho
      subst ho
      refine want_none rfl ?_
      exact wp_loadB 27 (.tmp 3) rfl _ 27 _ _ ((hn 3 rfl).trans rfl) (HBx2.out.ext hx) Tryd.underlying27 rfl (by exact size_event) (hk _ rfl w' (Ext.refl _))
    | 1, ho =>
      simp only [List.getElem?_toArray, List.getElem?_cons_zero, List.getElem?_cons_succ, Option.some.injEq] at ho
      subst ho
      refine want_none rfl ?_
      exact wp_loadB 27 (.tmp 3) rfl _ 27 _ _ ((hn 3 rfl).trans rfl) (HBx2.out.ext hx) Tryd.underlying27 rfl (by exact size_event) (hk _ rfl w' (Ext.refl _))
    | 2, ho =>
      simp only [List.getElem?_toArray, List.getElem?_cons_zero, List.getElem?_cons_succ, Option.some.injEq] at ho
      subst ho
      refine want_none rfl ?_
      exact wp_call2 rfl (eval_of (hd 0 9 (.agg (x.cells A n c)) rfl rfl rfl)) (eval_of (hd 1 10 (.agg (x.cells A n c)) rfl rfl rfl)) Tryd.call12 (HLxx.out w') (hk _ rfl)
    | 3, ho =>
      simp only [List.getElem?_toArray, List.getElem?_cons_zero, List.getElem?_cons_succ, Option.some.injEq] at ho
      subst ho
      refine want_none rfl ?_
      exact wp_move _ _ rfl (eval_of (hd 2 11 (.bool false) rfl rfl rfl)) (hk _ rfl w' (Ext.refl _))
    | 4, ho =>
      simp only [List.getElem?_toArray, List.getElem?_cons_zero, List.getElem?_cons_succ, Option.some.injEq] at ho
      subst ho
      refine want_yes rfl rfl (hd 3 12 (.bool false) rfl rfl rfl) rfl ?_
      exact wp_loadB 27 (.tmp 3) rfl _ 27 _ _ ((hn 3 rfl).trans rfl) (HBx2.out.ext hx) Tryd.underlying27 rfl (by exact size_event) (hk _ rfl w' (Ext.refl _))
    | 5, ho =>
      simp only [List.getElem?_toArray, List.getElem?_cons_zero, List.getElem?_cons_succ, Option.some.injEq] at ho
      subst ho
      refine want_yes rfl rfl (hd 3 12 (.bool false) rfl rfl rfl) rfl ?_
      exact wp_loadB 27 (.tmp 4) rfl _ 27 _ _ ((hn 4 rfl).trans rfl) (HBy2.out.ext hx) Tryd.underlying27 rfl (by exact size_event) (hk _ rfl w' (Ext.refl _))
    | 6, ho =>
      simp only [List.getElem?_toArray, List.getElem?_cons_zero, List.getElem?_cons_succ, Option.some.injEq] at ho
      subst ho
      refine want_yes rfl rfl (hd 3 12 (.bool false) rfl rfl rfl) rfl ?_
      exact wp_call2 rfl (eval_of (hd 4 13 (.agg (x.cells A n c)) rfl rfl rfl)) (eval_of (hd 5 14 (.agg (y.cells B m d)) rfl rfl rfl)) Tryd.call12 (HLxy.out w') (hk _ rfl)
    | 7, ho =>
      simp only [List.getElem?_toArray, List.getElem?_cons_zero, List.getElem?_cons_succ, Option.some.injEq] at ho
      subst ho
      refine want_yes rfl rfl (hd 3 12 (.bool false) rfl rfl rfl) rfl ?_
      exact wp_loadB 27 (.tmp 3) rfl _ 27 _ _ ((hn 3 rfl).trans rfl) (HBx2.out.ext hx) Tryd.underlying27 rfl (by exact size_event) (hk _ rfl w' (Ext.refl _))
    | 8, ho =>
      simp only [List.getElem?_toArray, List.getElem?_cons_zero, List.getElem?_cons_succ, Option.some.injEq] at ho
      subst ho
      refine want_yes rfl rfl (hd 3 12 (.bool false) rfl rfl rfl) rfl ?_
      exact wp_loadB 27 (.tmp 4) rfl _ 27 _ _ ((hn 4 rfl).trans rfl) (HBy2.out.ext hx) Tryd.underlying27 rfl (by exact size_event) (hk _ rfl w' (Ext.refl _))
    | 9, ho =>
      simp only [List.getElem?_toArray, List.getElem?_cons_zero, List.getElem?_cons_succ, Option.some.injEq] at ho
      subst ho
      refine want_yes rfl rfl (hd 3 12 (.bool false) rfl rfl rfl) rfl ?_
      exact wp_call2 rfl (eval_of (hd 7 16 (.agg (x.cells A n c)) rfl rfl rfl)) (eval_of (hd 8 17 (.agg (y.cells B m d)) rfl rfl rfl)) Tryd.call13 (HRxy.out w') (hk _ rfl)
    | 10, ho =>
      simp only [List.getElem?_toArray, List.getElem?_cons_zero, List.getElem?_cons_succ, Option.some.injEq] at ho
      subst ho
      refine want_yes rfl rfl (hd 3 12 (.bool false) rfl rfl rfl) rfl ?_
      exact wp_neqB rfl (eval_of (hd 6 15 (.bool true) rfl rfl rfl)) (eval_of (hd 9 18 (.bool true) rfl rfl rfl)) (by go_simp) (hk _ rfl w' (Ext.refl _))
    | 11, ho =>
      simp only [List.getElem?_toArray, List.getElem?_cons_zero, List.getElem?_cons_succ, Option.some.injEq] at ho
      subst ho
      refine want_none rfl ?_
      exact wp_pick _ _ _ false _ rfl (eval_of (hd 3 12 (.bool false) rfl rfl rfl)) (by exact (eval_of (hd 10 19 (.bool false) rfl rfl rfl))) (hk _ rfl w' (Ext.refl _))
    | 12, ho =>
      simp only [List.getElem?_toArray, List.getElem?_cons_zero, List.getElem?_cons_succ, Option.some.injEq] at ho
      subst ho
      refine want_none rfl ?_
      exact wp_move _ _ rfl (eval_of (hd 11 20 (.bool false) rfl rfl rfl)) (hk _ rfl w' (Ext.refl _))
    | 13, ho =>
      simp only [List.getElem?_toArray, List.getElem?_cons_zero, List.getElem?_cons_succ, Option.some.injEq] at ho
      subst ho
      refine want_yes rfl rfl (hd 12 21 (.bool false) rfl rfl rfl) rfl ?_
      exact wp_loadB 27 (.tmp 3) rfl _ 27 _ _ ((hn 3 rfl).trans rfl) (HBx2.out.ext hx) Tryd.underlying27 rfl (by exact size_event) (hk _ rfl w' (Ext.refl _))
    | 14, ho =>
      simp only [List.getElem?_toArray, List.getElem?_cons_zero, List.getElem?_cons_succ, Option.some.injEq] at ho
      subst ho
      refine want_yes rfl rfl (hd 12 21 (.bool false) rfl rfl rfl) rfl ?_
      exact wp_loadB 27 (.tmp 4) rfl _ 27 _ _ ((hn 4 rfl).trans rfl) (HBy2.out.ext hx) Tryd.underlying27 rfl (by exact size_event) (hk _ rfl w' (Ext.refl _))
    | 15, ho =>
      simp only [List.getElem?_toArray, List.getElem?_cons_zero, List.getElem?_cons_succ, Option.some.injEq] at ho
      subst ho
      refine want_yes rfl rfl (hd 12 21 (.bool false) rfl rfl rfl) rfl ?_
      exact wp_call2 rfl (eval_of (hd 13 22 (.agg (x.cells A n c)) rfl rfl rfl)) (eval_of (hd 14 23 (.agg (y.cells B m d)) rfl rfl rfl)) Tryd.call12 (HLxy.out w') (hk _ rfl)
    | 16, ho =>
      simp only [List.getElem?_toArray, List.getElem?_cons_zero, List.getElem?_cons_succ, Option.some.injEq] at ho
      subst ho
      refine want_yes rfl rfl (hd 12 21 (.bool false) rfl rfl rfl) rfl ?_
      exact wp_move _ _ rfl (eval_of (hd 15 24 (.bool true) rfl rfl rfl)) (hk _ rfl w' (Ext.refl _))
    | 17, ho =>
      simp only [List.getElem?_toArray, List.getElem?_cons_zero, List.getElem?_cons_succ, Option.some.injEq] at ho
      subst ho
      refine want_yes rfl rfl (hd 16 25 (.bool true) rfl rfl rfl) rfl ?_
      exact wp_loadB 27 (.tmp 4) rfl _ 27 _ _ ((hn 4 rfl).trans rfl) (HBy2.out.ext hx) Tryd.underlying27 rfl (by exact size_event) (hk _ rfl w' (Ext.refl _))
    | 18, ho =>
      simp only [List.getElem?_toArray, List.getElem?_cons_zero, List.getElem?_cons_succ, Option.some.injEq] at ho
      subst ho
      refine want_yes rfl rfl (hd 16 25 (.bool true) rfl rfl rfl) rfl ?_
      exact wp_loadB 27 (.tmp 3) rfl _ 27 _ _ ((hn 3 rfl).trans rfl) (HBx2.out.ext hx) Tryd.underlying27 rfl (by exact size_event) (hk _ rfl w' (Ext.refl _))
    | 19, ho =>
      simp only [List.getElem?_toArray, List.getElem?_cons_zero, List.getElem?_cons_succ, Option.some.injEq] at ho
      subst ho
      refine want_yes rfl rfl (hd 16 25 (.bool true) rfl rfl rfl) rfl ?_
      exact wp_call2 rfl (eval_of (hd 17 26 (.agg (y.cells B m d)) rfl rfl rfl)) (eval_of (hd 18 27 (.agg (x.cells A n c)) rfl rfl rfl)) Tryd.call12 (HLyx.out w') (hk _ rfl)
    | 20, ho =>
      simp only [List.getElem?_toArray, List.getElem?_cons_zero, List.getElem?_cons_succ, Option.some.injEq] at ho
      subst ho
      refine want_yes rfl rfl (hd 12 21 (.bool false) rfl rfl rfl) rfl ?_
      exact wp_pick _ _ _ true _ rfl (eval_of (hd 16 25 (.bool true) rfl rfl rfl)) (by exact (eval_of (hd 19 28 (.bool false) rfl rfl rfl))) (hk _ rfl w' (Ext.refl _))
    | 21, ho =>
      simp only [List.getElem?_toArray, List.getElem?_cons_zero, List.getElem?_cons_succ, Option.some.injEq] at ho
      subst ho
      refine want_none rfl ?_
      exact wp_pick _ _ _ false _ rfl (eval_of (hd 12 21 (.bool false) rfl rfl rfl)) (by exact (eval_of (hd 20 29 (.bool false) rfl rfl rfl))) (hk _ rfl w' (Ext.refl _))
    | i + 22, ho => simp at ho
  intro w3 hx3
  rename_i hK
  refine hK _ _ ?_
  clear hK
  simp only [List.zip_cons_cons, List.map_cons, List.map_nil, Option.getD_some, List.zip_nil_right, List.foldl_cons, List.foldl_nil, List.setIfInBounds_toArray, List.set_cons_zero, List.set_cons_succ]
  have HX3 := Lib.hid (HX2.out.trans hx3)
  have HBx3 := Lib.hid (HBx2.out.ext hx3)
  have HBy3 := Lib.hid (HBy2.out.ext hx3)
  have HBz3 := Lib.hid (HBz2.out.ext hx3)
  have hcx3 := fun o => HBx3.out.cell o
  have hcy3 := fun o => HBy3.out.cell o
  have hcz3 := fun o => HBz3.out.cell o
  clear hx3 HX2 HBx2 HBy2 HBz2
  unfold Ev.cells at hcx3 hcy3 hcz3
  cases hid : (x.id != y.id) with
  | false =>
    go_wp2_with fail
    refine (HLxy.out _).mono ?_
    rintro en w4 ⟨rfl, hx4⟩
    have HX4 := Lib.hid (HX3.out.trans hx4); have HBx4 := Lib.hid (HBx3.out.ext hx4); have HBy4 := Lib.hid (HBy3.out.ext hx4); have HBz4 := Lib.hid (HBz3.out.ext hx4); have hcx4 := fun o => HBx4.out.cell o; have hcy4 := fun o => HBy4.out.cell o; have hcz4 := fun o => HBz4.out.cell o; clear hx4 HX3 HBx3 HBy3 HBz3 hcx3 hcy3 hcz3; unfold Ev.cells at hcx4 hcy4 hcz4
    go_wp2_with fail
    cases hyz : lessB y z with
    | false =>
      have HLyz := Lib.hid (fun w => by have := Less_any y z B m d C k e w; rwa [hyz] at this : ∀ w, Calls Tryd.prog 12 #[.agg (y.cells B m d), .agg (z.cells C k e)] w fun en w' => en = .returned (.bool false) ∧ Ext w w')
      refine (HLyz.out _).mono ?_
      rintro en w5 ⟨rfl, hx5⟩
      have HX5 := Lib.hid (HX4.out.trans hx5); have HBx5 := Lib.hid (HBx4.out.ext hx5); have HBy5 := Lib.hid (HBy4.out.ext hx5); have HBz5 := Lib.hid (HBz4.out.ext hx5); have hcx5 := fun o => HBx5.out.cell o; have hcy5 := fun o => HBy5.out.cell o; have hcz5 := fun o => HBz5.out.cell o; clear hx5 HX4 HBx4 HBy4 HBz4 hcx4 hcy4 hcz4; unfold Ev.cells at hcx5 hcy5 hcz5
      go_wp2_with fail
      go_ret
      exact ⟨rfl, HX5.out⟩
    | true =>
      have HLyz := Lib.hid (fun w => by have := Less_any y z B m d C k e w; rwa [hyz] at this : ∀ w, Calls Tryd.prog 12 #[.agg (y.cells B m d), .agg (z.cells C k e)] w fun en w' => en = .returned (.bool true) ∧ Ext w w')
      have HLxz := Lib.hid (fun w => by have := Less_any x z A n c C k e w; rwa [less_trans hxy hyz] at this : ∀ w, Calls Tryd.prog 12 #[.agg (x.cells A n c), .agg (z.cells C k e)] w fun en w' => en = .returned (.bool true) ∧ Ext w w')
      refine (HLyz.out _).mono ?_
      rintro en w5 ⟨rfl, hx5⟩
      have HX5 := Lib.hid (HX4.out.trans hx5); have HBx5 := Lib.hid (HBx4.out.ext hx5); have HBy5 := Lib.hid (HBy4.out.ext hx5); have HBz5 := Lib.hid (HBz4.out.ext hx5); have hcx5 := fun o => HBx5.out.cell o; have hcy5 := fun o => HBy5.out.cell o; have hcz5 := fun o => HBz5.out.cell o; clear hx5 HX4 HBx4 HBy4 HBz4 hcx4 hcy4 hcz4; unfold Ev.cells at hcx5 hcy5 hcz5
      go_wp2_with fail
      refine (HLxz.out _).mono ?_
      rintro en w6 ⟨rfl, hx6⟩
      have HX6 := Lib.hid (HX5.out.trans hx6); have HBx6 := Lib.hid (HBx5.out.ext hx6); have HBy6 := Lib.hid (HBy5.out.ext hx6); have HBz6 := Lib.hid (HBz5.out.ext hx6); have hcx6 := fun o => HBx6.out.cell o; have hcy6 := fun o => HBy6.out.cell o; have hcz6 := fun o => HBz6.out.cell o; clear hx6 HX5 HBx5 HBy5 HBz5 hcx5 hcy5 hcz5; unfold Ev.cells at hcx6 hcy6 hcz6
      go_wp2_with fail
      go_ret
      exact ⟨rfl, HX6.out⟩
  | true =>
    go_wp2_with fail
    refine (HLxy.out _).mono ?_
    rintro en w4 ⟨rfl, hx4⟩
    have HX4 := Lib.hid (HX3.out.trans hx4); have HBx4 := Lib.hid (HBx3.out.ext hx4); have HBy4 := Lib.hid (HBy3.out.ext hx4); have HBz4 := Lib.hid (HBz3.out.ext hx4); have hcx4 := fun o => HBx4.out.cell o; have hcy4 := fun o => HBy4.out.cell o; have hcz4 := fun o => HBz4.out.cell o; clear hx4 HX3 HBx3 HBy3 HBz3 hcx3 hcy3 hcz3; unfold Ev.cells at hcx4 hcy4 hcz4
    go_wp2_with fail
    refine (HLxy.out _).mono ?_
    rintro en w5 ⟨rfl, hx5⟩
    have HX5 := Lib.hid (HX4.out.trans hx5); have HBx5 := Lib.hid (HBx4.out.ext hx5); have HBy5 := Lib.hid (HBy4.out.ext hx5); have HBz5 := Lib.hid (HBz4.out.ext hx5); have hcx5 := fun o => HBx5.out.cell o; have hcy5 := fun o => HBy5.out.cell o; have hcz5 := fun o => HBz5.out.cell o; clear hx5 HX4 HBx4 HBy4 HBz4 hcx4 hcy4 hcz4; unfold Ev.cells at hcx5 hcy5 hcz5
    go_wp2_with fail
    cases hyz : lessB y z with
    | false =>
      have HLyz := Lib.hid (fun w => by have := Less_any y z B m d C k e w; rwa [hyz] at this : ∀ w, Calls Tryd.prog 12 #[.agg (y.cells B m d), .agg (z.cells C k e)] w fun en w' => en = .returned (.bool false) ∧ Ext w w')
      refine (HLyz.out _).mono ?_
      rintro en w6 ⟨rfl, hx6⟩
      have HX6 := Lib.hid (HX5.out.trans hx6); have HBx6 := Lib.hid (HBx5.out.ext hx6); have HBy6 := Lib.hid (HBy5.out.ext hx6); have HBz6 := Lib.hid (HBz5.out.ext hx6); have hcx6 := fun o => HBx6.out.cell o; have hcy6 := fun o => HBy6.out.cell o; have hcz6 := fun o => HBz6.out.cell o; clear hx6 HX5 HBx5 HBy5 HBz5 hcx5 hcy5 hcz5; unfold Ev.cells at hcx6 hcy6 hcz6
      go_wp2_with fail
      go_ret
      exact ⟨rfl, HX6.out⟩
    | true =>
      have HLyz := Lib.hid (fun w => by have := Less_any y z B m d C k e w; rwa [hyz] at this : ∀ w, Calls Tryd.prog 12 #[.agg (y.cells B m d), .agg (z.cells C k e)] w fun en w' => en = .returned (.bool true) ∧ Ext w w')
      have HLxz := Lib.hid (fun w => by have := Less_any x z A n c C k e w; rwa [less_trans hxy hyz] at this : ∀ w, Calls Tryd.prog 12 #[.agg (x.cells A n c), .agg (z.cells C k e)] w fun en w' => en = .returned (.bool true) ∧ Ext w w')
      refine (HLyz.out _).mono ?_
      rintro en w6 ⟨rfl, hx6⟩
      have HX6 := Lib.hid (HX5.out.trans hx6); have HBx6 := Lib.hid (HBx5.out.ext hx6); have HBy6 := Lib.hid (HBy5.out.ext hx6); have HBz6 := Lib.hid (HBz5.out.ext hx6); have hcx6 := fun o => HBx6.out.cell o; have hcy6 := fun o => HBy6.out.cell o; have hcz6 := fun o => HBz6.out.cell o; clear hx6 HX5 HBx5 HBy5 HBz5 hcx5 hcy5 hcz5; unfold Ev.cells at hcx6 hcy6 hcz6
      go_wp2_with fail
      refine (HLxz.out _).mono ?_
      rintro en w7 ⟨rfl, hx7⟩
      have HX7 := Lib.hid (HX6.out.trans hx7); have HBx7 := Lib.hid (HBx6.out.ext hx7); have HBy7 := Lib.hid (HBy6.out.ext hx7); have HBz7 := Lib.hid (HBz6.out.ext hx7); have hcx7 := fun o => HBx7.out.cell o; have hcy7 := fun o => HBy7.out.cell o; have hcz7 := fun o => HBz7.out.cell o; clear hx7 HX6 HBx6 HBy6 HBz6 hcx6 hcy6 hcz6; unfold Ev.cells at hcx7 hcy7 hcz7
      go_wp2_with fail
      go_ret
      exact ⟨rfl, HX7.out⟩

set_option maxRecDepth 100000 in
set_option maxHeartbeats 8000000 in
theorem orders_not (x y z : Ev) (A : Option Addr) (n c : Nat) (B : Option Addr) (m d : Nat) (C : Option Addr) (k e : Nat) (w : World) (hE : Env w) (hxy : lessB x y = false) :
    Calls Tryd.prog 4 #[.agg (x.cells A n c), .agg (y.cells B m d), .agg (z.cells C k e)] w fun en w' => en = .returned (.bool true) ∧ Ext w w' := by
  have HLxx := Lib.hid (fun w => by have := Less_any x x A n c A n c w; rwa [less_self x] at this : ∀ w, Calls Tryd.prog 12 #[.agg (x.cells A n c), .agg (x.cells A n c)] w fun en w' => en = .returned (.bool false) ∧ Ext w w')
  have HLxy := Lib.hid (fun w => by have := Less_any x y A n c B m d w; rwa [hxy] at this : ∀ w, Calls Tryd.prog 12 #[.agg (x.cells A n c), .agg (y.cells B m d)] w fun en w' => en = .returned (.bool false) ∧ Ext w w')
  have HRxy := Lib.hid (fun w => by have := RLess_any x y A n c B m d w; rwa [hxy] at this : ∀ w, Calls Tryd.prog 13 #[.agg (x.cells A n c), .agg (y.cells B m d)] w fun en w' => en = .returned (.bool false) ∧ Ext w w')
  have HX0 := Lib.hid ((((Ext.refl w).alloc (.cells (x.cells A n c) 27)).alloc (.cells (y.cells B m d) 27)).alloc (.cells (z.cells C k e) 27))
  have HBx := Lib.hid (((Blk.new w 27 (x.cells A n c)).alloc (.cells (y.cells B m d) 27)).alloc (.cells (z.cells C k e) 27))
  have HBy := Lib.hid ((Blk.new' (w := w.alloc (.cells (x.cells A n c) 27)) (g := w.heap.size + 1) (t := 27) (cs := y.cells B m d) (by simp)).alloc (.cells (z.cells C k e) 27))
  have HBz := Lib.hid (Blk.new' (w := (w.alloc (.cells (x.cells A n c) 27)).alloc (.cells (y.cells B m d) 27)) (g := w.heap.size + 1 + 1) (t := 27) (cs := z.cells C k e) (by simp))
  have HEn := Lib.hid (hE.ext HX0.out)
  clear hE
  go_enter Tryd.func4, Tryd.ntmps4
  go_wp2_with fail
  refine (awake_any _ HEn.out).mono ?_
  rintro en w2 ⟨rfl, hx2⟩
  have HX2 := Lib.hid (HX0.out.trans hx2)
  have HBx2 := Lib.hid (HBx.out.ext hx2)
  have HBy2 := Lib.hid (HBy.out.ext hx2)
  have HBz2 := Lib.hid (HBz.out.ext hx2)
  clear hx2 HX0 HBx HBy HBz HEn
  go_wp2_with fail
  refine wp_region_vals [.agg (x.cells A n c), .agg (x.cells A n c), .bool false, .bool false, .agg (x.cells A n c), .agg (y.cells B m d), .bool false, .agg (x.cells A n c), .agg (y.cells B m d), .bool false, .bool false, .bool false, .bool false, .agg (x.cells A n c), .agg (y.cells B m d), .bool false, .bool false, undef, undef, undef, .bool false, .bool false] _ (by kernel_rfl) (by simp [dstOK]) (by simp [ordB, Region.binds]) rfl rfl ?_ ?_
  · intro i o ho a w' K' hx hn hd hk
    match i, ho with
    | 0, ho =>
      simp only [List.getElem?_toArray, List.getElem?_cons_zero, List.getElem?_cons_succ, Option.some.injEq] at ho
      subst ho
      refine want_none rfl ?_
      exact wp_loadB 27 (.tmp 3) rfl _ 27 _ _ ((hn 3 rfl).trans rfl) (HBx2.out.ext hx) Tryd.underlying27 rfl (by exact size_event) (hk _ rfl w' (Ext.refl _))
    | 1, ho =>
      simp only [List.getElem?_toArray, List.getElem?_cons_zero, List.getElem?_cons_succ, Option.some.injEq] at ho
      subst ho
      refine want_none rfl ?_
      exact wp_loadB 27 (.tmp 3) rfl _ 27 _ _ ((hn 3 rfl).trans rfl) (HBx2.out.ext hx) Tryd.underlying27 rfl (by exact size_event) (hk _ rfl w' (Ext.refl _))
    | 2, ho =>
      simp only [List.getElem?_toArray, List.getElem?_cons_zero, List.getElem?_cons_succ, Option.some.injEq] at ho
      subst ho
      refine want_none rfl ?_
      exact wp_call2 rfl (eval_of (hd 0 9 (.agg (x.cells A n c)) rfl rfl rfl)) (eval_of (hd 1 10 (.agg (x.cells A n c)) rfl rfl rfl)) Tryd.call12 (HLxx.out w') (hk _ rfl)
    | 3, ho =>
      simp only [List.getElem?_toArray, List.getElem?_cons_zero, List.getElem?_cons_succ, Option.some.injEq] at ho
      subst ho
      refine want_none rfl ?_
      exact wp_move _ _ rfl (eval_of (hd 2 11 (.bool false) rfl rfl rfl)) (hk _ rfl w' (Ext.refl _))
    | 4, ho =>
      simp only [List.getElem?_toArray, List.getElem?_cons_zero, List.getElem?_cons_succ, Option.some.injEq] at ho
      subst ho
      refine want_yes rfl rfl (hd 3 12 (.bool false) rfl rfl rfl) rfl ?_
      exact wp_loadB 27 (.tmp 3) rfl _ 27 _ _ ((hn 3 rfl).trans rfl) (HBx2.out.ext hx) Tryd.underlying27 rfl (by exact size_event) (hk _ rfl w' (Ext.refl _))
    | 5, ho =>
      simp only [List.getElem?_toArray, List.getElem?_cons_zero, List.getElem?_cons_succ, Option.some.injEq] at ho
      subst ho
      refine want_yes rfl rfl (hd 3 12 (.bool false) rfl rfl rfl) rfl ?_
      exact wp_loadB 27 (.tmp 4) rfl _ 27 _ _ ((hn 4 rfl).trans rfl) (HBy2.out.ext hx) Tryd.underlying27 rfl (by exact size_event) (hk _ rfl w' (Ext.refl _))
    | 6, ho =>
      simp only [List.getElem?_toArray, List.getElem?_cons_zero, List.getElem?_cons_succ, Option.some.injEq] at ho
      subst ho
      refine want_yes rfl rfl (hd 3 12 (.bool false) rfl rfl rfl) rfl ?_
      exact wp_call2 rfl (eval_of (hd 4 13 (.agg (x.cells A n c)) rfl rfl rfl)) (eval_of (hd 5 14 (.agg (y.cells B m d)) rfl rfl rfl)) Tryd.call12 (HLxy.out w') (hk _ rfl)
    | 7, ho =>
      simp only [List.getElem?_toArray, List.getElem?_cons_zero, List.getElem?_cons_succ, Option.some.injEq] at ho
      subst ho
      refine want_yes rfl rfl (hd 3 12 (.bool false) rfl rfl rfl) rfl ?_
      exact wp_loadB 27 (.tmp 3) rfl _ 27 _ _ ((hn 3 rfl).trans rfl) (HBx2.out.ext hx) Tryd.underlying27 rfl (by exact size_event) (hk _ rfl w' (Ext.refl _))
    | 8, ho =>
      simp only [List.getElem?_toArray, List.getElem?_cons_zero, List.getElem?_cons_succ, Option.some.injEq] at ho
      subst ho
      refine want_yes rfl rfl (hd 3 12 (.bool false) rfl rfl rfl) rfl ?_
      exact wp_loadB 27 (.tmp 4) rfl _ 27 _ _ ((hn 4 rfl).trans rfl) (HBy2.out.ext hx) Tryd.underlying27 rfl (by exact size_event) (hk _ rfl w' (Ext.refl _))
    | 9, ho =>
      simp only [List.getElem?_toArray, List.getElem?_cons_zero, List.getElem?_cons_succ, Option.some.injEq] at ho
      subst ho
      refine want_yes rfl rfl (hd 3 12 (.bool false) rfl rfl rfl) rfl ?_
      exact wp_call2 rfl (eval_of (hd 7 16 (.agg (x.cells A n c)) rfl rfl rfl)) (eval_of (hd 8 17 (.agg (y.cells B m d)) rfl rfl rfl)) Tryd.call13 (HRxy.out w') (hk _ rfl)
    | 10, ho =>
      simp only [List.getElem?_toArray, List.getElem?_cons_zero, List.getElem?_cons_succ, Option.some.injEq] at ho
      subst ho
      refine want_yes rfl rfl (hd 3 12 (.bool false) rfl rfl rfl) rfl ?_
      exact wp_neqB rfl (eval_of (hd 6 15 (.bool false) rfl rfl rfl)) (eval_of (hd 9 18 (.bool false) rfl rfl rfl)) (by go_simp) (hk _ rfl w' (Ext.refl _))
    | 11, ho =>
      simp only [List.getElem?_toArray, List.getElem?_cons_zero, List.getElem?_cons_succ, Option.some.injEq] at ho
      subst ho
      refine want_none rfl ?_
      exact wp_pick _ _ _ false _ rfl (eval_of (hd 3 12 (.bool false) rfl rfl rfl)) (by exact (eval_of (hd 10 19 (.bool false) rfl rfl rfl))) (hk _ rfl w' (Ext.refl _))
    | 12, ho =>
      simp only [List.getElem?_toArray, List.getElem?_cons_zero, List.getElem?_cons_succ, Option.some.injEq] at ho
      subst ho
      refine want_none rfl ?_
      exact wp_move _ _ rfl (eval_of (hd 11 20 (.bool false) rfl rfl rfl)) (hk _ rfl w' (Ext.refl _))
    | 13, ho =>
      simp only [List.getElem?_toArray, List.getElem?_cons_zero, List.getElem?_cons_succ, Option.some.injEq] at ho
      subst ho
      refine want_yes rfl rfl (hd 12 21 (.bool false) rfl rfl rfl) rfl ?_
      exact wp_loadB 27 (.tmp 3) rfl _ 27 _ _ ((hn 3 rfl).trans rfl) (HBx2.out.ext hx) Tryd.underlying27 rfl (by exact size_event) (hk _ rfl w' (Ext.refl _))
    | 14, ho =>
      simp only [List.getElem?_toArray, List.getElem?_cons_zero, List.getElem?_cons_succ, Option.some.injEq] at ho
      subst ho
      refine want_yes rfl rfl (hd 12 21 (.bool false) rfl rfl rfl) rfl ?_
      exact wp_loadB 27 (.tmp 4) rfl _ 27 _ _ ((hn 4 rfl).trans rfl) (HBy2.out.ext hx) Tryd.underlying27 rfl (by exact size_event) (hk _ rfl w' (Ext.refl _))
    | 15, ho =>
      simp only [List.getElem?_toArray, List.getElem?_cons_zero, List.getElem?_cons_succ, Option.some.injEq] at ho
      subst ho
      refine want_yes rfl rfl (hd 12 21 (.bool false) rfl rfl rfl) rfl ?_
      exact wp_call2 rfl (eval_of (hd 13 22 (.agg (x.cells A n c)) rfl rfl rfl)) (eval_of (hd 14 23 (.agg (y.cells B m d)) rfl rfl rfl)) Tryd.call12 (HLxy.out w') (hk _ rfl)
    | 16, ho =>
      simp only [List.getElem?_toArray, List.getElem?_cons_zero, List.getElem?_cons_succ, Option.some.injEq] at ho
      subst ho
      refine want_yes rfl rfl (hd 12 21 (.bool false) rfl rfl rfl) rfl ?_
      exact wp_move _ _ rfl (eval_of (hd 15 24 (.bool false) rfl rfl rfl)) (hk _ rfl w' (Ext.refl _))
    | 17, ho =>
      simp only [List.getElem?_toArray, List.getElem?_cons_zero, List.getElem?_cons_succ, Option.some.injEq] at ho
      subst ho
      refine want_no rfl rfl (hd 16 25 (.bool false) rfl rfl rfl) rfl ?_
      exact hk undef rfl w' (Ext.refl _)
    | 18, ho =>
      simp only [List.getElem?_toArray, List.getElem?_cons_zero, List.getElem?_cons_succ, Option.some.injEq] at ho
      subst ho
      refine want_no rfl rfl (hd 16 25 (.bool false) rfl rfl rfl) rfl ?_
      exact hk undef rfl w' (Ext.refl _)
    | 19, ho =>
      simp only [List.getElem?_toArray, List.getElem?_cons_zero, List.getElem?_cons_succ, Option.some.injEq] at ho
      subst ho
      refine want_no rfl rfl (hd 16 25 (.bool false) rfl rfl rfl) rfl ?_
      exact hk undef rfl w' (Ext.refl _)
    | 20, ho =>
      simp only [List.getElem?_toArray, List.getElem?_cons_zero, List.getElem?_cons_succ, Option.some.injEq] at ho
      subst ho
      refine want_yes rfl rfl (hd 12 21 (.bool false) rfl rfl rfl) rfl ?_
      exact wp_pick _ _ _ false _ rfl (eval_of (hd 16 25 (.bool false) rfl rfl rfl)) (by exact rfl) (hk _ rfl w' (Ext.refl _))
    | 21, ho =>
      simp only [List.getElem?_toArray, List.getElem?_cons_zero, List.getElem?_cons_succ, Option.some.injEq] at ho
      subst ho
      refine want_none rfl ?_
      exact wp_pick _ _ _ false _ rfl (eval_of (hd 12 21 (.bool false) rfl rfl rfl)) (by exact (eval_of (hd 20 29 (.bool false) rfl rfl rfl))) (hk _ rfl w' (Ext.refl _))
    | i + 22, ho => simp at ho
  intro w3 hx3
  rename_i hK
  refine hK _ _ ?_
  clear hK
  simp only [List.zip_cons_cons, List.map_cons, List.map_nil, Option.getD_some, List.zip_nil_right, List.foldl_cons, List.foldl_nil, List.setIfInBounds_toArray, List.set_cons_zero, List.set_cons_succ]
  have HX3 := Lib.hid (HX2.out.trans hx3)
  have HBx3 := Lib.hid (HBx2.out.ext hx3)
  have HBy3 := Lib.hid (HBy2.out.ext hx3)
  have HBz3 := Lib.hid (HBz2.out.ext hx3)
  have hcx3 := fun o => HBx3.out.cell o
  have hcy3 := fun o => HBy3.out.cell o
  have hcz3 := fun o => HBz3.out.cell o
  clear hx3 HX2 HBx2 HBy2 HBz2
  unfold Ev.cells at hcx3 hcy3 hcz3
  cases hid : (x.id != y.id) with
  | false =>
    go_wp2_with fail
    refine (HLxy.out _).mono ?_
    rintro en w4 ⟨rfl, hx4⟩
    have HX4 := Lib.hid (HX3.out.trans hx4); have HBx4 := Lib.hid (HBx3.out.ext hx4); have HBy4 := Lib.hid (HBy3.out.ext hx4); have HBz4 := Lib.hid (HBz3.out.ext hx4); have hcx4 := fun o => HBx4.out.cell o; have hcy4 := fun o => HBy4.out.cell o; have hcz4 := fun o => HBz4.out.cell o; clear hx4 HX3 HBx3 HBy3 HBz3 hcx3 hcy3 hcz3; unfold Ev.cells at hcx4 hcy4 hcz4
    go_wp2_with fail
    go_ret
    exact ⟨rfl, HX4.out⟩
  | true =>
    have hyx : lessB y x = true := by
      cases h : lessB y x with
      | true => rfl
      | false => have := less_total hxy h; simp [this] at hid
    have HLyx := Lib.hid (fun w => by have := Less_any y x B m d A n c w; rwa [hyx] at this : ∀ w, Calls Tryd.prog 12 #[.agg (y.cells B m d), .agg (x.cells A n c)] w fun en w' => en = .returned (.bool true) ∧ Ext w w')
    go_wp2_with fail
    refine (HLxy.out _).mono ?_
    rintro en w4 ⟨rfl, hx4⟩
    have HX4 := Lib.hid (HX3.out.trans hx4); have HBx4 := Lib.hid (HBx3.out.ext hx4); have HBy4 := Lib.hid (HBy3.out.ext hx4); have HBz4 := Lib.hid (HBz3.out.ext hx4); have hcx4 := fun o => HBx4.out.cell o; have hcy4 := fun o => HBy4.out.cell o; have hcz4 := fun o => HBz4.out.cell o; clear hx4 HX3 HBx3 HBy3 HBz3 hcx3 hcy3 hcz3; unfold Ev.cells at hcx4 hcy4 hcz4
    go_wp2_with fail
    refine (HLyx.out _).mono ?_
    rintro en w5 ⟨rfl, hx5⟩
    have HX5 := Lib.hid (HX4.out.trans hx5); have HBx5 := Lib.hid (HBx4.out.ext hx5); have HBy5 := Lib.hid (HBy4.out.ext hx5); have HBz5 := Lib.hid (HBz4.out.ext hx5); have hcx5 := fun o => HBx5.out.cell o; have hcy5 := fun o => HBy5.out.cell o; have hcz5 := fun o => HBz5.out.cell o; clear hx5 HX4 HBx4 HBy4 HBz4 hcx4 hcy4 hcz4; unfold Ev.cells at hcx5 hcy5 hcz5
    go_wp2_with fail
    refine (HLxy.out _).mono ?_
    rintro en w6 ⟨rfl, hx6⟩
    have HX6 := Lib.hid (HX5.out.trans hx6); have HBx6 := Lib.hid (HBx5.out.ext hx6); have HBy6 := Lib.hid (HBy5.out.ext hx6); have HBz6 := Lib.hid (HBz5.out.ext hx6); have hcx6 := fun o => HBx6.out.cell o; have hcy6 := fun o => HBy6.out.cell o; have hcz6 := fun o => HBz6.out.cell o; clear hx6 HX5 HBx5 HBy5 HBz5 hcx5 hcy5 hcz5; unfold Ev.cells at hcx6 hcy6 hcz6
    go_wp2_with fail
    go_ret
    exact ⟨rfl, HX6.out⟩

theorem EventOrders_any (x y z : Ev) (A : Option Addr) (n c : Nat) (B : Option Addr) (m d : Nat) (C : Option Addr) (k e : Nat) (w : World) (hE : Env w) :
    Calls Tryd.prog 4 #[.agg (x.cells A n c), .agg (y.cells B m d), .agg (z.cells C k e)] w fun en w' => en = .returned (.bool true) ∧ Ext w w' := by
  cases h : lessB x y with
  | true => exact orders_ahead x y z A n c B m d C k e w hE h
  | false => exact orders_not x y z A n c B m d C k e w hE h
end Go.Proofs.YtcgflkmkdpgchaaDoor
