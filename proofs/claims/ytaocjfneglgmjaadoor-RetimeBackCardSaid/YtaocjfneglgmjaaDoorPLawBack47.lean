/- The walk of the law RetimeBack. -/
import Derived.Test.YtaocjfneglgmjaaDoorPk14
namespace Go.Proofs.YtaocjfneglgmjaaDoor
set_option linter.unusedVariables false
set_option linter.unusedSimpArgs false
open Go.RowKit

theorem spanT_mode {ra rb i o m : Int} (h : (spanT ra rb i o m).2 = 0) (hm : m = 1 ∨ m = 2) (hab : m = 1 → rTicks rb ≤ rTicks ra) (h2 : (spanT rb ra (spanT ra rb i o m).1.1 (spanT ra rb i o m).1.2 m).2 = 0) : (spanT rb ra (spanT ra rb i o m).1.1 (spanT ra rb i o m).1.2 m).1 = (i, o) := by
  rcases hm with rfl | rfl
  · exact back_times (hab rfl) h h2
  · exact back_frames h h2
set_option maxRecDepth 100000 in
set_option maxHeartbeats 8000000 in
theorem RetimeBack_any (ra rb i o : Int) (fr : Bool) (w : World) (hE : Env w) (h0 : 0 ≤ ra) (h1 : ra ≤ 255) (g0 : 0 ≤ rb) (g1 : rb ≤ 255) :
    Calls Tryd.prog 5 #[.agg #[.int .u8 ra, .int .u8 rb], .agg #[.int .i64 i, .int .i64 o], .bool fr] w fun en w' => en = .returned (.bool true) ∧ Ext w w' := by
  have HX0 := Lib.hid (((Ext.refl w).alloc (.cells #[.int .u8 ra, .int .u8 rb] 23)).alloc (.cells #[.int .i64 i, .int .i64 o] 25))
  have HB0 := Lib.hid ((Blk.new w 23 #[.int .u8 ra, .int .u8 rb]).alloc (.cells #[.int .i64 i, .int .i64 o] 25))
  have HC0 := Lib.hid (Blk.new' (w := w.alloc (.cells #[.int .u8 ra, .int .u8 rb] 23)) (g := w.heap.size + 1) (t := 25) (cs := #[.int .i64 i, .int .i64 o]) (by simp))
  have HEn := Lib.hid hE
  have HTa := Lib.hid (fun w => RTicks_any ra w h0 h1)
  have HTb := Lib.hid (fun w => RTicks_any rb w g0 g1)
  -- what follows where the span is taken forth and back
  have REST : ∀ (m : Int), (m = 1 ∨ m = 2) → (m = 1 → rTicks rb ≤ rTicks ra) → ∃ (p q er p2 q2 er2 : Int), (∀ w, Calls Tryd.prog 10 #[.int .u8 ra, .int .u8 rb, .agg #[.int .i64 i, .int .i64 o], .int .u8 m] w fun e w' => e = .returned (.tuple #[.agg #[.int .i64 p, .int .i64 q], .int .i64 er]) ∧ Ext w w') ∧
      (∀ w, Calls Tryd.prog 10 #[.int .u8 rb, .int .u8 ra, .agg #[.int .i64 p, .int .i64 q], .int .u8 m] w fun e w' => e = .returned (.tuple #[.agg #[.int .i64 p2, .int .i64 q2], .int .i64 er2]) ∧ Ext w w') ∧ (er ≠ 0 → p = 0 ∧ q = 0) ∧ (er = 0 → er2 = 0 → p2 = i ∧ q2 = o) := fun m hm hab => by
    have hp := fun w => PSpan_any ra rb i o m w h0 h1 g0 g1
    have hb := @spanT_bad ra rb i o m
    have hk := @spanT_mode ra rb i o m
    unfold tupS at hp
    generalize spanT ra rb i o m = sp at *
    obtain ⟨⟨p, q⟩, er⟩ := sp
    dsimp only at hp hb hk
    have hp2 := fun w => PSpan_any rb ra p q m w g0 g1 h0 h1
    unfold tupS at hp2
    generalize spanT rb ra p q m = sp2 at *
    obtain ⟨⟨p2, q2⟩, er2⟩ := sp2
    dsimp only at hp2 hk
    refine ⟨p, q, er, p2, q2, er2, hp, hp2, fun he => ?_, fun he he2 => ?_⟩
    · have := hb he
      simpa using this
    · have := hk he hm hab he2
      simpa using this
  have HRest := Lib.hid REST
  clear hE REST
  have hzq := fun (p q : Int) w => eql_span p q 0 0 w
  go_enter Tryd.func5, Tryd.ntmps5
  go_wp2_with fail
  refine (awake47_any _ (HEn.out.ext HX0.out)).mono ?_
  rintro en w1 ⟨rfl, hx1⟩
  have HX1 := Lib.hid (HX0.out.trans hx1)
  have HB1 := Lib.hid (HB0.out.ext hx1)
  have HC1 := Lib.hid (HC0.out.ext hx1)
  clear hx1 HX0 HB0 HC0
  cases fr
  case true =>
    obtain ⟨p, q, er, p2, q2, er2, hp, hp2, hz, hbk⟩ := HRest.out 2 (.inr rfl) (fun h => absurd h (by decide))
    have HP := Lib.hid hp
    have HP2 := Lib.hid hp2
    have HZ := Lib.hid hz
    have HBk := Lib.hid hbk
    clear hp hp2 hz hbk
    have hb := fun k => HB1.out.cell k
    have hc := fun k => HC1.out.cell k
    go_wp2_with fail
    go_quiet (fail)
    go_wp2_with fail
    clear hb hc
    refine (HP.out _).mono ?_
    rintro en w2 ⟨rfl, hx2⟩
    have HX2 := Lib.hid (((HX1.out.trans ((Ext.refl _).drewN _)).trans hx2).alloc (.cells #[.int .i64 p, .int .i64 q] 25))
    have hb2 : ∀ obj k, (w2.alloc obj).cell? ⟨w.heap.size, k, none⟩ = #[.int .u8 ra, .int .u8 rb][k]? := fun obj k => (((HB1.out.ext ((Ext.refl _).drewN _)).ext hx2).alloc obj).cell k
    have HC2 := Lib.hid (((HC1.out.ext ((Ext.refl _).drewN _)).ext hx2).alloc (.cells #[.int .i64 p, .int .i64 q] 25))
    have HV2 := Lib.hid (Blk.new w2 25 #[.int .i64 p, .int .i64 q])
    have hv2 := fun k => HV2.out.cell k
    clear hx2
    by_cases her : er = 0
    case neg =>
      have hne : (er != 0) = true := by simpa using her
      obtain ⟨rfl, rfl⟩ := HZ.out her
      have hq := hzq 0 0
      simp at hq
      go_wp2_with fail
      go_ret
      exact ⟨rfl, HX2.out⟩
    subst her
    go_wp2_with fail
    refine (HP2.out _).mono ?_
    rintro en w3 ⟨rfl, hx3⟩
    have HX3 := Lib.hid ((HX2.out.trans hx3).alloc (.cells #[.int .i64 p2, .int .i64 q2] 25))
    have hc3 : ∀ obj k, (w3.alloc obj).cell? ⟨w.heap.size + 1, k, none⟩ = #[.int .i64 i, .int .i64 o][k]? := fun obj k => ((HC2.out.ext hx3).alloc obj).cell k
    clear hb2 hv2 hx3
    by_cases her2 : er2 = 0
    case neg =>
      have hne2 : (er2 != 0) = true := by simpa using her2
      go_wp2_with fail
      go_ret
      exact ⟨rfl, HX3.out⟩
    subst her2
    obtain ⟨rfl, rfl⟩ := HBk.out (by trivial) (by trivial)
    have hq := fun w => eql_span p2 q2 p2 q2 w
    simp at hq
    have hi0 : ∀ obj, (w3.alloc obj).cell? ⟨w.heap.size + 1, 0, none⟩ = some (.int .i64 p2) := fun obj => hc3 obj 0
    have hi1 : ∀ obj, (w3.alloc obj).cell? ⟨w.heap.size + 1, 1, none⟩ = some (.int .i64 q2) := fun obj => hc3 obj 1
    clear hc3
    go_wp2_with fail
    go_ret
    exact ⟨rfl, HX3.out⟩
  case false =>
    by_cases hab : rTicks ra < rTicks rb
    · go_wp2_with fail
      refine wp_region_vals [.bool false, .bool true, .bool true, .pointer (some ⟨w.heap.size, 1, none⟩), .int .u8 rb, .int .i64 (rTicks rb), .pointer (some ⟨w.heap.size, 0, none⟩), .int .u8 ra, .int .i64 (rTicks ra), .bool true, .bool true] [(14, .bool false), (15, .bool true), (16, .bool true), (17, .pointer (some ⟨w.heap.size, 1, none⟩)), (18, .int .u8 rb), (19, .int .i64 (rTicks rb)), (20, .pointer (some ⟨w.heap.size, 0, none⟩)), (21, .int .u8 ra), (22, .int .i64 (rTicks ra)), (23, .bool true), (24, .bool true)] (by kernel_rfl) (by kernel_rfl) (by kernel_rfl) rfl rfl ?_ ?_
      · intro i o ho a w' K' hx hn hd hk
        match i, ho with
        | 0, ho =>
          simp only [List.getElem?_toArray, List.getElem?_cons_zero, List.getElem?_cons_succ, Option.some.injEq] at ho
          subst ho
          refine want_none rfl ?_
          exact wp_move _ _ rfl ((hn 2 rfl).trans (show _ = Value.bool false from rfl)) (hk _ rfl w' (Ext.refl _))
        | 1, ho =>
          simp only [List.getElem?_toArray, List.getElem?_cons_zero, List.getElem?_cons_succ, Option.some.injEq] at ho
          subst ho
          refine want_none rfl ?_
          exact wp_un rfl (eval_of (hd 0 14 (.bool false) rfl rfl rfl)) (by go_simp) (hk _ rfl w' (Ext.refl _))
        | 2, ho =>
          simp only [List.getElem?_toArray, List.getElem?_cons_zero, List.getElem?_cons_succ, Option.some.injEq] at ho
          subst ho
          refine want_none rfl ?_
          exact wp_move _ _ rfl (eval_of (hd 1 15 (.bool true) rfl rfl rfl)) (hk _ rfl w' (Ext.refl _))
        | 3, ho =>
          simp only [List.getElem?_toArray, List.getElem?_cons_zero, List.getElem?_cons_succ, Option.some.injEq] at ho
          subst ho
          refine want_yes rfl rfl (hd 2 16 (.bool true) rfl rfl rfl) rfl ?_
          have ex3 := ((hn 3 rfl).trans (show _ = Value.pointer (some ⟨w.heap.size, 0, none⟩) from rfl))
          simp only [Act.eval] at ex3
          have HK := Lib.hid (hk (.pointer (some ⟨w.heap.size, 1, none⟩)) rfl w' (Ext.refl _))
          clear hx hn hd hk
          go_simp
          exact HK.out
        | 4, ho =>
          simp only [List.getElem?_toArray, List.getElem?_cons_zero, List.getElem?_cons_succ, Option.some.injEq] at ho
          subst ho
          refine want_yes rfl rfl (hd 2 16 (.bool true) rfl rfl rfl) rfl ?_
          have ex17 := (eval_of (hd 3 17 (.pointer (some ⟨w.heap.size, 1, none⟩)) rfl rfl rfl))
          have hcl : w'.cell? ⟨w.heap.size, 1, none⟩ = some (.int .u8 rb) := (HB1.out.ext hx).cell 1
          simp only [Act.eval] at ex17
          have HK := Lib.hid (hk (.int .u8 rb) rfl w' (Ext.refl _))
          clear hx hn hd hk
          go_simp
          exact HK.out
        | 5, ho =>
          simp only [List.getElem?_toArray, List.getElem?_cons_zero, List.getElem?_cons_succ, Option.some.injEq] at ho
          subst ho
          refine want_yes rfl rfl (hd 2 16 (.bool true) rfl rfl rfl) rfl ?_
          exact wp_call1s rfl (eval_of (hd 4 18 (.int .u8 rb) rfl rfl rfl)) Tryd.call14 (HTb.out w') (hk _ rfl)
        | 6, ho =>
          simp only [List.getElem?_toArray, List.getElem?_cons_zero, List.getElem?_cons_succ, Option.some.injEq] at ho
          subst ho
          refine want_yes rfl rfl (hd 2 16 (.bool true) rfl rfl rfl) rfl ?_
          have ex3 := ((hn 3 rfl).trans (show _ = Value.pointer (some ⟨w.heap.size, 0, none⟩) from rfl))
          simp only [Act.eval] at ex3
          have HK := Lib.hid (hk (.pointer (some ⟨w.heap.size, 0, none⟩)) rfl w' (Ext.refl _))
          clear hx hn hd hk
          go_simp
          exact HK.out
        | 7, ho =>
          simp only [List.getElem?_toArray, List.getElem?_cons_zero, List.getElem?_cons_succ, Option.some.injEq] at ho
          subst ho
          refine want_yes rfl rfl (hd 2 16 (.bool true) rfl rfl rfl) rfl ?_
          have ex20 := (eval_of (hd 6 20 (.pointer (some ⟨w.heap.size, 0, none⟩)) rfl rfl rfl))
          have hcl : w'.cell? ⟨w.heap.size, 0, none⟩ = some (.int .u8 ra) := (HB1.out.ext hx).cell 0
          simp only [Act.eval] at ex20
          have HK := Lib.hid (hk (.int .u8 ra) rfl w' (Ext.refl _))
          clear hx hn hd hk
          go_simp
          exact HK.out
        | 8, ho =>
          simp only [List.getElem?_toArray, List.getElem?_cons_zero, List.getElem?_cons_succ, Option.some.injEq] at ho
          subst ho
          refine want_yes rfl rfl (hd 2 16 (.bool true) rfl rfl rfl) rfl ?_
          exact wp_call1s rfl (eval_of (hd 7 21 (.int .u8 ra) rfl rfl rfl)) Tryd.call14 (HTa.out w') (hk _ rfl)
        | 9, ho =>
          simp only [List.getElem?_toArray, List.getElem?_cons_zero, List.getElem?_cons_succ, Option.some.injEq] at ho
          subst ho
          refine want_yes rfl rfl (hd 2 16 (.bool true) rfl rfl rfl) rfl ?_
          exact wp_bin rfl (eval_of (hd 5 19 (.int .i64 (rTicks rb)) rfl rfl rfl)) (eval_of (hd 8 22 (.int .i64 (rTicks ra)) rfl rfl rfl)) (by first | (go_simp; done) | (go_simp; simp; omega) | (simp; omega)) (hk _ rfl w' (Ext.refl _))
        | 10, ho =>
          simp only [List.getElem?_toArray, List.getElem?_cons_zero, List.getElem?_cons_succ, Option.some.injEq] at ho
          subst ho
          refine want_none rfl ?_
          exact wp_pick _ _ _ true _ rfl (eval_of (hd 2 16 (.bool true) rfl rfl rfl)) (by exact (eval_of (hd 9 23 (.bool true) rfl rfl rfl))) (hk _ rfl w' (Ext.refl _))
        | i + 11, ho => simp at ho
      intro w9 hx9
      simp only [Act.put, List.foldl_cons, List.foldl_nil, List.setIfInBounds_toArray, List.set_cons_zero, List.set_cons_succ]
      go_wp2_with fail
      go_ret
      exact ⟨rfl, HX1.out.trans hx9⟩
    · go_wp2_with fail
      refine wp_region_vals [.bool false, .bool true, .bool true, .pointer (some ⟨w.heap.size, 1, none⟩), .int .u8 rb, .int .i64 (rTicks rb), .pointer (some ⟨w.heap.size, 0, none⟩), .int .u8 ra, .int .i64 (rTicks ra), .bool false, .bool false] [(14, .bool false), (15, .bool true), (16, .bool true), (17, .pointer (some ⟨w.heap.size, 1, none⟩)), (18, .int .u8 rb), (19, .int .i64 (rTicks rb)), (20, .pointer (some ⟨w.heap.size, 0, none⟩)), (21, .int .u8 ra), (22, .int .i64 (rTicks ra)), (23, .bool false), (24, .bool false)] (by kernel_rfl) (by kernel_rfl) (by kernel_rfl) rfl rfl ?_ ?_
      · intro i o ho a w' K' hx hn hd hk
        match i, ho with
        | 0, ho =>
          simp only [List.getElem?_toArray, List.getElem?_cons_zero, List.getElem?_cons_succ, Option.some.injEq] at ho
          subst ho
          refine want_none rfl ?_
          exact wp_move _ _ rfl ((hn 2 rfl).trans (show _ = Value.bool false from rfl)) (hk _ rfl w' (Ext.refl _))
        | 1, ho =>
          simp only [List.getElem?_toArray, List.getElem?_cons_zero, List.getElem?_cons_succ, Option.some.injEq] at ho
          subst ho
          refine want_none rfl ?_
          exact wp_un rfl (eval_of (hd 0 14 (.bool false) rfl rfl rfl)) (by go_simp) (hk _ rfl w' (Ext.refl _))
        | 2, ho =>
          simp only [List.getElem?_toArray, List.getElem?_cons_zero, List.getElem?_cons_succ, Option.some.injEq] at ho
          subst ho
          refine want_none rfl ?_
          exact wp_move _ _ rfl (eval_of (hd 1 15 (.bool true) rfl rfl rfl)) (hk _ rfl w' (Ext.refl _))
        | 3, ho =>
          simp only [List.getElem?_toArray, List.getElem?_cons_zero, List.getElem?_cons_succ, Option.some.injEq] at ho
          subst ho
          refine want_yes rfl rfl (hd 2 16 (.bool true) rfl rfl rfl) rfl ?_
          have ex3 := ((hn 3 rfl).trans (show _ = Value.pointer (some ⟨w.heap.size, 0, none⟩) from rfl))
          simp only [Act.eval] at ex3
          have HK := Lib.hid (hk (.pointer (some ⟨w.heap.size, 1, none⟩)) rfl w' (Ext.refl _))
          clear hx hn hd hk
          go_simp
          exact HK.out
        | 4, ho =>
          simp only [List.getElem?_toArray, List.getElem?_cons_zero, List.getElem?_cons_succ, Option.some.injEq] at ho
          subst ho
          refine want_yes rfl rfl (hd 2 16 (.bool true) rfl rfl rfl) rfl ?_
          have ex17 := (eval_of (hd 3 17 (.pointer (some ⟨w.heap.size, 1, none⟩)) rfl rfl rfl))
          have hcl : w'.cell? ⟨w.heap.size, 1, none⟩ = some (.int .u8 rb) := (HB1.out.ext hx).cell 1
          simp only [Act.eval] at ex17
          have HK := Lib.hid (hk (.int .u8 rb) rfl w' (Ext.refl _))
          clear hx hn hd hk
          go_simp
          exact HK.out
        | 5, ho =>
          simp only [List.getElem?_toArray, List.getElem?_cons_zero, List.getElem?_cons_succ, Option.some.injEq] at ho
          subst ho
          refine want_yes rfl rfl (hd 2 16 (.bool true) rfl rfl rfl) rfl ?_
          exact wp_call1s rfl (eval_of (hd 4 18 (.int .u8 rb) rfl rfl rfl)) Tryd.call14 (HTb.out w') (hk _ rfl)
        | 6, ho =>
          simp only [List.getElem?_toArray, List.getElem?_cons_zero, List.getElem?_cons_succ, Option.some.injEq] at ho
          subst ho
          refine want_yes rfl rfl (hd 2 16 (.bool true) rfl rfl rfl) rfl ?_
          have ex3 := ((hn 3 rfl).trans (show _ = Value.pointer (some ⟨w.heap.size, 0, none⟩) from rfl))
          simp only [Act.eval] at ex3
          have HK := Lib.hid (hk (.pointer (some ⟨w.heap.size, 0, none⟩)) rfl w' (Ext.refl _))
          clear hx hn hd hk
          go_simp
          exact HK.out
        | 7, ho =>
          simp only [List.getElem?_toArray, List.getElem?_cons_zero, List.getElem?_cons_succ, Option.some.injEq] at ho
          subst ho
          refine want_yes rfl rfl (hd 2 16 (.bool true) rfl rfl rfl) rfl ?_
          have ex20 := (eval_of (hd 6 20 (.pointer (some ⟨w.heap.size, 0, none⟩)) rfl rfl rfl))
          have hcl : w'.cell? ⟨w.heap.size, 0, none⟩ = some (.int .u8 ra) := (HB1.out.ext hx).cell 0
          simp only [Act.eval] at ex20
          have HK := Lib.hid (hk (.int .u8 ra) rfl w' (Ext.refl _))
          clear hx hn hd hk
          go_simp
          exact HK.out
        | 8, ho =>
          simp only [List.getElem?_toArray, List.getElem?_cons_zero, List.getElem?_cons_succ, Option.some.injEq] at ho
          subst ho
          refine want_yes rfl rfl (hd 2 16 (.bool true) rfl rfl rfl) rfl ?_
          exact wp_call1s rfl (eval_of (hd 7 21 (.int .u8 ra) rfl rfl rfl)) Tryd.call14 (HTa.out w') (hk _ rfl)
        | 9, ho =>
          simp only [List.getElem?_toArray, List.getElem?_cons_zero, List.getElem?_cons_succ, Option.some.injEq] at ho
          subst ho
          refine want_yes rfl rfl (hd 2 16 (.bool true) rfl rfl rfl) rfl ?_
          exact wp_bin rfl (eval_of (hd 5 19 (.int .i64 (rTicks rb)) rfl rfl rfl)) (eval_of (hd 8 22 (.int .i64 (rTicks ra)) rfl rfl rfl)) (by first | (go_simp; done) | (go_simp; simp; omega) | (simp; omega)) (hk _ rfl w' (Ext.refl _))
        | 10, ho =>
          simp only [List.getElem?_toArray, List.getElem?_cons_zero, List.getElem?_cons_succ, Option.some.injEq] at ho
          subst ho
          refine want_none rfl ?_
          exact wp_pick _ _ _ true _ rfl (eval_of (hd 2 16 (.bool true) rfl rfl rfl)) (by exact (eval_of (hd 9 23 (.bool false) rfl rfl rfl))) (hk _ rfl w' (Ext.refl _))
        | i + 11, ho => simp at ho
      intro w9 hx9
      simp only [Act.put, List.foldl_cons, List.foldl_nil, List.setIfInBounds_toArray, List.set_cons_zero, List.set_cons_succ]
      obtain ⟨p, q, er, p2, q2, er2, hp, hp2, hz, hbk⟩ := HRest.out 1 (.inl rfl) (fun _ => by omega)
      have HP := Lib.hid hp
      have HP2 := Lib.hid hp2
      have HZ := Lib.hid hz
      have HBk := Lib.hid hbk
      clear hp hp2 hz hbk
      have hb := fun k => (HB1.out.ext hx9).cell k
      have hc := fun k => (HC1.out.ext hx9).cell k
      go_wp2_with fail
      clear hb hc
      refine (HP.out _).mono ?_
      rintro en w2 ⟨rfl, hx2⟩
      have HX2 := Lib.hid (((HX1.out.trans hx9).trans hx2).alloc (.cells #[.int .i64 p, .int .i64 q] 25))
      have hb2 : ∀ obj k, (w2.alloc obj).cell? ⟨w.heap.size, k, none⟩ = #[.int .u8 ra, .int .u8 rb][k]? := fun obj k => (((HB1.out.ext hx9).ext hx2).alloc obj).cell k
      have HC2 := Lib.hid (((HC1.out.ext hx9).ext hx2).alloc (.cells #[.int .i64 p, .int .i64 q] 25))
      have HV2 := Lib.hid (Blk.new w2 25 #[.int .i64 p, .int .i64 q])
      have hv2 := fun k => HV2.out.cell k
      clear hx2
      by_cases her : er = 0
      case neg =>
        have hne : (er != 0) = true := by simpa using her
        obtain ⟨rfl, rfl⟩ := HZ.out her
        have hq := hzq 0 0
        simp at hq
        go_wp2_with fail
        go_ret
        exact ⟨rfl, HX2.out⟩
      subst her
      go_wp2_with fail
      refine (HP2.out _).mono ?_
      rintro en w3 ⟨rfl, hx3⟩
      have HX3 := Lib.hid ((HX2.out.trans hx3).alloc (.cells #[.int .i64 p2, .int .i64 q2] 25))
      have hc3 : ∀ obj k, (w3.alloc obj).cell? ⟨w.heap.size + 1, k, none⟩ = #[.int .i64 i, .int .i64 o][k]? := fun obj k => ((HC2.out.ext hx3).alloc obj).cell k
      clear hb2 hv2 hx3
      by_cases her2 : er2 = 0
      case neg =>
        have hne2 : (er2 != 0) = true := by simpa using her2
        go_wp2_with fail
        go_ret
        exact ⟨rfl, HX3.out⟩
      subst her2
      obtain ⟨rfl, rfl⟩ := HBk.out (by trivial) (by trivial)
      have hq := fun w => eql_span p2 q2 p2 q2 w
      simp at hq
      have hi0 : ∀ obj, (w3.alloc obj).cell? ⟨w.heap.size + 1, 0, none⟩ = some (.int .i64 p2) := fun obj => hc3 obj 0
      have hi1 : ∀ obj, (w3.alloc obj).cell? ⟨w.heap.size + 1, 1, none⟩ = some (.int .i64 q2) := fun obj => hc3 obj 1
      clear hc3
      go_wp2_with fail
      go_ret
      exact ⟨rfl, HX3.out⟩
end Go.Proofs.YtaocjfneglgmjaaDoor
