/- Laid together: The walks of timebase.Time, Frame, Convert and of retime.known, Span. Lemmas for the walks of Retime: calls of four arguments, appends in drawn regions, spans in their bounds. Lemmas for the second loop of Retime. -/
import Derived.Test.YtaocjfneglgmjaaDoorPk11
import Derived.Test.YtaocjfneglgmjaaDoorPk07
import Derived.Test.YtaocjfneglgmjaaDoorPk09

/-! ConvW -/
namespace Go.Proofs.YtaocjfneglgmjaaDoor
set_option linter.unusedVariables false
set_option linter.unusedSimpArgs false
open Go.RowKit

theorem frame_bd {r t : Int} (h : rOk r = true) (h0 : 0 ≤ t) (h1 : t ≤ 10378368000) : 0 ≤ quoI t (rTicks r) 2 ∧ quoI t (rTicks r) 2 ≤ 10378373005 ∧ 0 ≤ quoI t (rTicks r) 2 * rTicks r ∧ quoI t (rTicks r) 2 * rTicks r ≤ 10378373005 := by
  obtain ⟨t1, t2⟩ := ticks_bd h
  obtain ⟨a1, a2, a3⟩ := quo_near (n := t) (d := rTicks r) h0 (by omega)
  have a4 : 0 ≤ quoI t (rTicks r) 2 * rTicks r := Int.mul_nonneg a3 (by omega)
  have a5 : quoI t (rTicks r) 2 * 1 ≤ quoI t (rTicks r) 2 * rTicks r := Int.mul_le_mul_of_nonneg_left (by omega) a3
  refine ⟨a3, by omega, a4, by omega⟩
def tupI (p : Int × Int) : Value := .tuple #[.int .i64 p.1, .int .i64 p.2]
def tupS (p : (Int × Int) × Int) : Value := .tuple #[.agg #[.int .i64 p.1.1, .int .i64 p.1.2], .int .i64 p.2]
theorem size_span' : (Tryd.prog.info? 25).map (·.size) = some 2 := by kernel_rfl

set_option maxRecDepth 100000 in
set_option maxHeartbeats 2000000 in
theorem PTime_any (r f : Int) (w : World) (h0 : 0 ≤ r) (h1 : r ≤ 255) : Calls Tryd.prog 38 #[.int .u8 r, .int .i64 f] w fun e w' => e = .returned (tupI (timeT r f)) ∧ Ext w w' := by
  have HV := Lib.hid (fun w => TBValid_any r w h0 h1)
  have HTk := Lib.hid (fun w => Ticks_any r w h0 h1)
  cases ho : rOk r
  · have HO := Lib.hid ho
    have HF : Hid (timeT r f = (0, 3)) := by show _ = _; unfold timeT; rw [if_pos ho]
    clear ho
    go_enter Tryd.func38, Tryd.ntmps38
    go_wp2_with fail
    refine (HV.out _).mono ?_
    rintro en w1 ⟨rfl, hx1⟩
    rw [HO.out]
    go_wp2_with fail
    go_ret2
    exact ⟨by rw [HF.out] <;> rfl, hx1⟩
  obtain ⟨t1, t2⟩ := ticks_bd ho
  have HF : Hid (timeT r f = if f < 0 ∨ 10378368000 / rTicks r < f then (0, 2) else (f * rTicks r, 0)) := by show _ = _; unfold timeT; rw [if_neg (by simp [ho])]
  have HO := Lib.hid ho
  clear ho
  have hz : ¬ rTicks r = 0 := by omega
  have hz' : (rTicks r == 0) = false := by simpa using hz
  have e1 : (10378368000 : Int).tdiv (rTicks r) = 10378368000 / rTicks r := Int.tdiv_eq_ediv_of_nonneg (by omega)
  have hq0 : 0 ≤ (10378368000 : Int) / rTicks r := Int.ediv_nonneg (by omega) (by omega)
  have hq1 : (10378368000 : Int) / rTicks r ≤ 10378368000 := Int.ediv_le_self _ (by omega)
  have hm := Int.ediv_mul_le (10378368000 : Int) (b := rTicks r) hz
  generalize (10378368000 : Int) / rTicks r = q at *
  generalize rTicks r = t at *
  by_cases hf : f < 0
  · have HG := Lib.hid (HF.out.trans (if_pos (.inl hf)))
    go_enter Tryd.func38, Tryd.ntmps38
    go_wp2_with fail
    refine (HV.out _).mono ?_
    rintro en w1 ⟨rfl, hx1⟩
    rw [HO.out]
    go_wp2_with fail
    go_ret2
    exact ⟨by rw [HG.out] <;> rfl, hx1⟩
  by_cases hg : q < f
  · have HG := Lib.hid (HF.out.trans (if_pos (.inr hg)))
    go_enter Tryd.func38, Tryd.ntmps38
    go_wp2_with fail
    refine (HV.out _).mono ?_
    rintro en w1 ⟨rfl, hx1⟩
    rw [HO.out]
    go_wp2_with fail
    refine (HTk.out _).mono ?_
    rintro en w2 ⟨rfl, hx2⟩
    go_wp2_with fail
    go_ret2
    exact ⟨by rw [HG.out] <;> rfl, hx1.trans hx2⟩
  have HG := Lib.hid (HF.out.trans (if_neg (by omega)))
  have hp0 : 0 ≤ f * t := Int.mul_nonneg (by omega) (by omega)
  have hp1 : f * t ≤ 10378368000 := Int.le_trans (Int.mul_le_mul_of_nonneg_right (by omega) (by omega)) hm
  go_enter Tryd.func38, Tryd.ntmps38
  go_wp2_with fail
  refine (HV.out _).mono ?_
  rintro en w1 ⟨rfl, hx1⟩
  rw [HO.out]
  go_wp2_with fail
  refine (HTk.out _).mono ?_
  rintro en w2 ⟨rfl, hx2⟩
  go_wp2_with fail
  refine (HTk.out _).mono ?_
  rintro en w3 ⟨rfl, hx3⟩
  go_wp2_with fail
  go_ret2
  exact ⟨by rw [HG.out] <;> rfl, (hx1.trans hx2).trans hx3⟩

set_option maxRecDepth 100000 in
set_option maxHeartbeats 2000000 in
theorem PFrame_any (r t : Int) (w : World) (h0 : 0 ≤ r) (h1 : r ≤ 255) : Calls Tryd.prog 39 #[.int .u8 r, .int .i64 t, .int .u8 2] w fun e w' => e = .returned (tupI (frameT r t 2)) ∧ Ext w w' := by
  have HV := Lib.hid (fun w => TBValid_any r w h0 h1)
  have HTk := Lib.hid (fun w => Ticks_any r w h0 h1)
  cases ho : rOk r
  · have HO := Lib.hid ho
    have HF : Hid (frameT r t 2 = (0, 3)) := by show _ = _; unfold frameT; rw [if_pos ho]
    clear ho
    go_enter Tryd.func39, Tryd.ntmps39
    go_wp2_with fail
    refine (HV.out _).mono ?_
    rintro en w1 ⟨rfl, hx1⟩
    rw [HO.out]
    go_wp2_with fail
    go_ret2
    exact ⟨by rw [HF.out] <;> rfl, hx1⟩
  obtain ⟨t1, t2⟩ := ticks_bd ho
  have HF : Hid (frameT r t 2 = if t < 0 ∨ 10378368000 < t then (0, 2) else if 10378368000 < quoI t (rTicks r) 2 * rTicks r then (0, 2) else (quoI t (rTicks r) 2, 0)) := by show _ = _; unfold frameT; rw [if_neg (by simp [ho])]
  have HBd := Lib.hid (@frame_bd r t ho)
  have HO := Lib.hid ho
  clear ho
  by_cases ht : t < 0
  · have HG := Lib.hid (HF.out.trans (if_pos (.inl ht)))
    go_enter Tryd.func39, Tryd.ntmps39
    go_wp2_with fail
    refine (HV.out _).mono ?_
    rintro en w1 ⟨rfl, hx1⟩
    rw [HO.out]
    go_wp2_with fail
    go_ret2
    exact ⟨by rw [HG.out] <;> rfl, hx1⟩
  by_cases hg : 10378368000 < t
  · have HG := Lib.hid (HF.out.trans (if_pos (.inr hg)))
    go_enter Tryd.func39, Tryd.ntmps39
    go_wp2_with fail
    refine (HV.out _).mono ?_
    rintro en w1 ⟨rfl, hx1⟩
    rw [HO.out]
    go_wp2_with fail
    go_ret2
    exact ⟨by rw [HG.out] <;> rfl, hx1⟩
  have HG := Lib.hid (HF.out.trans (if_neg (by omega)))
  have HQu := Lib.hid (fun w => Quotient_any t (rTicks r) 2 w (by omega) (by omega) (by omega) (by omega) (by omega) (by omega))
  obtain ⟨b1, b2, b3, b4⟩ := HBd.out (by omega) (by omega)
  generalize quoI t (rTicks r) 2 = q at *
  generalize rTicks r = tk at *
  go_enter Tryd.func39, Tryd.ntmps39
  go_wp2_with fail
  refine (HV.out _).mono ?_
  rintro en w1 ⟨rfl, hx1⟩
  rw [HO.out]
  go_wp2_with fail
  refine (HTk.out _).mono ?_
  rintro en w2 ⟨rfl, hx2⟩
  go_wp2_with fail
  refine (HQu.out _).mono ?_
  rintro en w3 ⟨rfl, hx3⟩
  go_wp2_with fail
  refine (HTk.out _).mono ?_
  rintro en w4 ⟨rfl, hx4⟩
  have hx := ((hx1.trans hx2).trans hx3).trans hx4
  by_cases hb : 10378368000 < q * tk
  · have HGG := Lib.hid (HG.out.trans (if_pos hb))
    go_wp2_with fail
    go_ret2
    exact ⟨by rw [HGG.out] <;> rfl, hx⟩
  · have HGG := Lib.hid (HG.out.trans (if_neg hb))
    go_wp2_with fail
    go_ret2
    exact ⟨by rw [HGG.out] <;> rfl, hx⟩

set_option maxRecDepth 100000 in
set_option maxHeartbeats 2000000 in
theorem PConv_any (a b f : Int) (w : World) (h0 : 0 ≤ a) (h1 : a ≤ 255) (g0 : 0 ≤ b) (g1 : b ≤ 255) : Calls Tryd.prog 21 #[.int .u8 a, .int .u8 b, .int .i64 f, .int .u8 2] w fun e w' => e = .returned (tupI (convT a b f 2)) ∧ Ext w w' := by
  have HVa := Lib.hid (fun w => TBValid_any a w h0 h1)
  have HVb := Lib.hid (fun w => TBValid_any b w g0 g1)
  have HT := Lib.hid (fun w => PTime_any a f w h0 h1)
  have HFr := Lib.hid (fun t w => PFrame_any b t w g0 g1)
  unfold tupI at *
  cases ho : rOk a
  · have HO := Lib.hid ho
    have HF : Hid (convT a b f 2 = (0, 3)) := by show _ = _; unfold convT; rw [if_pos (.inl ho)]
    clear ho
    go_enter Tryd.func21, Tryd.ntmps21
    go_wp2_with fail
    refine (HVa.out _).mono ?_
    rintro en w1 ⟨rfl, hx1⟩
    rw [HO.out]
    go_wp2_with fail
    go_ret2
    exact ⟨by rw [HF.out] <;> rfl, hx1⟩
  cases hb : rOk b
  · have HO := Lib.hid ho
    have HP := Lib.hid hb
    have HF : Hid (convT a b f 2 = (0, 3)) := by show _ = _; unfold convT; rw [if_pos (.inr hb)]
    clear ho hb
    go_enter Tryd.func21, Tryd.ntmps21
    go_wp2_with fail
    refine (HVa.out _).mono ?_
    rintro en w1 ⟨rfl, hx1⟩
    rw [HO.out]
    go_wp2_with fail
    refine (HVb.out _).mono ?_
    rintro en w2 ⟨rfl, hx2⟩
    rw [HP.out]
    go_wp2_with fail
    go_ret2
    exact ⟨by rw [HF.out] <;> rfl, hx1.trans hx2⟩
  have HF : Hid (convT a b f 2 = if (timeT a f).2 ≠ 0 then (0, (timeT a f).2) else frameT b (timeT a f).1 2) := by show _ = _; unfold convT; rw [if_neg (by simp [ho, hb])]
  have HO := Lib.hid ho
  have HP := Lib.hid hb
  clear ho hb
  generalize timeT a f = p at *
  obtain ⟨tk, er⟩ := p
  dsimp only at *
  by_cases he : er = 0
  · subst he
    have HG := Lib.hid (HF.out.trans (if_neg (by simp)))
    go_enter Tryd.func21, Tryd.ntmps21
    go_wp2_with fail
    refine (HVa.out _).mono ?_
    rintro en w1 ⟨rfl, hx1⟩
    rw [HO.out]
    go_wp2_with fail
    refine (HVb.out _).mono ?_
    rintro en w2 ⟨rfl, hx2⟩
    rw [HP.out]
    go_wp2_with fail
    refine (HT.out _).mono ?_
    rintro en w3 ⟨rfl, hx3⟩
    go_wp2_with fail
    refine (HFr.out _ _).mono ?_
    rintro en w4 ⟨rfl, hx4⟩
    go_wp2_with fail
    go_ret2
    exact ⟨by rw [HG.out] <;> rfl, ((hx1.trans hx2).trans hx3).trans hx4⟩
  · have HG := Lib.hid (HF.out.trans (if_pos he))
    have hne : (er != 0) = true := by simpa using he
    go_enter Tryd.func21, Tryd.ntmps21
    go_wp2_with fail
    refine (HVa.out _).mono ?_
    rintro en w1 ⟨rfl, hx1⟩
    rw [HO.out]
    go_wp2_with fail
    refine (HVb.out _).mono ?_
    rintro en w2 ⟨rfl, hx2⟩
    rw [HP.out]
    go_wp2_with fail
    refine (HT.out _).mono ?_
    rintro en w3 ⟨rfl, hx3⟩
    go_wp2_with fail
    go_ret2
    exact ⟨by rw [HG.out] <;> rfl, (hx1.trans hx2).trans hx3⟩

theorem PKnown_any (m : Int) (w : World) : Calls Tryd.prog 20 #[.int .u8 m] w fun e w' => e = .returned (.bool (decide (m = 1 ∨ m = 2))) ∧ w = w' := by
  by_cases h1 : m = 1
  · subst h1
    go_enter Tryd.func20, Tryd.ntmps20
    go_wp2
    go_ret
    exact ⟨rfl, rfl⟩
  by_cases h2 : m = 2
  · subst h2
    go_enter Tryd.func20, Tryd.ntmps20
    go_wp2
    go_ret
    exact ⟨rfl, rfl⟩
  have e1 : (m == 1) = false := by simpa using h1
  have e2 : (m == 2) = false := by simpa using h2
  go_enter Tryd.func20, Tryd.ntmps20
  go_wp2
  go_ret
  exact ⟨ret_bool (by rw [decide_eq_false (by omega)]), rfl⟩
theorem PSpan_1 {a b i o m : Int} (h : rOk a = false ∨ rOk b = false) : spanT a b i o m = ((0, 0), 3) := by unfold spanT; rw [if_pos h]
theorem PSpan_2 {a b i o m : Int} (h : ¬ (rOk a = false ∨ rOk b = false)) (h2 : ¬ (m = 1 ∨ m = 2) ∨ o ≤ i) : spanT a b i o m = ((0, 0), 1) := by unfold spanT; rw [if_neg h, if_pos h2]
theorem PSpan_3 {a b i o m : Int} (h : ¬ (rOk a = false ∨ rOk b = false)) (h2 : ¬ (¬ (m = 1 ∨ m = 2) ∨ o ≤ i)) (h3 : i < 0 ∨ 5184000 < o) : spanT a b i o m = ((0, 0), 2) := by unfold spanT; rw [if_neg h, if_neg h2, if_pos h3]
theorem PSpan_4 {a b i o m : Int} (h : ¬ (rOk a = false ∨ rOk b = false)) (h2 : ¬ (¬ (m = 1 ∨ m = 2) ∨ o ≤ i)) (h3 : ¬ (i < 0 ∨ 5184000 < o)) (h4 : m = 2) : spanT a b i o m = ((i, o), 0) := by unfold spanT; rw [if_neg h, if_neg h2, if_neg h3, if_pos h4]
theorem PSpan_5 {a b i o m : Int} (h : ¬ (rOk a = false ∨ rOk b = false)) (h2 : ¬ (¬ (m = 1 ∨ m = 2) ∨ o ≤ i)) (h3 : ¬ (i < 0 ∨ 5184000 < o)) (h4 : ¬ m = 2) : spanT a b i o m =
    if (convT a b i 2).2 ≠ 0 then ((0, 0), (convT a b i 2).2) else if (convT a b o 2).2 ≠ 0 then ((0, 0), (convT a b o 2).2) else
      if 5184000 < max (convT a b o 2).1 ((convT a b i 2).1 + 1) then ((0, 0), 2) else (((convT a b i 2).1, max (convT a b o 2).1 ((convT a b i 2).1 + 1)), 0) := by unfold spanT; rw [if_neg h, if_neg h2, if_neg h3, if_neg h4]
theorem conv_bd (a b f : Int) : 0 ≤ (convT a b f 2).1 ∧ (convT a b f 2).1 ≤ 10378373005 := by
  by_cases h : (convT a b f 2).2 = 0
  · obtain ⟨_, hb, _, h1, h2, h3, h4⟩ := convT_ok h
    have := frame_bd hb h1 h2
    rw [h3]; omega
  · have : (convT a b f 2).1 = 0 := by
      unfold convT at h ⊢
      split
      · rfl
      · split
        · rfl
        · rename_i g1 g2
          rw [if_neg g1, if_neg g2] at h
          unfold frameT at h ⊢
          split
          · rfl
          · split
            · rfl
            · split
              · rfl
              · rename_i k1 k2 k3
                rw [if_neg k1, if_neg k2, if_neg k3] at h
                exact absurd rfl h
    omega

set_option maxRecDepth 100000 in
set_option maxHeartbeats 4000000 in
theorem PSpan_any (a b i o m : Int) (w : World) (h0 : 0 ≤ a) (h1 : a ≤ 255) (g0 : 0 ≤ b) (g1 : b ≤ 255) : Calls Tryd.prog 10 #[.int .u8 a, .int .u8 b, .agg #[.int .i64 i, .int .i64 o], .int .u8 m] w fun e w' => e = .returned (tupS (spanT a b i o m)) ∧ Ext w w' := by
  have HVa := Lib.hid (fun w => TBValid_any a w h0 h1)
  have HVb := Lib.hid (fun w => TBValid_any b w g0 g1)
  have HC := Lib.hid (fun f w => PConv_any a b f w h0 h1 g0 g1)
  have S1 := Lib.hid (@PSpan_1 a b i o m)
  have S2 := Lib.hid (@PSpan_2 a b i o m)
  have S3 := Lib.hid (@PSpan_3 a b i o m)
  have S4 := Lib.hid (@PSpan_4 a b i o m)
  have S5 := Lib.hid (@PSpan_5 a b i o m)
  have HX := Lib.hid (((Ext.refl w).alloc (.cells #[.int .i64 i, .int .i64 o] 25)).alloc (.cells #[.int .i64 0, .int .i64 0] 25))
  have HB := Lib.hid ((Blk.new w 25 #[.int .i64 i, .int .i64 o]).alloc (.cells #[.int .i64 0, .int .i64 0] 25))
  have HZ := Lib.hid (Blk.new' (w := w.alloc (.cells #[.int .i64 i, .int .i64 o] 25)) (g := w.heap.size + 1) (t := 25) (cs := #[.int .i64 0, .int .i64 0]) (by simp))
  unfold tupI at HC
  generalize hW0 : (w.alloc (.cells #[.int .i64 i, .int .i64 o] 25)).alloc (.cells #[.int .i64 0, .int .i64 0] 25) = W0 at HX HB HZ
  have END : ∀ (w9 : World) (q1 q2 er : Int), Ext W0 w9 → spanT a b i o m = ((q1, q2), er) → ∀ (tmps : Array Value), tmps.getD 8 undef = .pointer (some ⟨w.heap.size + 1, 0, none⟩) → tmps.getD 9 undef = .int .i64 er →
      (results Tryd.f10 tmps).run Tryd.prog (putB w9 (w.heap.size + 1) 25 #[.int .i64 q1, .int .i64 q2]) = .ok (tupS (spanT a b i o m)) (putB w9 (w.heap.size + 1) 25 #[.int .i64 q1, .int .i64 q2]) ∧ Ext w (putB w9 (w.heap.size + 1) 25 #[.int .i64 q1, .int .i64 q2]) := fun w9 q1 q2 er hx hs tmps h8 h9 => by
    refine ⟨?_, (HX.out.trans hx).put (by omega) _ _⟩
    have := results_B_tmp (P := Tryd.prog) Tryd.results10 (tmps := tmps) (w := putB w9 (w.heap.size + 1) 25 #[.int .i64 q1, .int .i64 q2]) (g := w.heap.size + 1) h8 ((HZ.out.ext hx).put _) Tryd.underlying25 rfl size_span'
    rw [this, h9, hs]
    rfl
  have HEnd := Lib.hid END
  clear END
  go_enter Tryd.func10, Tryd.ntmps10
  cases ho : rOk a
  · have HO := Lib.hid ho
    clear ho
    go_wp2_with fail
    try rw [hW0]
    refine (HVa.out _).mono ?_
    rintro en w1 ⟨rfl, hx1⟩
    rw [HO.out]
    have HZ1 := Lib.hid (HZ.out.ext hx1)
    go_wp2_with (refine wpList_storeB rfl 25 (.tmp 8) _ rfl (w.heap.size + 1) 25 _ _ (by exact rfl) (by exact rfl) (by exact HZ1.out) (by exact rfl) (by exact size_span') (by simp [Value.oneCell']) ?_)
    exact (fun h => bodyPost_ret (v := tupS (spanT a b i o m)) h.1 rfl ⟨rfl, h.2⟩) (HEnd.out _ _ _ _ hx1 (S1.out (.inl HO.out)) _ (by exact rfl) (by exact rfl))
  cases hb : rOk b
  · have HO := Lib.hid ho
    have HP := Lib.hid hb
    clear ho hb
    go_wp2_with fail
    try rw [hW0]
    refine (HVa.out _).mono ?_
    rintro en w1 ⟨rfl, hx1⟩
    rw [HO.out]
    go_wp2_with fail
    refine (HVb.out _).mono ?_
    rintro en w2 ⟨rfl, hx2⟩
    rw [HP.out]
    have hx2' := hx1.trans hx2
    have HZ1 := Lib.hid (HZ.out.ext hx2')
    go_wp2_with (refine wpList_storeB rfl 25 (.tmp 8) _ rfl (w.heap.size + 1) 25 _ _ (by exact rfl) (by exact rfl) (by exact HZ1.out) (by exact rfl) (by exact size_span') (by simp [Value.oneCell']) ?_)
    exact (fun h => bodyPost_ret (v := tupS (spanT a b i o m)) h.1 rfl ⟨rfl, h.2⟩) (HEnd.out _ _ _ _ hx2' (S1.out (.inr HP.out)) _ (by exact rfl) (by exact rfl))
  have HNo : Hid (¬ (rOk a = false ∨ rOk b = false)) := by show ¬ _; simp [ho, hb]
  have HO := Lib.hid ho
  have HP := Lib.hid hb
  clear ho hb S1
  go_wp2_with fail
  try rw [hW0]
  refine (HVa.out _).mono ?_
  rintro en w1 ⟨rfl, hx1⟩
  rw [HO.out]
  go_wp2_with fail
  refine (HVb.out _).mono ?_
  rintro en w2 ⟨rfl, hx2⟩
  rw [HP.out]
  have HX2 := Lib.hid (hx1.trans hx2)
  have HZ2 := Lib.hid (HZ.out.ext HX2.out)
  have HB2 := Lib.hid (HB.out.ext HX2.out)
  clear hx1 hx2
  have hc2 := fun k => HB2.out.cell k
  go_wp2_with fail
  refine (PKnown_any m _).mono ?_
  rintro en w3 ⟨rfl, hx3⟩
  subst hx3
  cases hm : decide (m = 1 ∨ m = 2)
  · have HM : Hid (¬ (m = 1 ∨ m = 2)) := by show ¬ _; exact of_decide_eq_false hm
    clear hm
    go_wp2_with (refine wpList_storeB rfl 25 (.tmp 8) _ rfl (w.heap.size + 1) 25 _ _ (by exact rfl) (by exact rfl) (by exact HZ2.out) (by exact rfl) (by exact size_span') (by simp [Value.oneCell']) ?_)
    exact (fun h => bodyPost_ret (v := tupS (spanT a b i o m)) h.1 rfl ⟨rfl, h.2⟩) (HEnd.out _ _ _ _ HX2.out (S2.out HNo.out (.inl HM.out)) _ (by exact rfl) (by exact rfl))
  have HM : Hid (m = 1 ∨ m = 2) := by show _ ∨ _; exact of_decide_eq_true hm
  clear hm
  by_cases hio : o ≤ i
  · go_wp2_with (refine wpList_storeB rfl 25 (.tmp 8) _ rfl (w.heap.size + 1) 25 _ _ (by exact rfl) (by exact rfl) (by exact HZ2.out) (by exact rfl) (by exact size_span') (by simp [Value.oneCell']) ?_)
    exact (fun h => bodyPost_ret (v := tupS (spanT a b i o m)) h.1 rfl ⟨rfl, h.2⟩) (HEnd.out _ _ _ _ HX2.out (S2.out HNo.out (.inr hio)) _ (by exact rfl) (by exact rfl))
  have HM2 : Hid (¬ (¬ (m = 1 ∨ m = 2) ∨ o ≤ i)) := by show ¬ _; have := HM.out; omega
  clear S2
  by_cases hi : i < 0
  · go_wp2_with (refine wpList_storeB rfl 25 (.tmp 8) _ rfl (w.heap.size + 1) 25 _ _ (by exact rfl) (by exact rfl) (by exact HZ2.out) (by exact rfl) (by exact size_span') (by simp [Value.oneCell']) ?_)
    exact (fun h => bodyPost_ret (v := tupS (spanT a b i o m)) h.1 rfl ⟨rfl, h.2⟩) (HEnd.out _ _ _ _ HX2.out (S3.out HNo.out HM2.out (.inl hi)) _ (by exact rfl) (by exact rfl))
  by_cases hoo : 5184000 < o
  · go_wp2_with (refine wpList_storeB rfl 25 (.tmp 8) _ rfl (w.heap.size + 1) 25 _ _ (by exact rfl) (by exact rfl) (by exact HZ2.out) (by exact rfl) (by exact size_span') (by simp [Value.oneCell']) ?_)
    exact (fun h => bodyPost_ret (v := tupS (spanT a b i o m)) h.1 rfl ⟨rfl, h.2⟩) (HEnd.out _ _ _ _ HX2.out (S3.out HNo.out HM2.out (.inr hoo)) _ (by exact rfl) (by exact rfl))
  have HM3 : Hid (¬ (i < 0 ∨ 5184000 < o)) := by show ¬ _; omega
  clear S3
  by_cases h2 : m = 2
  · subst h2
    go_wp2_with (first | (refine wpList_loadB rfl 25 (.tmp 6) rfl w.heap.size 25 _ _ (by exact rfl) (by exact HB2.out) Tryd.underlying25 rfl (by exact size_span') ?_) | (refine wpList_storeB rfl 25 (.tmp 8) _ rfl (w.heap.size + 1) 25 _ _ (by exact rfl) (by exact rfl) (by exact HZ2.out) (by exact rfl) (by exact size_span') (by simp [Value.oneCell']) ?_))
    exact (fun h => bodyPost_ret (v := tupS (spanT a b i o 2)) h.1 rfl ⟨rfl, h.2⟩) (HEnd.out _ _ _ _ HX2.out (S4.out HNo.out HM2.out HM3.out trivial) _ (by exact rfl) (by exact rfl))
  have HE := Lib.hid (S5.out HNo.out HM2.out HM3.out h2)
  have h2' : (m == 2) = false := by simpa using h2
  clear S4 S5 h2
  have hbi := conv_bd a b i
  have hbo := conv_bd a b o
  have HCi := Lib.hid (HC.out i)
  have HCo := Lib.hid (HC.out o)
  clear HC
  generalize convT a b i 2 = pi at *
  generalize convT a b o 2 = po at *
  obtain ⟨ci, ei⟩ := pi
  obtain ⟨co, eo⟩ := po
  dsimp only at *
  go_wp2_with fail
  refine (HCi.out _).mono ?_
  rintro en w4 ⟨rfl, hx4⟩
  have HX4 := Lib.hid (HX2.out.trans hx4)
  have HZ4 := Lib.hid (HZ2.out.ext hx4)
  have HB4 := Lib.hid (HB2.out.ext hx4)
  clear hx4 hc2
  have hc4 := fun k => HB4.out.cell k
  by_cases hei : ei = 0
  case neg =>
    have hne : (ei != 0) = true := by simpa using hei
    have HG := Lib.hid (HE.out.trans (if_pos hei))
    go_wp2_with (refine wpList_storeB rfl 25 (.tmp 8) _ rfl (w.heap.size + 1) 25 _ _ (by exact rfl) (by exact rfl) (by exact HZ4.out) (by exact rfl) (by exact size_span') (by simp [Value.oneCell']) ?_)
    exact (fun h => bodyPost_ret (v := tupS (spanT a b i o m)) h.1 rfl ⟨rfl, h.2⟩) (HEnd.out _ _ _ _ HX4.out HG.out _ (by exact rfl) (by exact rfl))
  subst hei
  have HG := Lib.hid (HE.out.trans (if_neg (by simp)))
  clear HE
  go_wp2_with fail
  refine (HCo.out _).mono ?_
  rintro en w5 ⟨rfl, hx5⟩
  have HX5 := Lib.hid (HX4.out.trans hx5)
  have HZ5 := Lib.hid (HZ4.out.ext hx5)
  clear hx5 hc4
  by_cases heo : eo = 0
  case neg =>
    have hne : (eo != 0) = true := by simpa using heo
    have HG2 := Lib.hid (HG.out.trans (if_pos heo))
    go_wp2_with (refine wpList_storeB rfl 25 (.tmp 8) _ rfl (w.heap.size + 1) 25 _ _ (by exact rfl) (by exact rfl) (by exact HZ5.out) (by exact rfl) (by exact size_span') (by simp [Value.oneCell']) ?_)
    exact (fun h => bodyPost_ret (v := tupS (spanT a b i o m)) h.1 rfl ⟨rfl, h.2⟩) (HEnd.out _ _ _ _ HX5.out HG2.out _ (by exact rfl) (by exact rfl))
  subst heo
  have HG2 := Lib.hid (HG.out.trans (if_neg (by simp)))
  clear HG
  have hmx : 0 ≤ max co (ci + 1) ∧ max co (ci + 1) ≤ 10378373006 := by omega
  by_cases hbig : 5184000 < max co (ci + 1)
  · have HG3 := Lib.hid (HG2.out.trans (if_pos hbig))
    go_wp2_with (refine wpList_storeB rfl 25 (.tmp 8) _ rfl (w.heap.size + 1) 25 _ _ (by exact rfl) (by exact rfl) (by exact HZ5.out) (by exact rfl) (by exact size_span') (by simp [Value.oneCell']) ?_)
    exact (fun h => bodyPost_ret (v := tupS (spanT a b i o m)) h.1 rfl ⟨rfl, h.2⟩) (HEnd.out _ _ _ _ HX5.out HG3.out _ (by exact rfl) (by exact rfl))
  · have HG3 := Lib.hid (HG2.out.trans (if_neg hbig))
    go_wp2_with (refine wpList_storeB rfl 25 (.tmp 8) _ rfl (w.heap.size + 1) 25 _ _ (by exact rfl) (by exact rfl) (by exact HZ5.out) (by exact rfl) (by exact size_span') (by simp [Value.oneCell']) ?_)
    exact (fun h => bodyPost_ret (v := tupS (spanT a b i o m)) h.1 rfl ⟨rfl, h.2⟩) (HEnd.out _ _ _ _ HX5.out HG3.out _ (by exact rfl) (by exact rfl))
end Go.Proofs.YtaocjfneglgmjaaDoor

/-! RetK -/
namespace Go.Proofs.YtaocjfneglgmjaaDoor
set_option linter.unusedVariables false
set_option linter.unusedSimpArgs false
open Go.RowKit Go.Maps

theorem wp_call4R {P : Program} {o : Oper} {a : Act} {w : World} {K : Act → World → Prop} {Q : Exit → Act → World → Prop} {f : FuncId} {x y z t : Operand} {ts : Array TypeId} {v v1 v2 v3 : Value} (ho : o.op = .call { callee := .value (.func f), args := #[x, y, z, t], argTypes := ts }) (hx : a.eval x = v) (hy : a.eval y = v1) (hz : a.eval z = v2) (ht : a.eval t = v3)
    (hent : ∀ args w, (callFunc f args).run P w = .ok (.enter f args) w) {R : Ending → World → Prop} (hc : Calls P f #[v, v1, v2, v3] w R) (h : ∀ en w', R en w' → ∃ u, en = .returned u ∧ K (a.put o.dst u) w') : o.wp P a w K Q := by
  have h2 : Calls P f #[v, v1, v2, v3] w (fun
      | .returned u, w'' => K (a.put o.dst u) w''
      | .panicked chain, w'' => Q (.panic chain) a w''
      | .outgrown, _ => LetsOut Q) := hc.mono fun en w' hr => by
    obtain ⟨u, rfl, hk⟩ := h en w' hr
    exact hk
  unfold Oper.wp execOp
  simp only [ho]
  have hev : a.eval (.func f) = .func (.func f) #[] #[] := rfl
  simp [resolve, invoke, hev, hx, hy, hz, ht, hent, Sem.run_bind, Deferred.ofValue]
  exact h2
/-- one element, built just now, is appended to a row of the call's own (an operation of a drawn region) -/
theorem wp_append1a {P : Program} {o : Oper} {a : Act} {w : World} {K : Act → World → Prop} {Q : Exit → Act → World → Prop} (s x : Operand) (t : TypeId)
    (ho : o.op = .call { callee := .builtin .append, args := #[s, x], argTypes := #[t, t] })
    {base : Nat} {e : TypeId} {z : Value} {size bytes : Nat} (inf : (P.info? e).map (fun i => (i.zero, i.size, i.bytes)) = some (some z, size, bytes)) (ht : P.underlying t = some (.slice e)) (hzs : z.cells.size = size) (hsz : 0 < size)
    {v : Value} {n : Nat} {xs : List Value} (hown : w.ownsRow base e size v n xs) (hs : a.eval s = v) (g : Nat) (news : Array Value) (hx : a.eval x = .slice (some ⟨g, 0, none⟩) 1 1) (hB : Blk w g e news) (hl : news.size = size) (h1 : news.all (·.oneCell') = true)
    (hroom : (n + 1) * bytes ≤ 140737488355328) (hmax : n + 1 ≤ maxLen) (hbase : base ≤ w.heap.size)
    (h : ∀ v' w', w'.ownsRow base e size v' (n + 1) (xs ++ news.toList) → w.grownBy w' v.ownBlock → (v'.ownBlock = v.ownBlock ∨ v'.ownBlock = some w.heap.size) → K (a.put o.dst v') w') : o.wp P a w K Q := by
  obtain ⟨i, hi, hz0, hz1, hz2⟩ := info_parts inf
  obtain ⟨v', w', hrun, h2, h3, _, h5⟩ := run_append_own_at (P := P) w base t o.type e i z size bytes ht hi hz0 hz1 hz2 hzs hsz v n xs hown ⟨g, 0, none⟩ 1 1 news.toList (by simpa using hl)
    (fun j u hu => by rw [Addr.add_mid, Nat.zero_add, hB.cell]; simpa using hu) (fun u hu => (Array.all_eq_true_iff_forall_mem.1 h1) u (by simpa using hu)) hmax hroom hbase
  unfold Oper.wp execOp
  simp only [ho, resolve, invoke, builtin, Sem.run_bind, Sem.run_pure, Result.andThen_ok, List.map_toArray, List.map_cons, List.map_nil, hs, hx, hrun]
  exact h v' w' h2 h3 h5
theorem spanT_bd {a b i o m : Int} (h : (spanT a b i o m).2 = 0) : rOk a = true ∧ rOk b = true ∧ 0 ≤ (spanT a b i o m).1.1 ∧ (spanT a b i o m).1.1 < (spanT a b i o m).1.2 ∧ (spanT a b i o m).1.2 ≤ 5184000 := by
  unfold spanT at h ⊢
  by_cases h1 : rOk a = false ∨ rOk b = false
  · rw [if_pos h1] at h; simp at h
  rw [if_neg h1] at h ⊢
  have ha : rOk a = true := by
    cases hx : rOk a
    · exact absurd (.inl hx) h1
    · rfl
  have hb : rOk b = true := by
    cases hx : rOk b
    · exact absurd (.inr hx) h1
    · rfl
  refine ⟨ha, hb, ?_⟩
  by_cases h2 : ¬ (m = 1 ∨ m = 2) ∨ o ≤ i
  · rw [if_pos h2] at h; simp at h
  rw [if_neg h2] at h ⊢
  by_cases h3 : i < 0 ∨ 5184000 < o
  · rw [if_pos h3] at h; simp at h
  rw [if_neg h3] at h ⊢
  by_cases h4 : m = 2
  · rw [if_pos h4]; dsimp only; omega
  rw [if_neg h4] at h ⊢
  have c0 := conv_bd a b i
  by_cases h5 : (convT a b i 2).2 ≠ 0
  · rw [if_pos h5] at h; exact absurd h h5
  rw [if_neg h5] at h ⊢
  by_cases h6 : (convT a b o 2).2 ≠ 0
  · rw [if_pos h6] at h; exact absurd h h6
  rw [if_neg h6] at h ⊢
  by_cases h7 : 5184000 < max (convT a b o 2).1 ((convT a b i 2).1 + 1)
  · rw [if_pos h7] at h; simp at h
  rw [if_neg h7]
  dsimp only
  omega
theorem mul_bd {x t : Int} (h0 : 0 ≤ x) (h1 : x ≤ 5184000) (t0 : 0 ≤ t) (t1 : t ≤ 5005) : 0 ≤ x * t ∧ x * t ≤ 25945920000 := by
  refine ⟨Int.mul_nonneg h0 t0, ?_⟩
  calc x * t ≤ 5184000 * t := Int.mul_le_mul_of_nonneg_right h1 t0
    _ ≤ 5184000 * 5005 := Int.mul_le_mul_of_nonneg_left t1 (by omega)
theorem info_dri : (Tryd.prog.info? 42).map (fun i => (i.zero, i.size, i.bytes)) = some (some (.agg #[.int .i64 0, .int .i64 0, .int .i64 0]), 3, 24) := by kernel_rfl
theorem zero_i64 (w : World) : (zeroValue 2).run Tryd.prog w = .ok (.int .i64 0) w := by kernel_rfl
theorem wp_alloc_span {o : Oper} {a : Act} {w : World} {K : Act → World → Prop} {Q : Exit → Act → World → Prop} (ho : o.op = .alloc 25) (h : K (a.put o.dst (.pointer (some ⟨w.heap.size, 0, none⟩))) (w.alloc (.cells #[.int .i64 0, .int .i64 0] 25))) : o.wp Tryd.prog a w K Q := by
  obtain ⟨dst, op, ty, pos, after, guard⟩ := o
  simp only at ho
  subst ho
  go_simp
  exact h
theorem results_B_tmp2 {P : Program} {fn : Func} {p u v : Tmp} {ty : TypeId} (h : fn.results = #[.cell p ty, .tmp u, .tmp v]) {tmps : Array Value} {w : World} {g : Nat} {t : TypeId} {cs : Array Value} {d : TypeDesc} (hp : tmps.getD p undef = .pointer (some ⟨g, 0, none⟩))
    (hB : Blk w g t cs) (hu : P.underlying ty = some d) (hd : d.isRow = true) (hi : (P.info? ty).map (·.size) = some cs.size) : (results fn tmps).run P w = .ok (.tuple #[.agg cs, tmps.getD u undef, tmps.getD v undef]) w := by
  have h1 := run_loadVarB (P := P) g t ty cs d hB hu hd hi
  simp only [results, h]
  have e : tmps[p]?.getD undef = .pointer (some ⟨g, 0, none⟩) := by simpa using hp
  simp [Sem.run_bind, e, run_asAddr, h1]
def docH0 : DocH := ⟨none, 0, 0, none, 0, 0, none, 0, 0⟩
theorem docZero_cells : Doc.zero.cells docH0 = docZero := rfl
theorem docZero_at (w : World) : DocAt w Doc.zero docH0 := ⟨Sl.nil, Sl.nil, Sl.nil⟩
/-- what Retime comes to -/
def RetPost (d : Doc) (b : Int) (drop : Bool) (m : Int) (w : World) (en : Ending) (w' : World) : Prop :=
  ∃ h' A n c, en = .returned (.tuple #[.agg ((d.retD b drop m).cells h'), .slice A n c, .int .i64 (d.retE b drop m)]) ∧ DocAt w' (d.retD b drop m) h' ∧ DrisAt w' A n (d.retL b drop m) ∧ n ≤ c ∧ Ext w w'
theorem retPost_err {d : Doc} {b m : Int} {drop : Bool} {w w' : World} {en : Ending} {e : Int} (he : d.retE b drop m = e) (h0 : e ≠ 0) (hx : Ext w w') (hen : en = .returned (.tuple #[.agg docZero, .slice none 0 0, .int .i64 e])) : RetPost d b drop m w en w' := by
  have h1 : d.retD b drop m = Doc.zero := by unfold Doc.retD; rw [if_neg (by rw [he]; exact h0)]
  have h2 : d.retL b drop m = [] := by unfold Doc.retL; rw [if_neg (by rw [he]; exact h0)]
  refine ⟨docH0, none, 0, 0, ?_, ?_, ?_, Nat.le_refl _, hx⟩
  · rw [hen, h1, docZero_cells, he]
  · rw [h1]; exact docZero_at w'
  · rw [h2]; exact Sl.nil
section
variable {d : Doc} {b m : Int} {drop : Bool}
theorem ret_1 (h : d.err ≠ 0) : d.retE b drop m = d.err := by unfold Doc.retE; rw [if_pos h]
theorem ret_2 (h : d.err = 0) (h2 : rateOkB b drop = false) : d.retE b drop m = 13 := by unfold Doc.retE; rw [if_neg (by simpa using h), if_pos h2]
theorem ret_3 (h : d.err = 0) (h2 : rateOkB b drop = true) (h3 : ¬ (m = 1 ∨ m = 2)) : d.retE b drop m = 1 := by unfold Doc.retE; rw [if_neg (by simpa using h), if_neg (by simp [h2]), if_pos h3]
theorem ret_4 (h : d.err = 0) (h2 : rateOkB b drop = true) (h3 : m = 1 ∨ m = 2) : d.retE b drop m = retErr d.rate b m d.evs := by unfold Doc.retE; rw [if_neg (by simpa using h), if_neg (by simp [h2]), if_neg (not_not_intro h3)]
end
theorem KM.trans {w w1 w2 : World} (h : KM w w1) (k : KM w1 w2) : KM w w2 := fun b es cl hb => k b es cl (h b es cl hb)
theorem mapIdx_at {α β : Type} (f : Nat → α → β) {l : List α} {k : Nat} (hk : k ≤ l.length) : ((l.take k).mapIdx f).length = k := by simp; omega
/-- the events while they are turned: those ahead of place k are new -/
def midEvs (a b m : Int) (l : List Ev) (k : Nat) : List Ev := retEvs a b m (l.take k) ++ l.drop k
theorem midEvs_at {a b m : Int} {l : List Ev} {k : Nat} {x : Ev} (h : l[k]? = some x) : (midEvs a b m l k)[k]? = some x := by
  have hk := (List.getElem?_eq_some_iff.1 h).1
  unfold midEvs retEvs
  rw [List.getElem?_append_right (by rw [mapIdx_at _ (by omega)]; exact Nat.le_refl _), mapIdx_at _ (by omega), Nat.sub_self, List.getElem?_drop, Nat.add_zero]
  exact h
theorem midEvs_set {a b m : Int} {l : List Ev} {k : Nat} {x : Ev} (h : l[k]? = some x) : (midEvs a b m l k).set k (retEv a b m k x) = midEvs a b m l (k + 1) := by
  have hk := (List.getElem?_eq_some_iff.1 h).1
  have hl : (retEvs a b m (l.take k)).length = k := mapIdx_at _ (by omega)
  unfold midEvs
  rw [drop_at l k x h, List.set_append_right _ _ (by omega), hl, Nat.sub_self, List.set_cons_zero]
  unfold retEvs
  rw [mapIdx_take _ h, List.append_assoc]
  rfl
theorem retDris_take {a b m : Int} {l : List Ev} {k : Nat} {x : Ev} (h : l[k]? = some x) : retDris a b m (l.take (k + 1)) = retDris a b m (l.take k) ++ [retDri a b m k x] := mapIdx_take _ h
structure RtRel (d : Doc) (h : DocH) (b m : Int) (oc : Array Value) (B M : Nat) (hh : DocH) (w : World) (k : Nat) (v : Value) (wr : World) : Prop where
  ext : Ext w wr
  doc : Blk wr w.heap.size 35 (d.cells h)
  zero : Blk wr (w.heap.size + 1) 35 docZero
  out : Blk wr B 35 oc
  regs : wr.ownsRow w.heap.size 92 7 (.slice hh.ra hh.rn hh.rc) hh.rn (d.regs.flatMap Reg.vals)
  evs : EvsOwn wr w.heap.size (.slice hh.ea hh.en hh.ec) hh.en (midEvs d.rate b m d.evs k)
  map : MapI wr 2 M (d.evs.take k)
  dris : wr.ownsRow w.heap.size 42 3 v k ((retDris d.rate b m (d.evs.take k)).flatMap Dri.vals)
def RtLoop (d : Doc) (h : DocH) (b m : Int) (oc : Array Value) (B M : Nat) (hh : DocH) (w : World) (i v : Value) (wr : World) : Prop :=
  ∃ k : Nat, k ≤ hh.en ∧ i = .int .i64 k ∧ RtRel d h b m oc B M hh w k v wr ∧ retErr d.rate b m d.evs = retErr d.rate b m (d.evs.drop k)
section
variable {d : Doc} {h hh : DocH} {b m : Int} {oc : Array Value} {B M k : Nat} {w wr w1 : World} {v : Value}
theorem RtRel.grow (r : RtRel d h b m oc B M hh w k v wr) (hx : Ext wr w1) : RtRel d h b m oc B M hh w k v w1 :=
  ⟨r.ext.trans hx, r.doc.ext hx, r.zero.ext hx, r.out.ext hx, own_ext r.regs hx, r.evs.ext hx, r.map.ext hx, own_ext r.dris hx⟩
/-- all but the map and what is not known of it -/
theorem RtRel.turned {x : Ev} (r : RtRel d h b m oc B M hh w k v wr) (hx : d.evs[k]? = some x) (ht : wr.mapTurned w1 M) (hM : w.heap.size ≤ M) : Ext w w1 ∧ Blk w1 w.heap.size 35 (d.cells h) ∧ Blk w1 (w.heap.size + 1) 35 docZero ∧ Blk w1 B 35 oc ∧
    w1.ownsRow w.heap.size 92 7 (.slice hh.ra hh.rn hh.rc) hh.rn (d.regs.flatMap Reg.vals) ∧ EvsOwn w1 w.heap.size (.slice hh.ea hh.en hh.ec) hh.en (midEvs d.rate b m d.evs k) ∧ w1.ownsRow w.heap.size 42 3 v k ((retDris d.rate b m (d.evs.take k)).flatMap Dri.vals) :=
  ⟨turned_ext ht r.ext hM, r.doc.kb (KB.turned ht), r.zero.kb (KB.turned ht), r.out.kb (KB.turned ht), own_kb r.regs (KB.turned ht), r.evs.kb (KB.turned ht) (KB.turned ht) (KB.turned ht), own_kb r.dris (KB.turned ht)⟩
theorem RtRel.step {x : Ev} {w17 w10 w22 w5 : World} {g ec' : Nat} {si so : Int} {v' : Value} (r : RtRel d h b m oc B M ⟨hh.ra, hh.rn, hh.rc, some ⟨g, 0, none⟩, hh.en, ec', hh.ca, hh.cn, hh.cc⟩ w k v wr) (hx : d.evs[k]? = some x) (hsp : x.span d.rate b m = ((si, so), 0)) (h17 : Ext wr w17) (ht : w17.mapTurned w10 M) (hM : w.heap.size ≤ M) (hmap : MapI w10 2 M (d.evs.take (k + 1)))
    (hon : Only 42 w10 w22) (he22 : Ext w w22) (hd : w22.ownsRow w.heap.size 42 3 v' (k + 1) ((retDris d.rate b m (d.evs.take k)).flatMap Dri.vals ++ [.int .i64 ((k : Int) + 1), .int .i64 (si * rTicks b - x.inn * rTicks d.rate), .int .i64 (so * rTicks b - x.out * rTicks d.rate)])) (h5 : Ext w22 w5) :
    RtRel d h b m oc B M ⟨hh.ra, hh.rn, hh.rc, some ⟨g, 0, none⟩, hh.en, ec', hh.ca, hh.cn, hh.cc⟩ w (k + 1) v' (w5.setCells g (k * 7) [.int .i64 ((k : Int) + 1), .int .i64 si, .int .i64 so]) := by
  have hat := midEvs_at (a := d.rate) (b := b) (m := m) hx
  obtain ⟨g', A', n', c', hA, hLg, hglt, hty, _⟩ := r.evs.head hat
  injection hA with hA
  injection hA with hA _ _
  subst hA
  have key : ∀ {T : TypeId}, T ≠ 42 → KB T wr w5 := fun hn => (KB.ext h17).trans ((KB.turned ht).trans ((hon.kb _ hn).trans (KB.ext h5)))
  have hty5 : Typed w5 46 g := hty.kb (key (by decide))
  have hs : Only 46 w5 (w5.setCells g (k * 7) [.int .i64 ((k : Int) + 1), .int .i64 si, .int .i64 so]) := Only.sets _ _ _ hty5
  have ke : EvsOwn w5 w.heap.size (.slice (some ⟨g, 0, none⟩) hh.en ec') hh.en (midEvs d.rate b m d.evs k) := r.evs.kb (key (by decide)) (key (by decide)) (key (by decide))
  have hev : retEv d.rate b m k x = ⟨(k : Int) + 1, si, so, x.region, x.kind, x.speaker, x.rows⟩ := by unfold retEv; rw [hsp]
  have hdr : retDri d.rate b m k x = ⟨(k : Int) + 1, si * rTicks b - x.inn * rTicks d.rate, so * rTicks b - x.out * rTicks d.rate⟩ := by unfold retDri; rw [hsp]
  refine ⟨ext_sets hLg _ _ _ (he22.trans h5), (r.doc.kb (key (by decide))).only hs (by decide), (r.zero.kb (key (by decide))).only hs (by decide), (r.out.kb (key (by decide))).only hs (by decide), own_kb (own_kb r.regs (key (by decide))) (hs.kb _ (by decide)), ?_, (hmap.km (KM.trans hon.km (Only.ext (T := 0) h5).km)).km hs.km, ?_⟩
  · rw [← midEvs_set hx, hev]
    exact ke.edit _ _ _ hat
  · rw [retDris_take hx, List.flatMap_append, hdr]
    exact own_kb (own_ext (by simpa [Dri.vals] using hd) h5) (hs.kb _ (by decide))
end
end Go.Proofs.YtaocjfneglgmjaaDoor

/-! RetC -/
namespace Go.Proofs.YtaocjfneglgmjaaDoor
set_option linter.unusedVariables false
set_option linter.unusedSimpArgs false
open Go.RowKit Go.Maps

theorem wp_lookup_mapI {o : Oper} {a : Act} {w : World} {K : Act → World → Prop} {Q : Exit → Act → World → Prop} {s s' M j : Nat} {id : Int} {l : List Ev} (ho : o.op = .lookup 69 (.tmp s) (.tmp s') false) (hx : a.eval (.tmp s) = .map (some M)) (hy : a.eval (.tmp s') = .int .i64 id)
    (hm : MapI w 2 M l) (hid : IW id) (hf : findE l id = some j) (h : K (a.put o.dst (.int .i64 ((j : Int) + 1))) w) : o.wp Tryd.prog a w K Q := by
  obtain ⟨n, D, hown, _, hmap, hat⟩ := hm
  obtain ⟨c, hrun, hc, hwf⟩ := hown.lookup_int key64 Tryd.underlying69 Tryd.underlying2 (zero_i64 w) hid.key
  rw [hat id j hid hf] at hc
  obtain rfl : (j : Int) + 1 = c := by simpa using hc
  unfold Oper.wp execOp
  simp [ho, hx, hy, hrun, Result.andThen]
  exact h
def ocells (d : Doc) (b : Int) (drop : Bool) (last : Int) (r e c : Value) : Array Value := #[.string d.title, .string d.lang, .int .u8 b, .bool drop, .int .i64 last, r, e, c]
structure RcRel (d : Doc) (h : DocH) (b m : Int) (drop : Bool) (B M : Nat) (hh : DocH) (w : World) (vd : Value) (k : Nat) (v : Value) (wr : World) : Prop where
  ext : Ext w wr
  doc : Blk wr w.heap.size 35 (d.cells h)
  zero : Blk wr (w.heap.size + 1) 35 docZero
  out : Blk wr B 35 (ocells d b drop ((d.evs.length : Int) + liveN (d.coms.take k)) (.slice hh.ra hh.rn hh.rc) (.slice hh.ea hh.en hh.ec) v)
  regs : wr.ownsRow w.heap.size 92 7 (.slice hh.ra hh.rn hh.rc) hh.rn (d.regs.flatMap Reg.vals)
  evs : EvsOwn wr w.heap.size (.slice hh.ea hh.en hh.ec) hh.en (retEvs d.rate b m d.evs)
  map : MapI wr 2 M d.evs
  dris : wr.ownsRow w.heap.size 42 3 vd d.evs.length ((retDris d.rate b m d.evs).flatMap Dri.vals)
  coms : wr.ownsRow w.heap.size 72 8 v (liveN (d.coms.take k)) ((retComs d.evs d.evs.length (d.coms.take k)).flatMap Com.vals)
def RcLoop (d : Doc) (h : DocH) (b m : Int) (drop : Bool) (B M : Nat) (hh : DocH) (w : World) (vd : Value) (n : Nat) (i : Value) (wr : World) : Prop :=
  ∃ (k : Nat) (v : Value), k ≤ n ∧ i = .int .i64 k ∧ (∃ A N c, v = .slice A N c) ∧ RcRel d h b m drop B M hh w vd k v wr
theorem own_shape {w : World} {L : Nat} {e : TypeId} {size : Nat} {v : Value} {n : Nat} {xs : List Value} (h : w.ownsRow L e size v n xs) : ∃ A c, v = .slice A n c := by
  rcases h.2 with ⟨rfl, rfl⟩ | ⟨g, cap, cur, rfl, _⟩
  · exact ⟨none, 0, rfl⟩
  · exact ⟨_, _, rfl⟩
/-- two cells of a comment are stored, one after the other, in a drawn region -/
structure CsJ (C : Nat) (cs1 cs2 : Array Value) (W : World) (us : List Value) (w' : World) : Prop where
  only : Only 72 W w'
  nil : us = [] → Ext W w'
  one : ∀ u, us = [u] → ∃ w5, Ext W w5 ∧ w' = putB w5 C 72 cs1
  two : ∀ u u1, us = [u, u1] → ∃ w5, Ext W w5 ∧ w' = putB w5 C 72 cs2
section
variable {C : Nat} {cs0 cs1 cs2 : Array Value} {W w' : World} {u0 u1 : Value}
theorem CsJ.start (W : World) : CsJ C cs1 cs2 W [] W.drew := ⟨Only.ext (Ext.refl W).drew, fun _ => (Ext.refl W).drew, fun u h => by simp at h, fun u u1 h => by simp at h⟩
theorem CsJ.first (h : CsJ C cs1 cs2 W [] w') (hB : Blk W C 72 cs0) : CsJ C cs1 cs2 W ([] ++ [u0]) (putB w' C 72 cs1) :=
  ⟨(Only.ext (h.nil rfl)).trans (Only.put (hB.ext (h.nil rfl))), fun h => by simp at h, fun u hu => ⟨w', h.nil rfl, rfl⟩, fun u u1 h => by simp at h⟩
theorem CsJ.second (h : CsJ C cs1 cs2 W [u0] w') (hB : Blk W C 72 cs0) : CsJ C cs1 cs2 W ([u0] ++ [u1]) (putB w' C 72 cs2) := by
  obtain ⟨w5, hx, rfl⟩ := h.one u0 rfl
  refine ⟨h.only.trans (Only.put ((hB.ext hx).put cs1)), fun h => by simp at h, fun u h => by simp at h, fun u v e => ⟨w5, hx, by rw [putB_putB]⟩⟩
end
section
variable {d : Doc} {h hh : DocH} {b m : Int} {drop : Bool} {B M k C : Nat} {w wr w28 w5 w33 : World} {vd v v' : Value} {c : Com} {oc : Array Value} {cs0 cs2 : Array Value}
theorem RcRel.grow {w1 : World} (r : RcRel d h b m drop B M hh w vd k v wr) (hx : Ext wr w1) : RcRel d h b m drop B M hh w vd k v w1 :=
  ⟨r.ext.trans hx, r.doc.ext hx, r.zero.ext hx, r.out.ext hx, own_ext r.regs hx, r.evs.ext hx, r.map.ext hx, own_ext r.dris hx, own_ext r.coms hx⟩
theorem RcRel.skip {w1 : World} (r : RcRel d h b m drop B M hh w vd k v wr) (hc : d.coms[k]? = some c) (hl : c.lost = true) (hx : Ext wr w1) : RcRel d h b m drop B M hh w vd (k + 1) v w1 := by
  have g := r.grow hx
  have e1 : liveN (d.coms.take (k + 1)) = liveN (d.coms.take k) := by rw [liveN_take hc, if_pos hl]; rfl
  have e2 : retComs d.evs d.evs.length (d.coms.take (k + 1)) = retComs d.evs d.evs.length (d.coms.take k) := by rw [retComs_take d.evs hc, if_pos hl, List.append_nil]
  exact ⟨g.ext, g.doc, g.zero, by rw [e1]; exact g.out, g.regs, g.evs, g.map, g.dris, by rw [e1, e2]; exact g.coms⟩
/-- the row of comments behind the stores into the copy -/
theorem RcRel.row (r : RcRel d h b m drop B M hh w vd k v wr) (h28 : Ext wr w28) (h5 : Ext (putB w28 B 35 oc) w5) (hC : wr.heap.size ≤ C) :
    (putB w5 C 72 cs2).ownsRow w.heap.size 72 8 v (liveN (d.coms.take k)) ((retComs d.evs d.evs.length (d.coms.take k)).flatMap Com.vals) := by
  have h1 := own_ext (own_kb (own_ext r.coms h28) (KB.put (r.out.ext h28) (cs' := oc) (by decide))) h5
  refine h1.kept (putB_grown _ _ _ _) ?_
  cases hv : v.ownBlock with
  | none => exact .inl rfl
  | some q =>
    refine .inr fun e => ?_
    have := (r.coms.lt q hv).2
    have := Option.some.inj e
    omega
theorem RcRel.step (r : RcRel d h b m drop B M hh w vd k v wr) (hc : d.coms[k]? = some c) (hl : c.lost = false) (h28 : Ext wr w28) (h5 : Ext (putB w28 B 35 oc) w5) (hC : wr.heap.size ≤ C) (hBC : Blk w5 C 72 cs0) (hBw : w.heap.size + 2 ≤ B)
    (hgr : ((putB w5 C 72 cs2).alloc (.cells cs2 72)).grownBy w33 v.ownBlock)
    (ho : w33.ownsRow w.heap.size 72 8 v' (liveN (d.coms.take k) + 1) ((retComs d.evs d.evs.length (d.coms.take k)).flatMap Com.vals ++ (Com.mk ((d.evs.length : Int) + liveN (d.coms.take k) + 1) (newId d.evs c.ev) c.fr c.til c.author c.text c.done c.lost).vals)) :
    Blk w33 B 35 oc ∧ RcRel d h b m drop B M hh w vd (k + 1) v' (putB w33 B 35 (ocells d b drop ((d.evs.length : Int) + liveN (d.coms.take k) + 1) (.slice hh.ra hh.rn hh.rc) (.slice hh.ea hh.en hh.ec) v')) := by
  have hrow := (r.row h28 h5 hC (cs2 := cs2)).alloc (.cells cs2 72)
  have hty := own_typed hrow
  have hB28 := r.out.ext h28
  -- every other type
  have k1 : ∀ {T : TypeId}, T ≠ 35 → T ≠ 72 → KB T wr w33 := fun h1 h2 =>
    (KB.ext h28).trans ((KB.put hB28 h1).trans ((KB.ext h5).trans ((KB.put hBC h2).trans ((KB.ext ((Ext.refl _).alloc _)).trans (KB.grown hgr hty h2)))))
  have km : KM wr w33 := KM.trans (Only.ext (T := 0) h28).km (KM.trans (Only.put hB28).km (KM.trans (Only.ext (T := 0) h5).km (KM.trans (Only.put hBC).km (KM.trans (Only.ext (T := 0) ((Ext.refl _).alloc _)).km (Only.grown hgr hty).km))))
  have kd : ∀ {g : Nat} {cs : Array Value}, Blk (putB w28 B 35 oc) g 35 cs → Blk w33 g 35 cs := fun hb =>
    (((hb.ext h5).kb (KB.put hBC (by decide))).alloc _).kb (KB.grown hgr hty (by decide))
  have hout : Blk w33 B 35 oc := kd (hB28.put oc)
  have k2 : ∀ {T : TypeId}, T ≠ 35 → T ≠ 72 → KB T wr (putB w33 B 35 (ocells d b drop ((d.evs.length : Int) + liveN (d.coms.take k) + 1) (.slice hh.ra hh.rn hh.rc) (.slice hh.ea hh.en hh.ec) v')) := fun h1 h2 => (k1 h1 h2).trans (KB.put hout h1)
  have e1 : liveN (d.coms.take (k + 1)) = liveN (d.coms.take k) + 1 := by rw [liveN_take hc, hl]; rfl
  have e2 : retComs d.evs d.evs.length (d.coms.take (k + 1)) = retComs d.evs d.evs.length (d.coms.take k) ++ [⟨(d.evs.length : Int) + liveN (d.coms.take k) + 1, newId d.evs c.ev, c.fr, c.til, c.author, c.text, c.done, c.lost⟩] := by rw [retComs_take d.evs hc, hl]; rfl
  have hx33 : Ext w w33 := by
    have a1 : Ext w (putB w28 B 35 oc) := (r.ext.trans h28).put (by omega) _ _
    have a2 : Ext w (putB w5 C 72 cs2) := (a1.trans h5).put (by have := r.ext.size; omega) _ _
    exact (a2.alloc _).grown hgr (fun q hq => own_lt hrow q hq)
  refine ⟨hout, hx33.put (by omega) _ _, ?_, ?_, ?_, own_kb r.regs (k2 (by decide) (by decide)), r.evs.kb (k2 (by decide) (by decide)) (k2 (by decide) (by decide)) (k2 (by decide) (by decide)), (r.map.km km).km (Only.put hout).km, own_kb r.dris (k2 (by decide) (by decide)), ?_⟩
  · exact (kd ((r.doc.ext h28).put_other (by omega) _)).put_other (by omega) _
  · exact (kd ((r.zero.ext h28).put_other (by omega) _)).put_other (by omega) _
  · rw [e1]
    have := hout.put (ocells d b drop ((d.evs.length : Int) + liveN (d.coms.take k) + 1) (.slice hh.ra hh.rn hh.rc) (.slice hh.ea hh.en hh.ec) v')
    rw [show ((d.evs.length : Int) + ((liveN (d.coms.take k) + 1 : Nat) : Int)) = (d.evs.length : Int) + liveN (d.coms.take k) + 1 by omega]
    exact this
  · rw [e1, e2, List.flatMap_append]
    exact own_kb (by simpa using ho) (KB.put hout (by decide))
end
end Go.Proofs.YtaocjfneglgmjaaDoor
