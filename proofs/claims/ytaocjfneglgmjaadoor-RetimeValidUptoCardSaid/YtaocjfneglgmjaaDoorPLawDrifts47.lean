/- The walk of the law RetimeDrifts. -/
import Derived.Test.YtaocjfneglgmjaaDoorPk14
import Derived.Test.YtaocjfneglgmjaaDoorPRetV
import Derived.Test.YtaocjfneglgmjaaDoorPOpenD
namespace Go.Proofs.YtaocjfneglgmjaaDoor
set_option linter.unusedVariables false
set_option linter.unusedSimpArgs false
open Go.RowKit

set_option maxHeartbeats 1000000 in
theorem small47_any (d : Doc) (h : DocH) (w : World) : Calls Tryd.prog 12 #[.agg (d.cells h)] w fun e w' => e = .returned (.bool (decide (h.en ≤ 60 ∧ h.rn ≤ 40 ∧ h.cn ≤ 100))) ∧ Ext w w' := by
  have HX := Lib.hid ((Ext.refl w).alloc (.cells (d.cells h) 35))
  obtain ⟨ra, rn, rc, ea, en, ec, ca, cn, cc⟩ := h
  unfold Doc.cells at *
  dsimp only at *
  go_enter Tryd.func12, Tryd.ntmps12
  by_cases h1 : en ≤ 60
  · have h1i : (en : Int) ≤ 60 := by omega
    by_cases h2 : rn ≤ 40
    · have h2i : (rn : Int) ≤ 40 := by omega
      by_cases h3 : cn ≤ 100
      · have h3i : (cn : Int) ≤ 100 := by omega
        go_wp2_with fail
        go_ret
        exact ⟨ret_bool (by first | rfl | exact (decide_eq_true ⟨h1, h2, h3⟩).symm), HX.out⟩
      · have h3i : ¬ (cn : Int) ≤ 100 := by omega
        go_wp2_with fail
        go_ret
        exact ⟨ret_bool (by first | rfl | exact (decide_eq_false (by omega)).symm), HX.out⟩
    · have h2i : ¬ (rn : Int) ≤ 40 := by omega
      go_wp2_with fail
      go_ret
      exact ⟨ret_bool (by first | rfl | exact (decide_eq_false (by omega)).symm), HX.out⟩
  · have h1i : ¬ (en : Int) ≤ 60 := by omega
    go_wp2_with fail
    go_ret
    exact ⟨ret_bool (by first | rfl | exact (decide_eq_false (by omega)).symm), HX.out⟩

def DrRel (w1 : World) (n : Nat) (i : Value) (wr : World) : Prop := ∃ k : Nat, k ≤ n ∧ i = .int .i64 k ∧ Ext w1 wr
set_option maxRecDepth 100000 in
set_option maxHeartbeats 16000000 in
theorem RetimeDrifts_any (d : Doc) (h : DocH) (b : Int) (w : World) (hE : Env w) (hat : DocAt w d h) (hi : DocIn d h) (b0 : 0 ≤ b) (b1 : b ≤ 255) :
    Calls Tryd.prog 4 #[.agg (d.cells h), .int .u8 b] w fun en w' => en = .returned (.bool true) ∧ Ext w w' := by
  have HX0 := Lib.hid ((Ext.refl w).alloc (.cells (d.cells h) 35))
  have HB0 := Lib.hid (Blk.new w 35 (d.cells h))
  have HE := Lib.hid hE
  have HR := Lib.hid (fun w' (hx : Ext w w') => Retime_any d h b 1 false w' (hE.ext hx) (hat.ext hx) hi.fit hi.rn hi.en (by have := hi.cn; omega) b0 b1)
  have HS := Lib.hid (fun w => small47_any d h w)
  have HT := Lib.hid (fun w => RTicks_any b w b0 b1)
  clear hE hat
  go_enter Tryd.func4, Tryd.ntmps4
  unfold Doc.cells at *
  go_wp2_with fail
  refine (awake47_any _ (HE.out.ext HX0.out)).mono ?_
  rintro en w1 ⟨rfl, hx1⟩
  have HX1 := Lib.hid (HX0.out.trans hx1)
  have HB1 := Lib.hid (HB0.out.ext hx1)
  clear hx1 HX0 HB0
  go_wp2_with (refine wpList_loadB rfl 35 (.tmp 2) rfl w.heap.size 35 _ _ (by exact rfl) (by exact HB1.out) Tryd.underlying35 rfl (by exact size_docI) ?_)
  refine (HS.out _).mono ?_
  rintro en w2 ⟨rfl, hx2⟩
  have HX2 := Lib.hid (HX1.out.trans hx2)
  have HB2 := Lib.hid (HB1.out.ext hx2)
  clear hx2 HX1 HB1
  cases hsm : decide (h.en ≤ 60 ∧ h.rn ≤ 40 ∧ h.cn ≤ 100)
  · go_wp2_with fail
    go_ret
    exact ⟨rfl, HX2.out⟩
  clear hsm
  go_wp2_with (refine wpList_loadB rfl 35 (.tmp 2) rfl w.heap.size 35 _ _ (by exact rfl) (by exact HB2.out) Tryd.underlying35 rfl (by exact size_docI) ?_)
  refine (HR.out _ HX2.out).mono ?_
  rintro en w3 ⟨⟨ra, rn, rc, ea, nn, ec, ca, cn, cc⟩, A, n, c, rfl, hat3, hdr3, hnc3, hx3⟩
  have HX3 := Lib.hid (HX2.out.trans hx3)
  clear hx3 HX2 HB2
  by_cases he : d.retE b false 1 = 0
  case neg =>
    have hne : (d.retE b false 1 != 0) = true := by simpa using he
    unfold Doc.cells
    dsimp only
    go_wp2_with fail
    go_ret
    exact ⟨rfl, HX3.out.alloc _⟩
  have hD : d.retD b false 1 = d.ret b false 1 := by unfold Doc.retD; rw [if_pos he]
  have hL : d.retL b false 1 = retDris d.rate b 1 d.evs := by unfold Doc.retL; rw [if_pos he]
  obtain ⟨q0, q1, q2, q3⟩ := retE_ok he
  rw [hD] at hat3 ⊢
  rw [hL] at hdr3
  rw [he]
  have hn1 : d.evs.length = n := by have := hdr3.len; simpa [retDris] using this
  have hn2 : d.evs.length = nn := (retEvs_len d.rate b 1 d.evs).symm.trans hat3.evs.len
  obtain rfl : nn = n := by omega
  have HDr := Lib.hid hdr3
  have HEv := Lib.hid hat3.evs
  have HQ := Lib.hid q3
  have hlen := (doc_ok q0).2.2.1
  have HOk := Lib.hid (doc_ok q0).2.2.2.1
  have HN := Lib.hid hn2
  clear he hD hL q0 q1 q2 q3 hat3 hdr3 HR hn1
  unfold Doc.cells
  dsimp only
  have HV := Lib.hid (Blk.new w3 35 #[.string (d.ret b false 1).title, .string (d.ret b false 1).lang, .int .u8 (d.ret b false 1).rate, .bool (d.ret b false 1).drop, .int .i64 (d.ret b false 1).last, .slice ra rn rc, .slice ea nn ec, .slice ca cn cc])
  have HX4 := Lib.hid ((Ext.refl w3).alloc (.cells #[.string (d.ret b false 1).title, .string (d.ret b false 1).lang, .int .u8 (d.ret b false 1).rate, .bool (d.ret b false 1).drop, .int .i64 (d.ret b false 1).last, .slice ra rn rc, .slice ea nn ec, .slice ca cn cc] 35))
  have hv := fun o => HV.out.cell o
  go_wp2_with fail
  refine (HT.out _).mono ?_
  rintro en w5 ⟨rfl, hx5⟩
  have HX5 := Lib.hid ((HX3.out.trans HX4.out).trans hx5)
  have HV5 := Lib.hid (HV.out.ext hx5)
  have HX35 := Lib.hid (HX4.out.trans hx5)
  clear hv hx5 HX4 HV
  go_wp2_with fail
  go_loopw [36] (fun i wr => DrRel w5 nn i wr) (fun i _ => nn - (intOf i).toNat)
  case atStart => exact ⟨0, Nat.zero_le _, rfl, Ext.refl _⟩
  case round =>
    obtain ⟨k, hk, rfl, hx⟩ := hrel
    have HXr := Lib.hid hx
    by_cases hlt : k < nn
    · obtain ⟨bb, off, y, rfl, hy, c0, c1, c2⟩ := (HDr.out.ext (HX35.out.trans hx)).at3 hlt
      obtain ⟨x, hxx⟩ : ∃ x, d.evs[k]? = some x := ⟨_, List.getElem?_eq_getElem (by have := HN.out; omega)⟩
      have hyv : y = retDri d.rate b 1 k x := by
        unfold retDris at hy
        rw [List.getElem?_mapIdx, hxx] at hy
        exact (Option.some.inj hy).symm
      have hyi : y.inn = (spanT d.rate b x.inn x.out 1).1.1 * rTicks b - x.inn * rTicks d.rate := by rw [hyv]; rfl
      have hyo : y.out = (spanT d.rate b x.inn x.out 1).1.2 * rTicks b - x.out * rTicks d.rate := by rw [hyv]; rfl
      rw [hyi] at c1
      rw [hyo] at c2
      have hsx : (spanT d.rate b x.inn x.out 1).2 = 0 := retErr_all HQ.out x (List.mem_of_getElem? hxx)
      obtain ⟨ra1, rb1, s1, s2, s3⟩ := spanT_bd hsx
      have u1 := drift_in hsx
      have u2 := drift_out hsx
      have v7 := (ev_ok (evs_ok HOk.out k x hxx).1).2.2
      have v8 := of_decide_eq_true v7
      obtain ⟨be, oe, ev, hea, hev, Ae, ne, ce, hce, -⟩ := (HEv.out.ext (HX35.out.trans hx)).at_ hlt
      obtain ⟨x', hx', hevx⟩ := retEvs_at hev
      rw [hxx] at hx'
      cases hx'
      subst hevx
      have e1 : wr.cell? ⟨be, oe + k * 7 + 1, none⟩ = some (.int .i64 (spanT d.rate b x.inn x.out 1).1.1) := hce 1 _ rfl
      have e2 : wr.cell? ⟨be, oe + k * 7 + 1 + 1, none⟩ = some (.int .i64 (spanT d.rate b x.inn x.out 1).1.2) := hce 2 _ rfl
      obtain ⟨ta0, ta1⟩ := rTicks_bd d.rate
      obtain ⟨tb0, tb1⟩ := rTicks_bd b
      generalize spanT d.rate b x.inn x.out 1 = sp at *
      obtain ⟨⟨si, so⟩, er⟩ := sp
      dsimp only at *
      have ma := mul_bd (x := si) (t := rTicks b) s1 (by omega) tb0 tb1
      have mb := mul_bd (x := so) (t := rTicks b) (by omega) s3 tb0 tb1
      have mc := mul_bd (x := x.inn) (t := rTicks d.rate) (by omega) (by omega) ta0 ta1
      have md := mul_bd (x := x.out) (t := rTicks d.rate) (by omega) (by omega) ta0 ta1
      generalize hy1 : si * rTicks b - x.inn * rTicks d.rate = i1 at *
      generalize hy2 : so * rTicks b - x.out * rTicks d.rate = i2 at *
      have b1 : -25945920000 ≤ i1 ∧ i1 ≤ 25945920000 := by omega
      have b2 : -25945920000 ≤ i2 ∧ i2 ≤ 25945920000 := by omega
      have g1 : ¬ rTicks b < 2 * i1 := by omega
      have g2 : ¬ rTicks b < -2 * i1 := by omega
      have HBd := Lib.hid (Blk.new wr 42 #[.int .i64 y.id, .int .i64 i1, .int .i64 i2])
      have hcd := fun o => HBd.out.cell o
      have HXd := Lib.hid (hx.alloc (.cells #[.int .i64 y.id, .int .i64 i1, .int .i64 i2] 42))
      have hvd := fun o => ((HV5.out.ext hx).alloc (.cells #[.int .i64 y.id, .int .i64 i1, .int .i64 i2] 42)).cell o
      subst hea
      have e1d := ((Ext.refl wr).alloc (.cells #[.int .i64 y.id, .int .i64 i1, .int .i64 i2] 42)).cell e1
      have e2d := ((Ext.refl wr).alloc (.cells #[.int .i64 y.id, .int .i64 i1, .int .i64 i2] 42)).cell e2
      clear ma mb mc md hyv hyi hyo hy hxx hev hce hsx v7 u1 hy1 hy2 e1 e2
      by_cases ho : so - si = 1
      · have hob : (so - si == 1) = true := by simpa using ho
        clear u2
        go_wp2_with fail
        go_quiet (fail)
        go_wp2_with fail
        exact ⟨⟨k + 1, by omega, by go_num, by first | exact HXd.out.drewN _ | exact HXd.out⟩, by simp [intOf]; omega⟩
      · have hob : (so - si == 1) = false := by simpa using ho
        obtain ⟨g3, g4⟩ := u2 ho
        have g3' : ¬ rTicks b < 2 * i2 := by omega
        have g4' : ¬ rTicks b < -2 * i2 := by omega
        clear u2
        go_wp2_with fail
        go_quiet (fail)
        go_wp2_with fail
        exact ⟨⟨k + 1, by omega, by go_num, by first | exact HXd.out.drewN _ | exact HXd.out⟩, by simp [intOf]; omega⟩
    · have hkn : k = nn := by omega
      subst hkn
      go_wp2_with fail
      go_ret
      exact ⟨rfl, HX5.out.trans hx⟩
end Go.Proofs.YtaocjfneglgmjaaDoor
