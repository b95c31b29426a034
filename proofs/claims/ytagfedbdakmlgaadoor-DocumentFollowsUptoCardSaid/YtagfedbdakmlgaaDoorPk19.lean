/- Laid together: The walk of comment.Move. The walk of the law package's awake: the chapter's example. The walk of the law package's awake: the chapter's example. -/
import Derived.Test.YtagfedbdakmlgaaDoorPk18
import Derived.Test.YtagfedbdakmlgaaDoorPk17
import Derived.Test.YtagfedbdakmlgaaDoorPk16

/-! Move -/
namespace Go.Proofs.YtagfedbdakmlgaaDoor
set_option linter.unusedVariables false
set_option linter.unusedSimpArgs false
open Go.RowKit

set_option maxRecDepth 100000 in
set_option maxHeartbeats 8000000 in
theorem CMove_any (before after : ByteArray) (i : Int) (e : Bool) (w : World) (hb : before.size ≤ 35184372088831) (ha : after.size ≤ 35184372088831) :
    Calls Tryd.prog 8 #[.string before, .string after, .int .i64 i, .bool e] w fun en w' => en = .returned (.int .i64 (Mv.move (runes before 0) (runes after 0) i e)) ∧ Ext w w' := by
  have HRa := Lib.hid (fun w' => CRunes_any before w' hb)
  have HRb := Lib.hid (fun w' => CRunes_any after w' ha)
  have hna := runes_len before
  have hnb := runes_len after
  unfold RunesPost at HRa HRb
  generalize runes before 0 = a at *
  generalize runes after 0 = b at *
  go_enter Tryd.func8, Tryd.ntmps8
  go_wp2_with fail
  refine (HRa.out _).mono ?_
  rintro en w1 ⟨A, n, c1, rfl, hat1, hc1, hx1⟩
  go_wp2_with fail
  refine (HRb.out _).mono ?_
  rintro en W ⟨B, m, c2, rfl, hat2, hc2, hx2⟩
  have HXW := Lib.hid (hx1.trans hx2)
  have HA := Lib.hid (hat1.ext hx2)
  have HBr := Lib.hid hat2
  have HLa := Lib.hid hat1.len
  have HLb := Lib.hid hat2.len
  have hn9 : n ≤ 35184372088831 := by have := hat1.len; omega
  have hm9 : m ≤ 35184372088831 := by have := hat2.len; omega
  clear hx1 hx2 hat1 hat2 hna hnb HRa HRb
  go_wp2_with fail
  have hpl := Mv.pre_le a b
  have hsl := Mv.suf_le a b (Mv.pre a b)
  have hla := HLa.out
  have hlb := HLb.out
  obtain ⟨P0, hP0⟩ : ∃ P0, P0 = Mv.pre a b := ⟨_, rfl⟩
  obtain ⟨S0, hS0⟩ : ∃ S0, S0 = Mv.suf a b (Mv.pre a b) := ⟨_, rfl⟩
  have hp1 : P0 ≤ n ∧ P0 ≤ m := by omega
  have hs1 : P0 + S0 ≤ n ∧ P0 + S0 ≤ m := by rw [hP0, hS0]; omega
  have HP0 := Lib.hid hP0
  have HS0 := Lib.hid hS0
  clear hpl hsl hP0 hS0 hla hlb
  go_loopw [13] (fun v wr => PreRel W a b v wr) (fun v _ => n - (intOf v).toNat)
  case atStart => exact ⟨0, Nat.zero_le _, rfl, Ext.refl _⟩
  case round =>
    obtain ⟨k, hk, rfl, hx⟩ := hrel
    have HX := Lib.hid hx
    have HK := Lib.hid hk
    have hkP : k ≤ P0 := by rw [HP0.out]; exact hk
    clear hk hx
    by_cases hlt : k < n ∧ k < m
    · obtain ⟨hn1, hm1⟩ := hlt
      obtain ⟨b1, o1, x, hA1, hx1, c1⟩ := (HA.out.ext HX.out).cell hn1
      obtain ⟨b2, o2, y, hA2, hx2, c2⟩ := (HBr.out.ext HX.out).cell hm1
      subst hA1 hA2
      have hmn : (k : Int) < min (n : Int) (m : Int) := by omega
      have hn1i : (k : Int) < (n : Int) := by omega
      have hm1i : (k : Int) < (m : Int) := by omega
      have hk0 : (0 : Int) ≤ (k : Int) := by omega
      have fc1 := fun (y : EW wr) => y.ext.cell c1
      have fc2 := fun (y : EW wr) => y.ext.cell c2
      clear c1 c2
      by_cases he : x = y
      · have heb : (x == y) = true := by simpa using he
        have HN := Lib.hid (Mv.pre_step HK.out hx1 hx2 he)
        clear hx1 hx2 he
        go_wp2_with fail
        refine wp_region_ew wr (Ext.refl _) (by kernel_rfl) (by kernel_rfl) ?_
        repeat (go_big_quiet_step ((fail)))
        refine wpQuiet_nil ?_
        rintro w9 ⟨⟨_, hx9⟩, rfl⟩
        clear fc1 fc2
        go_wp2_with fail
        exact ⟨⟨k + 1, HN.out, by go_num, HX.out.trans hx9⟩, by simp [intOf]; omega⟩
      have heb : (x == y) = false := by simpa using he
      have hkp : k = P0 := by rw [HP0.out]; exact Mv.pre_stop HK.out (.inr (.inr ⟨x, y, hx1, hx2, he⟩))
      subst hkp
      clear hx1 hx2 he
      go_wp2_with fail
      refine wp_region_ew wr (Ext.refl _) (by kernel_rfl) (by kernel_rfl) ?_
      repeat (go_big_quiet_step ((fail)))
      refine wpQuiet_nil ?_
      rintro w9 ⟨⟨_, hx9⟩, rfl⟩
      clear fc1 fc2 hmn hn1i hm1i hk0 heb
      have HX9 := Lib.hid (HX.out.trans hx9)
      clear hx9 HX
      go_wp2_with fail
      obtain ⟨wo, rfl⟩ : ∃ wo : World, wo = w9 := ⟨_, rfl⟩
      go_loopw [14] (fun v wr => SufRel wo a b v wr) (fun v _ => n - (intOf v).toNat)
      case atStart => exact ⟨0, Nat.zero_le _, rfl, Ext.refl _⟩
      case round =>
        obtain ⟨j, hj, rfl, hx⟩ := hrel
        have HXj := Lib.hid (HX9.out.trans hx)
        have HXo := Lib.hid hx
        have HJ := Lib.hid hj
        have hjS : j ≤ S0 := by rw [HS0.out]; exact hj
        clear hj hx
        have hj0 : (0 : Int) ≤ (j : Int) := by omega
        by_cases hlt2 : j < n - k ∧ j < m - k
        · obtain ⟨hn2, hm2⟩ := hlt2
          obtain ⟨b1, o1, x, hA1, hx1, c1⟩ := (HA.out.ext HXj.out).cell (i := n - 1 - j) (by omega)
          obtain ⟨b2, o2, y, hA2, hx2, c2⟩ := (HBr.out.ext HXj.out).cell (i := m - 1 - j) (by omega)
          have HA1 := Lib.hid hA1
          have HA2 := Lib.hid hA2
          clear hA1 hA2
          have hmn : (j : Int) < min (n : Int) (m : Int) - (k : Int) := by omega
          have hd1 : (j : Int) < (n : Int) - (k : Int) := by omega
          have hd2 : (j : Int) < (m : Int) - (k : Int) := by omega
          have hi1 : (n : Int) - 1 - (j : Int) = ((n - 1 - j : Nat) : Int) := by omega
          have hi2 : (m : Int) - 1 - (j : Int) = ((m - 1 - j : Nat) : Int) := by omega
          have hi3 : ((n : Int) - 1 - (j : Int)).toNat = n - 1 - j := by omega
          have hi4 : ((m : Int) - 1 - (j : Int)).toNat = m - 1 - j := by omega
          have hi5 : (0 : Int) ≤ (n : Int) - 1 - (j : Int) ∧ (n : Int) - 1 - (j : Int) < (n : Int) := by omega
          have hi6 : (0 : Int) ≤ (m : Int) - 1 - (j : Int) ∧ (m : Int) - 1 - (j : Int) < (m : Int) := by omega
          obtain ⟨hi7, hi8⟩ := hi5
          obtain ⟨hi9, hi10⟩ := hi6
          have hi11 : n - 1 - j < n := by omega
          have hi12 : m - 1 - j < m := by omega
          have fc1 := fun (y : EW wr) => y.ext.cell c1
          have fc2 := fun (y : EW wr) => y.ext.cell c2
          clear c1 c2
          have hA1 := HA1.out
          have hA2 := HA2.out
          by_cases he : x = y
          · have heb : (x == y) = true := by simpa using he
            have HN := Lib.hid (Mv.suf_step HJ.out (by have := HLa.out; have := HP0.out; omega) (by have := HLb.out; have := HP0.out; omega) (by rw [HLa.out]; exact hx1) (by rw [HLb.out]; exact hx2) he)
            clear hx1 hx2 he
            first | subst hA1 | skip
            first | subst hA2 | skip
            go_wp2_with fail
            refine wp_region_ew wr (Ext.refl _) (by kernel_rfl) (by kernel_rfl) ?_
            repeat (go_big_quiet_step ((fail)))
            refine wpQuiet_nil ?_
            rintro w9 ⟨⟨_, hx9⟩, rfl⟩
            clear fc1 fc2
            go_wp2_with fail
            exact ⟨⟨j + 1, HN.out, by go_num, HXo.out.trans hx9⟩, by simp [intOf]; omega⟩
          have heb : (x == y) = false := by simpa using he
          have hjs : j = S0 := by
            rw [HS0.out]
            exact Mv.suf_stop HJ.out (.inr (.inr ⟨x, y, by have := HLa.out; have := HP0.out; omega, by have := HLb.out; have := HP0.out; omega, by rw [HLa.out]; exact hx1, by rw [HLb.out]; exact hx2, he⟩))
          subst hjs
          clear hx1 hx2 he
          first | subst hA1 | skip
          first | subst hA2 | skip
          go_wp2_with fail
          refine wp_region_ew wr (Ext.refl _) (by kernel_rfl) (by kernel_rfl) ?_
          repeat (go_big_quiet_step ((fail)))
          refine wpQuiet_nil ?_
          rintro w9 ⟨⟨_, hx9⟩, rfl⟩
          clear fc1 fc2 hmn hd1 hd2 hi1 hi2 hi3 hi4 hi7 hi8 hi9 hi10 hi11 hi12 heb
          have HXe := Lib.hid (HXj.out.trans hx9)
          clear hx9 HXj HXo
          go_upto_block 4 with (fail)
          have HMv : Hid (Mv.move a b i e = if e = true then Mv.to_ n m k j (min (max i 0) (n : Int)) else Mv.from_ n m k j (min (max i 0) (n : Int))) := by
            show _ = _
            unfold Mv.move Mv.clamp
            rw [HLa.out, HLb.out, ← HS0.out, ← HP0.out]
          have ht0 : 0 ≤ min (max i 0) (n : Int) := by omega
          have ht1 : min (max i 0) (n : Int) ≤ (n : Int) := by omega
          generalize min (max i 0) (n : Int) = t at *
          clear HK HJ
          cases e
          · by_cases z1 : (n : Int) - (j : Int) ≤ t
            · have z2 : ¬ t < (n : Int) - (j : Int) := by omega
              go_wp2_with fail
              go_ret
              exact ⟨ret_int (by rw [HMv.out]; unfold Mv.from_; simp; repeat' split; all_goals omega), HXW.out.trans HXe.out⟩
            have z2 : t < (n : Int) - (j : Int) := by omega
            by_cases z3 : t < (k : Int)
            · go_wp2_with fail
              go_ret
              exact ⟨ret_int (by rw [HMv.out]; unfold Mv.from_; simp; repeat' split; all_goals omega), HXW.out.trans HXe.out⟩
            go_wp2_with fail
            go_ret
            exact ⟨ret_int (by rw [HMv.out]; unfold Mv.from_; simp; repeat' split; all_goals omega), HXW.out.trans HXe.out⟩
          · by_cases z1 : t ≤ (k : Int)
            · go_wp2_with fail
              go_ret
              exact ⟨ret_int (by rw [HMv.out]; unfold Mv.to_; simp; repeat' split; all_goals omega), HXW.out.trans HXe.out⟩
            by_cases z3 : (n : Int) - (j : Int) < t
            · go_wp2_with fail
              go_ret
              exact ⟨ret_int (by rw [HMv.out]; unfold Mv.to_; simp; repeat' split; all_goals omega), HXW.out.trans HXe.out⟩
            go_wp2_with fail
            go_ret
            exact ⟨ret_int (by rw [HMv.out]; unfold Mv.to_; simp; repeat' split; all_goals omega), HXW.out.trans HXe.out⟩
        have hjs : j = S0 := by
          rw [HS0.out]
          refine Mv.suf_stop HJ.out ?_
          have h1 := HLa.out
          have h2 := HLb.out
          have h3 := HP0.out
          by_cases h : j < n - k
          · exact .inr (.inl (by omega))
          · exact .inl (by omega)
        subst hjs
        have hmn : decide ((j : Int) < min (n : Int) (m : Int) - (k : Int)) = false := decide_eq_false (by omega)
        go_wp2_with fail
        refine wp_region_ew wr (Ext.refl _) (by kernel_rfl) (by kernel_rfl) ?_
        repeat (go_big_quiet_step ((fail)))
        refine wpQuiet_nil ?_
        rintro w9 ⟨⟨_, hx9⟩, rfl⟩
        clear hmn hlt2
        have HXe := Lib.hid (HXj.out.trans hx9)
        clear hx9 HXj HXo
        go_upto_block 4 with (fail)
        have HMv : Hid (Mv.move a b i e = if e = true then Mv.to_ n m k j (min (max i 0) (n : Int)) else Mv.from_ n m k j (min (max i 0) (n : Int))) := by
          show _ = _
          unfold Mv.move Mv.clamp
          rw [HLa.out, HLb.out, ← HS0.out, ← HP0.out]
        have ht0 : 0 ≤ min (max i 0) (n : Int) := by omega
        have ht1 : min (max i 0) (n : Int) ≤ (n : Int) := by omega
        generalize min (max i 0) (n : Int) = t at *
        clear HK HJ
        cases e
        · by_cases z1 : (n : Int) - (j : Int) ≤ t
          · have z2 : ¬ t < (n : Int) - (j : Int) := by omega
            go_wp2_with fail
            go_ret
            exact ⟨ret_int (by rw [HMv.out]; unfold Mv.from_; simp; repeat' split; all_goals omega), HXW.out.trans HXe.out⟩
          have z2 : t < (n : Int) - (j : Int) := by omega
          by_cases z3 : t < (k : Int)
          · go_wp2_with fail
            go_ret
            exact ⟨ret_int (by rw [HMv.out]; unfold Mv.from_; simp; repeat' split; all_goals omega), HXW.out.trans HXe.out⟩
          go_wp2_with fail
          go_ret
          exact ⟨ret_int (by rw [HMv.out]; unfold Mv.from_; simp; repeat' split; all_goals omega), HXW.out.trans HXe.out⟩
        · by_cases z1 : t ≤ (k : Int)
          · go_wp2_with fail
            go_ret
            exact ⟨ret_int (by rw [HMv.out]; unfold Mv.to_; simp; repeat' split; all_goals omega), HXW.out.trans HXe.out⟩
          by_cases z3 : (n : Int) - (j : Int) < t
          · go_wp2_with fail
            go_ret
            exact ⟨ret_int (by rw [HMv.out]; unfold Mv.to_; simp; repeat' split; all_goals omega), HXW.out.trans HXe.out⟩
          go_wp2_with fail
          go_ret
          exact ⟨ret_int (by rw [HMv.out]; unfold Mv.to_; simp; repeat' split; all_goals omega), HXW.out.trans HXe.out⟩
    have hkp : k = P0 := by
      rw [HP0.out]
      refine Mv.pre_stop HK.out ?_
      have h1 := HLa.out
      have h2 := HLb.out
      by_cases h : k < n
      · exact .inr (.inl (by omega))
      · exact .inl (by omega)
    subst hkp
    have hmn : decide ((k : Int) < min (n : Int) (m : Int)) = false := decide_eq_false (by omega)
    have w9x := HX.out
    go_wp2_with fail
    refine wp_region_ew wr (Ext.refl _) (by kernel_rfl) (by kernel_rfl) ?_
    repeat (go_big_quiet_step ((fail)))
    refine wpQuiet_nil ?_
    rintro w9 ⟨⟨_, hx9⟩, rfl⟩
    clear hmn w9x hlt
    have HX9 := Lib.hid (HX.out.trans hx9)
    clear hx9 HX
    go_wp2_with fail
    obtain ⟨wo, rfl⟩ : ∃ wo : World, wo = w9 := ⟨_, rfl⟩
    go_loopw [14] (fun v wr => SufRel wo a b v wr) (fun v _ => n - (intOf v).toNat)
    case atStart => exact ⟨0, Nat.zero_le _, rfl, Ext.refl _⟩
    case round =>
      obtain ⟨j, hj, rfl, hx⟩ := hrel
      have HXj := Lib.hid (HX9.out.trans hx)
      have HXo := Lib.hid hx
      have HJ := Lib.hid hj
      have hjS : j ≤ S0 := by rw [HS0.out]; exact hj
      clear hj hx
      have hj0 : (0 : Int) ≤ (j : Int) := by omega
      by_cases hlt2 : j < n - k ∧ j < m - k
      · obtain ⟨hn2, hm2⟩ := hlt2
        obtain ⟨b1, o1, x, hA1, hx1, c1⟩ := (HA.out.ext HXj.out).cell (i := n - 1 - j) (by omega)
        obtain ⟨b2, o2, y, hA2, hx2, c2⟩ := (HBr.out.ext HXj.out).cell (i := m - 1 - j) (by omega)
        have HA1 := Lib.hid hA1
        have HA2 := Lib.hid hA2
        clear hA1 hA2
        have hmn : (j : Int) < min (n : Int) (m : Int) - (k : Int) := by omega
        have hd1 : (j : Int) < (n : Int) - (k : Int) := by omega
        have hd2 : (j : Int) < (m : Int) - (k : Int) := by omega
        have hi1 : (n : Int) - 1 - (j : Int) = ((n - 1 - j : Nat) : Int) := by omega
        have hi2 : (m : Int) - 1 - (j : Int) = ((m - 1 - j : Nat) : Int) := by omega
        have hi3 : ((n : Int) - 1 - (j : Int)).toNat = n - 1 - j := by omega
        have hi4 : ((m : Int) - 1 - (j : Int)).toNat = m - 1 - j := by omega
        have hi5 : (0 : Int) ≤ (n : Int) - 1 - (j : Int) ∧ (n : Int) - 1 - (j : Int) < (n : Int) := by omega
        have hi6 : (0 : Int) ≤ (m : Int) - 1 - (j : Int) ∧ (m : Int) - 1 - (j : Int) < (m : Int) := by omega
        obtain ⟨hi7, hi8⟩ := hi5
        obtain ⟨hi9, hi10⟩ := hi6
        have hi11 : n - 1 - j < n := by omega
        have hi12 : m - 1 - j < m := by omega
        have fc1 := fun (y : EW wr) => y.ext.cell c1
        have fc2 := fun (y : EW wr) => y.ext.cell c2
        clear c1 c2
        have hA1 := HA1.out
        have hA2 := HA2.out
        by_cases he : x = y
        · have heb : (x == y) = true := by simpa using he
          have HN := Lib.hid (Mv.suf_step HJ.out (by have := HLa.out; have := HP0.out; omega) (by have := HLb.out; have := HP0.out; omega) (by rw [HLa.out]; exact hx1) (by rw [HLb.out]; exact hx2) he)
          clear hx1 hx2 he
          first | subst hA1 | skip
          first | subst hA2 | skip
          go_wp2_with fail
          refine wp_region_ew wr (Ext.refl _) (by kernel_rfl) (by kernel_rfl) ?_
          repeat (go_big_quiet_step ((fail)))
          refine wpQuiet_nil ?_
          rintro w9 ⟨⟨_, hx9⟩, rfl⟩
          clear fc1 fc2
          go_wp2_with fail
          exact ⟨⟨j + 1, HN.out, by go_num, HXo.out.trans hx9⟩, by simp [intOf]; omega⟩
        have heb : (x == y) = false := by simpa using he
        have hjs : j = S0 := by
          rw [HS0.out]
          exact Mv.suf_stop HJ.out (.inr (.inr ⟨x, y, by have := HLa.out; have := HP0.out; omega, by have := HLb.out; have := HP0.out; omega, by rw [HLa.out]; exact hx1, by rw [HLb.out]; exact hx2, he⟩))
        subst hjs
        clear hx1 hx2 he
        first | subst hA1 | skip
        first | subst hA2 | skip
        go_wp2_with fail
        refine wp_region_ew wr (Ext.refl _) (by kernel_rfl) (by kernel_rfl) ?_
        repeat (go_big_quiet_step ((fail)))
        refine wpQuiet_nil ?_
        rintro w9 ⟨⟨_, hx9⟩, rfl⟩
        clear fc1 fc2 hmn hd1 hd2 hi1 hi2 hi3 hi4 hi7 hi8 hi9 hi10 hi11 hi12 heb
        have HXe := Lib.hid (HXj.out.trans hx9)
        clear hx9 HXj HXo
        go_upto_block 4 with (fail)
        have HMv : Hid (Mv.move a b i e = if e = true then Mv.to_ n m k j (min (max i 0) (n : Int)) else Mv.from_ n m k j (min (max i 0) (n : Int))) := by
          show _ = _
          unfold Mv.move Mv.clamp
          rw [HLa.out, HLb.out, ← HS0.out, ← HP0.out]
        have ht0 : 0 ≤ min (max i 0) (n : Int) := by omega
        have ht1 : min (max i 0) (n : Int) ≤ (n : Int) := by omega
        generalize min (max i 0) (n : Int) = t at *
        clear HK HJ
        cases e
        · by_cases z1 : (n : Int) - (j : Int) ≤ t
          · have z2 : ¬ t < (n : Int) - (j : Int) := by omega
            go_wp2_with fail
            go_ret
            exact ⟨ret_int (by rw [HMv.out]; unfold Mv.from_; simp; repeat' split; all_goals omega), HXW.out.trans HXe.out⟩
          have z2 : t < (n : Int) - (j : Int) := by omega
          by_cases z3 : t < (k : Int)
          · go_wp2_with fail
            go_ret
            exact ⟨ret_int (by rw [HMv.out]; unfold Mv.from_; simp; repeat' split; all_goals omega), HXW.out.trans HXe.out⟩
          go_wp2_with fail
          go_ret
          exact ⟨ret_int (by rw [HMv.out]; unfold Mv.from_; simp; repeat' split; all_goals omega), HXW.out.trans HXe.out⟩
        · by_cases z1 : t ≤ (k : Int)
          · go_wp2_with fail
            go_ret
            exact ⟨ret_int (by rw [HMv.out]; unfold Mv.to_; simp; repeat' split; all_goals omega), HXW.out.trans HXe.out⟩
          by_cases z3 : (n : Int) - (j : Int) < t
          · go_wp2_with fail
            go_ret
            exact ⟨ret_int (by rw [HMv.out]; unfold Mv.to_; simp; repeat' split; all_goals omega), HXW.out.trans HXe.out⟩
          go_wp2_with fail
          go_ret
          exact ⟨ret_int (by rw [HMv.out]; unfold Mv.to_; simp; repeat' split; all_goals omega), HXW.out.trans HXe.out⟩
      have hjs : j = S0 := by
        rw [HS0.out]
        refine Mv.suf_stop HJ.out ?_
        have h1 := HLa.out
        have h2 := HLb.out
        have h3 := HP0.out
        by_cases h : j < n - k
        · exact .inr (.inl (by omega))
        · exact .inl (by omega)
      subst hjs
      have hmn : decide ((j : Int) < min (n : Int) (m : Int) - (k : Int)) = false := decide_eq_false (by omega)
      go_wp2_with fail
      refine wp_region_ew wr (Ext.refl _) (by kernel_rfl) (by kernel_rfl) ?_
      repeat (go_big_quiet_step ((fail)))
      refine wpQuiet_nil ?_
      rintro w9 ⟨⟨_, hx9⟩, rfl⟩
      clear hmn hlt2
      have HXe := Lib.hid (HXj.out.trans hx9)
      clear hx9 HXj HXo
      go_upto_block 4 with (fail)
      have HMv : Hid (Mv.move a b i e = if e = true then Mv.to_ n m k j (min (max i 0) (n : Int)) else Mv.from_ n m k j (min (max i 0) (n : Int))) := by
        show _ = _
        unfold Mv.move Mv.clamp
        rw [HLa.out, HLb.out, ← HS0.out, ← HP0.out]
      have ht0 : 0 ≤ min (max i 0) (n : Int) := by omega
      have ht1 : min (max i 0) (n : Int) ≤ (n : Int) := by omega
      generalize min (max i 0) (n : Int) = t at *
      clear HK HJ
      cases e
      · by_cases z1 : (n : Int) - (j : Int) ≤ t
        · have z2 : ¬ t < (n : Int) - (j : Int) := by omega
          go_wp2_with fail
          go_ret
          exact ⟨ret_int (by rw [HMv.out]; unfold Mv.from_; simp; repeat' split; all_goals omega), HXW.out.trans HXe.out⟩
        have z2 : t < (n : Int) - (j : Int) := by omega
        by_cases z3 : t < (k : Int)
        · go_wp2_with fail
          go_ret
          exact ⟨ret_int (by rw [HMv.out]; unfold Mv.from_; simp; repeat' split; all_goals omega), HXW.out.trans HXe.out⟩
        go_wp2_with fail
        go_ret
        exact ⟨ret_int (by rw [HMv.out]; unfold Mv.from_; simp; repeat' split; all_goals omega), HXW.out.trans HXe.out⟩
      · by_cases z1 : t ≤ (k : Int)
        · go_wp2_with fail
          go_ret
          exact ⟨ret_int (by rw [HMv.out]; unfold Mv.to_; simp; repeat' split; all_goals omega), HXW.out.trans HXe.out⟩
        by_cases z3 : (n : Int) - (j : Int) < t
        · go_wp2_with fail
          go_ret
          exact ⟨ret_int (by rw [HMv.out]; unfold Mv.to_; simp; repeat' split; all_goals omega), HXW.out.trans HXe.out⟩
        go_wp2_with fail
        go_ret
        exact ⟨ret_int (by rw [HMv.out]; unfold Mv.to_; simp; repeat' split; all_goals omega), HXW.out.trans HXe.out⟩
end Go.Proofs.YtagfedbdakmlgaaDoor

/-! Awake14 -/
namespace Go.Proofs.YtagfedbdakmlgaaDoor
set_option linter.unusedVariables false
set_option linter.unusedSimpArgs false
open Go.RowKit

def q0a : Run := ⟨⟨#[72, 105, 44]⟩, 0, false, false, ⟨#[]⟩⟩
def q0b : Run := ⟨⟨#[121, 111, 117, 46]⟩, 0, false, false, ⟨#[]⟩⟩
def q0e : Ev := ⟨1, 10, 50, ⟨#[]⟩, 1, ⟨#[]⟩, [[q0a], [q0b]]⟩
def q0 : Doc := ⟨⟨#[]⟩, ⟨#[]⟩, 3, false, 1, [], [q0e], []⟩
def q1 : Doc := ⟨⟨#[]⟩, ⟨#[]⟩, 3, false, 2, [], [q0e], [⟨2, 1, 0, 2, ⟨#[65, 78, 78]⟩, ⟨#[63]⟩, false, false⟩]⟩
theorem q0_err1 : q0.addErr 1 0 2 ⟨#[65, 78, 78]⟩ ⟨#[63]⟩ = 0 := by kernel_rfl
theorem q0_err2 : q0.addErr 1 0 9 ⟨#[65, 78, 78]⟩ ⟨#[63]⟩ = 2 := by kernel_rfl
theorem q0_id1 : q0.addId 1 0 2 ⟨#[65, 78, 78]⟩ ⟨#[63]⟩ = 2 := by unfold Doc.addId; rw [q0_err1]; rfl
theorem q0_id2 : q0.addId 1 0 9 ⟨#[65, 78, 78]⟩ ⟨#[63]⟩ = 0 := by unfold Doc.addId; rw [q0_err2]; rfl
theorem q0_add1 : q0.added 1 0 2 ⟨#[65, 78, 78]⟩ ⟨#[63]⟩ = q1 := by unfold Doc.added; rw [q0_err1]; rfl
theorem q0_add2 : q0.added 1 0 9 ⟨#[65, 78, 78]⟩ ⟨#[63]⟩ = Doc.zero := by unfold Doc.added; rw [q0_err2]; rfl
theorem q1_quX : q1.quX 2 = (⟨#[72, 105]⟩, 0) := by kernel_rfl
theorem q0_move : Mv.move (runes ⟨#[72, 105, 44]⟩ 0) (runes ⟨#[79, 104, 32, 104, 105, 44]⟩ 0) 1 false = 4 := by kernel_rfl
theorem q0e_small : EvSmall q0e ∧ q0e.bytes ≤ 1099511627776 := by
  refine ⟨⟨by decide, by decide, fun r hr => ?_⟩, by decide⟩
  simp only [q0e, List.mem_cons, List.not_mem_nil, or_false] at hr
  rcases hr with rfl | rfl
  · refine ⟨by decide, fun x hx => ?_⟩
    simp only [List.mem_singleton] at hx
    subst hx
    exact ⟨by decide, by decide⟩
  · refine ⟨by decide, fun x hx => ?_⟩
    simp only [List.mem_singleton] at hx
    subst hx
    exact ⟨by decide, by decide⟩
theorem q0_fit : DocFit q0 := by
  refine ⟨⟨by decide, by decide, by decide, by decide⟩, (fun r hr => by cases hr), (fun e he => ?_), (fun e he => ?_), (fun c hc => by cases hc)⟩
  · simp only [q0, List.mem_singleton] at he
    subst he
    exact q0e_small
  · simp only [q0, List.mem_singleton] at he
    subst he
    exact ⟨by decide, by decide⟩
theorem q1_fit : DocFit q1 := by
  refine ⟨⟨by decide, by decide, by decide, by decide⟩, (fun r hr => by cases hr), (fun e he => ?_), (fun e he => ?_), (fun c hc => ?_)⟩
  · simp only [q1, List.mem_singleton] at he
    subst he
    exact q0e_small
  · simp only [q1, List.mem_singleton] at he
    subst he
    exact ⟨by decide, by decide⟩
  · simp only [q1, List.mem_singleton] at hc
    subst hc
    exact ⟨⟨by decide, by decide⟩, ⟨by decide, by decide⟩, by decide, by decide⟩
def q0h (g : Nat) : DocH := ⟨none, 0, 0, some ⟨g, 0, none⟩, 1, 1, none, 0, 0⟩
theorem sl_1 {α : Type} {C : World → Nat → Nat → α → Prop} {w : World} {size g : Nat} {x : α} (h : C w g 0 x) : Sl w size C (some ⟨g, 0, none⟩) 1 [x] := by
  refine ⟨rfl, fun _ => ⟨g, 0, rfl, fun i y hy => ?_⟩⟩
  match i, hy with
  | 0, hy => simp at hy; subst hy; simpa using h
  | i + 1, hy => simp at hy
theorem sl_2 {α : Type} {C : World → Nat → Nat → α → Prop} {w : World} {size g : Nat} {x y : α} (h : C w g 0 x) (h2 : C w g size y) : Sl w size C (some ⟨g, 0, none⟩) 2 [x, y] := by
  refine ⟨rfl, fun _ => ⟨g, 0, rfl, fun i z hz => ?_⟩⟩
  match i, hz with
  | 0, hz => simp at hz; subst hz; simpa using h
  | 1, hz => simp at hz; subst hz; simpa using h2
  | i + 2, hz => simp at hz
theorem q0_at {w : World} {g0 g1 g2 g3 : Nat} (h0 : Blk w g0 66 #[.string ⟨#[72, 105, 44]⟩, .int .u8 0, .bool false, .bool false, .string ⟨#[]⟩]) (h1 : Blk w g1 66 #[.string ⟨#[121, 111, 117, 46]⟩, .int .u8 0, .bool false, .bool false, .string ⟨#[]⟩]) (h2 : Blk w g2 61 #[.slice (some ⟨g0, 0, none⟩) 1 1, .slice (some ⟨g1, 0, none⟩) 1 1])
    (h3 : Blk w g3 45 #[.int .i64 1, .int .i64 10, .int .i64 50, .string ⟨#[]⟩, .int .u8 1, .string ⟨#[]⟩, .slice (some ⟨g2, 0, none⟩) 2 2]) : DocAt w q0 (q0h g3) := by
  refine ⟨Sl.nil, sl_1 ⟨some ⟨g2, 0, none⟩, 2, 2, fun j u hu => ?_, sl_2 ⟨some ⟨g0, 0, none⟩, 1, 1, h2.cell 0, Nat.le_refl _, by decide, sl_1 ⟨h0.cell 0, h0.cell 1, h0.cell 2, h0.cell 3, h0.cell 4⟩⟩ ⟨some ⟨g1, 0, none⟩, 1, 1, h2.cell 1, Nat.le_refl _, by decide, sl_1 ⟨h1.cell 0, h1.cell 1, h1.cell 2, h1.cell 3, h1.cell 4⟩⟩, Nat.le_refl _, by decide⟩, Sl.nil⟩
  rw [Nat.zero_add, h3.cell]
  rw [← hu]
  show _ = ((q0e.cells (some ⟨g2, 0, none⟩) 2 2).toList)[j]?
  rw [Array.getElem?_toList]
  rfl
set_option maxRecDepth 100000 in
set_option maxHeartbeats 8000000 in
theorem awake14_any (w : World) (hE : Env w) : Calls Tryd.prog 7 #[] w fun en w' => en = .returned (.bool true) ∧ Ext w w' := by
  have HEn := Lib.hid hE
  clear hE
  go_enter Tryd.func7, Tryd.ntmps7
  go_upto_region 2 with (fail)
  have HX : Hid (Ext w (((((w.alloc (.cells #[.string ⟨#[72, 105, 44]⟩, .int .u8 0, .bool false, .bool false, .string ⟨#[]⟩] 66)).alloc (.cells #[.string ⟨#[121, 111, 117, 46]⟩, .int .u8 0, .bool false, .bool false, .string ⟨#[]⟩] 66)).alloc (.cells #[.slice (some ⟨w.heap.size, 0, none⟩) 1 1, .slice (some ⟨w.heap.size + 1, 0, none⟩) 1 1] 61)).alloc (.cells #[.int .i64 1, .int .i64 10, .int .i64 50, .string ⟨#[]⟩, .int .u8 1, .string ⟨#[]⟩, .slice (some ⟨w.heap.size + 1 + 1, 0, none⟩) 2 2] 45)).alloc (.cells #[.string ⟨#[]⟩, .string ⟨#[]⟩, .int .u8 3, .bool false, .int .i64 1, .slice none 0 0, .slice (some ⟨w.heap.size + 1 + 1 + 1, 0, none⟩) 1 1, .slice none 0 0] 39))) := by show Ext _ _; repeat (first | exact Ext.refl _ | apply Ext.alloc)
  have HB0 : Hid (Blk (((((w.alloc (.cells #[.string ⟨#[72, 105, 44]⟩, .int .u8 0, .bool false, .bool false, .string ⟨#[]⟩] 66)).alloc (.cells #[.string ⟨#[121, 111, 117, 46]⟩, .int .u8 0, .bool false, .bool false, .string ⟨#[]⟩] 66)).alloc (.cells #[.slice (some ⟨w.heap.size, 0, none⟩) 1 1, .slice (some ⟨w.heap.size + 1, 0, none⟩) 1 1] 61)).alloc (.cells #[.int .i64 1, .int .i64 10, .int .i64 50, .string ⟨#[]⟩, .int .u8 1, .string ⟨#[]⟩, .slice (some ⟨w.heap.size + 1 + 1, 0, none⟩) 2 2] 45)).alloc (.cells #[.string ⟨#[]⟩, .string ⟨#[]⟩, .int .u8 3, .bool false, .int .i64 1, .slice none 0 0, .slice (some ⟨w.heap.size + 1 + 1 + 1, 0, none⟩) 1 1, .slice none 0 0] 39)) (w.heap.size) 66 #[.string ⟨#[72, 105, 44]⟩, .int .u8 0, .bool false, .bool false, .string ⟨#[]⟩]) := ((((Blk.new' (by simp)).alloc _).alloc _).alloc _).alloc _
  have HB1 : Hid (Blk (((((w.alloc (.cells #[.string ⟨#[72, 105, 44]⟩, .int .u8 0, .bool false, .bool false, .string ⟨#[]⟩] 66)).alloc (.cells #[.string ⟨#[121, 111, 117, 46]⟩, .int .u8 0, .bool false, .bool false, .string ⟨#[]⟩] 66)).alloc (.cells #[.slice (some ⟨w.heap.size, 0, none⟩) 1 1, .slice (some ⟨w.heap.size + 1, 0, none⟩) 1 1] 61)).alloc (.cells #[.int .i64 1, .int .i64 10, .int .i64 50, .string ⟨#[]⟩, .int .u8 1, .string ⟨#[]⟩, .slice (some ⟨w.heap.size + 1 + 1, 0, none⟩) 2 2] 45)).alloc (.cells #[.string ⟨#[]⟩, .string ⟨#[]⟩, .int .u8 3, .bool false, .int .i64 1, .slice none 0 0, .slice (some ⟨w.heap.size + 1 + 1 + 1, 0, none⟩) 1 1, .slice none 0 0] 39)) (w.heap.size + 1) 66 #[.string ⟨#[121, 111, 117, 46]⟩, .int .u8 0, .bool false, .bool false, .string ⟨#[]⟩]) := (((Blk.new' (by simp)).alloc _).alloc _).alloc _
  have HB2 : Hid (Blk (((((w.alloc (.cells #[.string ⟨#[72, 105, 44]⟩, .int .u8 0, .bool false, .bool false, .string ⟨#[]⟩] 66)).alloc (.cells #[.string ⟨#[121, 111, 117, 46]⟩, .int .u8 0, .bool false, .bool false, .string ⟨#[]⟩] 66)).alloc (.cells #[.slice (some ⟨w.heap.size, 0, none⟩) 1 1, .slice (some ⟨w.heap.size + 1, 0, none⟩) 1 1] 61)).alloc (.cells #[.int .i64 1, .int .i64 10, .int .i64 50, .string ⟨#[]⟩, .int .u8 1, .string ⟨#[]⟩, .slice (some ⟨w.heap.size + 1 + 1, 0, none⟩) 2 2] 45)).alloc (.cells #[.string ⟨#[]⟩, .string ⟨#[]⟩, .int .u8 3, .bool false, .int .i64 1, .slice none 0 0, .slice (some ⟨w.heap.size + 1 + 1 + 1, 0, none⟩) 1 1, .slice none 0 0] 39)) (w.heap.size + 1 + 1) 61 #[.slice (some ⟨w.heap.size, 0, none⟩) 1 1, .slice (some ⟨w.heap.size + 1, 0, none⟩) 1 1]) := ((Blk.new' (by simp)).alloc _).alloc _
  have HB3 : Hid (Blk (((((w.alloc (.cells #[.string ⟨#[72, 105, 44]⟩, .int .u8 0, .bool false, .bool false, .string ⟨#[]⟩] 66)).alloc (.cells #[.string ⟨#[121, 111, 117, 46]⟩, .int .u8 0, .bool false, .bool false, .string ⟨#[]⟩] 66)).alloc (.cells #[.slice (some ⟨w.heap.size, 0, none⟩) 1 1, .slice (some ⟨w.heap.size + 1, 0, none⟩) 1 1] 61)).alloc (.cells #[.int .i64 1, .int .i64 10, .int .i64 50, .string ⟨#[]⟩, .int .u8 1, .string ⟨#[]⟩, .slice (some ⟨w.heap.size + 1 + 1, 0, none⟩) 2 2] 45)).alloc (.cells #[.string ⟨#[]⟩, .string ⟨#[]⟩, .int .u8 3, .bool false, .int .i64 1, .slice none 0 0, .slice (some ⟨w.heap.size + 1 + 1 + 1, 0, none⟩) 1 1, .slice none 0 0] 39)) (w.heap.size + 1 + 1 + 1) 45 #[.int .i64 1, .int .i64 10, .int .i64 50, .string ⟨#[]⟩, .int .u8 1, .string ⟨#[]⟩, .slice (some ⟨w.heap.size + 1 + 1, 0, none⟩) 2 2]) := (Blk.new' (by simp)).alloc _
  have HB4 : Hid (Blk (((((w.alloc (.cells #[.string ⟨#[72, 105, 44]⟩, .int .u8 0, .bool false, .bool false, .string ⟨#[]⟩] 66)).alloc (.cells #[.string ⟨#[121, 111, 117, 46]⟩, .int .u8 0, .bool false, .bool false, .string ⟨#[]⟩] 66)).alloc (.cells #[.slice (some ⟨w.heap.size, 0, none⟩) 1 1, .slice (some ⟨w.heap.size + 1, 0, none⟩) 1 1] 61)).alloc (.cells #[.int .i64 1, .int .i64 10, .int .i64 50, .string ⟨#[]⟩, .int .u8 1, .string ⟨#[]⟩, .slice (some ⟨w.heap.size + 1 + 1, 0, none⟩) 2 2] 45)).alloc (.cells #[.string ⟨#[]⟩, .string ⟨#[]⟩, .int .u8 3, .bool false, .int .i64 1, .slice none 0 0, .slice (some ⟨w.heap.size + 1 + 1 + 1, 0, none⟩) 1 1, .slice none 0 0] 39)) (w.heap.size + 1 + 1 + 1 + 1) 39 #[.string ⟨#[]⟩, .string ⟨#[]⟩, .int .u8 3, .bool false, .int .i64 1, .slice none 0 0, .slice (some ⟨w.heap.size + 1 + 1 + 1, 0, none⟩) 1 1, .slice none 0 0]) := Blk.new' (by simp)
  generalize hWg : (((((w.alloc (.cells #[.string ⟨#[72, 105, 44]⟩, .int .u8 0, .bool false, .bool false, .string ⟨#[]⟩] 66)).alloc (.cells #[.string ⟨#[121, 111, 117, 46]⟩, .int .u8 0, .bool false, .bool false, .string ⟨#[]⟩] 66)).alloc (.cells #[.slice (some ⟨w.heap.size, 0, none⟩) 1 1, .slice (some ⟨w.heap.size + 1, 0, none⟩) 1 1] 61)).alloc (.cells #[.int .i64 1, .int .i64 10, .int .i64 50, .string ⟨#[]⟩, .int .u8 1, .string ⟨#[]⟩, .slice (some ⟨w.heap.size + 1 + 1, 0, none⟩) 2 2] 45)).alloc (.cells #[.string ⟨#[]⟩, .string ⟨#[]⟩, .int .u8 3, .bool false, .int .i64 1, .slice none 0 0, .slice (some ⟨w.heap.size + 1 + 1 + 1, 0, none⟩) 1 1, .slice none 0 0] 39)) = W0 at *
  clear hWg
  have hat0 : DocAt W0 q0 (q0h (w.heap.size + 1 + 1 + 1)) := q0_at HB0.out HB1.out HB2.out HB3.out
  have HAt := Lib.hid hat0
  have HAdd := Lib.hid (fun fr til w' (hx : Ext W0 w') => DAdd_any q0 (q0h (w.heap.size + 1 + 1 + 1)) 1 fr til ⟨#[65, 78, 78]⟩ ⟨#[63]⟩ w' (HEn.out.ext (HX.out.trans hx)) (HAt.out.ext hx) q0_fit (by simp [q0h]) (by simp [q0h]) (by simp [q0h]) (by simp [q0h]) (by decide) (by decide))
  have HMv := Lib.hid (fun w' => CMove_any ⟨#[72, 105, 44]⟩ ⟨#[79, 104, 32, 104, 105, 44]⟩ 1 false w' (by decide) (by decide))
  rw [q0_move] at HMv
  unfold AddPost at HAdd
  unfold Doc.cells q0 q0h at HAdd
  dsimp only at HAdd
  have HX0 := Lib.hid (Ext.refl W0)
  clear hat0 HB0 HB1 HB2 HB3
  go_wp2_with (refine wpList_loadB rfl 39 (.tmp 1) rfl (w.heap.size + 1 + 1 + 1 + 1) 39 _ _ (by exact rfl) (by exact HB4.out) Tryd.underlying39 rfl (by exact size_docI) ?_)
  refine (HAdd.out 0 2 _ HX0.out).mono ?_
  rintro en w_1 ⟨⟨ra, rn, rc, ea, en1, ec, ca, cn, cc⟩, rfl, ho1, hx_2⟩
  have HO1 := Lib.hid (show DocOwn w_1 W0.heap.size (q0.added 1 0 2 ⟨#[65, 78, 78]⟩ ⟨#[63]⟩) ⟨ra, rn, rc, ea, en1, ec, ca, cn, cc⟩ from ho1)
  clear ho1
  have HX_3 := Lib.hid (HX0.out.trans hx_2)
  have HB_4 := Lib.hid (HB4.out.ext hx_2)
  clear hx_2 HX0 HB4
  rw [show (Doc.addErr ⟨⟨#[]⟩, ⟨#[]⟩, 3, false, 1, [], [q0e], []⟩ 1 0 2 ⟨#[65, 78, 78]⟩ ⟨#[63]⟩) = 0 from q0_err1, show (Doc.addId ⟨⟨#[]⟩, ⟨#[]⟩, 3, false, 1, [], [q0e], []⟩ 1 0 2 ⟨#[65, 78, 78]⟩ ⟨#[63]⟩) = 2 from q0_id1, show (Doc.added ⟨⟨#[]⟩, ⟨#[]⟩, 3, false, 1, [], [q0e], []⟩ 1 0 2 ⟨#[65, 78, 78]⟩ ⟨#[63]⟩) = q1 from q0_add1]
  rw [q0_add1] at HO1
  have hr1 := HO1.out.rlen
  have he1 := HO1.out.evs.len
  have hc1 := HO1.out.clen
  have HQu := Lib.hid (fun w' (hx : Ext w_1 w') => Quoted_any q1 ⟨ra, rn, rc, ea, en1, ec, ca, cn, cc⟩ 2 w' (HEn.out.ext (HX.out.trans (HX_3.out.trans hx))) (HO1.out.at_.ext hx) q1_fit (by simp [q1] at hr1; simp only; omega) (by simp [q1] at he1; simp only; omega) (by simp [q1] at hc1; simp only; omega))
  rw [q1_quX] at HQu
  unfold Doc.cells q1 at HQu
  unfold q1
  dsimp only at *
  clear hr1 he1 hc1 HO1
  have HX1 := Lib.hid (Ext.refl w_1)
  have HB_5 := Lib.hid (Blk.new w_1 39 #[.string ⟨#[]⟩, .string ⟨#[]⟩, .int .u8 3, .bool false, .int .i64 2, .slice ra rn rc, .slice ea en1 ec, .slice ca cn cc])
  have ha_6 := (Ext.refl w_1).alloc (.cells #[.string ⟨#[]⟩, .string ⟨#[]⟩, .int .u8 3, .bool false, .int .i64 2, .slice ra rn rc, .slice ea en1 ec, .slice ca cn cc] 39)
  have HX_7 := Lib.hid (HX_3.out.trans ha_6)
  have HB_8 := Lib.hid (HB_4.out.ext ha_6)
  clear ha_6 HX_3 HB_4
  have hxa := ((Ext.refl w_1).alloc (.cells #[.string ⟨#[]⟩, .string ⟨#[]⟩, .int .u8 3, .bool false, .int .i64 2, .slice ra rn rc, .slice ea en1 ec, .slice ca cn cc] 39))
  go_wp2_with (refine wpList_loadB rfl 39 (.tmp 2) rfl (w_1.heap.size) 39 _ _ (by exact rfl) (by exact HB_5.out) Tryd.underlying39 rfl (by exact size_docI) ?_)
  refine (HQu.out _ hxa).mono ?_
  rintro en w_9 ⟨rfl, hx_10⟩
  have HX_11 := Lib.hid (HX_7.out.trans hx_10)
  have HB_12 := Lib.hid (HB_8.out.ext hx_10)
  have HB_13 := Lib.hid (HB_5.out.ext hx_10)
  clear hx_10 HX_7 HB_8 HB_5
  clear hxa HQu HX1
  go_wp2_with (refine wpList_loadB rfl 39 (.tmp 1) rfl (w.heap.size + 1 + 1 + 1 + 1) 39 _ _ (by exact rfl) (by exact HB_12.out) Tryd.underlying39 rfl (by exact size_docI) ?_)
  refine (HAdd.out 0 9 _ HX_11.out).mono ?_
  rintro en w_14 ⟨⟨ra2, rn2, rc2, ea2, en2, ec2, ca2, cn2, cc2⟩, rfl, -, hx_15⟩
  have HX_16 := Lib.hid (HX_11.out.trans hx_15)
  have HB_17 := Lib.hid (HB_12.out.ext hx_15)
  have HB_18 := Lib.hid (HB_13.out.ext hx_15)
  clear hx_15 HX_11 HB_12 HB_13
  rw [show (Doc.addErr ⟨⟨#[]⟩, ⟨#[]⟩, 3, false, 1, [], [q0e], []⟩ 1 0 9 ⟨#[65, 78, 78]⟩ ⟨#[63]⟩) = 2 from q0_err2, show (Doc.addId ⟨⟨#[]⟩, ⟨#[]⟩, 3, false, 1, [], [q0e], []⟩ 1 0 9 ⟨#[65, 78, 78]⟩ ⟨#[63]⟩) = 0 from q0_id2, show (Doc.added ⟨⟨#[]⟩, ⟨#[]⟩, 3, false, 1, [], [q0e], []⟩ 1 0 9 ⟨#[65, 78, 78]⟩ ⟨#[63]⟩) = Doc.zero from q0_add2]
  unfold Doc.zero
  dsimp only
  go_wp2_with fail
  refine (HMv.out _).mono ?_
  rintro en w_19 ⟨rfl, hx_20⟩
  go_wp2_with fail
  go_ret
  exact ⟨rfl, HX.out.trans ((HX_16.out.alloc _).trans hx_20)⟩
end Go.Proofs.YtagfedbdakmlgaaDoor

/-! Awake12 -/
namespace Go.Proofs.YtagfedbdakmlgaaDoor
set_option linter.unusedVariables false
set_option linter.unusedSimpArgs false
open Go.RowKit

def a12r : Run := ⟨⟨#[83, 101, 101, 32, 121, 111, 117, 32, 115, 111, 111, 110]⟩, 0, false, false, ⟨#[]⟩⟩
def a12e : Ev := ⟨0, 0, 9, ⟨#[]⟩, 1, ⟨#[]⟩, [[a12r]]⟩
def a12d : Doc := ⟨⟨#[]⟩, ⟨#[]⟩, 3, false, 0, [], [], []⟩
def a12d2 : Doc := ⟨⟨#[]⟩, ⟨#[]⟩, 3, false, 4, [], [], []⟩
def a12c : Com := ⟨0, 0, 4, 7, ⟨#[]⟩, ⟨#[]⟩, false, false⟩
theorem a12_new : newX 3 false = (a12d, 0) := by kernel_rfl
theorem a12_err : a12d2.insErr a12e = 0 := by kernel_rfl
theorem a12_ins : a12d2.insX a12e = (a12d2.insD a12e, 5, 0) := by unfold Doc.insX; rw [a12_err]; rfl
theorem a12_f1 : a12c.fol (runes ⟨#[83, 101, 101, 32, 121, 111, 117, 32, 115, 111, 111, 110]⟩ 0) (runes ⟨#[83, 101, 101, 32, 97, 108, 108, 32, 111, 102, 32, 121, 111, 117, 32, 115, 111, 111, 110]⟩ 0) = ⟨0, 0, 11, 14, ⟨#[]⟩, ⟨#[]⟩, false, false⟩ := by kernel_rfl
theorem a12_f2 : a12c.fol (runes ⟨#[83, 101, 101, 32, 121, 111, 117, 32, 115, 111, 111, 110]⟩ 0) (runes ⟨#[83, 101, 101, 32, 115, 111, 111, 110]⟩ 0) = ⟨0, 0, 0, 0, ⟨#[]⟩, ⟨#[]⟩, false, true⟩ := by kernel_rfl
theorem a12_f3 : a12c.fol (runes ⟨#[83, 101, 101, 32, 121, 111, 117, 32, 115, 111, 111, 110]⟩ 0) (runes ⟨#[83, 101, 101, 32, 121, 111, 117, 114, 32, 100, 111, 103, 32, 115, 111, 111, 110]⟩ 0) = ⟨0, 0, 4, 7, ⟨#[]⟩, ⟨#[]⟩, false, false⟩ := by kernel_rfl
theorem a12_small : EvSmall a12e := by
  refine ⟨by decide, by decide, fun r hr => ?_⟩
  simp only [a12e, List.mem_cons, List.not_mem_nil, or_false] at hr
  subst hr
  refine ⟨by decide, fun x hx => ?_⟩
  simp only [List.mem_singleton] at hx
  subst hx
  exact ⟨by decide, by decide⟩
theorem a12_fit : DocFit a12d2 := ⟨⟨by decide, by decide, by decide, by decide⟩, (fun r hr => by cases hr), (fun e he => by cases he), (fun e he => by cases he), (fun c hc => by cases hc)⟩
theorem a12_at {w : World} {h : DocH} (k : DocAt w a12d h) : DocAt w a12d2 h := ⟨k.regs, k.evs, k.coms⟩
set_option maxRecDepth 100000 in
set_option maxHeartbeats 8000000 in
theorem awake12_any (w : World) (hE : Env w) : Calls Tryd.prog 10 #[] w fun en w' => en = .returned (.bool true) ∧ Ext w w' := by
  have HEn := Lib.hid hE
  have HNw := Lib.hid (fun w' => DNew_any 3 false w' (by decide) (by decide))
  have HF1 := Lib.hid (fun w' => DFollow_any a12c ⟨#[83, 101, 101, 32, 121, 111, 117, 32, 115, 111, 111, 110]⟩ ⟨#[83, 101, 101, 32, 97, 108, 108, 32, 111, 102, 32, 121, 111, 117, 32, 115, 111, 111, 110]⟩ w' (by decide) (by decide))
  have HF2 := Lib.hid (fun w' => DFollow_any a12c ⟨#[83, 101, 101, 32, 121, 111, 117, 32, 115, 111, 111, 110]⟩ ⟨#[83, 101, 101, 32, 115, 111, 111, 110]⟩ w' (by decide) (by decide))
  have HF3 := Lib.hid (fun w' => DFollow_any a12c ⟨#[83, 101, 101, 32, 121, 111, 117, 32, 115, 111, 111, 110]⟩ ⟨#[83, 101, 101, 32, 121, 111, 117, 114, 32, 100, 111, 103, 32, 115, 111, 111, 110]⟩ w' (by decide) (by decide))
  rw [a12_f1] at HF1
  rw [a12_f2] at HF2
  rw [a12_f3] at HF3
  rw [a12_new] at HNw
  unfold Com.vals a12c at HF1 HF2 HF3
  unfold DEPost at HNw
  clear hE
  go_enter Tryd.func10, Tryd.ntmps10
  go_wp2_with fail
  refine (HNw.out _).mono ?_
  rintro en w1 ⟨⟨ra, rn, rc, ea, en1, ec, ca, cn, cc⟩, rfl, ho1, hx1⟩
  have HO1 := Lib.hid (show DocOwn w1 w.heap.size a12d ⟨ra, rn, rc, ea, en1, ec, ca, cn, cc⟩ from ho1)
  have HX1 := Lib.hid hx1
  clear ho1 hx1 HNw
  unfold Doc.cells a12d
  dsimp only
  have hbn := Blk.new w1 39 #[.string ⟨#[]⟩, .string ⟨#[]⟩, .int .u8 3, .bool false, .int .i64 0, .slice ra rn rc, .slice ea en1 ec, .slice ca cn cc]
  have hs1 := setCell_put hbn 4 (.int .i64 4)
  have hf1 := hbn.frozen 4
  have hc1 := hbn.cell 4
  simp at hs1 hc1
  go_upto_region 3 with fail
  obtain ⟨gd, hgd⟩ : ∃ gd, gd = w1.heap.size := ⟨_, rfl⟩
  obtain ⟨W2, hW2⟩ : ∃ W2, W2 = putB (w1.alloc (.cells #[.string ⟨#[]⟩, .string ⟨#[]⟩, .int .u8 3, .bool false, .int .i64 0, .slice ra rn rc, .slice ea en1 ec, .slice ca cn cc] 39)) w1.heap.size 39 #[.string ⟨#[]⟩, .string ⟨#[]⟩, .int .u8 3, .bool false, .int .i64 4, .slice ra rn rc, .slice ea en1 ec, .slice ca cn cc] := ⟨_, rfl⟩
  rw [← hW2, ← hgd]
  have HX2 : Hid (Ext w W2) := by show Ext _ _; rw [hW2]; exact (HX1.out.alloc _).put HX1.out.size _ _
  have HB2 : Hid (Blk W2 gd 39 #[.string ⟨#[]⟩, .string ⟨#[]⟩, .int .u8 3, .bool false, .int .i64 4, .slice ra rn rc, .slice ea en1 ec, .slice ca cn cc]) := by show Blk _ _ _ _; rw [hW2, hgd]; exact hbn.put _
  have HA2 : Hid (DocAt W2 a12d ⟨ra, rn, rc, ea, en1, ec, ca, cn, cc⟩) := by
    show DocAt _ _ _
    rw [hW2]
    have ho := (HO1.out.ext ((Ext.refl w1).alloc (.cells #[.string ⟨#[]⟩, .string ⟨#[]⟩, .int .u8 3, .bool false, .int .i64 0, .slice ra rn rc, .slice ea en1 ec, .slice ca cn cc] 39))).put hbn #[.string ⟨#[]⟩, .string ⟨#[]⟩, .int .u8 3, .bool false, .int .i64 4, .slice ra rn rc, .slice ea en1 ec, .slice ca cn cc]
    exact ho.at_
  have hrl := HO1.out.rlen
  have hel := HO1.out.evs.len
  have hcl := HO1.out.clen
  clear hs1 hf1 hc1 hbn hW2 hgd HX1 HO1
  go_upto_region 4 with fail
  have HX3 : Hid (Ext w (((W2.alloc (.cells #[.string ⟨#[83, 101, 101, 32, 121, 111, 117, 32, 115, 111, 111, 110]⟩, .int .u8 0, .bool false, .bool false, .string ⟨#[]⟩] 66)).alloc (.cells #[.slice (some ⟨W2.heap.size, 0, none⟩) 1 1] 61)).alloc (.cells #[.int .i64 0, .int .i64 0, .int .i64 9, .string ⟨#[]⟩, .int .u8 1, .string ⟨#[]⟩, .slice (some ⟨W2.heap.size + 1, 0, none⟩) 1 1] 45))) := ((HX2.out.alloc _).alloc _).alloc _
  have hx23 : Ext W2 (((W2.alloc (.cells #[.string ⟨#[83, 101, 101, 32, 121, 111, 117, 32, 115, 111, 111, 110]⟩, .int .u8 0, .bool false, .bool false, .string ⟨#[]⟩] 66)).alloc (.cells #[.slice (some ⟨W2.heap.size, 0, none⟩) 1 1] 61)).alloc (.cells #[.int .i64 0, .int .i64 0, .int .i64 9, .string ⟨#[]⟩, .int .u8 1, .string ⟨#[]⟩, .slice (some ⟨W2.heap.size + 1, 0, none⟩) 1 1] 45)) := (((Ext.refl W2).alloc _).alloc _).alloc _
  have HR3 : Hid (Blk (((W2.alloc (.cells #[.string ⟨#[83, 101, 101, 32, 121, 111, 117, 32, 115, 111, 111, 110]⟩, .int .u8 0, .bool false, .bool false, .string ⟨#[]⟩] 66)).alloc (.cells #[.slice (some ⟨W2.heap.size, 0, none⟩) 1 1] 61)).alloc (.cells #[.int .i64 0, .int .i64 0, .int .i64 9, .string ⟨#[]⟩, .int .u8 1, .string ⟨#[]⟩, .slice (some ⟨W2.heap.size + 1, 0, none⟩) 1 1] 45)) (W2.heap.size) 66 #[.string ⟨#[83, 101, 101, 32, 121, 111, 117, 32, 115, 111, 111, 110]⟩, .int .u8 0, .bool false, .bool false, .string ⟨#[]⟩]) := ((Blk.new W2 _ _).alloc _).alloc _
  have HW3 : Hid (Blk (((W2.alloc (.cells #[.string ⟨#[83, 101, 101, 32, 121, 111, 117, 32, 115, 111, 111, 110]⟩, .int .u8 0, .bool false, .bool false, .string ⟨#[]⟩] 66)).alloc (.cells #[.slice (some ⟨W2.heap.size, 0, none⟩) 1 1] 61)).alloc (.cells #[.int .i64 0, .int .i64 0, .int .i64 9, .string ⟨#[]⟩, .int .u8 1, .string ⟨#[]⟩, .slice (some ⟨W2.heap.size + 1, 0, none⟩) 1 1] 45)) (W2.heap.size + 1) 61 #[.slice (some ⟨W2.heap.size, 0, none⟩) 1 1]) := (Blk.new' (by simp)).alloc _
  have HV3 : Hid (Blk (((W2.alloc (.cells #[.string ⟨#[83, 101, 101, 32, 121, 111, 117, 32, 115, 111, 111, 110]⟩, .int .u8 0, .bool false, .bool false, .string ⟨#[]⟩] 66)).alloc (.cells #[.slice (some ⟨W2.heap.size, 0, none⟩) 1 1] 61)).alloc (.cells #[.int .i64 0, .int .i64 0, .int .i64 9, .string ⟨#[]⟩, .int .u8 1, .string ⟨#[]⟩, .slice (some ⟨W2.heap.size + 1, 0, none⟩) 1 1] 45)) (W2.heap.size + 1 + 1) 45 #[.int .i64 0, .int .i64 0, .int .i64 9, .string ⟨#[]⟩, .int .u8 1, .string ⟨#[]⟩, .slice (some ⟨W2.heap.size + 1, 0, none⟩) 1 1]) := Blk.new' (by simp)
  have HB3 := Lib.hid (HB2.out.ext hx23)
  have HA3 := Lib.hid (HA2.out.ext hx23)
  obtain ⟨gr, hgr⟩ : ∃ gr, gr = W2.heap.size := ⟨_, rfl⟩
  rw [← hgr] at HR3 HW3 HV3 HX3 HB3 HA3 hx23 ⊢
  generalize hWg : (((W2.alloc (.cells #[.string ⟨#[83, 101, 101, 32, 121, 111, 117, 32, 115, 111, 111, 110]⟩, .int .u8 0, .bool false, .bool false, .string ⟨#[]⟩] 66)).alloc (.cells #[.slice (some ⟨gr, 0, none⟩) 1 1] 61)).alloc (.cells #[.int .i64 0, .int .i64 0, .int .i64 9, .string ⟨#[]⟩, .int .u8 1, .string ⟨#[]⟩, .slice (some ⟨gr + 1, 0, none⟩) 1 1] 45)) = W3 at *
  clear hWg HX2 HB2 HA2 hx23 hgr
  have hev : EvAt W3 a12e (some ⟨gr + 1, 0, none⟩) 1 1 := ⟨sl_1 ⟨some ⟨gr, 0, none⟩, 1, 1, HW3.out.cell 0, Nat.le_refl _, by decide, sl_1 ⟨HR3.out.cell 0, HR3.out.cell 1, HR3.out.cell 2, HR3.out.cell 3, HR3.out.cell 4⟩⟩, Nat.le_refl _, by decide⟩
  have HIn := Lib.hid (fun w' (hx : Ext W3 w') => DInsert_any a12d2 ⟨ra, rn, rc, ea, en1, ec, ca, cn, cc⟩ a12e (some ⟨gr + 1, 0, none⟩) 1 1 w' (HEn.out.ext (HX3.out.trans hx)) (a12_at (HA3.out.ext hx)) a12_fit (by simp [a12d] at hrl; simp only; omega) (by simp [a12d] at hrl; simp only; omega) (by simp [a12d] at hel; simp only; omega) (by simp [a12d] at hcl; simp only; omega) (hev.ext hx) a12_small)
  rw [a12_ins] at HIn
  unfold DIEPost Doc.cells Ev.cells a12d2 a12e at HIn
  dsimp only at HIn
  clear hev hrl hel hcl HR3 HW3 HA3
  go_wp2_with (first | (refine wpList_loadB rfl 39 (.tmp 1) rfl gd 39 _ _ (by exact rfl) (by exact HB3.out) Tryd.underlying39 rfl (by exact size_docI) ?_) | (refine wpList_loadB rfl 45 (.tmp 3) rfl (gr + 1 + 1) 45 _ _ (by exact rfl) (by exact HV3.out) Tryd.underlying45 rfl (by exact size_event) ?_))
  refine (HIn.out _ (Ext.refl _)).mono ?_
  rintro en w4 ⟨⟨ra2, rn2, rc2, ea2, en2, ec2, ca2, cn2, cc2⟩, rfl, -, hx4⟩
  dsimp only
  have HX4 := Lib.hid (HX3.out.trans hx4)
  clear hx4 HIn HX3 HB3 HV3
  generalize (Doc.insD _ _).title = dt1
  generalize (Doc.insD _ _).lang = dt2
  generalize (Doc.insD _ _).rate = dt3
  generalize (Doc.insD _ _).drop = dt4
  generalize (Doc.insD _ _).last = dt5
  have HX5 : Hid (Ext w ((w4.alloc (.cells #[.string dt1, .string dt2, .int .u8 dt3, .bool dt4, .int .i64 dt5, .slice ra2 rn2 rc2, .slice ea2 en2 ec2, .slice ca2 cn2 cc2] 39)).alloc (.cells #[.int .i64 0, .int .i64 0, .int .i64 4, .int .i64 7, .string ⟨#[]⟩, .string ⟨#[]⟩, .bool false, .bool false] 31))) := (HX4.out.alloc _).alloc _
  have HB5 : Hid (Blk ((w4.alloc (.cells #[.string dt1, .string dt2, .int .u8 dt3, .bool dt4, .int .i64 dt5, .slice ra2 rn2 rc2, .slice ea2 en2 ec2, .slice ca2 cn2 cc2] 39)).alloc (.cells #[.int .i64 0, .int .i64 0, .int .i64 4, .int .i64 7, .string ⟨#[]⟩, .string ⟨#[]⟩, .bool false, .bool false] 31)) (w4.heap.size + 1) 31 #[.int .i64 0, .int .i64 0, .int .i64 4, .int .i64 7, .string ⟨#[]⟩, .string ⟨#[]⟩, .bool false, .bool false]) := Blk.new' (by simp)
  go_upto_region 6 with fail
  obtain ⟨gc, hgc⟩ : ∃ gc, gc = w4.heap.size + 1 := ⟨_, rfl⟩
  rw [← hgc] at HB5 ⊢
  generalize hWg : ((w4.alloc (.cells #[.string dt1, .string dt2, .int .u8 dt3, .bool dt4, .int .i64 dt5, .slice ra2 rn2 rc2, .slice ea2 en2 ec2, .slice ca2 cn2 cc2] 39)).alloc (.cells #[.int .i64 0, .int .i64 0, .int .i64 4, .int .i64 7, .string ⟨#[]⟩, .string ⟨#[]⟩, .bool false, .bool false] 31)) = W5 at *
  clear hWg HX4 hgc
  go_wp2_with (refine wpList_loadB rfl 31 (.tmp 7) rfl gc 31 _ _ (by exact rfl) (by exact HB5.out) Tryd.underlying31 rfl (by exact size_comI) ?_)
  refine (HF1.out _).mono ?_
  rintro en w_1 ⟨rfl, hx_2⟩
  have HX_3 := Lib.hid (HX5.out.trans hx_2)
  have HB_4 := Lib.hid (HB5.out.ext hx_2)
  clear hx_2 HX5 HB5
  have HB_5 := Lib.hid (Blk.new w_1 31 #[.int .i64 0, .int .i64 0, .int .i64 11, .int .i64 14, .string ⟨#[]⟩, .string ⟨#[]⟩, .bool false, .bool false])
  have ha_6 := (Ext.refl w_1).alloc (.cells #[.int .i64 0, .int .i64 0, .int .i64 11, .int .i64 14, .string ⟨#[]⟩, .string ⟨#[]⟩, .bool false, .bool false] 31)
  have HX_7 := Lib.hid (HX_3.out.trans ha_6)
  have HB_8 := Lib.hid (HB_4.out.ext ha_6)
  clear ha_6 HX_3 HB_4
  go_wp2_with (refine wpList_loadB rfl 31 (.tmp 7) rfl gc 31 _ _ (by exact rfl) (by exact HB_8.out) Tryd.underlying31 rfl (by exact size_comI) ?_)
  refine (HF2.out _).mono ?_
  rintro en w_9 ⟨rfl, hx_10⟩
  have HX_11 := Lib.hid (HX_7.out.trans hx_10)
  have HB_12 := Lib.hid (HB_8.out.ext hx_10)
  have HB_13 := Lib.hid (HB_5.out.ext hx_10)
  clear hx_10 HX_7 HB_8 HB_5
  have HB_14 := Lib.hid (Blk.new w_9 31 #[.int .i64 0, .int .i64 0, .int .i64 0, .int .i64 0, .string ⟨#[]⟩, .string ⟨#[]⟩, .bool false, .bool true])
  have ha_15 := (Ext.refl w_9).alloc (.cells #[.int .i64 0, .int .i64 0, .int .i64 0, .int .i64 0, .string ⟨#[]⟩, .string ⟨#[]⟩, .bool false, .bool true] 31)
  have HX_16 := Lib.hid (HX_11.out.trans ha_15)
  have HB_17 := Lib.hid (HB_12.out.ext ha_15)
  have HB_18 := Lib.hid (HB_13.out.ext ha_15)
  clear ha_15 HX_11 HB_12 HB_13
  go_wp2_with (refine wpList_loadB rfl 31 (.tmp 7) rfl gc 31 _ _ (by exact rfl) (by exact HB_17.out) Tryd.underlying31 rfl (by exact size_comI) ?_)
  refine (HF3.out _).mono ?_
  rintro en w_19 ⟨rfl, hx_20⟩
  have HX_21 := Lib.hid (HX_16.out.trans hx_20)
  have HB_22 := Lib.hid (HB_17.out.ext hx_20)
  have HB_23 := Lib.hid (HB_18.out.ext hx_20)
  have HB_24 := Lib.hid (HB_14.out.ext hx_20)
  clear hx_20 HX_16 HB_17 HB_18 HB_14
  have HB_25 := Lib.hid (Blk.new w_19 31 #[.int .i64 0, .int .i64 0, .int .i64 4, .int .i64 7, .string ⟨#[]⟩, .string ⟨#[]⟩, .bool false, .bool false])
  have ha_26 := (Ext.refl w_19).alloc (.cells #[.int .i64 0, .int .i64 0, .int .i64 4, .int .i64 7, .string ⟨#[]⟩, .string ⟨#[]⟩, .bool false, .bool false] 31)
  have HX_27 := Lib.hid (HX_21.out.trans ha_26)
  have HB_28 := Lib.hid (HB_22.out.ext ha_26)
  have HB_29 := Lib.hid (HB_23.out.ext ha_26)
  have HB_30 := Lib.hid (HB_24.out.ext ha_26)
  clear ha_26 HX_21 HB_22 HB_23 HB_24
  clear HB_28
  have hc_31 := fun o => HB_29.out.cell o
  have hc_32 := fun o => HB_30.out.cell o
  have hc_33 := fun o => HB_25.out.cell o
  go_wp2_with fail
  clear hc_31 hc_32 hc_33
  go_ret
  exact ⟨by first | rfl | simp, HX_27.out⟩
end Go.Proofs.YtagfedbdakmlgaaDoor
