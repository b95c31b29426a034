/- Laid together: The walks of the reference's Common, MoveFrom, MoveTo, Move. Arguments opened: what every seat needs; the environment out of the row's list; what the frame of a law asks behind the call. Events among the arguments, opened; the environment out of the row's list; what the frame of a law asks behind the call. Arguments opened, with their bulk: what the second form's bound gives. -/
import Derived.Test.YtbfaghgjbipilaaDoorPk14
import Derived.Test.YtbfaghgjbipilaaDoorPk13
import Derived.Test.YtbfaghgjbipilaaDoorPk11
import Derived.Test.YtbfaghgjbipilaaDoorPk01
import Derived.Test.YtbfaghgjbipilaaDoorShelf
import Derived.Lib.LaidU8T
import Derived.Deep.DeepHandedRow
import Derived.Lib.LaidTab
import Derived.Test.YtbfaghgjbipilaaDoorPk03
import Derived.Test.YtbfaghgjbipilaaDoorPk09

/-! MoveR -/
namespace Go.Proofs.YtbfaghgjbipilaaDoor
set_option linter.unusedVariables false
set_option linter.unusedSimpArgs false
open Go.RowKit

set_option maxRecDepth 100000 in
set_option maxHeartbeats 8000000 in
theorem R12Common_any (before after : ByteArray) (w : World) (hb : before.size ≤ 35184372088831) (ha : after.size ≤ 35184372088831) :
    Calls Tryd.prog 29 #[.string before, .string after] w fun en w' => en = .returned (.tuple #[.int .i64 ((runes before 0).length : Int), .int .i64 ((runes after 0).length : Int), .int .i64 (Mv.pre (runes before 0) (runes after 0) : Int), .int .i64 (Mv.suf (runes before 0) (runes after 0) (Mv.pre (runes before 0) (runes after 0)) : Int)]) ∧ Ext w w' := by
  have HRa := Lib.hid (fun w' => R12runes_any before w' hb)
  have HRb := Lib.hid (fun w' => R12runes_any after w' ha)
  have hna := runes_len before
  have hnb := runes_len after
  unfold RunesPost at HRa HRb
  generalize runes before 0 = a at *
  generalize runes after 0 = b at *
  go_enter Tryd.func29, Tryd.ntmps29
  go_wp2_with fail
  refine (HRa.out _).mono ?_
  rintro en w1 ⟨A, n, c1, rfl, hat1, hc1, hx1⟩
  go_wp2_with fail
  refine (HRb.out _).mono ?_
  rintro en W ⟨B, m, c2, rfl, hat2, hc2, hx2⟩
  have HXW := Lib.hid (hx1.trans hx2)
  have HA := Lib.hid (hat1.ext hx2)
  have HBr := Lib.hid hat2
  have HLa := Lib.hid hat1.len
  have HLb := Lib.hid hat2.len
  have hn9 : n ≤ 35184372088831 := by have := hat1.len; omega
  have hm9 : m ≤ 35184372088831 := by have := hat2.len; omega
  clear hx1 hx2 hat1 hat2 hna hnb HRa HRb
  go_wp2_with fail
  have hpl := Mv.pre_le a b
  have hsl := Mv.suf_le a b (Mv.pre a b)
  have hla := HLa.out
  have hlb := HLb.out
  obtain ⟨P0, hP0⟩ : ∃ P0, P0 = Mv.pre a b := ⟨_, rfl⟩
  obtain ⟨S0, hS0⟩ : ∃ S0, S0 = Mv.suf a b (Mv.pre a b) := ⟨_, rfl⟩
  have hp1 : P0 ≤ n ∧ P0 ≤ m := by omega
  have hs1 : P0 + S0 ≤ n ∧ P0 + S0 ≤ m := by rw [hP0, hS0]; omega
  have HP0 := Lib.hid hP0
  have HS0 := Lib.hid hS0
  clear hpl hsl hP0 hS0 hla hlb
  go_loopw [6] (fun v wr => PreRel W a b v wr) (fun v _ => n - (intOf v).toNat)
  case atStart => exact ⟨0, Nat.zero_le _, rfl, Ext.refl _⟩
  case round =>
    obtain ⟨k, hk, rfl, hx⟩ := hrel
    have HX := Lib.hid hx
    have HK := Lib.hid hk
    have hkP : k ≤ P0 := by rw [HP0.out]; exact hk
    clear hk hx
    by_cases hlt : k < n ∧ k < m
    · obtain ⟨hn1, hm1⟩ := hlt
      obtain ⟨b1, o1, x, hA1, hx1, c1⟩ := (HA.out.ext HX.out).cell hn1
      obtain ⟨b2, o2, y, hA2, hx2, c2⟩ := (HBr.out.ext HX.out).cell hm1
      subst hA1 hA2
      have hmn : (k : Int) < min (n : Int) (m : Int) := by omega
      have hn1i : (k : Int) < (n : Int) := by omega
      have hm1i : (k : Int) < (m : Int) := by omega
      have hk0 : (0 : Int) ≤ (k : Int) := by omega
      have fc1 := fun (y : EW wr) => y.ext.cell c1
      have fc2 := fun (y : EW wr) => y.ext.cell c2
      clear c1 c2
      by_cases he : x = y
      · have heb : (x == y) = true := by simpa using he
        have HN := Lib.hid (Mv.pre_step HK.out hx1 hx2 he)
        clear hx1 hx2 he
        go_wp2_with fail
        refine wp_region_ew wr (Ext.refl _) (by kernel_rfl) (by kernel_rfl) ?_
        repeat (go_big_quiet_step ((fail)))
        refine wpQuiet_nil ?_
        rintro w9 ⟨⟨_, hx9⟩, rfl⟩
        clear fc1 fc2
        go_wp2_with fail
        exact ⟨⟨k + 1, HN.out, by go_num, HX.out.trans hx9⟩, by simp [intOf]; omega⟩
      have heb : (x == y) = false := by simpa using he
      have hkp : k = P0 := by rw [HP0.out]; exact Mv.pre_stop HK.out (.inr (.inr ⟨x, y, hx1, hx2, he⟩))
      subst hkp
      clear hx1 hx2 he
      go_wp2_with fail
      refine wp_region_ew wr (Ext.refl _) (by kernel_rfl) (by kernel_rfl) ?_
      repeat (go_big_quiet_step ((fail)))
      refine wpQuiet_nil ?_
      rintro w9 ⟨⟨_, hx9⟩, rfl⟩
      clear fc1 fc2 hmn hn1i hm1i hk0 heb
      have HX9 := Lib.hid (HX.out.trans hx9)
      clear hx9 HX
      go_wp2_with fail
      obtain ⟨wo, rfl⟩ : ∃ wo : World, wo = w9 := ⟨_, rfl⟩
      go_loopw [7] (fun v wr => SufRel wo a b v wr) (fun v _ => n - (intOf v).toNat)
      case atStart => exact ⟨0, Nat.zero_le _, rfl, Ext.refl _⟩
      case round =>
        obtain ⟨j, hj, rfl, hx⟩ := hrel
        have HXj := Lib.hid (HX9.out.trans hx)
        have HXo := Lib.hid hx
        have HJ := Lib.hid hj
        have hjS : j ≤ S0 := by rw [HS0.out]; exact hj
        clear hj hx
        have hj0 : (0 : Int) ≤ (j : Int) := by omega
        by_cases hlt2 : j < n - k ∧ j < m - k
        · obtain ⟨hn2, hm2⟩ := hlt2
          obtain ⟨b1, o1, x, hA1, hx1, c1⟩ := (HA.out.ext HXj.out).cell (i := n - 1 - j) (by omega)
          obtain ⟨b2, o2, y, hA2, hx2, c2⟩ := (HBr.out.ext HXj.out).cell (i := m - 1 - j) (by omega)
          have HA1 := Lib.hid hA1
          have HA2 := Lib.hid hA2
          clear hA1 hA2
          have hmn : (j : Int) < min (n : Int) (m : Int) - (k : Int) := by omega
          have hd1 : (j : Int) < (n : Int) - (k : Int) := by omega
          have hd2 : (j : Int) < (m : Int) - (k : Int) := by omega
          have hi1 : (n : Int) - 1 - (j : Int) = ((n - 1 - j : Nat) : Int) := by omega
          have hi2 : (m : Int) - 1 - (j : Int) = ((m - 1 - j : Nat) : Int) := by omega
          have hi3 : ((n : Int) - 1 - (j : Int)).toNat = n - 1 - j := by omega
          have hi4 : ((m : Int) - 1 - (j : Int)).toNat = m - 1 - j := by omega
          have hi5 : (0 : Int) ≤ (n : Int) - 1 - (j : Int) ∧ (n : Int) - 1 - (j : Int) < (n : Int) := by omega
          have hi6 : (0 : Int) ≤ (m : Int) - 1 - (j : Int) ∧ (m : Int) - 1 - (j : Int) < (m : Int) := by omega
          obtain ⟨hi7, hi8⟩ := hi5
          obtain ⟨hi9, hi10⟩ := hi6
          have hi11 : n - 1 - j < n := by omega
          have hi12 : m - 1 - j < m := by omega
          have fc1 := fun (y : EW wr) => y.ext.cell c1
          have fc2 := fun (y : EW wr) => y.ext.cell c2
          clear c1 c2
          have hA1 := HA1.out
          have hA2 := HA2.out
          by_cases he : x = y
          · have heb : (x == y) = true := by simpa using he
            have HN := Lib.hid (Mv.suf_step HJ.out (by have := HLa.out; have := HP0.out; omega) (by have := HLb.out; have := HP0.out; omega) (by rw [HLa.out]; exact hx1) (by rw [HLb.out]; exact hx2) he)
            clear hx1 hx2 he
            first | subst hA1 | skip
            first | subst hA2 | skip
            go_wp2_with fail
            refine wp_region_ew wr (Ext.refl _) (by kernel_rfl) (by kernel_rfl) ?_
            repeat (go_big_quiet_step ((fail)))
            refine wpQuiet_nil ?_
            rintro w9 ⟨⟨_, hx9⟩, rfl⟩
            clear fc1 fc2
            go_wp2_with fail
            exact ⟨⟨j + 1, HN.out, by go_num, HXo.out.trans hx9⟩, by simp [intOf]; omega⟩
          have heb : (x == y) = false := by simpa using he
          have hjs : j = S0 := by
            rw [HS0.out]
            exact Mv.suf_stop HJ.out (.inr (.inr ⟨x, y, by have := HLa.out; have := HP0.out; omega, by have := HLb.out; have := HP0.out; omega, by rw [HLa.out]; exact hx1, by rw [HLb.out]; exact hx2, he⟩))
          subst hjs
          clear hx1 hx2 he
          first | subst hA1 | skip
          first | subst hA2 | skip
          go_wp2_with fail
          refine wp_region_ew wr (Ext.refl _) (by kernel_rfl) (by kernel_rfl) ?_
          repeat (go_big_quiet_step ((fail)))
          refine wpQuiet_nil ?_
          rintro w9 ⟨⟨_, hx9⟩, rfl⟩
          clear fc1 fc2 hmn hd1 hd2 hi1 hi2 hi3 hi4 hi7 hi8 hi9 hi10 hi11 hi12 heb
          have HXe := Lib.hid (HXj.out.trans hx9)
          clear hx9 HXj HXo
          go_wp2_with fail
          refine bodyPost_ret (v := .tuple #[.int .i64 (n : Int), .int .i64 (m : Int), .int .i64 (k : Int), .int .i64 (j : Int)]) ?_ rfl ⟨?_, HXW.out.trans HXe.out⟩
          · simp [results, Tryd.results29, go_sem]
          · rw [HLa.out, HLb.out, ← HS0.out, ← HP0.out]
        have hjs : j = S0 := by
          rw [HS0.out]
          refine Mv.suf_stop HJ.out ?_
          have h1 := HLa.out
          have h2 := HLb.out
          have h3 := HP0.out
          by_cases h : j < n - k
          · exact .inr (.inl (by omega))
          · exact .inl (by omega)
        subst hjs
        have hmn : decide ((j : Int) < min (n : Int) (m : Int) - (k : Int)) = false := decide_eq_false (by omega)
        by_cases hn1 : j < n - k
        · have hn1i : (j : Int) < (n : Int) - (k : Int) := by omega
          have hm1i : decide ((j : Int) < (m : Int) - (k : Int)) = false := decide_eq_false (by omega)
          clear hn1
          go_wp2_with fail
          refine wp_region_ew wr (Ext.refl _) (by kernel_rfl) (by kernel_rfl) ?_
          repeat (go_big_quiet_step ((fail)))
          refine wpQuiet_nil ?_
          rintro w9 ⟨⟨_, hx9⟩, rfl⟩
          clear hmn hlt2
          have HXe := Lib.hid (HXj.out.trans hx9)
          clear hx9 HXj HXo
          go_wp2_with fail
          refine bodyPost_ret (v := .tuple #[.int .i64 (n : Int), .int .i64 (m : Int), .int .i64 (k : Int), .int .i64 (j : Int)]) ?_ rfl ⟨?_, HXW.out.trans HXe.out⟩
          · simp [results, Tryd.results29, go_sem]
          · rw [HLa.out, HLb.out, ← HS0.out, ← HP0.out]
        · have hn1i : decide ((j : Int) < (n : Int) - (k : Int)) = false := decide_eq_false (by omega)
          clear hn1
          go_wp2_with fail
          refine wp_region_ew wr (Ext.refl _) (by kernel_rfl) (by kernel_rfl) ?_
          repeat (go_big_quiet_step ((fail)))
          refine wpQuiet_nil ?_
          rintro w9 ⟨⟨_, hx9⟩, rfl⟩
          clear hmn hlt2
          have HXe := Lib.hid (HXj.out.trans hx9)
          clear hx9 HXj HXo
          go_wp2_with fail
          refine bodyPost_ret (v := .tuple #[.int .i64 (n : Int), .int .i64 (m : Int), .int .i64 (k : Int), .int .i64 (j : Int)]) ?_ rfl ⟨?_, HXW.out.trans HXe.out⟩
          · simp [results, Tryd.results29, go_sem]
          · rw [HLa.out, HLb.out, ← HS0.out, ← HP0.out]
    have hkp : k = P0 := by
      rw [HP0.out]
      refine Mv.pre_stop HK.out ?_
      have h1 := HLa.out
      have h2 := HLb.out
      by_cases h : k < n
      · exact .inr (.inl (by omega))
      · exact .inl (by omega)
    subst hkp
    have hmn : decide ((k : Int) < min (n : Int) (m : Int)) = false := decide_eq_false (by omega)
    have w9x := HX.out
    go_wp2_with fail
    by_cases hn1 : k < n
    · have hn1i : decide (k < n) = true := decide_eq_true (by omega)
      have hm1i : decide (k < m) = false := decide_eq_false (by omega)
      clear hn1
      refine wp_region_ew wr (Ext.refl _) (by kernel_rfl) (by kernel_rfl) ?_
      repeat (go_big_quiet_step ((fail)))
      refine wpQuiet_nil ?_
      rintro w9 ⟨⟨_, hx9⟩, rfl⟩
      clear hmn w9x hlt
      have HX9 := Lib.hid (HX.out.trans hx9)
      clear hx9 HX
      go_wp2_with fail
      obtain ⟨wo, rfl⟩ : ∃ wo : World, wo = w9 := ⟨_, rfl⟩
      go_loopw [7] (fun v wr => SufRel wo a b v wr) (fun v _ => n - (intOf v).toNat)
      case atStart => exact ⟨0, Nat.zero_le _, rfl, Ext.refl _⟩
      case round =>
        obtain ⟨j, hj, rfl, hx⟩ := hrel
        have HXj := Lib.hid (HX9.out.trans hx)
        have HXo := Lib.hid hx
        have HJ := Lib.hid hj
        have hjS : j ≤ S0 := by rw [HS0.out]; exact hj
        clear hj hx
        have hj0 : (0 : Int) ≤ (j : Int) := by omega
        by_cases hlt2 : j < n - k ∧ j < m - k
        · obtain ⟨hn2, hm2⟩ := hlt2
          obtain ⟨b1, o1, x, hA1, hx1, c1⟩ := (HA.out.ext HXj.out).cell (i := n - 1 - j) (by omega)
          obtain ⟨b2, o2, y, hA2, hx2, c2⟩ := (HBr.out.ext HXj.out).cell (i := m - 1 - j) (by omega)
          have HA1 := Lib.hid hA1
          have HA2 := Lib.hid hA2
          clear hA1 hA2
          have hmn : (j : Int) < min (n : Int) (m : Int) - (k : Int) := by omega
          have hd1 : (j : Int) < (n : Int) - (k : Int) := by omega
          have hd2 : (j : Int) < (m : Int) - (k : Int) := by omega
          have hi1 : (n : Int) - 1 - (j : Int) = ((n - 1 - j : Nat) : Int) := by omega
          have hi2 : (m : Int) - 1 - (j : Int) = ((m - 1 - j : Nat) : Int) := by omega
          have hi3 : ((n : Int) - 1 - (j : Int)).toNat = n - 1 - j := by omega
          have hi4 : ((m : Int) - 1 - (j : Int)).toNat = m - 1 - j := by omega
          have hi5 : (0 : Int) ≤ (n : Int) - 1 - (j : Int) ∧ (n : Int) - 1 - (j : Int) < (n : Int) := by omega
          have hi6 : (0 : Int) ≤ (m : Int) - 1 - (j : Int) ∧ (m : Int) - 1 - (j : Int) < (m : Int) := by omega
          obtain ⟨hi7, hi8⟩ := hi5
          obtain ⟨hi9, hi10⟩ := hi6
          have hi11 : n - 1 - j < n := by omega
          have hi12 : m - 1 - j < m := by omega
          have fc1 := fun (y : EW wr) => y.ext.cell c1
          have fc2 := fun (y : EW wr) => y.ext.cell c2
          clear c1 c2
          have hA1 := HA1.out
          have hA2 := HA2.out
          by_cases he : x = y
          · have heb : (x == y) = true := by simpa using he
            have HN := Lib.hid (Mv.suf_step HJ.out (by have := HLa.out; have := HP0.out; omega) (by have := HLb.out; have := HP0.out; omega) (by rw [HLa.out]; exact hx1) (by rw [HLb.out]; exact hx2) he)
            clear hx1 hx2 he
            first | subst hA1 | skip
            first | subst hA2 | skip
            go_wp2_with fail
            refine wp_region_ew wr (Ext.refl _) (by kernel_rfl) (by kernel_rfl) ?_
            repeat (go_big_quiet_step ((fail)))
            refine wpQuiet_nil ?_
            rintro w9 ⟨⟨_, hx9⟩, rfl⟩
            clear fc1 fc2
            go_wp2_with fail
            exact ⟨⟨j + 1, HN.out, by go_num, HXo.out.trans hx9⟩, by simp [intOf]; omega⟩
          have heb : (x == y) = false := by simpa using he
          have hjs : j = S0 := by
            rw [HS0.out]
            exact Mv.suf_stop HJ.out (.inr (.inr ⟨x, y, by have := HLa.out; have := HP0.out; omega, by have := HLb.out; have := HP0.out; omega, by rw [HLa.out]; exact hx1, by rw [HLb.out]; exact hx2, he⟩))
          subst hjs
          clear hx1 hx2 he
          first | subst hA1 | skip
          first | subst hA2 | skip
          go_wp2_with fail
          refine wp_region_ew wr (Ext.refl _) (by kernel_rfl) (by kernel_rfl) ?_
          repeat (go_big_quiet_step ((fail)))
          refine wpQuiet_nil ?_
          rintro w9 ⟨⟨_, hx9⟩, rfl⟩
          clear fc1 fc2 hmn hd1 hd2 hi1 hi2 hi3 hi4 hi7 hi8 hi9 hi10 hi11 hi12 heb
          have HXe := Lib.hid (HXj.out.trans hx9)
          clear hx9 HXj HXo
          go_wp2_with fail
          refine bodyPost_ret (v := .tuple #[.int .i64 (n : Int), .int .i64 (m : Int), .int .i64 (k : Int), .int .i64 (j : Int)]) ?_ rfl ⟨?_, HXW.out.trans HXe.out⟩
          · simp [results, Tryd.results29, go_sem]
          · rw [HLa.out, HLb.out, ← HS0.out, ← HP0.out]
        have hjs : j = S0 := by
          rw [HS0.out]
          refine Mv.suf_stop HJ.out ?_
          have h1 := HLa.out
          have h2 := HLb.out
          have h3 := HP0.out
          by_cases h : j < n - k
          · exact .inr (.inl (by omega))
          · exact .inl (by omega)
        subst hjs
        have hmn : decide ((j : Int) < min (n : Int) (m : Int) - (k : Int)) = false := decide_eq_false (by omega)
        by_cases hn1 : j < n - k
        · have hn1i : (j : Int) < (n : Int) - (k : Int) := by omega
          have hm1i : decide ((j : Int) < (m : Int) - (k : Int)) = false := decide_eq_false (by omega)
          clear hn1
          go_wp2_with fail
          refine wp_region_ew wr (Ext.refl _) (by kernel_rfl) (by kernel_rfl) ?_
          repeat (go_big_quiet_step ((fail)))
          refine wpQuiet_nil ?_
          rintro w9 ⟨⟨_, hx9⟩, rfl⟩
          clear hmn hlt2
          have HXe := Lib.hid (HXj.out.trans hx9)
          clear hx9 HXj HXo
          go_wp2_with fail
          refine bodyPost_ret (v := .tuple #[.int .i64 (n : Int), .int .i64 (m : Int), .int .i64 (k : Int), .int .i64 (j : Int)]) ?_ rfl ⟨?_, HXW.out.trans HXe.out⟩
          · simp [results, Tryd.results29, go_sem]
          · rw [HLa.out, HLb.out, ← HS0.out, ← HP0.out]
        · have hn1i : decide ((j : Int) < (n : Int) - (k : Int)) = false := decide_eq_false (by omega)
          clear hn1
          go_wp2_with fail
          refine wp_region_ew wr (Ext.refl _) (by kernel_rfl) (by kernel_rfl) ?_
          repeat (go_big_quiet_step ((fail)))
          refine wpQuiet_nil ?_
          rintro w9 ⟨⟨_, hx9⟩, rfl⟩
          clear hmn hlt2
          have HXe := Lib.hid (HXj.out.trans hx9)
          clear hx9 HXj HXo
          go_wp2_with fail
          refine bodyPost_ret (v := .tuple #[.int .i64 (n : Int), .int .i64 (m : Int), .int .i64 (k : Int), .int .i64 (j : Int)]) ?_ rfl ⟨?_, HXW.out.trans HXe.out⟩
          · simp [results, Tryd.results29, go_sem]
          · rw [HLa.out, HLb.out, ← HS0.out, ← HP0.out]
    · have hn1i : decide (k < n) = false := decide_eq_false (by omega)
      clear hn1
      refine wp_region_ew wr (Ext.refl _) (by kernel_rfl) (by kernel_rfl) ?_
      repeat (go_big_quiet_step ((fail)))
      refine wpQuiet_nil ?_
      rintro w9 ⟨⟨_, hx9⟩, rfl⟩
      clear hmn w9x hlt
      have HX9 := Lib.hid (HX.out.trans hx9)
      clear hx9 HX
      go_wp2_with fail
      obtain ⟨wo, rfl⟩ : ∃ wo : World, wo = w9 := ⟨_, rfl⟩
      go_loopw [7] (fun v wr => SufRel wo a b v wr) (fun v _ => n - (intOf v).toNat)
      case atStart => exact ⟨0, Nat.zero_le _, rfl, Ext.refl _⟩
      case round =>
        obtain ⟨j, hj, rfl, hx⟩ := hrel
        have HXj := Lib.hid (HX9.out.trans hx)
        have HXo := Lib.hid hx
        have HJ := Lib.hid hj
        have hjS : j ≤ S0 := by rw [HS0.out]; exact hj
        clear hj hx
        have hj0 : (0 : Int) ≤ (j : Int) := by omega
        by_cases hlt2 : j < n - k ∧ j < m - k
        · obtain ⟨hn2, hm2⟩ := hlt2
          obtain ⟨b1, o1, x, hA1, hx1, c1⟩ := (HA.out.ext HXj.out).cell (i := n - 1 - j) (by omega)
          obtain ⟨b2, o2, y, hA2, hx2, c2⟩ := (HBr.out.ext HXj.out).cell (i := m - 1 - j) (by omega)
          have HA1 := Lib.hid hA1
          have HA2 := Lib.hid hA2
          clear hA1 hA2
          have hmn : (j : Int) < min (n : Int) (m : Int) - (k : Int) := by omega
          have hd1 : (j : Int) < (n : Int) - (k : Int) := by omega
          have hd2 : (j : Int) < (m : Int) - (k : Int) := by omega
          have hi1 : (n : Int) - 1 - (j : Int) = ((n - 1 - j : Nat) : Int) := by omega
          have hi2 : (m : Int) - 1 - (j : Int) = ((m - 1 - j : Nat) : Int) := by omega
          have hi3 : ((n : Int) - 1 - (j : Int)).toNat = n - 1 - j := by omega
          have hi4 : ((m : Int) - 1 - (j : Int)).toNat = m - 1 - j := by omega
          have hi5 : (0 : Int) ≤ (n : Int) - 1 - (j : Int) ∧ (n : Int) - 1 - (j : Int) < (n : Int) := by omega
          have hi6 : (0 : Int) ≤ (m : Int) - 1 - (j : Int) ∧ (m : Int) - 1 - (j : Int) < (m : Int) := by omega
          obtain ⟨hi7, hi8⟩ := hi5
          obtain ⟨hi9, hi10⟩ := hi6
          have hi11 : n - 1 - j < n := by omega
          have hi12 : m - 1 - j < m := by omega
          have fc1 := fun (y : EW wr) => y.ext.cell c1
          have fc2 := fun (y : EW wr) => y.ext.cell c2
          clear c1 c2
          have hA1 := HA1.out
          have hA2 := HA2.out
          by_cases he : x = y
          · have heb : (x == y) = true := by simpa using he
            have HN := Lib.hid (Mv.suf_step HJ.out (by have := HLa.out; have := HP0.out; omega) (by have := HLb.out; have := HP0.out; omega) (by rw [HLa.out]; exact hx1) (by rw [HLb.out]; exact hx2) he)
            clear hx1 hx2 he
            first | subst hA1 | skip
            first | subst hA2 | skip
            go_wp2_with fail
            refine wp_region_ew wr (Ext.refl _) (by kernel_rfl) (by kernel_rfl) ?_
            repeat (go_big_quiet_step ((fail)))
            refine wpQuiet_nil ?_
            rintro w9 ⟨⟨_, hx9⟩, rfl⟩
            clear fc1 fc2
            go_wp2_with fail
            exact ⟨⟨j + 1, HN.out, by go_num, HXo.out.trans hx9⟩, by simp [intOf]; omega⟩
          have heb : (x == y) = false := by simpa using he
          have hjs : j = S0 := by
            rw [HS0.out]
            exact Mv.suf_stop HJ.out (.inr (.inr ⟨x, y, by have := HLa.out; have := HP0.out; omega, by have := HLb.out; have := HP0.out; omega, by rw [HLa.out]; exact hx1, by rw [HLb.out]; exact hx2, he⟩))
          subst hjs
          clear hx1 hx2 he
          first | subst hA1 | skip
          first | subst hA2 | skip
          go_wp2_with fail
          refine wp_region_ew wr (Ext.refl _) (by kernel_rfl) (by kernel_rfl) ?_
          repeat (go_big_quiet_step ((fail)))
          refine wpQuiet_nil ?_
          rintro w9 ⟨⟨_, hx9⟩, rfl⟩
          clear fc1 fc2 hmn hd1 hd2 hi1 hi2 hi3 hi4 hi7 hi8 hi9 hi10 hi11 hi12 heb
          have HXe := Lib.hid (HXj.out.trans hx9)
          clear hx9 HXj HXo
          go_wp2_with fail
          refine bodyPost_ret (v := .tuple #[.int .i64 (n : Int), .int .i64 (m : Int), .int .i64 (k : Int), .int .i64 (j : Int)]) ?_ rfl ⟨?_, HXW.out.trans HXe.out⟩
          · simp [results, Tryd.results29, go_sem]
          · rw [HLa.out, HLb.out, ← HS0.out, ← HP0.out]
        have hjs : j = S0 := by
          rw [HS0.out]
          refine Mv.suf_stop HJ.out ?_
          have h1 := HLa.out
          have h2 := HLb.out
          have h3 := HP0.out
          by_cases h : j < n - k
          · exact .inr (.inl (by omega))
          · exact .inl (by omega)
        subst hjs
        have hmn : decide ((j : Int) < min (n : Int) (m : Int) - (k : Int)) = false := decide_eq_false (by omega)
        by_cases hn1 : j < n - k
        · have hn1i : (j : Int) < (n : Int) - (k : Int) := by omega
          have hm1i : decide ((j : Int) < (m : Int) - (k : Int)) = false := decide_eq_false (by omega)
          clear hn1
          go_wp2_with fail
          refine wp_region_ew wr (Ext.refl _) (by kernel_rfl) (by kernel_rfl) ?_
          repeat (go_big_quiet_step ((fail)))
          refine wpQuiet_nil ?_
          rintro w9 ⟨⟨_, hx9⟩, rfl⟩
          clear hmn hlt2
          have HXe := Lib.hid (HXj.out.trans hx9)
          clear hx9 HXj HXo
          go_wp2_with fail
          refine bodyPost_ret (v := .tuple #[.int .i64 (n : Int), .int .i64 (m : Int), .int .i64 (k : Int), .int .i64 (j : Int)]) ?_ rfl ⟨?_, HXW.out.trans HXe.out⟩
          · simp [results, Tryd.results29, go_sem]
          · rw [HLa.out, HLb.out, ← HS0.out, ← HP0.out]
        · have hn1i : decide ((j : Int) < (n : Int) - (k : Int)) = false := decide_eq_false (by omega)
          clear hn1
          go_wp2_with fail
          refine wp_region_ew wr (Ext.refl _) (by kernel_rfl) (by kernel_rfl) ?_
          repeat (go_big_quiet_step ((fail)))
          refine wpQuiet_nil ?_
          rintro w9 ⟨⟨_, hx9⟩, rfl⟩
          clear hmn hlt2
          have HXe := Lib.hid (HXj.out.trans hx9)
          clear hx9 HXj HXo
          go_wp2_with fail
          refine bodyPost_ret (v := .tuple #[.int .i64 (n : Int), .int .i64 (m : Int), .int .i64 (k : Int), .int .i64 (j : Int)]) ?_ rfl ⟨?_, HXW.out.trans HXe.out⟩
          · simp [results, Tryd.results29, go_sem]
          · rw [HLa.out, HLb.out, ← HS0.out, ← HP0.out]

set_option maxHeartbeats 400000 in
theorem R12MoveFrom_any (n m p s : Nat) (i : Int) (w : World) (h1 : n ≤ 35184372088831) (h2 : m ≤ 35184372088831) (h3 : p ≤ 35184372088831) (h4 : s ≤ 35184372088831) (h5 : -4611686018427387904 ≤ i) (h6 : i ≤ 4611686018427387904) :
    Calls Tryd.prog 30 #[.int .i64 (n : Int), .int .i64 (m : Int), .int .i64 (p : Int), .int .i64 (s : Int), .int .i64 i] w fun en w' => en = .returned (.int .i64 (Mv.from_ n m p s i)) ∧ Ext w w' := by
  by_cases c1 : (n : Int) - (s : Int) ≤ i
  · go_enter Tryd.func30, Tryd.ntmps30
    go_wp2_with fail
    go_ret
    exact ⟨ret_int (by unfold Mv.from_; repeat' split; all_goals omega), Ext.refl _⟩
  by_cases c2 : i < (p : Int)
  · go_enter Tryd.func30, Tryd.ntmps30
    go_wp2_with fail
    go_ret
    exact ⟨ret_int (by unfold Mv.from_; repeat' split; all_goals omega), Ext.refl _⟩
  go_enter Tryd.func30, Tryd.ntmps30
  go_wp2_with fail
  go_ret
  exact ⟨ret_int (by unfold Mv.from_; repeat' split; all_goals omega), Ext.refl _⟩

set_option maxHeartbeats 400000 in
theorem R12MoveTo_any (n m p s : Nat) (i : Int) (w : World) (h1 : n ≤ 35184372088831) (h2 : m ≤ 35184372088831) (h3 : p ≤ 35184372088831) (h4 : s ≤ 35184372088831) (h5 : -4611686018427387904 ≤ i) (h6 : i ≤ 4611686018427387904) :
    Calls Tryd.prog 31 #[.int .i64 (n : Int), .int .i64 (m : Int), .int .i64 (p : Int), .int .i64 (s : Int), .int .i64 i] w fun en w' => en = .returned (.int .i64 (Mv.to_ n m p s i)) ∧ Ext w w' := by
  by_cases c1 : i ≤ (p : Int)
  · go_enter Tryd.func31, Tryd.ntmps31
    go_wp2_with fail
    go_ret
    exact ⟨ret_int (by unfold Mv.to_; repeat' split; all_goals omega), Ext.refl _⟩
  by_cases c2 : (n : Int) - (s : Int) < i
  · go_enter Tryd.func31, Tryd.ntmps31
    go_wp2_with fail
    go_ret
    exact ⟨ret_int (by unfold Mv.to_; repeat' split; all_goals omega), Ext.refl _⟩
  go_enter Tryd.func31, Tryd.ntmps31
  go_wp2_with fail
  go_ret
  exact ⟨ret_int (by unfold Mv.to_; repeat' split; all_goals omega), Ext.refl _⟩
end Go.Proofs.YtbfaghgjbipilaaDoor

/-! OpenG -/
namespace Go.Proofs.YtbfaghgjbipilaaDoor
set_option linter.unusedVariables false
set_option linter.unusedSimpArgs false
open Go.RowKit Go.ChangeShapes Go.WideShapes Go.ChangeAt
set_option maxRecDepth 100000

theorem cells_string : Tryd.prog.cellsOf 9 = 1 := by kernel_rfl
theorem cells_int64 : Tryd.prog.cellsOf 2 = 1 := by kernel_rfl
theorem cells_int : Tryd.prog.cellsOf 3 = 1 := by kernel_rfl
theorem cells_bool : Tryd.prog.cellsOf 4 = 1 := by kernel_rfl
theorem cells_span : Tryd.prog.cellsOf 37 = 2 := by kernel_rfl
theorem Sl.all {α : Type} {C : World → Nat → Nat → α → Prop} {w : World} {size n : Nat} {A : Option Addr} {l : List α} {p : α → Prop} (h : Sl w size C A n l) (k : ∀ b o x, C w b o x → p x) : ∀ x ∈ l, p x := by
  intro x hx
  obtain ⟨i, hi⟩ := List.getElem?_of_mem hx
  have : i < n := by rw [← h.1]; exact (List.getElem?_eq_some_iff.1 hi).1
  obtain ⟨b, off, _, hc⟩ := h.2 (by omega)
  exact k _ _ _ (hc i x hi)

theorem open_span (W : World) : Opens Tryd.prog W 37 (fun cs (a : Int × Int) => cs = [.int .i64 a.1, .int .i64 a.2] ∧ (-9223372036854775808 ≤ a.1 ∧ a.1 ≤ 9223372036854775807) ∧ (-9223372036854775808 ≤ a.2 ∧ a.2 ≤ 9223372036854775807)) := by
  intro H enc fuel cs x h hw
  obtain ⟨hl, hf⟩ := Opens.fields Tryd.underlying37 h hw
  rw [cells_span] at hl
  obtain ⟨v0, v1, rfl⟩ := list_2 hl
  obtain ⟨a0, h0, s0⟩ := hf 0 _ rfl (Opens.int Tryd.underlying2)
  obtain ⟨a1, h1, s1⟩ := hf 1 _ rfl (Opens.int Tryd.underlying2)
  simp [cells_int64] at h0 h1
  subst h0 h1
  exact ⟨(a0, a1), rfl, bounds_i64 s0, bounds_i64 s1⟩
theorem agg_of_cells {v : Value} {W : World} {t : TypeId} {fs : Array Field} {b : Nat} (ht : Tryd.prog.underlying t = some (.struct fs)) (hv : Value.okWide Tryd.prog W .any b t v) : ∃ cs, v = .agg cs := by
  unfold Value.okWide at hv
  rw [ht] at hv
  cases v <;> first | exact ⟨_, rfl⟩ | simp at hv

/-- the tables, out of what the row lists -/
theorem u8extra : U8Extra Tryd.prog Tryd.laysValid_ren := ⟨by kernel_rfl, by kernel_rfl, by kernel_rfl, by kernel_rfl, by kernel_rfl, by kernel_rfl, by kernel_rfl⟩
theorem first_same : Rows.laid_unicode_utf8_first = Lib.firstData := by kernel_rfl
theorem accept_same : (Rows.laid_unicode_utf8_acceptRanges : DataW Unit) = Lib.acceptData := by kernel_rfl
theorem env_of {W : World} (h : laidMet Tryd.prog [("unicode/utf8.acceptRanges", Rows.laid_unicode_utf8_acceptRanges), ("unicode/utf8.first", Rows.laid_unicode_utf8_first)] W) (hs : W.ShapedOpen Tryd.prog) : Env W := by
  refine ⟨?_, ?_⟩
  · have h1 := Lib.laidMet.reads h (n := "unicode/utf8.first") (d := Rows.laid_unicode_utf8_first) (by simp)
    have h2 := Lib.laidMet.reads h (n := "unicode/utf8.acceptRanges") (d := Rows.laid_unicode_utf8_acceptRanges) (by simp)
    rw [first_same] at h1
    rw [accept_same] at h2
    exact utf8Tabs_of_readsT (U8Types.of196 Tryd.laysValid) u8extra h1 h2
  · obtain ⟨cs, hh, hz, hr⟩ := hs.1 2 #[.int .i64 0] 3 (of_decide_eq_true (by kernel_rfl)) (by kernel_rfl)
    obtain ⟨ts, hts, _, hall⟩ := hr (by kernel_rfl)
    have h1 : 0 < cs.size := by rw [hz]; decide
    have e : Tryd.prog.cellTypes Tryd.prog.depth 3 = some [3] := by kernel_rfl
    rw [e] at hts
    cases hts
    obtain ⟨u, hu', hok⟩ := hall 0 cs[0] (by simp [h1])
    have : u = 3 := by simpa using hu'.symm
    subst this
    have hcell : W.cell? ⟨2, 0, none⟩ = some cs[0] := by simp [World.cell?, hh, h1]
    rw [hcell]
    unfold Cell.ok at hok
    rw [Tryd.underlying3] at hok
    cases hv : cs[0] <;> rw [hv] at hok <;> first | (simp at hok; done) | skip
    rename_i k m
    simp at hok
    exact ⟨m, by rw [hok.1]⟩
theorem laidOut : laidOutB Tryd.prog = true := by kernel_rfl
theorem trodAll_ext {P : Program} (laidOut : laidOutB P = true) {H : Type} {enc : TypeId × Value → H} {W W' : World} (hx : Ext W W') {sp : Nat → Bool} : ∀ {ts : List TypeId} {vs : List Value} {ds : List (DataW H)} {ps : List MemPlace}, DataW.TrodAll enc P W 0 (fun _ => true) true ts vs ds ps →
    (ts.all fun t => P.readableRec t && decide (t < P.types.size)) = true → (∀ x ∈ ps, x.block < W.heap.size) → (∀ x ∈ ps, sp x.block = true) → DataW.TrodAll enc P W' 0 sp true ts vs ds ps
  | [], _, _, _, h, _, _, _ => by
    obtain ⟨rfl, rfl, rfl⟩ := trodAll_nil h
    exact rfl
  | t :: ts, _, _, _, h, ha, hlt, hsp => by
    obtain ⟨v, vs1, d, ds1, a, b, rfl, rfl, rfl, h1, h2⟩ := trodAll_cons h
    simp only [List.all_cons, Bool.and_eq_true, decide_eq_true_eq] at ha
    refine ⟨a, b, WideElems.Trod_stays laidOut ha.1.1 ha.1.2 h1 (fun x hx' => Below.same hx (hlt x (List.mem_append_left _ hx'))) (fun x hx' => hsp x (List.mem_append_left _ hx')), trodAll_ext laidOut hx h2 ha.2 (fun x hx' => hlt x (List.mem_append_right _ hx')) (fun x hx' => hsp x (List.mem_append_right _ hx')), rfl⟩

/-- what the row asks behind a call that answers true and has only made new memory -/
theorem post_true {H : Type} {enc : TypeId × Value → H} {f : Func} {s : ChangeSpec} {fresh handsOn : Bool} {W W' : World} {args : Array Value} {ds gs : List (DataW H)} {before : List MemPlace} (hW : DataW.Whole enc Tryd.prog f.params.toList s.vars false W args.toList ds gs before)
    (hv : s.vars = []) (hr : f.resultTypes = #[4]) (hts : (f.params.toList.all fun t => Tryd.prog.readableRec t && decide (t < Tryd.prog.types.size)) = true) (hres : (s.fn H (ds ++ gs)).results = [.lit (.bool true)]) (hargs : (s.fn H (ds ++ gs)).args = ds) (hvars : (s.fn H (ds ++ gs)).vars = [])
    (hx : Ext W W') : s.post enc Tryd.prog f false fresh handsOn false W args (.bool true) W' := by
  have hlt := hW.lt
  obtain ⟨p, q, hA, hV, rfl, hfz, hnd⟩ := hW
  rw [hv] at hV
  obtain ⟨rfl, rfl⟩ := trodVars_none hV
  have hlt' : ∀ x ∈ p, x.block < W.heap.size := fun x hx' => hlt x (by simpa using hx')
  have hA' : DataW.TrodAll enc Tryd.prog W' 0 (fun b => decide (b < W.heap.size)) true f.params.toList args.toList ds p := trodAll_ext laidOut hx hA hts hlt' (fun x hx' => by simpa using hlt' x hx')
  refine ⟨ds, [], p ++ [], [], p, [], ⟨p, [], hA, by rw [hv]; exact rfl, rfl, hfz, hnd⟩, ?_, by rw [hargs]; exact hA', by rw [hv, hvars]; exact rfl, Below.frame hx _, fun h => by cases h⟩
  rw [hr, hres]
  exact trodAll_cons_mk (shut_bool Tryd.underlying4 _) trodAll_mk0

/-- a world for the witness: the settled one, the two tables holding what the library lays -/
def layFirst : Obj → Obj
  | .cells _ t frozen => .cells (Lib.firstTab.map fun z => Value.int .u8 z).toArray t frozen
  | o => o
def layAccept : Obj → Obj
  | .cells _ t frozen => .cells ((List.range 16).flatMap fun i => [Value.int .u8 (Lib.accLo i : Int), Value.int .u8 (Lib.accHi i : Int)]).toArray t frozen
  | o => o
noncomputable def laidWorld (os : Os) : World :=
  { World.holding Tryd.prog os ⟨#[], #[], []⟩ with heap := ((World.holding Tryd.prog os ⟨#[], #[], []⟩).heap.modify 0 layFirst).modify 1 layAccept }
theorem own : ownKnob Tryd.prog.godebug = none := by kernel_rfl
end Go.Proofs.YtbfaghgjbipilaaDoor

/-! OpenE -/
namespace Go.Proofs.YtbfaghgjbipilaaDoor
set_option linter.unusedVariables false
set_option linter.unusedSimpArgs false
open Go.RowKit Go.ChangeShapes Go.WideShapes Go.ChangeAt
set_option maxRecDepth 100000

theorem cells_color : Tryd.prog.cellsOf 58 = 1 := by kernel_rfl
theorem cells_style : Tryd.prog.cellsOf 60 = 3 := by kernel_rfl
theorem cells_run : Tryd.prog.cellsOf 62 = 5 := by kernel_rfl
theorem cells_row : Tryd.prog.cellsOf 57 = 1 := by kernel_rfl
theorem cells_runs : Tryd.prog.cellsOf 55 = 1 := by kernel_rfl
theorem cells_rows : Tryd.prog.cellsOf 39 = 1 := by kernel_rfl
theorem cells_kind : Tryd.prog.cellsOf 38 = 1 := by kernel_rfl
theorem cells_event : Tryd.prog.cellsOf 41 = 7 := by kernel_rfl
theorem bytes_run : Tryd.prog.bytesOf 62 = 40 := by kernel_rfl
theorem bytes_row : Tryd.prog.bytesOf 57 = 24 := by kernel_rfl

/-- a run that came in -/
def Run.Fits (r : Run) : Prop := r.text.size ≤ 140737488351232 ∧ r.ruby.size ≤ 140737488351232 ∧ 0 ≤ r.color ∧ r.color ≤ 255
theorem open_style (W : World) : Opens Tryd.prog W 60 (fun cs (a : Int × Bool × Bool) => cs = [.int .u8 a.1, .bool a.2.1, .bool a.2.2] ∧ 0 ≤ a.1 ∧ a.1 ≤ 255) := by
  intro H enc fuel cs x h hw
  obtain ⟨hl, hf⟩ := Opens.fields Tryd.underlying60 h hw
  rw [cells_style] at hl
  obtain ⟨v0, v1, v2, rfl⟩ := list_3 hl
  obtain ⟨a0, h0, s0⟩ := hf 0 _ rfl (Opens.int Tryd.underlying58)
  obtain ⟨a1, h1⟩ := hf 1 _ rfl (Opens.bool Tryd.underlying4)
  obtain ⟨a2, h2⟩ := hf 2 _ rfl (Opens.bool Tryd.underlying4)
  simp [cells_color, cells_bool] at h0 h1 h2
  subst h0 h1 h2
  exact ⟨(a0, a1, a2), rfl, bounds_u8 s0⟩
theorem open_run (W : World) : Opens Tryd.prog W 62 (fun cs (r : Run) => cs = [.string r.text, .int .u8 r.color, .bool r.italic, .bool r.under, .string r.ruby] ∧ r.Fits) := by
  intro H enc fuel cs x h hw
  obtain ⟨hl, hf⟩ := Opens.fields Tryd.underlying62 h hw
  rw [cells_run] at hl
  obtain ⟨v0, v1, v2, v3, v4, rfl⟩ := list_5 hl
  obtain ⟨a0, h0, s0⟩ := hf 0 _ rfl (Opens.string Tryd.underlying9)
  obtain ⟨⟨a1, a2, a3⟩, h1, s1⟩ := hf 1 _ rfl (open_style W)
  obtain ⟨a4, h4, s4⟩ := hf 2 _ rfl (Opens.string Tryd.underlying9)
  simp [cells_string, cells_style] at h0 h1 h4
  obtain ⟨h1, h2, h3⟩ := h1
  subst h0 h1 h2 h3 h4
  exact ⟨⟨a0, a1, a2, a3, a4⟩, rfl, s0, s4, s1⟩
theorem mem_run {w : World} {b o : Nat} {r : Run} (h : Mem (fun cs (r : Run) => cs = [.string r.text, .int .u8 r.color, .bool r.italic, .bool r.under, .string r.ruby] ∧ r.Fits) w b o r) : RunC w b o r ∧ r.Fits := by
  obtain ⟨cs, h1, rfl, h2⟩ := h
  exact ⟨⟨h1 0 _ rfl, h1 1 _ rfl, h1 2 _ rfl, h1 3 _ rfl, h1 4 _ rfl⟩, h2⟩
/-- a row that came in -/
def RowFits (r : Row) : Prop := (∀ x ∈ r, x.Fits) ∧ r.length * 40 ≤ 140737488351232
theorem open_row (W : World) : Opens Tryd.prog W 57 (fun cs (r : Row) => (∃ A n c, cs = [.slice A n c] ∧ n ≤ c ∧ n * 40 ≤ 140737488355328 ∧ RunsAt W A n r) ∧ RowFits r) := by
  intro H enc fuel cs x h hw
  obtain ⟨hl, hf⟩ := Opens.fields Tryd.underlying57 h hw
  rw [cells_row] at hl
  obtain ⟨v0, rfl⟩ := list_1 hl
  obtain ⟨r, h0⟩ := hf 0 _ rfl (R := fun cs (r : Row) => (∃ A n c, cs = [.slice A n c] ∧ n ≤ c ∧ n * 40 ≤ 140737488355328 ∧ RunsAt W A n r) ∧ RowFits r) (fun H enc fuel cs x h hw => by
    obtain ⟨A, n, c, l, rfl, hnc, _, hb, hs⟩ := Opens.slice Tryd.underlying55 cells_run (by decide) bytes_run (open_run W) h hw
    have hn : n * 40 ≤ 140737488351232 := by simp only [reachBytes] at hb; omega
    exact ⟨l, ⟨A, n, c, rfl, hnc, by omega, Sl.change hs fun _ _ _ hm => (mem_run hm).1⟩, hs.all fun _ _ _ hm => (mem_run hm).2, by rw [hs.len]; exact hn⟩)
  simp [cells_runs] at h0
  exact ⟨r, by simpa using h0⟩
theorem mem_row {w W : World} (hw : w = W) {b o : Nat} {r : Row} (h : Mem (fun cs (r : Row) => (∃ A n c, cs = [.slice A n c] ∧ n ≤ c ∧ n * 40 ≤ 140737488355328 ∧ RunsAt W A n r) ∧ RowFits r) w b o r) : RowC w b o r ∧ RowFits r := by
  subst hw
  obtain ⟨cs, h1, ⟨A, n, c, rfl, h2⟩, h3⟩ := h
  exact ⟨⟨A, n, c, h1 0 _ rfl, h2⟩, h3⟩

/-- an event that came in -/
def Ev.Fits (e : Ev) : Prop := e.region.size ≤ 140737488351232 ∧ e.speaker.size ≤ 140737488351232 ∧ (0 ≤ e.kind ∧ e.kind ≤ 255) ∧ (-9223372036854775808 ≤ e.id ∧ e.id ≤ 9223372036854775807) ∧ (-9223372036854775808 ≤ e.inn ∧ e.inn ≤ 9223372036854775807) ∧ (-9223372036854775808 ≤ e.out ∧ e.out ≤ 9223372036854775807) ∧ (∀ r ∈ e.rows, RowFits r) ∧ e.rows.length * 24 ≤ 140737488351232
theorem open_event (W : World) : Opens Tryd.prog W 41 (fun cs (e : Ev) => (∃ A n c, cs = (e.cells A n c).toList ∧ EvAt W e A n c) ∧ e.Fits) := by
  intro H enc fuel cs x h hw
  obtain ⟨hl, hf⟩ := Opens.fields Tryd.underlying41 h hw
  rw [cells_event] at hl
  obtain ⟨v0, v1, v2, v3, v4, v5, v6, rfl⟩ := list_7 hl
  obtain ⟨a0, h0, s0⟩ := hf 0 _ rfl (Opens.int Tryd.underlying2)
  obtain ⟨⟨a1, a2⟩, h1, s1, s2⟩ := hf 1 _ rfl (open_span W)
  obtain ⟨a3, h3, s3⟩ := hf 2 _ rfl (Opens.string Tryd.underlying9)
  obtain ⟨a4, h4, s4⟩ := hf 3 _ rfl (Opens.int Tryd.underlying38)
  obtain ⟨a5, h5, s5⟩ := hf 4 _ rfl (Opens.string Tryd.underlying9)
  obtain ⟨rows, h6⟩ := hf 5 _ rfl (R := fun cs (r : List Row) => (∃ A n c, cs = [.slice A n c] ∧ n ≤ c ∧ n * 24 ≤ 140737488351232 ∧ RowsAt W A n r) ∧ ∀ x ∈ r, RowFits x) (fun H enc fuel cs x h hw => by
    obtain ⟨A, n, c, l, rfl, hnc, _, hb, hs⟩ := Opens.slice Tryd.underlying39 cells_row (by decide) bytes_row (open_row W) h hw
    have hn : n * 24 ≤ 140737488351232 := by simp only [reachBytes] at hb; omega
    exact ⟨l, ⟨A, n, c, rfl, hnc, hn, Sl.change hs fun _ _ _ hm => (mem_row rfl hm).1⟩, hs.all fun _ _ _ hm => (mem_row rfl hm).2⟩)
  simp [cells_int64, cells_string, cells_span, cells_kind, cells_rows] at h0 h1 h3 h4 h5 h6
  obtain ⟨h1, h2⟩ := h1
  obtain ⟨⟨A, n, c, h6, hnc, hn, hr⟩, hfit⟩ := h6
  subst h0 h1 h2 h3 h4 h5 h6
  exact ⟨⟨a0, a1, a2, a3, a4, a5, rows⟩, ⟨A, n, c, rfl, hr, hnc, by omega⟩, s3, s5, bounds_u8 s4, bounds_i64 s0, s1, s2, hfit, by rw [hr.len]; exact hn⟩

/-- an argument that is an event -/
theorem arg_event {H : Type} {enc : TypeId × Value → H} {W : World} {base : Nat} {v : Value} {d : DataW H} {p : List MemPlace} (hv : Value.okWide Tryd.prog W .any base 41 v) (h : DataW.Trod enc Tryd.prog W 0 (fun _ => true) true 41 v d p)
    (hw : ∀ n ∈ d.weights Tryd.prog 41, n ≤ reachBytes) : ∃ e A n c, v = .agg (e.cells A n c) ∧ EvAt W e A n c ∧ e.Fits := by
  obtain ⟨cs, rfl⟩ := agg_of_cells Tryd.underlying41 hv
  obtain ⟨fuel, h⟩ := h
  obtain ⟨e, ⟨A, n, c, hc, hat⟩, hf⟩ := open_event W H enc fuel _ _ h hw
  refine ⟨e, A, n, c, ?_, hat, hf⟩
  have : cs = e.cells A n c := Array.toList_inj.1 hc
  rw [this]

def wzero {H : Type} : DataW H := .agg [.lit (.int .i64 0), .agg [.lit (.int .i64 0), .lit (.int .i64 0)], .lit (.string []), .lit (.int .u8 0), .lit (.string []), .nil]
end Go.Proofs.YtbfaghgjbipilaaDoor

/-! OpenK -/
namespace Go.Proofs.YtbfaghgjbipilaaDoor
set_option linter.unusedVariables false
set_option linter.unusedSimpArgs false
open Go.RowKit Go.ChangeShapes Go.WideShapes Go.ChangeAt

/-- what is read of a type at these cells, its bulk with it -/
def OpensK {α : Type} (P : Program) (W : World) (t : TypeId) (R : Nat → List Value → α → Prop) : Prop :=
  ∀ (H : Type) (enc : TypeId × Value → H) (fuel : Nat) (cs : List Value) (x : DataW H × List MemPlace), DataW.trod enc P W 0 (fun _ => true) true fuel t cs = some x → (∀ n ∈ x.1.weights P t, n ≤ reachBytes) → ∃ a, R (Rows.uptoBulk x.1) cs a

theorem bulkAll_map {H β : Type} (l : List (DataW H × β)) : Rows.uptoBulkAll (l.map (·.1)) = (l.map fun x => Rows.uptoBulk x.1).sum := by
  induction l with
  | nil => simp [Rows.uptoBulkAll]
  | cons x l ih => simp only [List.map_cons, Rows.uptoBulkAll, ih, List.sum_cons]
theorem bulk_at {H : Type} : ∀ {l : List (DataW H)} {i : Nat} {d : DataW H}, l[i]? = some d → Rows.uptoBulk d ≤ Rows.uptoBulkAll l
  | [], _, _, h => by simp at h
  | x :: l, 0, d, h => by simp at h; subst h; simp only [Rows.uptoBulkAll]; omega
  | x :: l, i + 1, d, h => by have := bulk_at (l := l) (i := i) (by simpa using h); simp only [Rows.uptoBulkAll]; omega

theorem OpensK.slice {α : Type} {P : Program} {W : World} {t e : TypeId} {s bts : Nat} {R : Nat → List Value → α → Prop} (ht : P.underlying t = some (.slice e)) (hc : P.cellsOf e = s) (hs : 0 < s) (hb : P.bytesOf e = bts) (hR : OpensK P W e R)
    {H : Type} {enc : TypeId × Value → H} {fuel : Nat} {cs : List Value} {x : DataW H × List MemPlace} (h : DataW.trod enc P W 0 (fun _ => true) true fuel t cs = some x) (hw : ∀ n ∈ x.1.weights P t, n ≤ reachBytes) :
    ∃ A n c, ∃ l : List (α × Nat), cs = [.slice A n c] ∧ n ≤ c ∧ c ≤ maxLen ∧ c * bts ≤ reachBytes ∧ Sl W s (fun w b o p => Mem (R p.2) w b o p.1) A n l ∧ (l.map (·.2)).sum + 1 ≤ Rows.uptoBulk x.1 := by
  rcases DataW.trod_slice ht h with ⟨rfl, rfl⟩ | ⟨ad, len, cap, elems, rest, n, rfl, rfl, rfl, _, hlc, hcm, hel, hat, hsp, _⟩
  · exact ⟨none, 0, 0, [], rfl, Nat.le_refl _, by simp [maxLen], by simp [reachBytes], Sl.nil, by simp [Rows.uptoBulk]⟩
  · obtain ⟨hrl, _⟩ := hsp rfl
    simp only [DataW.weights, ht, List.mem_cons, List.mem_append, List.length_map] at hw
    have hcap : cap * bts ≤ reachBytes := by
      have := hw _ (.inl rfl)
      rw [hel, hrl, hb, show len + (cap - len) = cap by omega] at this
      exact this
    have hall : ∀ i (hi : i < elems.length), ∃ a b off, ad = ⟨b, off, none⟩ ∧ Mem (R (Rows.uptoBulk elems[i].1)) W b (off + i * s) a := by
      intro i hie
      have hi : i < len := by omega
      have h1 := hat i hi
      rw [List.getElem?_eq_getElem hie, Option.bind_eq_some_iff] at h1
      obtain ⟨cs', h2, h3⟩ := h1
      obtain ⟨a, ha⟩ := hR H enc n cs' _ h3 (fun m hm => hw m (.inr (.inl (weightsAll_mem (List.mem_map.2 ⟨_, List.getElem_mem hie, rfl⟩) hm))))
      obtain ⟨_, hcl, hcc⟩ := World.cells?_some h2
      rw [hc] at hcl hcc
      obtain ⟨b, off, sp⟩ := ad
      refine ⟨a, b, off, ?_, cs', fun j u hu => ?_, ha⟩
      · have hz := hat 0 (by omega)
        rw [List.getElem?_eq_getElem (show 0 < elems.length by omega), Option.bind_eq_some_iff] at hz
        obtain ⟨cz, hz2, _⟩ := hz
        obtain ⟨_, hzl, hzc⟩ := World.cells?_some hz2
        rw [hc] at hzl hzc
        have := hzc 0 hs
        rw [List.getElem?_eq_getElem (show 0 < cz.length by omega)] at this
        simp only [Nat.zero_mul, Addr.add, if_true] at this
        rw [cell_none this]
      · have hj : j < s := by rw [← hcl]; exact (List.getElem?_eq_some_iff.1 hu).1
        have h4 := hcc j hj
        rw [hu] at h4
        have e1 : (⟨b, off + i * s + j, none⟩ : Addr) = (Addr.add ⟨b, off, none⟩ (i * s)).add j := by rw [Addr.add_mid, Addr.add_mid]
        rw [e1]
        by_cases hz : i * s + j = 0
        · have hi0 : i * s = 0 := by omega
          have hj0 : j = 0 := by omega
          rw [hi0, hj0] at h4 ⊢
          simp only [Addr.add, if_true] at h4 ⊢
          obtain rfl := cell_none h4
          exact h4
        · have e2 : (Addr.add ⟨b, off, sp⟩ (i * s)).add j = (Addr.add ⟨b, off, none⟩ (i * s)).add j := by
            simp only [Addr.add]
            by_cases h5 : i * s = 0
            · rw [if_pos h5, if_pos h5, if_neg (by omega), if_neg (by omega)]
            · rw [if_neg h5, if_neg h5]
          rw [e2] at h4
          exact h4
    have hbk : ∀ l : List (α × Nat), l.map (·.2) = elems.map (fun y => Rows.uptoBulk y.1) → (l.map (·.2)).sum + 1 ≤ Rows.uptoBulk (DataW.slice (elems.map (·.1)) (rest.map (·.1))) := fun l hl => by
      rw [hl]
      simp only [Rows.uptoBulk, bulkAll_map]
      omega
    by_cases h0 : len = 0
    · subst h0
      exact ⟨some ad, 0, cap, [], rfl, hlc, hcm, hcap, Sl.nil, hbk [] (by rw [List.eq_nil_of_length_eq_zero hel]; rfl)⟩
    · obtain ⟨_, b, off, rfl, _⟩ := hall 0 (by omega)
      have key : ∀ (es : List (DataW H × List MemPlace)) (k : Nat), (∀ i (hi : i < es.length), ∃ a, Mem (R (Rows.uptoBulk es[i].1)) W b (off + (k + i) * s) a) →
          ∃ l : List (α × Nat), l.length = es.length ∧ (∀ i p, l[i]? = some p → Mem (R p.2) W b (off + (k + i) * s) p.1) ∧ l.map (·.2) = es.map (fun y => Rows.uptoBulk y.1) := by
        intro es
        induction es with
        | nil => intro k _; exact ⟨[], rfl, fun i p h => by simp at h, rfl⟩
        | cons y es ih =>
          intro k hes
          obtain ⟨a, ha⟩ := hes 0 (by simp)
          obtain ⟨l, h1, h2, h3⟩ := ih (k + 1) (fun i hi => by
            obtain ⟨a, ha⟩ := hes (i + 1) (by simp; omega)
            refine ⟨a, ?_⟩
            rw [show k + 1 + i = k + (i + 1) by omega]
            exact ha)
          refine ⟨(a, Rows.uptoBulk y.1) :: l, by simp [h1], fun i p hp => ?_, by simp [h3]⟩
          match i, hp with
          | 0, hp => simp at hp; subst hp; exact ha
          | i + 1, hp =>
            have := h2 i p (by simpa using hp)
            rw [show k + 1 + i = k + (i + 1) by omega] at this
            exact this
      obtain ⟨l, h1, h2, h3⟩ := key elems 0 (fun i hi => by
        obtain ⟨a, b', off', he, hm⟩ := hall i hi
        cases he
        exact ⟨a, by rw [Nat.zero_add]; exact hm⟩)
      refine ⟨_, len, cap, l, rfl, hlc, hcm, hcap, ⟨by omega, fun _ => ⟨b, off, rfl, fun i p hp => ?_⟩⟩, hbk l h3⟩
      have := h2 i p hp
      rw [Nat.zero_add] at this
      exact this

theorem OpensK.of {α : Type} {P : Program} {W : World} {t : TypeId} {R : List Value → α → Prop} (h : Opens P W t R) : OpensK P W t (fun _ cs a => R cs a) := fun H enc fuel cs x h1 h2 => h H enc fuel cs x h1 h2
theorem OpensK.string {P : Program} {W : World} {t : TypeId} (ht : P.underlying t = some .string) : OpensK P W t (fun k cs (a : ByteArray) => cs = [.string a] ∧ a.size + 1 ≤ k) :=
  fun _ _ _ _ _ h _ => by
    obtain ⟨s, h1, h2, _⟩ := DataW.trod_string ht h
    subst h2
    exact ⟨s, h1, by simp [Rows.uptoBulk]⟩
/-- the fields of a struct, each read by itself, their bulks together no more than the whole's -/
theorem OpensK.fields {P : Program} {W : World} {t : TypeId} {fs : Array Field} (ht : P.underlying t = some (.struct fs)) {H : Type} {enc : TypeId × Value → H} {fuel : Nat} {cs : List Value} {x : DataW H × List MemPlace}
    (h : DataW.trod enc P W 0 (fun _ => true) true fuel t cs = some x) (hw : ∀ n ∈ x.1.weights P t, n ≤ reachBytes) :
    cs.length = P.cellsOf t ∧ ∃ ks : List Nat, ks.sum ≤ Rows.uptoBulk x.1 ∧ ks.length = fs.size ∧ ∀ (i : Nat) (f : Field), fs[i]? = some f → ∀ {α : Type} {R : Nat → List Value → α → Prop}, OpensK P W f.type R → ∃ a, R (ks.getD i 0) ((cs.drop f.offset).take (P.cellsOf f.type)) a := by
  obtain ⟨xs, n, rfl, rfl, hl, hlen, hf⟩ := DataW.trod_struct ht h
  refine ⟨hl, xs.map (fun y => Rows.uptoBulk y.1), by simp only [Rows.uptoBulk, bulkAll_map]; omega, by simpa using hlen, fun i f hif α R hR => ?_⟩
  have h1 := hf i f hif
  have hi : i < xs.length := by rw [hlen]; exact (Array.getElem?_eq_some_iff.1 hif).1
  rw [List.getElem?_eq_getElem hi] at h1
  have hk : (xs.map (fun y => Rows.uptoBulk y.1)).getD i 0 = Rows.uptoBulk xs[i].1 := by simp [hi]
  rw [hk]
  refine hR H enc n _ _ h1 (fun m hm => hw m ?_)
  simp only [DataW.weights, ht]
  refine weightsEach_mem (i := i) (t := f.type) (d := xs[i].1) ?_ ?_ hm
  · rw [List.getElem?_map]
    have : fs.toList[i]? = some f := by simpa using hif
    rw [this]; rfl
  · rw [List.getElem?_map, List.getElem?_eq_getElem hi]; rfl
theorem Sl.mapK {α : Type} {C : World → Nat → Nat → α × Nat → Prop} {D : World → Nat → Nat → α → Prop} {w : World} {size n : Nat} {A : Option Addr} {l : List (α × Nat)} (h : Sl w size C A n l) (hcd : ∀ b o p, C w b o p → D w b o p.1) : Sl w size D A n (l.map (·.1)) := by
  refine ⟨by simpa using h.1, fun hn => ?_⟩
  obtain ⟨b, off, hA, hc⟩ := h.2 hn
  refine ⟨b, off, hA, fun i x hx => ?_⟩
  rw [List.getElem?_map, Option.map_eq_some_iff] at hx
  obtain ⟨p, hp, rfl⟩ := hx
  exact hcd _ _ _ (hc i p hp)
theorem sum_le_of {α : Type} {f : α → Nat} : ∀ {l : List (α × Nat)}, (∀ p ∈ l, f p.1 ≤ p.2) → ((l.map (·.1)).map f).sum ≤ (l.map (·.2)).sum
  | [], _ => by simp
  | p :: l, h => by
    have h1 := h p (List.mem_cons_self ..)
    have h2 := sum_le_of (l := l) fun q hq => h q (List.mem_cons_of_mem _ hq)
    simp only [List.map_cons, List.sum_cons]
    omega
theorem le_sum {α : Type} {f : α → Nat} : ∀ {l : List α} {x : α}, x ∈ l → f x ≤ (l.map f).sum
  | [], _, h => by cases h
  | y :: l, x, h => by
    simp only [List.map_cons, List.sum_cons]
    cases List.mem_cons.1 h with
    | inl e => subst e; omega
    | inr e => have := le_sum (f := f) e; omega
set_option maxRecDepth 100000

theorem openK_style (W : World) : OpensK Tryd.prog W 60 (fun _ cs (a : Int × Bool × Bool) => cs = [.int .u8 a.1, .bool a.2.1, .bool a.2.2] ∧ 0 ≤ a.1 ∧ a.1 ≤ 255) := .of (open_style W)
theorem openK_run (W : World) : OpensK Tryd.prog W 62 (fun k cs (r : Run) => cs = [.string r.text, .int .u8 r.color, .bool r.italic, .bool r.under, .string r.ruby] ∧ r.text.size + r.ruby.size ≤ k) := by
  intro H enc fuel cs x h hw
  obtain ⟨hl, ks, hks, hkl, hf⟩ := OpensK.fields Tryd.underlying62 h hw
  rw [cells_run] at hl
  obtain ⟨v0, v1, v2, v3, v4, rfl⟩ := list_5 hl
  obtain ⟨k0, k1, k2, rfl⟩ := list_3 (show ks.length = 3 from hkl)
  obtain ⟨a0, h0, s0⟩ := hf 0 _ rfl (OpensK.string Tryd.underlying9)
  obtain ⟨⟨a1, a2, a3⟩, h1, s1⟩ := hf 1 _ rfl (openK_style W)
  obtain ⟨a4, h4, s4⟩ := hf 2 _ rfl (OpensK.string Tryd.underlying9)
  simp [cells_string, cells_style] at h0 h1 h4 s0 s4
  obtain ⟨h1, h2, h3⟩ := h1
  subst h0 h1 h2 h3 h4
  simp at hks
  exact ⟨⟨a0, a1, a2, a3, a4⟩, rfl, by simp only; omega⟩
def runBulk (r : Run) : Nat := r.text.size + r.ruby.size
def rowBulk (r : Row) : Nat := (r.map runBulk).sum
def rowsBulk (l : List Row) : Nat := (l.map rowBulk).sum
theorem rowBytes_le (r : Row) : rowBytes r ≤ rowBulk r := by
  unfold rowBytes rowBulk
  induction r with
  | nil => simp
  | cons x r ih => simp only [List.map_cons, List.sum_cons, runBulk]; omega
theorem openK_row (W : World) : OpensK Tryd.prog W 57 (fun k cs (r : Row) => (∃ A n c, cs = [.slice A n c] ∧ n ≤ c ∧ n * 40 ≤ 140737488355328 ∧ RunsAt W A n r) ∧ rowBulk r ≤ k) := by
  intro H enc fuel cs x h hw
  obtain ⟨hl, ks, hks, hkl, hf⟩ := OpensK.fields Tryd.underlying57 h hw
  rw [cells_row] at hl
  obtain ⟨v0, rfl⟩ := list_1 hl
  obtain ⟨k0, rfl⟩ := list_1 (show ks.length = 1 from hkl)
  obtain ⟨r, h0, hb⟩ := hf 0 _ rfl (R := fun k cs (r : Row) => (∃ A n c, cs = [.slice A n c] ∧ n ≤ c ∧ n * 40 ≤ 140737488355328 ∧ RunsAt W A n r) ∧ rowBulk r ≤ k) (fun H enc fuel cs x h hw => by
    obtain ⟨A, n, c, l, rfl, hnc, _, hb, hs, hk⟩ := OpensK.slice Tryd.underlying55 cells_run (by decide) bytes_run (openK_run W) h hw
    have hn : n * 40 ≤ 140737488355328 := by simp only [reachBytes] at hb; omega
    refine ⟨l.map (fun p : Run × Nat => p.1), ⟨A, n, c, rfl, hnc, hn, Sl.mapK (D := RunC) hs fun b o p hm => ?_⟩, ?_⟩
    · obtain ⟨cs, h1, h2, _⟩ := hm
      subst h2
      exact ⟨h1 0 _ rfl, h1 1 _ rfl, h1 2 _ rfl, h1 3 _ rfl, h1 4 _ rfl⟩
    · have := sum_le_of (f := runBulk) (l := l) (fun p hp => by
        have := hs.all (p := fun p => runBulk p.1 ≤ p.2) (fun b o q hm => by obtain ⟨_, _, _, h3⟩ := hm; exact h3) p hp
        exact this)
      unfold rowBulk
      omega)
  simp [cells_runs] at h0 hb hks
  exact ⟨r, by simpa using h0, by omega⟩
def Ev.bulk (e : Ev) : Nat := rowsBulk e.rows + e.region.size + e.speaker.size
theorem openK_event (W : World) : OpensK Tryd.prog W 41 (fun k cs (e : Ev) => (∃ A n c, cs = (e.cells A n c).toList ∧ EvAt W e A n c) ∧ e.bulk ≤ k) := by
  intro H enc fuel cs x h hw
  obtain ⟨hl, ks, hks, hkl, hf⟩ := OpensK.fields Tryd.underlying41 h hw
  rw [cells_event] at hl
  obtain ⟨v0, v1, v2, v3, v4, v5, v6, rfl⟩ := list_7 hl
  obtain ⟨k0, k1, k2, k3, k4, k5, rfl⟩ := list_6 (show ks.length = 6 from hkl)
  obtain ⟨a0, h0, s0⟩ := hf 0 _ rfl (.of (Opens.int Tryd.underlying2))
  obtain ⟨⟨a1, a2⟩, h1, s1, s2⟩ := hf 1 _ rfl (.of (open_span W))
  obtain ⟨a3, h3, s3⟩ := hf 2 _ rfl (OpensK.string Tryd.underlying9)
  obtain ⟨a4, h4, s4⟩ := hf 3 _ rfl (.of (Opens.int Tryd.underlying38))
  obtain ⟨a5, h5, s5⟩ := hf 4 _ rfl (OpensK.string Tryd.underlying9)
  obtain ⟨rows, h6, hb6⟩ := hf 5 _ rfl (R := fun k cs (r : List Row) => (∃ A n c, cs = [.slice A n c] ∧ n ≤ c ∧ n * 24 ≤ 140737488355328 ∧ RowsAt W A n r) ∧ rowsBulk r ≤ k) (fun H enc fuel cs x h hw => by
    obtain ⟨A, n, c, l, rfl, hnc, _, hb, hs, hk⟩ := OpensK.slice Tryd.underlying39 cells_row (by decide) bytes_row (openK_row W) h hw
    have hn : n * 24 ≤ 140737488355328 := by simp only [reachBytes] at hb; omega
    refine ⟨l.map (fun p : Row × Nat => p.1), ⟨A, n, c, rfl, hnc, hn, Sl.mapK (D := RowC) hs fun b o p hm => ?_⟩, ?_⟩
    · obtain ⟨cs, h1, ⟨A', n', c', h2, h3⟩, _⟩ := hm
      subst h2
      exact ⟨A', n', c', h1 0 _ rfl, h3⟩
    · have := sum_le_of (f := rowBulk) (l := l) (fun p hp => hs.all (p := fun p => rowBulk p.1 ≤ p.2) (fun b o q hm => by obtain ⟨_, _, _, h3⟩ := hm; exact h3) p hp)
      unfold rowsBulk
      omega)
  simp [cells_int64, cells_string, cells_span, cells_kind, cells_rows] at h0 h1 h3 h4 h5 h6 s3 s5 hb6 hks
  obtain ⟨h1, h2⟩ := h1
  obtain ⟨A, n, c, h6, hnc, hn, hr⟩ := h6
  subst h0 h1 h2 h3 h4 h5 h6
  exact ⟨⟨a0, a1, a2, a3, a4, a5, rows⟩, ⟨A, n, c, rfl, hr, hnc, hn⟩, by unfold Ev.bulk; simp only; omega⟩
/-- an argument that is an event, of small bulk -/
theorem argK_event {H : Type} {enc : TypeId × Value → H} {W : World} {base : Nat} {v : Value} {d : DataW H} {p : List MemPlace} (hv : Value.okWide Tryd.prog W .any base 41 v) (h : DataW.Trod enc Tryd.prog W 0 (fun _ => true) true 41 v d p)
    (hw : ∀ n ∈ d.weights Tryd.prog 41, n ≤ reachBytes) (hk : Rows.uptoBulk d ≤ 1048576) : ∃ e A n c, v = .agg (e.cells A n c) ∧ EvAt W e A n c ∧ EvSmall e ∧ e.bytes ≤ 1099511627776 := by
  obtain ⟨cs, rfl⟩ := agg_of_cells Tryd.underlying41 hv
  obtain ⟨fuel, h⟩ := h
  obtain ⟨e, ⟨A, n, c, hc, hat⟩, hf⟩ := openK_event W H enc fuel _ _ h hw
  have hf' : e.bulk ≤ 1048576 := Nat.le_trans hf hk
  unfold Ev.bulk at hf'
  have hrow : ∀ r ∈ e.rows, rowBulk r ≤ 1048576 := fun r hr => by
    have := le_sum (f := rowBulk) hr
    unfold rowsBulk at hf'
    omega
  refine ⟨e, A, n, c, ?_, hat, ⟨by omega, by omega, fun r hr => ⟨?_, fun x hx => ?_⟩⟩, ?_⟩
  · have : cs = e.cells A n c := Array.toList_inj.1 hc
    rw [this]
  · have h1 := hrow r hr
    have h2 := rowBytes_le r
    omega
  · have h1 := hrow r hr
    have h2 := le_sum (f := runBulk) hx
    unfold rowBulk at h1
    have h3 : runBulk x = x.text.size + x.ruby.size := rfl
    omega
  · have key : ∀ l : List Row, (l.map rowBytes).sum ≤ rowsBulk l := fun l => by
      unfold rowsBulk
      induction l with
      | nil => simp
      | cons y l ih => have := rowBytes_le y; simp only [List.map_cons, List.sum_cons]; omega
    have := key e.rows
    unfold Ev.bytes
    omega

theorem cells_region : Tryd.prog.cellsOf 54 = 7 := by kernel_rfl
theorem bytes_region : Tryd.prog.bytesOf 54 = 56 := by kernel_rfl
theorem open_region (W : World) : Opens Tryd.prog W 54 (fun cs (r : Reg) => cs = [.string r.name, .int .i64 r.top, .int .i64 r.height, .int .i64 r.left, .int .i64 r.width, .int .u8 r.align, .bool r.bottom] ∧ r.name.size ≤ 140737488351232) := by
  intro H enc fuel cs x h hw
  obtain ⟨hl, hf⟩ := Opens.fields Tryd.underlying54 h hw
  rw [cells_region] at hl
  obtain ⟨v0, v1, v2, v3, v4, v5, v6, rfl⟩ := list_7 hl
  obtain ⟨a0, h0, s0⟩ := hf 0 _ rfl (Opens.string Tryd.underlying9)
  obtain ⟨a1, h1, s1⟩ := hf 1 _ rfl (Opens.int Tryd.underlying3)
  obtain ⟨a2, h2, s2⟩ := hf 2 _ rfl (Opens.int Tryd.underlying3)
  obtain ⟨a3, h3, s3⟩ := hf 3 _ rfl (Opens.int Tryd.underlying3)
  obtain ⟨a4, h4, s4⟩ := hf 4 _ rfl (Opens.int Tryd.underlying3)
  obtain ⟨a5, h5, s5⟩ := hf 5 _ rfl (Opens.int Tryd.underlying52)
  obtain ⟨a6, h6⟩ := hf 6 _ rfl (Opens.bool Tryd.underlying4)
  simp [cells_string, cells_int, cells_bool, show Tryd.prog.cellsOf 52 = 1 by kernel_rfl] at h0 h1 h2 h3 h4 h5 h6
  subst h0 h1 h2 h3 h4 h5 h6
  exact ⟨⟨a0, a1, a2, a3, a4, a5, a6⟩, rfl, s0⟩
/-- an argument that is a list of regions -/
theorem arg_regions {H : Type} {enc : TypeId × Value → H} {W : World} {base : Nat} {v : Value} {d : DataW H} {p : List MemPlace} (hv : Value.okWide Tryd.prog W .any base 31 v) (h : DataW.Trod enc Tryd.prog W 0 (fun _ => true) true 31 v d p)
    (hw : ∀ n ∈ d.weights Tryd.prog 31, n ≤ reachBytes) : ∃ A n c regs, v = .slice A n c ∧ n ≤ c ∧ n ≤ 9223372036854775807 ∧ RegsAt W A n regs ∧ RegsSmall regs := by
  obtain ⟨fuel, h⟩ := h
  obtain ⟨A, n, c, l, hc, hnc, hcm, hb, hs⟩ := Opens.slice Tryd.underlying31 cells_region (by decide) bytes_region (open_region W) h hw
  have hv' : v = .slice A n c := by
    unfold Value.okWide at hv
    rw [Tryd.underlying31] at hv
    cases v <;> simp [Value.cells] at hc <;> first | (obtain ⟨h1, h2, h3⟩ := hc; subst h1 h2 h3; rfl) | (simp [Cell.okWide, Tryd.underlying31, Cell.ok] at hv)
  refine ⟨A, n, c, l, hv', hnc, by simp only [maxLen] at hcm; omega, Sl.change (D := RegC) hs fun b o r hm => ?_, show ∀ r ∈ l, r.name.size ≤ 9223372036854775807 from hs.all (p := fun r : Reg => r.name.size ≤ 9223372036854775807) fun b o r hm => ?_⟩
  · obtain ⟨cs, h1, h2, _⟩ := hm
    subst h2
    exact ⟨h1 0 _ rfl, h1 1 _ rfl, h1 2 _ rfl, h1 3 _ rfl, h1 4 _ rfl, h1 5 _ rfl, h1 6 _ rfl⟩
  · obtain ⟨cs, _, _, h3⟩ := hm
    omega
end Go.Proofs.YtbfaghgjbipilaaDoor
