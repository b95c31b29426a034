/- Laid together: The walks of the reference's Common, MoveFrom, MoveTo, Move. The walk of the reference's Follow. The walk of the reference's Plain of an event. -/
import Derived.Test.YtagfedbdakmlgaaGreatDoorIn15
import Derived.Test.YtagfedbdakmlgaaGreatDoorIn05
import Derived.Test.YtagfedbdakmlgaaGreatDoorIn13
import Derived.Test.YtagfedbdakmlgaaGreatDoorIn19

/-! MoveR -/
namespace Go.Proofs.YtagfedbdakmlgaaGreatDoor
set_option linter.unusedVariables false
set_option linter.unusedSimpArgs false
open Go.RowKit
set_option maxRecDepth 100000 in
set_option maxHeartbeats 8000000 in
theorem R12Common_any (before after : ByteArray) (w : World) (hb : before.size ≤ 35184372088831) (ha : after.size ≤ 35184372088831) :
    Calls Tryz.prog 157 #[.string before, .string after] w fun en w' => en = .returned (.tuple #[.int .i64 ((runes before 0).length : Int), .int .i64 ((runes after 0).length : Int), .int .i64 (Mv.pre (runes before 0) (runes after 0) : Int), .int .i64 (Mv.suf (runes before 0) (runes after 0) (Mv.pre (runes before 0) (runes after 0)) : Int)]) ∧ Ext w w' := by
  have HRa := Lib.hid (fun w' => R12runes_any before w' hb)
  have HRb := Lib.hid (fun w' => R12runes_any after w' ha)
  have hna := runes_len before
  have hnb := runes_len after
  unfold RunesPost at HRa HRb
  generalize runes before 0 = a at *
  generalize runes after 0 = b at *
  go_enter Tryz.func157, Tryz.ntmps157
  go_wp2_with fail
  refine (HRa.out _).mono ?_
  rintro en w1 ⟨A, n, c1, rfl, hat1, hc1, hx1⟩
  go_wp2_with fail
  refine (HRb.out _).mono ?_
  rintro en W ⟨B, m, c2, rfl, hat2, hc2, hx2⟩
  have HXW := Lib.hid (hx1.trans hx2)
  have HA := Lib.hid (hat1.ext hx2)
  have HBr := Lib.hid hat2
  have HLa := Lib.hid hat1.len
  have HLb := Lib.hid hat2.len
  have hn9 : n ≤ 35184372088831 := by have := hat1.len; omega
  have hm9 : m ≤ 35184372088831 := by have := hat2.len; omega
  clear hx1 hx2 hat1 hat2 hna hnb HRa HRb
  go_wp2_with fail
  have hpl := Mv.pre_le a b
  have hsl := Mv.suf_le a b (Mv.pre a b)
  have hla := HLa.out
  have hlb := HLb.out
  obtain ⟨P0, hP0⟩ : ∃ P0, P0 = Mv.pre a b := ⟨_, rfl⟩
  obtain ⟨S0, hS0⟩ : ∃ S0, S0 = Mv.suf a b (Mv.pre a b) := ⟨_, rfl⟩
  have hp1 : P0 ≤ n ∧ P0 ≤ m := by omega
  have hs1 : P0 + S0 ≤ n ∧ P0 + S0 ≤ m := by rw [hP0, hS0]; omega
  have HP0 := Lib.hid hP0
  have HS0 := Lib.hid hS0
  clear hpl hsl hP0 hS0 hla hlb
  go_loopw [6] (fun v wr => PreRel W a b v wr) (fun v _ => n - (intOf v).toNat)
  case atStart => exact ⟨0, Nat.zero_le _, rfl, Ext.refl _⟩
  case round =>
    obtain ⟨k, hk, rfl, hx⟩ := hrel
    have HX := Lib.hid hx
    have HK := Lib.hid hk
    have hkP : k ≤ P0 := by rw [HP0.out]; exact hk
    clear hk hx
    by_cases hlt : k < n ∧ k < m
    · obtain ⟨hn1, hm1⟩ := hlt
      obtain ⟨b1, o1, x, hA1, hx1, c1⟩ := (HA.out.ext HX.out).cell hn1
      obtain ⟨b2, o2, y, hA2, hx2, c2⟩ := (HBr.out.ext HX.out).cell hm1
      subst hA1 hA2
      have hmn : (k : Int) < min (n : Int) (m : Int) := by omega
      have hn1i : (k : Int) < (n : Int) := by omega
      have hm1i : (k : Int) < (m : Int) := by omega
      have hk0 : (0 : Int) ≤ (k : Int) := by omega
      have fc1 := fun (y : EW wr) => y.ext.cell c1
      have fc2 := fun (y : EW wr) => y.ext.cell c2
      clear c1 c2
      by_cases he : x = y
      · have heb : (x == y) = true := by simpa using he
        have HN := Lib.hid (Mv.pre_step HK.out hx1 hx2 he)
        clear hx1 hx2 he
        go_wp2_with fail
        refine wp_region_ew wr (Ext.refl _) (by kernel_rfl) (by kernel_rfl) ?_
        repeat (go_big_quiet_step ((fail)))
        refine wpQuiet_nil ?_
        rintro w9 ⟨⟨_, hx9⟩, rfl⟩
        clear fc1 fc2
        go_wp2_with fail
        exact ⟨⟨k + 1, HN.out, by go_num, HX.out.trans hx9⟩, by simp [intOf]; omega⟩
      have heb : (x == y) = false := by simpa using he
      have hkp : k = P0 := by rw [HP0.out]; exact Mv.pre_stop HK.out (.inr (.inr ⟨x, y, hx1, hx2, he⟩))
      subst hkp
      clear hx1 hx2 he
      go_wp2_with fail
      refine wp_region_ew wr (Ext.refl _) (by kernel_rfl) (by kernel_rfl) ?_
      repeat (go_big_quiet_step ((fail)))
      refine wpQuiet_nil ?_
      rintro w9 ⟨⟨_, hx9⟩, rfl⟩
      clear fc1 fc2 hmn hn1i hm1i hk0 heb
      have HX9 := Lib.hid (HX.out.trans hx9)
      clear hx9 HX
      go_wp2_with fail
      obtain ⟨wo, rfl⟩ : ∃ wo : World, wo = w9 := ⟨_, rfl⟩
      go_loopw [7] (fun v wr => SufRel wo a b v wr) (fun v _ => n - (intOf v).toNat)
      case atStart => exact ⟨0, Nat.zero_le _, rfl, Ext.refl _⟩
      case round =>
        obtain ⟨j, hj, rfl, hx⟩ := hrel
        have HXj := Lib.hid (HX9.out.trans hx)
        have HXo := Lib.hid hx
        have HJ := Lib.hid hj
        have hjS : j ≤ S0 := by rw [HS0.out]; exact hj
        clear hj hx
        have hj0 : (0 : Int) ≤ (j : Int) := by omega
        by_cases hlt2 : j < n - k ∧ j < m - k
        · obtain ⟨hn2, hm2⟩ := hlt2
          obtain ⟨b1, o1, x, hA1, hx1, c1⟩ := (HA.out.ext HXj.out).cell (i := n - 1 - j) (by omega)
          obtain ⟨b2, o2, y, hA2, hx2, c2⟩ := (HBr.out.ext HXj.out).cell (i := m - 1 - j) (by omega)
          have HA1 := Lib.hid hA1
          have HA2 := Lib.hid hA2
          clear hA1 hA2
          have hmn : (j : Int) < min (n : Int) (m : Int) - (k : Int) := by omega
          have hd1 : (j : Int) < (n : Int) - (k : Int) := by omega
          have hd2 : (j : Int) < (m : Int) - (k : Int) := by omega
          have hi1 : (n : Int) - 1 - (j : Int) = ((n - 1 - j : Nat) : Int) := by omega
          have hi2 : (m : Int) - 1 - (j : Int) = ((m - 1 - j : Nat) : Int) := by omega
          have hi3 : ((n : Int) - 1 - (j : Int)).toNat = n - 1 - j := by omega
          have hi4 : ((m : Int) - 1 - (j : Int)).toNat = m - 1 - j := by omega
          have hi5 : (0 : Int) ≤ (n : Int) - 1 - (j : Int) ∧ (n : Int) - 1 - (j : Int) < (n : Int) := by omega
          have hi6 : (0 : Int) ≤ (m : Int) - 1 - (j : Int) ∧ (m : Int) - 1 - (j : Int) < (m : Int) := by omega
          obtain ⟨hi7, hi8⟩ := hi5
          obtain ⟨hi9, hi10⟩ := hi6
          have hi11 : n - 1 - j < n := by omega
          have hi12 : m - 1 - j < m := by omega
          have fc1 := fun (y : EW wr) => y.ext.cell c1
          have fc2 := fun (y : EW wr) => y.ext.cell c2
          clear c1 c2
          have hA1 := HA1.out
          have hA2 := HA2.out
          by_cases he : x = y
          · have heb : (x == y) = true := by simpa using he
            have HN := Lib.hid (Mv.suf_step HJ.out (by have := HLa.out; have := HP0.out; omega) (by have := HLb.out; have := HP0.out; omega) (by rw [HLa.out]; exact hx1) (by rw [HLb.out]; exact hx2) he)
            clear hx1 hx2 he
            first | subst hA1 | skip
            first | subst hA2 | skip
            go_wp2_with fail
            refine wp_region_ew wr (Ext.refl _) (by kernel_rfl) (by kernel_rfl) ?_
            repeat (go_big_quiet_step ((fail)))
            refine wpQuiet_nil ?_
            rintro w9 ⟨⟨_, hx9⟩, rfl⟩
            clear fc1 fc2
            go_wp2_with fail
            exact ⟨⟨j + 1, HN.out, by go_num, HXo.out.trans hx9⟩, by simp [intOf]; omega⟩
          have heb : (x == y) = false := by simpa using he
          have hjs : j = S0 := by
            rw [HS0.out]
            exact Mv.suf_stop HJ.out (.inr (.inr ⟨x, y, by have := HLa.out; have := HP0.out; omega, by have := HLb.out; have := HP0.out; omega, by rw [HLa.out]; exact hx1, by rw [HLb.out]; exact hx2, he⟩))
          subst hjs
          clear hx1 hx2 he
          first | subst hA1 | skip
          first | subst hA2 | skip
          go_wp2_with fail
          refine wp_region_ew wr (Ext.refl _) (by kernel_rfl) (by kernel_rfl) ?_
          repeat (go_big_quiet_step ((fail)))
          refine wpQuiet_nil ?_
          rintro w9 ⟨⟨_, hx9⟩, rfl⟩
          clear fc1 fc2 hmn hd1 hd2 hi1 hi2 hi3 hi4 hi7 hi8 hi9 hi10 hi11 hi12 heb
          have HXe := Lib.hid (HXj.out.trans hx9)
          clear hx9 HXj HXo
          go_wp2_with fail
          refine bodyPost_ret (v := .tuple #[.int .i64 (n : Int), .int .i64 (m : Int), .int .i64 (k : Int), .int .i64 (j : Int)]) ?_ rfl ⟨?_, HXW.out.trans HXe.out⟩
          · simp [results, Tryz.results157, go_sem]
          · rw [HLa.out, HLb.out, ← HS0.out, ← HP0.out]
        have hjs : j = S0 := by
          rw [HS0.out]
          refine Mv.suf_stop HJ.out ?_
          have h1 := HLa.out
          have h2 := HLb.out
          have h3 := HP0.out
          by_cases h : j < n - k
          · exact .inr (.inl (by omega))
          · exact .inl (by omega)
        subst hjs
        have hmn : decide ((j : Int) < min (n : Int) (m : Int) - (k : Int)) = false := decide_eq_false (by omega)
        by_cases hn1 : j < n - k
        · have hn1i : (j : Int) < (n : Int) - (k : Int) := by omega
          have hm1i : decide ((j : Int) < (m : Int) - (k : Int)) = false := decide_eq_false (by omega)
          clear hn1
          go_wp2_with fail
          refine wp_region_ew wr (Ext.refl _) (by kernel_rfl) (by kernel_rfl) ?_
          repeat (go_big_quiet_step ((fail)))
          refine wpQuiet_nil ?_
          rintro w9 ⟨⟨_, hx9⟩, rfl⟩
          clear hmn hlt2
          have HXe := Lib.hid (HXj.out.trans hx9)
          clear hx9 HXj HXo
          go_wp2_with fail
          refine bodyPost_ret (v := .tuple #[.int .i64 (n : Int), .int .i64 (m : Int), .int .i64 (k : Int), .int .i64 (j : Int)]) ?_ rfl ⟨?_, HXW.out.trans HXe.out⟩
          · simp [results, Tryz.results157, go_sem]
          · rw [HLa.out, HLb.out, ← HS0.out, ← HP0.out]
        · have hn1i : decide ((j : Int) < (n : Int) - (k : Int)) = false := decide_eq_false (by omega)
          clear hn1
          go_wp2_with fail
          refine wp_region_ew wr (Ext.refl _) (by kernel_rfl) (by kernel_rfl) ?_
          repeat (go_big_quiet_step ((fail)))
          refine wpQuiet_nil ?_
          rintro w9 ⟨⟨_, hx9⟩, rfl⟩
          clear hmn hlt2
          have HXe := Lib.hid (HXj.out.trans hx9)
          clear hx9 HXj HXo
          go_wp2_with fail
          refine bodyPost_ret (v := .tuple #[.int .i64 (n : Int), .int .i64 (m : Int), .int .i64 (k : Int), .int .i64 (j : Int)]) ?_ rfl ⟨?_, HXW.out.trans HXe.out⟩
          · simp [results, Tryz.results157, go_sem]
          · rw [HLa.out, HLb.out, ← HS0.out, ← HP0.out]
    have hkp : k = P0 := by
      rw [HP0.out]
      refine Mv.pre_stop HK.out ?_
      have h1 := HLa.out
      have h2 := HLb.out
      by_cases h : k < n
      · exact .inr (.inl (by omega))
      · exact .inl (by omega)
    subst hkp
    have hmn : decide ((k : Int) < min (n : Int) (m : Int)) = false := decide_eq_false (by omega)
    have w9x := HX.out
    go_wp2_with fail
    by_cases hn1 : k < n
    · have hn1i : decide (k < n) = true := decide_eq_true (by omega)
      have hm1i : decide (k < m) = false := decide_eq_false (by omega)
      clear hn1
      refine wp_region_ew wr (Ext.refl _) (by kernel_rfl) (by kernel_rfl) ?_
      repeat (go_big_quiet_step ((fail)))
      refine wpQuiet_nil ?_
      rintro w9 ⟨⟨_, hx9⟩, rfl⟩
      clear hmn w9x hlt
      have HX9 := Lib.hid (HX.out.trans hx9)
      clear hx9 HX
      go_wp2_with fail
      obtain ⟨wo, rfl⟩ : ∃ wo : World, wo = w9 := ⟨_, rfl⟩
      go_loopw [7] (fun v wr => SufRel wo a b v wr) (fun v _ => n - (intOf v).toNat)
      case atStart => exact ⟨0, Nat.zero_le _, rfl, Ext.refl _⟩
      case round =>
        obtain ⟨j, hj, rfl, hx⟩ := hrel
        have HXj := Lib.hid (HX9.out.trans hx)
        have HXo := Lib.hid hx
        have HJ := Lib.hid hj
        have hjS : j ≤ S0 := by rw [HS0.out]; exact hj
        clear hj hx
        have hj0 : (0 : Int) ≤ (j : Int) := by omega
        by_cases hlt2 : j < n - k ∧ j < m - k
        · obtain ⟨hn2, hm2⟩ := hlt2
          obtain ⟨b1, o1, x, hA1, hx1, c1⟩ := (HA.out.ext HXj.out).cell (i := n - 1 - j) (by omega)
          obtain ⟨b2, o2, y, hA2, hx2, c2⟩ := (HBr.out.ext HXj.out).cell (i := m - 1 - j) (by omega)
          have HA1 := Lib.hid hA1
          have HA2 := Lib.hid hA2
          clear hA1 hA2
          have hmn : (j : Int) < min (n : Int) (m : Int) - (k : Int) := by omega
          have hd1 : (j : Int) < (n : Int) - (k : Int) := by omega
          have hd2 : (j : Int) < (m : Int) - (k : Int) := by omega
          have hi1 : (n : Int) - 1 - (j : Int) = ((n - 1 - j : Nat) : Int) := by omega
          have hi2 : (m : Int) - 1 - (j : Int) = ((m - 1 - j : Nat) : Int) := by omega
          have hi3 : ((n : Int) - 1 - (j : Int)).toNat = n - 1 - j := by omega
          have hi4 : ((m : Int) - 1 - (j : Int)).toNat = m - 1 - j := by omega
          have hi5 : (0 : Int) ≤ (n : Int) - 1 - (j : Int) ∧ (n : Int) - 1 - (j : Int) < (n : Int) := by omega
          have hi6 : (0 : Int) ≤ (m : Int) - 1 - (j : Int) ∧ (m : Int) - 1 - (j : Int) < (m : Int) := by omega
          obtain ⟨hi7, hi8⟩ := hi5
          obtain ⟨hi9, hi10⟩ := hi6
          have hi11 : n - 1 - j < n := by omega
          have hi12 : m - 1 - j < m := by omega
          have fc1 := fun (y : EW wr) => y.ext.cell c1
          have fc2 := fun (y : EW wr) => y.ext.cell c2
          clear c1 c2
          have hA1 := HA1.out
          have hA2 := HA2.out
          by_cases he : x = y
          · have heb : (x == y) = true := by simpa using he
            have HN := Lib.hid (Mv.suf_step HJ.out (by have := HLa.out; have := HP0.out; omega) (by have := HLb.out; have := HP0.out; omega) (by rw [HLa.out]; exact hx1) (by rw [HLb.out]; exact hx2) he)
            clear hx1 hx2 he
            first | subst hA1 | skip
            first | subst hA2 | skip
            go_wp2_with fail
            refine wp_region_ew wr (Ext.refl _) (by kernel_rfl) (by kernel_rfl) ?_
            repeat (go_big_quiet_step ((fail)))
            refine wpQuiet_nil ?_
            rintro w9 ⟨⟨_, hx9⟩, rfl⟩
            clear fc1 fc2
            go_wp2_with fail
            exact ⟨⟨j + 1, HN.out, by go_num, HXo.out.trans hx9⟩, by simp [intOf]; omega⟩
          have heb : (x == y) = false := by simpa using he
          have hjs : j = S0 := by
            rw [HS0.out]
            exact Mv.suf_stop HJ.out (.inr (.inr ⟨x, y, by have := HLa.out; have := HP0.out; omega, by have := HLb.out; have := HP0.out; omega, by rw [HLa.out]; exact hx1, by rw [HLb.out]; exact hx2, he⟩))
          subst hjs
          clear hx1 hx2 he
          first | subst hA1 | skip
          first | subst hA2 | skip
          go_wp2_with fail
          refine wp_region_ew wr (Ext.refl _) (by kernel_rfl) (by kernel_rfl) ?_
          repeat (go_big_quiet_step ((fail)))
          refine wpQuiet_nil ?_
          rintro w9 ⟨⟨_, hx9⟩, rfl⟩
          clear fc1 fc2 hmn hd1 hd2 hi1 hi2 hi3 hi4 hi7 hi8 hi9 hi10 hi11 hi12 heb
          have HXe := Lib.hid (HXj.out.trans hx9)
          clear hx9 HXj HXo
          go_wp2_with fail
          refine bodyPost_ret (v := .tuple #[.int .i64 (n : Int), .int .i64 (m : Int), .int .i64 (k : Int), .int .i64 (j : Int)]) ?_ rfl ⟨?_, HXW.out.trans HXe.out⟩
          · simp [results, Tryz.results157, go_sem]
          · rw [HLa.out, HLb.out, ← HS0.out, ← HP0.out]
        have hjs : j = S0 := by
          rw [HS0.out]
          refine Mv.suf_stop HJ.out ?_
          have h1 := HLa.out
          have h2 := HLb.out
          have h3 := HP0.out
          by_cases h : j < n - k
          · exact .inr (.inl (by omega))
          · exact .inl (by omega)
        subst hjs
        have hmn : decide ((j : Int) < min (n : Int) (m : Int) - (k : Int)) = false := decide_eq_false (by omega)
        by_cases hn1 : j < n - k
        · have hn1i : (j : Int) < (n : Int) - (k : Int) := by omega
          have hm1i : decide ((j : Int) < (m : Int) - (k : Int)) = false := decide_eq_false (by omega)
          clear hn1
          go_wp2_with fail
          refine wp_region_ew wr (Ext.refl _) (by kernel_rfl) (by kernel_rfl) ?_
          repeat (go_big_quiet_step ((fail)))
          refine wpQuiet_nil ?_
          rintro w9 ⟨⟨_, hx9⟩, rfl⟩
          clear hmn hlt2
          have HXe := Lib.hid (HXj.out.trans hx9)
          clear hx9 HXj HXo
          go_wp2_with fail
          refine bodyPost_ret (v := .tuple #[.int .i64 (n : Int), .int .i64 (m : Int), .int .i64 (k : Int), .int .i64 (j : Int)]) ?_ rfl ⟨?_, HXW.out.trans HXe.out⟩
          · simp [results, Tryz.results157, go_sem]
          · rw [HLa.out, HLb.out, ← HS0.out, ← HP0.out]
        · have hn1i : decide ((j : Int) < (n : Int) - (k : Int)) = false := decide_eq_false (by omega)
          clear hn1
          go_wp2_with fail
          refine wp_region_ew wr (Ext.refl _) (by kernel_rfl) (by kernel_rfl) ?_
          repeat (go_big_quiet_step ((fail)))
          refine wpQuiet_nil ?_
          rintro w9 ⟨⟨_, hx9⟩, rfl⟩
          clear hmn hlt2
          have HXe := Lib.hid (HXj.out.trans hx9)
          clear hx9 HXj HXo
          go_wp2_with fail
          refine bodyPost_ret (v := .tuple #[.int .i64 (n : Int), .int .i64 (m : Int), .int .i64 (k : Int), .int .i64 (j : Int)]) ?_ rfl ⟨?_, HXW.out.trans HXe.out⟩
          · simp [results, Tryz.results157, go_sem]
          · rw [HLa.out, HLb.out, ← HS0.out, ← HP0.out]
    · have hn1i : decide (k < n) = false := decide_eq_false (by omega)
      clear hn1
      refine wp_region_ew wr (Ext.refl _) (by kernel_rfl) (by kernel_rfl) ?_
      repeat (go_big_quiet_step ((fail)))
      refine wpQuiet_nil ?_
      rintro w9 ⟨⟨_, hx9⟩, rfl⟩
      clear hmn w9x hlt
      have HX9 := Lib.hid (HX.out.trans hx9)
      clear hx9 HX
      go_wp2_with fail
      obtain ⟨wo, rfl⟩ : ∃ wo : World, wo = w9 := ⟨_, rfl⟩
      go_loopw [7] (fun v wr => SufRel wo a b v wr) (fun v _ => n - (intOf v).toNat)
      case atStart => exact ⟨0, Nat.zero_le _, rfl, Ext.refl _⟩
      case round =>
        obtain ⟨j, hj, rfl, hx⟩ := hrel
        have HXj := Lib.hid (HX9.out.trans hx)
        have HXo := Lib.hid hx
        have HJ := Lib.hid hj
        have hjS : j ≤ S0 := by rw [HS0.out]; exact hj
        clear hj hx
        have hj0 : (0 : Int) ≤ (j : Int) := by omega
        by_cases hlt2 : j < n - k ∧ j < m - k
        · obtain ⟨hn2, hm2⟩ := hlt2
          obtain ⟨b1, o1, x, hA1, hx1, c1⟩ := (HA.out.ext HXj.out).cell (i := n - 1 - j) (by omega)
          obtain ⟨b2, o2, y, hA2, hx2, c2⟩ := (HBr.out.ext HXj.out).cell (i := m - 1 - j) (by omega)
          have HA1 := Lib.hid hA1
          have HA2 := Lib.hid hA2
          clear hA1 hA2
          have hmn : (j : Int) < min (n : Int) (m : Int) - (k : Int) := by omega
          have hd1 : (j : Int) < (n : Int) - (k : Int) := by omega
          have hd2 : (j : Int) < (m : Int) - (k : Int) := by omega
          have hi1 : (n : Int) - 1 - (j : Int) = ((n - 1 - j : Nat) : Int) := by omega
          have hi2 : (m : Int) - 1 - (j : Int) = ((m - 1 - j : Nat) : Int) := by omega
          have hi3 : ((n : Int) - 1 - (j : Int)).toNat = n - 1 - j := by omega
          have hi4 : ((m : Int) - 1 - (j : Int)).toNat = m - 1 - j := by omega
          have hi5 : (0 : Int) ≤ (n : Int) - 1 - (j : Int) ∧ (n : Int) - 1 - (j : Int) < (n : Int) := by omega
          have hi6 : (0 : Int) ≤ (m : Int) - 1 - (j : Int) ∧ (m : Int) - 1 - (j : Int) < (m : Int) := by omega
          obtain ⟨hi7, hi8⟩ := hi5
          obtain ⟨hi9, hi10⟩ := hi6
          have hi11 : n - 1 - j < n := by omega
          have hi12 : m - 1 - j < m := by omega
          have fc1 := fun (y : EW wr) => y.ext.cell c1
          have fc2 := fun (y : EW wr) => y.ext.cell c2
          clear c1 c2
          have hA1 := HA1.out
          have hA2 := HA2.out
          by_cases he : x = y
          · have heb : (x == y) = true := by simpa using he
            have HN := Lib.hid (Mv.suf_step HJ.out (by have := HLa.out; have := HP0.out; omega) (by have := HLb.out; have := HP0.out; omega) (by rw [HLa.out]; exact hx1) (by rw [HLb.out]; exact hx2) he)
            clear hx1 hx2 he
            first | subst hA1 | skip
            first | subst hA2 | skip
            go_wp2_with fail
            refine wp_region_ew wr (Ext.refl _) (by kernel_rfl) (by kernel_rfl) ?_
            repeat (go_big_quiet_step ((fail)))
            refine wpQuiet_nil ?_
            rintro w9 ⟨⟨_, hx9⟩, rfl⟩
            clear fc1 fc2
            go_wp2_with fail
            exact ⟨⟨j + 1, HN.out, by go_num, HXo.out.trans hx9⟩, by simp [intOf]; omega⟩
          have heb : (x == y) = false := by simpa using he
          have hjs : j = S0 := by
            rw [HS0.out]
            exact Mv.suf_stop HJ.out (.inr (.inr ⟨x, y, by have := HLa.out; have := HP0.out; omega, by have := HLb.out; have := HP0.out; omega, by rw [HLa.out]; exact hx1, by rw [HLb.out]; exact hx2, he⟩))
          subst hjs
          clear hx1 hx2 he
          first | subst hA1 | skip
          first | subst hA2 | skip
          go_wp2_with fail
          refine wp_region_ew wr (Ext.refl _) (by kernel_rfl) (by kernel_rfl) ?_
          repeat (go_big_quiet_step ((fail)))
          refine wpQuiet_nil ?_
          rintro w9 ⟨⟨_, hx9⟩, rfl⟩
          clear fc1 fc2 hmn hd1 hd2 hi1 hi2 hi3 hi4 hi7 hi8 hi9 hi10 hi11 hi12 heb
          have HXe := Lib.hid (HXj.out.trans hx9)
          clear hx9 HXj HXo
          go_wp2_with fail
          refine bodyPost_ret (v := .tuple #[.int .i64 (n : Int), .int .i64 (m : Int), .int .i64 (k : Int), .int .i64 (j : Int)]) ?_ rfl ⟨?_, HXW.out.trans HXe.out⟩
          · simp [results, Tryz.results157, go_sem]
          · rw [HLa.out, HLb.out, ← HS0.out, ← HP0.out]
        have hjs : j = S0 := by
          rw [HS0.out]
          refine Mv.suf_stop HJ.out ?_
          have h1 := HLa.out
          have h2 := HLb.out
          have h3 := HP0.out
          by_cases h : j < n - k
          · exact .inr (.inl (by omega))
          · exact .inl (by omega)
        subst hjs
        have hmn : decide ((j : Int) < min (n : Int) (m : Int) - (k : Int)) = false := decide_eq_false (by omega)
        by_cases hn1 : j < n - k
        · have hn1i : (j : Int) < (n : Int) - (k : Int) := by omega
          have hm1i : decide ((j : Int) < (m : Int) - (k : Int)) = false := decide_eq_false (by omega)
          clear hn1
          go_wp2_with fail
          refine wp_region_ew wr (Ext.refl _) (by kernel_rfl) (by kernel_rfl) ?_
          repeat (go_big_quiet_step ((fail)))
          refine wpQuiet_nil ?_
          rintro w9 ⟨⟨_, hx9⟩, rfl⟩
          clear hmn hlt2
          have HXe := Lib.hid (HXj.out.trans hx9)
          clear hx9 HXj HXo
          go_wp2_with fail
          refine bodyPost_ret (v := .tuple #[.int .i64 (n : Int), .int .i64 (m : Int), .int .i64 (k : Int), .int .i64 (j : Int)]) ?_ rfl ⟨?_, HXW.out.trans HXe.out⟩
          · simp [results, Tryz.results157, go_sem]
          · rw [HLa.out, HLb.out, ← HS0.out, ← HP0.out]
        · have hn1i : decide ((j : Int) < (n : Int) - (k : Int)) = false := decide_eq_false (by omega)
          clear hn1
          go_wp2_with fail
          refine wp_region_ew wr (Ext.refl _) (by kernel_rfl) (by kernel_rfl) ?_
          repeat (go_big_quiet_step ((fail)))
          refine wpQuiet_nil ?_
          rintro w9 ⟨⟨_, hx9⟩, rfl⟩
          clear hmn hlt2
          have HXe := Lib.hid (HXj.out.trans hx9)
          clear hx9 HXj HXo
          go_wp2_with fail
          refine bodyPost_ret (v := .tuple #[.int .i64 (n : Int), .int .i64 (m : Int), .int .i64 (k : Int), .int .i64 (j : Int)]) ?_ rfl ⟨?_, HXW.out.trans HXe.out⟩
          · simp [results, Tryz.results157, go_sem]
          · rw [HLa.out, HLb.out, ← HS0.out, ← HP0.out]
end Go.Proofs.YtagfedbdakmlgaaGreatDoor

/-! FollowR -/
namespace Go.Proofs.YtagfedbdakmlgaaGreatDoor
set_option linter.unusedVariables false
set_option linter.unusedSimpArgs false
open Go.RowKit
theorem wrap_two64 (i : Int) (n m : Nat) (h1 : n ≤ 35184372088831) (h2 : m ≤ 35184372088831) : wrap64 (wrap64 (i + (m : Int)) - (n : Int)) = IntKind.i64.wrap (i + ((m : Int) - (n : Int))) := by
  rw [IntKind.wrap_i64]
  unfold wrap64
  omega
theorem R12MoveFromW (n m p s : Nat) (i : Int) (w : World) (h1 : n ≤ 35184372088831) (h2 : m ≤ 35184372088831) (h3 : p ≤ 35184372088831) (h4 : s ≤ 35184372088831) :
    Calls Tryz.prog 158 #[.int .i64 n, .int .i64 m, .int .i64 p, .int .i64 s, .int .i64 i] w fun e w' => e = .returned (.int .i64 (wfrom n m p s i)) ∧ Ext w w' := by
  by_cases z1 : (n : Int) - (s : Int) ≤ i
  · have HV : Hid (wfrom n m p s i = IntKind.i64.wrap (i + ((m : Int) - n))) := by show _ = _; unfold wfrom; rw [if_pos z1]
    go_enter Tryz.func158, Tryz.ntmps158
    go_wp2_with fail
    go_ret
    exact ⟨ret_int (by rw [HV.out]; exact wrap_two64 i n m h1 h2), Ext.refl _⟩
  have z1' : i < (n : Int) - (s : Int) := by omega
  by_cases z2 : i < (p : Int)
  · have HV : Hid (wfrom n m p s i = i) := by show _ = _; unfold wfrom; rw [if_neg z1, if_pos z2]
    go_enter Tryz.func158, Tryz.ntmps158
    go_wp2_with fail
    go_ret
    exact ⟨ret_int HV.out.symm, Ext.refl _⟩
  have HV : Hid (wfrom n m p s i = (m : Int) - s) := by show _ = _; unfold wfrom; rw [if_neg z1, if_neg z2]
  go_enter Tryz.func158, Tryz.ntmps158
  go_wp2_with fail
  go_ret
  exact ⟨ret_int HV.out.symm, Ext.refl _⟩
theorem R12MoveToW (n m p s : Nat) (i : Int) (w : World) (h1 : n ≤ 35184372088831) (h2 : m ≤ 35184372088831) (h3 : p ≤ 35184372088831) (h4 : s ≤ 35184372088831) :
    Calls Tryz.prog 159 #[.int .i64 n, .int .i64 m, .int .i64 p, .int .i64 s, .int .i64 i] w fun e w' => e = .returned (.int .i64 (wto n m p s i)) ∧ Ext w w' := by
  by_cases z1 : i ≤ (p : Int)
  · have HV : Hid (wto n m p s i = i) := by show _ = _; unfold wto; rw [if_pos z1]
    go_enter Tryz.func159, Tryz.ntmps159
    go_wp2_with fail
    go_ret
    exact ⟨ret_int HV.out.symm, Ext.refl _⟩
  by_cases z2 : (n : Int) - (s : Int) < i
  · have HV : Hid (wto n m p s i = IntKind.i64.wrap (i + ((m : Int) - n))) := by show _ = _; unfold wto; rw [if_neg z1, if_pos z2]
    go_enter Tryz.func159, Tryz.ntmps159
    go_wp2_with fail
    go_ret
    exact ⟨ret_int (by rw [HV.out]; exact wrap_two64 i n m h1 h2), Ext.refl _⟩
  have HV : Hid (wto n m p s i = (p : Int)) := by show _ = _; unfold wto; rw [if_neg z1, if_neg z2]
  go_enter Tryz.func159, Tryz.ntmps159
  go_wp2_with fail
  go_ret
  exact ⟨ret_int HV.out.symm, Ext.refl _⟩
theorem wp_call5 {P : Program} {o : Oper} {a : Act} {w : World} {K : Act → World → Prop} {Q : Exit → Act → World → Prop} {f : FuncId} {x0 x1 x2 x3 x4 : Operand} {ts : Array TypeId} {v0 v1 v2 v3 v4 v : Value} (ho : o.op = .call { callee := .value (.func f), args := #[x0, x1, x2, x3, x4], argTypes := ts })
    (h0 : a.eval x0 = v0) (h1 : a.eval x1 = v1) (h2 : a.eval x2 = v2) (h3 : a.eval x3 = v3) (h4 : a.eval x4 = v4) (hcall : ∀ args w, (callFunc f args).run P w = .ok (.enter f args) w) (hc : Calls P f #[v0, v1, v2, v3, v4] w fun e w' => e = .returned v ∧ Ext w w')
    (h : ∀ w', Ext w w' → K (a.put o.dst v) w') : o.wp P a w K Q := by
  have h9 : Calls P f #[v0, v1, v2, v3, v4] w (fun
      | .returned u, w'' => K (a.put o.dst u) w''
      | .panicked chain, w'' => Q (.panic chain) a w''
      | .outgrown, _ => LetsOut Q) := hc.mono fun en w' hr => by
    obtain ⟨rfl, hk⟩ := hr
    exact h w' hk
  unfold Oper.wp execOp
  simp only [ho]
  have hev : a.eval (.func f) = .func (.func f) #[] #[] := rfl
  simp [resolve, invoke, hev, h0, h1, h2, h3, h4, hcall, Sem.run_bind, Deferred.ofValue]
  exact h9
/-- two calls, then two stores into a comment, in a drawn region -/
structure FolJ (g0 : Nat) (F G : Int) (cf cg : Array Value) (W : World) (us : List Value) (w' : World) : Prop where
  low : us.length ≤ 2 → Ext W w'
  v0 : 1 ≤ us.length → us[0]? = some (.int .i64 F)
  v1 : 2 ≤ us.length → us[1]? = some (.int .i64 G)
  p1 : us.length = 3 → ∃ w5, Ext W w5 ∧ w' = putB w5 g0 78 cf
  p2 : us.length = 4 → ∃ w5, Ext W w5 ∧ w' = putB (putB w5 g0 78 cf) g0 78 cg
section
variable {g0 : Nat} {F G : Int} {cf cg : Array Value} {W w' w2 : World}
theorem FolJ.start (W : World) : FolJ g0 F G cf cg W [] W.drew := ⟨fun _ => (Ext.refl W).drew, fun h => by simp at h, fun h => by simp at h, fun h => by simp at h, fun h => by simp at h⟩
theorem FolJ.c1 (h : FolJ g0 F G cf cg W [] w') (hx : Ext w' w2) : FolJ g0 F G cf cg W ([] ++ [.int .i64 F]) w2 := ⟨fun _ => (h.low (by simp)).trans hx, fun _ => rfl, fun h => by simp at h, fun h => by simp at h, fun h => by simp at h⟩
theorem FolJ.c2 {u0 : Value} (h : FolJ g0 F G cf cg W [u0] w') (hx : Ext w' w2) : FolJ g0 F G cf cg W ([u0] ++ [.int .i64 G]) w2 := ⟨fun _ => (h.low (by simp)).trans hx, fun _ => h.v0 (by simp), fun _ => rfl, fun h => by simp at h, fun h => by simp at h⟩
theorem FolJ.s1 {u0 u1 : Value} (h : FolJ g0 F G cf cg W [u0, u1] w') (u2 : Value) : FolJ g0 F G cf cg W ([u0, u1] ++ [u2]) (putB w' g0 78 cf) := ⟨fun h => by simp at h, fun _ => h.v0 (by simp), fun _ => h.v1 (by simp), fun _ => ⟨w', h.low (by simp), rfl⟩, fun h => by simp at h⟩
theorem FolJ.s2 {u0 u1 u2 : Value} {w5 : World} (h : FolJ g0 F G cf cg W [u0, u1, u2] (putB w5 g0 78 cf)) (hx : Ext W w5) (u3 : Value) : FolJ g0 F G cf cg W ([u0, u1, u2] ++ [u3]) (putB (putB w5 g0 78 cf) g0 78 cg) := ⟨fun h => by simp at h, fun _ => h.v0 (by simp), fun _ => h.v1 (by simp), fun h => by simp at h, fun _ => ⟨w5, hx, rfl⟩⟩
theorem FolJ.w0 {u0 : Value} {us : List Value} (h : FolJ g0 F G cf cg W (u0 :: us) w') : u0 = .int .i64 F := by simpa using h.v0 (by simp)
theorem FolJ.w1 {u0 u1 : Value} {us : List Value} (h : FolJ g0 F G cf cg W (u0 :: u1 :: us) w') : u1 = .int .i64 G := by simpa using h.v1 (by simp)
end
set_option maxRecDepth 100000 in
set_option maxHeartbeats 8000000 in
theorem R12Follow_any (c : Com) (before after : ByteArray) (w : World) (hb : before.size ≤ 35184372088831) (ha : after.size ≤ 35184372088831) :
    Calls Tryz.prog 113 #[.agg c.vals.toArray, .string before, .string after] w fun en w' => en = .returned (.agg (c.fol (runes before 0) (runes after 0)).vals.toArray) ∧ Ext w w' := by
  have HCm := Lib.hid (fun w' => R12Common_any before after w' hb ha)
  have hna := runes_len before
  have hnb := runes_len after
  have HX : Hid (Ext w ((w.alloc (.cells #[.int .i64 c.id, .int .i64 c.ev, .int .i64 c.fr, .int .i64 c.til, .string c.author, .string c.text, .bool c.done, .bool c.lost] 78)).alloc (.cells #[.int .i64 0, .int .i64 0, .int .i64 0, .int .i64 0, .string ⟨#[]⟩, .string ⟨#[]⟩, .bool false, .bool false] 78))) := ((Ext.refl w).alloc _).alloc _
  have HB : Hid (Blk ((w.alloc (.cells #[.int .i64 c.id, .int .i64 c.ev, .int .i64 c.fr, .int .i64 c.til, .string c.author, .string c.text, .bool c.done, .bool c.lost] 78)).alloc (.cells #[.int .i64 0, .int .i64 0, .int .i64 0, .int .i64 0, .string ⟨#[]⟩, .string ⟨#[]⟩, .bool false, .bool false] 78)) w.heap.size 78 #[.int .i64 c.id, .int .i64 c.ev, .int .i64 c.fr, .int .i64 c.til, .string c.author, .string c.text, .bool c.done, .bool c.lost]) := (Blk.new w _ _).alloc _
  have HZ : Hid (Blk ((w.alloc (.cells #[.int .i64 c.id, .int .i64 c.ev, .int .i64 c.fr, .int .i64 c.til, .string c.author, .string c.text, .bool c.done, .bool c.lost] 78)).alloc (.cells #[.int .i64 0, .int .i64 0, .int .i64 0, .int .i64 0, .string ⟨#[]⟩, .string ⟨#[]⟩, .bool false, .bool false] 78)) (w.heap.size + 1) 78 #[.int .i64 0, .int .i64 0, .int .i64 0, .int .i64 0, .string ⟨#[]⟩, .string ⟨#[]⟩, .bool false, .bool false]) := Blk.new' (by simp)
  unfold Com.vals
  generalize runes before 0 = a at *
  generalize runes after 0 = b at *
  go_enter Tryz.func113, Tryz.ntmps113
  have hcb := fun o => HB.out.cell o
  cases hlo : c.lost
  case true =>
    have HF : Hid (c.fol a b = c) := by show _ = _; unfold Com.fol; rw [if_pos hlo]
    have HLo := Lib.hid hlo
    rw [hlo] at HB HX HZ hcb
    clear hlo
    go_wp2_with (first | (refine wpList_loadB rfl 78 (.tmp 3) rfl (w.heap.size) 78 _ _ (by exact rfl) (by exact HB.out) Tryz.underlying78 rfl (by exact size_comI) ?_) | (refine wpList_storeB rfl 78 (.tmp 6) _ rfl (w.heap.size + 1) 78 _ _ (by exact rfl) (by exact rfl) (by exact HZ.out) (by exact rfl) (by exact size_comI) (by simp [Value.oneCell']) ?_))
    refine bodyPost_ret (v := .agg #[.int .i64 c.id, .int .i64 c.ev, .int .i64 c.fr, .int .i64 c.til, .string c.author, .string c.text, .bool c.done, .bool true]) ?_ rfl ⟨?_, HX.out.put (by omega) _ _⟩
    · exact results_B (P := Tryz.prog) Tryz.results113 (g := w.heap.size + 1) rfl (by exact HZ.out.put _) Tryz.underlying78 rfl size_comI
    · rw [HF.out, HLo.out]
  have HLo := Lib.hid hlo
  rw [hlo] at HB HX HZ hcb
  clear hlo
  go_wp2_with fail
  clear hcb
  have hpl := Mv.pre_le a b
  have hsl := Mv.suf_le a b (Mv.pre a b)
  obtain ⟨n, hn⟩ : ∃ n, n = a.length := ⟨_, rfl⟩
  obtain ⟨m, hm⟩ : ∃ m, m = b.length := ⟨_, rfl⟩
  obtain ⟨P0, hP0⟩ : ∃ P0, P0 = Mv.pre a b := ⟨_, rfl⟩
  obtain ⟨S0, hS0⟩ : ∃ S0, S0 = Mv.suf a b (Mv.pre a b) := ⟨_, rfl⟩
  have hn9 : n ≤ 35184372088831 := by omega
  have hm9 : m ≤ 35184372088831 := by omega
  have hP9 : P0 ≤ 35184372088831 := by omega
  have hS9 : S0 ≤ 35184372088831 := by rw [hS0]; omega
  rw [← hS0, ← hP0, ← hn, ← hm] at HCm
  have HFol : Hid (c.fol a b = c.moved (wfrom n m P0 S0 c.fr) (wto n m P0 S0 c.til)) := by
    show _ = _
    unfold Com.fol
    rw [if_neg (by rw [HLo.out]; decide), hn, hm, hS0, hP0]
  have HMf := Lib.hid (fun w' => R12MoveFromW n m P0 S0 c.fr w' hn9 hm9 hP9 hS9)
  have HMt := Lib.hid (fun w' => R12MoveToW n m P0 S0 c.til w' hn9 hm9 hP9 hS9)
  generalize wfrom n m P0 S0 c.fr = F at *
  generalize wto n m P0 S0 c.til = G at *
  clear hpl hsl hn hm hP0 hS0 hna hnb
  refine (HCm.out _).mono ?_
  rintro en W ⟨rfl, hx1⟩
  have HXW := Lib.hid (HX.out.trans hx1)
  have HBW := Lib.hid (HB.out.ext hx1)
  have HZW := Lib.hid (HZ.out.ext hx1)
  clear hx1 HX HB HZ HCm
  obtain ⟨g0, hg0⟩ : ∃ g0, g0 = w.heap.size := ⟨_, rfl⟩
  have hg1 : w.heap.size ≤ g0 := by omega
  have hg2 : g0 < w.heap.size + 1 := by omega
  rw [← hg0] at HBW
  obtain ⟨gz, hgz⟩ : ∃ gz, gz = w.heap.size + 1 := ⟨_, rfl⟩
  rw [← hgz] at HZW
  have hz1 : w.heap.size ≤ gz := by omega
  have hz2 : g0 ≠ gz := by omega
  go_upto_region 4 with fail
  rw [← hgz, ← hg0]
  clear hg0 hgz
  refine wp_region_links [some 22, some 23, some 24, some 25, some 26, some 27, some 28, some 29, some 30, some 31, some 32, some 33, some 34, some 35, some 36, none, some 37, none] [[], [], [], [], [], [4], [0, 1, 2, 3, 5], [], [], [], [], [], [11], [7, 8, 9, 10, 12, 6], [0, 1, 2, 3, 4, 5, 6, 11, 12], [14, 6, 13, 0, 1, 2, 3, 4, 5, 6, 11, 12], [0, 1, 2, 3, 4, 5, 6, 7, 8, 9, 10, 11, 12, 13, 14, 15], [16, 13, 15, 0, 1, 2, 3, 4, 5, 6, 7, 8, 9, 10, 11, 12, 13, 14, 15]] [6, 13, 15, 17] [.int .i64 (n : Int), .int .i64 (m : Int), .int .i64 (P0 : Int), .int .i64 (S0 : Int), .pointer (some ⟨g0, 2, none⟩), .int .i64 c.fr, undef, .int .i64 (n : Int), .int .i64 (m : Int), .int .i64 (P0 : Int), .int .i64 (S0 : Int), .pointer (some ⟨g0, 3, none⟩), .int .i64 c.til, undef, .pointer (some ⟨g0, 2, none⟩), undef, .pointer (some ⟨g0, 3, none⟩), undef] (FolJ g0 F G (#[.int .i64 c.id, .int .i64 c.ev, .int .i64 F, .int .i64 c.til, .string c.author, .string c.text, .bool c.done, .bool false]) (#[.int .i64 c.id, .int .i64 c.ev, .int .i64 F, .int .i64 G, .string c.author, .string c.text, .bool c.done, .bool false]) W) (by kernel_rfl) (by kernel_rfl) (by kernel_rfl) (by kernel_rfl) (by kernel_rfl) (by kernel_rfl) (by kernel_rfl) (by decide) ?_ ?_ ?_ ?_
  · exact FolJ.start W
  · intro i o ho hc a w' us K' hJ hF hlim hk
    match i, ho with
    | 0, ho =>
      simp only [List.getElem?_toArray, List.getElem?_cons_zero, List.getElem?_cons_succ, Option.some.injEq] at ho
      subst ho
      have e7 := hF.old 7 (.int .i64 (n : Int)) rfl rfl
      simp only [Act.eval] at e7
      clear hF hlim hJ
      go_simp
      exact hk
    | 1, ho =>
      simp only [List.getElem?_toArray, List.getElem?_cons_zero, List.getElem?_cons_succ, Option.some.injEq] at ho
      subst ho
      have e8 := hF.old 8 (.int .i64 (m : Int)) rfl rfl
      simp only [Act.eval] at e8
      clear hF hlim hJ
      go_simp
      exact hk
    | 2, ho =>
      simp only [List.getElem?_toArray, List.getElem?_cons_zero, List.getElem?_cons_succ, Option.some.injEq] at ho
      subst ho
      have e9 := hF.old 9 (.int .i64 (P0 : Int)) rfl rfl
      simp only [Act.eval] at e9
      clear hF hlim hJ
      go_simp
      exact hk
    | 3, ho =>
      simp only [List.getElem?_toArray, List.getElem?_cons_zero, List.getElem?_cons_succ, Option.some.injEq] at ho
      subst ho
      have e10 := hF.old 10 (.int .i64 (S0 : Int)) rfl rfl
      simp only [Act.eval] at e10
      clear hF hlim hJ
      go_simp
      exact hk
    | 4, ho =>
      simp only [List.getElem?_toArray, List.getElem?_cons_zero, List.getElem?_cons_succ, Option.some.injEq] at ho
      subst ho
      have e3 := hF.old 3 (.pointer (some ⟨g0, 0, none⟩)) rfl rfl
      simp only [Act.eval] at e3
      clear hF hlim hJ
      go_simp
      exact hk
    | 5, ho =>
      simp only [List.getElem?_toArray, List.getElem?_cons_zero, List.getElem?_cons_succ, Option.some.injEq] at ho
      subst ho
      have e26 := hF.pure 4 26 (.pointer (some ⟨g0, 2, none⟩)) rfl rfl rfl rfl
      have hcl : w'.cell? ⟨g0, 2, none⟩ = some (.int .i64 c.fr) := (HBW.out.ext (hJ.low (by have := hlim 2 15 rfl rfl; omega))).cell 2
      simp only [Act.eval] at e26
      clear hF hlim hJ
      go_simp
      exact hk
    | 6, ho => simp at hc
    | 7, ho =>
      simp only [List.getElem?_toArray, List.getElem?_cons_zero, List.getElem?_cons_succ, Option.some.injEq] at ho
      subst ho
      have e7 := hF.old 7 (.int .i64 (n : Int)) rfl rfl
      simp only [Act.eval] at e7
      clear hF hlim hJ
      go_simp
      exact hk
    | 8, ho =>
      simp only [List.getElem?_toArray, List.getElem?_cons_zero, List.getElem?_cons_succ, Option.some.injEq] at ho
      subst ho
      have e8 := hF.old 8 (.int .i64 (m : Int)) rfl rfl
      simp only [Act.eval] at e8
      clear hF hlim hJ
      go_simp
      exact hk
    | 9, ho =>
      simp only [List.getElem?_toArray, List.getElem?_cons_zero, List.getElem?_cons_succ, Option.some.injEq] at ho
      subst ho
      have e9 := hF.old 9 (.int .i64 (P0 : Int)) rfl rfl
      simp only [Act.eval] at e9
      clear hF hlim hJ
      go_simp
      exact hk
    | 10, ho =>
      simp only [List.getElem?_toArray, List.getElem?_cons_zero, List.getElem?_cons_succ, Option.some.injEq] at ho
      subst ho
      have e10 := hF.old 10 (.int .i64 (S0 : Int)) rfl rfl
      simp only [Act.eval] at e10
      clear hF hlim hJ
      go_simp
      exact hk
    | 11, ho =>
      simp only [List.getElem?_toArray, List.getElem?_cons_zero, List.getElem?_cons_succ, Option.some.injEq] at ho
      subst ho
      have e3 := hF.old 3 (.pointer (some ⟨g0, 0, none⟩)) rfl rfl
      simp only [Act.eval] at e3
      clear hF hlim hJ
      go_simp
      exact hk
    | 12, ho =>
      simp only [List.getElem?_toArray, List.getElem?_cons_zero, List.getElem?_cons_succ, Option.some.injEq] at ho
      subst ho
      have e33 := hF.pure 11 33 (.pointer (some ⟨g0, 3, none⟩)) rfl rfl rfl rfl
      have hcl : w'.cell? ⟨g0, 3, none⟩ = some (.int .i64 c.til) := (HBW.out.ext (hJ.low (by have := hlim 2 15 rfl rfl; omega))).cell 3
      simp only [Act.eval] at e33
      clear hF hlim hJ
      go_simp
      exact hk
    | 13, ho => simp at hc
    | 14, ho =>
      simp only [List.getElem?_toArray, List.getElem?_cons_zero, List.getElem?_cons_succ, Option.some.injEq] at ho
      subst ho
      have e3 := hF.old 3 (.pointer (some ⟨g0, 0, none⟩)) rfl rfl
      simp only [Act.eval] at e3
      clear hF hlim hJ
      go_simp
      exact hk
    | 15, ho => simp at hc
    | 16, ho =>
      simp only [List.getElem?_toArray, List.getElem?_cons_zero, List.getElem?_cons_succ, Option.some.injEq] at ho
      subst ho
      have e3 := hF.old 3 (.pointer (some ⟨g0, 0, none⟩)) rfl rfl
      simp only [Act.eval] at e3
      clear hF hlim hJ
      go_simp
      exact hk
    | 17, ho => simp at hc
    | i + 18, ho => simp at ho
  · intro p c' o hp ho a w' us K' hl hJ hF hk
    match p, hp with
    | 0, hp =>
      obtain rfl : 6 = c' := by simpa using hp
      simp only [List.getElem?_toArray, List.getElem?_cons_zero, List.getElem?_cons_succ, Option.some.injEq] at ho
      subst ho
      obtain rfl : us = [] := List.eq_nil_of_length_eq_zero hl
      have e22 := hF.pure 0 22 (.int .i64 (n : Int)) rfl rfl rfl rfl
      have e23 := hF.pure 1 23 (.int .i64 (m : Int)) rfl rfl rfl rfl
      have e24 := hF.pure 2 24 (.int .i64 (P0 : Int)) rfl rfl rfl rfl
      have e25 := hF.pure 3 25 (.int .i64 (S0 : Int)) rfl rfl rfl rfl
      have e27 := hF.pure 5 27 (.int .i64 c.fr) rfl rfl rfl rfl
      exact wp_call5 rfl e22 e23 e24 e25 e27 Tryz.call158 (HMf.out w') (fun w2 hx2 => hk _ w2 (hJ.c1 hx2))
    | 1, hp =>
      obtain rfl : 13 = c' := by simpa using hp
      simp only [List.getElem?_toArray, List.getElem?_cons_zero, List.getElem?_cons_succ, Option.some.injEq] at ho
      subst ho
      obtain ⟨u0, rfl⟩ := list_1 hl
      have e29 := hF.pure 7 29 (.int .i64 (n : Int)) rfl rfl rfl rfl
      have e30 := hF.pure 8 30 (.int .i64 (m : Int)) rfl rfl rfl rfl
      have e31 := hF.pure 9 31 (.int .i64 (P0 : Int)) rfl rfl rfl rfl
      have e32 := hF.pure 10 32 (.int .i64 (S0 : Int)) rfl rfl rfl rfl
      have e34 := hF.pure 12 34 (.int .i64 c.til) rfl rfl rfl rfl
      exact wp_call5 rfl e29 e30 e31 e32 e34 Tryz.call159 (HMt.out w') (fun w2 hx2 => hk _ w2 (hJ.c2 hx2))
    | 2, hp =>
      obtain rfl : 15 = c' := by simpa using hp
      simp only [List.getElem?_toArray, List.getElem?_cons_zero, List.getElem?_cons_succ, Option.some.injEq] at ho
      subst ho
      obtain ⟨u0, u1, rfl⟩ := list_2 hl
      obtain rfl := hJ.w0
      have e36 := hF.pure 14 36 (.pointer (some ⟨g0, 2, none⟩)) rfl rfl rfl rfl
      have e28 := hF.link 0 6 28 _ rfl rfl rfl rfl
      have hB8 := HBW.out.ext (hJ.low (by simp))
      have hs := setCell_put hB8 2 (.int .i64 F)
      have hc := hB8.cell 2
      have hf := hB8.frozen 2
      simp only [Act.eval] at e28 e36
      simp at hs hc
      have HK := Lib.hid (hk (.tuple #[]) _ (hJ.s1 (.tuple #[])))
      clear hk hF hJ hB8
      go_simp
      exact HK.out
    | 3, hp =>
      obtain rfl : 17 = c' := by simpa using hp
      simp only [List.getElem?_toArray, List.getElem?_cons_zero, List.getElem?_cons_succ, Option.some.injEq] at ho
      subst ho
      obtain ⟨u0, u1, u2, rfl⟩ := list_3 hl
      obtain rfl := hJ.w1
      obtain ⟨w5, hx5, rfl⟩ := hJ.p1 rfl
      have e37 := hF.pure 16 37 (.pointer (some ⟨g0, 3, none⟩)) rfl rfl rfl rfl
      have e35 := hF.link 1 13 35 _ rfl rfl rfl rfl
      have hB8 := (HBW.out.ext hx5).put (#[.int .i64 c.id, .int .i64 c.ev, .int .i64 F, .int .i64 c.til, .string c.author, .string c.text, .bool c.done, .bool false])
      have hs := setCell_put hB8 3 (.int .i64 G)
      have hc := hB8.cell 3
      have hf := hB8.frozen 3
      simp only [Act.eval] at e35 e37
      simp at hs hc
      have HK := Lib.hid (hk (.tuple #[]) _ (hJ.s2 hx5 (.tuple #[])))
      clear hk hF hJ hB8
      go_simp
      exact HK.out
    | p + 4, hp => simp at hp
  intro us w9 hl hJ
  obtain ⟨u0, u1, u2, u3, rfl⟩ := list_4 hl
  first | (rename_i hK; refine hK _ _ ?_; clear hK) | (rename_i hK hK_1; refine hK _ _ ?_; clear hK) | (rename_i hK hK_1 hK_2; refine hK _ _ ?_; clear hK) | (rename_i hK hK_1 hK_2 hK_3; refine hK _ _ ?_; clear hK)
  generalize hL : frameL _ _ _ _ = L
  obtain rfl : L = [(22, .int .i64 (n : Int)), (23, .int .i64 (m : Int)), (24, .int .i64 (P0 : Int)), (25, .int .i64 (S0 : Int)), (26, .pointer (some ⟨g0, 2, none⟩)), (27, .int .i64 c.fr), (28, u0), (29, .int .i64 (n : Int)), (30, .int .i64 (m : Int)), (31, .int .i64 (P0 : Int)), (32, .int .i64 (S0 : Int)), (33, .pointer (some ⟨g0, 3, none⟩)), (34, .int .i64 c.til), (35, u1), (36, .pointer (some ⟨g0, 2, none⟩)), (37, .pointer (some ⟨g0, 3, none⟩))] := hL.symm.trans (by kernel_rfl)
  clear hL hl
  simp only [Act.put, List.foldl_cons, List.foldl_nil, List.setIfInBounds_toArray, List.set_cons_zero, List.set_cons_succ]
  obtain rfl := hJ.w0
  obtain rfl := hJ.w1
  obtain ⟨w5, hx5, rfl⟩ := hJ.p2 rfl
  clear hJ
  have HX5 := Lib.hid ((HXW.out.trans hx5).put (g := g0) hg1 78 #[.int .i64 c.id, .int .i64 c.ev, .int .i64 F, .int .i64 c.til, .string c.author, .string c.text, .bool c.done, .bool false] |>.put (g := g0) hg1 78 #[.int .i64 c.id, .int .i64 c.ev, .int .i64 F, .int .i64 G, .string c.author, .string c.text, .bool c.done, .bool false])
  have HB5 := Lib.hid (((HBW.out.ext hx5).put #[.int .i64 c.id, .int .i64 c.ev, .int .i64 F, .int .i64 c.til, .string c.author, .string c.text, .bool c.done, .bool false]).put #[.int .i64 c.id, .int .i64 c.ev, .int .i64 F, .int .i64 G, .string c.author, .string c.text, .bool c.done, .bool false])
  have HZ5 := Lib.hid (((HZW.out.ext hx5).put_other (g' := g0) (t' := 78) hz2 #[.int .i64 c.id, .int .i64 c.ev, .int .i64 F, .int .i64 c.til, .string c.author, .string c.text, .bool c.done, .bool false]).put_other (g' := g0) (t' := 78) hz2 #[.int .i64 c.id, .int .i64 c.ev, .int .i64 F, .int .i64 G, .string c.author, .string c.text, .bool c.done, .bool false])
  obtain ⟨W9, hW9⟩ : ∃ W9, W9 = putB (putB w5 g0 78 #[.int .i64 c.id, .int .i64 c.ev, .int .i64 F, .int .i64 c.til, .string c.author, .string c.text, .bool c.done, .bool false]) g0 78 #[.int .i64 c.id, .int .i64 c.ev, .int .i64 F, .int .i64 G, .string c.author, .string c.text, .bool c.done, .bool false] := ⟨_, rfl⟩
  rw [← hW9] at HX5 HB5 HZ5 ⊢
  clear hW9
  have hcb := fun o => HB5.out.cell o
  have hfb := fun o => HB5.out.frozen o
  by_cases hge : G ≤ F
  · have HM : Hid (c.moved F G = ⟨c.id, c.ev, 0, 0, c.author, c.text, c.done, true⟩) := by show _ = _; unfold Com.moved; rw [if_pos hge]
    have s1 := setCell_put HB5.out 2 (.int .i64 0)
    have HB6 := Lib.hid (HB5.out.put #[.int .i64 c.id, .int .i64 c.ev, .int .i64 0, .int .i64 G, .string c.author, .string c.text, .bool c.done, .bool false])
    have s2 := setCell_put HB6.out 3 (.int .i64 0)
    have HB7 := Lib.hid (HB6.out.put #[.int .i64 c.id, .int .i64 c.ev, .int .i64 0, .int .i64 0, .string c.author, .string c.text, .bool c.done, .bool false])
    have s3 := setCell_put HB7.out 7 (.bool true)
    have hc6 := fun o => HB6.out.cell o
    have hc7 := fun o => HB7.out.cell o
    have hf6 := fun o => HB6.out.frozen o
    have hf7 := fun o => HB7.out.frozen o
    simp at s1 s2 s3
    have HZ8 := Lib.hid (((HZ5.out.put_other (g' := g0) (t' := 78) hz2 #[.int .i64 c.id, .int .i64 c.ev, .int .i64 0, .int .i64 G, .string c.author, .string c.text, .bool c.done, .bool false]).put_other (g' := g0) (t' := 78) hz2 #[.int .i64 c.id, .int .i64 c.ev, .int .i64 0, .int .i64 0, .string c.author, .string c.text, .bool c.done, .bool false]).put_other (g' := g0) (t' := 78) hz2 #[.int .i64 c.id, .int .i64 c.ev, .int .i64 0, .int .i64 0, .string c.author, .string c.text, .bool c.done, .bool true])
    have HX8 := Lib.hid (((HX5.out.put (g := g0) hg1 78 #[.int .i64 c.id, .int .i64 c.ev, .int .i64 0, .int .i64 G, .string c.author, .string c.text, .bool c.done, .bool false]).put (g := g0) hg1 78 #[.int .i64 c.id, .int .i64 c.ev, .int .i64 0, .int .i64 0, .string c.author, .string c.text, .bool c.done, .bool false]).put (g := g0) hg1 78 #[.int .i64 c.id, .int .i64 c.ev, .int .i64 0, .int .i64 0, .string c.author, .string c.text, .bool c.done, .bool true])
    have HB8 := Lib.hid (HB7.out.put #[.int .i64 c.id, .int .i64 c.ev, .int .i64 0, .int .i64 0, .string c.author, .string c.text, .bool c.done, .bool true])
    go_wp2_with (first | (refine wpList_loadB rfl 78 (.tmp 3) rfl g0 78 _ _ (by exact rfl) (by exact HB8.out) Tryz.underlying78 rfl (by exact size_comI) ?_) | (refine wpList_storeB rfl 78 (.tmp 6) _ rfl gz 78 _ _ (by exact rfl) (by exact rfl) (by exact HZ8.out) (by exact rfl) (by exact size_comI) (by simp [Value.oneCell']) ?_))
    refine bodyPost_ret (v := .agg #[.int .i64 c.id, .int .i64 c.ev, .int .i64 0, .int .i64 0, .string c.author, .string c.text, .bool c.done, .bool true]) ?_ rfl ⟨?_, HX8.out.put (by omega) _ _⟩
    · exact results_B (P := Tryz.prog) Tryz.results113 (g := gz) rfl (by exact HZ8.out.put _) Tryz.underlying78 rfl size_comI
    · rw [HFol.out, HM.out]
  · have HM : Hid (c.moved F G = ⟨c.id, c.ev, F, G, c.author, c.text, c.done, c.lost⟩) := by show _ = _; unfold Com.moved; rw [if_neg hge]
    go_wp2_with (first | (refine wpList_loadB rfl 78 (.tmp 3) rfl g0 78 _ _ (by exact rfl) (by exact HB5.out) Tryz.underlying78 rfl (by exact size_comI) ?_) | (refine wpList_storeB rfl 78 (.tmp 6) _ rfl gz 78 _ _ (by exact rfl) (by exact rfl) (by exact HZ5.out) (by exact rfl) (by exact size_comI) (by simp [Value.oneCell']) ?_))
    refine bodyPost_ret (v := .agg #[.int .i64 c.id, .int .i64 c.ev, .int .i64 F, .int .i64 G, .string c.author, .string c.text, .bool c.done, .bool false]) ?_ rfl ⟨?_, HX5.out.put (by omega) _ _⟩
    · exact results_B (P := Tryz.prog) Tryz.results113 (g := gz) rfl (by exact HZ5.out.put _) Tryz.underlying78 rfl size_comI
    · rw [HFol.out, HM.out, HLo.out]
end Go.Proofs.YtagfedbdakmlgaaGreatDoor

/-! EPlainR -/
namespace Go.Proofs.YtagfedbdakmlgaaGreatDoor
set_option linter.unusedVariables false
set_option linter.unusedSimpArgs false
open Go.RowKit
theorem joinL_snoc (l : List (List UInt8)) (x : List UInt8) (h : l ≠ []) : Lib.join (l ++ [x]) [10] = Lib.join l [10] ++ ([10] ++ x) := by
  cases l with
  | nil => exact absurd rfl h
  | cons a r => rw [List.cons_append, Lib.join_cons, Lib.join_cons]; simp [Lib.joinTail]
theorem joinL_one (x : List UInt8) : Lib.join ([] ++ [x]) [10] = x := Lib.join_one x [10]
def REPlRel (w1 : World) (n : Nat) (e : Ev) (v i : Value) (wr : World) : Prop := ∃ k : Nat, k ≤ n ∧ i = .int .i64 k ∧ v = .string ⟨(Lib.join ((e.rows.take k).map rowText) [10]).toArray⟩ ∧ Ext w1 wr
set_option maxRecDepth 100000 in
set_option maxHeartbeats 1000000 in
theorem R11Plain_any (e : Ev) (A : Option Addr) (n c : Nat) (w : World) (he : EvAt w e A n c) (hby : e.bytes ≤ 1099511627776) (hrn : ∀ r ∈ e.rows, r.length ≤ 4611686018427387904) :
    Calls Tryz.prog 87 #[.agg (e.cells A n c)] w fun en w' => en = .returned (.string ⟨e.text.toArray⟩) ∧ Ext w w' := by
  have hn24 : n * 24 ≤ 140737488355328 := by have := he.2; omega
  have HA := Lib.hid he.1
  have HLn := Lib.hid he.len
  have HRn := Lib.hid hrn
  have HX := Lib.hid ((Ext.refl w).alloc (.cells (e.cells A n c) 66))
  clear he hrn
  unfold Ev.cells at *
  go_enter Tryz.func87, Tryz.ntmps87
  go_wp2_with fail
  go_loopw [3, 9] (fun v i wr => REPlRel w n e v i wr) (fun _ i _ => n - (intOf i).toNat)
  case atStart => exact ⟨0, Nat.zero_le _, rfl, rfl, HX.out⟩
  case round =>
    obtain ⟨k, hk, rfl, rfl, hx⟩ := hrel
    by_cases hlt : k < n
    · obtain ⟨b, off, r, rfl, hr, A', n', c', hcell, hnc, hc40, hruns⟩ := (HA.out.ext hx).at_ hlt
      simp only [Nat.mul_one] at hcell
      have HR := Lib.hid hruns
      have h1 := sum_take_le e.rows k r hr
      have htk : (e.rows.take (k + 1)).map rowText = (e.rows.take k).map rowText ++ [rowText r] := by
        rw [take_snoc' e.rows k r hr, List.map_append]
        rfl
      have hby' : (e.rows.map rowBytes).sum ≤ 1099511627776 := hby
      have hrb : rowBytes r ≤ 1099511627776 := by omega
      have hnr : n' ≤ 4611686018427387904 := by have h5 := hruns.len; have h6 := HRn.out r (List.mem_of_getElem? hr); omega
      have hjl : (Lib.join ((e.rows.take k).map rowText) [10]).length ≤ 1099511627776 + n := by
        have h7 := join_len [10] ((e.rows.take k).map rowText)
        have h8 : (((e.rows.take k).map rowText).map List.length) = (e.rows.take k).map rowBytes := by
          rw [List.map_map]
          apply List.map_congr_left
          intro r _
          exact rowText_len r
        rw [h8] at h7
        simp only [List.length_map, List.length_singleton, Nat.mul_one] at h7
        have h9 := List.length_take_le k e.rows
        have h10 : (e.rows.take k).length ≤ n := by have := HLn.out; rw [List.length_take]; omega
        omega
      have hrl := rowText_len r
      have HJ := Lib.hid htk
      have HNe : Hid (0 < k → (e.rows.take k).map rowText ≠ []) := by
        show _ → _
        intro h0 hn
        have := congrArg List.length hn
        have h9 := HLn.out
        rw [List.length_map, List.length_take] at this
        simp only [List.length_nil] at this
        omega
      clear hr hruns h1 hby' htk
      by_cases hk0 : k = 0
      · have hkz : ¬ (0 : Int) < (k : Int) := by omega
        have HT : Hid (Lib.join ((e.rows.take (k + 1)).map rowText) [10] = rowText r) := by
          show _ = _
          rw [HJ.out, hk0]
          exact joinL_one _
        have HT0 : Hid (Lib.join ((e.rows.take k).map rowText) [10] = []) := by
          show _ = _
          rw [hk0]
          rfl
        have hz : (Lib.join ((e.rows.take k).map rowText) [10]).length = 0 := by rw [HT0.out]; rfl
        obtain ⟨xs, hxs⟩ : ∃ xs, xs = Lib.join ((e.rows.take k).map rowText) [10] := ⟨_, rfl⟩
        rw [← hxs]
        rw [← hxs] at HT0 hz
        clear hjl HJ HNe hk0 hxs
        go_wp2_with fail
        refine (R9Plain_any A' n' c' r _ (HR.out.ext ((Ext.refl wr).alloc _)) (by omega) hnr).mono ?_
        rintro en w2 ⟨rfl, hx2⟩
        go_wp2_with fail
        refine ⟨⟨k + 1, by omega, by go_num, ?_, (hx.alloc _).trans hx2⟩, by simp [intOf]; omega⟩
        rw [HT.out, HT0.out]
        exact congrArg Value.string (ByteArray.ext (by simp [ByteArray.data_append]; try rfl))
      · have hkp : (0 : Int) < (k : Int) := by omega
        have HT : Hid (Lib.join ((e.rows.take (k + 1)).map rowText) [10] = Lib.join ((e.rows.take k).map rowText) [10] ++ ([10] ++ rowText r)) := by
          show _ = _
          rw [HJ.out]
          exact joinL_snoc _ _ (HNe.out (by omega))
        obtain ⟨xs, hxs⟩ : ∃ xs, xs = Lib.join ((e.rows.take k).map rowText) [10] := ⟨_, rfl⟩
        rw [← hxs]
        rw [← hxs] at HT hjl
        clear hxs HJ HNe
        go_wp2_with fail
        refine (R9Plain_any A' n' c' r _ (HR.out.ext ((Ext.refl wr).alloc _)) (by omega) hnr).mono ?_
        rintro en w2 ⟨rfl, hx2⟩
        go_wp2_with fail
        refine ⟨⟨k + 1, by omega, by go_num, ?_, (hx.alloc _).trans hx2⟩, by simp [intOf]; omega⟩
        rw [HT.out]
        exact congrArg Value.string (ByteArray.ext (by simp [ByteArray.data_append]))
    · have HT : Hid (e.rows.take k = e.rows) := List.take_of_length_le (by rw [HLn.out]; omega)
      go_wp2_with fail
      go_ret
      exact ⟨by rw [HT.out]; rfl, hx⟩
end Go.Proofs.YtagfedbdakmlgaaGreatDoor
