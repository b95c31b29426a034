/- Laid together: The walks of the reference's Common, MoveFrom, MoveTo, Move. The walk of the reference's Follow. Arguments opened: what every seat needs; the environment out of the row's list; what the frame of a law asks behind the call. -/
import Derived.Test.YtagfedbdakmlgaaDoorPk19
import Derived.Test.YtagfedbdakmlgaaDoorPk17
import Derived.Test.YtagfedbdakmlgaaDoorPk08
import Derived.Test.YtagfedbdakmlgaaDoorPk14
import Derived.Test.YtagfedbdakmlgaaDoorPk11
import Derived.Test.YtagfedbdakmlgaaDoorPk01
import Derived.Test.YtagfedbdakmlgaaDoorShelf
import Derived.Lib.LaidU8T
import Derived.Deep.DeepHandedRow
import Derived.Lib.LaidTab

/-! MoveR -/
namespace Go.Proofs.YtagfedbdakmlgaaDoor
set_option linter.unusedVariables false
set_option linter.unusedSimpArgs false
open Go.RowKit

set_option maxRecDepth 100000 in
set_option maxHeartbeats 8000000 in
theorem R12Common_any (before after : ByteArray) (w : World) (hb : before.size ≤ 35184372088831) (ha : after.size ≤ 35184372088831) :
    Calls Tryd.prog 30 #[.string before, .string after] w fun en w' => en = .returned (.tuple #[.int .i64 ((runes before 0).length : Int), .int .i64 ((runes after 0).length : Int), .int .i64 (Mv.pre (runes before 0) (runes after 0) : Int), .int .i64 (Mv.suf (runes before 0) (runes after 0) (Mv.pre (runes before 0) (runes after 0)) : Int)]) ∧ Ext w w' := by
  have HRa := Lib.hid (fun w' => R12runes_any before w' hb)
  have HRb := Lib.hid (fun w' => R12runes_any after w' ha)
  have hna := runes_len before
  have hnb := runes_len after
  unfold RunesPost at HRa HRb
  generalize runes before 0 = a at *
  generalize runes after 0 = b at *
  go_enter Tryd.func30, Tryd.ntmps30
  go_wp2_with fail
  refine (HRa.out _).mono ?_
  rintro en w1 ⟨A, n, c1, rfl, hat1, hc1, hx1⟩
  go_wp2_with fail
  refine (HRb.out _).mono ?_
  rintro en W ⟨B, m, c2, rfl, hat2, hc2, hx2⟩
  have HXW := Lib.hid (hx1.trans hx2)
  have HA := Lib.hid (hat1.ext hx2)
  have HBr := Lib.hid hat2
  have HLa := Lib.hid hat1.len
  have HLb := Lib.hid hat2.len
  have hn9 : n ≤ 35184372088831 := by have := hat1.len; omega
  have hm9 : m ≤ 35184372088831 := by have := hat2.len; omega
  clear hx1 hx2 hat1 hat2 hna hnb HRa HRb
  go_wp2_with fail
  have hpl := Mv.pre_le a b
  have hsl := Mv.suf_le a b (Mv.pre a b)
  have hla := HLa.out
  have hlb := HLb.out
  obtain ⟨P0, hP0⟩ : ∃ P0, P0 = Mv.pre a b := ⟨_, rfl⟩
  obtain ⟨S0, hS0⟩ : ∃ S0, S0 = Mv.suf a b (Mv.pre a b) := ⟨_, rfl⟩
  have hp1 : P0 ≤ n ∧ P0 ≤ m := by omega
  have hs1 : P0 + S0 ≤ n ∧ P0 + S0 ≤ m := by rw [hP0, hS0]; omega
  have HP0 := Lib.hid hP0
  have HS0 := Lib.hid hS0
  clear hpl hsl hP0 hS0 hla hlb
  go_loopw [6] (fun v wr => PreRel W a b v wr) (fun v _ => n - (intOf v).toNat)
  case atStart => exact ⟨0, Nat.zero_le _, rfl, Ext.refl _⟩
  case round =>
    obtain ⟨k, hk, rfl, hx⟩ := hrel
    have HX := Lib.hid hx
    have HK := Lib.hid hk
    have hkP : k ≤ P0 := by rw [HP0.out]; exact hk
    clear hk hx
    by_cases hlt : k < n ∧ k < m
    · obtain ⟨hn1, hm1⟩ := hlt
      obtain ⟨b1, o1, x, hA1, hx1, c1⟩ := (HA.out.ext HX.out).cell hn1
      obtain ⟨b2, o2, y, hA2, hx2, c2⟩ := (HBr.out.ext HX.out).cell hm1
      subst hA1 hA2
      have hmn : (k : Int) < min (n : Int) (m : Int) := by omega
      have hn1i : (k : Int) < (n : Int) := by omega
      have hm1i : (k : Int) < (m : Int) := by omega
      have hk0 : (0 : Int) ≤ (k : Int) := by omega
      have fc1 := fun (y : EW wr) => y.ext.cell c1
      have fc2 := fun (y : EW wr) => y.ext.cell c2
      clear c1 c2
      by_cases he : x = y
      · have heb : (x == y) = true := by simpa using he
        have HN := Lib.hid (Mv.pre_step HK.out hx1 hx2 he)
        clear hx1 hx2 he
        go_wp2_with fail
        refine wp_region_ew wr (Ext.refl _) (by kernel_rfl) (by kernel_rfl) ?_
        repeat (go_big_quiet_step ((fail)))
        refine wpQuiet_nil ?_
        rintro w9 ⟨⟨_, hx9⟩, rfl⟩
        clear fc1 fc2
        go_wp2_with fail
        exact ⟨⟨k + 1, HN.out, by go_num, HX.out.trans hx9⟩, by simp [intOf]; omega⟩
      have heb : (x == y) = false := by simpa using he
      have hkp : k = P0 := by rw [HP0.out]; exact Mv.pre_stop HK.out (.inr (.inr ⟨x, y, hx1, hx2, he⟩))
      subst hkp
      clear hx1 hx2 he
      go_wp2_with fail
      refine wp_region_ew wr (Ext.refl _) (by kernel_rfl) (by kernel_rfl) ?_
      repeat (go_big_quiet_step ((fail)))
      refine wpQuiet_nil ?_
      rintro w9 ⟨⟨_, hx9⟩, rfl⟩
      clear fc1 fc2 hmn hn1i hm1i hk0 heb
      have HX9 := Lib.hid (HX.out.trans hx9)
      clear hx9 HX
      go_wp2_with fail
      obtain ⟨wo, rfl⟩ : ∃ wo : World, wo = w9 := ⟨_, rfl⟩
      go_loopw [7] (fun v wr => SufRel wo a b v wr) (fun v _ => n - (intOf v).toNat)
      case atStart => exact ⟨0, Nat.zero_le _, rfl, Ext.refl _⟩
      case round =>
        obtain ⟨j, hj, rfl, hx⟩ := hrel
        have HXj := Lib.hid (HX9.out.trans hx)
        have HXo := Lib.hid hx
        have HJ := Lib.hid hj
        have hjS : j ≤ S0 := by rw [HS0.out]; exact hj
        clear hj hx
        have hj0 : (0 : Int) ≤ (j : Int) := by omega
        by_cases hlt2 : j < n - k ∧ j < m - k
        · obtain ⟨hn2, hm2⟩ := hlt2
          obtain ⟨b1, o1, x, hA1, hx1, c1⟩ := (HA.out.ext HXj.out).cell (i := n - 1 - j) (by omega)
          obtain ⟨b2, o2, y, hA2, hx2, c2⟩ := (HBr.out.ext HXj.out).cell (i := m - 1 - j) (by omega)
          have HA1 := Lib.hid hA1
          have HA2 := Lib.hid hA2
          clear hA1 hA2
          have hmn : (j : Int) < min (n : Int) (m : Int) - (k : Int) := by omega
          have hd1 : (j : Int) < (n : Int) - (k : Int) := by omega
          have hd2 : (j : Int) < (m : Int) - (k : Int) := by omega
          have hi1 : (n : Int) - 1 - (j : Int) = ((n - 1 - j : Nat) : Int) := by omega
          have hi2 : (m : Int) - 1 - (j : Int) = ((m - 1 - j : Nat) : Int) := by omega
          have hi3 : ((n : Int) - 1 - (j : Int)).toNat = n - 1 - j := by omega
          have hi4 : ((m : Int) - 1 - (j : Int)).toNat = m - 1 - j := by omega
          have hi5 : (0 : Int) ≤ (n : Int) - 1 - (j : Int) ∧ (n : Int) - 1 - (j : Int) < (n : Int) := by omega
          have hi6 : (0 : Int) ≤ (m : Int) - 1 - (j : Int) ∧ (m : Int) - 1 - (j : Int) < (m : Int) := by omega
          obtain ⟨hi7, hi8⟩ := hi5
          obtain ⟨hi9, hi10⟩ := hi6
          have hi11 : n - 1 - j < n := by omega
          have hi12 : m - 1 - j < m := by omega
          have fc1 := fun (y : EW wr) => y.ext.cell c1
          have fc2 := fun (y : EW wr) => y.ext.cell c2
          clear c1 c2
          have hA1 := HA1.out
          have hA2 := HA2.out
          by_cases he : x = y
          · have heb : (x == y) = true := by simpa using he
            have HN := Lib.hid (Mv.suf_step HJ.out (by have := HLa.out; have := HP0.out; omega) (by have := HLb.out; have := HP0.out; omega) (by rw [HLa.out]; exact hx1) (by rw [HLb.out]; exact hx2) he)
            clear hx1 hx2 he
            first | subst hA1 | skip
            first | subst hA2 | skip
            go_wp2_with fail
            refine wp_region_ew wr (Ext.refl _) (by kernel_rfl) (by kernel_rfl) ?_
            repeat (go_big_quiet_step ((fail)))
            refine wpQuiet_nil ?_
            rintro w9 ⟨⟨_, hx9⟩, rfl⟩
            clear fc1 fc2
            go_wp2_with fail
            exact ⟨⟨j + 1, HN.out, by go_num, HXo.out.trans hx9⟩, by simp [intOf]; omega⟩
          have heb : (x == y) = false := by simpa using he
          have hjs : j = S0 := by
            rw [HS0.out]
            exact Mv.suf_stop HJ.out (.inr (.inr ⟨x, y, by have := HLa.out; have := HP0.out; omega, by have := HLb.out; have := HP0.out; omega, by rw [HLa.out]; exact hx1, by rw [HLb.out]; exact hx2, he⟩))
          subst hjs
          clear hx1 hx2 he
          first | subst hA1 | skip
          first | subst hA2 | skip
          go_wp2_with fail
          refine wp_region_ew wr (Ext.refl _) (by kernel_rfl) (by kernel_rfl) ?_
          repeat (go_big_quiet_step ((fail)))
          refine wpQuiet_nil ?_
          rintro w9 ⟨⟨_, hx9⟩, rfl⟩
          clear fc1 fc2 hmn hd1 hd2 hi1 hi2 hi3 hi4 hi7 hi8 hi9 hi10 hi11 hi12 heb
          have HXe := Lib.hid (HXj.out.trans hx9)
          clear hx9 HXj HXo
          go_wp2_with fail
          refine bodyPost_ret (v := .tuple #[.int .i64 (n : Int), .int .i64 (m : Int), .int .i64 (k : Int), .int .i64 (j : Int)]) ?_ rfl ⟨?_, HXW.out.trans HXe.out⟩
          · simp [results, Tryd.results30, go_sem]
          · rw [HLa.out, HLb.out, ← HS0.out, ← HP0.out]
        have hjs : j = S0 := by
          rw [HS0.out]
          refine Mv.suf_stop HJ.out ?_
          have h1 := HLa.out
          have h2 := HLb.out
          have h3 := HP0.out
          by_cases h : j < n - k
          · exact .inr (.inl (by omega))
          · exact .inl (by omega)
        subst hjs
        have hmn : decide ((j : Int) < min (n : Int) (m : Int) - (k : Int)) = false := decide_eq_false (by omega)
        by_cases hn1 : j < n - k
        · have hn1i : (j : Int) < (n : Int) - (k : Int) := by omega
          have hm1i : decide ((j : Int) < (m : Int) - (k : Int)) = false := decide_eq_false (by omega)
          clear hn1
          go_wp2_with fail
          refine wp_region_ew wr (Ext.refl _) (by kernel_rfl) (by kernel_rfl) ?_
          repeat (go_big_quiet_step ((fail)))
          refine wpQuiet_nil ?_
          rintro w9 ⟨⟨_, hx9⟩, rfl⟩
          clear hmn hlt2
          have HXe := Lib.hid (HXj.out.trans hx9)
          clear hx9 HXj HXo
          go_wp2_with fail
          refine bodyPost_ret (v := .tuple #[.int .i64 (n : Int), .int .i64 (m : Int), .int .i64 (k : Int), .int .i64 (j : Int)]) ?_ rfl ⟨?_, HXW.out.trans HXe.out⟩
          · simp [results, Tryd.results30, go_sem]
          · rw [HLa.out, HLb.out, ← HS0.out, ← HP0.out]
        · have hn1i : decide ((j : Int) < (n : Int) - (k : Int)) = false := decide_eq_false (by omega)
          clear hn1
          go_wp2_with fail
          refine wp_region_ew wr (Ext.refl _) (by kernel_rfl) (by kernel_rfl) ?_
          repeat (go_big_quiet_step ((fail)))
          refine wpQuiet_nil ?_
          rintro w9 ⟨⟨_, hx9⟩, rfl⟩
          clear hmn hlt2
          have HXe := Lib.hid (HXj.out.trans hx9)
          clear hx9 HXj HXo
          go_wp2_with fail
          refine bodyPost_ret (v := .tuple #[.int .i64 (n : Int), .int .i64 (m : Int), .int .i64 (k : Int), .int .i64 (j : Int)]) ?_ rfl ⟨?_, HXW.out.trans HXe.out⟩
          · simp [results, Tryd.results30, go_sem]
          · rw [HLa.out, HLb.out, ← HS0.out, ← HP0.out]
    have hkp : k = P0 := by
      rw [HP0.out]
      refine Mv.pre_stop HK.out ?_
      have h1 := HLa.out
      have h2 := HLb.out
      by_cases h : k < n
      · exact .inr (.inl (by omega))
      · exact .inl (by omega)
    subst hkp
    have hmn : decide ((k : Int) < min (n : Int) (m : Int)) = false := decide_eq_false (by omega)
    have w9x := HX.out
    go_wp2_with fail
    by_cases hn1 : k < n
    · have hn1i : decide (k < n) = true := decide_eq_true (by omega)
      have hm1i : decide (k < m) = false := decide_eq_false (by omega)
      clear hn1
      refine wp_region_ew wr (Ext.refl _) (by kernel_rfl) (by kernel_rfl) ?_
      repeat (go_big_quiet_step ((fail)))
      refine wpQuiet_nil ?_
      rintro w9 ⟨⟨_, hx9⟩, rfl⟩
      clear hmn w9x hlt
      have HX9 := Lib.hid (HX.out.trans hx9)
      clear hx9 HX
      go_wp2_with fail
      obtain ⟨wo, rfl⟩ : ∃ wo : World, wo = w9 := ⟨_, rfl⟩
      go_loopw [7] (fun v wr => SufRel wo a b v wr) (fun v _ => n - (intOf v).toNat)
      case atStart => exact ⟨0, Nat.zero_le _, rfl, Ext.refl _⟩
      case round =>
        obtain ⟨j, hj, rfl, hx⟩ := hrel
        have HXj := Lib.hid (HX9.out.trans hx)
        have HXo := Lib.hid hx
        have HJ := Lib.hid hj
        have hjS : j ≤ S0 := by rw [HS0.out]; exact hj
        clear hj hx
        have hj0 : (0 : Int) ≤ (j : Int) := by omega
        by_cases hlt2 : j < n - k ∧ j < m - k
        · obtain ⟨hn2, hm2⟩ := hlt2
          obtain ⟨b1, o1, x, hA1, hx1, c1⟩ := (HA.out.ext HXj.out).cell (i := n - 1 - j) (by omega)
          obtain ⟨b2, o2, y, hA2, hx2, c2⟩ := (HBr.out.ext HXj.out).cell (i := m - 1 - j) (by omega)
          have HA1 := Lib.hid hA1
          have HA2 := Lib.hid hA2
          clear hA1 hA2
          have hmn : (j : Int) < min (n : Int) (m : Int) - (k : Int) := by omega
          have hd1 : (j : Int) < (n : Int) - (k : Int) := by omega
          have hd2 : (j : Int) < (m : Int) - (k : Int) := by omega
          have hi1 : (n : Int) - 1 - (j : Int) = ((n - 1 - j : Nat) : Int) := by omega
          have hi2 : (m : Int) - 1 - (j : Int) = ((m - 1 - j : Nat) : Int) := by omega
          have hi3 : ((n : Int) - 1 - (j : Int)).toNat = n - 1 - j := by omega
          have hi4 : ((m : Int) - 1 - (j : Int)).toNat = m - 1 - j := by omega
          have hi5 : (0 : Int) ≤ (n : Int) - 1 - (j : Int) ∧ (n : Int) - 1 - (j : Int) < (n : Int) := by omega
          have hi6 : (0 : Int) ≤ (m : Int) - 1 - (j : Int) ∧ (m : Int) - 1 - (j : Int) < (m : Int) := by omega
          obtain ⟨hi7, hi8⟩ := hi5
          obtain ⟨hi9, hi10⟩ := hi6
          have hi11 : n - 1 - j < n := by omega
          have hi12 : m - 1 - j < m := by omega
          have fc1 := fun (y : EW wr) => y.ext.cell c1
          have fc2 := fun (y : EW wr) => y.ext.cell c2
          clear c1 c2
          have hA1 := HA1.out
          have hA2 := HA2.out
          by_cases he : x = y
          · have heb : (x == y) = true := by simpa using he
            have HN := Lib.hid (Mv.suf_step HJ.out (by have := HLa.out; have := HP0.out; omega) (by have := HLb.out; have := HP0.out; omega) (by rw [HLa.out]; exact hx1) (by rw [HLb.out]; exact hx2) he)
            clear hx1 hx2 he
            first | subst hA1 | skip
            first | subst hA2 | skip
            go_wp2_with fail
            refine wp_region_ew wr (Ext.refl _) (by kernel_rfl) (by kernel_rfl) ?_
            repeat (go_big_quiet_step ((fail)))
            refine wpQuiet_nil ?_
            rintro w9 ⟨⟨_, hx9⟩, rfl⟩
            clear fc1 fc2
            go_wp2_with fail
            exact ⟨⟨j + 1, HN.out, by go_num, HXo.out.trans hx9⟩, by simp [intOf]; omega⟩
          have heb : (x == y) = false := by simpa using he
          have hjs : j = S0 := by
            rw [HS0.out]
            exact Mv.suf_stop HJ.out (.inr (.inr ⟨x, y, by have := HLa.out; have := HP0.out; omega, by have := HLb.out; have := HP0.out; omega, by rw [HLa.out]; exact hx1, by rw [HLb.out]; exact hx2, he⟩))
          subst hjs
          clear hx1 hx2 he
          first | subst hA1 | skip
          first | subst hA2 | skip
          go_wp2_with fail
          refine wp_region_ew wr (Ext.refl _) (by kernel_rfl) (by kernel_rfl) ?_
          repeat (go_big_quiet_step ((fail)))
          refine wpQuiet_nil ?_
          rintro w9 ⟨⟨_, hx9⟩, rfl⟩
          clear fc1 fc2 hmn hd1 hd2 hi1 hi2 hi3 hi4 hi7 hi8 hi9 hi10 hi11 hi12 heb
          have HXe := Lib.hid (HXj.out.trans hx9)
          clear hx9 HXj HXo
          go_wp2_with fail
          refine bodyPost_ret (v := .tuple #[.int .i64 (n : Int), .int .i64 (m : Int), .int .i64 (k : Int), .int .i64 (j : Int)]) ?_ rfl ⟨?_, HXW.out.trans HXe.out⟩
          · simp [results, Tryd.results30, go_sem]
          · rw [HLa.out, HLb.out, ← HS0.out, ← HP0.out]
        have hjs : j = S0 := by
          rw [HS0.out]
          refine Mv.suf_stop HJ.out ?_
          have h1 := HLa.out
          have h2 := HLb.out
          have h3 := HP0.out
          by_cases h : j < n - k
          · exact .inr (.inl (by omega))
          · exact .inl (by omega)
        subst hjs
        have hmn : decide ((j : Int) < min (n : Int) (m : Int) - (k : Int)) = false := decide_eq_false (by omega)
        by_cases hn1 : j < n - k
        · have hn1i : (j : Int) < (n : Int) - (k : Int) := by omega
          have hm1i : decide ((j : Int) < (m : Int) - (k : Int)) = false := decide_eq_false (by omega)
          clear hn1
          go_wp2_with fail
          refine wp_region_ew wr (Ext.refl _) (by kernel_rfl) (by kernel_rfl) ?_
          repeat (go_big_quiet_step ((fail)))
          refine wpQuiet_nil ?_
          rintro w9 ⟨⟨_, hx9⟩, rfl⟩
          clear hmn hlt2
          have HXe := Lib.hid (HXj.out.trans hx9)
          clear hx9 HXj HXo
          go_wp2_with fail
          refine bodyPost_ret (v := .tuple #[.int .i64 (n : Int), .int .i64 (m : Int), .int .i64 (k : Int), .int .i64 (j : Int)]) ?_ rfl ⟨?_, HXW.out.trans HXe.out⟩
          · simp [results, Tryd.results30, go_sem]
          · rw [HLa.out, HLb.out, ← HS0.out, ← HP0.out]
        · have hn1i : decide ((j : Int) < (n : Int) - (k : Int)) = false := decide_eq_false (by omega)
          clear hn1
          go_wp2_with fail
          refine wp_region_ew wr (Ext.refl _) (by kernel_rfl) (by kernel_rfl) ?_
          repeat (go_big_quiet_step ((fail)))
          refine wpQuiet_nil ?_
          rintro w9 ⟨⟨_, hx9⟩, rfl⟩
          clear hmn hlt2
          have HXe := Lib.hid (HXj.out.trans hx9)
          clear hx9 HXj HXo
          go_wp2_with fail
          refine bodyPost_ret (v := .tuple #[.int .i64 (n : Int), .int .i64 (m : Int), .int .i64 (k : Int), .int .i64 (j : Int)]) ?_ rfl ⟨?_, HXW.out.trans HXe.out⟩
          · simp [results, Tryd.results30, go_sem]
          · rw [HLa.out, HLb.out, ← HS0.out, ← HP0.out]
    · have hn1i : decide (k < n) = false := decide_eq_false (by omega)
      clear hn1
      refine wp_region_ew wr (Ext.refl _) (by kernel_rfl) (by kernel_rfl) ?_
      repeat (go_big_quiet_step ((fail)))
      refine wpQuiet_nil ?_
      rintro w9 ⟨⟨_, hx9⟩, rfl⟩
      clear hmn w9x hlt
      have HX9 := Lib.hid (HX.out.trans hx9)
      clear hx9 HX
      go_wp2_with fail
      obtain ⟨wo, rfl⟩ : ∃ wo : World, wo = w9 := ⟨_, rfl⟩
      go_loopw [7] (fun v wr => SufRel wo a b v wr) (fun v _ => n - (intOf v).toNat)
      case atStart => exact ⟨0, Nat.zero_le _, rfl, Ext.refl _⟩
      case round =>
        obtain ⟨j, hj, rfl, hx⟩ := hrel
        have HXj := Lib.hid (HX9.out.trans hx)
        have HXo := Lib.hid hx
        have HJ := Lib.hid hj
        have hjS : j ≤ S0 := by rw [HS0.out]; exact hj
        clear hj hx
        have hj0 : (0 : Int) ≤ (j : Int) := by omega
        by_cases hlt2 : j < n - k ∧ j < m - k
        · obtain ⟨hn2, hm2⟩ := hlt2
          obtain ⟨b1, o1, x, hA1, hx1, c1⟩ := (HA.out.ext HXj.out).cell (i := n - 1 - j) (by omega)
          obtain ⟨b2, o2, y, hA2, hx2, c2⟩ := (HBr.out.ext HXj.out).cell (i := m - 1 - j) (by omega)
          have HA1 := Lib.hid hA1
          have HA2 := Lib.hid hA2
          clear hA1 hA2
          have hmn : (j : Int) < min (n : Int) (m : Int) - (k : Int) := by omega
          have hd1 : (j : Int) < (n : Int) - (k : Int) := by omega
          have hd2 : (j : Int) < (m : Int) - (k : Int) := by omega
          have hi1 : (n : Int) - 1 - (j : Int) = ((n - 1 - j : Nat) : Int) := by omega
          have hi2 : (m : Int) - 1 - (j : Int) = ((m - 1 - j : Nat) : Int) := by omega
          have hi3 : ((n : Int) - 1 - (j : Int)).toNat = n - 1 - j := by omega
          have hi4 : ((m : Int) - 1 - (j : Int)).toNat = m - 1 - j := by omega
          have hi5 : (0 : Int) ≤ (n : Int) - 1 - (j : Int) ∧ (n : Int) - 1 - (j : Int) < (n : Int) := by omega
          have hi6 : (0 : Int) ≤ (m : Int) - 1 - (j : Int) ∧ (m : Int) - 1 - (j : Int) < (m : Int) := by omega
          obtain ⟨hi7, hi8⟩ := hi5
          obtain ⟨hi9, hi10⟩ := hi6
          have hi11 : n - 1 - j < n := by omega
          have hi12 : m - 1 - j < m := by omega
          have fc1 := fun (y : EW wr) => y.ext.cell c1
          have fc2 := fun (y : EW wr) => y.ext.cell c2
          clear c1 c2
          have hA1 := HA1.out
          have hA2 := HA2.out
          by_cases he : x = y
          · have heb : (x == y) = true := by simpa using he
            have HN := Lib.hid (Mv.suf_step HJ.out (by have := HLa.out; have := HP0.out; omega) (by have := HLb.out; have := HP0.out; omega) (by rw [HLa.out]; exact hx1) (by rw [HLb.out]; exact hx2) he)
            clear hx1 hx2 he
            first | subst hA1 | skip
            first | subst hA2 | skip
            go_wp2_with fail
            refine wp_region_ew wr (Ext.refl _) (by kernel_rfl) (by kernel_rfl) ?_
            repeat (go_big_quiet_step ((fail)))
            refine wpQuiet_nil ?_
            rintro w9 ⟨⟨_, hx9⟩, rfl⟩
            clear fc1 fc2
            go_wp2_with fail
            exact ⟨⟨j + 1, HN.out, by go_num, HXo.out.trans hx9⟩, by simp [intOf]; omega⟩
          have heb : (x == y) = false := by simpa using he
          have hjs : j = S0 := by
            rw [HS0.out]
            exact Mv.suf_stop HJ.out (.inr (.inr ⟨x, y, by have := HLa.out; have := HP0.out; omega, by have := HLb.out; have := HP0.out; omega, by rw [HLa.out]; exact hx1, by rw [HLb.out]; exact hx2, he⟩))
          subst hjs
          clear hx1 hx2 he
          first | subst hA1 | skip
          first | subst hA2 | skip
          go_wp2_with fail
          refine wp_region_ew wr (Ext.refl _) (by kernel_rfl) (by kernel_rfl) ?_
          repeat (go_big_quiet_step ((fail)))
          refine wpQuiet_nil ?_
          rintro w9 ⟨⟨_, hx9⟩, rfl⟩
          clear fc1 fc2 hmn hd1 hd2 hi1 hi2 hi3 hi4 hi7 hi8 hi9 hi10 hi11 hi12 heb
          have HXe := Lib.hid (HXj.out.trans hx9)
          clear hx9 HXj HXo
          go_wp2_with fail
          refine bodyPost_ret (v := .tuple #[.int .i64 (n : Int), .int .i64 (m : Int), .int .i64 (k : Int), .int .i64 (j : Int)]) ?_ rfl ⟨?_, HXW.out.trans HXe.out⟩
          · simp [results, Tryd.results30, go_sem]
          · rw [HLa.out, HLb.out, ← HS0.out, ← HP0.out]
        have hjs : j = S0 := by
          rw [HS0.out]
          refine Mv.suf_stop HJ.out ?_
          have h1 := HLa.out
          have h2 := HLb.out
          have h3 := HP0.out
          by_cases h : j < n - k
          · exact .inr (.inl (by omega))
          · exact .inl (by omega)
        subst hjs
        have hmn : decide ((j : Int) < min (n : Int) (m : Int) - (k : Int)) = false := decide_eq_false (by omega)
        by_cases hn1 : j < n - k
        · have hn1i : (j : Int) < (n : Int) - (k : Int) := by omega
          have hm1i : decide ((j : Int) < (m : Int) - (k : Int)) = false := decide_eq_false (by omega)
          clear hn1
          go_wp2_with fail
          refine wp_region_ew wr (Ext.refl _) (by kernel_rfl) (by kernel_rfl) ?_
          repeat (go_big_quiet_step ((fail)))
          refine wpQuiet_nil ?_
          rintro w9 ⟨⟨_, hx9⟩, rfl⟩
          clear hmn hlt2
          have HXe := Lib.hid (HXj.out.trans hx9)
          clear hx9 HXj HXo
          go_wp2_with fail
          refine bodyPost_ret (v := .tuple #[.int .i64 (n : Int), .int .i64 (m : Int), .int .i64 (k : Int), .int .i64 (j : Int)]) ?_ rfl ⟨?_, HXW.out.trans HXe.out⟩
          · simp [results, Tryd.results30, go_sem]
          · rw [HLa.out, HLb.out, ← HS0.out, ← HP0.out]
        · have hn1i : decide ((j : Int) < (n : Int) - (k : Int)) = false := decide_eq_false (by omega)
          clear hn1
          go_wp2_with fail
          refine wp_region_ew wr (Ext.refl _) (by kernel_rfl) (by kernel_rfl) ?_
          repeat (go_big_quiet_step ((fail)))
          refine wpQuiet_nil ?_
          rintro w9 ⟨⟨_, hx9⟩, rfl⟩
          clear hmn hlt2
          have HXe := Lib.hid (HXj.out.trans hx9)
          clear hx9 HXj HXo
          go_wp2_with fail
          refine bodyPost_ret (v := .tuple #[.int .i64 (n : Int), .int .i64 (m : Int), .int .i64 (k : Int), .int .i64 (j : Int)]) ?_ rfl ⟨?_, HXW.out.trans HXe.out⟩
          · simp [results, Tryd.results30, go_sem]
          · rw [HLa.out, HLb.out, ← HS0.out, ← HP0.out]

set_option maxHeartbeats 400000 in
theorem R12MoveFrom_any (n m p s : Nat) (i : Int) (w : World) (h1 : n ≤ 35184372088831) (h2 : m ≤ 35184372088831) (h3 : p ≤ 35184372088831) (h4 : s ≤ 35184372088831) (h5 : -4611686018427387904 ≤ i) (h6 : i ≤ 4611686018427387904) :
    Calls Tryd.prog 32 #[.int .i64 (n : Int), .int .i64 (m : Int), .int .i64 (p : Int), .int .i64 (s : Int), .int .i64 i] w fun en w' => en = .returned (.int .i64 (Mv.from_ n m p s i)) ∧ Ext w w' := by
  by_cases c1 : (n : Int) - (s : Int) ≤ i
  · go_enter Tryd.func32, Tryd.ntmps32
    go_wp2_with fail
    go_ret
    exact ⟨ret_int (by unfold Mv.from_; repeat' split; all_goals omega), Ext.refl _⟩
  by_cases c2 : i < (p : Int)
  · go_enter Tryd.func32, Tryd.ntmps32
    go_wp2_with fail
    go_ret
    exact ⟨ret_int (by unfold Mv.from_; repeat' split; all_goals omega), Ext.refl _⟩
  go_enter Tryd.func32, Tryd.ntmps32
  go_wp2_with fail
  go_ret
  exact ⟨ret_int (by unfold Mv.from_; repeat' split; all_goals omega), Ext.refl _⟩

set_option maxHeartbeats 400000 in
theorem R12MoveTo_any (n m p s : Nat) (i : Int) (w : World) (h1 : n ≤ 35184372088831) (h2 : m ≤ 35184372088831) (h3 : p ≤ 35184372088831) (h4 : s ≤ 35184372088831) (h5 : -4611686018427387904 ≤ i) (h6 : i ≤ 4611686018427387904) :
    Calls Tryd.prog 31 #[.int .i64 (n : Int), .int .i64 (m : Int), .int .i64 (p : Int), .int .i64 (s : Int), .int .i64 i] w fun en w' => en = .returned (.int .i64 (Mv.to_ n m p s i)) ∧ Ext w w' := by
  by_cases c1 : i ≤ (p : Int)
  · go_enter Tryd.func31, Tryd.ntmps31
    go_wp2_with fail
    go_ret
    exact ⟨ret_int (by unfold Mv.to_; repeat' split; all_goals omega), Ext.refl _⟩
  by_cases c2 : (n : Int) - (s : Int) < i
  · go_enter Tryd.func31, Tryd.ntmps31
    go_wp2_with fail
    go_ret
    exact ⟨ret_int (by unfold Mv.to_; repeat' split; all_goals omega), Ext.refl _⟩
  go_enter Tryd.func31, Tryd.ntmps31
  go_wp2_with fail
  go_ret
  exact ⟨ret_int (by unfold Mv.to_; repeat' split; all_goals omega), Ext.refl _⟩
end Go.Proofs.YtagfedbdakmlgaaDoor

/-! FollowR -/
namespace Go.Proofs.YtagfedbdakmlgaaDoor
set_option linter.unusedVariables false
set_option linter.unusedSimpArgs false
open Go.RowKit

theorem wrap_two64 (i : Int) (n m : Nat) (h1 : n ≤ 35184372088831) (h2 : m ≤ 35184372088831) : wrap64 (wrap64 (i + (m : Int)) - (n : Int)) = IntKind.i64.wrap (i + ((m : Int) - (n : Int))) := by
  rw [IntKind.wrap_i64]
  unfold wrap64
  omega
theorem R12MoveFromW (n m p s : Nat) (i : Int) (w : World) (h1 : n ≤ 35184372088831) (h2 : m ≤ 35184372088831) (h3 : p ≤ 35184372088831) (h4 : s ≤ 35184372088831) :
    Calls Tryd.prog 32 #[.int .i64 n, .int .i64 m, .int .i64 p, .int .i64 s, .int .i64 i] w fun e w' => e = .returned (.int .i64 (wfrom n m p s i)) ∧ Ext w w' := by
  by_cases z1 : (n : Int) - (s : Int) ≤ i
  · have HV : Hid (wfrom n m p s i = IntKind.i64.wrap (i + ((m : Int) - n))) := by show _ = _; unfold wfrom; rw [if_pos z1]
    go_enter Tryd.func32, Tryd.ntmps32
    go_wp2_with fail
    go_ret
    exact ⟨ret_int (by rw [HV.out]; exact wrap_two64 i n m h1 h2), Ext.refl _⟩
  have z1' : i < (n : Int) - (s : Int) := by omega
  by_cases z2 : i < (p : Int)
  · have HV : Hid (wfrom n m p s i = i) := by show _ = _; unfold wfrom; rw [if_neg z1, if_pos z2]
    go_enter Tryd.func32, Tryd.ntmps32
    go_wp2_with fail
    go_ret
    exact ⟨ret_int HV.out.symm, Ext.refl _⟩
  have HV : Hid (wfrom n m p s i = (m : Int) - s) := by show _ = _; unfold wfrom; rw [if_neg z1, if_neg z2]
  go_enter Tryd.func32, Tryd.ntmps32
  go_wp2_with fail
  go_ret
  exact ⟨ret_int HV.out.symm, Ext.refl _⟩
theorem R12MoveToW (n m p s : Nat) (i : Int) (w : World) (h1 : n ≤ 35184372088831) (h2 : m ≤ 35184372088831) (h3 : p ≤ 35184372088831) (h4 : s ≤ 35184372088831) :
    Calls Tryd.prog 31 #[.int .i64 n, .int .i64 m, .int .i64 p, .int .i64 s, .int .i64 i] w fun e w' => e = .returned (.int .i64 (wto n m p s i)) ∧ Ext w w' := by
  by_cases z1 : i ≤ (p : Int)
  · have HV : Hid (wto n m p s i = i) := by show _ = _; unfold wto; rw [if_pos z1]
    go_enter Tryd.func31, Tryd.ntmps31
    go_wp2_with fail
    go_ret
    exact ⟨ret_int HV.out.symm, Ext.refl _⟩
  by_cases z2 : (n : Int) - (s : Int) < i
  · have HV : Hid (wto n m p s i = IntKind.i64.wrap (i + ((m : Int) - n))) := by show _ = _; unfold wto; rw [if_neg z1, if_pos z2]
    go_enter Tryd.func31, Tryd.ntmps31
    go_wp2_with fail
    go_ret
    exact ⟨ret_int (by rw [HV.out]; exact wrap_two64 i n m h1 h2), Ext.refl _⟩
  have HV : Hid (wto n m p s i = (p : Int)) := by show _ = _; unfold wto; rw [if_neg z1, if_neg z2]
  go_enter Tryd.func31, Tryd.ntmps31
  go_wp2_with fail
  go_ret
  exact ⟨ret_int HV.out.symm, Ext.refl _⟩
theorem wp_call5 {P : Program} {o : Oper} {a : Act} {w : World} {K : Act → World → Prop} {Q : Exit → Act → World → Prop} {f : FuncId} {x0 x1 x2 x3 x4 : Operand} {ts : Array TypeId} {v0 v1 v2 v3 v4 v : Value} (ho : o.op = .call { callee := .value (.func f), args := #[x0, x1, x2, x3, x4], argTypes := ts })
    (h0 : a.eval x0 = v0) (h1 : a.eval x1 = v1) (h2 : a.eval x2 = v2) (h3 : a.eval x3 = v3) (h4 : a.eval x4 = v4) (hcall : ∀ args w, (callFunc f args).run P w = .ok (.enter f args) w) (hc : Calls P f #[v0, v1, v2, v3, v4] w fun e w' => e = .returned v ∧ Ext w w')
    (h : ∀ w', Ext w w' → K (a.put o.dst v) w') : o.wp P a w K Q := by
  have h9 : Calls P f #[v0, v1, v2, v3, v4] w (fun
      | .returned u, w'' => K (a.put o.dst u) w''
      | .panicked chain, w'' => Q (.panic chain) a w''
      | .outgrown, _ => LetsOut Q) := hc.mono fun en w' hr => by
    obtain ⟨rfl, hk⟩ := hr
    exact h w' hk
  unfold Oper.wp execOp
  simp only [ho]
  have hev : a.eval (.func f) = .func (.func f) #[] #[] := rfl
  simp [resolve, invoke, hev, h0, h1, h2, h3, h4, hcall, Sem.run_bind, Deferred.ofValue]
  exact h9
/-- two calls, then two stores into a comment, in a drawn region -/
structure FolJ (g0 : Nat) (F G : Int) (cf cg : Array Value) (W : World) (us : List Value) (w' : World) : Prop where
  low : us.length ≤ 2 → Ext W w'
  v0 : 1 ≤ us.length → us[0]? = some (.int .i64 F)
  v1 : 2 ≤ us.length → us[1]? = some (.int .i64 G)
  p1 : us.length = 3 → ∃ w5, Ext W w5 ∧ w' = putB w5 g0 31 cf
  p2 : us.length = 4 → ∃ w5, Ext W w5 ∧ w' = putB (putB w5 g0 31 cf) g0 31 cg
section
variable {g0 : Nat} {F G : Int} {cf cg : Array Value} {W w' w2 : World}
theorem FolJ.start (W : World) : FolJ g0 F G cf cg W [] W.drew := ⟨fun _ => (Ext.refl W).drew, fun h => by simp at h, fun h => by simp at h, fun h => by simp at h, fun h => by simp at h⟩
theorem FolJ.c1 (h : FolJ g0 F G cf cg W [] w') (hx : Ext w' w2) : FolJ g0 F G cf cg W ([] ++ [.int .i64 F]) w2 := ⟨fun _ => (h.low (by simp)).trans hx, fun _ => rfl, fun h => by simp at h, fun h => by simp at h, fun h => by simp at h⟩
theorem FolJ.c2 {u0 : Value} (h : FolJ g0 F G cf cg W [u0] w') (hx : Ext w' w2) : FolJ g0 F G cf cg W ([u0] ++ [.int .i64 G]) w2 := ⟨fun _ => (h.low (by simp)).trans hx, fun _ => h.v0 (by simp), fun _ => rfl, fun h => by simp at h, fun h => by simp at h⟩
theorem FolJ.s1 {u0 u1 : Value} (h : FolJ g0 F G cf cg W [u0, u1] w') (u2 : Value) : FolJ g0 F G cf cg W ([u0, u1] ++ [u2]) (putB w' g0 31 cf) := ⟨fun h => by simp at h, fun _ => h.v0 (by simp), fun _ => h.v1 (by simp), fun _ => ⟨w', h.low (by simp), rfl⟩, fun h => by simp at h⟩
theorem FolJ.s2 {u0 u1 u2 : Value} {w5 : World} (h : FolJ g0 F G cf cg W [u0, u1, u2] (putB w5 g0 31 cf)) (hx : Ext W w5) (u3 : Value) : FolJ g0 F G cf cg W ([u0, u1, u2] ++ [u3]) (putB (putB w5 g0 31 cf) g0 31 cg) := ⟨fun h => by simp at h, fun _ => h.v0 (by simp), fun _ => h.v1 (by simp), fun h => by simp at h, fun _ => ⟨w5, hx, rfl⟩⟩
theorem FolJ.w0 {u0 : Value} {us : List Value} (h : FolJ g0 F G cf cg W (u0 :: us) w') : u0 = .int .i64 F := by simpa using h.v0 (by simp)
theorem FolJ.w1 {u0 u1 : Value} {us : List Value} (h : FolJ g0 F G cf cg W (u0 :: u1 :: us) w') : u1 = .int .i64 G := by simpa using h.v1 (by simp)
end
set_option maxRecDepth 100000 in
set_option maxHeartbeats 8000000 in
theorem R12Follow_any (c : Com) (before after : ByteArray) (w : World) (hb : before.size ≤ 35184372088831) (ha : after.size ≤ 35184372088831) :
    Calls Tryd.prog 12 #[.agg c.vals.toArray, .string before, .string after] w fun en w' => en = .returned (.agg (c.fol (runes before 0) (runes after 0)).vals.toArray) ∧ Ext w w' := by
  have HCm := Lib.hid (fun w' => R12Common_any before after w' hb ha)
  have hna := runes_len before
  have hnb := runes_len after
  have HX : Hid (Ext w ((w.alloc (.cells #[.int .i64 c.id, .int .i64 c.ev, .int .i64 c.fr, .int .i64 c.til, .string c.author, .string c.text, .bool c.done, .bool c.lost] 31)).alloc (.cells #[.int .i64 0, .int .i64 0, .int .i64 0, .int .i64 0, .string ⟨#[]⟩, .string ⟨#[]⟩, .bool false, .bool false] 31))) := ((Ext.refl w).alloc _).alloc _
  have HB : Hid (Blk ((w.alloc (.cells #[.int .i64 c.id, .int .i64 c.ev, .int .i64 c.fr, .int .i64 c.til, .string c.author, .string c.text, .bool c.done, .bool c.lost] 31)).alloc (.cells #[.int .i64 0, .int .i64 0, .int .i64 0, .int .i64 0, .string ⟨#[]⟩, .string ⟨#[]⟩, .bool false, .bool false] 31)) w.heap.size 31 #[.int .i64 c.id, .int .i64 c.ev, .int .i64 c.fr, .int .i64 c.til, .string c.author, .string c.text, .bool c.done, .bool c.lost]) := (Blk.new w _ _).alloc _
  have HZ : Hid (Blk ((w.alloc (.cells #[.int .i64 c.id, .int .i64 c.ev, .int .i64 c.fr, .int .i64 c.til, .string c.author, .string c.text, .bool c.done, .bool c.lost] 31)).alloc (.cells #[.int .i64 0, .int .i64 0, .int .i64 0, .int .i64 0, .string ⟨#[]⟩, .string ⟨#[]⟩, .bool false, .bool false] 31)) (w.heap.size + 1) 31 #[.int .i64 0, .int .i64 0, .int .i64 0, .int .i64 0, .string ⟨#[]⟩, .string ⟨#[]⟩, .bool false, .bool false]) := Blk.new' (by simp)
  unfold Com.vals
  generalize runes before 0 = a at *
  generalize runes after 0 = b at *
  go_enter Tryd.func12, Tryd.ntmps12
  have hcb := fun o => HB.out.cell o
  cases hlo : c.lost
  case true =>
    have HF : Hid (c.fol a b = c) := by show _ = _; unfold Com.fol; rw [if_pos hlo]
    have HLo := Lib.hid hlo
    rw [hlo] at HB HX HZ hcb
    clear hlo
    go_wp2_with (first | (refine wpList_loadB rfl 31 (.tmp 3) rfl (w.heap.size) 31 _ _ (by exact rfl) (by exact HB.out) Tryd.underlying31 rfl (by exact size_comI) ?_) | (refine wpList_storeB rfl 31 (.tmp 6) _ rfl (w.heap.size + 1) 31 _ _ (by exact rfl) (by exact rfl) (by exact HZ.out) (by exact rfl) (by exact size_comI) (by simp [Value.oneCell']) ?_))
    refine bodyPost_ret (v := .agg #[.int .i64 c.id, .int .i64 c.ev, .int .i64 c.fr, .int .i64 c.til, .string c.author, .string c.text, .bool c.done, .bool true]) ?_ rfl ⟨?_, HX.out.put (by omega) _ _⟩
    · exact results_B (P := Tryd.prog) Tryd.results12 (g := w.heap.size + 1) rfl (by exact HZ.out.put _) Tryd.underlying31 rfl size_comI
    · rw [HF.out, HLo.out]
  have HLo := Lib.hid hlo
  rw [hlo] at HB HX HZ hcb
  clear hlo
  go_wp2_with fail
  clear hcb
  have hpl := Mv.pre_le a b
  have hsl := Mv.suf_le a b (Mv.pre a b)
  obtain ⟨n, hn⟩ : ∃ n, n = a.length := ⟨_, rfl⟩
  obtain ⟨m, hm⟩ : ∃ m, m = b.length := ⟨_, rfl⟩
  obtain ⟨P0, hP0⟩ : ∃ P0, P0 = Mv.pre a b := ⟨_, rfl⟩
  obtain ⟨S0, hS0⟩ : ∃ S0, S0 = Mv.suf a b (Mv.pre a b) := ⟨_, rfl⟩
  have hn9 : n ≤ 35184372088831 := by omega
  have hm9 : m ≤ 35184372088831 := by omega
  have hP9 : P0 ≤ 35184372088831 := by omega
  have hS9 : S0 ≤ 35184372088831 := by rw [hS0]; omega
  rw [← hS0, ← hP0, ← hn, ← hm] at HCm
  have HFol : Hid (c.fol a b = c.moved (wfrom n m P0 S0 c.fr) (wto n m P0 S0 c.til)) := by
    show _ = _
    unfold Com.fol
    rw [if_neg (by rw [HLo.out]; decide), hn, hm, hS0, hP0]
  have HMf := Lib.hid (fun w' => R12MoveFromW n m P0 S0 c.fr w' hn9 hm9 hP9 hS9)
  have HMt := Lib.hid (fun w' => R12MoveToW n m P0 S0 c.til w' hn9 hm9 hP9 hS9)
  generalize wfrom n m P0 S0 c.fr = F at *
  generalize wto n m P0 S0 c.til = G at *
  clear hpl hsl hn hm hP0 hS0 hna hnb
  refine (HCm.out _).mono ?_
  rintro en W ⟨rfl, hx1⟩
  have HXW := Lib.hid (HX.out.trans hx1)
  have HBW := Lib.hid (HB.out.ext hx1)
  have HZW := Lib.hid (HZ.out.ext hx1)
  clear hx1 HX HB HZ HCm
  obtain ⟨g0, hg0⟩ : ∃ g0, g0 = w.heap.size := ⟨_, rfl⟩
  have hg1 : w.heap.size ≤ g0 := by omega
  have hg2 : g0 < w.heap.size + 1 := by omega
  rw [← hg0] at HBW
  obtain ⟨gz, hgz⟩ : ∃ gz, gz = w.heap.size + 1 := ⟨_, rfl⟩
  rw [← hgz] at HZW
  have hz1 : w.heap.size ≤ gz := by omega
  have hz2 : g0 ≠ gz := by omega
  go_upto_region 4 with fail
  rw [← hgz, ← hg0]
  clear hg0 hgz
  refine wp_region_links [some 22, some 23, some 24, some 25, some 26, some 27, some 28, some 29, some 30, some 31, some 32, some 33, some 34, some 35, some 36, none, some 37, none] [[], [], [], [], [], [4], [0, 1, 2, 3, 5], [], [], [], [], [], [11], [7, 8, 9, 10, 12, 6], [0, 1, 2, 3, 4, 5, 6, 11, 12], [14, 6, 13, 0, 1, 2, 3, 4, 5, 6, 11, 12], [0, 1, 2, 3, 4, 5, 6, 7, 8, 9, 10, 11, 12, 13, 14, 15], [16, 13, 15, 0, 1, 2, 3, 4, 5, 6, 7, 8, 9, 10, 11, 12, 13, 14, 15]] [6, 13, 15, 17] [.int .i64 (n : Int), .int .i64 (m : Int), .int .i64 (P0 : Int), .int .i64 (S0 : Int), .pointer (some ⟨g0, 2, none⟩), .int .i64 c.fr, undef, .int .i64 (n : Int), .int .i64 (m : Int), .int .i64 (P0 : Int), .int .i64 (S0 : Int), .pointer (some ⟨g0, 3, none⟩), .int .i64 c.til, undef, .pointer (some ⟨g0, 2, none⟩), undef, .pointer (some ⟨g0, 3, none⟩), undef] (FolJ g0 F G (#[.int .i64 c.id, .int .i64 c.ev, .int .i64 F, .int .i64 c.til, .string c.author, .string c.text, .bool c.done, .bool false]) (#[.int .i64 c.id, .int .i64 c.ev, .int .i64 F, .int .i64 G, .string c.author, .string c.text, .bool c.done, .bool false]) W) (by kernel_rfl) (by kernel_rfl) (by kernel_rfl) (by kernel_rfl) (by kernel_rfl) (by kernel_rfl) (by kernel_rfl) (by decide) ?_ ?_ ?_ ?_
  · exact FolJ.start W
  · intro i o ho hc a w' us K' hJ hF hlim hk
    match i, ho with
    | 0, ho =>
      simp only [List.getElem?_toArray, List.getElem?_cons_zero, List.getElem?_cons_succ, Option.some.injEq] at ho
      subst ho
      have e7 := hF.old 7 (.int .i64 (n : Int)) rfl rfl
      simp only [Act.eval] at e7
      clear hF hlim hJ
      go_simp
      exact hk
    | 1, ho =>
      simp only [List.getElem?_toArray, List.getElem?_cons_zero, List.getElem?_cons_succ, Option.some.injEq] at ho
      subst ho
      have e8 := hF.old 8 (.int .i64 (m : Int)) rfl rfl
      simp only [Act.eval] at e8
      clear hF hlim hJ
      go_simp
      exact hk
    | 2, ho =>
      simp only [List.getElem?_toArray, List.getElem?_cons_zero, List.getElem?_cons_succ, Option.some.injEq] at ho
      subst ho
      have e9 := hF.old 9 (.int .i64 (P0 : Int)) rfl rfl
      simp only [Act.eval] at e9
      clear hF hlim hJ
      go_simp
      exact hk
    | 3, ho =>
      simp only [List.getElem?_toArray, List.getElem?_cons_zero, List.getElem?_cons_succ, Option.some.injEq] at ho
      subst ho
      have e10 := hF.old 10 (.int .i64 (S0 : Int)) rfl rfl
      simp only [Act.eval] at e10
      clear hF hlim hJ
      go_simp
      exact hk
    | 4, ho =>
      simp only [List.getElem?_toArray, List.getElem?_cons_zero, List.getElem?_cons_succ, Option.some.injEq] at ho
      subst ho
      have e3 := hF.old 3 (.pointer (some ⟨g0, 0, none⟩)) rfl rfl
      simp only [Act.eval] at e3
      clear hF hlim hJ
      go_simp
      exact hk
    | 5, ho =>
      simp only [List.getElem?_toArray, List.getElem?_cons_zero, List.getElem?_cons_succ, Option.some.injEq] at ho
      subst ho
      have e26 := hF.pure 4 26 (.pointer (some ⟨g0, 2, none⟩)) rfl rfl rfl rfl
      have hcl : w'.cell? ⟨g0, 2, none⟩ = some (.int .i64 c.fr) := (HBW.out.ext (hJ.low (by have := hlim 2 15 rfl rfl; omega))).cell 2
      simp only [Act.eval] at e26
      clear hF hlim hJ
      go_simp
      exact hk
    | 6, ho => simp at hc
    | 7, ho =>
      simp only [List.getElem?_toArray, List.getElem?_cons_zero, List.getElem?_cons_succ, Option.some.injEq] at ho
      subst ho
      have e7 := hF.old 7 (.int .i64 (n : Int)) rfl rfl
      simp only [Act.eval] at e7
      clear hF hlim hJ
      go_simp
      exact hk
    | 8, ho =>
      simp only [List.getElem?_toArray, List.getElem?_cons_zero, List.getElem?_cons_succ, Option.some.injEq] at ho
      subst ho
      have e8 := hF.old 8 (.int .i64 (m : Int)) rfl rfl
      simp only [Act.eval] at e8
      clear hF hlim hJ
      go_simp
      exact hk
    | 9, ho =>
      simp only [List.getElem?_toArray, List.getElem?_cons_zero, List.getElem?_cons_succ, Option.some.injEq] at ho
      subst ho
      have e9 := hF.old 9 (.int .i64 (P0 : Int)) rfl rfl
      simp only [Act.eval] at e9
      clear hF hlim hJ
      go_simp
      exact hk
    | 10, ho =>
      simp only [List.getElem?_toArray, List.getElem?_cons_zero, List.getElem?_cons_succ, Option.some.injEq] at ho
      subst ho
      have e10 := hF.old 10 (.int .i64 (S0 : Int)) rfl rfl
      simp only [Act.eval] at e10
      clear hF hlim hJ
      go_simp
      exact hk
    | 11, ho =>
      simp only [List.getElem?_toArray, List.getElem?_cons_zero, List.getElem?_cons_succ, Option.some.injEq] at ho
      subst ho
      have e3 := hF.old 3 (.pointer (some ⟨g0, 0, none⟩)) rfl rfl
      simp only [Act.eval] at e3
      clear hF hlim hJ
      go_simp
      exact hk
    | 12, ho =>
      simp only [List.getElem?_toArray, List.getElem?_cons_zero, List.getElem?_cons_succ, Option.some.injEq] at ho
      subst ho
      have e33 := hF.pure 11 33 (.pointer (some ⟨g0, 3, none⟩)) rfl rfl rfl rfl
      have hcl : w'.cell? ⟨g0, 3, none⟩ = some (.int .i64 c.til) := (HBW.out.ext (hJ.low (by have := hlim 2 15 rfl rfl; omega))).cell 3
      simp only [Act.eval] at e33
      clear hF hlim hJ
      go_simp
      exact hk
    | 13, ho => simp at hc
    | 14, ho =>
      simp only [List.getElem?_toArray, List.getElem?_cons_zero, List.getElem?_cons_succ, Option.some.injEq] at ho
      subst ho
      have e3 := hF.old 3 (.pointer (some ⟨g0, 0, none⟩)) rfl rfl
      simp only [Act.eval] at e3
      clear hF hlim hJ
      go_simp
      exact hk
    | 15, ho => simp at hc
    | 16, ho =>
      simp only [List.getElem?_toArray, List.getElem?_cons_zero, List.getElem?_cons_succ, Option.some.injEq] at ho
      subst ho
      have e3 := hF.old 3 (.pointer (some ⟨g0, 0, none⟩)) rfl rfl
      simp only [Act.eval] at e3
      clear hF hlim hJ
      go_simp
      exact hk
    | 17, ho => simp at hc
    | i + 18, ho => simp at ho
  · intro p c' o hp ho a w' us K' hl hJ hF hk
    match p, hp with
    | 0, hp =>
      obtain rfl : 6 = c' := by simpa using hp
      simp only [List.getElem?_toArray, List.getElem?_cons_zero, List.getElem?_cons_succ, Option.some.injEq] at ho
      subst ho
      obtain rfl : us = [] := List.eq_nil_of_length_eq_zero hl
      have e22 := hF.pure 0 22 (.int .i64 (n : Int)) rfl rfl rfl rfl
      have e23 := hF.pure 1 23 (.int .i64 (m : Int)) rfl rfl rfl rfl
      have e24 := hF.pure 2 24 (.int .i64 (P0 : Int)) rfl rfl rfl rfl
      have e25 := hF.pure 3 25 (.int .i64 (S0 : Int)) rfl rfl rfl rfl
      have e27 := hF.pure 5 27 (.int .i64 c.fr) rfl rfl rfl rfl
      exact wp_call5 rfl e22 e23 e24 e25 e27 Tryd.call32 (HMf.out w') (fun w2 hx2 => hk _ w2 (hJ.c1 hx2))
    | 1, hp =>
      obtain rfl : 13 = c' := by simpa using hp
      simp only [List.getElem?_toArray, List.getElem?_cons_zero, List.getElem?_cons_succ, Option.some.injEq] at ho
      subst ho
      obtain ⟨u0, rfl⟩ := list_1 hl
      have e29 := hF.pure 7 29 (.int .i64 (n : Int)) rfl rfl rfl rfl
      have e30 := hF.pure 8 30 (.int .i64 (m : Int)) rfl rfl rfl rfl
      have e31 := hF.pure 9 31 (.int .i64 (P0 : Int)) rfl rfl rfl rfl
      have e32 := hF.pure 10 32 (.int .i64 (S0 : Int)) rfl rfl rfl rfl
      have e34 := hF.pure 12 34 (.int .i64 c.til) rfl rfl rfl rfl
      exact wp_call5 rfl e29 e30 e31 e32 e34 Tryd.call31 (HMt.out w') (fun w2 hx2 => hk _ w2 (hJ.c2 hx2))
    | 2, hp =>
      obtain rfl : 15 = c' := by simpa using hp
      simp only [List.getElem?_toArray, List.getElem?_cons_zero, List.getElem?_cons_succ, Option.some.injEq] at ho
      subst ho
      obtain ⟨u0, u1, rfl⟩ := list_2 hl
      obtain rfl := hJ.w0
      have e36 := hF.pure 14 36 (.pointer (some ⟨g0, 2, none⟩)) rfl rfl rfl rfl
      have e28 := hF.link 0 6 28 _ rfl rfl rfl rfl
      have hB8 := HBW.out.ext (hJ.low (by simp))
      have hs := setCell_put hB8 2 (.int .i64 F)
      have hc := hB8.cell 2
      have hf := hB8.frozen 2
      simp only [Act.eval] at e28 e36
      simp at hs hc
      have HK := Lib.hid (hk (.tuple #[]) _ (hJ.s1 (.tuple #[])))
      clear hk hF hJ hB8
      go_simp
      exact HK.out
    | 3, hp =>
      obtain rfl : 17 = c' := by simpa using hp
      simp only [List.getElem?_toArray, List.getElem?_cons_zero, List.getElem?_cons_succ, Option.some.injEq] at ho
      subst ho
      obtain ⟨u0, u1, u2, rfl⟩ := list_3 hl
      obtain rfl := hJ.w1
      obtain ⟨w5, hx5, rfl⟩ := hJ.p1 rfl
      have e37 := hF.pure 16 37 (.pointer (some ⟨g0, 3, none⟩)) rfl rfl rfl rfl
      have e35 := hF.link 1 13 35 _ rfl rfl rfl rfl
      have hB8 := (HBW.out.ext hx5).put (#[.int .i64 c.id, .int .i64 c.ev, .int .i64 F, .int .i64 c.til, .string c.author, .string c.text, .bool c.done, .bool false])
      have hs := setCell_put hB8 3 (.int .i64 G)
      have hc := hB8.cell 3
      have hf := hB8.frozen 3
      simp only [Act.eval] at e35 e37
      simp at hs hc
      have HK := Lib.hid (hk (.tuple #[]) _ (hJ.s2 hx5 (.tuple #[])))
      clear hk hF hJ hB8
      go_simp
      exact HK.out
    | p + 4, hp => simp at hp
  intro us w9 hl hJ
  obtain ⟨u0, u1, u2, u3, rfl⟩ := list_4 hl
  first | (rename_i hK; refine hK _ _ ?_; clear hK) | (rename_i hK hK_1; refine hK _ _ ?_; clear hK) | (rename_i hK hK_1 hK_2; refine hK _ _ ?_; clear hK) | (rename_i hK hK_1 hK_2 hK_3; refine hK _ _ ?_; clear hK)
  generalize hL : frameL _ _ _ _ = L
  obtain rfl : L = [(22, .int .i64 (n : Int)), (23, .int .i64 (m : Int)), (24, .int .i64 (P0 : Int)), (25, .int .i64 (S0 : Int)), (26, .pointer (some ⟨g0, 2, none⟩)), (27, .int .i64 c.fr), (28, u0), (29, .int .i64 (n : Int)), (30, .int .i64 (m : Int)), (31, .int .i64 (P0 : Int)), (32, .int .i64 (S0 : Int)), (33, .pointer (some ⟨g0, 3, none⟩)), (34, .int .i64 c.til), (35, u1), (36, .pointer (some ⟨g0, 2, none⟩)), (37, .pointer (some ⟨g0, 3, none⟩))] := hL.symm.trans (by kernel_rfl)
  clear hL hl
  simp only [Act.put, List.foldl_cons, List.foldl_nil, List.setIfInBounds_toArray, List.set_cons_zero, List.set_cons_succ]
  obtain rfl := hJ.w0
  obtain rfl := hJ.w1
  obtain ⟨w5, hx5, rfl⟩ := hJ.p2 rfl
  clear hJ
  have HX5 := Lib.hid ((HXW.out.trans hx5).put (g := g0) hg1 31 #[.int .i64 c.id, .int .i64 c.ev, .int .i64 F, .int .i64 c.til, .string c.author, .string c.text, .bool c.done, .bool false] |>.put (g := g0) hg1 31 #[.int .i64 c.id, .int .i64 c.ev, .int .i64 F, .int .i64 G, .string c.author, .string c.text, .bool c.done, .bool false])
  have HB5 := Lib.hid (((HBW.out.ext hx5).put #[.int .i64 c.id, .int .i64 c.ev, .int .i64 F, .int .i64 c.til, .string c.author, .string c.text, .bool c.done, .bool false]).put #[.int .i64 c.id, .int .i64 c.ev, .int .i64 F, .int .i64 G, .string c.author, .string c.text, .bool c.done, .bool false])
  have HZ5 := Lib.hid (((HZW.out.ext hx5).put_other (g' := g0) (t' := 31) hz2 #[.int .i64 c.id, .int .i64 c.ev, .int .i64 F, .int .i64 c.til, .string c.author, .string c.text, .bool c.done, .bool false]).put_other (g' := g0) (t' := 31) hz2 #[.int .i64 c.id, .int .i64 c.ev, .int .i64 F, .int .i64 G, .string c.author, .string c.text, .bool c.done, .bool false])
  obtain ⟨W9, hW9⟩ : ∃ W9, W9 = putB (putB w5 g0 31 #[.int .i64 c.id, .int .i64 c.ev, .int .i64 F, .int .i64 c.til, .string c.author, .string c.text, .bool c.done, .bool false]) g0 31 #[.int .i64 c.id, .int .i64 c.ev, .int .i64 F, .int .i64 G, .string c.author, .string c.text, .bool c.done, .bool false] := ⟨_, rfl⟩
  rw [← hW9] at HX5 HB5 HZ5 ⊢
  clear hW9
  have hcb := fun o => HB5.out.cell o
  have hfb := fun o => HB5.out.frozen o
  by_cases hge : G ≤ F
  · have HM : Hid (c.moved F G = ⟨c.id, c.ev, 0, 0, c.author, c.text, c.done, true⟩) := by show _ = _; unfold Com.moved; rw [if_pos hge]
    have s1 := setCell_put HB5.out 2 (.int .i64 0)
    have HB6 := Lib.hid (HB5.out.put #[.int .i64 c.id, .int .i64 c.ev, .int .i64 0, .int .i64 G, .string c.author, .string c.text, .bool c.done, .bool false])
    have s2 := setCell_put HB6.out 3 (.int .i64 0)
    have HB7 := Lib.hid (HB6.out.put #[.int .i64 c.id, .int .i64 c.ev, .int .i64 0, .int .i64 0, .string c.author, .string c.text, .bool c.done, .bool false])
    have s3 := setCell_put HB7.out 7 (.bool true)
    have hc6 := fun o => HB6.out.cell o
    have hc7 := fun o => HB7.out.cell o
    have hf6 := fun o => HB6.out.frozen o
    have hf7 := fun o => HB7.out.frozen o
    simp at s1 s2 s3
    have HZ8 := Lib.hid (((HZ5.out.put_other (g' := g0) (t' := 31) hz2 #[.int .i64 c.id, .int .i64 c.ev, .int .i64 0, .int .i64 G, .string c.author, .string c.text, .bool c.done, .bool false]).put_other (g' := g0) (t' := 31) hz2 #[.int .i64 c.id, .int .i64 c.ev, .int .i64 0, .int .i64 0, .string c.author, .string c.text, .bool c.done, .bool false]).put_other (g' := g0) (t' := 31) hz2 #[.int .i64 c.id, .int .i64 c.ev, .int .i64 0, .int .i64 0, .string c.author, .string c.text, .bool c.done, .bool true])
    have HX8 := Lib.hid (((HX5.out.put (g := g0) hg1 31 #[.int .i64 c.id, .int .i64 c.ev, .int .i64 0, .int .i64 G, .string c.author, .string c.text, .bool c.done, .bool false]).put (g := g0) hg1 31 #[.int .i64 c.id, .int .i64 c.ev, .int .i64 0, .int .i64 0, .string c.author, .string c.text, .bool c.done, .bool false]).put (g := g0) hg1 31 #[.int .i64 c.id, .int .i64 c.ev, .int .i64 0, .int .i64 0, .string c.author, .string c.text, .bool c.done, .bool true])
    have HB8 := Lib.hid (HB7.out.put #[.int .i64 c.id, .int .i64 c.ev, .int .i64 0, .int .i64 0, .string c.author, .string c.text, .bool c.done, .bool true])
    go_wp2_with (first | (refine wpList_loadB rfl 31 (.tmp 3) rfl g0 31 _ _ (by exact rfl) (by exact HB8.out) Tryd.underlying31 rfl (by exact size_comI) ?_) | (refine wpList_storeB rfl 31 (.tmp 6) _ rfl gz 31 _ _ (by exact rfl) (by exact rfl) (by exact HZ8.out) (by exact rfl) (by exact size_comI) (by simp [Value.oneCell']) ?_))
    refine bodyPost_ret (v := .agg #[.int .i64 c.id, .int .i64 c.ev, .int .i64 0, .int .i64 0, .string c.author, .string c.text, .bool c.done, .bool true]) ?_ rfl ⟨?_, HX8.out.put (by omega) _ _⟩
    · exact results_B (P := Tryd.prog) Tryd.results12 (g := gz) rfl (by exact HZ8.out.put _) Tryd.underlying31 rfl size_comI
    · rw [HFol.out, HM.out]
  · have HM : Hid (c.moved F G = ⟨c.id, c.ev, F, G, c.author, c.text, c.done, c.lost⟩) := by show _ = _; unfold Com.moved; rw [if_neg hge]
    go_wp2_with (first | (refine wpList_loadB rfl 31 (.tmp 3) rfl g0 31 _ _ (by exact rfl) (by exact HB5.out) Tryd.underlying31 rfl (by exact size_comI) ?_) | (refine wpList_storeB rfl 31 (.tmp 6) _ rfl gz 31 _ _ (by exact rfl) (by exact rfl) (by exact HZ5.out) (by exact rfl) (by exact size_comI) (by simp [Value.oneCell']) ?_))
    refine bodyPost_ret (v := .agg #[.int .i64 c.id, .int .i64 c.ev, .int .i64 F, .int .i64 G, .string c.author, .string c.text, .bool c.done, .bool false]) ?_ rfl ⟨?_, HX5.out.put (by omega) _ _⟩
    · exact results_B (P := Tryd.prog) Tryd.results12 (g := gz) rfl (by exact HZ5.out.put _) Tryd.underlying31 rfl size_comI
    · rw [HFol.out, HM.out, HLo.out]
end Go.Proofs.YtagfedbdakmlgaaDoor

/-! OpenG -/
namespace Go.Proofs.YtagfedbdakmlgaaDoor
set_option linter.unusedVariables false
set_option linter.unusedSimpArgs false
open Go.RowKit Go.ChangeShapes Go.WideShapes Go.ChangeAt
set_option maxRecDepth 100000

theorem cells_string : Tryd.prog.cellsOf 9 = 1 := by kernel_rfl
theorem cells_int64 : Tryd.prog.cellsOf 2 = 1 := by kernel_rfl
theorem cells_int : Tryd.prog.cellsOf 3 = 1 := by kernel_rfl
theorem cells_bool : Tryd.prog.cellsOf 4 = 1 := by kernel_rfl
theorem cells_span : Tryd.prog.cellsOf 41 = 2 := by kernel_rfl
theorem Sl.all {α : Type} {C : World → Nat → Nat → α → Prop} {w : World} {size n : Nat} {A : Option Addr} {l : List α} {p : α → Prop} (h : Sl w size C A n l) (k : ∀ b o x, C w b o x → p x) : ∀ x ∈ l, p x := by
  intro x hx
  obtain ⟨i, hi⟩ := List.getElem?_of_mem hx
  have : i < n := by rw [← h.1]; exact (List.getElem?_eq_some_iff.1 hi).1
  obtain ⟨b, off, _, hc⟩ := h.2 (by omega)
  exact k _ _ _ (hc i x hi)

theorem open_span (W : World) : Opens Tryd.prog W 41 (fun cs (a : Int × Int) => cs = [.int .i64 a.1, .int .i64 a.2] ∧ (-9223372036854775808 ≤ a.1 ∧ a.1 ≤ 9223372036854775807) ∧ (-9223372036854775808 ≤ a.2 ∧ a.2 ≤ 9223372036854775807)) := by
  intro H enc fuel cs x h hw
  obtain ⟨hl, hf⟩ := Opens.fields Tryd.underlying41 h hw
  rw [cells_span] at hl
  obtain ⟨v0, v1, rfl⟩ := list_2 hl
  obtain ⟨a0, h0, s0⟩ := hf 0 _ rfl (Opens.int Tryd.underlying2)
  obtain ⟨a1, h1, s1⟩ := hf 1 _ rfl (Opens.int Tryd.underlying2)
  simp [cells_int64] at h0 h1
  subst h0 h1
  exact ⟨(a0, a1), rfl, bounds_i64 s0, bounds_i64 s1⟩
theorem agg_of_cells {v : Value} {W : World} {t : TypeId} {fs : Array Field} {b : Nat} (ht : Tryd.prog.underlying t = some (.struct fs)) (hv : Value.okWide Tryd.prog W .any b t v) : ∃ cs, v = .agg cs := by
  unfold Value.okWide at hv
  rw [ht] at hv
  cases v <;> first | exact ⟨_, rfl⟩ | simp at hv

/-- the tables, out of what the row lists -/
theorem u8extra : U8Extra Tryd.prog Tryd.laysValid_ren := ⟨by kernel_rfl, by kernel_rfl, by kernel_rfl, by kernel_rfl, by kernel_rfl, by kernel_rfl, by kernel_rfl⟩
theorem first_same : Rows.laid_unicode_utf8_first = Lib.firstData := by kernel_rfl
theorem accept_same : (Rows.laid_unicode_utf8_acceptRanges : DataW Unit) = Lib.acceptData := by kernel_rfl
theorem env_of {W : World} (h : laidMet Tryd.prog [("unicode/utf8.acceptRanges", Rows.laid_unicode_utf8_acceptRanges), ("unicode/utf8.first", Rows.laid_unicode_utf8_first)] W) (hs : W.ShapedOpen Tryd.prog) : Env W := by
  refine ⟨?_, ?_⟩
  · have h1 := Lib.laidMet.reads h (n := "unicode/utf8.first") (d := Rows.laid_unicode_utf8_first) (by simp)
    have h2 := Lib.laidMet.reads h (n := "unicode/utf8.acceptRanges") (d := Rows.laid_unicode_utf8_acceptRanges) (by simp)
    rw [first_same] at h1
    rw [accept_same] at h2
    exact utf8Tabs_of_readsT (U8Types.of196 Tryd.laysValid) u8extra h1 h2
  · obtain ⟨cs, hh, hz, hr⟩ := hs.1 2 #[.int .i64 0] 3 (of_decide_eq_true (by kernel_rfl)) (by kernel_rfl)
    obtain ⟨ts, hts, _, hall⟩ := hr (by kernel_rfl)
    have h1 : 0 < cs.size := by rw [hz]; decide
    have e : Tryd.prog.cellTypes Tryd.prog.depth 3 = some [3] := by kernel_rfl
    rw [e] at hts
    cases hts
    obtain ⟨u, hu', hok⟩ := hall 0 cs[0] (by simp [h1])
    have : u = 3 := by simpa using hu'.symm
    subst this
    have hcell : W.cell? ⟨2, 0, none⟩ = some cs[0] := by simp [World.cell?, hh, h1]
    rw [hcell]
    unfold Cell.ok at hok
    rw [Tryd.underlying3] at hok
    cases hv : cs[0] <;> rw [hv] at hok <;> first | (simp at hok; done) | skip
    rename_i k m
    simp at hok
    exact ⟨m, by rw [hok.1]⟩
theorem laidOut : laidOutB Tryd.prog = true := by kernel_rfl
theorem trodAll_ext {P : Program} (laidOut : laidOutB P = true) {H : Type} {enc : TypeId × Value → H} {W W' : World} (hx : Ext W W') {sp : Nat → Bool} : ∀ {ts : List TypeId} {vs : List Value} {ds : List (DataW H)} {ps : List MemPlace}, DataW.TrodAll enc P W 0 (fun _ => true) true ts vs ds ps →
    (ts.all fun t => P.readableRec t && decide (t < P.types.size)) = true → (∀ x ∈ ps, x.block < W.heap.size) → (∀ x ∈ ps, sp x.block = true) → DataW.TrodAll enc P W' 0 sp true ts vs ds ps
  | [], _, _, _, h, _, _, _ => by
    obtain ⟨rfl, rfl, rfl⟩ := trodAll_nil h
    exact rfl
  | t :: ts, _, _, _, h, ha, hlt, hsp => by
    obtain ⟨v, vs1, d, ds1, a, b, rfl, rfl, rfl, h1, h2⟩ := trodAll_cons h
    simp only [List.all_cons, Bool.and_eq_true, decide_eq_true_eq] at ha
    refine ⟨a, b, WideElems.Trod_stays laidOut ha.1.1 ha.1.2 h1 (fun x hx' => Below.same hx (hlt x (List.mem_append_left _ hx'))) (fun x hx' => hsp x (List.mem_append_left _ hx')), trodAll_ext laidOut hx h2 ha.2 (fun x hx' => hlt x (List.mem_append_right _ hx')) (fun x hx' => hsp x (List.mem_append_right _ hx')), rfl⟩

/-- what the row asks behind a call that answers true and has only made new memory -/
theorem post_true {H : Type} {enc : TypeId × Value → H} {f : Func} {s : ChangeSpec} {fresh handsOn : Bool} {W W' : World} {args : Array Value} {ds gs : List (DataW H)} {before : List MemPlace} (hW : DataW.Whole enc Tryd.prog f.params.toList s.vars false W args.toList ds gs before)
    (hv : s.vars = []) (hr : f.resultTypes = #[4]) (hts : (f.params.toList.all fun t => Tryd.prog.readableRec t && decide (t < Tryd.prog.types.size)) = true) (hres : (s.fn H (ds ++ gs)).results = [.lit (.bool true)]) (hargs : (s.fn H (ds ++ gs)).args = ds) (hvars : (s.fn H (ds ++ gs)).vars = [])
    (hx : Ext W W') : s.post enc Tryd.prog f false fresh handsOn false W args (.bool true) W' := by
  have hlt := hW.lt
  obtain ⟨p, q, hA, hV, rfl, hfz, hnd⟩ := hW
  rw [hv] at hV
  obtain ⟨rfl, rfl⟩ := trodVars_none hV
  have hlt' : ∀ x ∈ p, x.block < W.heap.size := fun x hx' => hlt x (by simpa using hx')
  have hA' : DataW.TrodAll enc Tryd.prog W' 0 (fun b => decide (b < W.heap.size)) true f.params.toList args.toList ds p := trodAll_ext laidOut hx hA hts hlt' (fun x hx' => by simpa using hlt' x hx')
  refine ⟨ds, [], p ++ [], [], p, [], ⟨p, [], hA, by rw [hv]; exact rfl, rfl, hfz, hnd⟩, ?_, by rw [hargs]; exact hA', by rw [hv, hvars]; exact rfl, Below.frame hx _, fun h => by cases h⟩
  rw [hr, hres]
  exact trodAll_cons_mk (shut_bool Tryd.underlying4 _) trodAll_mk0

/-- a world for the witness: the settled one, the two tables holding what the library lays -/
def layFirst : Obj → Obj
  | .cells _ t frozen => .cells (Lib.firstTab.map fun z => Value.int .u8 z).toArray t frozen
  | o => o
def layAccept : Obj → Obj
  | .cells _ t frozen => .cells ((List.range 16).flatMap fun i => [Value.int .u8 (Lib.accLo i : Int), Value.int .u8 (Lib.accHi i : Int)]).toArray t frozen
  | o => o
noncomputable def laidWorld (os : Os) : World :=
  { World.holding Tryd.prog os ⟨#[], #[], []⟩ with heap := ((World.holding Tryd.prog os ⟨#[], #[], []⟩).heap.modify 0 layFirst).modify 1 layAccept }
theorem own : ownKnob Tryd.prog.godebug = none := by kernel_rfl
end Go.Proofs.YtagfedbdakmlgaaDoor
