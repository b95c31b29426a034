/- The walk of the reference's Name. -/
import Derived.Test.YtffianmhojiomaaDoorName
namespace Go.Proofs.YtffianmhojiomaaDoor
set_option linter.unusedVariables false
set_option linter.unusedSimpArgs false
open Go.RowKit

theorem digit_any (c : Int) (w : World) : Calls Tryd.prog 84 #[.int .u8 c] w fun e w' => e = .returned (.bool (decide (48 ≤ c ∧ c ≤ 57))) ∧ w = w' := by
  by_cases h1 : 48 ≤ c
  · by_cases h2 : c ≤ 57
    · go_enter Tryd.func84, Tryd.ntmps84
      go_wp2
      go_ret
      exact ⟨ret_bool (by rw [decide_eq_true ⟨h1, h2⟩]), rfl⟩
    · go_enter Tryd.func84, Tryd.ntmps84
      go_wp2
      go_ret
      exact ⟨ret_bool (by rw [decide_eq_false (by omega)]), rfl⟩
  · go_enter Tryd.func84, Tryd.ntmps84
    go_wp2
    go_ret
    exact ⟨ret_bool (by simp; omega), rfl⟩

def NameRelR (s : ByteArray) (i : Value) (w wr : World) : Prop := ∃ k : Nat, k ≤ s.size ∧ i = .int .i64 k ∧ (s.data.toList.take k).all (fun c => nbI c.toNat) = true ∧ (0 < k → ∀ h : 0 < s.size, (65 : Int) ≤ (s[0].toNat : Int) ∧ (s[0].toNat : Int) ≤ 90) ∧ w = wr
theorem nb_step {s : ByteArray} {k : Nat} (hlt : k < s.size) (h : (s.data.toList.take k).all (fun c => nbI c.toNat) = true) (hb : nbI (s[k].toNat : Int) = true) : (s.data.toList.take (k + 1)).all (fun c => nbI c.toNat) = true := by
  rw [take_snoc s k hlt, List.all_append, h]
  simp [hb]
theorem nb_let {c : Int} (h1 : 65 ≤ c) (h2 : c ≤ 90) : nbI c = true := decide_eq_true (.inl ⟨h1, h2⟩)
theorem nb_dig {c : Int} (h1 : 48 ≤ c) (h2 : c ≤ 57) : nbI c = true := decide_eq_true (.inr (.inl ⟨h1, h2⟩))

set_option maxRecDepth 100000 in
set_option maxHeartbeats 4000000 in
theorem RName_any (s : ByteArray) (w : World) (hs : s.size ≤ 9223372036854775807) :
    Calls Tryd.prog 71 #[.string s] w fun e w' => e = .returned (.bool (nameB s)) ∧ Ext w w' := by
  by_cases h : 1 ≤ s.size
  · by_cases h' : s.size ≤ 16
    · have h1 : (1 : Int) ≤ (s.size : Int) := by omega
      have h2 : (s.size : Int) ≤ 16 := by omega
      have h0 : 0 < s.size := by omega
      have HS := Lib.hid (And.intro h h')
      go_enter Tryd.func71, Tryd.ntmps71
      go_wp2
      go_loopw [3] (fun i wr => NameRelR s i w wr) (fun i _ => s.size - (intOf i).toNat)
      case atStart => exact ⟨0, Nat.zero_le _, rfl, rfl, fun h => absurd h (by omega), rfl⟩
      case round =>
        obtain ⟨k, hk, rfl, hall, hhd, rfl⟩ := hrel
        have HA := Lib.hid hall
        have HH := Lib.hid hhd
        clear hall hhd
        by_cases hlt : k < s.size
        · have hki : (k : Int) < (s.size : Int) := by omega
          by_cases hl1 : (65 : Int) ≤ (s[k].toNat : Int)
          · by_cases hl2 : (s[k].toNat : Int) ≤ 90
            · have HB := Lib.hid (nb_step hlt HA.out (nb_let hl1 hl2))
              have HH2 : Hid (∀ h : 0 < s.size, (65 : Int) ≤ (s[0].toNat : Int) ∧ (s[0].toNat : Int) ≤ 90) := fun h => by
                rcases Nat.eq_zero_or_pos k with h0 | h0
                · subst h0; exact ⟨hl1, hl2⟩
                · exact HH.out h0 h
              go_wp2
              exact ⟨⟨k + 1, by omega, by go_num, HB.out, fun _ => HH2.out, rfl⟩, by simp [intOf]; omega⟩
            · by_cases hk0 : k = 0
              · subst hk0
                have HF := Lib.hid (nameB_head h0 (by omega))
                go_wp2_with fail
                go_ret
                exact ⟨by rw [HF.out]; rfl, Ext.refl _⟩
              · have hk0' : ((k : Int) == 0) = false := by simp; omega
                have hd : ¬ ((48 : Int) ≤ (s[k].toNat : Int) ∧ (s[k].toNat : Int) ≤ 57) := by omega
                go_wp2_with fail
                refine (digit_any _ _).mono ?_
                rintro e w1 ⟨rfl, rfl⟩
                rw [decide_eq_false hd]
                by_cases h95 : (s[k].toNat : Int) = 95
                · have HB := Lib.hid (nb_step hlt HA.out (by unfold nbI; rw [h95]; decide))
                  go_wp2_with fail
                  exact ⟨⟨k + 1, by omega, by go_num, HB.out, fun _ => HH.out (by omega), rfl⟩, by simp [intOf]; omega⟩
                · by_cases h45 : (s[k].toNat : Int) = 45
                  · exfalso; omega
                  · have e95 : ((s[k].toNat : Int) != 95) = true := by simpa using h95
                    have e45 : ((s[k].toNat : Int) != 45) = true := by simpa using h45
                    have HF := Lib.hid (nameB_at k hlt (by unfold nbI; rw [decide_eq_false (by omega)]))
                    go_wp2_with fail
                    go_ret
                    exact ⟨by rw [HF.out]; rfl, Ext.refl _⟩
          · by_cases hk0 : k = 0
            · subst hk0
              have HF := Lib.hid (nameB_head h0 (by omega))
              go_wp2_with fail
              go_ret
              exact ⟨by rw [HF.out]; rfl, Ext.refl _⟩
            · have hk0' : ((k : Int) == 0) = false := by simp; omega
              go_wp2_with fail
              refine (digit_any _ _).mono ?_
              rintro e w1 ⟨rfl, rfl⟩
              by_cases hd : (48 : Int) ≤ (s[k].toNat : Int) ∧ (s[k].toNat : Int) ≤ 57
              · rw [decide_eq_true hd]
                have HB := Lib.hid (nb_step hlt HA.out (nb_dig hd.1 hd.2))
                go_wp2_with fail
                exact ⟨⟨k + 1, by omega, by go_num, HB.out, fun _ => HH.out (by omega), rfl⟩, by simp [intOf]; omega⟩
              · rw [decide_eq_false hd]
                by_cases h45 : (s[k].toNat : Int) = 45
                · have HB := Lib.hid (nb_step hlt HA.out (by unfold nbI; rw [h45]; decide))
                  have e95 : ((s[k].toNat : Int) != 95) = true := by rw [h45]; rfl
                  have e45 : ((s[k].toNat : Int) != 45) = false := by rw [h45]; rfl
                  clear h45
                  go_wp2_with fail
                  exact ⟨⟨k + 1, by omega, by go_num, HB.out, fun _ => HH.out (by omega), rfl⟩, by simp [intOf]; omega⟩
                · have e95 : ((s[k].toNat : Int) != 95) = true := by simp; omega
                  have e45 : ((s[k].toNat : Int) != 45) = true := by simpa using h45
                  have HF := Lib.hid (nameB_at k hlt (by unfold nbI; rw [decide_eq_false (by omega)]))
                  go_wp2_with fail
                  go_ret
                  exact ⟨by rw [HF.out]; rfl, Ext.refl _⟩
        · have ek : k = s.size := by omega
          subst ek
          go_wp2
          go_ret
          exact ⟨by rw [nameB_yes HS.out h0 (HH.out h0 h0) HA.out]; rfl, Ext.refl _⟩
    · have HF := Lib.hid (nameB_small (s := s) (by omega))
      have h1 : (16 : Int) < (s.size : Int) := by omega
      go_enter Tryd.func71, Tryd.ntmps71
      go_wp2
      go_ret
      exact ⟨by rw [HF.out]; rfl, Ext.refl _⟩
  · have HF := Lib.hid (nameB_small (s := s) (by omega))
    have h1 : (s.size : Int) < 1 := by omega
    go_enter Tryd.func71, Tryd.ntmps71
    go_wp2
    go_ret
    exact ⟨by rw [HF.out]; rfl, Ext.refl _⟩
end Go.Proofs.YtffianmhojiomaaDoor
