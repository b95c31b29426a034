/- The walk of lines.Name. -/
import Derived.Test.YtffianmhojiomaaDoorBase
namespace Go.Proofs.YtffianmhojiomaaDoor
set_option linter.unusedVariables false
set_option linter.unusedSimpArgs false
open Go.RowKit

/-- may a byte stand in a name? (of its number) -/
def nbI (c : Int) : Bool := decide ((65 ≤ c ∧ c ≤ 90) ∨ (48 ≤ c ∧ c ≤ 57) ∨ c = 95 ∨ c = 45)
def nameB (s : ByteArray) : Bool := decide (1 ≤ s.size ∧ s.size ≤ 16) && (s.data.toList.take 1).all (fun c => decide (65 ≤ (c.toNat : Int) ∧ (c.toNat : Int) ≤ 90)) && s.data.toList.all (fun c => nbI c.toNat)

theorem take_snoc (s : ByteArray) (k : Nat) (h : k < s.size) : s.data.toList.take (k + 1) = s.data.toList.take k ++ [s[k]] := by
  rw [List.take_succ_eq_append_getElem (by simpa using h)]; rfl

theorem nameB_small {s : ByteArray} (h : ¬ (1 ≤ s.size ∧ s.size ≤ 16)) : nameB s = false := by unfold nameB; rw [decide_eq_false h]; rfl
theorem nameB_head {s : ByteArray} (h : 0 < s.size) (hc : ¬ ((65 : Int) ≤ (s[0].toNat : Int) ∧ (s[0].toNat : Int) ≤ 90)) : nameB s = false := by
  unfold nameB
  have e := take_snoc s 0 h
  simp only [Nat.zero_add, List.take_zero, List.nil_append] at e
  rw [e, List.all_cons, decide_eq_false hc]
  simp
theorem nameB_at {s : ByteArray} (k : Nat) (h : k < s.size) (hc : nbI (s[k].toNat : Int) = false) : nameB s = false := by
  unfold nameB
  have : (s.data.toList.all fun c => nbI c.toNat) = false := by
    rw [List.all_eq_false]
    exact ⟨s[k], by simp [ByteArray.getElem_eq_getElem_data], by rw [hc]; simp⟩
  rw [this, Bool.and_false]
theorem nameB_yes {s : ByteArray} (h : 1 ≤ s.size ∧ s.size ≤ 16) (h0 : 0 < s.size) (hc : (65 : Int) ≤ (s[0].toNat : Int) ∧ (s[0].toNat : Int) ≤ 90) (ha : (s.data.toList.take s.size).all (fun c => nbI c.toNat) = true) : nameB s = true := by
  unfold nameB
  have e := take_snoc s 0 h0
  simp only [Nat.zero_add, List.take_zero, List.nil_append] at e
  rw [List.take_of_length_le (by simp)] at ha
  rw [e, List.all_cons, decide_eq_true hc, decide_eq_true h, ha]
  rfl

def NameRel (s : ByteArray) (i : Value) : Prop := ∃ k : Nat, k ≤ s.size ∧ i = .int .i64 k ∧ (s.data.toList.take k).all (fun c => nbI c.toNat) = true

set_option maxHeartbeats 1000000 in
theorem Name_any (s : ByteArray) (w : World) (hs : s.size ≤ 9223372036854775807) :
    Calls Tryd.prog 56 #[.string s] w fun e w' => e = .returned (.bool (nameB s)) ∧ w = w' := by
  by_cases h : 1 ≤ s.size
  · by_cases h' : s.size ≤ 16
    · have h1 : (1 : Int) ≤ (s.size : Int) := by omega
      have h2 : (s.size : Int) ≤ 16 := by omega
      have h0 : 0 < s.size := by omega
      have HS := Lib.hid (And.intro h h')
      by_cases hc1 : (65 : Int) ≤ (s[0].toNat : Int)
      · by_cases hc2 : (s[0].toNat : Int) ≤ 90
        · go_enter Tryd.func56, Tryd.ntmps56
          go_wp2
          go_loop [25] (fun i => NameRel s i) (fun i => s.size - (intOf i).toNat)
          case atStart => exact ⟨0, Nat.zero_le _, rfl, rfl⟩
          case round =>
            obtain ⟨k, hk, rfl, hall⟩ := hrel
            have HA := Lib.hid hall
            clear hall
            by_cases hlt : k < s.size
            · by_cases hb : nbI (s[k].toNat : Int) = true
              · have HA' : Hid ((s.data.toList.take (k + 1)).all (fun c => nbI c.toNat) = true) := by
                  show (s.data.toList.take (k + 1)).all (fun c => nbI c.toNat) = true
                  rw [take_snoc s k hlt, List.all_append, HA.out]
                  simp [hb]
                have hb' : ((65 : Int) ≤ (s[k].toNat : Int) ∧ (s[k].toNat : Int) ≤ 90) ∨ ((48 : Int) ≤ (s[k].toNat : Int) ∧ (s[k].toNat : Int) ≤ 57) ∨ (s[k].toNat : Int) = 95 ∨ (s[k].toNat : Int) = 45 := of_decide_eq_true hb
                clear hb
                go_wp2
                all_goals first
                  | exact ⟨⟨k + 1, by omega, by go_num, HA'.out⟩, by simp [intOf]; omega⟩
                  | (exfalso; simp at *; omega)
              · have HB := Lib.hid (nameB_at k hlt (by simpa using hb))
                have hb' : ¬ (((65 : Int) ≤ (s[k].toNat : Int) ∧ (s[k].toNat : Int) ≤ 90) ∨ ((48 : Int) ≤ (s[k].toNat : Int) ∧ (s[k].toNat : Int) ≤ 57) ∨ (s[k].toNat : Int) = 95 ∨ (s[k].toNat : Int) = 45) := fun x => hb (decide_eq_true x)
                clear hb
                go_wp2
                all_goals first
                  | (go_ret; exact ⟨by rw [HB.out]; rfl, rfl⟩)
                  | (exfalso; simp at *; omega)
            · have ek : k = s.size := by omega
              subst ek
              go_wp2
              go_ret
              exact ⟨by rw [nameB_yes HS.out h0 ⟨hc1, hc2⟩ HA.out]; rfl, rfl⟩
        · have HF := Lib.hid (nameB_head h0 (by omega))
          go_enter Tryd.func56, Tryd.ntmps56
          go_wp2
          go_ret
          exact ⟨by rw [HF.out]; rfl, rfl⟩
      · have HF := Lib.hid (nameB_head h0 (by omega))
        go_enter Tryd.func56, Tryd.ntmps56
        go_wp2
        go_ret
        exact ⟨by rw [HF.out]; rfl, rfl⟩
    · have HF := Lib.hid (nameB_small (s := s) (by omega))
      have h1 : (16 : Int) < (s.size : Int) := by omega
      go_enter Tryd.func56, Tryd.ntmps56
      go_wp2
      go_ret
      exact ⟨by rw [HF.out]; rfl, rfl⟩
  · have HF := Lib.hid (nameB_small (s := s) (by omega))
    have h1 : (s.size : Int) < 1 := by omega
    go_enter Tryd.func56, Tryd.ntmps56
    go_wp2
    go_ret
    exact ⟨by rw [HF.out]; rfl, rfl⟩
end Go.Proofs.YtffianmhojiomaaDoor
