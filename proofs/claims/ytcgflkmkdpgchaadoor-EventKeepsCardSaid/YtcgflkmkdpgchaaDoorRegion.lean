/- The walks of package region (from, Default, Check, usable, Find, Place). -/
import Derived.Test.YtcgflkmkdpgchaaDoorName
namespace Go.Proofs.YtcgflkmkdpgchaaDoor
set_option linter.unusedVariables false
set_option linter.unusedSimpArgs false
open Go.RowKit

/-- a region -/
structure Reg where
  name : ByteArray
  top : Int
  height : Int
  left : Int
  width : Int
  align : Int
  bottom : Bool
  deriving DecidableEq
def Reg.val (r : Reg) : Value := .agg #[.string r.name, .int .i64 r.top, .int .i64 r.height, .int .i64 r.left, .int .i64 r.width, .int .u8 r.align, .bool r.bottom]
def Reg.zero : Reg := ⟨ByteArray.empty, 0, 0, 0, 0, 0, false⟩
def Reg.default : Reg := ⟨ByteArray.empty, 11, 4, 0, 32, 2, true⟩

theorem from_yes (n lo hi : Int) (w : World) (h : lo ≤ n ∧ n ≤ hi) : Calls Tryd.prog 68 #[.int .i64 n, .int .i64 lo, .int .i64 hi] w fun e w' => e = .returned (.bool true) ∧ w = w' := by
  obtain ⟨h1, h2⟩ := h
  go_enter Tryd.func68, Tryd.ntmps68
  go_wp2
  go_ret
  exact ⟨by simp [h2], rfl⟩
theorem from_no (n lo hi : Int) (w : World) (h : ¬ (lo ≤ n ∧ n ≤ hi)) : Calls Tryd.prog 68 #[.int .i64 n, .int .i64 lo, .int .i64 hi] w fun e w' => e = .returned (.bool false) ∧ w = w' := by
  by_cases h1 : lo ≤ n
  · have h2 : ¬ n ≤ hi := fun x => h ⟨h1, x⟩
    clear h
    go_enter Tryd.func68, Tryd.ntmps68
    go_wp2
    go_ret
    exact ⟨rfl, rfl⟩
  · clear h
    go_enter Tryd.func68, Tryd.ntmps68
    go_wp2
    go_ret
    exact ⟨rfl, rfl⟩

set_option maxHeartbeats 400000 in
theorem Default_any (w : World) : Calls Tryd.prog 46 #[] w fun e w' => e = .returned Reg.default.val ∧ Ext w w' := by
  go_enter Tryd.func46, Tryd.ntmps46
  go_wp2
  exact bodyPost_ret (v := Reg.default.val) (by simp [results, Tryd.results46, go_sem, Reg.val, Reg.default]; rfl) rfl ⟨rfl, (Ext.refl w).alloc _⟩

def Reg.inGrid (r : Reg) : Prop := (0 ≤ r.top ∧ r.top ≤ 14) ∧ (1 ≤ r.height ∧ r.height ≤ 15 - r.top) ∧ (0 ≤ r.left ∧ r.left ≤ 31) ∧ (1 ≤ r.width ∧ r.width ≤ 32 - r.left)
instance (r : Reg) : Decidable r.inGrid := by unfold Reg.inGrid; infer_instance
def Reg.check (r : Reg) : Int := if nameB r.name = false then 5 else if ¬ r.inGrid then 2 else if r.align < 1 ∨ 3 < r.align then 3 else 0

set_option maxHeartbeats 1000000 in
theorem RCheck_any (r : Reg) (w : World) (hs : r.name.size ≤ 9223372036854775807) : Calls Tryd.prog 61 #[r.val] w fun e w' => e = .returned (.int .i64 r.check) ∧ Ext w w' := by
  obtain ⟨nm, top, hgt, lft, wid, al, bot⟩ := r
  unfold Reg.val
  dsimp only
  cases hn : nameB nm
  · have HN := Lib.hid hn
    have HF : Hid (Reg.check ⟨nm, top, hgt, lft, wid, al, bot⟩ = 5) := by show Reg.check _ = 5; unfold Reg.check; rw [if_pos hn]
    clear hn
    go_enter Tryd.func61, Tryd.ntmps61
    go_wp2_with fail
    refine (Name_any nm _ hs).mono ?_
    rintro e w1 ⟨rfl, rfl⟩
    rw [HN.out]
    go_wp2_with fail
    go_ret
    exact ⟨ret_int HF.out.symm, (Ext.refl w).alloc _⟩
  · have HN := Lib.hid hn
    have HC : Hid (Reg.check ⟨nm, top, hgt, lft, wid, al, bot⟩ = if ¬ Reg.inGrid ⟨nm, top, hgt, lft, wid, al, bot⟩ then 2 else if al < 1 ∨ 3 < al then 3 else 0) := by
      show Reg.check _ = _
      unfold Reg.check
      rw [if_neg (by rw [hn]; simp)]
    have HI : Hid (Reg.inGrid ⟨nm, top, hgt, lft, wid, al, bot⟩ ↔ ((0 ≤ top ∧ top ≤ 14) ∧ (1 ≤ hgt ∧ hgt ≤ 15 - top) ∧ (0 ≤ lft ∧ lft ≤ 31) ∧ (1 ≤ wid ∧ wid ≤ 32 - lft))) := Iff.rfl
    clear hn
    by_cases h1 : 0 ≤ top ∧ top ≤ 14
    · by_cases h2 : 1 ≤ hgt ∧ hgt ≤ 15 - top
      · by_cases h3 : 0 ≤ lft ∧ lft ≤ 31
        · by_cases h4 : 1 ≤ wid ∧ wid ≤ 32 - lft
          · by_cases h5 : al < 1
            · go_enter Tryd.func61, Tryd.ntmps61
              go_wp2_with fail
              refine (Name_any nm _ hs).mono ?_
              rintro e w1 ⟨rfl, rfl⟩
              rw [HN.out]
              go_wp2_with (first | (go_at_call 68; refine (from_yes _ _ _ _ (by omega)).mono ?_; rintro e w' ⟨rfl, rfl⟩) | (go_at_call 68; refine (from_no _ _ _ _ (by omega)).mono ?_; rintro e w' ⟨rfl, rfl⟩))
              go_ret
              exact ⟨ret_int (by rw [HC.out, if_neg (by rw [HI.out]; omega), if_pos (by omega)]), (Ext.refl w).alloc _⟩
            · by_cases h6 : 3 < al
              · go_enter Tryd.func61, Tryd.ntmps61
                go_wp2_with fail
                refine (Name_any nm _ hs).mono ?_
                rintro e w1 ⟨rfl, rfl⟩
                rw [HN.out]
                go_wp2_with (first | (go_at_call 68; refine (from_yes _ _ _ _ (by omega)).mono ?_; rintro e w' ⟨rfl, rfl⟩) | (go_at_call 68; refine (from_no _ _ _ _ (by omega)).mono ?_; rintro e w' ⟨rfl, rfl⟩))
                go_ret
                exact ⟨ret_int (by rw [HC.out, if_neg (by rw [HI.out]; omega), if_pos (by omega)]), (Ext.refl w).alloc _⟩
              · go_enter Tryd.func61, Tryd.ntmps61
                go_wp2_with fail
                refine (Name_any nm _ hs).mono ?_
                rintro e w1 ⟨rfl, rfl⟩
                rw [HN.out]
                go_wp2_with (first | (go_at_call 68; refine (from_yes _ _ _ _ (by omega)).mono ?_; rintro e w' ⟨rfl, rfl⟩) | (go_at_call 68; refine (from_no _ _ _ _ (by omega)).mono ?_; rintro e w' ⟨rfl, rfl⟩))
                go_ret
                exact ⟨ret_int (by rw [HC.out, if_neg (by rw [HI.out]; omega), if_neg (by omega)]), (Ext.refl w).alloc _⟩
          · go_enter Tryd.func61, Tryd.ntmps61
            go_wp2_with fail
            refine (Name_any nm _ hs).mono ?_
            rintro e w1 ⟨rfl, rfl⟩
            rw [HN.out]
            go_wp2_with (first | (go_at_call 68; refine (from_yes _ _ _ _ (by omega)).mono ?_; rintro e w' ⟨rfl, rfl⟩) | (go_at_call 68; refine (from_no _ _ _ _ (by omega)).mono ?_; rintro e w' ⟨rfl, rfl⟩))
            go_ret
            exact ⟨ret_int (by rw [HC.out, if_pos (by rw [HI.out]; omega)]), (Ext.refl w).alloc _⟩
        · go_enter Tryd.func61, Tryd.ntmps61
          go_wp2_with fail
          refine (Name_any nm _ hs).mono ?_
          rintro e w1 ⟨rfl, rfl⟩
          rw [HN.out]
          go_wp2_with (first | (go_at_call 68; refine (from_yes _ _ _ _ (by omega)).mono ?_; rintro e w' ⟨rfl, rfl⟩) | (go_at_call 68; refine (from_no _ _ _ _ (by omega)).mono ?_; rintro e w' ⟨rfl, rfl⟩))
          go_ret
          exact ⟨ret_int (by rw [HC.out, if_pos (by rw [HI.out]; omega)]), (Ext.refl w).alloc _⟩
      · go_enter Tryd.func61, Tryd.ntmps61
        go_wp2_with fail
        refine (Name_any nm _ hs).mono ?_
        rintro e w1 ⟨rfl, rfl⟩
        rw [HN.out]
        go_wp2_with (first | (go_at_call 68; refine (from_yes _ _ _ _ (by omega)).mono ?_; rintro e w' ⟨rfl, rfl⟩) | (go_at_call 68; refine (from_no _ _ _ _ (by omega)).mono ?_; rintro e w' ⟨rfl, rfl⟩))
        go_ret
        exact ⟨ret_int (by rw [HC.out, if_pos (by rw [HI.out]; omega)]), (Ext.refl w).alloc _⟩
    · go_enter Tryd.func61, Tryd.ntmps61
      go_wp2_with fail
      refine (Name_any nm _ hs).mono ?_
      rintro e w1 ⟨rfl, rfl⟩
      rw [HN.out]
      go_wp2_with (first | (go_at_call 68; refine (from_yes _ _ _ _ (by omega)).mono ?_; rintro e w' ⟨rfl, rfl⟩) | (go_at_call 68; refine (from_no _ _ _ _ (by omega)).mono ?_; rintro e w' ⟨rfl, rfl⟩))
      go_ret
      exact ⟨ret_int (by rw [HC.out, if_pos (by rw [HI.out]; omega)]), (Ext.refl w).alloc _⟩
end Go.Proofs.YtcgflkmkdpgchaaDoor
