/- The law's same, of lists of drifts. -/
import Derived.Test.YtbfaghgjbipilaaGreatDoorPk13
import Derived.Test.YtbfaghgjbipilaaGreatDoorPk20
namespace Go.Proofs.YtbfaghgjbipilaaGreatDoor
set_option linter.unusedVariables false
set_option linter.unusedSimpArgs false
open Go.RowKit

def Dri.aggV (c : Dri) : Value := .agg #[.int .i64 c.id, .int .i64 c.inn, .int .i64 c.out]
theorem neq_dri (a b : Dri) (w : World) : (binOp .neq 135 a.aggV b.aggV).run Tryz.prog w = .ok (.bool (!decide (a = b))) w := by
  obtain ⟨id, ii, oo⟩ := a
  obtain ⟨id', ii', oo'⟩ := b
  unfold Dri.aggV
  dsimp only
  go_simp
  repeat' split
  all_goals simp_all
theorem neq_dri_yes (a b : Dri) (h : ¬ a = b) (w : World) : (binOp .neq 135 a.aggV b.aggV).run Tryz.prog w = .ok (.bool true) w := by rw [neq_dri, decide_eq_false h]; rfl
theorem neq_dri_no (a : Dri) (w : World) : (binOp .neq 135 a.aggV a.aggV).run Tryz.prog w = .ok (.bool false) w := by rw [neq_dri, decide_eq_true rfl]; rfl

set_option maxRecDepth 100000 in
set_option maxHeartbeats 2000000 in
theorem same47_any (A : Option Addr) (n c : Nat) (B : Option Addr) (m d : Nat) (l1 l2 : List Dri) (w : World) (h1 : DrisAt w A n l1) (h2 : DrisAt w B m l2) (hn : n ≤ 4611686018427387904) :
    Calls Tryz.prog 57 #[.slice A n c, .slice B m d] w fun e w' => e = .returned (.bool (decide (l1 = l2))) ∧ Ext w w' := by
  have L1 := Lib.hid h1.len
  have L2 := Lib.hid h2.len
  have H1 := Lib.hid h1
  have H2 := Lib.hid h2
  clear h1 h2
  by_cases hnm : n = m
  · subst hnm
    go_enter Tryz.func57, Tryz.ntmps57
    go_wp2_with fail
    go_loopw [13] (fun i wr => EqRel w n l1 l2 i wr) (fun i _ => n - (intOf i).toNat)
    case atStart => exact ⟨0, Nat.zero_le _, rfl, Ext.refl _, rfl⟩
    case round =>
      obtain ⟨k, hk, rfl, hx, hp⟩ := hrel
      have HP := Lib.hid hp
      clear hp
      by_cases hlt : k < n
      · obtain ⟨b1, o1, r, rfl, hr, c0, c1, c2⟩ := (H1.out.ext hx).at3 hlt
        obtain ⟨b2, o2, s, rfl, hs, d0, d1, d2⟩ := (H2.out.ext hx).at3 hlt
        have HR := Lib.hid hr
        have HS := Lib.hid hs
        clear hr hs
        have hk0 : (0 : Int) ≤ (k : Int) := by omega
        have hk1 : (k : Int) < (n : Int) := by omega
        by_cases hq : r = s
        · subst hq
          have HT := Lib.hid (take_eq_succ HP.out HR.out HS.out)
          have hne := fun w => neq_dri_no r w
          unfold Dri.aggV at hne
          go_wp2_with fail
          go_quiet (fail)
          go_wp2_with fail
          exact ⟨⟨k + 1, by omega, by go_num, hx.drewN _, HT.out⟩, by simp [intOf]; omega⟩
        · have hne := fun w => neq_dri_yes r s hq w
          have HN := Lib.hid (ne_at HR.out HS.out hq)
          unfold Dri.aggV at hne
          clear hq
          go_wp2_with fail
          go_quiet (fail)
          go_wp2_with fail
          go_ret
          exact ⟨ret_bool (decide_eq_false HN.out).symm, hx.drewN _⟩
      · have hkn : k = n := by omega
        subst hkn
        have HQ := Lib.hid (eq_of_take L1.out L2.out HP.out)
        go_wp2_with fail
        go_ret
        exact ⟨ret_bool (decide_eq_true HQ.out).symm, hx⟩
  · have hb : ((n : Int) != (m : Int)) = true := by simp; omega
    have HN : Hid (¬ l1 = l2) := by
      show ¬ _
      intro h
      apply hnm
      rw [← L1.out, ← L2.out, h]
    go_enter Tryz.func57, Tryz.ntmps57
    go_wp2_with fail
    go_ret
    exact ⟨ret_bool (decide_eq_false HN.out).symm, Ext.refl _⟩

end Go.Proofs.YtbfaghgjbipilaaGreatDoor
