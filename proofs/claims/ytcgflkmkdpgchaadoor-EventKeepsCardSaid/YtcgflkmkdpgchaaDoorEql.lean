/- Go's == on the structs of package api, as the equality of plain data. -/
import Derived.Test.YtcgflkmkdpgchaaDoorRegion
namespace Go.Proofs.YtcgflkmkdpgchaaDoor
set_option linter.unusedVariables false
set_option linter.unusedSimpArgs false
open Go.RowKit

theorem toList_inj (a b : ByteArray) : (a.toList = b.toList) = (a = b) := by
  rw [ByteArray.toList_eq, ByteArray.toList_eq]
  obtain ⟨⟨x⟩⟩ := a
  obtain ⟨⟨y⟩⟩ := b
  simp

theorem eql_reg (a b : Reg) (w : World) : (binOp .eql 68 a.val b.val).run Tryd.prog w = .ok (.bool (decide (a = b))) w := by
  obtain ⟨nm, top, hgt, lft, wid, al, bot⟩ := a
  obtain ⟨nm', top', hgt', lft', wid', al', bot'⟩ := b
  unfold Reg.val
  dsimp only
  go_simp
  simp only [toList_inj]
  repeat' split
  all_goals simp_all
theorem eql_reg_yes (a : Reg) (w : World) : (binOp .eql 68 a.val a.val).run Tryd.prog w = .ok (.bool true) w := by rw [eql_reg, decide_eq_true rfl]
theorem eql_reg_no {a b : Reg} (h : ¬ a = b) (w : World) : (binOp .eql 68 a.val b.val).run Tryd.prog w = .ok (.bool false) w := by rw [eql_reg, decide_eq_false h]
end Go.Proofs.YtcgflkmkdpgchaaDoor
