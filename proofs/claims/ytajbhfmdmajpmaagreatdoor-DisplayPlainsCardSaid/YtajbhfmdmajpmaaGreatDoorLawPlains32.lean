/- The walk of the law DisplayPlains. -/
import Derived.Test.YtajbhfmdmajpmaaGreatDoorPk22
import Derived.Test.YtajbhfmdmajpmaaGreatDoorPlnD
import Derived.Test.YtajbhfmdmajpmaaGreatDoorPlnR
namespace Go.Proofs.YtajbhfmdmajpmaaGreatDoor
set_option linter.unusedVariables false
set_option linter.unusedSimpArgs false
open Go.RowKit

set_option maxRecDepth 100000 in
set_option maxHeartbeats 4000000 in
theorem DisplayPlains_any (A : Option Addr) (n c : Nat) (l : List Gl) (w : World) (hE : Env w) (h1 : GlsAt w A n l) :
    Calls Tryz.prog 11 #[.slice A n c] w fun en w' => en = .returned (.bool true) ∧ Ext w w' := by
  have HAw := Lib.hid (awake32_any w hE)
  have H1 := Lib.hid h1
  clear hE h1
  go_enter Tryz.func11, Tryz.ntmps11
  go_wp2_with fail
  refine HAw.out.mono ?_
  rintro en1 w1 ⟨rfl, hx1⟩
  have HX1 := Lib.hid hx1
  clear hx1 HAw
  by_cases hn : 600 < n
  · have hb : decide ((n : Int) > 600) = true := by simp; omega
    have hb2 : decide ((600 : Int) < n) = true := by simp; omega
    go_wp2_with fail
    go_ret
    exact ⟨rfl, HX1.out⟩
  have hb : decide ((n : Int) > 600) = false := by simp; omega
  have hb2 : decide ((600 : Int) < n) = false := by simp; omega
  have HC1 := Lib.hid (fun w' (hx : Ext w w') => Plain32_any A n c l w' (H1.out.ext hx) (by omega))
  have HC2 := Lib.hid (fun w' (hx : Ext w w') => R32Plain_any A n c l w' (H1.out.ext hx) (by omega))
  generalize plainT l = gt at *
  generalize glsErr l = ge at *
  go_wp2_with fail
  refine (HC1.out _ HX1.out).mono ?_
  rintro en2 w2 ⟨rfl, hx2⟩
  have HX2 := Lib.hid (HX1.out.trans hx2)
  clear hx2
  go_wp2_with fail
  refine (HC2.out _ HX2.out).mono ?_
  rintro en3 w3 ⟨rfl, hx3⟩
  have HX3 := Lib.hid (HX2.out.trans hx3)
  clear hx3
  go_wp2_with fail
  go_ret
  exact ⟨rfl, HX3.out⟩
end Go.Proofs.YtajbhfmdmajpmaaGreatDoor
