/- The walk of the law RetimeWorst. -/
import Derived.Test.YtaocjfneglgmjaaDoorPk14
namespace Go.Proofs.YtaocjfneglgmjaaDoor
set_option linter.unusedVariables false
set_option linter.unusedSimpArgs false
open Go.RowKit

set_option maxRecDepth 100000 in
set_option maxHeartbeats 4000000 in
theorem RetimeWorst_any (A : Option Addr) (n c : Nat) (l : List Dri) (w : World) (hE : Env w) (hl : DrisAt w A n l) (hf : ∀ d ∈ l, d.Fits) :
    Calls Tryd.prog 6 #[.slice A n c] w fun en w' => en = .returned (.bool true) ∧ Ext w w' := by
  have HL := Lib.hid hl
  have HF := Lib.hid hf
  have HE := Lib.hid hE
  clear hl hf hE
  go_enter Tryd.func6, Tryd.ntmps6
  go_wp2_with fail
  refine (awake47_any _ HE.out).mono ?_
  rintro en w1 ⟨rfl, hx1⟩
  have HX1 := Lib.hid hx1
  clear hx1
  by_cases h5 : 500 < n
  · have h5i : (500 : Int) < (n : Int) := by omega
    go_wp2_with fail
    go_ret
    exact ⟨rfl, HX1.out⟩
  have h5i : ¬ (500 : Int) < (n : Int) := by omega
  go_wp2_with fail
  refine (PWorst47_any A n c l _ (HL.out.ext HX1.out) (by omega) HF.out).mono ?_
  rintro en w2 ⟨rfl, hx2⟩
  have HX2 := Lib.hid (HX1.out.trans hx2)
  clear hx2
  go_wp2_with fail
  refine (RWorst47_any A n c l _ (HL.out.ext HX2.out) (by omega) HF.out).mono ?_
  rintro en w3 ⟨rfl, hx3⟩
  go_wp2_with fail
  go_ret
  exact ⟨rfl, HX2.out.trans hx3⟩
end Go.Proofs.YtaocjfneglgmjaaDoor
