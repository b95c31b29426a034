/- The chapter's example: the plain facts. -/
import Derived.Test.YtcgflkmkdpgchaaDoorMkRows
import Derived.Test.YtcgflkmkdpgchaaDoorEventD
namespace Go.Proofs.YtcgflkmkdpgchaaDoor
set_option linter.unusedVariables false
set_option linter.unusedSimpArgs false
open Go.RowKit

def e0 : Ev := ⟨1, 10, 50, ⟨#[]⟩, 1, ⟨#[]⟩, [plainRow ⟨#[72, 105, 44]⟩, plainRow ⟨#[121, 111, 117, 46]⟩]⟩
theorem e0_len : e0.len = 8 := by kernel_rfl
theorem e0_spotsErr : e0.spotsErr [] = 0 := by kernel_rfl
theorem e0_spots : e0.spots [] = [⟨13, 14, 3⟩, ⟨14, 14, 4⟩] := by kernel_rfl
theorem e0_split1 : e0.splitErr 30 1 2 = 0 := by kernel_rfl
theorem e0_split2 : e0.splitErr 10 1 2 = 2 := by kernel_rfl
theorem e0_a : (e0.splitL 30 1 2).text = [72, 105, 44] := by kernel_rfl
theorem e0_b : (e0.splitR 30 1 2).text = [121, 111, 117, 46] := by kernel_rfl
theorem e0_err : e0.err [] = 0 := by kernel_rfl
def eA : Ev := ⟨1, 10, 30, ⟨#[]⟩, 1, ⟨#[]⟩, [plainRow ⟨#[72, 105, 44]⟩]⟩
def eB : Ev := ⟨2, 30, 50, ⟨#[]⟩, 1, ⟨#[]⟩, [plainRow ⟨#[121, 111, 117, 46]⟩]⟩
theorem e0_eA : e0.splitL 30 1 2 = eA := by kernel_rfl
theorem e0_eB : e0.splitR 30 1 2 = eB := by kernel_rfl
theorem eA_text : eA.text = [72, 105, 44] := by kernel_rfl
theorem eB_text : eB.text = [121, 111, 117, 46] := by kernel_rfl
end Go.Proofs.YtcgflkmkdpgchaaDoor
