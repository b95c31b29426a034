/- Laid together: Arguments that are rates, spans, small numbers, booleans and lists of drifts, opened. -/
import Derived.Test.YtagfedbdakmlgaaGreatDoorSt01
import Derived.Test.YtagfedbdakmlgaaGreatDoorSt09
import Derived.OpenShut

/-! OpenR -/
namespace Go.Proofs.YtagfedbdakmlgaaGreatDoor
set_option linter.unusedVariables false
set_option linter.unusedSimpArgs false
open Go.RowKit Go.ChangeShapes Go.WideShapes Go.ChangeAt
set_option maxRecDepth 100000
end Go.Proofs.YtagfedbdakmlgaaGreatDoor
