/- The walk of the reference's Parse of moments. -/
import Derived.Test.YtlmeinikknoeeaaGreatDoorQ13
import Derived.Test.YtlmeinikknoeeaaGreatDoorQ12
import Derived.StillTailTactics
namespace Go.Proofs.YtlmeinikknoeeaaGreatDoor
set_option linter.unusedVariables false
set_option linter.unnecessarySimpa false
set_option linter.unusedSimpArgs false
open Go.RowKit
end Go.Proofs.YtlmeinikknoeeaaGreatDoor
