/- The walks of the document's calendar: floor, Day, Week, leap, days. -/
import Derived.Test.YtmncgnmgdkdhaaaGreatDoorDayW5
namespace Go.Proofs.YtmncgnmgdkdhaaaGreatDoor
open Go.RowKit
set_option linter.unusedVariables false
set_option linter.unusedSimpArgs false
end Go.Proofs.YtmncgnmgdkdhaaaGreatDoor
