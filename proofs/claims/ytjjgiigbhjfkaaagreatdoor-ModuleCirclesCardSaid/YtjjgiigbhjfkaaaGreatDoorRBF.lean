/- ModuleCircles answers true at told inputs (the fast machine run by the kernel); no condition. -/
import Derived.Test.YtjjgiigbhjfkaaaGreatDoorTab
set_option linter.unusedSimpArgs false
set_option linter.unusedVariables false
set_option maxHeartbeats 100000000
set_option maxRecDepth 1000000
namespace Go.Proofs.YtjjgiigbhjfkaaaGreatDoor
open Go Go.Proofs.YtjjgiigbhjfkaaaGreatDoor.Am Go.Proofs.YtjjgiigbhjfkaaaGreatDoor.Am.T
theorem r30f : isTrue ((machT 40).enter 3 [.int .u8 2, .int .u8 0, .bool false] emptyF) = true := by decide +kernel
end Go.Proofs.YtjjgiigbhjfkaaaGreatDoor

set_option maxRecDepth 1000000
namespace Go.Proofs.YtjjgiigbhjfkaaaGreatDoor
open Go Go.Proofs.YtjjgiigbhjfkaaaGreatDoor.Am Go.Proofs.YtjjgiigbhjfkaaaGreatDoor.Am.T
theorem r31f : isTrue ((machT 40).enter 3 [.int .u8 2, .int .u8 1, .bool false] emptyF) = true := by decide +kernel
end Go.Proofs.YtjjgiigbhjfkaaaGreatDoor

set_option maxRecDepth 1000000
namespace Go.Proofs.YtjjgiigbhjfkaaaGreatDoor
open Go Go.Proofs.YtjjgiigbhjfkaaaGreatDoor.Am Go.Proofs.YtjjgiigbhjfkaaaGreatDoor.Am.T
theorem r32f : isTrue ((machT 40).enter 3 [.int .u8 2, .int .u8 2, .bool false] emptyF) = true := by decide +kernel
end Go.Proofs.YtjjgiigbhjfkaaaGreatDoor
