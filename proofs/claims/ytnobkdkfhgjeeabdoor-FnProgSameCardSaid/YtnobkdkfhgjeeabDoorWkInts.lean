/- wkInts. -/
import Derived.Test.YtnobkdkfhgjeeabDoorBaseE
namespace Go.Proofs.YtnobkdkfhgjeeabDoor
open Go.RowKit

end Go.Proofs.YtnobkdkfhgjeeabDoor
