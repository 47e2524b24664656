/- Opening: what reads as data is a datum of ours. -/
import Derived.Test.YtaneolfnnkppbaaGreatDoorProg
import Derived.ProofKit
import Derived.OpenShut
import Derived.Carry
import Derived.ChangeArms
import Derived.Test.YtaneolfnnkppbaaGreatDoorJBase
set_option linter.all false
namespace Go.Proofs.YtaneolfnnkppbaaGreatDoor
open Go Go.RowKit Go.ChangeShapes
end Go.Proofs.YtaneolfnnkppbaaGreatDoor
