/- The reference's Few: where it returns true, the catalog's bytes are few. -/
import Derived.IntWalk
import Derived.Test.YtaneolfnnkppbaaGreatDoorJCat
import Derived.Test.YtaneolfnnkppbaaGreatDoorJRefV
set_option linter.all false
namespace Go.Proofs.YtaneolfnnkppbaaGreatDoor
open Go Go.RowKit Go.ChangeShapes
end Go.Proofs.YtaneolfnnkppbaaGreatDoor
namespace Go.Proofs.YtaneolfnnkppbaaGreatDoor
open Go Go.RowKit Go.ChangeShapes
end Go.Proofs.YtaneolfnnkppbaaGreatDoor
