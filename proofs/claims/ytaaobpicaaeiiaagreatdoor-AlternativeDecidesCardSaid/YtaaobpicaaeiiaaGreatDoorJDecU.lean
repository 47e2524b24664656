/- The reference's order of alternatives, and its check of a list. -/
import Derived.Test.YtaaobpicaaeiiaaGreatDoorJRefV
import Derived.Test.YtaaobpicaaeiiaaGreatDoorJCmpU
import Derived.Test.YtaaobpicaaeiiaaGreatDoorJEntU
import Derived.Test.YtaaobpicaaeiiaaGreatDoorJR33U
import Derived.Test.YtaaobpicaaeiiaaGreatDoorJLawE
set_option linter.all false
namespace Go.Proofs.YtaaobpicaaeiiaaGreatDoor
open Go Go.RowKit Go.ChangeShapes Go.Lib

end Go.Proofs.YtaaobpicaaeiiaaGreatDoor
namespace Go.Proofs.YtaaobpicaaeiiaaGreatDoor
open Go Go.RowKit Go.ChangeShapes Go.Lib

end Go.Proofs.YtaaobpicaaeiiaaGreatDoor
namespace Go.Proofs.YtaaobpicaaeiiaaGreatDoor
open Go Go.RowKit Go.ChangeShapes Go.Lib

end Go.Proofs.YtaaobpicaaeiiaaGreatDoor
