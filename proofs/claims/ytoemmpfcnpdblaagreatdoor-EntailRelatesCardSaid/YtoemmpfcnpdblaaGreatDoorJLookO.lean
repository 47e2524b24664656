/- The reference's clauses of a term: a row of the call's own, over data of an earlier world. -/
import Derived.Test.YtoemmpfcnpdblaaGreatDoorJClaU
import Derived.Test.YtoemmpfcnpdblaaGreatDoorJLookU
set_option linter.all false
namespace Go.Proofs.YtoemmpfcnpdblaaGreatDoor
open Go Go.RowKit Go.ChangeShapes
end Go.Proofs.YtoemmpfcnpdblaaGreatDoor
