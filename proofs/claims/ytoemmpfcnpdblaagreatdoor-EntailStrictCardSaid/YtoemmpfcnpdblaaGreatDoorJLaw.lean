/- Plain laws of catalogs: pairs, and later versions. -/
import Derived.Test.YtoemmpfcnpdblaaGreatDoorJProY
set_option linter.all false
namespace Go.Proofs.YtoemmpfcnpdblaaGreatDoor
open Go Go.Sort

end Go.Proofs.YtoemmpfcnpdblaaGreatDoor
namespace Go.Proofs.YtoemmpfcnpdblaaGreatDoor
open Go Go.Sort

end Go.Proofs.YtoemmpfcnpdblaaGreatDoor
