/- Plain laws of layer 34: what is milder, what separates. No program in sight. -/
import Derived.Test.YtaaobpicaaeiiaaGreatDoorJAltG
import Derived.Test.YtaaobpicaaeiiaaGreatDoorJMeanS
import Derived.Test.YtaaobpicaaeiiaaGreatDoorJIdxF
import Derived.Test.YtaaobpicaaeiiaaGreatDoorJLaw
set_option linter.all false
namespace Go.Proofs.YtaaobpicaaeiiaaGreatDoor
open Go

end Go.Proofs.YtaaobpicaaeiiaaGreatDoor
