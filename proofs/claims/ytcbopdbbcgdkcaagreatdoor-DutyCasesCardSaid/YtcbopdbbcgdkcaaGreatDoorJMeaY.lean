/- Plain laws of expressions that are parts of others. -/
import Derived.Test.YtcbopdbbcgdkcaaGreatDoorJAltG
import Derived.Test.YtcbopdbbcgdkcaaGreatDoorJExpG
import Derived.Test.YtcbopdbbcgdkcaaGreatDoorJMeanU
import Derived.Test.YtcbopdbbcgdkcaaGreatDoorJLaw
import Derived.Test.YtcbopdbbcgdkcaaGreatDoorJRfE
set_option linter.all false
namespace Go.Proofs.YtcbopdbbcgdkcaaGreatDoor
open Go







end Go.Proofs.YtcbopdbbcgdkcaaGreatDoor
