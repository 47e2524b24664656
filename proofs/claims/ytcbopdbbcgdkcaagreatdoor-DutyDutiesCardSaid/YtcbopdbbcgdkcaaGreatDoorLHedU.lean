/- Lemmas. -/
import Derived.Test.YtcbopdbbcgdkcaaGreatDoorLDuI
import Derived.Test.YtcbopdbbcgdkcaaGreatDoorLDuJ
set_option linter.all false
namespace Go.Proofs.YtcbopdbbcgdkcaaGreatDoor
open Go


open Go.RowKit Go.ChangeShapes Go.Lib Go.Shelf

theorem FewX.fits {c:Catalog} {x:List Fact} (h:FewX c x):∀ f∈x,fitF f:=fun f hf=>by
 obtain ⟨h1,h2,h3⟩:=h.2.2.2 f hf;exact ⟨by omega,by omega,by omega⟩

end Go.Proofs.YtcbopdbbcgdkcaaGreatDoor
