/- Plain: the values of a case and how many choices they give (for DutyProduct). -/
import Derived.Deep.DeepCutAuto
import Derived.RangeFuncRecord
import Derived.Test.YtcbopdbbcgdkcaaGreatDoorJDuL
import Derived.Test.YtcbopdbbcgdkcaaGreatDoorJDuE
import Derived.Test.YtcbopdbbcgdkcaaGreatDoorJDuG
import Derived.Test.YtcbopdbbcgdkcaaGreatDoorJDuI
import Derived.Test.YtcbopdbbcgdkcaaGreatDoorJDuJ
import Derived.Test.YtcbopdbbcgdkcaaGreatDoorJMeaY
set_option linter.all false
namespace Go.Proofs.YtcbopdbbcgdkcaaGreatDoor
open Go


open Go.RowKit Go.ChangeShapes Go.Lib Go.Shelf

theorem FewX.fits {c:Catalog} {x:List Fact} (h:FewX c x):∀ f∈x,fitF f:=fun f hf=>by
 obtain ⟨h1,h2,h3⟩:=h.2.2.2 f hf;exact ⟨by omega,by omega,by omega⟩
def VI (r:List (List (List Term))×List ByteArray×Int) (w:World) (e:Ending) (w':World):Prop :=
 ∃ v1 v2,e=.returned (.tuple #[v1,v2,.int .i64 r.2.2])∧Is w' v1 r.1∧Is w' v2 r.2.1∧Below w.heap.size w w'
theorem Values_is (w:World) (vc vx:Value) (c:Catalog) (x:List Fact) (hg:Glob w) (hc:Is w vc c) (h:Is w vx x) (hfit:∀ f∈x,fitF f) :
  Calls Tryz.prog 15 #[vc,vx] w fun e w'=>VI (valuesC c x) w e w':=by
 refine (Values_p w vc vx c x hg hc h hfit).mono ?_;rintro e w' ⟨v1,v2,he,h1,h2,h3,hb⟩;exact ⟨v1,v2,he,h1.is,h2.strs h3,hb⟩

end Go.Proofs.YtcbopdbbcgdkcaaGreatDoor
