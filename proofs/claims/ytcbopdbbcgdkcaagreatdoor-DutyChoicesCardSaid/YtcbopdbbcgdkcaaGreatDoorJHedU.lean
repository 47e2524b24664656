/- Lemmas. -/
import Derived.Test.YtcbopdbbcgdkcaaGreatDoorJDuI
import Derived.Test.YtcbopdbbcgdkcaaGreatDoorJDuJ
set_option linter.all false
namespace Go.Proofs.YtcbopdbbcgdkcaaGreatDoor
open Go


open Go.RowKit Go.ChangeShapes Go.Lib Go.Shelf

theorem FewX.fits {c:Catalog} {x:List Fact} (h:FewX c x):∀ f∈x,fitF f:=fun f hf=>by
 obtain ⟨h1,h2,h3⟩:=h.2.2.2 f hf;exact ⟨by omega,by omega,by omega⟩

def NI (r:Choice×Int) (w:World) (e:Ending) (w':World):Prop :=
 ∃ a1 c1 a2 c2,e=.returned (.tuple #[.agg #[.slice a1 r.1.terms.length c1,.slice a2 r.1.own.length c2],.int .i64 r.2])∧ChO w.heap.size w' (.slice a1 r.1.terms.length c1) (.slice a2 r.1.own.length c2) r.1∧Below w.heap.size w w'
theorem Nth_is (w:World) (vc vx:Value) (c:Catalog) (x:List Fact) (n:Int) (hg:Glob w) (hc:Is w vc c) (h:Is w vx x) (hfit:∀ f∈x,fitF f) (hlic:c.licenses.length≤1000000) :
  Calls Tryz.prog 22 #[vc,vx,.int .i64 n] w fun e w'=>NI (nthC c x n) w e w':=by
 refine (Nth_p w vc vx c x n hg hc h hfit hlic).mono ?_;rintro e w' ⟨v1,v2,he,hch,hb⟩;obtain ⟨a1,c1,a2,c2,rfl,rfl⟩:=hch.shape;exact ⟨a1,c1,a2,c2,he,hch,hb⟩
end Go.Proofs.YtcbopdbbcgdkcaaGreatDoor
