/- The law: to be milder is reflexive and transitive; a term with an exception is milder than without it; what entails a list entails it by the catalog. -/
import Derived.Test.YtoemmpfcnpdblaaGreatDoorJMilU
import Derived.Test.YtoemmpfcnpdblaaGreatDoorJAwU
import Derived.Test.YtoemmpfcnpdblaaGreatDoorJSepU
import Derived.Test.YtoemmpfcnpdblaaGreatDoorJFewU
import Derived.Test.YtoemmpfcnpdblaaGreatDoorJConcA
import Derived.Test.YtoemmpfcnpdblaaGreatDoorJLawE
set_option linter.all false
namespace Go.Proofs.YtoemmpfcnpdblaaGreatDoor
open Go Go.RowKit Go.ChangeShapes Go.Sort Go.Lib

def CatB (c : Catalog) (v0 v1 v2 v3 : Value) (g : Nat) (W : World) : Prop :=
 (W.cell? ⟨g, 0, none⟩ = some v0 ∧ W.cell? ⟨g, 1, none⟩ = some v1 ∧ W.cell? ⟨g, 2, none⟩ = some v2 ∧ W.cell? ⟨g, 3, none⟩ = some v3) ∧ Is W (.agg #[v0, v1, v2, v3]) c ∧ Glob W
theorem CatB.mono {c : Catalog} {v0 v1 v2 v3 : Value} {g : Nat} {W W' : World} (h : CatB c v0 v1 v2 v3 g W) (hb : Below W.heap.size W W') : CatB c v0 v1 v2 v3 g W' :=
 ⟨⟨kept hb h.1.1, kept hb h.1.2.1, kept hb h.1.2.2.1, kept hb h.1.2.2.2⟩, h.2.1.mono hb, h.2.2.mono hb⟩
theorem catB_new {c : Catalog} {v0 v1 v2 v3 : Value} {W : World} (h : Is W (.agg #[v0, v1, v2, v3]) c) (hg : Glob W) : CatB c v0 v1 v2 v3 W.heap.size (W.alloc (.cells #[v0, v1, v2, v3] 42)) := by
 have hb : Below W.heap.size W (W.alloc (.cells #[v0, v1, v2, v3] 42)) := (Below.refl _ _).alloc (Nat.le_refl _) _
 exact ⟨⟨by simp, by simp, by simp, by simp⟩, h.mono hb, hg.mono hb⟩
end Go.Proofs.YtoemmpfcnpdblaaGreatDoor
