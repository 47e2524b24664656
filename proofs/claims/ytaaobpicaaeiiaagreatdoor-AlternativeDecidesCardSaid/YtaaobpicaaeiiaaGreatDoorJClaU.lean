/- The clauses of a term: a row of the call's own, whatever rows of rows change. -/
import Derived.Test.YtaaobpicaaeiiaaGreatDoorJMeanS
import Derived.Test.YtaaobpicaaeiiaaGreatDoorJLiftU
import Derived.Test.YtaaobpicaaeiiaaGreatDoorJCompU
import Derived.Test.YtaaobpicaaeiiaaGreatDoorJMeanU
set_option linter.all false
namespace Go.Proofs.YtaaobpicaaeiiaaGreatDoor
open Go Go.RowKit Go.ChangeShapes
end Go.Proofs.YtaaobpicaaeiiaaGreatDoor
namespace Go.Proofs.YtaaobpicaaeiiaaGreatDoor
open Go Go.RowKit Go.ChangeShapes Go.Sort Go.Lib

def OwnY {α : Type} [Lay α] (B : Nat) (E : TypeId → Prop) (e : TypeId) (w : World) (v : Value) (xs : List α) : Prop := OwnL 0 E e w v xs ∧ ∃ cs, w.ownsRow B e (Lay.n α) v xs.length cs
section
variable {α : Type} [Lay α] {B : Nat} {E : TypeId → Prop} {e : TypeId} {w w' : World} {v : Value} {xs : List α}
theorem OwnY.nil (B : Nat) (E : TypeId → Prop) (e : TypeId) (w : World) : OwnY B E e w (.slice none 0 0) ([] : List α) := ⟨OwnL.nil _ _ _ _, (OwnL.nil B E e w).row⟩
theorem OwnY.is (h : OwnY B E e w v xs) : Is w v xs := h.1.is
theorem OwnY.below (h : OwnY B E e w v xs) (hb : Below w.heap.size w w') : OwnY B E e w' v xs := by
 refine ⟨h.1.below hb, ?_⟩
 obtain ⟨cs, h1, h2⟩ := h.2
 refine ⟨cs, h1, h2.imp id ?_⟩
 rintro ⟨g, cap, cur, a, b, c, d⟩
 have hg : g < w.heap.size := by
  rcases Nat.lt_or_ge g w.heap.size with h | h
  ·exact h
  ·rw [Array.getElem?_eq_none h] at c; cases c
 exact ⟨g, cap, cur, a, b, by rw [hb.block g hg]; exact c, d⟩
end
end Go.Proofs.YtaaobpicaaeiiaaGreatDoor
namespace Go.Proofs.YtaaobpicaaeiiaaGreatDoor
open Go Go.RowKit Go.ChangeShapes Go.Sort Go.Lib

end Go.Proofs.YtaaobpicaaeiiaaGreatDoor
