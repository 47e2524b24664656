/- The reference's clauses of a term: a row of the call's own, over data of an earlier world. -/
import Derived.Test.YtaaobpicaaeiiaaGreatDoorJR33U
import Derived.Test.YtaaobpicaaeiiaaGreatDoorJLookU
import Derived.Test.YtaaobpicaaeiiaaGreatDoorJClaU
set_option linter.all false
namespace Go.Proofs.YtaaobpicaaeiiaaGreatDoor
open Go Go.RowKit Go.ChangeShapes
end Go.Proofs.YtaaobpicaaeiiaaGreatDoor
namespace Go.Proofs.YtaaobpicaaeiiaaGreatDoor
open Go Go.RowKit Go.ChangeShapes Go.Lib

def OwnW {α : Type} [Lay α] (B0 B : Nat) (E : TypeId → Prop) (e : TypeId) (w : World) (v : Value) (xs : List α) : Prop := OwnL B0 E e w v xs ∧ ∃ cs, w.ownsRow B e (Lay.n α) v xs.length cs
section
variable {α : Type} [Lay α] {B0 B : Nat} {E : TypeId → Prop} {e : TypeId} {w w' : World} {v : Value} {xs : List α}
theorem OwnW.nil (B0 B : Nat) (E : TypeId → Prop) (e : TypeId) (w : World) : OwnW B0 B E e w (.slice none 0 0) ([] : List α) := ⟨OwnL.nil _ _ _ _, (OwnL.nil B E e w).row⟩
theorem OwnW.is (h : OwnW B0 B E e w v xs) : Is w v xs := h.1.is
theorem OwnW.below (h : OwnW B0 B E e w v xs) (hb : Below w.heap.size w w') : OwnW B0 B E e w' v xs := by
 refine ⟨h.1.below hb, ?_⟩
 obtain ⟨cs, h1, h2⟩ := h.2
 refine ⟨cs, h1, h2.imp id ?_⟩
 rintro ⟨g, cap, cur, a, b, c, d⟩
 have hg : g < w.heap.size := by
  rcases Nat.lt_or_ge g w.heap.size with h | h
  ·exact h
  ·rw [Array.getElem?_eq_none h] at c; cases c
 exact ⟨g, cap, cur, a, b, by rw [hb.block g hg]; exact c, d⟩
end
end Go.Proofs.YtaaobpicaaeiiaaGreatDoor
