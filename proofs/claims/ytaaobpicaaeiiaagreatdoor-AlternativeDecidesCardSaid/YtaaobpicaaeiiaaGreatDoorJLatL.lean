/- Plain laws of Either and Both: a distributive lattice of minimal lists, as far as no result is too large; and what minimizing does. -/
import Derived.Test.YtaaobpicaaeiiaaGreatDoorJAltG
set_option linter.all false
namespace Go.Proofs.YtaaobpicaaeiiaaGreatDoor
open Go

structure OkL (large : Bool) (l : List (List Term)) (f : List Term → Bool) : Prop where
 ok : large = false → checkA l = 0 ∧ MinL l ∧ ∀ ts, satP l ts = f ts
theorem OkL.same {large : Bool} {a b : List (List Term)} {f g : List Term → Bool} (ha : OkL large a f) (hb : OkL large b g) (h : ∀ ts, f ts = g ts) : large = true ∨ a = b := by
 cases large
 ·obtain ⟨-, a2, a3⟩ := ha.ok rfl
  obtain ⟨-, b2, b3⟩ := hb.ok rfl
  exact .inr (min_unique a2 b2 fun ts => by rw [a3, b3, h])
 ·exact .inl rfl
end Go.Proofs.YtaaobpicaaeiiaaGreatDoor
