/- Plain laws of layer 34: what is milder, what separates. No program in sight. -/
import Derived.Test.YtoemmpfcnpdblaaGreatDoorJAltG
import Derived.Test.YtoemmpfcnpdblaaGreatDoorJMeanS
import Derived.Test.YtoemmpfcnpdblaaGreatDoorJIdxF
import Derived.Test.YtoemmpfcnpdblaaGreatDoorJLaw
set_option linter.all false
namespace Go.Proofs.YtoemmpfcnpdblaaGreatDoor
open Go

theorem idxP_cases {α : Type} (p : α → Bool) (xs : List α) : (xs.find? p = none ∧ idxP p xs = -1) ∨ ∃ (k : Nat) (x : α), xs[k]? = some x ∧ xs.find? p = some x ∧ idxP p xs = (k : Int) := by
 cases h : xs.findIdx? p with
 | none =>
  left
  refine ⟨List.find?_eq_none.2 fun x hx => ?_, by unfold idxP; rw [h]⟩
  rw [List.findIdx?_eq_none_iff] at h
  simp [h x hx]
 | some k =>
  right
  obtain ⟨hk, hq, hj⟩ := List.findIdx?_eq_some_iff_getElem.1 h
  refine ⟨k, xs[k], by simp, ?_, by unfold idxP; rw [h]⟩
  rw [List.find?_eq_some_iff_getElem]
  exact ⟨hq, k, hk, rfl, fun j hjk => by have := hj j hjk; simpa using this⟩
end Go.Proofs.YtoemmpfcnpdblaaGreatDoor
