/- slices.Grow of nothing, slices.Concat: at terms and at alternatives. -/
import Derived.Lib.AppendZerosOnto
import Derived.Lib.SliceRun
import Derived.Lib.Walk
import Derived.Test.YtoemmpfcnpdblaaGreatDoorJMeanU
set_option linter.all false
namespace Go.Proofs.YtoemmpfcnpdblaaGreatDoor
open Go Go.RowKit Go.ChangeShapes Go.Sort Go.Lib

def RowF (B : Nat) (w0 w : World) (v : Value) (xs : List (List Term)) : Prop :=
 ∃ vs : List Value, vs.length = xs.length ∧ w.ownsRow B 24 1 v xs.length vs ∧ ∀ (i : Nat) (u : Value) (x : List Term), vs[i]? = some u → xs[i]? = some x → Is w0 u x
theorem RowF.is {B : Nat} {w0 w : World} {v : Value} {xs : List (List Term)} (h : RowF B w0 w v xs) (hb : Below w0.heap.size w0 w) : Is w v xs := by
 obtain ⟨vs, h1, h2, h3⟩ := h
 rcases h2.2 with ⟨rfl, h0⟩ | ⟨g, cap, cur, rfl, hg, hh, hn', hc, hsz, ht⟩
 ·obtain rfl : xs = [] := List.length_eq_zero_iff.1 h0
  exact nil_mk w
 ·refine list_mk hn' hc fun i x hx => ⟨g, 0, rfl, ?_, ?_⟩
  ·rcases Nat.lt_or_ge g w.heap.size with h | h
   ·exact h
   ·rw [Array.getElem?_eq_none h] at hh; cases hh
  ·have hi : i < xs.length := lt_get hx
   obtain ⟨u, hu⟩ := get_lt (xs := vs) (k := i) (by omega)
   obtain ⟨a', c', rfl, k1, k2, k3⟩ := list_inv ((h3 i u x hu hx).mono hb)
   refine ⟨a', c', ?_, k1, k2, k3⟩
   show w.cell? ⟨g, 0 + i * 1 + 0, none⟩ = _
   have e : cur[i]? = some (.slice a' x.length c') := by
    rw [← ht, List.getElem?_take] at hu
    split at hu
    ·simpa using hu
    ·cases hu
   rw [show 0 + i * 1 + 0 = i by omega]
   simp [World.cell?, hh, e]
end Go.Proofs.YtoemmpfcnpdblaaGreatDoor
