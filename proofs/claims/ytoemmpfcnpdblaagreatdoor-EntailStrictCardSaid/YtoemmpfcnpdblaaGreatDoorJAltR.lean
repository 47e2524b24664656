/- Plain laws of alternatives: what the reference computes is what the program computes. -/
import Derived.Test.YtoemmpfcnpdblaaGreatDoorJAltG
set_option linter.all false
namespace Go.Proofs.YtoemmpfcnpdblaaGreatDoor
open Go

def clashR (l : List (List Term)) : Bool :=
 (List.range l.length).any fun i => (List.range l.length).any fun k => !(i == k) && conA (l.getD i []) (l.getD k [])
def checkR (l : List (List Term)) : Int :=
 if bigA l then 10 else if !(l.all (rises tcmp) && rises acmp l) then 5 else if clashR l then 1 else 0
theorem clashR_min {l : List (List Term)} (h1 : ∀ a ∈ l, a.Pairwise fun x y => tcmp x y < 0) (h2 : l.Pairwise fun a b => acmp a b < 0) : clashR l = clash [] l := by
 rw [Bool.eq_iff_iff, ← Bool.not_eq_false, ← Bool.not_eq_false (clash [] l)]
 refine not_congr ?_
 rw [clash_iff]
 unfold clashR
 have hg : ∀ i (hi : i < l.length), l.getD i [] = l[i] := fun i hi => by rw [List.getD_eq_getElem?_getD, List.getElem?_eq_getElem hi]; rfl
 constructor
 ·intro h
  refine ⟨fun _ _ _ hp => by simp at hp, List.pairwise_iff_getElem.2 fun i j hi hj hij => ?_⟩
  rw [List.any_eq_false] at h
  have h3 := h j (List.mem_range.2 hj)
  rw [List.any_eq_true] at h3
  cases hc : conA l[j] l[i]
  ·rfl
  ·exact absurd ⟨i, List.mem_range.2 hi, by rw [hg i hi, hg j hj, hc]; simp; omega⟩ h3
 ·rintro ⟨-, h3⟩
  have hm := minL_mk h1 h2 h3
  rw [List.any_eq_false]
  intro i hi hx
  rw [List.any_eq_true] at hx
  obtain ⟨k, hk, hx⟩ := hx
  have hi := List.mem_range.1 hi
  have hk := List.mem_range.1 hk
  rw [hg i hi, hg k hk, Bool.and_eq_true] at hx
  have e := hm.apt _ (List.getElem_mem hi) _ (List.getElem_mem hk) hx.2
  have hne : i ≠ k := by simpa using hx.1
  rcases Nat.lt_or_gt_of_ne hne with h | h
  ·have := List.pairwise_iff_getElem.1 h2 i k hi hk h
   rw [e] at this; exact acmp_to.irr _ this
  ·have := List.pairwise_iff_getElem.1 h2 k i hk hi h
   rw [e] at this; exact acmp_to.irr _ this
theorem check_same (l : List (List Term)) : checkA l = checkR l := by
 unfold checkA checkR
 show (if bigA l then (10 : Int) else _) = _
 cases bigA l
 ·rw [if_neg (Bool.false_ne_true), if_neg (Bool.false_ne_true)]
  cases h1 : l.all (rises tcmp)
  ·rfl
  ·cases h2 : rises acmp l
   ·rfl
   ·rw [clashR_min (fun a ha => (rises_pairwise tcmp_to).1 (List.all_eq_true.1 h1 a ha)) ((rises_pairwise acmp_to).1 h2)]; rfl
 ·rfl
def bef (a b : Term) : Bool := slt a.license b.license || (seq a.license b.license && slt a.exception b.exception)
theorem bef_eq (a b : Term) : bef a b = decide (tcmp a b < 0) := by
 have h0 : ∀ x y : ByteArray, slt x y = decide (scmp x y < 0) := fun x y => by
  unfold scmp
  cases slt x y
  ·cases slt y x <;> rfl
  ·rfl
 unfold bef tcmp lex2
 by_cases h : a.license = b.license
 ·have e : scmp a.license b.license = 0 := (scmp_to.eq _ _).2 h
  have e2 : seq a.license b.license = true := by rw [seq_eq]; exact decide_eq_true h
  rw [if_pos e, e2, h0 a.license, e, h0]; simp
 ·have e : ¬ scmp a.license b.license = 0 := fun h2 => h ((scmp_to.eq _ _).1 h2)
  have e2 : seq a.license b.license = false := by rw [seq_eq]; exact decide_eq_false h
  rw [if_neg e, e2, h0]; simp
end Go.Proofs.YtoemmpfcnpdblaaGreatDoor
