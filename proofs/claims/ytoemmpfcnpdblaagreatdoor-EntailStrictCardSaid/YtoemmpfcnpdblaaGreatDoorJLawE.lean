/- Plain laws of layer 34: what is milder, what separates. No program in sight. -/
import Derived.Test.YtoemmpfcnpdblaaGreatDoorJAltG
import Derived.Test.YtoemmpfcnpdblaaGreatDoorJMeanS
import Derived.Test.YtoemmpfcnpdblaaGreatDoorJIdxF
import Derived.Test.YtoemmpfcnpdblaaGreatDoorJLaw
set_option linter.all false
namespace Go.Proofs.YtoemmpfcnpdblaaGreatDoor
open Go

def hasB (l : List ByteArray) (s : ByteArray) : Bool := l.any fun u => decide (u = s)
def coveredR (x y : Clause) : Bool :=
 if !(x.way == y.way) || !(x.relation == y.relation) || !(x.duty == y.duty) then false else y.list.all (hasB x.list)
def mildR (a b : List Clause) : Bool := a.all fun x => b.any fun y => coveredR x y
theorem clausesC_mem {c : Catalog} {t : Term} {w r : Int} {y : Clause} (h : y ∈ clausesC c t w r) : checkC c = 0 ∧ y ∈ c.clauses := by
 unfold clausesC at h
 cases h1 : liftsC c t with
 | none => rw [h1] at h; simp at h
 | some l => rw [h1] at h; exact ⟨lifts_check h1, (List.mem_filter.1 h).1⟩
theorem clausesA_mem {c : Catalog} {a : List Term} {y : Clause} : y ∈ clausesA c a ↔ ∃ w ∈ ([0, 1, 2] : List Int), ∃ r ∈ ([0, 1, 2] : List Int), ∃ t ∈ a, y ∈ clausesC c t w r := by
 unfold clausesA; simp only [List.mem_flatMap]
theorem clause_share {c : Catalog} (h : checkC c = 0) {y : Clause} (hy : y ∈ c.clauses) (hl : ¬ y.duty = 4) : y.list = [] := by
 obtain ⟨p, hp⟩ := firstErr_all (check_parts h).2.2.1 y hy
 unfold clauseErr at hp
 repeat' split at hp
 all_goals try (cases hp; done)
 rename_i h1 h2 h3 h4 h5 h6
 have e : (y.duty == 4) = false := by simpa using hl
 rw [e] at h3
 have h7 : decide (0 < y.list.length) = false := by simpa using h3
 have h8 := of_decide_eq_false h7
 exact List.length_eq_zero_iff.1 (by omega)
theorem covered_same {x y : Clause} (hy : ¬ y.duty = 4 → y.list = []) : coveredR x y = coveredP x y := by
 unfold coveredR coveredP
 split
 ·rfl
 ·rename_i h
  simp only [Bool.or_eq_true, not_or, Bool.not_eq_true, Bool.not_eq_false', beq_iff_eq] at h
  by_cases h4 : y.duty = 4
  ·have e : (x.duty == 4) = true := by rw [h.2, h4]; rfl
   rw [e]
   show _ = !_
   rw [List.not_any_eq_all_not]
   refine congrArg (fun f => List.all y.list f) (funext fun s => ?_)
   show _ = !!_
   rw [Bool.not_not]; rfl
  ·have e : (x.duty == 4) = false := by rw [h.2]; simpa using h4
   rw [hy h4, e]; rfl
theorem all_congr2 {α : Type} {p q : α → Bool} : ∀ {l : List α}, (∀ x ∈ l, p x = q x) → l.all p = l.all q
 | [], _ => rfl
 | a :: r, h => by rw [List.all_cons, List.all_cons, h a (by simp), all_congr2 fun x hx => h x (by simp [hx])]
theorem any_congr2 {α : Type} {p q : α → Bool} : ∀ {l : List α}, (∀ x ∈ l, p x = q x) → l.any p = l.any q
 | [], _ => rfl
 | a :: r, h => by rw [List.any_cons, List.any_cons, h a (by simp), any_congr2 fun x hx => h x (by simp [hx])]
theorem mildC_all (a b : List Clause) : mildC a b = a.all fun x => b.any fun y => coveredP x y := by
 unfold mildC
 rw [List.not_any_eq_all_not]
 refine congrArg (fun f => List.all a f) (funext fun x => ?_)
 rw [Bool.not_not]
theorem mild_same {c : Catalog} {a b : List Term} : mildR (clausesA c a) (clausesA c b) = mildC (clausesA c a) (clausesA c b) := by
 rw [mildC_all]
 unfold mildR
 refine all_congr2 fun x _ => any_congr2 fun y hy => covered_same fun h4 => ?_
 obtain ⟨w, _, r, _, t, _, h⟩ := clausesA_mem.1 hy
 obtain ⟨h1, h2⟩ := clausesC_mem h
 exact clause_share h1 h2 h4
theorem byC_all (x y : List (List Clause)) : byC x y = x.all fun p => y.any fun q => mildC q p := by
 unfold byC
 rw [List.not_any_eq_all_not]
 refine congrArg (fun f => List.all x f) (funext fun p => ?_)
 rw [Bool.not_not]
def byR (x y : List (List Clause)) : Bool := x.all fun p => y.any fun q => mildR q p
theorem by_same {c : Catalog} {a b : List (List Term)} : byR (a.map (clausesA c)) (b.map (clausesA c)) = byC (a.map (clausesA c)) (b.map (clausesA c)) := by
 rw [byC_all]
 unfold byR
 refine all_congr2 fun p hp => any_congr2 fun q hq => ?_
 obtain ⟨u, _, rfl⟩ := List.mem_map.1 hp
 obtain ⟨v, _, rfl⟩ := List.mem_map.1 hq
 exact mild_same
end Go.Proofs.YtoemmpfcnpdblaaGreatDoor
