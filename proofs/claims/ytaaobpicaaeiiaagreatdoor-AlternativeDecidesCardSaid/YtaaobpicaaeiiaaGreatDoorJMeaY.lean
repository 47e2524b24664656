/- Plain laws of expressions that are parts of others. -/
import Derived.Test.YtaaobpicaaeiiaaGreatDoorJMeanU
import Derived.Test.YtaaobpicaaeiiaaGreatDoorJLaw
import Derived.Test.YtaaobpicaaeiiaaGreatDoorJRfE
import Derived.Test.YtaaobpicaaeiiaaGreatDoorJLatL
set_option linter.all false
namespace Go.Proofs.YtaaobpicaaeiiaaGreatDoor
open Go

theorem ofP_ok {c : Catalog} {e : LExpr} (h : (ofP c e).2 = 0) : checkE c e = 0 ∧ ofP c e = meanP c e := by
 unfold ofP at *
 by_cases q : checkE c e = 0
 ·rw [q]; exact ⟨rfl, rfl⟩
 ·rw [if_pos (by simpa using q)] at h; exact absurd h q
theorem sized_zero {l : List (List Term)} (h : (sizedP l).2 = 0) : (sizedP l).1 = l := by
 unfold sizedP at *
 split at h
 ·simp at h
 ·rename_i q; rw [if_neg q]
end Go.Proofs.YtaaobpicaaeiiaaGreatDoor
namespace Go.Proofs.YtaaobpicaaeiiaaGreatDoor
open Go

theorem minL_nil : MinL [] := minL_mk (by simp) (by simp) (by simp)
theorem minL_one {a : List Term} (h : a.Pairwise fun x y => tcmp x y < 0) : MinL [a] := minL_mk (by simpa using h) (by simp) (by simp)
theorem sized_min (l : List (List Term)) : MinL (sizedP (minimalP l)).1 := by
 unfold sizedP
 split
 ·exact minL_nil
 ·exact minimal_min l
theorem meanKs_min (c : Catalog) (k : Int) : ∀ (ks : List LExpr) (first : Bool) (out : List (List Term)), MinL (meanKs c k first out ks).1
 | [], first, out => by rw [meanKs]; exact sized_min out
 | e :: r, first, out => by
  rw [meanKs]
  simp only
  split
  ·exact minL_nil
  split
  ·exact meanKs_min c k r _ _
  split
  ·exact meanKs_min c k r _ _
  split
  ·exact minL_nil
  ·exact meanKs_min c k r _ _
theorem mean_min (c : Catalog) (e : LExpr) : MinL (meanP c e).1 := by
 obtain ⟨k, n, x, ks⟩ := e
 rw [meanP]
 split
 ·exact minL_one (by simp)
 split
 ·exact sized_min _
 ·exact meanKs_min c k ks _ _
theorem checkE_iff {c : Catalog} {e : LExpr} : checkE c e = 0 ↔ checkC c = 0 ∧ formE e = 0 ∧ ∀ y ∈ nodesE e, knownN c y = true := by
 unfold checkE
 by_cases q : checkC c = 0
 ·rw [q]
  by_cases q2 : formE e = 0
  ·rw [q2]
   cases q3 : (nodesE e).all (knownN c)
   ·simp only [List.all_eq_false] at q3
    obtain ⟨y, hy, h⟩ := q3
    constructor
    ·intro h; simp at h
    ·intro h2; exact absurd (h2.2.2 y hy) h
   ·rw [List.all_eq_true] at q3
    exact ⟨fun _ => ⟨rfl, rfl, q3⟩, fun _ => rfl⟩
  ·rw [if_neg (by decide), if_pos (by simpa using q2)]
   exact ⟨fun h => absurd h q2, fun h => absurd h.2.1 q2⟩
 ·rw [if_pos (by simpa using q)]
  exact ⟨fun h => by simp at h, fun h => absurd h.1 q⟩
theorem formE_iff {e : LExpr} : formE e = 0 ↔ sizeE e ≤ 64 ∧ depthE e ≤ 24 ∧ ∀ y ∈ nodesE e, nodeErr y = 0 := by
 unfold formE
 by_cases q : (64 : Int) < sizeE e
 ·rw [if_pos (decide_eq_true q)]
  exact ⟨fun h => by simp at h, fun h => by omega⟩
 ·rw [if_neg (by simpa using q)]
  by_cases q2 : (24 : Int) < depthE e
  ·rw [if_pos (decide_eq_true q2)]
   exact ⟨fun h => by simp at h, fun h => by omega⟩
  ·rw [if_neg (by simpa using q2)]
   exact ⟨fun h => ⟨by omega, by omega, nodesErr_mem h⟩, fun h => nodesErr_zero h.2.2⟩
theorem depth_mem {e : LExpr} : ∀ {ks : List LExpr}, e ∈ ks → depthE e ≤ depthKs ks
 | a :: r, h => by
  rw [depthKs]
  rcases List.mem_cons.1 h with rfl | h
  ·omega
  ·have := depth_mem h; omega
theorem node_kid {k : Int} {n x : ByteArray} {ks : List LExpr} {e y : LExpr} (he : e ∈ ks) (hy : y ∈ nodesE e) : y ∈ nodesE (.mk k n x ks) := by
 rw [nodesE]; exact List.mem_cons_of_mem _ (nodesKs_mem he hy)
theorem check_kid {c : Catalog} {k : Int} {n x : ByteArray} {ks : List LExpr} {e : LExpr} (h : checkE c (.mk k n x ks) = 0) (he : e ∈ ks) : checkE c e = 0 := by
 rw [checkE_iff, formE_iff] at *
 obtain ⟨h1, ⟨h2, h3, h4⟩, h5⟩ := h
 rw [sizeE] at h2
 rw [depthE] at h3
 have := size_mem he
 have := depth_mem he
 exact ⟨h1, ⟨by omega, by omega, fun y hy => h4 y (node_kid he hy)⟩, fun y hy => h5 y (node_kid he hy)⟩
theorem of_check {c : Catalog} {e : LExpr} (h : checkE c e = 0) : ofP c e = meanP c e := by unfold ofP; rw [h]; rfl
theorem big_small {l : List (List Term)} (h : l.length ≤ 64) (h2 : ∀ a ∈ l, a.length ≤ 64) : bigA l = false := by
 unfold bigA
 rw [Bool.or_eq_false_iff, List.any_eq_false]
 exact ⟨by simp; omega, fun a ha => by have := h2 a ha; simp; omega⟩
theorem check_small {l : List (List Term)} (hm : MinL l) (h : l.length ≤ 64) (h2 : ∀ a ∈ l, a.length ≤ 64) : checkA l = 0 := checkA_ok.2 ⟨hm, big_small h h2⟩
end Go.Proofs.YtaaobpicaaeiiaaGreatDoor
namespace Go.Proofs.YtaaobpicaaeiiaaGreatDoor
open Go

theorem sized_no {l : List (List Term)} (h : (sizedP l).2 ≠ 0) : (sizedP l).1 = [] := by
 unfold sizedP at *
 split at h
 ·rename_i q; rw [if_pos q]
 ·exact absurd rfl h
theorem meanKs_no (c : Catalog) (k : Int) : ∀ (ks : List LExpr) (first : Bool) (out : List (List Term)), (meanKs c k first out ks).2 ≠ 0 → (meanKs c k first out ks).1 = []
 | [], first, out, h => by rw [meanKs] at *; exact sized_no h
 | e :: r, first, out, h => by
  rw [meanKs] at *
  simp only at *
  split
  ·rfl
  rename_i q; rw [if_neg q] at h
  split
  ·rename_i q; rw [if_pos q] at h; exact meanKs_no c k r _ _ h
  rename_i q; rw [if_neg q] at h
  split
  ·rename_i q; rw [if_pos q] at h; exact meanKs_no c k r _ _ h
  rename_i q; rw [if_neg q] at h
  split
  ·rfl
  rename_i q; rw [if_neg q] at h
  exact meanKs_no c k r _ _ h
theorem mean_no (c : Catalog) (e : LExpr) (h : (meanP c e).2 ≠ 0) : (meanP c e).1 = [] := by
 obtain ⟨k, n, x, ks⟩ := e
 rw [meanP] at *
 split
 ·rename_i q; rw [if_pos q] at h; exact absurd rfl h
 rename_i q; rw [if_neg q] at h
 split
 ·rename_i q; rw [if_pos q] at h; exact sized_no h
 rename_i q; rw [if_neg q] at h
 exact meanKs_no c k ks _ _ h
theorem ofP_err {c : Catalog} {e : LExpr} (h : (ofP c e).2 ≠ 0) : (ofP c e).1 = [] := by
 by_cases q : checkE c e = 0
 ·rw [of_check q] at *; exact mean_no c e h
 ·unfold ofP; rw [if_pos (by simpa using q)]
theorem of_size {c : Catalog} {e : LExpr} (h : (ofP c e).2 = 0) : sizeE e ≤ 64 := (formE_iff.1 (checkE_iff.1 (ofP_ok h).1).2.1).1
theorem ofE_len {c : Catalog} {e : LExpr} (h : (ofP c e).2 = 0) : (ofP c e).1.length ≤ 64 ∧ ∀ a ∈ (ofP c e).1, a.length ≤ 64 := by
 have hs := of_size h
 obtain ⟨-, h2⟩ := ofP_ok h
 rw [h2]
 obtain ⟨h3, h4⟩ := mean_len c e
 exact ⟨h3, fun a ha => Nat.le_trans (h4 a ha) hs⟩
end Go.Proofs.YtaaobpicaaeiiaaGreatDoor
