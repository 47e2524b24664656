/- Plain laws of expressions that are parts of others. -/
import Derived.Test.YtaaobpicaaeiiaaGreatDoorJMeanU
import Derived.Test.YtaaobpicaaeiiaaGreatDoorJLaw
import Derived.Test.YtaaobpicaaeiiaaGreatDoorJRfE
import Derived.Test.YtaaobpicaaeiiaaGreatDoorJLatL
set_option linter.all false
namespace Go.Proofs.YtaaobpicaaeiiaaGreatDoor
open Go

theorem ofP_ok {c : Catalog} {e : LExpr} (h : (ofP c e).2 = 0) : checkE c e = 0 ∧ ofP c e = meanP c e := by
 unfold ofP at *
 by_cases q : checkE c e = 0
 ·rw [q]; exact ⟨rfl, rfl⟩
 ·rw [if_pos (by simpa using q)] at h; exact absurd h q
theorem sized_zero {l : List (List Term)} (h : (sizedP l).2 = 0) : (sizedP l).1 = l := by
 unfold sizedP at *
 split at h
 ·simp at h
 ·rename_i q; rw [if_neg q]
end Go.Proofs.YtaaobpicaaeiiaaGreatDoor
namespace Go.Proofs.YtaaobpicaaeiiaaGreatDoor
open Go

theorem minL_nil : MinL [] := minL_mk (by simp) (by simp) (by simp)
theorem minL_one {a : List Term} (h : a.Pairwise fun x y => tcmp x y < 0) : MinL [a] := minL_mk (by simpa using h) (by simp) (by simp)
theorem sized_min (l : List (List Term)) : MinL (sizedP (minimalP l)).1 := by
 unfold sizedP
 split
 ·exact minL_nil
 ·exact minimal_min l
theorem meanKs_min (c : Catalog) (k : Int) : ∀ (ks : List LExpr) (first : Bool) (out : List (List Term)), MinL (meanKs c k first out ks).1
 | [], first, out => by rw [meanKs]; exact sized_min out
 | e :: r, first, out => by
  rw [meanKs]
  simp only
  split
  ·exact minL_nil
  split
  ·exact meanKs_min c k r _ _
  split
  ·exact meanKs_min c k r _ _
  split
  ·exact minL_nil
  ·exact meanKs_min c k r _ _
theorem mean_min (c : Catalog) (e : LExpr) : MinL (meanP c e).1 := by
 obtain ⟨k, n, x, ks⟩ := e
 rw [meanP]
 split
 ·exact minL_one (by simp)
 split
 ·exact sized_min _
 ·exact meanKs_min c k ks _ _
theorem checkE_iff {c : Catalog} {e : LExpr} : checkE c e = 0 ↔ checkC c = 0 ∧ formE e = 0 ∧ ∀ y ∈ nodesE e, knownN c y = true := by
 unfold checkE
 by_cases q : checkC c = 0
 ·rw [q]
  by_cases q2 : formE e = 0
  ·rw [q2]
   cases q3 : (nodesE e).all (knownN c)
   ·simp only [List.all_eq_false] at q3
    obtain ⟨y, hy, h⟩ := q3
    constructor
    ·intro h; simp at h
    ·intro h2; exact absurd (h2.2.2 y hy) h
   ·rw [List.all_eq_true] at q3
    exact ⟨fun _ => ⟨rfl, rfl, q3⟩, fun _ => rfl⟩
  ·rw [if_neg (by decide), if_pos (by simpa using q2)]
   exact ⟨fun h => absurd h q2, fun h => absurd h.2.1 q2⟩
 ·rw [if_pos (by simpa using q)]
  exact ⟨fun h => by simp at h, fun h => absurd h.1 q⟩
theorem formE_iff {e : LExpr} : formE e = 0 ↔ sizeE e ≤ 64 ∧ depthE e ≤ 24 ∧ ∀ y ∈ nodesE e, nodeErr y = 0 := by
 unfold formE
 by_cases q : (64 : Int) < sizeE e
 ·rw [if_pos (decide_eq_true q)]
  exact ⟨fun h => by simp at h, fun h => by omega⟩
 ·rw [if_neg (by simpa using q)]
  by_cases q2 : (24 : Int) < depthE e
  ·rw [if_pos (decide_eq_true q2)]
   exact ⟨fun h => by simp at h, fun h => by omega⟩
  ·rw [if_neg (by simpa using q2)]
   exact ⟨fun h => ⟨by omega, by omega, nodesErr_mem h⟩, fun h => nodesErr_zero h.2.2⟩
theorem depth_mem {e : LExpr} : ∀ {ks : List LExpr}, e ∈ ks → depthE e ≤ depthKs ks
 | a :: r, h => by
  rw [depthKs]
  rcases List.mem_cons.1 h with rfl | h
  ·omega
  ·have := depth_mem h; omega
theorem node_kid {k : Int} {n x : ByteArray} {ks : List LExpr} {e y : LExpr} (he : e ∈ ks) (hy : y ∈ nodesE e) : y ∈ nodesE (.mk k n x ks) := by
 rw [nodesE]; exact List.mem_cons_of_mem _ (nodesKs_mem he hy)
theorem check_kid {c : Catalog} {k : Int} {n x : ByteArray} {ks : List LExpr} {e : LExpr} (h : checkE c (.mk k n x ks) = 0) (he : e ∈ ks) : checkE c e = 0 := by
 rw [checkE_iff, formE_iff] at *
 obtain ⟨h1, ⟨h2, h3, h4⟩, h5⟩ := h
 rw [sizeE] at h2
 rw [depthE] at h3
 have := size_mem he
 have := depth_mem he
 exact ⟨h1, ⟨by omega, by omega, fun y hy => h4 y (node_kid he hy)⟩, fun y hy => h5 y (node_kid he hy)⟩
theorem of_check {c : Catalog} {e : LExpr} (h : checkE c e = 0) : ofP c e = meanP c e := by unfold ofP; rw [h]; rfl
theorem big_small {l : List (List Term)} (h : l.length ≤ 64) (h2 : ∀ a ∈ l, a.length ≤ 64) : bigA l = false := by
 unfold bigA
 rw [Bool.or_eq_false_iff, List.any_eq_false]
 exact ⟨by simp; omega, fun a ha => by have := h2 a ha; simp; omega⟩
theorem check_small {l : List (List Term)} (hm : MinL l) (h : l.length ≤ 64) (h2 : ∀ a ∈ l, a.length ≤ 64) : checkA l = 0 := checkA_ok.2 ⟨hm, big_small h h2⟩
theorem limited_small {l : List (List Term)} (h2 : ∀ a ∈ l, a.length ≤ 64) : limitedP l = sizedP l := by
 unfold limitedP
 rw [if_neg]
 intro h
 obtain ⟨a, ha, hb⟩ := List.any_eq_true.1 h
 have := h2 a ha
 simp at hb; omega
def partsF (c : Catalog) (k : Int) (first : Bool) (all : List (List Term)) : List LExpr → Option (List (List Term))
 | [] => some all
 | e :: r =>
  if !((ofP c e).2 == 0) then none
  else if k == 3 then partsF c k false (all ++ (ofP c e).1) r
  else if first then partsF c k false (ofP c e).1 r
  else if !((bothP all (ofP c e).1).2 == 0) then none else partsF c k false (bothP all (ofP c e).1).1 r
theorem parts_loop {c : Catalog} {k : Int} : ∀ (ks : List LExpr) (first : Bool) (out : List (List Term)) (S : Nat), (∀ e ∈ ks, checkE c e = 0) → (∀ a ∈ out, a.length ≤ S) → S + sizeKs ks ≤ 64 → (k ≠ 3 → first = false → MinL out ∧ out.length ≤ 64) →
  (meanKs c k first out ks).2 = 0 → ∃ all, partsF c k first out ks = some all ∧ (meanKs c k first out ks).1 = minimalP all
 | [], first, out, S, _, _, _, _, h => by
  rw [meanKs] at h ⊢
  exact ⟨out, rfl, sized_zero h⟩
 | e :: r, first, out, S, hc, hl, hS, hm, h => by
  have hce := hc e (by simp)
  have hcr : ∀ e ∈ r, checkE c e = 0 := fun y hy => hc y (by simp [hy])
  have ho := of_check hce
  obtain ⟨hn, hle⟩ := mean_len c e
  rw [sizeKs] at hS
  rw [meanKs] at h ⊢
  rw [partsF, ho]
  by_cases q : (meanP c e).2 = 0
  ·simp only [q] at h ⊢
   simp only [beq_self_eq_true, Bool.not_true, Bool.false_eq_true, if_false] at h ⊢
   by_cases q3 : k = 3
   ·simp only [q3, beq_self_eq_true, if_true] at h ⊢
    refine q3 ▸ parts_loop (k := k) r false (out ++ (meanP c e).1) (S + sizeE e) hcr ?_ (by omega) (fun hk => absurd q3 hk) (q3 ▸ h)
    intro a ha
    rcases List.mem_append.1 ha with ha | ha
    ·have := hl a ha; omega
    ·have := hle a ha; omega
   ·have q3' : (k == 3) = false := by simpa using q3
    simp only [q3', Bool.false_eq_true, if_false] at h ⊢
    cases first
    ·simp only [Bool.false_eq_true, if_false] at h ⊢
     obtain ⟨hmo, hlo⟩ := hm q3 rfl
     have hpl : ∀ a ∈ minimalP (pairsA out (meanP c e).1), a.length ≤ S + sizeE e := minimal_len (pairs_len hl hle)
     have hb : bothP out (meanP c e).1 = sizedP (minimalP (pairsA out (meanP c e).1)) := by
      unfold bothP
      rw [badP_no (check_small hmo hlo fun a ha => by have := hl a ha; omega) (check_small (mean_min c e) hn fun a ha => by have := hle a ha; omega)]
      rw [if_neg (by decide), limited_small fun a ha => by have := hpl a ha; omega]
     rw [hb]
     by_cases q4 : (sizedP (minimalP (pairsA out (meanP c e).1))).2 = 0
     ·simp only [q4] at h ⊢
      simp only [beq_self_eq_true, Bool.not_true, Bool.false_eq_true, if_false] at h ⊢
      refine parts_loop r false _ (S + sizeE e) hcr ?_ (by omega) (fun _ _ => ⟨sized_min _, (sized_ok _).1⟩) h
      intro a ha
      exact hpl a ((sized_ok _).2 a ha)
     ·simp [q4] at h
    ·simp only [if_true] at h ⊢
     exact parts_loop r false _ (sizeE e) hcr hle (by omega) (fun _ _ => ⟨mean_min c e, hn⟩) h
  ·simp [q] at h
theorem parts_mean {c : Catalog} {k : Int} {n x : ByteArray} {ks : List LExpr} (h : (ofP c (.mk k n x ks)).2 = 0) (hk : ks ≠ []) :
  ∃ all, partsF c k true [] ks = some all ∧ minimalP all = (ofP c (.mk k n x ks)).1 := by
 obtain ⟨h1, h2⟩ := ofP_ok h
 rw [h2] at h ⊢
 obtain ⟨hC, hF, hN⟩ := checkE_iff.1 h1
 obtain ⟨hs, -, herr⟩ := formE_iff.1 hF
 have he := herr (.mk k n x ks) (by rw [nodesE]; simp)
 have hk2 : ¬ k < 2 := fun q => hk (err_low he q).1
 have e0 : (k == 0) = false := by simp; omega
 have e1 : (k == 1) = false := by simp; omega
 rw [sizeE] at hs
 rw [meanP, e0, e1] at h ⊢
 simp only [Bool.false_eq_true, if_false] at h ⊢
 obtain ⟨all, ha, hm⟩ := parts_loop ks true [] 0 (fun e he => check_kid h1 he) (by simp) (by omega) (fun _ h => by simp at h) h
 exact ⟨all, ha, hm.symm⟩
end Go.Proofs.YtaaobpicaaeiiaaGreatDoor
namespace Go.Proofs.YtaaobpicaaeiiaaGreatDoor
open Go

theorem sized_no {l : List (List Term)} (h : (sizedP l).2 ≠ 0) : (sizedP l).1 = [] := by
 unfold sizedP at *
 split at h
 ·rename_i q; rw [if_pos q]
 ·exact absurd rfl h
theorem meanKs_no (c : Catalog) (k : Int) : ∀ (ks : List LExpr) (first : Bool) (out : List (List Term)), (meanKs c k first out ks).2 ≠ 0 → (meanKs c k first out ks).1 = []
 | [], first, out, h => by rw [meanKs] at *; exact sized_no h
 | e :: r, first, out, h => by
  rw [meanKs] at *
  simp only at *
  split
  ·rfl
  rename_i q; rw [if_neg q] at h
  split
  ·rename_i q; rw [if_pos q] at h; exact meanKs_no c k r _ _ h
  rename_i q; rw [if_neg q] at h
  split
  ·rename_i q; rw [if_pos q] at h; exact meanKs_no c k r _ _ h
  rename_i q; rw [if_neg q] at h
  split
  ·rfl
  rename_i q; rw [if_neg q] at h
  exact meanKs_no c k r _ _ h
theorem mean_no (c : Catalog) (e : LExpr) (h : (meanP c e).2 ≠ 0) : (meanP c e).1 = [] := by
 obtain ⟨k, n, x, ks⟩ := e
 rw [meanP] at *
 split
 ·rename_i q; rw [if_pos q] at h; exact absurd rfl h
 rename_i q; rw [if_neg q] at h
 split
 ·rename_i q; rw [if_pos q] at h; exact sized_no h
 rename_i q; rw [if_neg q] at h
 exact meanKs_no c k ks _ _ h
theorem ofP_err {c : Catalog} {e : LExpr} (h : (ofP c e).2 ≠ 0) : (ofP c e).1 = [] := by
 by_cases q : checkE c e = 0
 ·rw [of_check q] at *; exact mean_no c e h
 ·unfold ofP; rw [if_pos (by simpa using q)]
theorem of_size {c : Catalog} {e : LExpr} (h : (ofP c e).2 = 0) : sizeE e ≤ 64 := (formE_iff.1 (checkE_iff.1 (ofP_ok h).1).2.1).1
theorem ofE_len {c : Catalog} {e : LExpr} (h : (ofP c e).2 = 0) : (ofP c e).1.length ≤ 64 ∧ ∀ a ∈ (ofP c e).1, a.length ≤ 64 := by
 have hs := of_size h
 obtain ⟨-, h2⟩ := ofP_ok h
 rw [h2]
 obtain ⟨h3, h4⟩ := mean_len c e
 exact ⟨h3, fun a ha => Nat.le_trans (h4 a ha) hs⟩
theorem both_len {a b : List (List Term)} (h : (bothP a b).2 = 0) : (bothP a b).1.length ≤ 64 ∧ ∀ x ∈ (bothP a b).1, x.length ≤ 64 := by
 unfold bothP at *
 by_cases q : badP a b = true
 ·rw [if_pos q] at h; simp at h
 ·rw [if_neg q] at *
  obtain ⟨h1, h2⟩ := limited_ok (minimal_min _) h
  rw [h1]
  obtain ⟨-, hb⟩ := checkA_ok.1 h2
  unfold bigA at hb
  rw [Bool.or_eq_false_iff, List.any_eq_false] at hb
  exact ⟨by have := hb.1; simp at this; omega, fun x hx => by have := hb.2 x hx; simp at this; omega⟩
theorem partsF_ok {c : Catalog} {k : Int} {first : Bool} {all fin : List (List Term)} {e : LExpr} {r : List LExpr} (h : partsF c k first all (e :: r) = some fin) :
  (ofP c e).2 = 0 ∧ (k = 3 → partsF c k false (all ++ (ofP c e).1) r = some fin) ∧ (k ≠ 3 → first = true → partsF c k false (ofP c e).1 r = some fin) ∧
   (k ≠ 3 → first = false → (bothP all (ofP c e).1).2 = 0 ∧ partsF c k false (bothP all (ofP c e).1).1 r = some fin) := by
 rw [partsF] at h
 by_cases q : (ofP c e).2 = 0
 ·simp only [q, beq_self_eq_true, Bool.not_true, Bool.false_eq_true, if_false] at h
  refine ⟨q, fun h3 => ?_, fun h3 hf => ?_, fun h3 hf => ?_⟩
  ·rw [if_pos (by simpa using h3)] at h; exact h
  ·rw [if_neg (by simpa using h3), if_pos hf] at h; exact h
  ·rw [if_neg (by simpa using h3), if_neg (by rw [hf]; decide)] at h
   by_cases q4 : (bothP all (ofP c e).1).2 = 0
   ·rw [if_neg (by rw [q4]; decide)] at h; exact ⟨q4, h⟩
   ·rw [if_pos (by simpa using q4)] at h; cases h
 ·rw [if_pos (by simpa using q)] at h; cases h
end Go.Proofs.YtaaobpicaaeiiaaGreatDoor
