/- Plain laws of alternatives: what the reference computes is what the program computes. -/
import Derived.Test.YtoemmpfcnpdblaaGreatDoorJAltG
set_option linter.all false
namespace Go.Proofs.YtoemmpfcnpdblaaGreatDoor
open Go

def bef (a b : Term) : Bool := slt a.license b.license || (seq a.license b.license && slt a.exception b.exception)
theorem bef_eq (a b : Term) : bef a b = decide (tcmp a b < 0) := by
 have h0 : ∀ x y : ByteArray, slt x y = decide (scmp x y < 0) := fun x y => by
  unfold scmp
  cases slt x y
  ·cases slt y x <;> rfl
  ·rfl
 unfold bef tcmp lex2
 by_cases h : a.license = b.license
 ·have e : scmp a.license b.license = 0 := (scmp_to.eq _ _).2 h
  have e2 : seq a.license b.license = true := by rw [seq_eq]; exact decide_eq_true h
  rw [if_pos e, e2, h0 a.license, e, h0]; simp
 ·have e : ¬ scmp a.license b.license = 0 := fun h2 => h ((scmp_to.eq _ _).1 h2)
  have e2 : seq a.license b.license = false := by rw [seq_eq]; exact decide_eq_false h
  rw [if_neg e, e2, h0]; simp
def addT : List Term → Term → List Term
 | [], t => [t]
 | x :: r, t => if x = t then x :: r else if bef t x then t :: x :: r else x :: addT r t
def joinT (a b : List Term) : List Term := b.foldl addT (a.foldl addT [])
theorem addT_mem {t u : Term} : ∀ {l : List Term}, u ∈ addT l t ↔ u = t ∨ u ∈ l
 | [] => by simp [addT]
 | x :: r => by
  unfold addT
  split
  ·rename_i h; subst h; simp
  ·split
   ·simp
   ·rw [List.mem_cons, addT_mem, List.mem_cons]
    constructor
    ·rintro (h | h | h) <;> simp [h]
    ·rintro (h | h | h) <;> simp [h]
theorem addT_incr {t : Term} : ∀ {l : List Term}, (l.Pairwise fun x y => tcmp x y < 0) → (addT l t).Pairwise fun x y => tcmp x y < 0
 | [], _ => by simp [addT]
 | x :: r, h => by
  obtain ⟨h1, h2⟩ := List.pairwise_cons.1 h
  unfold addT
  split
  ·exact h
  ·rename_i hn
   split
   ·rename_i hb
    rw [bef_eq, decide_eq_true_iff] at hb
    refine List.pairwise_cons.2 ⟨fun z hz => ?_, h⟩
    rcases List.mem_cons.1 hz with rfl | hz
    ·exact hb
    ·exact tcmp_to.tr _ _ _ hb (h1 z hz)
   ·rename_i hb
    rw [bef_eq, decide_eq_true_iff] at hb
    refine List.pairwise_cons.2 ⟨fun z hz => ?_, addT_incr h2⟩
    rcases addT_mem.1 hz with rfl | hz
    ·have := tcmp_to.sw x z
     exact tcmp_to.le_lt (by omega) hn
    ·exact h1 z hz
theorem foldT {l : List Term} : ∀ {acc : List Term}, (acc.Pairwise fun x y => tcmp x y < 0) → ((l.foldl addT acc).Pairwise fun x y => tcmp x y < 0) ∧ ∀ t, t ∈ l.foldl addT acc ↔ t ∈ acc ∨ t ∈ l := by
 induction l with
 | nil => intro acc h; exact ⟨h, by simp⟩
 | cons x r ih =>
  intro acc h
  obtain ⟨h1, h2⟩ := ih (addT_incr (t := x) h)
  refine ⟨h1, fun t => ?_⟩
  rw [List.foldl_cons, h2, addT_mem, List.mem_cons]
  constructor
  ·rintro ((h | h) | h) <;> simp [h]
  ·rintro (h | h | h) <;> simp [h]
theorem joinT_norm (a b : List Term) : joinT a b = normT (a ++ b) := by
 obtain ⟨h1, h2⟩ := foldT (l := a) (acc := []) List.Pairwise.nil
 obtain ⟨h3, h4⟩ := foldT (l := b) h1
 refine altInc_eq tcmp_to h3 (normT_incr _) fun t => ?_
 rw [normT_mem]
 unfold joinT
 rw [h4, h2]; simp
def keepR (all : List (List Term)) (i : Nat) : Bool :=
 !(List.range all.length).any fun k => !(k == i) && conA (all.getD i []) (all.getD k []) && (decide ((all.getD k []).length < (all.getD i []).length) || decide (k < i))
def minimalR (l : List (List Term)) : List (List Term) :=
 let all := l.map normT
 sortS (ltC acmp) (((List.range all.length).filter (keepR all)).map fun i => all.getD i [])
theorem getD_lt {α : Type} {l : List α} {d : α} {i : Nat} (hi : i < l.length) : l.getD i d = l[i] := by rw [List.getD_eq_getElem?_getD, List.getElem?_eq_getElem hi]; rfl
theorem keepR_iff {all : List (List Term)} {i : Nat} : keepR all i = true ↔ ∀ k, k < all.length → k ≠ i → conA (all.getD i []) (all.getD k []) = true → ¬ (all.getD k []).length < (all.getD i []).length ∧ ¬ k < i := by
 unfold keepR
 rw [Bool.not_eq_true', List.any_eq_false]
 constructor
 ·intro h k hk hne hc
  have := h k (List.mem_range.2 hk)
  rw [hc] at this
  simpa [hne] using this
 ·intro h k hk
  have hk := List.mem_range.1 hk
  by_cases hne : k = i
  ·simp [hne]
  ·cases hc : conA (all.getD i []) (all.getD k [])
   ·simp
   ·simpa [hne] using h k hk hne hc
theorem keepR_sat {all : List (List Term)} (h1 : ∀ a ∈ all, a.Pairwise fun x y => tcmp x y < 0) (ts : List Term) : ∀ (n m i : Nat), i < all.length → (all.getD i []).length ≤ n → i ≤ m → conA ts (all.getD i []) = true →
  ∃ k, k < all.length ∧ keepR all k = true ∧ conA ts (all.getD k []) = true
 | n, m, i, hi, hn, hm, hc => by
  cases hk : keepR all i
  ·have hk : ¬ keepR all i = true := by rw [hk]; decide
   rw [keepR_iff] at hk
   simp only [Classical.not_forall] at hk
   obtain ⟨k, hkl, hne, hcon, hh⟩ := hk
   have hs := con_sub (h1 _ (by rw [getD_lt hi]; exact List.getElem_mem hi)) (h1 _ (by rw [getD_lt hkl]; exact List.getElem_mem hkl)) hcon
   have hl := hs.length_le
   by_cases hlt : (all.getD k []).length < (all.getD i []).length
   ·cases n with
    | zero => omega
    | succ n => exact keepR_sat h1 ts n all.length k hkl (by omega) (by omega) (conA_trans hc hcon)
   ·cases m with
    | zero => exact absurd ⟨hlt, by omega⟩ hh
    | succ m => exact keepR_sat h1 ts n m k hkl (by omega) (by
      rcases Nat.lt_or_ge k i with h2 | h2
      ·omega
      ·exact absurd ⟨hlt, by omega⟩ hh) (conA_trans hc hcon)
  ·exact ⟨i, hi, hk, hc⟩
 termination_by n m => (n, m)
theorem minimal_same (l : List (List Term)) : minimalR l = minimalP l := by
 have hall : ∀ a ∈ l.map normT, a.Pairwise fun x y => tcmp x y < 0 := fun a ha => by
  obtain ⟨y, -, rfl⟩ := List.mem_map.1 ha; exact normT_incr y
 have hsat : ∀ ts, satP (l.map normT) ts = satP l ts := satP_norm l
 unfold minimalR
 generalize l.map normT = all at *
 simp only
 have hmem : ∀ x, x ∈ ((List.range all.length).filter (keepR all)).map (fun i => all.getD i []) ↔ ∃ i, i < all.length ∧ keepR all i = true ∧ all.getD i [] = x := by
  intro x; simp [List.mem_map, List.mem_filter, and_assoc]
 have hin : ∀ i, i < all.length → all.getD i [] ∈ all := fun i hi => by rw [getD_lt hi]; exact List.getElem_mem hi
 have happ : ∀ i, i < all.length → ∀ k, k < all.length → keepR all i = true → conA (all.getD i []) (all.getD k []) = true → all.getD i [] = all.getD k [] := by
  intro i hi k hk hki hc
  by_cases hne : k = i
  ·rw [hne]
  ·have h2 := (keepR_iff.1 hki k hk hne hc).1
   have hs := con_sub (hall _ (hin i hi)) (hall _ (hin k hk)) hc
   exact (hs.eq_of_length (Nat.le_antisymm hs.length_le (by omega))).symm
 refine min_unique ⟨?_, ?_, ?_⟩ (minimal_min l) fun ts => ?_
 ·intro a ha
  obtain ⟨i, hi, -, rfl⟩ := (hmem a).1 ((sortS_permA _ _).mem_iff.1 ha)
  exact hall _ (hin i hi)
 ·have hnd : (((List.range all.length).filter (keepR all)).map fun i => all.getD i []).Nodup := by
   unfold List.Nodup
   rw [List.pairwise_map]
   have h3 : ((List.range all.length).filter (keepR all)).Pairwise (· < ·) := (List.pairwise_lt_range).filter _
   refine h3.imp_of_mem fun {i k} hi hk hik he => ?_
   have hi := List.mem_filter.1 hi
   have hk := List.mem_filter.1 hk
   have := (keepR_iff.1 hk.2 i (List.mem_range.1 hi.1) (by omega) (by rw [he]; exact conA_refl _)).2
   omega
  have hnd2 := (sortS_permA (ltC acmp) _).nodup_iff.2 hnd
  have hle := sortS_le acmp_to (((List.range all.length).filter (keepR all)).map fun i => all.getD i [])
  exact (hle.and hnd2).imp fun {a b} ⟨h1, h2⟩ => acmp_to.le_lt h1 h2
 ·intro a ha b hb hc
  obtain ⟨i, hi, hki, rfl⟩ := (hmem a).1 ((sortS_permA _ _).mem_iff.1 ha)
  obtain ⟨k, hk, -, rfl⟩ := (hmem b).1 ((sortS_permA _ _).mem_iff.1 hb)
  exact happ i hi k hk hki hc
 ·rw [minimal_sat, satP_perm (sortS_permA _ _), ← hsat, Bool.eq_iff_iff, satP_iff, satP_iff]
  constructor
  ·rintro ⟨a, ha, hc⟩
   obtain ⟨i, hi, -, rfl⟩ := (hmem a).1 ha
   exact ⟨_, hin i hi, hc⟩
  ·rintro ⟨a, ha, hc⟩
   obtain ⟨i, hi, rfl⟩ := List.mem_iff_getElem.1 ha
   obtain ⟨k, hk, hkk, hck⟩ := keepR_sat hall ts _ i i hi (Nat.le_refl _) (Nat.le_refl _) (by rw [getD_lt hi]; exact hc)
   exact ⟨_, (hmem _).2 ⟨k, hk, hkk, rfl⟩, hck⟩
end Go.Proofs.YtoemmpfcnpdblaaGreatDoor
