/- Plain laws of layer 34: what is milder, what separates. No program in sight. -/
import Derived.Test.YtoemmpfcnpdblaaGreatDoorJAltG
import Derived.Test.YtoemmpfcnpdblaaGreatDoorJMeanS
import Derived.Test.YtoemmpfcnpdblaaGreatDoorJIdxF
import Derived.Test.YtoemmpfcnpdblaaGreatDoorJLaw
set_option linter.all false
namespace Go.Proofs.YtoemmpfcnpdblaaGreatDoor
open Go

def hasB (l : List ByteArray) (s : ByteArray) : Bool := l.any fun u => decide (u = s)
def coveredR (x y : Clause) : Bool :=
 if !(x.way == y.way) || !(x.relation == y.relation) || !(x.duty == y.duty) then false else y.list.all (hasB x.list)
def mildR (a b : List Clause) : Bool := a.all fun x => b.any fun y => coveredR x y
theorem clausesC_mem {c : Catalog} {t : Term} {w r : Int} {y : Clause} (h : y ∈ clausesC c t w r) : checkC c = 0 ∧ y ∈ c.clauses := by
 unfold clausesC at h
 cases h1 : liftsC c t with
 | none => rw [h1] at h; simp at h
 | some l => rw [h1] at h; exact ⟨lifts_check h1, (List.mem_filter.1 h).1⟩
theorem clausesA_mem {c : Catalog} {a : List Term} {y : Clause} : y ∈ clausesA c a ↔ ∃ w ∈ ([0, 1, 2] : List Int), ∃ r ∈ ([0, 1, 2] : List Int), ∃ t ∈ a, y ∈ clausesC c t w r := by
 unfold clausesA; simp only [List.mem_flatMap]
theorem clause_share {c : Catalog} (h : checkC c = 0) {y : Clause} (hy : y ∈ c.clauses) (hl : ¬ y.duty = 4) : y.list = [] := by
 obtain ⟨p, hp⟩ := firstErr_all (check_parts h).2.2.1 y hy
 unfold clauseErr at hp
 repeat' split at hp
 all_goals try (cases hp; done)
 rename_i h1 h2 h3 h4 h5 h6
 have e : (y.duty == 4) = false := by simpa using hl
 rw [e] at h3
 have h7 : decide (0 < y.list.length) = false := by simpa using h3
 have h8 := of_decide_eq_false h7
 exact List.length_eq_zero_iff.1 (by omega)
theorem covered_same {x y : Clause} (hy : ¬ y.duty = 4 → y.list = []) : coveredR x y = coveredP x y := by
 unfold coveredR coveredP
 split
 ·rfl
 ·rename_i h
  simp only [Bool.or_eq_true, not_or, Bool.not_eq_true, Bool.not_eq_false', beq_iff_eq] at h
  by_cases h4 : y.duty = 4
  ·have e : (x.duty == 4) = true := by rw [h.2, h4]; rfl
   rw [e]
   show _ = !_
   rw [List.not_any_eq_all_not]
   refine congrArg (fun f => List.all y.list f) (funext fun s => ?_)
   show _ = !!_
   rw [Bool.not_not]; rfl
  ·have e : (x.duty == 4) = false := by rw [h.2]; simpa using h4
   rw [hy h4, e]; rfl
theorem all_congr2 {α : Type} {p q : α → Bool} : ∀ {l : List α}, (∀ x ∈ l, p x = q x) → l.all p = l.all q
 | [], _ => rfl
 | a :: r, h => by rw [List.all_cons, List.all_cons, h a (by simp), all_congr2 fun x hx => h x (by simp [hx])]
theorem any_congr2 {α : Type} {p q : α → Bool} : ∀ {l : List α}, (∀ x ∈ l, p x = q x) → l.any p = l.any q
 | [], _ => rfl
 | a :: r, h => by rw [List.any_cons, List.any_cons, h a (by simp), any_congr2 fun x hx => h x (by simp [hx])]
theorem mildC_all (a b : List Clause) : mildC a b = a.all fun x => b.any fun y => coveredP x y := by
 unfold mildC
 rw [List.not_any_eq_all_not]
 refine congrArg (fun f => List.all a f) (funext fun x => ?_)
 rw [Bool.not_not]
theorem mild_same {c : Catalog} {a b : List Term} : mildR (clausesA c a) (clausesA c b) = mildC (clausesA c a) (clausesA c b) := by
 rw [mildC_all]
 unfold mildR
 refine all_congr2 fun x _ => any_congr2 fun y hy => covered_same fun h4 => ?_
 obtain ⟨w, _, r, _, t, _, h⟩ := clausesA_mem.1 hy
 obtain ⟨h1, h2⟩ := clausesC_mem h
 exact clause_share h1 h2 h4
theorem byC_all (x y : List (List Clause)) : byC x y = x.all fun p => y.any fun q => mildC q p := by
 unfold byC
 rw [List.not_any_eq_all_not]
 refine congrArg (fun f => List.all x f) (funext fun p => ?_)
 rw [Bool.not_not]
def byR (x y : List (List Clause)) : Bool := x.all fun p => y.any fun q => mildR q p
theorem by_same {c : Catalog} {a b : List (List Term)} : byR (a.map (clausesA c)) (b.map (clausesA c)) = byC (a.map (clausesA c)) (b.map (clausesA c)) := by
 rw [byC_all]
 unfold byR
 refine all_congr2 fun p hp => any_congr2 fun q hq => ?_
 obtain ⟨u, _, rfl⟩ := List.mem_map.1 hp
 obtain ⟨v, _, rfl⟩ := List.mem_map.1 hq
 exact mild_same
theorem coveredP_iff {x y : Clause} : coveredP x y = true ↔ x.way = y.way ∧ x.relation = y.relation ∧ x.duty = y.duty ∧ (x.duty = 4 → ∀ s ∈ y.list, s ∈ x.list) := by
 have hm : ∀ s, (x.list.any fun u => decide (u = s)) = true ↔ s ∈ x.list := fun s => by
  rw [List.any_eq_true]
  exact ⟨fun ⟨u, hu, h⟩ => of_decide_eq_true h ▸ hu, fun h => ⟨s, h, decide_eq_true rfl⟩⟩
 unfold coveredP
 split
 ·rename_i h
  constructor
  ·intro h'; cases h'
  ·rintro ⟨h1, h2, h3, -⟩
   rw [h1, h2, h3] at h
   simp at h
 ·rename_i h
  simp only [Bool.or_eq_true, not_or, Bool.not_eq_true, Bool.not_eq_false', beq_iff_eq] at h
  obtain ⟨⟨h1, h2⟩, h3⟩ := h
  by_cases h4 : x.duty = 4
  ·have e : (x.duty == 4) = true := by rw [h4]; rfl
   rw [e, List.not_any_eq_all_not]
   simp only [Bool.not_true, Bool.false_or, List.all_eq_true, Bool.not_not]
   exact ⟨fun k => ⟨h1, h2, h3, fun _ s hs => (hm s).1 (k s hs)⟩, fun k s hs => (hm s).2 (k.2.2.2 h4 s hs)⟩
  ·have e : (x.duty == 4) = false := by simpa using h4
   rw [e]
   exact ⟨fun _ => ⟨h1, h2, h3, fun h => absurd h h4⟩, fun _ => rfl⟩
theorem mildC_iff {a b : List Clause} : mildC a b = true ↔ ∀ x ∈ a, ∃ y ∈ b, coveredP x y = true := by
 rw [mildC_all, List.all_eq_true]
 exact forall_congr' fun x => forall_congr' fun _ => List.any_eq_true
theorem coveredP_refl (x : Clause) : coveredP x x = true := coveredP_iff.2 ⟨rfl, rfl, rfl, fun _ _ h => h⟩
theorem coveredP_trans {x y z : Clause} (h : coveredP x y = true) (k : coveredP y z = true) : coveredP x z = true := by
 obtain ⟨h1, h2, h3, h4⟩ := coveredP_iff.1 h
 obtain ⟨k1, k2, k3, k4⟩ := coveredP_iff.1 k
 exact coveredP_iff.2 ⟨h1.trans k1, h2.trans k2, h3.trans k3, fun e s hs => h4 e s (k4 (h3 ▸ e) s hs)⟩
theorem mildC_sub {a b : List Clause} (h : ∀ x ∈ a, x ∈ b) : mildC a b = true := mildC_iff.2 fun x hx => ⟨x, h x hx, coveredP_refl x⟩
theorem mildC_trans {a b d : List Clause} (h : mildC a b = true) (k : mildC b d = true) : mildC a d = true := by
 rw [mildC_iff] at *
 intro x hx
 obtain ⟨y, hy, h1⟩ := h x hx
 obtain ⟨z, hz, h2⟩ := k y hy
 exact ⟨z, hz, coveredP_trans h1 h2⟩
theorem clausesA_sub {c : Catalog} {a b : List Term} (h : ∀ t ∈ a, t ∈ b) : ∀ y ∈ clausesA c a, y ∈ clausesA c b := by
 intro y hy
 obtain ⟨w, hw, r, hr, t, ht, hc⟩ := clausesA_mem.1 hy
 exact clausesA_mem.2 ⟨w, hw, r, hr, t, h t ht, hc⟩
def isM (c : Catalog) (a b : List Term) : Bool := (mildP c a b).1 && ((mildP c a b).2 == 0)
theorem isM_iff {c : Catalog} {a b : List Term} : isM c a b = true ↔ clausesE c a = 0 ∧ clausesE c b = 0 ∧ mildC (clausesA c a) (clausesA c b) = true := by
 unfold isM mildP
 by_cases h1 : clausesE c a = 0
 ·rw [h1]
  by_cases h2 : clausesE c b = 0
  ·rw [h2]; simp
  ·have e : (clausesE c b == 0) = false := by simpa using h2
   simp [e, h2]
 ·have e : (clausesE c a == 0) = false := by simpa using h1
  simp [e, h1]
theorem isM_refl {c : Catalog} {a : List Term} (h : clausesE c a = 0) : isM c a a = true := isM_iff.2 ⟨h, h, mildC_sub fun _ h => h⟩
theorem isM_trans {c : Catalog} {a b d : List Term} (h : isM c a b = true) (k : isM c b d = true) : isM c a d = true := by
 obtain ⟨h1, _, h3⟩ := isM_iff.1 h
 obtain ⟨_, k2, k3⟩ := isM_iff.1 k
 exact isM_iff.2 ⟨h1, k2, mildC_trans h3 k3⟩
theorem isM_exc {c : Catalog} (h : checkC c = 0) {x : Exc} (hx : x ∈ c.exceptions) : isM c [⟨x.license, x.name⟩] [⟨x.license, eS⟩] = true := by
 obtain ⟨p, hp⟩ := firstErr_all (check_parts h).2.1 x hx
 obtain ⟨-, h2, -⟩ := excErr_parts hp
 obtain ⟨y, hy, e⟩ := findFrom_mem h2
 have h3 : liftsC c ⟨x.license, eS⟩ = some [] := e ▸ lifts_empty h hy
 refine isM_iff.2 ⟨?_, ?_, mildC_sub fun z hz => ?_⟩
 ·unfold clausesE; rw [h]; simp [lifts_exc h hx]
 ·unfold clausesE; rw [h]; simp [h3]
 ·obtain ⟨w, hw, r, hr, t, ht, hc⟩ := clausesA_mem.1 hz
  obtain rfl : t = ⟨x.license, x.name⟩ := by simpa using ht
  rw [clauses_exc h hx] at hc
  exact clausesA_mem.2 ⟨w, hw, r, hr, _, by simp, (List.mem_filter.1 hc).1⟩
theorem ent_by {c : Catalog} {a b : List (List Term)} (h1 : (entP a b).2 = 0) (h2 : (byP c a b).2 = 0) (h3 : (entP a b).1 = true) : (byP c a b).1 = true := by
 unfold entP at h1 h3
 unfold byP at *
 split at h1
 ·cases h1
 ·rename_i hb
  rw [if_neg hb] at h3 h2 ⊢
  split at h2
  ·rename_i k; simp at h2; rw [h2] at k; simp at k
  ·rename_i k1
   split at h2
   ·rename_i k; simp at h2; rw [h2] at k; simp at k
   ·rename_i k2
    rw [if_neg k1, if_neg k2]
    show byC _ _ = true
    rw [byC_all, List.all_eq_true]
    intro p hp
    obtain ⟨x, hx, rfl⟩ := List.mem_map.1 hp
    have hs := sep_none.1 h3 x hx
    obtain ⟨y, hy, hc⟩ := satP_iff.1 hs
    exact List.any_eq_true.2 ⟨_, List.mem_map.2 ⟨y, hy, rfl⟩, mildC_sub (clausesA_sub (conA_iff.1 hc))⟩
theorem idxP_cases {α : Type} (p : α → Bool) (xs : List α) : (xs.find? p = none ∧ idxP p xs = -1) ∨ ∃ (k : Nat) (x : α), xs[k]? = some x ∧ xs.find? p = some x ∧ idxP p xs = (k : Int) := by
 cases h : xs.findIdx? p with
 | none =>
  left
  refine ⟨List.find?_eq_none.2 fun x hx => ?_, by unfold idxP; rw [h]⟩
  rw [List.findIdx?_eq_none_iff] at h
  simp [h x hx]
 | some k =>
  right
  obtain ⟨hk, hq, hj⟩ := List.findIdx?_eq_some_iff_getElem.1 h
  refine ⟨k, xs[k], by simp, ?_, by unfold idxP; rw [h]⟩
  rw [List.find?_eq_some_iff_getElem]
  exact ⟨hq, k, hk, rfl, fun j hjk => by have := hj j hjk; simpa using this⟩
def pickT (b : Nat) (l : List Term) (k : Nat) : List Term := (List.range k).filterMap fun i => if b.testBit i then l[i]? else none
theorem pickT_snoc {b k : Nat} {l : List Term} {x : Term} (hx : l[k]? = some x) : pickT b l (k + 1) = pickT b l k ++ (if b.testBit k then [x] else []) := by
 unfold pickT
 rw [List.range_succ, List.filterMap_append, List.filterMap_cons, List.filterMap_nil, hx]
 cases b.testBit k <;> simp
theorem pickT_mem {b k : Nat} {l : List Term} {t : Term} : t ∈ pickT b l k ↔ ∃ i, i < k ∧ b.testBit i = true ∧ l[i]? = some t := by
 unfold pickT
 rw [List.mem_filterMap]
 constructor
 ·rintro ⟨i, hi, h⟩
  cases hb : b.testBit i
  ·rw [hb] at h; simp at h
  ·rw [hb] at h; exact ⟨i, List.mem_range.1 hi, hb, by simpa using h⟩
 ·rintro ⟨i, hi, hb, h⟩
  exact ⟨i, List.mem_range.2 hi, by rw [hb]; simpa using h⟩
def bitsOf (p : Term → Bool) : List Term → Nat
 | [] => 0
 | t :: r => (p t).toNat + 2 * bitsOf p r
theorem bitsOf_lt (p : Term → Bool) : ∀ l : List Term, bitsOf p l < 2 ^ l.length
 | [] => by simp [bitsOf]
 | t :: r => by
  have h := bitsOf_lt p r
  have : (p t).toNat ≤ 1 := by cases p t <;> decide
  rw [bitsOf, List.length_cons, Nat.pow_succ]; omega
theorem bitsOf_test (p : Term → Bool) : ∀ {l : List Term} {i : Nat} {t : Term}, l[i]? = some t → (bitsOf p l).testBit i = p t
 | [], i, t, h => by simp at h
 | u :: r, 0, t, h => by
  simp at h; subst h
  rw [bitsOf, Nat.testBit_zero]
  cases p u <;> simp <;> omega
 | u :: r, i + 1, t, h => by
  have := bitsOf_test p (l := r) (i := i) (t := t) (by simpa using h)
  rw [← this, bitsOf, Nat.testBit_succ]
  have h1 : (p u).toNat ≤ 1 := by cases p u <;> decide
  congr 1; omega
def wantP (a b : List (List Term)) (all : List Term) (n : Nat) : Bool := (List.range n).all fun k => !satP a (pickT k all all.length) || satP b (pickT k all all.length)
theorem wantP_snoc (a b : List (List Term)) (all : List Term) (n : Nat) : wantP a b all (n + 1) = (wantP a b all n && (!satP a (pickT n all all.length) || satP b (pickT n all all.length))) := by
 unfold wantP
 rw [List.range_succ, List.all_append]; simp
theorem means_law {a b : List (List Term)} {all : List Term} (h : ∀ x ∈ a, ∀ t ∈ x, t ∈ all) : (sepP a b).isNone = wantP a b all (2 ^ all.length) := by
 rw [Bool.eq_iff_iff, ent_iff]
 unfold wantP
 rw [List.all_eq_true]
 constructor
 ·intro h1 k _
  cases hs : satP a (pickT k all all.length)
  ·rfl
  ·rw [h1 _ hs]; rfl
 ·intro h1 ts hts
  obtain ⟨x, hx, hc⟩ := satP_iff.1 hts
  have hk := h1 (bitsOf (hasT x) all) (List.mem_range.2 (bitsOf_lt _ _))
  have hm : ∀ t, t ∈ pickT (bitsOf (hasT x) all) all all.length ↔ t ∈ x := by
   intro t
   rw [pickT_mem]
   constructor
   ·rintro ⟨i, _, hb, ht⟩
    rw [bitsOf_test _ ht] at hb
    exact hasT_iff.1 hb
   ·intro ht
    obtain ⟨i, hi, he⟩ := List.mem_iff_getElem.1 (h x hx t ht)
    have he' : all[i]? = some t := by rw [List.getElem?_eq_getElem hi, he]
    exact ⟨i, hi, by rw [bitsOf_test _ he']; exact hasT_iff.2 ht, he'⟩
  have ha : satP a (pickT (bitsOf (hasT x) all) all all.length) = true := satP_iff.2 ⟨x, hx, conA_iff.2 fun t ht => (hm t).2 ht⟩
  rw [ha, Bool.not_true, Bool.false_or] at hk
  obtain ⟨y, hy, hcy⟩ := satP_iff.1 hk
  exact satP_iff.2 ⟨y, hy, conA_iff.2 fun t ht => conA_iff.1 hc t ((hm t).1 (conA_iff.1 hcy t ht))⟩
end Go.Proofs.YtoemmpfcnpdblaaGreatDoor
