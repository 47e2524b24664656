/- Plain laws: the expression of a meaning has this meaning. -/
import Derived.Test.YtaaobpicaaeiiaaGreatDoorJAEU
import Derived.Test.YtaaobpicaaeiiaaGreatDoorJLaw
import Derived.Test.YtaaobpicaaeiiaaGreatDoorJRfE
import Derived.Test.YtaaobpicaaeiiaaGreatDoorJMeaY
set_option linter.all false
namespace Go.Proofs.YtaaobpicaaeiiaaGreatDoor
open Go

def okT (c : Catalog) (t : Term) : Prop := nodeErr (termE t) = 0 ∧ knownN c (termE t) = true
def GoodA (c : Catalog) (l : List (List Term)) : Prop := ∀ a ∈ l, a ≠ [] ∧ ∀ t ∈ a, okT c t
theorem minimal_ne {l : List (List Term)} (h : l ≠ []) : minimalP l ≠ [] := by
 obtain ⟨a, r, rfl⟩ := List.exists_cons_of_ne_nil h
 intro he
 have h1 : satP (a :: r) a = true := satP_iff.2 ⟨a, by simp, conA_refl a⟩
 rw [← minimal_sat, he] at h1
 cases h1
theorem norm_ne {a : List Term} (h : a ≠ []) : normT a ≠ [] := by
 obtain ⟨t, r, rfl⟩ := List.exists_cons_of_ne_nil h
 exact List.ne_nil_of_mem (normT_mem.2 (show t ∈ t :: r by simp))
theorem good_min {c : Catalog} {l : List (List Term)} (h : GoodA c l) : GoodA c (minimalP l) := by
 intro x hx
 obtain ⟨y, hy, rfl⟩ := minimal_mem hx
 exact ⟨norm_ne (h y hy).1, fun t ht => (h y hy).2 t (normT_mem.1 ht)⟩
theorem good_sized {c : Catalog} {l : List (List Term)} (h : GoodA c l) : GoodA c (sizedP (minimalP l)).1 := fun a ha => good_min h a ((sized_ok _).2 a ha)
theorem good_pairs {c : Catalog} {l m : List (List Term)} (h : GoodA c l) (k : GoodA c m) : GoodA c (pairsA l m) := by
 intro a ha
 unfold pairsA at ha
 obtain ⟨x, hx, ha⟩ := List.mem_flatMap.1 ha
 obtain ⟨y, hy, rfl⟩ := List.mem_map.1 ha
 refine ⟨by simp [(h x hx).1], fun t ht => ?_⟩
 rcases List.mem_append.1 ht with ht | ht
 ·exact (h x hx).2 t ht
 ·exact (k y hy).2 t ht
theorem pairs_ne {l m : List (List Term)} (h : l ≠ []) (k : m ≠ []) : pairsA l m ≠ [] := by
 obtain ⟨a, r, rfl⟩ := List.exists_cons_of_ne_nil h
 obtain ⟨b, s, rfl⟩ := List.exists_cons_of_ne_nil k
 simp [pairsA]
theorem good_append {c : Catalog} {l m : List (List Term)} (h : GoodA c l) (k : GoodA c m) : GoodA c (l ++ m) := by
 intro a ha
 rcases List.mem_append.1 ha with ha | ha
 ·exact h a ha
 ·exact k a ha
theorem goodKs {c : Catalog} {k : Int} : ∀ (ks : List LExpr) (first : Bool) (out : List (List Term)), (∀ e ∈ ks, (meanP c e).2 = 0 → (meanP c e).1 ≠ [] ∧ GoodA c (meanP c e).1) → GoodA c out → (out ≠ [] ∨ ks ≠ []) → (k ≠ 3 → first = false → out ≠ []) →
  (meanKs c k first out ks).2 = 0 → (meanKs c k first out ks).1 ≠ [] ∧ GoodA c (meanKs c k first out ks).1
 | [], first, out, _, hg, hne, _, h => by
  rw [meanKs] at h ⊢
  refine ⟨?_, good_sized hg⟩
  rw [sized_zero h]
  exact minimal_ne (hne.resolve_right (by simp))
 | e :: r, first, out, ih, hg, hne, hf, h => by
  have hr : ∀ e ∈ r, (meanP c e).2 = 0 → (meanP c e).1 ≠ [] ∧ GoodA c (meanP c e).1 := fun y hy => ih y (by simp [hy])
  rw [meanKs] at h ⊢
  by_cases q : (meanP c e).2 = 0
  ·obtain ⟨h1, h2⟩ := ih e (by simp) q
   simp only [q] at h ⊢
   simp only [beq_self_eq_true, Bool.not_true, Bool.false_eq_true, if_false] at h ⊢
   by_cases q3 : k = 3
   ·subst q3
    simp only [beq_self_eq_true, if_true] at h ⊢
    exact goodKs r false _ hr (good_append hg h2) (.inl (by simp [h1])) (fun hk => absurd rfl hk) h
   ·have q3' : (k == 3) = false := by simpa using q3
    simp only [q3', Bool.false_eq_true, if_false] at h ⊢
    cases first
    ·simp only [Bool.false_eq_true, if_false] at h ⊢
     by_cases q4 : (sizedP (minimalP (pairsA out (meanP c e).1))).2 = 0
     ·simp only [q4] at h ⊢
      simp only [beq_self_eq_true, Bool.not_true, Bool.false_eq_true, if_false] at h ⊢
      have hn : (sizedP (minimalP (pairsA out (meanP c e).1))).1 ≠ [] := by
       rw [sized_zero q4]; exact minimal_ne (pairs_ne (hf q3 rfl) h1)
      exact goodKs r false _ hr (good_sized (good_pairs hg h2)) (.inl hn) (fun _ _ => hn) h
     ·simp [q4] at h
    ·simp only [if_true] at h ⊢
     exact goodKs r false _ hr h2 (.inl h1) (fun _ _ => h1) h
  ·simp [q] at h
theorem name_emp {n : ByteArray} (h : nameB n = true) : emp n = false := by
 cases q : emp n
 ·rfl
 ·exfalso
  unfold emp at q
  rw [List.isEmpty_iff] at q
  have : n.data.toList = [] := by rw [← ByteArray.toList_eq]; exact q
  unfold nameB at h
  rw [this] at h
  cases h
theorem term_err {n x : ByteArray} : nodeErr (.mk 0 n x []) = if !nameB n || (!emp x && !nameB x) then 2 else 0 := by simp [nodeErr]
theorem licErr_name {pre : List License} {x : License} (h : licErr pre x = 0) : nameB x.name = true := by
 unfold licErr at h
 cases q : nameB x.name
 ·rw [q] at h; simp at h
 ·rfl
theorem okT_later {c : Catalog} (hc : checkC c = 0) {y : License} (hy : y ∈ c.licenses) : okT c ⟨y.name, ByteArray.empty⟩ := by
 obtain ⟨p, hp⟩ := firstErr_all (check_parts hc).1 y hy
 have hn := licErr_name hp
 refine ⟨?_, ?_⟩
 ·show nodeErr (.mk 0 y.name ByteArray.empty []) = 0
  rw [term_err, hn]
  have : emp ByteArray.empty = true := by unfold emp; rw [ByteArray.toList_eq]; rfl
  rw [this]; rfl
 ·show (emp y.name || (liftsC c ⟨y.name, ByteArray.empty⟩).isSome) = true
  have := lifts_empty hc hy
  unfold eS at this
  rw [this]; simp
theorem mean_good {c : Catalog} : ∀ e, checkE c e = 0 → (meanP c e).2 = 0 → (meanP c e).1 ≠ [] ∧ GoodA c (meanP c e).1 := by
 refine LExpr.ind fun k n x ks ih hc h => ?_
 obtain ⟨hC, hF, hN⟩ := checkE_iff.1 hc
 obtain ⟨hs, -, herr⟩ := formE_iff.1 hF
 have he := herr (.mk k n x ks) (by rw [nodesE]; simp)
 have hkn := hN (.mk k n x ks) (by rw [nodesE]; simp)
 by_cases q0 : k = 0
 ·subst q0
  obtain ⟨rfl, -⟩ := err_low he (by decide)
  have e1 : (meanP c (.mk 0 n x [])).1 = [[⟨n, x⟩]] := by rw [meanP]; rfl
  rw [e1]
  refine ⟨by simp, fun a ha => ?_⟩
  have : a = [⟨n, x⟩] := by simpa using ha
  subst this
  refine ⟨by simp, fun t ht => ?_⟩
  have : t = ⟨n, x⟩ := by simpa using ht
  subst this
  exact ⟨he, hkn⟩
 by_cases q1 : k = 1
 ·subst q1
  obtain ⟨rfl, hnm⟩ := err_low he (by decide)
  have e1 : meanP c (.mk 1 n x []) = sizedP (minimalP (((laterC c n).getD []).map fun s => [⟨s, ByteArray.empty⟩])) := by rw [meanP]; rfl
  rw [e1] at h ⊢
  have hk2 : (liftsC c ⟨n, x⟩).isSome = true := by
   have h0 : (emp n || (liftsC c ⟨n, x⟩).isSome) = true := hkn
   rw [name_emp hnm] at h0
   simpa using h0
  have hfi : (findC c n).isSome = true := by
   unfold liftsC at hk2
   split at hk2
   ·assumption
   ·cases hk2
  obtain ⟨L, hL⟩ := Option.isSome_iff_exists.1 hfi
  have hlook := (find_check hL).2
  have hmem := (look_mem hlook).1
  have hnm2 : laterC c n = some ((laterL c L).map License.name) := by unfold laterC; rw [hL]; rfl
  obtain ⟨r, hr⟩ := later_head hC hmem
  have hne : (((laterC c n).getD []).map fun s => [(⟨s, ByteArray.empty⟩ : Term)]) ≠ [] := by rw [hnm2, hr]; simp
  refine ⟨by rw [sized_zero h]; exact minimal_ne hne, good_sized fun a ha => ?_⟩
  obtain ⟨s, hsm, rfl⟩ := List.mem_map.1 ha
  rw [hnm2] at hsm
  obtain ⟨y, hy, rfl⟩ := List.mem_map.1 (by simpa using hsm : s ∈ (laterL c L).map License.name)
  refine ⟨by simp, fun t ht => ?_⟩
  have : t = ⟨y.name, ByteArray.empty⟩ := by simpa using ht
  subst this
  exact okT_later hC (later_mem.1 hy).1
 have e0 : (k == 0) = false := by simpa using q0
 have e1 : (k == 1) = false := by simpa using q1
 have hks : ks ≠ [] := by
  rintro rfl
  have hk : ¬ (k < 0 ∨ 3 < k) := fun q => by rw [nodeErr_bad q] at he; cases he
  rw [nodeErr_hi (by omega) (by omega)] at he
  simp at he
 rw [meanP, e0, e1] at h ⊢
 simp only [Bool.false_eq_true, if_false] at h ⊢
 exact goodKs ks true [] (fun e hm hz => ih e hm (check_kid hc hm) hz) (fun a ha => by simp at ha) (.inr hks) (fun _ hf => by simp at hf) h
theorem emp_e : emp ByteArray.empty = true := by unfold emp; rw [ByteArray.toList_eq]; rfl
theorem nodeA_nodes {k : Int} {ks : List LExpr} {y : LExpr} (h : y ∈ nodesE (nodeA k ks)) : (ks.length ≠ 1 ∧ y = .mk k ByteArray.empty ByteArray.empty ks) ∨ ∃ e ∈ ks, y ∈ nodesE e := by
 by_cases q : ks.length = 1
 ·match ks, q with
  | [x], _ => exact .inr ⟨x, by simp, h⟩
 ·rw [nodeA_ne q, nodesE] at h
  rcases List.mem_cons.1 h with h | h
  ·exact .inl ⟨q, h⟩
  ·obtain ⟨e, he, hy⟩ := nodesKs_in h
   exact .inr ⟨e, he, hy⟩
theorem hi_ok {c : Catalog} {k : Int} {ks : List LExpr} (hk : k = 2 ∨ k = 3) (h1 : ks ≠ []) (h2 : ks.length ≠ 1) : nodeErr (.mk k ByteArray.empty ByteArray.empty ks) = 0 ∧ knownN c (.mk k ByteArray.empty ByteArray.empty ks) = true := by
 have : 2 ≤ ks.length := by
  match ks, h1, h2 with
  | [x], _, h => simp at h
  | x :: y :: r, _, _ => simp
 have hd : decide ((ks.length : Int) < 2) = false := by simp; omega
 constructor
 ·rw [nodeErr_hi (by omega) (by omega), emp_e, hd]; rfl
 ·show (emp ByteArray.empty || _) = true
  rw [emp_e]; rfl
theorem alt_nodes {c : Catalog} {a : List Term} (h : a ≠ [] ∧ ∀ t ∈ a, okT c t) : ∀ y ∈ nodesE (altE a), nodeErr y = 0 ∧ knownN c y = true := by
 intro y hy
 rcases nodeA_nodes hy with ⟨h1, rfl⟩ | ⟨e, he, hy⟩
 ·exact hi_ok (.inl rfl) (by simpa using h.1) h1
 ·obtain ⟨t, ht, rfl⟩ := List.mem_map.1 he
  have : y = termE t := by simpa [termE, nodesE, nodesKs] using hy
  subst this
  exact h.2 t ht
theorem or_nodes {c : Catalog} {l : List (List Term)} (hl : l ≠ []) (h : GoodA c l) : ∀ y ∈ nodesE (orAll l), nodeErr y = 0 ∧ knownN c y = true := by
 intro y hy
 rcases nodeA_nodes hy with ⟨h1, rfl⟩ | ⟨e, he, hy⟩
 ·exact hi_ok (.inr rfl) (by simpa using hl) h1
 ·obtain ⟨a, ha, rfl⟩ := List.mem_map.1 he
  exact alt_nodes (h a ha) y hy
theorem nodeA_depth {k : Int} {ks : List LExpr} {d : Nat} (h : ∀ e ∈ ks, depthE e ≤ d) : depthE (nodeA k ks) ≤ d + 1 := by
 have hk : depthKs ks ≤ d := by
  induction ks with
  | nil => simp [depthKs]
  | cons a r ih =>
   rw [depthKs]
   have h1 := h a (by simp)
   have h2 := ih fun e he => h e (by simp [he])
   omega
 by_cases q : ks.length = 1
 ·match ks, q with
  | [x], _ => have := h x (by simp); show depthE x ≤ _; omega
 ·rw [nodeA_ne q, depthE]; omega
theorem or_depth (l : List (List Term)) : depthE (orAll l) ≤ 24 := by
 have h1 : ∀ a : List Term, depthE (altE a) ≤ 2 := fun a => nodeA_depth fun e he => by
  obtain ⟨t, ht, rfl⟩ := List.mem_map.1 he
  simp [termE, depthE, depthKs]
 have := nodeA_depth (k := 3) (ks := l.map altE) (d := 2) fun e he => by
  obtain ⟨a, ha, rfl⟩ := List.mem_map.1 he
  exact h1 a
 unfold orAll
 omega
theorem sized_one (a : List Term) : sizedP [a] = ([a], 0) := by unfold sizedP; simp
theorem mean_term (c : Catalog) (t : Term) : meanP c (termE t) = ([[t]], 0) := by unfold termE; rw [meanP]; rfl
theorem mean_and (c : Catalog) : ∀ (r pre : List Term), ((pre ++ r).Pairwise fun x y => tcmp x y < 0) → meanKs c 2 false [pre] (r.map termE) = ([pre ++ r], 0)
 | [], pre, h => by
  rw [List.append_nil] at h ⊢
  rw [List.map_nil, meanKs, minimal_self (minL_one h), sized_one]
 | t :: r, pre, h => by
  have h1 : ((pre ++ [t]) ++ r).Pairwise fun x y => tcmp x y < 0 := by simpa using h
  have h2 : (pre ++ [t]).Pairwise fun x y => tcmp x y < 0 := (List.pairwise_append.1 h1).1
  have hp : pairsA [pre] [[t]] = [pre ++ [t]] := rfl
  rw [List.map_cons, meanKs, mean_term]
  simp only [hp, minimal_self (minL_one h2), sized_one]
  simp (config := {decide := true}) only [if_false, beq_self_eq_true, Bool.not_true]
  rw [mean_and c r (pre ++ [t]) h1]; simp
theorem mean_alt (c : Catalog) {a : List Term} (hn : a ≠ []) (h : a.Pairwise fun x y => tcmp x y < 0) : meanP c (altE a) = ([a], 0) := by
 match a, hn, h with
 | [t], _, _ => exact mean_term c t
 | t :: u :: r, _, h =>
  have e1 : altE (t :: u :: r) = .mk 2 ByteArray.empty ByteArray.empty ((t :: u :: r).map termE) := rfl
  have e2 : meanP c (.mk 2 ByteArray.empty ByteArray.empty ((t :: u :: r).map termE)) = meanKs c 2 true [] ((t :: u :: r).map termE) := by rw [meanP]; rfl
  rw [e1, e2, List.map_cons, meanKs, mean_term]
  have := mean_and c (u :: r) [t] (by simpa using h)
  simp (config := {decide := true}) only [if_false, if_true, beq_self_eq_true, Bool.not_true]
  exact this
theorem mean_or (c : Catalog) : ∀ (r out : List (List Term)) (first : Bool), (∀ a ∈ r, a ≠ [] ∧ a.Pairwise fun x y => tcmp x y < 0) → meanKs c 3 first out (r.map altE) = sizedP (minimalP (out ++ r))
 | [], out, first, _ => by rw [List.map_nil, meanKs, List.append_nil]
 | a :: r, out, first, h => by
  rw [List.map_cons, meanKs, mean_alt c (h a (by simp)).1 (h a (by simp)).2]
  simp (config := {decide := true}) only [if_false, if_true, beq_self_eq_true, Bool.not_true]
  rw [mean_or c r (out ++ [a]) false fun b hb => h b (by simp [hb])]
  simp
theorem mean_orAll (c : Catalog) {l : List (List Term)} (hm : MinL l) (hl : l ≠ []) (h64 : l.length ≤ 64) (h : ∀ a ∈ l, a ≠ []) : meanP c (orAll l) = (l, 0) := by
 match l, hl, hm, h64, h with
 | [a], _, hm, _, h => exact mean_alt c (h a (by simp)) (hm.srt a (by simp))
 | a :: b :: r, _, hm, h64, h =>
  have e1 : orAll (a :: b :: r) = .mk 3 ByteArray.empty ByteArray.empty ((a :: b :: r).map altE) := rfl
  have e2 : meanP c (.mk 3 ByteArray.empty ByteArray.empty ((a :: b :: r).map altE)) = meanKs c 3 true [] ((a :: b :: r).map altE) := by rw [meanP]; rfl
  rw [e1, e2, mean_or c _ _ _ fun x hx => ⟨h x hx, hm.srt x hx⟩, List.nil_append, minimal_self hm]
  unfold sizedP
  rw [if_neg (by simp at h64 ⊢; omega)]
theorem returns_of {c : Catalog} {e : LExpr} (h : (ofP c e).2 = 0) :
  (exprA (ofP c e).1).2 = 10 ∨ (exprA (ofP c e).1).2 = 0 ∧ (exprA (ofP c e).1).1 = orAll (ofP c e).1 ∧ ofP c (orAll (ofP c e).1) = ((ofP c e).1, 0) := by
 obtain ⟨h1, h2⟩ := ofP_ok h
 rw [h2] at h ⊢
 obtain ⟨hne, hg⟩ := mean_good e h1 h
 obtain ⟨hn, hle⟩ := mean_len c e
 have hm := mean_min c e
 obtain ⟨hC, hF, hN⟩ := checkE_iff.1 h1
 have hs := (formE_iff.1 hF).1
 generalize (meanP c e).1 = l at *
 have hck : checkA l = 0 := check_small hm hn fun a ha => by have := hle a ha; omega
 have hl0 : ((l.length : Int) == 0) = false := by
  have : l.length ≠ 0 := by simpa using hne
  simp; exact hne
 have hany : (l.any fun a => (a.length : Int) == 0) = false := by
  rw [List.any_eq_false]
  intro a ha
  have := (hg a ha).1
  simp; exact this
 unfold exprA
 rw [hck, hl0, hany]
 simp only [bne_self_eq_false, Bool.or_self, Bool.false_eq_true, if_false]
 by_cases q : (64 : Int) < sizeE (orAll l)
 ·rw [if_pos (decide_eq_true q)]; exact .inl rfl
 ·rw [if_neg (by simpa using q)]
  refine .inr ⟨rfl, rfl, ?_⟩
  have hk : checkE c (orAll l) = 0 := checkE_iff.2 ⟨hC, formE_iff.2 ⟨by omega, or_depth l, fun y hy => (or_nodes hne hg y hy).1⟩, fun y hy => (or_nodes hne hg y hy).2⟩
  rw [of_check hk, mean_orAll c hm hne hn fun a ha => (hg a ha).1]
end Go.Proofs.YtaaobpicaaeiiaaGreatDoor
