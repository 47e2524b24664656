/- Plain laws of catalogs: pairs, and later versions. -/
import Derived.Test.YtoemmpfcnpdblaaGreatDoorJProY
set_option linter.all false
namespace Go.Proofs.YtoemmpfcnpdblaaGreatDoor
open Go Go.Sort

theorem pair_lt {c : Catalog} (h : checkC c = 0) {x : Pair} (hx : x ∈ c.apart) : slt x.a x.b = true := by
 obtain ⟨p, hp⟩ := firstErr_all (check_parts h).2.2.2.1 x hx
 unfold pairErr at hp
 repeat' split at hp
 all_goals try (cases hp; done)
 rename_i h2
 simp only [Bool.or_eq_true, Bool.not_eq_true', not_or, Bool.not_eq_false] at h2
 exact h2.1
theorem apart_comm (c : Catalog) (a b : ByteArray) : apartC c a b = apartC c b a := by
 unfold apartC
 congr 1
 have h1 := slt_trich a b
 by_cases he : a = b
 ·subst he; rfl
 ·have e1 : seq a b = false := by rw [seq_eq]; simpa using he
  have e2 : seq b a = false := by rw [seq_eq]; simpa using fun h => he h.symm
  rw [e1, e2, Bool.or_false, Bool.or_false, h1, e2, Bool.or_false]
  cases slt b a <;> simp
theorem apart_self (c : Catalog) (a : ByteArray) : apartC c a a = false := by
 unfold apartC
 cases hc : checkC c == 0
 ·rfl
 ·have hc : checkC c = 0 := by simpa using hc
  have e1 : seq a a = true := by rw [seq_eq]; simp
  rw [e1, Bool.or_true, if_pos rfl, Bool.true_and, List.any_eq_false]
  intro x hx h
  simp only [seq_eq, Bool.and_eq_true, decide_eq_true_eq] at h
  have := pair_lt hc hx
  rw [← h.1, ← h.2, slt_irrefl] at this
  cases this
theorem apart_mem {c : Catalog} (h : checkC c = 0) {x : Pair} (hx : x ∈ c.apart) : apartC c x.a x.b = true := by
 unfold apartC
 rw [h, pair_lt h hx, Bool.true_or, if_pos rfl, Bool.and_eq_true, List.any_eq_true]
 exact ⟨rfl, x, hx, by simp [seq_eq]⟩

theorem look_found {x : License} : ∀ {ls : List License}, (ls.map License.name).Nodup → x ∈ ls → lookL x.name ls = some x
 | y :: r, hn, hx => by
  rw [List.map_cons, List.nodup_cons] at hn
  unfold lookL
  rcases List.mem_cons.1 hx with rfl | hx
  ·rw [if_pos rfl]
  ·rw [if_neg fun e => hn.1 (List.mem_map.2 ⟨x, hx, e.symm⟩)]
   exact look_found hn.2 hx
theorem find_lic {c : Catalog} (h : checkC c = 0) {x : License} (hx : x ∈ c.licenses) : findC c x.name = some x := by
 unfold findC
 rw [h]
 exact look_found (lic_nodup (check_parts h).1) hx
theorem laterL_perm (c : Catalog) (x : License) : (laterL c x).Perm (c.licenses.filter (laterIs x)) := sortS_perm _ _
theorem later_mem {c : Catalog} {x y : License} : y ∈ laterL c x ↔ y ∈ c.licenses ∧ y.family = x.family ∧ x.version ≤ y.version := by
 rw [(laterL_perm c x).mem_iff, List.mem_filter]
 simp [laterIs, seq_eq]
theorem swoVer : SWO verLt := ⟨fun x => by simp [verLt], fun x y z h1 h2 => by simp [verLt] at *; omega, fun x y z h1 h2 => by simp [verLt] at *; omega⟩
theorem later_incr {c : Catalog} (h : checkC c = 0) (x : License) : (laterL c x).Pairwise (fun a b => a.version < b.version) := by
 have h1 : (laterL c x).Pairwise (fun a b => verLt b a = false) := sortS_sorted swoVer _
 have h2 : ((laterL c x).map License.version).Nodup := ((laterL_perm c x).map _).nodup_iff.2 (later_versions h x)
 rw [List.nodup_iff_pairwise_ne, List.pairwise_map] at h2
 refine (h1.and h2).imp ?_
 rintro a b ⟨h3, h4⟩
 simp only [verLt, decide_eq_false_iff_not] at h3
 omega
theorem later_head {c : Catalog} (h : checkC c = 0) {x : License} (hx : x ∈ c.licenses) : ∃ r, laterL c x = x :: r := by
 have hm : x ∈ laterL c x := later_mem.2 ⟨hx, rfl, Int.le_refl _⟩
 have hp := later_incr h x
 cases hl : laterL c x with
 | nil => rw [hl] at hm; simp at hm
 | cons y r =>
  refine ⟨r, ?_⟩
  rw [hl] at hp hm
  rcases List.mem_cons.1 hm with rfl | hm
  ·rfl
  ·have h1 := (List.pairwise_cons.1 hp).1 x hm
   have h2 := (later_mem.1 (show y ∈ laterL c x by rw [hl]; simp)).2.2
   omega
theorem filter_drop {f : License → Int} {p : License → Bool} {y : License} : ∀ {l : List License} {i : Nat}, l.Pairwise (fun a b => f a < f b) → (∀ z ∈ l, p z = decide (f y ≤ f z)) → l[i]? = some y → l.filter p = l.drop i
 | [], i, _, _, h => by simp at h
 | z :: r, 0, hs, hp, h => by
  simp at h; subst h
  rw [List.drop_zero, List.filter_eq_self]
  intro u hu
  rw [hp u hu, decide_eq_true_eq]
  rcases List.mem_cons.1 hu with rfl | hu
  ·exact Int.le_refl _
  ·exact Int.le_of_lt ((List.pairwise_cons.1 hs).1 u hu)
 | z :: r, i + 1, hs, hp, h => by
  have h' : r[i]? = some y := by simpa using h
  have hm := List.mem_of_getElem? h'
  have hlt := (List.pairwise_cons.1 hs).1 y hm
  rw [List.filter_cons, hp z (by simp), if_neg (by simp; omega), List.drop_succ_cons]
  exact filter_drop (List.pairwise_cons.1 hs).2 (fun u hu => hp u (by simp [hu])) h'
theorem later_drop {c : Catalog} (h : checkC c = 0) {x y : License} {i : Nat} (hy : (laterL c x)[i]? = some y) : laterL c y = (laterL c x).drop i := by
 have hm := later_mem.1 (List.mem_of_getElem? hy)
 have hf : (laterL c x).filter (laterIs y) = (laterL c x).drop i := by
  refine filter_drop (f := License.version) (later_incr h x) ?_ hy
  intro z hz
  have := later_mem.1 hz
  simp [laterIs, seq_eq, this.2.1, hm.2.1]
 rw [← hf]
 symm
 refine sorted_unique_ver ?_ ?_ (later_versions h y)
 ·refine ((laterL_perm c x).filter _).trans ?_
  rw [List.filter_filter]
  refine List.Perm.of_eq (List.filter_congr fun z _ => ?_)
  cases hz : laterIs y z
  ·rfl
  ·simp only [laterIs, seq_eq, Bool.and_eq_true, decide_eq_true_eq, Bool.true_and] at hz ⊢
   exact ⟨by rw [hz.1, hm.2.1], by omega⟩
 ·refine (List.Pairwise.filter _ (later_incr h x)).imp ?_
  intro a b hab
  simp [verLt]; omega
theorem later_names {c : Catalog} (h : checkC c = 0) (x : License) {y : License} (hy : y ∈ c.licenses) : y.name ∈ (laterL c x).map License.name ↔ (y.family = x.family ∧ x.version ≤ y.version) := by
 rw [List.mem_map]
 constructor
 ·rintro ⟨z, hz, he⟩
  have hm := later_mem.1 hz
  have := nodup_inj (lic_nodup (check_parts h).1) z hm.1 y hy he
  subst this
  exact hm.2
 ·intro hh
  exact ⟨y, later_mem.2 ⟨hy, hh⟩, rfl⟩
theorem later_find {c : Catalog} (h : checkC c = 0) {x : License} (hx : x ∈ c.licenses) : laterC c x.name = some ((laterL c x).map License.name) ∧ laterE c x.name = 0 := by
 unfold laterC laterE
 rw [find_lic h hx]
 exact ⟨rfl, rfl⟩
end Go.Proofs.YtoemmpfcnpdblaaGreatDoor
namespace Go.Proofs.YtoemmpfcnpdblaaGreatDoor
open Go Go.Sort

theorem filter_min {α κ : Type} [DecidableEq κ] (key : α → κ) (lt : κ → κ → Prop) (k : κ) : ∀ (l : List α), l.Pairwise (fun a b => ¬ lt (key b) (key a)) → (∀ x ∈ l, key x = k ∨ lt k (key x)) →
  l.filter (fun x => decide (key x = k)) ++ l.filter (fun x => !decide (key x = k)) = l
 | [], _, _ => rfl
 | x :: r, hs, hk => by
  obtain ⟨h1, h2⟩ := List.pairwise_cons.1 hs
  have ih := filter_min key lt k r h2 fun y hy => hk y (by simp [hy])
  by_cases he : key x = k
  ·simp only [List.filter_cons, he, decide_true, if_true, Bool.not_true, Bool.false_eq_true, if_false, List.cons_append]
   rw [ih]
  ·have hlt : lt k (key x) := (hk x (by simp)).resolve_left he
   have hn : ∀ y ∈ r, key y ≠ k := fun y hy e => h1 y hy (by rw [e]; exact hlt)
   have e1 : r.filter (fun x => decide (key x = k)) = [] := by
    rw [List.filter_eq_nil_iff]; intro y hy; simpa using hn y hy
   have e2 : r.filter (fun x => !decide (key x = k)) = r := by
    rw [List.filter_eq_self]; intro y hy; simpa using hn y hy
   simp only [List.filter_cons, he, decide_false, Bool.false_eq_true, if_false, Bool.not_false, if_true, e1, e2, List.nil_append]
theorem part_keys {α κ : Type} [DecidableEq κ] (key : α → κ) (lt : κ → κ → Prop) (hirr : ∀ a, ¬ lt a a) : ∀ (ks : List κ) (l : List α), ks.Pairwise lt → l.Pairwise (fun a b => ¬ lt (key b) (key a)) → (∀ x ∈ l, key x ∈ ks) →
  ks.flatMap (fun k => l.filter (fun x => decide (key x = k))) = l
 | [], l, _, _, h => by
  cases l with
  | nil => rfl
  | cons x r => have := h x (by simp); simp at this
 | k :: ks, l, hk, hs, h => by
  obtain ⟨h1, h2⟩ := List.pairwise_cons.1 hk
  rw [List.flatMap_cons]
  have hm := filter_min key lt k l hs fun x hx => by
   rcases List.mem_cons.1 (h x hx) with e | e
   ·exact Or.inl e
   ·exact Or.inr (h1 _ e)
  have ih := part_keys key lt hirr ks (l.filter (fun x => !decide (key x = k))) h2 (hs.filter _) fun x hx => by
   obtain ⟨h3, h4⟩ := List.mem_filter.1 hx
   rcases List.mem_cons.1 (h x h3) with e | e
   ·simp [e] at h4
   ·exact e
  have he : ks.flatMap (fun k' => l.filter (fun x => decide (key x = k'))) = ks.flatMap (fun k' => (l.filter (fun x => !decide (key x = k))).filter (fun x => decide (key x = k'))) := by
   rw [List.flatMap_def, List.flatMap_def]
   congr 1
   refine List.map_congr_left fun k' hk' => ?_
   rw [List.filter_filter]
   refine List.filter_congr fun x _ => ?_
   by_cases e : key x = k'
   ·have : key x ≠ k := by rintro rfl; exact hirr _ (e ▸ h1 k' hk')
    simp [e]
    intro e2; exact this (e.trans e2)
   ·simp [e]
  rw [he, ih, hm]
theorem clauseLt_def (a b : Clause) : clauseLt a b = true ↔ (slt a.license b.license = true ∨ a.license = b.license ∧ (a.way < b.way ∨ a.way = b.way ∧ (a.relation < b.relation ∨ a.relation = b.relation ∧ a.duty < b.duty))) := by
 unfold clauseLt
 by_cases h1 : a.license = b.license
 ·rw [h1]
  simp only [seq_eq, decide_true, Bool.not_true, Bool.false_eq_true, if_false, slt_irrefl, false_or, true_and]
  by_cases h2 : a.way = b.way
  ·by_cases h3 : a.relation = b.relation
   ·simp [h2, h3]
   ·simp [h2, h3]
  ·simp [h2]
 ·have : seq a.license b.license = false := by rw [seq_eq]; simpa using h1
  simp [this, h1]
theorem clauseLt_trans (a b c : Clause) (h : clauseLt a b = true) (k : clauseLt b c = true) : clauseLt a c = true := by
 rw [clauseLt_def] at *
 rcases h with h | ⟨e, h⟩ <;> rcases k with k | ⟨f, k⟩
 ·exact Or.inl (slt_trans h k)
 ·exact Or.inl (f ▸ h)
 ·exact Or.inl (e ▸ k)
 ·exact Or.inr ⟨e.trans f, by omega⟩
theorem clauseErr_parts {ls : List License} {pre : List Clause} {x : Clause} (h : clauseErr ls pre x = 0) :
  ¬ findFrom x.license ls 0 < 0 ∧ (0 ≤ x.way ∧ x.way ≤ 2) ∧ (0 ≤ x.relation ∧ x.relation ≤ 2) ∧ (0 ≤ x.duty ∧ x.duty ≤ 5) ∧ behind clauseLt pre x = true := by
 unfold clauseErr at h
 repeat' split at h
 all_goals try (cases h; done)
 rename_i h1 h2 h3 h4 h5 h6
 simp only [Bool.or_eq_true, decide_eq_true_eq, not_or, Int.not_lt] at h1 h2
 exact ⟨by omega, by omega, by omega, by omega, by simpa using h6⟩
theorem clauses_sorted {c : Catalog} (h : checkC c = 0) : c.clauses.Pairwise fun a b => clauseLt a b = true := by
 have := firstErr_pairwise (lt := clauseLt) clauseLt_trans (fun pre x h => (clauseErr_parts h).2.2.2.2) c.clauses [] (by simp) (check_parts h).2.2.1
 simpa using this
theorem findFrom_mem {nm : ByteArray} : ∀ {ls : List License} {i : Int}, ¬ findFrom nm ls i < 0 → ∃ x ∈ ls, x.name = nm
 | [], i, h => absurd (by decide : (-1 : Int) < 0) h
 | x :: r, i, h => by
  unfold findFrom at h
  split at h
  ·rename_i e; exact ⟨x, by simp, e⟩
  ·obtain ⟨y, hy, e⟩ := findFrom_mem h; exact ⟨y, by simp [hy], e⟩
def eS : ByteArray := ByteArray.empty
theorem lifts_empty {c : Catalog} (h : checkC c = 0) {x : License} (hx : x ∈ c.licenses) : liftsC c ⟨x.name, eS⟩ = some [] := by
 unfold liftsC
 rw [show findC c (Term.license ⟨x.name, eS⟩) = some x from find_lic h hx]
 have : (Term.exception ⟨x.name, eS⟩).toList.isEmpty = true := by rw [ByteArray.toList_eq]; rfl
 rw [this]
 rfl
def lic3 (c : Catalog) (x : License) : List Clause := [0, 1, 2].flatMap fun w => [0, 1, 2].flatMap fun r => clausesC c ⟨x.name, eS⟩ w r
theorem three {α : Type} (f : α → Int) {l : List α} (hs : l.Pairwise fun a b => f a ≤ f b) (hb : ∀ x ∈ l, 0 ≤ f x ∧ f x ≤ 2) : ([0, 1, 2] : List Int).flatMap (fun k => l.filter fun x => decide (f x = k)) = l := by
 refine part_keys f (fun a b : Int => a < b) (fun a => Int.lt_irrefl a) [0, 1, 2] l (by decide) (hs.imp fun h => Int.not_lt.2 h) ?_
 intro x hx
 have := hb x hx
 simp; omega
theorem all_clauses {c : Catalog} (h : checkC c = 0) : c.licenses.flatMap (lic3 c) = c.clauses := by
 have hs := clauses_sorted h
 have hb : ∀ x ∈ c.clauses, ¬ findFrom x.license c.licenses 0 < 0 ∧ (0 ≤ x.way ∧ x.way ≤ 2) ∧ (0 ≤ x.relation ∧ x.relation ≤ 2) := fun x hx => by
  obtain ⟨p, hp⟩ := firstErr_all (check_parts h).2.2.1 x hx
  exact ⟨(clauseErr_parts hp).1, (clauseErr_parts hp).2.1, (clauseErr_parts hp).2.2.1⟩
 have h1 : (c.licenses.map License.name).flatMap (fun k => c.clauses.filter fun x => decide (x.license = k)) = c.clauses := by
  refine part_keys Clause.license (fun a b => slt a b = true) (fun a => by rw [slt_irrefl]; simp) _ _ ?_ ?_ ?_
  ·rw [List.pairwise_map]; exact lic_sorted (check_parts h).1
  ·refine hs.imp ?_
   intro a b hab hba
   rw [clauseLt_def] at hab
   rcases hab with hab | ⟨e, -⟩
   ·rw [slt_asymm hab] at hba; cases hba
   ·rw [e, slt_irrefl] at hba; cases hba
  ·intro x hx
   obtain ⟨y, hy, e⟩ := findFrom_mem (hb x hx).1
   exact List.mem_map.2 ⟨y, hy, e⟩
 rw [List.flatMap_def, List.map_map, ← List.flatMap_def] at h1
 rw [← h1]
 conv => rhs; rw [h1]
 rw [← h1, List.flatMap_def, List.flatMap_def]
 congr 1
 refine List.map_congr_left fun x hx => ?_
 show lic3 c x = c.clauses.filter fun y => decide (y.license = x.name)
 have h2 : ∀ w r : Int, clausesC c ⟨x.name, eS⟩ w r = ((c.clauses.filter fun y => decide (y.license = x.name)).filter fun y => decide (y.way = w)).filter fun y => decide (y.relation = r) := by
  intro w r
  unfold clausesC
  rw [lifts_empty h hx, List.filter_filter, List.filter_filter]
  refine List.filter_congr fun y _ => ?_
  rw [Bool.eq_iff_iff]
  simp [clauseIs, seq_eq]
  constructor
  ·rintro ⟨⟨a, b⟩, d⟩; exact ⟨⟨d, b⟩, a⟩
  ·rintro ⟨⟨d, b⟩, a⟩; exact ⟨⟨a, b⟩, d⟩
 have hs2 : (c.clauses.filter fun y => decide (y.license = x.name)).Pairwise fun a b => a.way ≤ b.way := by
  refine List.Pairwise.imp_of_mem ?_ (hs.filter _)
  intro a b ha hb hab
  have e1 := (List.mem_filter.1 ha).2
  have e2 := (List.mem_filter.1 hb).2
  simp only [decide_eq_true_eq] at e1 e2
  rw [clauseLt_def, e1, e2, slt_irrefl] at hab
  simp at hab
  omega
 have hb2 : ∀ y ∈ c.clauses.filter fun y => decide (y.license = x.name), 0 ≤ y.way ∧ y.way ≤ 2 := fun y hy => (hb y (List.mem_filter.1 hy).1).2.1
 have hw := three Clause.way hs2 hb2
 unfold lic3
 rw [← hw]
 conv => rhs; rw [hw]
 rw [← hw, List.flatMap_def, List.flatMap_def]
 congr 1
 refine List.map_congr_left fun w _ => ?_
 simp only [h2]
 refine three Clause.relation ?_ ?_
 ·refine List.Pairwise.imp_of_mem ?_ ((hs.filter _).filter _)
  intro a b ha hb hab
  obtain ⟨ha, e3⟩ := List.mem_filter.1 ha
  obtain ⟨hb, e4⟩ := List.mem_filter.1 hb
  have e1 := (List.mem_filter.1 ha).2
  have e2 := (List.mem_filter.1 hb).2
  simp only [decide_eq_true_eq] at e1 e2 e3 e4
  rw [clauseLt_def, e1, e2, slt_irrefl, e3, e4] at hab
  simp at hab
  omega
 ·intro y hy
  exact (hb y (List.mem_filter.1 (List.mem_filter.1 hy).1).1).2.2
theorem excErr_parts {ls : List License} {pre : List Exc} {x : Exc} (h : excErr ls pre x = 0) : nameB x.name = true ∧ ¬ findFrom x.license ls 0 < 0 ∧ after Exc.name pre x.name = true := by
 unfold excErr at h
 repeat' split at h
 all_goals try (cases h; done)
 rename_i h1 h2 h3 h4 h5
 simp only [Bool.or_eq_true, decide_eq_true_eq, not_or] at h1 h2 h4
 exact ⟨by simpa using h1, h2, by simpa using h4.2⟩
theorem exc_nodup {c : Catalog} (h : checkC c = 0) : (c.exceptions.map Exc.name).Nodup := by
 have := firstErr_pairwise (lt := fun a b : Exc => slt a.name b.name) (fun a b d h1 h2 => slt_trans (a := a.name) (b := b.name) (c := d.name) h1 h2)
  (fun pre x h => by rw [← after_behind]; exact (excErr_parts h).2.2) c.exceptions [] (by simp) (check_parts h).2.1
 rw [List.Nodup, List.pairwise_map]
 simp only [List.nil_append] at this
 exact this.imp fun h => slt_ne h
theorem liftsL_found {x : Exc} : ∀ {es : List Exc}, (es.map Exc.name).Nodup → x ∈ es → liftsL ⟨x.license, x.name⟩ es = some x.lifts
 | y :: r, hn, hx => by
  rw [List.map_cons, List.nodup_cons] at hn
  unfold liftsL
  rcases List.mem_cons.1 hx with rfl | hx
  ·rw [if_pos]; simp [excIs]
  ·rw [if_neg]
   ·exact liftsL_found hn.2 hx
   ·intro e
    simp only [excIs, Bool.and_eq_true] at e
    exact hn.1 (List.mem_map.2 ⟨x, hx, (ba_eq_t e.1).symm⟩)
theorem lifts_exc {c : Catalog} (h : checkC c = 0) {x : Exc} (hx : x ∈ c.exceptions) : liftsC c ⟨x.license, x.name⟩ = some x.lifts := by
 obtain ⟨p, hp⟩ := firstErr_all (check_parts h).2.1 x hx
 obtain ⟨h1, h2, -⟩ := excErr_parts hp
 obtain ⟨y, hy, e⟩ := findFrom_mem h2
 unfold liftsC
 rw [show findC c (Term.license ⟨x.license, x.name⟩) = some y from e ▸ find_lic h hy]
 have : (Term.exception ⟨x.license, x.name⟩).toList.isEmpty = false := by
  rw [ByteArray.toList_eq]
  unfold nameB nameL at h1
  split at h1
  ·cases h1
  ·rename_i he; show x.name.data.toList.isEmpty = false; rw [he]; rfl
 rw [this]
 exact liftsL_found (exc_nodup h) hx
theorem clauses_exc {c : Catalog} (h : checkC c = 0) {x : Exc} (hx : x ∈ c.exceptions) (way rel : Int) :
  clausesC c ⟨x.license, x.name⟩ way rel = (clausesC c ⟨x.license, eS⟩ way rel).filter fun y => !x.lifts.contains y.duty := by
 obtain ⟨p, hp⟩ := firstErr_all (check_parts h).2.1 x hx
 obtain ⟨-, h2, -⟩ := excErr_parts hp
 obtain ⟨y, hy, e⟩ := findFrom_mem h2
 have h3 : liftsC c ⟨x.license, eS⟩ = some [] := e ▸ lifts_empty h hy
 unfold clausesC
 rw [lifts_exc h hx, h3, List.filter_filter]
 refine List.filter_congr fun z _ => ?_
 simp [clauseIs]
 ac_rfl
end Go.Proofs.YtoemmpfcnpdblaaGreatDoor
