/- Rows of the call's own: an element set anew, a row cut short, 'clear'. -/
import Derived.Laws.IdiomCopy
import Derived.Shelf.SlicesQ.Load
import Derived.Test.YtaneolfnnkppbaaGreatDoorJSort
import Derived.Test.YtaneolfnnkppbaaGreatDoorJReadU
set_option linter.all false
namespace Go.Proofs.YtaneolfnnkppbaaGreatDoor
open Go Go.RowKit Go.ChangeShapes
def putMany (cur : Array Value) : Nat → List Value → Array Value
 | _, [] => cur
 | o, v :: r => putMany (cur.setIfInBounds o v) (o + 1) r
theorem putMany_size : ∀ (y : List Value) (cur : Array Value) (o : Nat), (putMany cur o y).size = cur.size
 | [], _, _ => rfl
 | v :: r, cur, o => by rw [putMany, putMany_size r]; simp
theorem putMany_get : ∀ (y : List Value) (cur : Array Value) (o k : Nat), o + y.length ≤ cur.size → (putMany cur o y)[k]? = if o ≤ k ∧ k < o + y.length then y[k - o]? else cur[k]?
 | [], cur, o, k, _ => by rw [putMany, if_neg (by simp)]
 | v :: r, cur, o, k, h => by
  simp only [List.length_cons] at h
  rw [putMany, putMany_get r _ _ _ (by simp; omega)]
  simp only [List.length_cons]
  by_cases h1 : o + 1 ≤ k ∧ k < o + 1 + r.length
  ·rw [if_pos h1, if_pos (by omega), show k - o = (k - (o + 1)) + 1 by omega, List.getElem?_cons_succ]
  ·rw [if_neg h1]
   by_cases h2 : k = o
   ·subst h2
    rw [if_pos (by omega), Nat.sub_self, Array.getElem?_setIfInBounds_self, if_pos (by omega)]; rfl
   ·rw [if_neg (by omega), Array.getElem?_setIfInBounds_ne (by omega)]
theorem setCells_obj (g : Nat) {e : TypeId} {fr : Nat × Nat} : ∀ (y : List Value) (o : Nat) (w : World) (cur : Array Value), w.heap[g]? = some (.cells cur e fr) → (w.setCells g o y).heap[g]? = some (.cells (putMany cur o y) e fr)
 | [], _, _, _, h => h
 | v :: r, o, w, cur, h => by
  rw [World.setCells, putMany]
  exact setCells_obj g r (o + 1) _ _ (setCell_obj w g o v h)
theorem setCells_other (g : Nat) {k : Nat} (hk : k ≠ g) : ∀ (y : List Value) (o : Nat) (w : World), (w.setCells g o y).heap[k]? = w.heap[k]?
 | [], _, _ => rfl
 | v :: r, o, w => by
  rw [World.setCells, setCells_other g hk r, blk_set_other _ _ _ _ hk]
theorem setCells_size (g : Nat) : ∀ (y : List Value) (o : Nat) (w : World), (w.setCells g o y).heap.size = w.heap.size
 | [], _, _ => rfl
 | v :: r, o, w => by rw [World.setCells, setCells_size g r]; simp [World.setCell]
theorem agree_setCells {B : Nat} {w : World} {g o : Nat} {y : List Value} {cur : Array Value} {e : TypeId} {fr : Nat × Nat} (hB : B ≤ g) (h : w.heap[g]? = some (.cells cur e fr)) : Agree B (· = e) w (w.setCells g o y) := by
 refine ⟨Nat.le_of_eq (setCells_size g y o w).symm, fun k hk hc => setCells_other g (fun hkg => ?_) y o w⟩
 subst hkg
 rcases hc with hc | hc
 ·exact absurd hc (Nat.not_lt.2 hB)
 ·exact hc ⟨_, _, _, rfl, h⟩
theorem below_setCellsO {B g : Nat} (hB : B ≤ g) : ∀ (y : List Value) (o : Nat) (w0 w : World), Below B w0 w → Below B w0 (w.setCells g o y)
 | [], _, _, _, h => h
 | v :: r, o, w0, w, h => by
  rw [World.setCells]
  exact below_setCellsO hB r (o + 1) w0 _ (h.setCell hB _)
section
variable {α : Type} [Lay α] {B : Nat} {E : TypeId → Prop} {e : TypeId} {w : World} {g cap : Nat} {xs : List α}
theorem OwnL.elem {a : Option Addr} {n c : Nat} (h : OwnL B E e w (.slice a n c) xs) {j : Nat} {x : α} (hx : xs[j]? = some x) :
  ∃ (g : Nat) (y : List Value), a = some ⟨g, 0, none⟩ ∧ n = xs.length ∧ B ≤ g ∧ g < w.heap.size ∧ y.length = Lay.n α ∧ (∀ q u, y[q]? = some u → w.cell? ⟨g, j * Lay.n α + q, none⟩ = some u ∧ w.frozen? ⟨g, j * Lay.n α + q, none⟩ = false) ∧ (∀ w', Agree B E w w' → Lay.is w' (fun q => y[q]?) x) ∧ ∃ cur, w.heap[g]? = some (.cells cur e (0, 0)) := by
 obtain ⟨ys, h1, ⟨h2, h2'⟩, h3⟩ := h
 have hj := lt_get hx
 rcases h2' with ⟨he, h0⟩ | ⟨g, cap, cur, he, hg, hh, hn', hc, hsz, ht⟩
 ·omega
 ·cases he
  obtain ⟨y, hy⟩ := get_lt (xs := ys) (k := j) (by omega)
  obtain ⟨hl, hs⟩ := h3 j y x hy hx
  have hall := OwnL.all (P := fun z => z.length = Lay.n α) h1 (fun i y x hy hx => (h3 i y x hy hx).1)
  refine ⟨g, y, rfl, rfl, hg, ?_, hl, fun q u hq => ⟨objcell hh ?_, objfrozen hh⟩, hs, cur, hh⟩
  ·rcases Nat.lt_or_ge g w.heap.size with h | h
   ·exact h
   ·rw [Array.getElem?_eq_none h] at hh; cases hh
  ·have hq' : q < Lay.n α := by rw [← hl]; exact lt_get hq
   have e1 : j * Lay.n α + q < xs.length * Lay.n α := by
    have : (j + 1) * Lay.n α ≤ xs.length * Lay.n α := Nat.mul_le_mul_right _ hj
    rw [Nat.succ_mul] at this; omega
   have e2 := flatten_get ys j q y hall hy hq'
   rw [← ht, List.getElem?_take, if_pos e1, hq] at e2
   simpa using e2
theorem flatten_set {n : Nat} : ∀ (ys : List (List Value)) (i : Nat) (y : List Value), (∀ z ∈ ys, z.length = n) → y.length = n → i < ys.length → ∀ k, (ys.set i y).flatten[k]? = if i * n ≤ k ∧ k < i * n + n then y[k - i * n]? else ys.flatten[k]?
 | [], i, y, _, _, h, k => by simp at h
 | z :: ys, 0, y, hl, hy, _, k => by
  have hz := hl z (by simp)
  simp only [List.set_cons_zero, List.flatten_cons, Nat.zero_mul, Nat.zero_le, true_and, Nat.zero_add, Nat.sub_zero]
  by_cases h : k < n
  ·rw [if_pos h, List.getElem?_append_left (by omega)]
  ·rw [if_neg h, List.getElem?_append_right (by omega), List.getElem?_append_right (by omega), hy, hz]
 | z :: ys, i + 1, y, hl, hy, hi, k => by
  have hz := hl z (by simp)
  simp only [List.set_cons_succ, List.flatten_cons]
  by_cases h : k < n
  ·rw [List.getElem?_append_left (by omega), List.getElem?_append_left (by omega), if_neg (by rw [Nat.succ_mul]; omega)]
  ·rw [List.getElem?_append_right (by omega), List.getElem?_append_right (by omega), hz]
   rw [flatten_set ys i y (fun u hu => hl u (by simp [hu])) hy (by simpa using hi) (k - n), Nat.succ_mul]
   by_cases h2 : i * n ≤ k - n ∧ k - n < i * n + n
   ·rw [if_pos h2, if_pos (by omega)]; congr 1; omega
   ·rw [if_neg h2, if_neg (by omega)]
theorem OwnL.put {n c : Nat} (h : OwnL B E e w (.slice (some ⟨g, 0, none⟩) n c) xs) (hE : E e) {i : Nat} (hi : i < xs.length) {y : List Value} {x : α} (hl : y.length = Lay.n α) (hs : ∀ w', Agree B E w w' → Lay.is w' (fun q => y[q]?) x) :
  OwnL B E e (w.setCells g (i * Lay.n α) y) (.slice (some ⟨g, 0, none⟩) n c) (xs.set i x) := by
 obtain ⟨ys, k1, ⟨h2, h2'⟩, h3⟩ := h
 rcases h2' with ⟨he, h0⟩ | ⟨g', cap', cur, he, hg, hh, hn', hc, hsz, ht⟩
 ·omega
 ·cases he
  have hall := OwnL.all (P := fun z => z.length = Lay.n α) k1 (fun i y x hy hx => (h3 i y x hy hx).1)
  have hAg : Agree B E w (w.setCells g (i * Lay.n α) y) := (agree_setCells hg hh).mono fun z hz => hz ▸ hE
  have hcap : i * Lay.n α + Lay.n α ≤ xs.length * Lay.n α := by
   have : (i + 1) * Lay.n α ≤ xs.length * Lay.n α := Nat.mul_le_mul_right _ hi
   rw [Nat.succ_mul] at this; exact this
  have hfl : ys.flatten.length = xs.length * Lay.n α := by rw [← h2]
  have hcs : xs.length * Lay.n α ≤ cur.size := by rw [hsz]; exact Nat.mul_le_mul_right _ hn'
  have hset : (putMany cur (i * Lay.n α) y).toList.take (xs.length * Lay.n α) = (ys.set i y).flatten := by
   refine List.ext_getElem? fun k => ?_
   rw [flatten_set ys i y hall hl (by omega) k, List.getElem?_take]
   by_cases hk : k < xs.length * Lay.n α
   ·rw [if_pos hk, Array.getElem?_toList, putMany_get y cur _ k (by omega), hl]
    by_cases h5 : i * Lay.n α ≤ k ∧ k < i * Lay.n α + Lay.n α
    ·rw [if_pos h5, if_pos h5]
    ·rw [if_neg h5, if_neg h5, ← ht, List.getElem?_take, if_pos hk, Array.getElem?_toList]
   ·rw [if_neg hk, if_neg (by omega), List.getElem?_eq_none (by omega)]
  refine ⟨ys.set i y, by simp [k1], ⟨?_, .inr ⟨g, c, putMany cur (i * Lay.n α) y, by rw [List.length_set], hg, setCells_obj g y _ w cur hh, by rw [List.length_set]; exact hn', hc, by rw [putMany_size]; exact hsz, by rw [List.length_set]; exact hset⟩⟩, ?_⟩
  ·have hz : (putMany cur (i * Lay.n α) y).toList.length = cur.size := by rw [Array.length_toList, putMany_size]
   rw [List.length_set, ← hset, List.length_take, hz]; omega
  ·intro q z v hz hv
   by_cases hq : q = i
   ·subst hq
    rw [List.getElem?_set_self (by omega)] at hz
    rw [List.getElem?_set_self hi] at hv
    cases hz; cases hv
    exact ⟨hl, fun w' hw => hs w' (hAg.trans hw)⟩
   ·rw [List.getElem?_set_ne (by omega)] at hz hv
    exact ⟨(h3 q z v hz hv).1, fun w' hw => (h3 q z v hz hv).2 w' (hAg.trans hw)⟩
theorem OwnL.cut {n c : Nat} (h : OwnL B E e w (.slice (some ⟨g, 0, none⟩) n c) xs) (hE : E e) {m : Nat} (hm : m ≤ xs.length) (y : List Value) (hy : m * Lay.n α + y.length ≤ xs.length * Lay.n α) :
  OwnL B E e (w.setCells g (m * Lay.n α) y) (.slice (some ⟨g, 0, none⟩) m c) (xs.take m) := by
 obtain ⟨ys, k1, ⟨h2, h2'⟩, h3⟩ := h
 rcases h2' with ⟨he, h0⟩ | ⟨g', cap', cur, he, hg, hh, hn', hc, hsz, ht⟩
 ·cases he
 ·cases he
  have hall := OwnL.all (P := fun z => z.length = Lay.n α) k1 (fun i y x hy hx => (h3 i y x hy hx).1)
  have hAg : Agree B E w (w.setCells g (m * Lay.n α) y) := (agree_setCells hg hh).mono fun z hz => hz ▸ hE
  have hfl : ys.flatten.length = xs.length * Lay.n α := by rw [← h2]
  have hcs : xs.length * Lay.n α ≤ cur.size := by rw [hsz]; exact Nat.mul_le_mul_right _ hn'
  have hmx : m * Lay.n α ≤ xs.length * Lay.n α := Nat.mul_le_mul_right _ hm
  have htl : (xs.take m).length = m := by rw [List.length_take]; omega
  have hft : (ys.take m).flatten = ys.flatten.take (m * Lay.n α) := by
   have key : ∀ (ys : List (List Value)) (m : Nat), (∀ z ∈ ys, z.length = Lay.n α) → (ys.take m).flatten = ys.flatten.take (m * Lay.n α) := by
    intro ys
    induction ys with
    | nil => intro m _; simp
    | cons z r ih =>
     intro m hz
     cases m with
     | zero => simp
     | succ m =>
      have hzz := hz z (by simp)
      rw [List.take_succ_cons, List.flatten_cons, List.flatten_cons, ih m fun u hu => hz u (by simp [hu]), Nat.succ_mul, List.take_append, hzz]
      rw [List.take_of_length_le (l := z) (by omega)]
      congr 2; omega
   exact key ys m hall
  refine ⟨ys.take m, by simp [k1], ⟨?_, .inr ⟨g, c, putMany cur (m * Lay.n α) y, by rw [htl], hg, setCells_obj g y _ w cur hh, by rw [htl]; omega, hc, by rw [putMany_size]; exact hsz, ?_⟩⟩, ?_⟩
  ·rw [hft, List.length_take, htl, hfl]; omega
  ·rw [htl, hft, ← ht, List.take_take, Nat.min_eq_left hmx]
   refine List.ext_getElem? fun k => ?_
   rw [List.getElem?_take, List.getElem?_take]
   by_cases hk : k < m * Lay.n α
   ·rw [if_pos hk, if_pos hk, Array.getElem?_toList, Array.getElem?_toList, putMany_get y cur _ k (by omega), if_neg (by omega)]
   ·rw [if_neg hk, if_neg hk]
  ·intro q z v hz hv
   rw [List.getElem?_take] at hz hv
   split at hz
   ·rename_i hq
    rw [if_pos hq] at hv
    exact ⟨(h3 q z v hz hv).1, fun w' hw => (h3 q z v hz hv).2 w' (hAg.trans hw)⟩
   ·cases hz
end
end Go.Proofs.YtaneolfnnkppbaaGreatDoor
namespace Go.Proofs.YtaneolfnnkppbaaGreatDoor
open Go Go.RowKit Go.ChangeShapes
section
variable {α : Type} {lt : α → α → Bool} {x : α} {acc row : List α} {k : Nat}
def InsI (lt : α → α → Bool) (x : α) (acc : List α) (k : Nat) (row : List α) : Prop :=
 ∃ pre post, acc = pre ++ post ∧ post.length = k ∧ row = post.reverse ++ x :: pre.reverse ∧ insR lt x acc = pre ++ insR lt x post
theorem InsI.start (lt : α → α → Bool) (x : α) (acc : List α) : InsI lt x acc acc.length (acc.reverse ++ [x]) := ⟨[], acc, rfl, rfl, rfl, rfl⟩
theorem InsI.length (h : InsI lt x acc k row) : row.length = acc.length + 1 ∧ k ≤ acc.length := by
 obtain ⟨pre, post, rfl, rfl, rfl, -⟩ := h
 simp; omega
theorem InsI.ends (h : InsI lt x acc 0 row) : row = (insR lt x acc).reverse := by
 obtain ⟨pre, post, rfl, hk, rfl, hr⟩ := h
 obtain rfl : post = [] := List.length_eq_zero_iff.1 hk
 rw [hr]; simp [insR]
theorem InsI.here (h : InsI lt x acc (k + 1) row) : row[k + 1]? = some x ∧ ∃ y, row[k]? = some y ∧ (lt x y = false → row = (insR lt x acc).reverse) ∧ (lt x y = true → InsI lt x acc k ((row.set (k + 1) y).set k x)) := by
 obtain ⟨pre, post, rfl, hk, rfl, hr⟩ := h
 match post, hk with
 | y :: r, hk =>
  have hk : r.length = k := by simpa using hk
  subst hk
  have e : (y :: r).reverse ++ x :: pre.reverse = r.reverse ++ (y :: x :: pre.reverse) := by simp
  rw [e]
  refine ⟨?_, y, ?_, fun hl => ?_, fun hl => ⟨pre ++ [y], r, by simp, rfl, ?_, ?_⟩⟩
  ·rw [List.getElem?_append_right (by simp)]; simp
  ·rw [List.getElem?_append_right (by simp)]; simp
  ·rw [hr]; simp [insR, hl]
  ·rw [List.set_append_right _ _ (by simp), List.set_append_right _ _ (by simp)]; simp
  ·rw [hr]; simp [insR, hl]
theorem sortR_snoc (lt : α → α → Bool) (x : α) : ∀ (l acc : List α), sortR lt acc (l ++ [x]) = insR lt x (sortR lt acc l)
 | [], acc => rfl
 | y :: r, acc => by
  show sortR lt (insR lt y acc) (r ++ [x]) = _
  rw [sortR_snoc lt x r]; rfl
def accS (lt : α → α → Bool) (xs : List α) (i : Nat) : List α := sortR lt [] (xs.take i)
theorem accS_length (lt : α → α → Bool) {xs : List α} {i : Nat} (h : i ≤ xs.length) : (accS lt xs i).length = i := by
 have := (sortR_perm lt (xs.take i) []).length_eq
 unfold accS
 rw [this]; simp; omega
theorem accS_step (lt : α → α → Bool) {xs : List α} {i : Nat} (h : xs[i]? = some x) : insR lt x (accS lt xs i) = accS lt xs (i + 1) := by
 unfold accS
 rw [take_at h, sortR_snoc]
theorem accS_end (lt : α → α → Bool) (xs : List α) : (accS lt xs xs.length).reverse = sortS lt xs := by
 unfold accS sortS; rw [List.take_length]
end
section
variable {α : Type} [Lay α] {B : Nat} {E : TypeId → Prop} {e : TypeId} {w : World} {g n cap : Nat} {xs : List α}
theorem run_load_cells (P : Program) {w : World} {g o k : Nat} {y : List Value} (hl : y.length = k) (h : ∀ q u, y[q]? = some u → w.cell? ⟨g, o + q, none⟩ = some u) : Sem.run P (loadCellsFrom ⟨g, o, none⟩ 0 k #[]) w = .ok y.toArray w := by
 refine run_loadCellsFrom_list P _ _ _ k hl fun j v hj => ?_
 have := h j v hj
 unfold Addr.add; split
 ·rename_i h0; subst h0; simpa using this
 ·exact this
theorem run_store_cells (P : Program) {w : World} {g o : Nat} {y z : List Value} (hl : z.length = y.length) (h : ∀ q u, y[q]? = some u → w.cell? ⟨g, o + q, none⟩ = some u ∧ w.frozen? ⟨g, o + q, none⟩ = false) (h1 : ∀ v ∈ z, v.oneCell' = true) :
  Sem.run P (storeCells ⟨g, o, none⟩ z 0) w = .ok () (w.setCells g o z) := by
 have := run_storeCells_cells (P := P) g o z 0 w (fun c hc => by
  rw [Nat.add_zero]
  obtain ⟨u, hu⟩ := get_lt (xs := y) (k := c) (by omega)
  rw [(h c u hu).1]; rfl) (fun c hc => by
  rw [Nat.add_zero]
  obtain ⟨u, hu⟩ := get_lt (xs := y) (k := c) (by omega)
  exact (h c u hu).2) h1
 rwa [Nat.add_zero] at this
theorem OwnL.put1 (h : OwnL B E e w (.slice (some ⟨g, 0, none⟩) n cap) xs) (hE : E e) {i : Nat} {x x' : α} (hx : xs[i]? = some x) {q : Nat} (hq : q < Lay.n α) {u : Value} (hs : ∀ (y : List Value) (w' : World), y.length = Lay.n α → Lay.is w' (fun j => y[j]?) x → Lay.is w' (fun j => (y.set q u)[j]?) x') :
  OwnL B E e (w.setCell ⟨g, i * Lay.n α + q, none⟩ u) (.slice (some ⟨g, 0, none⟩) n cap) (xs.set i x') := by
 have hi := lt_get hx
 obtain ⟨ys, k1, ⟨h2, h2'⟩, h3⟩ := h
 rcases h2' with ⟨he, h0⟩ | ⟨g', cap', cur, he, hg, hh, hn', hc, hsz, ht⟩
 ·omega
 ·cases he
  have hall := OwnL.all (P := fun z => z.length = Lay.n α) k1 (fun i y x hy hx => (h3 i y x hy hx).1)
  have hAg : Agree B E w (w.setCell ⟨g, i * Lay.n α + q, none⟩ u) := (agree_setCell hg hh).mono fun z hz => hz ▸ hE
  obtain ⟨y, hy⟩ := get_lt (xs := ys) (k := i) (by omega)
  obtain ⟨hl, hys⟩ := h3 i y x hy hx
  have hl' : (y.set q u).length = Lay.n α := by rw [List.length_set, hl]
  have hcap : i * Lay.n α + Lay.n α ≤ xs.length * Lay.n α := by
   have : (i + 1) * Lay.n α ≤ xs.length * Lay.n α := Nat.mul_le_mul_right _ hi
   rw [Nat.succ_mul] at this; exact this
  have hfl : ys.flatten.length = xs.length * Lay.n α := by rw [← h2]
  have hcs : xs.length * Lay.n α ≤ cur.size := by rw [hsz]; exact Nat.mul_le_mul_right _ hn'
  have hset : (cur.setIfInBounds (i * Lay.n α + q) u).toList.take (xs.length * Lay.n α) = (ys.set i (y.set q u)).flatten := by
   refine List.ext_getElem? fun k => ?_
   rw [flatten_set ys i (y.set q u) hall hl' (by omega) k, List.getElem?_take]
   by_cases hk : k < xs.length * Lay.n α
   ·rw [if_pos hk, Array.getElem?_toList]
    have e0 : ys.flatten[k]? = cur[k]? := by rw [← ht, List.getElem?_take, if_pos hk, Array.getElem?_toList]
    by_cases h5 : i * Lay.n α ≤ k ∧ k < i * Lay.n α + Lay.n α
    ·rw [if_pos h5]
     by_cases h6 : k = i * Lay.n α + q
     ·subst h6
      rw [Array.getElem?_setIfInBounds_self, if_pos (by omega), show i * Lay.n α + q - i * Lay.n α = q by omega, List.getElem?_set_self (by omega)]
     ·rw [Array.getElem?_setIfInBounds_ne (by omega), List.getElem?_set_ne (by omega), ← e0]
      have e2 := flatten_get ys i (k - i * Lay.n α) y hall hy (by omega)
      rw [show i * Lay.n α + (k - i * Lay.n α) = k by omega] at e2
      exact e2
    ·rw [if_neg h5, Array.getElem?_setIfInBounds_ne (by omega), e0]
   ·rw [if_neg hk, if_neg (by omega), List.getElem?_eq_none (by omega)]
  refine ⟨ys.set i (y.set q u), by simp [k1], ⟨?_, .inr ⟨g, cap, cur.setIfInBounds (i * Lay.n α + q) u, by rw [List.length_set], hg, setCell_obj w g _ u hh, by rw [List.length_set]; exact hn', hc, by rw [Array.size_setIfInBounds]; exact hsz, by rw [List.length_set]; exact hset⟩⟩, ?_⟩
  ·have hz : (cur.setIfInBounds (i * Lay.n α + q) u).toList.length = cur.size := by rw [Array.length_toList, Array.size_setIfInBounds]
   rw [List.length_set, ← hset, List.length_take, hz]; omega
  ·intro r z v hz hv
   by_cases hr : r = i
   ·subst hr
    rw [List.getElem?_set_self (by omega)] at hz
    rw [List.getElem?_set_self hi] at hv
    cases hz; cases hv
    exact ⟨hl', fun w' hw => hs y w' hl (hys w' (hAg.trans hw))⟩
   ·rw [List.getElem?_set_ne (by omega)] at hz hv
    exact ⟨(h3 r z v hz hv).1, fun w' hw => (h3 r z v hz hv).2 w' (hAg.trans hw)⟩
theorem OwnL.swap {a : Option Addr} (h : OwnL B E e w (.slice a n cap) xs) (hE : E e) (hone : ∀ (w : World) (y : List Value) (x : α), y.length = Lay.n α → Lay.is w (fun j => y[j]?) x → ∀ v ∈ y, v.oneCell' = true)
  {i j : Nat} {x y : α} (hx : xs[i]? = some x) (hy : xs[j]? = some y) :
  ∃ (g : Nat) (cx cy : List Value), a = some ⟨g, 0, none⟩ ∧ n = xs.length ∧ B ≤ g ∧ g < w.heap.size ∧ cx.length = Lay.n α ∧ cy.length = Lay.n α ∧ (∃ cur, w.heap[g]? = some (.cells cur e (0, 0))) ∧
   (∀ P : Program, Sem.run P (loadCellsFrom ⟨g, i * Lay.n α, none⟩ 0 (Lay.n α) #[]) w = .ok cx.toArray w) ∧ (∀ P : Program, Sem.run P (loadCellsFrom ⟨g, j * Lay.n α, none⟩ 0 (Lay.n α) #[]) w = .ok cy.toArray w) ∧
   (∀ P : Program, Sem.run P (storeCells ⟨g, i * Lay.n α, none⟩ cy 0) w = .ok () (w.setCells g (i * Lay.n α) cy)) ∧
   (∀ P : Program, Sem.run P (storeCells ⟨g, j * Lay.n α, none⟩ cx 0) (w.setCells g (i * Lay.n α) cy) = .ok () ((w.setCells g (i * Lay.n α) cy).setCells g (j * Lay.n α) cx)) ∧
   OwnL B E e ((w.setCells g (i * Lay.n α) cy).setCells g (j * Lay.n α) cx) (.slice a n cap) ((xs.set i y).set j x) ∧
   Agree B (· = e) w ((w.setCells g (i * Lay.n α) cy).setCells g (j * Lay.n α) cx) ∧ Below B w ((w.setCells g (i * Lay.n α) cy).setCells g (j * Lay.n α) cx) := by
 obtain ⟨g, cx, rfl, hn, hB, hg, lx, fx, sx, cur, hh⟩ := h.elem hx
 obtain ⟨g', cy, he, -, -, -, ly, fy, sy, -⟩ := h.elem hy
 cases he
 have hi := lt_get hx
 have hj := lt_get hy
 have o1 := hone w cx x lx (sx w (Agree.refl _ _ _))
 have o2 := hone w cy y ly (sy w (Agree.refl _ _ _))
 have h1 := h.put hE hi ly sy
 have a1 := agree_setCells (o := i * Lay.n α) (y := cy) hB hh
 have hh1 := setCells_obj g cy (i * Lay.n α) w cur hh
 have hy1 : (xs.set i y)[j]? = some y := by
  by_cases hij : i = j
  ·subst hij; rw [List.getElem?_set_self hi]
  ·rw [List.getElem?_set_ne hij]; exact hy
 obtain ⟨g', cz, he, -, -, -, lz, fz, -, -⟩ := h1.elem hy1
 cases he
 have h2 := h1.put hE (by rw [List.length_set]; exact hj) lx (fun w' hw => sx w' ((a1.mono fun z hz => hz ▸ hE).trans hw))
 refine ⟨g, cx, cy, rfl, hn, hB, hg, lx, ly, ⟨cur, hh⟩, fun P => run_load_cells P lx fun q u hq => (fx q u hq).1, fun P => run_load_cells P ly fun q u hq => (fy q u hq).1, fun P => run_store_cells P (by rw [lx, ly]) fx o2, fun P => run_store_cells P (by rw [lx, lz]) fz o1, h2, a1.trans (agree_setCells hB hh1), ?_⟩
 exact below_setCellsO hB _ _ _ _ (below_setCellsO hB _ _ _ _ (Below.refl _ _))
end
theorem oneLic (w : World) (y : List Value) (x : License) (hl : y.length = Lay.n License) (h : Lay.is w (fun j => y[j]?) x) : ∀ v ∈ y, v.oneCell' = true := by
 obtain ⟨hd, rfl⟩ := ofLic w y x hl h
 intro v hv; simp [encLic] at hv; rcases hv with rfl | rfl | rfl | rfl <;> rfl
theorem oneExc (w : World) (y : List Value) (x : Exc) (hl : y.length = Lay.n Exc) (h : Lay.is w (fun j => y[j]?) x) : ∀ v ∈ y, v.oneCell' = true := by
 obtain ⟨hd, rfl⟩ := ofExc w y x hl h
 intro v hv; simp [encExc] at hv; rcases hv with rfl | rfl | rfl <;> rfl
theorem oneCla (w : World) (y : List Value) (x : Clause) (hl : y.length = Lay.n Clause) (h : Lay.is w (fun j => y[j]?) x) : ∀ v ∈ y, v.oneCell' = true := by
 obtain ⟨hd, rfl⟩ := ofClause w y x hl h
 intro v hv; simp [encClause] at hv; rcases hv with rfl | rfl | rfl | rfl | rfl <;> rfl
theorem onePrs (w : World) (y : List Value) (x : Pair) (hl : y.length = Lay.n Pair) (h : Lay.is w (fun j => y[j]?) x) : ∀ v ∈ y, v.oneCell' = true := by
 obtain ⟨hd, rfl⟩ := ofPair w y x hl h
 intro v hv; simp [encPair] at hv; rcases hv with rfl | rfl <;> rfl
end Go.Proofs.YtaneolfnnkppbaaGreatDoor
