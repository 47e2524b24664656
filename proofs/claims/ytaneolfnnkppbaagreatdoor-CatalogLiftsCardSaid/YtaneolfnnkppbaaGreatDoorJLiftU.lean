/- Rows of the call's own: an element set anew, a row cut short, 'clear'. -/
import Derived.Laws.IdiomCopy
import Derived.Deep.Upon
import Derived.Deep.AppendLies
import Derived.Test.YtaneolfnnkppbaaGreatDoorJProY
import Derived.Test.YtaneolfnnkppbaaGreatDoorJReadU
set_option linter.all false
namespace Go.Proofs.YtaneolfnnkppbaaGreatDoor
open Go Go.RowKit Go.ChangeShapes
def putMany (cur : Array Value) : Nat → List Value → Array Value
  | _, [] => cur
  | o, v :: r => putMany (cur.setIfInBounds o v) (o + 1) r
theorem putMany_size : ∀ (y : List Value) (cur : Array Value) (o : Nat), (putMany cur o y).size = cur.size
  | [], _, _ => rfl
  | v :: r, cur, o => by rw [putMany, putMany_size r]; simp
theorem putMany_get : ∀ (y : List Value) (cur : Array Value) (o k : Nat), o + y.length ≤ cur.size → (putMany cur o y)[k]? = if o ≤ k ∧ k < o + y.length then y[k - o]? else cur[k]?
  | [], cur, o, k, _ => by rw [putMany, if_neg (by simp)]
  | v :: r, cur, o, k, h => by
    simp only [List.length_cons] at h
    rw [putMany, putMany_get r _ _ _ (by simp; omega)]
    simp only [List.length_cons]
    by_cases h1 : o + 1 ≤ k ∧ k < o + 1 + r.length
    · rw [if_pos h1, if_pos (by omega), show k - o = (k - (o + 1)) + 1 by omega, List.getElem?_cons_succ]
    · rw [if_neg h1]
      by_cases h2 : k = o
      · subst h2
        rw [if_pos (by omega), Nat.sub_self, Array.getElem?_setIfInBounds_self, if_pos (by omega)]; rfl
      · rw [if_neg (by omega), Array.getElem?_setIfInBounds_ne (by omega)]
theorem setCells_obj (g : Nat) {e : TypeId} {fr : Nat × Nat} : ∀ (y : List Value) (o : Nat) (w : World) (cur : Array Value), w.heap[g]? = some (.cells cur e fr) → (w.setCells g o y).heap[g]? = some (.cells (putMany cur o y) e fr)
  | [], _, _, _, h => h
  | v :: r, o, w, cur, h => by
    rw [World.setCells, putMany]
    exact setCells_obj g r (o + 1) _ _ (setCell_obj w g o v h)
theorem setCells_other (g : Nat) {k : Nat} (hk : k ≠ g) : ∀ (y : List Value) (o : Nat) (w : World), (w.setCells g o y).heap[k]? = w.heap[k]?
  | [], _, _ => rfl
  | v :: r, o, w => by
    rw [World.setCells, setCells_other g hk r, blk_set_other _ _ _ _ hk]
theorem setCells_size (g : Nat) : ∀ (y : List Value) (o : Nat) (w : World), (w.setCells g o y).heap.size = w.heap.size
  | [], _, _ => rfl
  | v :: r, o, w => by rw [World.setCells, setCells_size g r]; simp [World.setCell]
theorem agree_setCells {B : Nat} {w : World} {g o : Nat} {y : List Value} {cur : Array Value} {e : TypeId} {fr : Nat × Nat} (hB : B ≤ g) (h : w.heap[g]? = some (.cells cur e fr)) : Agree B (· = e) w (w.setCells g o y) := by
  refine ⟨Nat.le_of_eq (setCells_size g y o w).symm, fun k hk hc => setCells_other g (fun hkg => ?_) y o w⟩
  subst hkg
  rcases hc with hc | hc
  · exact absurd hc (Nat.not_lt.2 hB)
  · exact hc ⟨_, _, _, rfl, h⟩
theorem below_setCellsO {B g : Nat} (hB : B ≤ g) : ∀ (y : List Value) (o : Nat) (w0 w : World), Below B w0 w → Below B w0 (w.setCells g o y)
  | [], _, _, _, h => h
  | v :: r, o, w0, w, h => by
    rw [World.setCells]
    exact below_setCellsO hB r (o + 1) w0 _ (h.setCell hB _)
section
variable {α : Type} [Lay α] {B : Nat} {E : TypeId → Prop} {e : TypeId} {w : World} {g cap : Nat} {xs : List α}
theorem OwnL.elem {a : Option Addr} {n c : Nat} (h : OwnL B E e w (.slice a n c) xs) {j : Nat} {x : α} (hx : xs[j]? = some x) :
    ∃ (g : Nat) (y : List Value), a = some ⟨g, 0, none⟩ ∧ n = xs.length ∧ B ≤ g ∧ g < w.heap.size ∧ y.length = Lay.n α ∧ (∀ q u, y[q]? = some u → w.cell? ⟨g, j * Lay.n α + q, none⟩ = some u ∧ w.frozen? ⟨g, j * Lay.n α + q, none⟩ = false) ∧ (∀ w', Agree B E w w' → Lay.is w' (fun q => y[q]?) x) ∧ ∃ cur, w.heap[g]? = some (.cells cur e (0, 0)) := by
  obtain ⟨ys, h1, ⟨h2, h2'⟩, h3⟩ := h
  have hj := lt_get hx
  rcases h2' with ⟨he, h0⟩ | ⟨g, cap, cur, he, hg, hh, hn', hc, hsz, ht⟩
  · omega
  · cases he
    obtain ⟨y, hy⟩ := get_lt (xs := ys) (k := j) (by omega)
    obtain ⟨hl, hs⟩ := h3 j y x hy hx
    have hall := OwnL.all (P := fun z => z.length = Lay.n α) h1 (fun i y x hy hx => (h3 i y x hy hx).1)
    refine ⟨g, y, rfl, rfl, hg, ?_, hl, fun q u hq => ⟨objcell hh ?_, objfrozen hh⟩, hs, cur, hh⟩
    · rcases Nat.lt_or_ge g w.heap.size with h | h
      · exact h
      · rw [Array.getElem?_eq_none h] at hh; cases hh
    · have hq' : q < Lay.n α := by rw [← hl]; exact lt_get hq
      have e1 : j * Lay.n α + q < xs.length * Lay.n α := by
        have : (j + 1) * Lay.n α ≤ xs.length * Lay.n α := Nat.mul_le_mul_right _ hj
        rw [Nat.succ_mul] at this; omega
      have e2 := flatten_get ys j q y hall hy hq'
      rw [← ht, List.getElem?_take, if_pos e1, hq] at e2
      simpa using e2
theorem flatten_set {n : Nat} : ∀ (ys : List (List Value)) (i : Nat) (y : List Value), (∀ z ∈ ys, z.length = n) → y.length = n → i < ys.length → ∀ k, (ys.set i y).flatten[k]? = if i * n ≤ k ∧ k < i * n + n then y[k - i * n]? else ys.flatten[k]?
  | [], i, y, _, _, h, k => by simp at h
  | z :: ys, 0, y, hl, hy, _, k => by
    have hz := hl z (by simp)
    simp only [List.set_cons_zero, List.flatten_cons, Nat.zero_mul, Nat.zero_le, true_and, Nat.zero_add, Nat.sub_zero]
    by_cases h : k < n
    · rw [if_pos h, List.getElem?_append_left (by omega)]
    · rw [if_neg h, List.getElem?_append_right (by omega), List.getElem?_append_right (by omega), hy, hz]
  | z :: ys, i + 1, y, hl, hy, hi, k => by
    have hz := hl z (by simp)
    simp only [List.set_cons_succ, List.flatten_cons]
    by_cases h : k < n
    · rw [List.getElem?_append_left (by omega), List.getElem?_append_left (by omega), if_neg (by rw [Nat.succ_mul]; omega)]
    · rw [List.getElem?_append_right (by omega), List.getElem?_append_right (by omega), hz]
      rw [flatten_set ys i y (fun u hu => hl u (by simp [hu])) hy (by simpa using hi) (k - n), Nat.succ_mul]
      by_cases h2 : i * n ≤ k - n ∧ k - n < i * n + n
      · rw [if_pos h2, if_pos (by omega)]; congr 1; omega
      · rw [if_neg h2, if_neg (by omega)]
theorem OwnL.put {n c : Nat} (h : OwnL B E e w (.slice (some ⟨g, 0, none⟩) n c) xs) (hE : E e) {i : Nat} (hi : i < xs.length) {y : List Value} {x : α} (hl : y.length = Lay.n α) (hs : ∀ w', Agree B E w w' → Lay.is w' (fun q => y[q]?) x) :
    OwnL B E e (w.setCells g (i * Lay.n α) y) (.slice (some ⟨g, 0, none⟩) n c) (xs.set i x) := by
  obtain ⟨ys, k1, ⟨h2, h2'⟩, h3⟩ := h
  rcases h2' with ⟨he, h0⟩ | ⟨g', cap', cur, he, hg, hh, hn', hc, hsz, ht⟩
  · omega
  · cases he
    have hall := OwnL.all (P := fun z => z.length = Lay.n α) k1 (fun i y x hy hx => (h3 i y x hy hx).1)
    have hAg : Agree B E w (w.setCells g (i * Lay.n α) y) := (agree_setCells hg hh).mono fun z hz => hz ▸ hE
    have hcap : i * Lay.n α + Lay.n α ≤ xs.length * Lay.n α := by
      have : (i + 1) * Lay.n α ≤ xs.length * Lay.n α := Nat.mul_le_mul_right _ hi
      rw [Nat.succ_mul] at this; exact this
    have hfl : ys.flatten.length = xs.length * Lay.n α := by rw [← h2]
    have hcs : xs.length * Lay.n α ≤ cur.size := by rw [hsz]; exact Nat.mul_le_mul_right _ hn'
    have hset : (putMany cur (i * Lay.n α) y).toList.take (xs.length * Lay.n α) = (ys.set i y).flatten := by
      refine List.ext_getElem? fun k => ?_
      rw [flatten_set ys i y hall hl (by omega) k, List.getElem?_take]
      by_cases hk : k < xs.length * Lay.n α
      · rw [if_pos hk, Array.getElem?_toList, putMany_get y cur _ k (by omega), hl]
        by_cases h5 : i * Lay.n α ≤ k ∧ k < i * Lay.n α + Lay.n α
        · rw [if_pos h5, if_pos h5]
        · rw [if_neg h5, if_neg h5, ← ht, List.getElem?_take, if_pos hk, Array.getElem?_toList]
      · rw [if_neg hk, if_neg (by omega), List.getElem?_eq_none (by omega)]
    refine ⟨ys.set i y, by simp [k1], ⟨?_, .inr ⟨g, c, putMany cur (i * Lay.n α) y, by rw [List.length_set], hg, setCells_obj g y _ w cur hh, by rw [List.length_set]; exact hn', hc, by rw [putMany_size]; exact hsz, by rw [List.length_set]; exact hset⟩⟩, ?_⟩
    · have hz : (putMany cur (i * Lay.n α) y).toList.length = cur.size := by rw [Array.length_toList, putMany_size]
      rw [List.length_set, ← hset, List.length_take, hz]; omega
    · intro q z v hz hv
      by_cases hq : q = i
      · subst hq
        rw [List.getElem?_set_self (by omega)] at hz
        rw [List.getElem?_set_self hi] at hv
        cases hz; cases hv
        exact ⟨hl, fun w' hw => hs w' (hAg.trans hw)⟩
      · rw [List.getElem?_set_ne (by omega)] at hz hv
        exact ⟨(h3 q z v hz hv).1, fun w' hw => (h3 q z v hz hv).2 w' (hAg.trans hw)⟩
theorem OwnL.cut {n c : Nat} (h : OwnL B E e w (.slice (some ⟨g, 0, none⟩) n c) xs) (hE : E e) {m : Nat} (hm : m ≤ xs.length) (y : List Value) (hy : m * Lay.n α + y.length ≤ xs.length * Lay.n α) :
    OwnL B E e (w.setCells g (m * Lay.n α) y) (.slice (some ⟨g, 0, none⟩) m c) (xs.take m) := by
  obtain ⟨ys, k1, ⟨h2, h2'⟩, h3⟩ := h
  rcases h2' with ⟨he, h0⟩ | ⟨g', cap', cur, he, hg, hh, hn', hc, hsz, ht⟩
  · cases he
  · cases he
    have hall := OwnL.all (P := fun z => z.length = Lay.n α) k1 (fun i y x hy hx => (h3 i y x hy hx).1)
    have hAg : Agree B E w (w.setCells g (m * Lay.n α) y) := (agree_setCells hg hh).mono fun z hz => hz ▸ hE
    have hfl : ys.flatten.length = xs.length * Lay.n α := by rw [← h2]
    have hcs : xs.length * Lay.n α ≤ cur.size := by rw [hsz]; exact Nat.mul_le_mul_right _ hn'
    have hmx : m * Lay.n α ≤ xs.length * Lay.n α := Nat.mul_le_mul_right _ hm
    have htl : (xs.take m).length = m := by rw [List.length_take]; omega
    have hft : (ys.take m).flatten = ys.flatten.take (m * Lay.n α) := by
      have key : ∀ (ys : List (List Value)) (m : Nat), (∀ z ∈ ys, z.length = Lay.n α) → (ys.take m).flatten = ys.flatten.take (m * Lay.n α) := by
        intro ys
        induction ys with
        | nil => intro m _; simp
        | cons z r ih =>
          intro m hz
          cases m with
          | zero => simp
          | succ m =>
            have hzz := hz z (by simp)
            rw [List.take_succ_cons, List.flatten_cons, List.flatten_cons, ih m fun u hu => hz u (by simp [hu]), Nat.succ_mul, List.take_append, hzz]
            rw [List.take_of_length_le (l := z) (by omega)]
            congr 2; omega
      exact key ys m hall
    refine ⟨ys.take m, by simp [k1], ⟨?_, .inr ⟨g, c, putMany cur (m * Lay.n α) y, by rw [htl], hg, setCells_obj g y _ w cur hh, by rw [htl]; omega, hc, by rw [putMany_size]; exact hsz, ?_⟩⟩, ?_⟩
    · rw [hft, List.length_take, htl, hfl]; omega
    · rw [htl, hft, ← ht, List.take_take, Nat.min_eq_left hmx]
      refine List.ext_getElem? fun k => ?_
      rw [List.getElem?_take, List.getElem?_take]
      by_cases hk : k < m * Lay.n α
      · rw [if_pos hk, if_pos hk, Array.getElem?_toList, Array.getElem?_toList, putMany_get y cur _ k (by omega), if_neg (by omega)]
      · rw [if_neg hk, if_neg hk]
    · intro q z v hz hv
      rw [List.getElem?_take] at hz hv
      split at hz
      · rename_i hq
        rw [if_pos hq] at hv
        exact ⟨(h3 q z v hz hv).1, fun w' hw => (h3 q z v hz hv).2 w' (hAg.trans hw)⟩
      · cases hz
end
end Go.Proofs.YtaneolfnnkppbaaGreatDoor
namespace Go.Proofs.YtaneolfnnkppbaaGreatDoor
open Go Go.RowKit Go.ChangeShapes
theorem ownsRow_weaken {w : World} {B B' sz n : Nat} {e : TypeId} {v : Value} {xs : List Value} (h : w.ownsRow B e sz v n xs) (hB : B' ≤ B) : w.ownsRow B' e sz v n xs := by
  refine ⟨h.1, h.2.imp id ?_⟩
  rintro ⟨g, cap, cur, a, b, c⟩
  exact ⟨g, cap, cur, a, Nat.le_trans hB b, c⟩
theorem app_clause2 {ops : Array Oper} {rest : List Oper} {o : Oper} {a : Act} {Q : Exit → Act → World → Prop} {w : World} (hgd : o.guard = none) (s x : Operand)
    (ho : o.op = .call { callee := .builtin .append, args := #[s, x], argTypes := #[25, 25] })
    (B B0 : Nat) (hB0 : B0 ≤ B) (v : Value) (xs : List Clause) (hs : a.eval s = v) (hown : OwnL B (· = 65) 65 w v xs) (hown0 : OwnL B0 (· = 65) 65 w v xs)
    (news : Array Value) (y : Clause) (hx : a.eval x = .slice (some ⟨w.heap.size, 0, none⟩) 1 1) (hn : news.size = Lay.n Clause) (h1 : ∀ u ∈ news.toList, u.oneCell' = true)
    (hy : ∀ w'', Agree B0 (· = 65) (w.alloc (.cells news 65)) w'' → Lay.is w'' (fun j => news.toList[j]?) y)
    (hb : xs.length ≤ 1000000000) (hB : B ≤ w.heap.size)
    (h : ∀ v' w', OwnL B (· = 65) 65 w' v' (xs ++ [y]) → OwnL B0 (· = 65) 65 w' v' (xs ++ [y]) → Below B w w' → w.heap.size < w'.heap.size → wpList Tryz.prog ops Q rest (a.put o.dst v') w') :
    wpList Tryz.prog ops Q (o :: rest) a (w.alloc (.cells news 65)) := by
  obtain ⟨cs, hrow⟩ := hown.row
  have hal : Below w.heap.size w (w.alloc (.cells news 65)) := (Below.refl _ _).alloc (Nat.le_refl _) _
  refine wp_app clRow rfl (by decide) Tryz.underlying25 hgd s x ho B v xs.length cs hs hrow news hx hn h1 (by omega) hB fun v' w' h2 h3 _ => ?_
  refine h v' w' (OwnL.snoc (E := fun x => x = 65) rfl hown hal (by rw [Array.length_toList]; exact hn) (fun w'' hA => hy w'' (hA.lower hB0)) h3 fun cs2 h4 => ?_) (OwnL.snoc (E := fun x => x = 65) rfl hown0 hal (by rw [Array.length_toList]; exact hn) hy h3 fun cs2 h4 => ?_) ?_ ?_
  · rw [OwnL.row_unique hrow h4] at h2
    exact h2
  · rw [OwnL.row_unique (ownsRow_weaken hrow hB0) h4] at h2
    exact ownsRow_weaken h2 hB0
  · exact ((Below.refl _ _).alloc (by omega) _).app h3 (by simp; omega) hrow
  · have := h3.size; simp at this; omega
def CO (B0 : Nat) (xs : List Clause) (w : World) (e : Ending) (w' : World) : Prop := ∃ s, e = .returned s ∧ OwnL B0 (· = 65) 65 w' s xs ∧ Below w.heap.size w w'
set_option maxRecDepth 100000 in
set_option maxHeartbeats 1000000 in
theorem Clauses_o (B0 : Nat) (w : World) (x0 : Value) (c : Catalog) (t : Term) (way rel : Int) (hg : Glob w) (h : Is w x0 c) (hB0 : B0 ≤ w.heap.size) :
    Calls Tryz.prog 30 #[x0, .agg #[.string t.license, .string t.exception], .int .i64 way, .int .i64 rel] w fun e w' => CO B0 (clausesC c t way rel) w e w' := by
  have HI := Lib.hid h
  obtain ⟨a0, c0, a1, c1, a2, c2, a3, c3, rfl, l0, m0, r0, l1, m1, r1, l2, m2, r2, l3, m3, r3⟩ := Catalog.inv h
  have R2 := Lib.hid r2
  have n2 : c.clauses.length ≤ 9223372036854775807 := by simp only [maxLen] at m2; omega
  clear h r0 r1 r2 r3 m0 m1 m2 m3 l1 l2 l3 l0
  go_enter Tryz.func30, Tryz.ntmps30
  go_wp2_with fail
  refine (lifts_p _ _ c t (hg.mono (by first | ((repeat (first | exact Below.refl _ _ | assumption | refine Below.drewN ?_ _ | refine Below.drew ?_ | refine Below.alloc ?_ (by first | exact Nat.le_refl _ | (simp; done) | (simp; omega) | omega) _ | refine Below.setCell ?_ (by first | exact Nat.le_refl _ | (simp; done) | (simp; omega) | omega) _ | refine Below.trans ?_ (Below.mono (by assumption) (by first | exact Nat.le_refl _ | (simp; done) | (simp; omega) | omega)))); done) | fail)) (HI.out.mono (by first | ((repeat (first | exact Below.refl _ _ | assumption | refine Below.drewN ?_ _ | refine Below.drew ?_ | refine Below.alloc ?_ (by first | exact Nat.le_refl _ | (simp; done) | (simp; omega) | omega) _ | refine Below.setCell ?_ (by first | exact Nat.le_refl _ | (simp; done) | (simp; omega) | omega) _ | refine Below.trans ?_ (Below.mono (by assumption) (by first | exact Nat.le_refl _ | (simp; done) | (simp; omega) | omega)))); done) | fail))).mono ?_
  rintro e w1 ⟨s, rfl, hs, hb1⟩
  have d2 := kept hb1 (a := ⟨w.heap.size, 2, none⟩) (v := .slice a2 c.clauses.length c2) (by simp)
  have e0 := kept hb1 (a := ⟨w.heap.size + 1, 0, none⟩) (v := .string t.license) (by simp)
  have hbw : Below w.heap.size w w1 := (by first | ((repeat (first | exact Below.refl _ _ | assumption | refine Below.drewN ?_ _ | refine Below.drew ?_ | refine Below.alloc ?_ (by first | exact Nat.le_refl _ | (simp; done) | (simp; omega) | omega) _ | refine Below.setCell ?_ (by first | exact Nat.le_refl _ | (simp; done) | (simp; omega) | omega) _ | refine Below.trans ?_ (Below.mono (by assumption) (by first | exact Nat.le_refl _ | (simp; done) | (simp; omega) | omega)))); done) | fail)
  have HB1 := Lib.hid hbw
  have hz1 : w.heap.size < w1.heap.size := cell_lt d2
  have hz2 : w.heap.size + 1 < w1.heap.size := cell_lt e0
  have HL := Lib.hid hs
  clear hb1 hbw hs
  cases q1 : liftsC c t with
  | none =>
    have HF : Hid (clausesC c t way rel = []) := by show _ = _; unfold clausesC; rw [q1]
    go_wp2
    go_ret
    unfold CO
    exact ⟨_, rfl, by rw [HF.out]; exact OwnL.nil _ _ _ _, by have hq := HB1.out; have hqs := hq.size; exact (by first | ((repeat (first | exact Below.refl _ _ | assumption | refine Below.drewN ?_ _ | refine Below.drew ?_ | refine Below.alloc ?_ (by first | exact Nat.le_refl _ | (simp; done) | (simp; omega) | omega) _ | refine Below.setCell ?_ (by first | exact Nat.le_refl _ | (simp; done) | (simp; omega) | omega) _ | refine Below.trans ?_ (Below.mono (by assumption) (by first | exact Nat.le_refl _ | (simp; done) | (simp; omega) | omega)))); done) | fail)⟩
  | some l =>
  rw [q1] at HL
  simp only [Option.getD_some, Option.isSome_some] at HL ⊢
  have HF : Hid (clausesC c t way rel = c.clauses.filter (clauseIs t way rel l)) := by show _ = _; unfold clausesC; rw [q1]
  have hB01 : B0 ≤ w1.heap.size := Nat.le_trans hB0 HB1.out.size
  have hlen := clauses_128 (lifts_check q1)
  have HLN := Lib.hid (lists_32 (lifts_check q1))
  clear q1
  go_wp2
  go_loopw [11, 25] (fun vo kv wr => ∃ k : Nat, k ≤ c.clauses.length ∧ kv = .int .i64 k ∧ Below w1.heap.size w1 wr ∧ Hid (OwnL w1.heap.size (· = 65) 65 wr vo ((c.clauses.take k).filter (clauseIs t way rel l))) ∧ Hid (OwnL B0 (· = 65) 65 wr vo ((c.clauses.take k).filter (clauseIs t way rel l)))) (fun _ kv _ => c.clauses.length - (intOf kv).toNat)
  case atStart => exact ⟨0, by omega, rfl, Below.refl _ _, OwnL.nil _ _ _ _, OwnL.nil _ _ _ _⟩
  case round =>
    obtain ⟨k, hk, rfl, hbr0, HO, HO0⟩ := hrel
    have hbr := Lib.hid hbr0
    have hwr : w1.heap.size ≤ wr.heap.size := hbr0.size
    clear hbr0
    by_cases hki : k < c.clauses.length
    · have g2 := kept hbr.out d2
      have g3 := kept hbr.out e0
      have hs1 : w.heap.size < wr.heap.size := cell_lt g2
      have hs2 : w.heap.size + 1 < wr.heap.size := cell_lt g3
      obtain ⟨x, hx⟩ := get_lt hki
      have HT : Hid ((c.clauses.take (k + 1)).filter (clauseIs t way rel l) = (c.clauses.take k).filter (clauseIs t way rel l) ++ (if clauseIs t way rel l x then [x] else [])) := by
        show _ = _
        rw [take_at hx, List.filter_append]; simp [List.filter_cons]
      have hx32 := HLN.out x (List.mem_of_getElem? hx)
      obtain ⟨b, off, rfl, hb, ya, yc, y0', y1', y2', y3', y4', ys0, ys1, ys2, ys3, hyl, hyc, hyr⟩ := Clause.at_row (R2.out.mono HB1.out) hx
      have y0 := kept hbr.out y0'
      have y1 := kept hbr.out y1'
      have y2 := kept hbr.out y2'
      have y3 := kept hbr.out y3'
      have y4 := kept hbr.out y4'
      have HY := Lib.hid (list_mk hyl hyc hyr)
      have HSZ := Lib.hid (row_size hyr)
      have HS := Lib.hid (And.intro ys0 (And.intro ys1 (And.intro ys2 ys3)))
      have hs3 : b < wr.heap.size := cell_lt y0
      clear hx hyr y0' y1' y2' y3' y4' hyl hyc ys0 ys1 ys2 ys3
      cases q1 : (x.license.toList == t.license.toList)
      case true =>
        cases q2 : (x.way == way)
        case true =>
          cases q3 : (x.relation == rel)
          case true =>
            have hal : Below wr.heap.size wr (wr.alloc (.cells #[.string x.license, .int .i64 x.way, .int .i64 x.relation, .int .i64 x.duty, .slice ya x.list.length yc] 65)) := (by first | ((repeat (first | exact Below.refl _ _ | assumption | refine Below.drewN ?_ _ | refine Below.drew ?_ | refine Below.alloc ?_ (by first | exact Nat.le_refl _ | (simp; done) | (simp; omega) | omega) _ | refine Below.setCell ?_ (by first | exact Nat.le_refl _ | (simp; done) | (simp; omega) | omega) _ | refine Below.trans ?_ (Below.mono (by assumption) (by first | exact Nat.le_refl _ | (simp; done) | (simp; omega) | omega)))); done) | fail)
            go_wp2_with fail
            refine (ContainsInt_p _ _ l x.duty (HL.out.mono (by have hq := hbr.out; exact (by first | ((repeat (first | exact Below.refl _ _ | assumption | refine Below.drewN ?_ _ | refine Below.drew ?_ | refine Below.alloc ?_ (by first | exact Nat.le_refl _ | (simp; done) | (simp; omega) | omega) _ | refine Below.setCell ?_ (by first | exact Nat.le_refl _ | (simp; done) | (simp; omega) | omega) _ | refine Below.trans ?_ (Below.mono (by assumption) (by first | exact Nat.le_refl _ | (simp; done) | (simp; omega) | omega)))); done) | fail)))).mono ?_
            rintro e w2 ⟨rfl, rfl⟩
            cases q4 : l.contains x.duty
            case true =>
              have HP : Hid (clauseIs t way rel l x = false) := by show _ = _; unfold clauseIs seq; rw [q1, q2, q3, q4]; rfl
              go_wp2
              go_roundw
              case rel =>
                refine ⟨k + 1, by omega, by go_num, by have hq := hbr.out; exact (by first | ((repeat (first | exact Below.refl _ _ | assumption | refine Below.drewN ?_ _ | refine Below.drew ?_ | refine Below.alloc ?_ (by first | exact Nat.le_refl _ | (simp; done) | (simp; omega) | omega) _ | refine Below.setCell ?_ (by first | exact Nat.le_refl _ | (simp; done) | (simp; omega) | omega) _ | refine Below.trans ?_ (Below.mono (by assumption) (by first | exact Nat.le_refl _ | (simp; done) | (simp; omega) | omega)))); done) | fail), ?_, ?_⟩
                · show OwnL _ _ _ _ _ _
                  rw [HT.out, HP.out]
                  simpa using HO.out.below (by first | ((repeat (first | exact Below.refl _ _ | assumption | refine Below.drewN ?_ _ | refine Below.drew ?_ | refine Below.alloc ?_ (by first | exact Nat.le_refl _ | (simp; done) | (simp; omega) | omega) _ | refine Below.setCell ?_ (by first | exact Nat.le_refl _ | (simp; done) | (simp; omega) | omega) _ | refine Below.trans ?_ (Below.mono (by assumption) (by first | exact Nat.le_refl _ | (simp; done) | (simp; omega) | omega)))); done) | fail)
                · show OwnL _ _ _ _ _ _
                  rw [HT.out, HP.out]
                  simpa using HO0.out.below (by first | ((repeat (first | exact Below.refl _ _ | assumption | refine Below.drewN ?_ _ | refine Below.drew ?_ | refine Below.alloc ?_ (by first | exact Nat.le_refl _ | (simp; done) | (simp; omega) | omega) _ | refine Below.setCell ?_ (by first | exact Nat.le_refl _ | (simp; done) | (simp; omega) | omega) _ | refine Below.trans ?_ (Below.mono (by assumption) (by first | exact Nat.le_refl _ | (simp; done) | (simp; omega) | omega)))); done) | fail)
              case measure => simp [intOf]; omega
            case false =>
              have HP : Hid (clauseIs t way rel l x = true) := by show _ = _; unfold clauseIs seq; rw [q1, q2, q3, q4]; rfl
              go_wp2_with fail
              refine (Clone_p _ _ x.list (HY.out.mono (by have hq := hbr.out; exact (by first | ((repeat (first | exact Below.refl _ _ | assumption | refine Below.drewN ?_ _ | refine Below.drew ?_ | refine Below.alloc ?_ (by first | exact Nat.le_refl _ | (simp; done) | (simp; omega) | omega) _ | refine Below.setCell ?_ (by first | exact Nat.le_refl _ | (simp; done) | (simp; omega) | omega) _ | refine Below.trans ?_ (Below.mono (by assumption) (by first | exact Nat.le_refl _ | (simp; done) | (simp; omega) | omega)))); done) | fail))) (by omega)).mono ?_
              rintro e w2 ⟨za, zc, rfl, hos, hb2⟩
              have z0 := kept hb2 (a := ⟨wr.heap.size, 0, none⟩) (v := .string x.license) (by simp)
              have z1 := kept hb2 (a := ⟨wr.heap.size, 1, none⟩) (v := .int .i64 x.way) (by simp)
              have z2 := kept hb2 (a := ⟨wr.heap.size, 2, none⟩) (v := .int .i64 x.relation) (by simp)
              have z3 := kept hb2 (a := ⟨wr.heap.size, 3, none⟩) (v := .int .i64 x.duty) (by simp)
              have z4 := kept hb2 (a := ⟨wr.heap.size, 4, none⟩) (v := .slice ya x.list.length yc) (by simp)
              have f4 := keptF hb2 (a := ⟨wr.heap.size, 4, none⟩) (v := .slice ya x.list.length yc) (by simp) (by simp)
              have hlt : wr.heap.size < w2.heap.size := cell_lt z0
              have hb3 : Below wr.heap.size wr w2 := (by first | ((repeat (first | exact Below.refl _ _ | assumption | refine Below.drewN ?_ _ | refine Below.drew ?_ | refine Below.alloc ?_ (by first | exact Nat.le_refl _ | (simp; done) | (simp; omega) | omega) _ | refine Below.setCell ?_ (by first | exact Nat.le_refl _ | (simp; done) | (simp; omega) | omega) _ | refine Below.trans ?_ (Below.mono (by assumption) (by first | exact Nat.le_refl _ | (simp; done) | (simp; omega) | omega)))); done) | fail)
              have HB3 := Lib.hid hb3
              have HOS := Lib.hid hos
              clear hb2 hos hb3 hal
              go_wp2_with (at_builtin; go_loud (refine app_clause2 rfl _ _ rfl w1.heap.size B0 hB01 _ _ rfl (HO.out.below ?c0) (HO0.out.below ?c00) _ ⟨x.license, x.way, x.relation, x.duty, x.list⟩ ?cx rfl ?c1 ?c2 ?c3 ?c4 ?_))
              case c0 => have hq := HB3.out; exact (by first | ((repeat (first | exact Below.refl _ _ | assumption | refine Below.drewN ?_ _ | refine Below.drew ?_ | refine Below.alloc ?_ (by first | exact Nat.le_refl _ | (simp; done) | (simp; omega) | omega) _ | refine Below.setCell ?_ (by first | exact Nat.le_refl _ | (simp; done) | (simp; omega) | omega) _ | refine Below.trans ?_ (Below.mono (by assumption) (by first | exact Nat.le_refl _ | (simp; done) | (simp; omega) | omega)))); done) | fail)
              case c00 => have hq := HB3.out; exact (by first | ((repeat (first | exact Below.refl _ _ | assumption | refine Below.drewN ?_ _ | refine Below.drew ?_ | refine Below.alloc ?_ (by first | exact Nat.le_refl _ | (simp; done) | (simp; omega) | omega) _ | refine Below.setCell ?_ (by first | exact Nat.le_refl _ | (simp; done) | (simp; omega) | omega) _ | refine Below.trans ?_ (Below.mono (by assumption) (by first | exact Nat.le_refl _ | (simp; done) | (simp; omega) | omega)))); done) | fail)
              case cx => show Value.slice (some ⟨w2.heap.size, 0, none⟩) 1 1 = _; simp
              case c1 => exact ⟨rfl, rfl, rfl, rfl, rfl⟩
              case c2 =>
                intro w'' hA
                obtain ⟨s0, s1, s2, s3⟩ := HS.out
                have ho : OwnV Value.string (wr.heap.size + 1) 9 w'' (.slice za x.list.length zc) x.list :=
                  (((HOS.out.weaken (B' := wr.heap.size + 1) (by simp)).setCell (a := ⟨wr.heap.size, 4, none⟩) (u := .slice za x.list.length zc) (by show wr.heap.size < _; omega)).below (by first | ((repeat (first | exact Below.refl _ _ | assumption | refine Below.drewN ?_ _ | refine Below.drew ?_ | refine Below.alloc ?_ (by first | exact Nat.le_refl _ | (simp; done) | (simp; omega) | omega) _ | refine Below.setCell ?_ (by first | exact Nat.le_refl _ | (simp; done) | (simp; omega) | omega) _ | refine Below.trans ?_ (Below.mono (by assumption) (by first | exact Nat.le_refl _ | (simp; done) | (simp; omega) | omega)))); done) | fail)).agree hA (by decide)
                have hi := ho.strs HSZ.out
                obtain ⟨a', c', he, h1, h2, h3⟩ := list_inv hi
                cases he
                exact Clause.is_iff.2 ⟨za, zc, rfl, rfl, rfl, rfl, rfl, s0, s1, s2, s3, h1, h2, h3⟩
              case c3 => exact Nat.le_trans (List.length_filter_le _ _) (by rw [List.length_take]; omega)
              case c4 => simp; omega
              intro v' w3 ho ho0 hb4 hsz
              have hsz' : w2.heap.size < w3.heap.size := by simpa using hsz
              have HO3 := Lib.hid ho
              have HO30 := Lib.hid ho0
              have hb5 : Below w1.heap.size w1 w3 := by
                have hq := hbr.out
                have hq3 := HB3.out
                have h6 : Below w1.heap.size w1 (w2.setCell ⟨wr.heap.size, 4, none⟩ (.slice za x.list.length zc)) := (by first | ((repeat (first | exact Below.refl _ _ | assumption | refine Below.drewN ?_ _ | refine Below.drew ?_ | refine Below.alloc ?_ (by first | exact Nat.le_refl _ | (simp; done) | (simp; omega) | omega) _ | refine Below.setCell ?_ (by first | exact Nat.le_refl _ | (simp; done) | (simp; omega) | omega) _ | refine Below.trans ?_ (Below.mono (by assumption) (by first | exact Nat.le_refl _ | (simp; done) | (simp; omega) | omega)))); done) | fail)
                exact h6.trans hb4
              have HB5 := Lib.hid hb5
              clear ho ho0 hb4 hsz hb5
              go_wp2
              go_roundw
              case rel =>
                refine ⟨k + 1, by omega, by go_num, HB5.out, ?_, ?_⟩
                · show OwnL _ _ _ _ _ _
                  rw [HT.out, HP.out]
                  exact HO3.out
                · show OwnL _ _ _ _ _ _
                  rw [HT.out, HP.out]
                  exact HO30.out
              case measure => simp [intOf]; omega
          have HP : Hid (clauseIs t way rel l x = false) := by show _ = _; unfold clauseIs seq; rw [q1, q2, q3]; rfl
          go_wp2
          go_roundw
          case rel =>
            refine ⟨k + 1, by omega, by go_num, by have hq := hbr.out; exact (by first | ((repeat (first | exact Below.refl _ _ | assumption | refine Below.drewN ?_ _ | refine Below.drew ?_ | refine Below.alloc ?_ (by first | exact Nat.le_refl _ | (simp; done) | (simp; omega) | omega) _ | refine Below.setCell ?_ (by first | exact Nat.le_refl _ | (simp; done) | (simp; omega) | omega) _ | refine Below.trans ?_ (Below.mono (by assumption) (by first | exact Nat.le_refl _ | (simp; done) | (simp; omega) | omega)))); done) | fail), ?_, ?_⟩
            · show OwnL _ _ _ _ _ _
              rw [HT.out, HP.out]
              simpa using HO.out.below (by first | ((repeat (first | exact Below.refl _ _ | assumption | refine Below.drewN ?_ _ | refine Below.drew ?_ | refine Below.alloc ?_ (by first | exact Nat.le_refl _ | (simp; done) | (simp; omega) | omega) _ | refine Below.setCell ?_ (by first | exact Nat.le_refl _ | (simp; done) | (simp; omega) | omega) _ | refine Below.trans ?_ (Below.mono (by assumption) (by first | exact Nat.le_refl _ | (simp; done) | (simp; omega) | omega)))); done) | fail)
            · show OwnL _ _ _ _ _ _
              rw [HT.out, HP.out]
              simpa using HO0.out.below (by first | ((repeat (first | exact Below.refl _ _ | assumption | refine Below.drewN ?_ _ | refine Below.drew ?_ | refine Below.alloc ?_ (by first | exact Nat.le_refl _ | (simp; done) | (simp; omega) | omega) _ | refine Below.setCell ?_ (by first | exact Nat.le_refl _ | (simp; done) | (simp; omega) | omega) _ | refine Below.trans ?_ (Below.mono (by assumption) (by first | exact Nat.le_refl _ | (simp; done) | (simp; omega) | omega)))); done) | fail)
          case measure => simp [intOf]; omega
        have HP : Hid (clauseIs t way rel l x = false) := by show _ = _; unfold clauseIs seq; rw [q1, q2]; rfl
        go_wp2
        go_roundw
        case rel =>
          refine ⟨k + 1, by omega, by go_num, by have hq := hbr.out; exact (by first | ((repeat (first | exact Below.refl _ _ | assumption | refine Below.drewN ?_ _ | refine Below.drew ?_ | refine Below.alloc ?_ (by first | exact Nat.le_refl _ | (simp; done) | (simp; omega) | omega) _ | refine Below.setCell ?_ (by first | exact Nat.le_refl _ | (simp; done) | (simp; omega) | omega) _ | refine Below.trans ?_ (Below.mono (by assumption) (by first | exact Nat.le_refl _ | (simp; done) | (simp; omega) | omega)))); done) | fail), ?_, ?_⟩
          · show OwnL _ _ _ _ _ _
            rw [HT.out, HP.out]
            simpa using HO.out.below (by first | ((repeat (first | exact Below.refl _ _ | assumption | refine Below.drewN ?_ _ | refine Below.drew ?_ | refine Below.alloc ?_ (by first | exact Nat.le_refl _ | (simp; done) | (simp; omega) | omega) _ | refine Below.setCell ?_ (by first | exact Nat.le_refl _ | (simp; done) | (simp; omega) | omega) _ | refine Below.trans ?_ (Below.mono (by assumption) (by first | exact Nat.le_refl _ | (simp; done) | (simp; omega) | omega)))); done) | fail)
          · show OwnL _ _ _ _ _ _
            rw [HT.out, HP.out]
            simpa using HO0.out.below (by first | ((repeat (first | exact Below.refl _ _ | assumption | refine Below.drewN ?_ _ | refine Below.drew ?_ | refine Below.alloc ?_ (by first | exact Nat.le_refl _ | (simp; done) | (simp; omega) | omega) _ | refine Below.setCell ?_ (by first | exact Nat.le_refl _ | (simp; done) | (simp; omega) | omega) _ | refine Below.trans ?_ (Below.mono (by assumption) (by first | exact Nat.le_refl _ | (simp; done) | (simp; omega) | omega)))); done) | fail)
        case measure => simp [intOf]; omega
      have HP : Hid (clauseIs t way rel l x = false) := by show _ = _; unfold clauseIs seq; rw [q1]; rfl
      go_wp2
      go_roundw
      case rel =>
        refine ⟨k + 1, by omega, by go_num, by have hq := hbr.out; exact (by first | ((repeat (first | exact Below.refl _ _ | assumption | refine Below.drewN ?_ _ | refine Below.drew ?_ | refine Below.alloc ?_ (by first | exact Nat.le_refl _ | (simp; done) | (simp; omega) | omega) _ | refine Below.setCell ?_ (by first | exact Nat.le_refl _ | (simp; done) | (simp; omega) | omega) _ | refine Below.trans ?_ (Below.mono (by assumption) (by first | exact Nat.le_refl _ | (simp; done) | (simp; omega) | omega)))); done) | fail), ?_, ?_⟩
        · show OwnL _ _ _ _ _ _
          rw [HT.out, HP.out]
          simpa using HO.out.below (by first | ((repeat (first | exact Below.refl _ _ | assumption | refine Below.drewN ?_ _ | refine Below.drew ?_ | refine Below.alloc ?_ (by first | exact Nat.le_refl _ | (simp; done) | (simp; omega) | omega) _ | refine Below.setCell ?_ (by first | exact Nat.le_refl _ | (simp; done) | (simp; omega) | omega) _ | refine Below.trans ?_ (Below.mono (by assumption) (by first | exact Nat.le_refl _ | (simp; done) | (simp; omega) | omega)))); done) | fail)
        · show OwnL _ _ _ _ _ _
          rw [HT.out, HP.out]
          simpa using HO0.out.below (by first | ((repeat (first | exact Below.refl _ _ | assumption | refine Below.drewN ?_ _ | refine Below.drew ?_ | refine Below.alloc ?_ (by first | exact Nat.le_refl _ | (simp; done) | (simp; omega) | omega) _ | refine Below.setCell ?_ (by first | exact Nat.le_refl _ | (simp; done) | (simp; omega) | omega) _ | refine Below.trans ?_ (Below.mono (by assumption) (by first | exact Nat.le_refl _ | (simp; done) | (simp; omega) | omega)))); done) | fail)
      case measure => simp [intOf]; omega
    · have HQ : Hid ((c.clauses.take k).filter (clauseIs t way rel l) = clausesC c t way rel) := by
        show _ = _
        rw [HF.out, List.take_of_length_le (by omega)]
      go_wp2
      go_ret
      unfold CO
      exact ⟨_, rfl, by have := HO0.out; rw [HQ.out] at this; exact this, by have hq := HB1.out; have hqs := hq.size; have hr := hbr.out; have hrs := hr.size; exact (by first | ((repeat (first | exact Below.refl _ _ | assumption | refine Below.drewN ?_ _ | refine Below.drew ?_ | refine Below.alloc ?_ (by first | exact Nat.le_refl _ | (simp; done) | (simp; omega) | omega) _ | refine Below.setCell ?_ (by first | exact Nat.le_refl _ | (simp; done) | (simp; omega) | omega) _ | refine Below.trans ?_ (Below.mono (by assumption) (by first | exact Nat.le_refl _ | (simp; done) | (simp; omega) | omega)))); done) | fail)⟩
end Go.Proofs.YtaneolfnnkppbaaGreatDoor
namespace Go.Proofs.YtaneolfnnkppbaaGreatDoor
open Go Go.RowKit Go.ChangeShapes
set_option maxRecDepth 100000 in
theorem Lift1_p (w : World) (x : Clause) (ya : Option Addr) (yc : Nat) (gy : Nat) (la : Option Addr) (lc : Nat) (l : List Int) (hc : w.cell? ⟨gy, 2, none⟩ = some (.slice la l.length lc)) (hl : Is w (.slice la l.length lc) l) :
    Calls Tryz.prog 34 #[.agg #[.string x.license, .int .i64 x.way, .int .i64 x.relation, .int .i64 x.duty, .slice ya x.list.length yc], .pointer (some ⟨gy, 0, none⟩)] w fun e w' => e = .returned (.bool (l.contains x.duty)) ∧ Below w.heap.size w w' := by
  have hlt : gy < w.heap.size := cell_lt hc
  have HL := Lib.hid hl
  clear hl
  have hcj := fun w h => ContainsInt_p w (.slice la l.length lc) l x.duty h
  generalize l.contains x.duty = bb at hcj ⊢
  go_enter Tryz.func34, Tryz.ntmps34
  go_wp2_with fail
  have hci := hcj (w.alloc (.cells #[.string x.license, .int .i64 x.way, .int .i64 x.relation, .int .i64 x.duty, .slice ya x.list.length yc] 65)) (HL.out.mono (by exact (by first | ((repeat (first | exact Below.refl _ _ | assumption | refine Below.drewN ?_ _ | refine Below.drew ?_ | refine Below.alloc ?_ (by first | exact Nat.le_refl _ | (simp; done) | (simp; omega) | omega) _ | refine Below.setCell ?_ (by first | exact Nat.le_refl _ | (simp; done) | (simp; omega) | omega) _ | refine Below.trans ?_ (Below.mono (by assumption) (by first | exact Nat.le_refl _ | (simp; done) | (simp; omega) | omega)))); done) | fail)))
  refine hci.mono ?_
  rintro e w2 ⟨rfl, rfl⟩
  go_wp2
  go_ret
  exact ⟨rfl, (by first | ((repeat (first | exact Below.refl _ _ | assumption | refine Below.drewN ?_ _ | refine Below.drew ?_ | refine Below.alloc ?_ (by first | exact Nat.le_refl _ | (simp; done) | (simp; omega) | omega) _ | refine Below.setCell ?_ (by first | exact Nat.le_refl _ | (simp; done) | (simp; omega) | omega) _ | refine Below.trans ?_ (Below.mono (by assumption) (by first | exact Nat.le_refl _ | (simp; done) | (simp; omega) | omega)))); done) | fail)⟩
def liftB (l : List Int) (x : Clause) : Bool := l.contains x.duty
theorem filter_snoc {α : Type} (p : α → Bool) {xs : List α} {k : Nat} {x : α} (hx : xs[k]? = some x) : (xs.take (k + 1)).filter p = (xs.take k).filter p ++ (if p x then [x] else []) := by
  rw [take_at hx, List.filter_append]; simp [List.filter_cons]
def Ix1 (p : Clause → Bool) (xs : List Clause) (w : World) (e : Ending) (w' : World) : Prop :=
  ∃ r : Int, e = .returned (.int .i64 r) ∧ Below w.heap.size w w' ∧ ((r = -1 ∧ xs.filter (fun x => !p x) = xs) ∨ ∃ k x, r = ((k : Nat) : Int) ∧ xs[k]? = some x ∧ p x = true ∧ (xs.take k).filter (fun x => !p x) = xs.take k)
set_option maxRecDepth 100000 in
set_option maxHeartbeats 1000000 in
theorem IndexLift_p (w : World) (v : Value) (xs : List Clause) (gy : Nat) (la : Option Addr) (lc : Nat) (l : List Int) (hc : w.cell? ⟨gy, 2, none⟩ = some (.slice la l.length lc)) (hl : Is w (.slice la l.length lc) l) (hv : Is w v xs) :
    Calls Tryz.prog 88 #[v, .func (.func 34) #[] #[.pointer (some ⟨gy, 0, none⟩)]] w fun e w' => Ix1 (liftB l) xs w e w' := by
  obtain ⟨a, c, rfl, hnc, hcm, hr⟩ := list_inv hv
  simp only [maxLen] at hcm
  have hlt : gy < w.heap.size := cell_lt hc
  have HL := Lib.hid hl
  have HC := Lib.hid hc
  have HR := Lib.hid hr
  clear hl hc hr hv
  generalize hN : xs.length = N at *
  have HN := Lib.hid hN
  clear hN
  go_enter Tryz.func88, Tryz.ntmps88
  go_wp2
  go_loopw [4, 5, 8] (fun _ _ kv wr => ∃ k : Nat, k ≤ N ∧ kv = .int .i64 k ∧ Below w.heap.size w wr ∧ Hid ((xs.take k).filter (fun x => !liftB l x) = xs.take k)) (fun _ _ kv _ => N - (intOf kv).toNat)
  case atStart => exact ⟨0, by omega, rfl, Below.refl _ _, rfl⟩
  case round =>
    obtain ⟨k, hk, rfl, hbr, HK⟩ := hrel
    have hwr : w.heap.size ≤ wr.heap.size := hbr.size
    by_cases hki : k < N
    · have hkz : (k : Int) < (N : Int) := by omega
      obtain ⟨x, hx⟩ := get_lt (xs := xs) (k := k) (by rw [HN.out]; exact hki)
      obtain ⟨b, off, rfl, hb, ya, yc, y0', y1', y2', y3', y4', -⟩ := Clause.at_row HR.out hx
      have y0 := kept hbr y0'
      have y1 := kept hbr y1'
      have y2 := kept hbr y2'
      have y3 := kept hbr y3'
      have y4 := kept hbr y4'
      have hbs : b < wr.heap.size := cell_lt y0
      have HF := Lib.hid (filter_snoc (fun x => !liftB l x) hx)
      have HX := Lib.hid hx
      have hcall := Lift1_p wr x ya yc gy la lc l (kept hbr HC.out) (HL.out.mono hbr)
      clear y0' y1' y2' y3' y4' hx
      have HBR := Lib.hid hbr
      clear hbr
      cases q : l.contains x.duty
      case true =>
        rw [q] at hcall
        go_wp2_with fail
        refine hcall.mono ?_
        rintro e w2 ⟨rfl, hb2⟩
        have hb3 : Below w.heap.size w w2 := HBR.out.trans (hb2.mono hwr)
        go_wp2
        go_ret
        exact ⟨_, rfl, hb3, .inr ⟨k, x, rfl, HX.out, q, HK.out⟩⟩
      case false =>
        rw [q] at hcall
        go_wp2_with fail
        refine hcall.mono ?_
        rintro e w2 ⟨rfl, hb2⟩
        have hb3 : Below w.heap.size w w2 := HBR.out.trans (hb2.mono hwr)
        go_wp2
        go_roundw
        case rel =>
          refine ⟨k + 1, by omega, by go_num, hb3, ?_⟩
          show _ = _
          rw [HF.out, HK.out, show liftB l x = false from q, take_at HX.out]; rfl
        case measure => simp [intOf]; omega
    · have hkz : ¬ (k : Int) < (N : Int) := by omega
      obtain rfl : k = N := by omega
      go_wp2
      go_ret
      exact ⟨_, rfl, hbr, .inl ⟨rfl, by have := HK.out; rw [List.take_of_length_le (by rw [HN.out]; exact Nat.le_refl _)] at this; exact this⟩⟩
theorem run_clear_k {P : Program} (w : World) (t e ty : TypeId) (z : Value) (ht : P.underlying t = some (.slice e)) (hv : ∀ w, (zeroValue e).run P w = .ok z w) (ys : List Value) (b o n c : Nat) (hn : 0 < n) (hys : (Builtin.zeroCells z.cells n).toList = ys)
    (h1 : ∀ v ∈ ys, v.oneCell' = true) (hc : ∀ j, j < ys.length → (w.cell? ⟨b, o + j, none⟩).isSome = true) (hf : ∀ j, j < ys.length → w.frozen? ⟨b, o + j, none⟩ = false) :
    (Builtin.clear_ #[t] ty #[.slice (some ⟨b, o, none⟩) n c]).run P w = .ok (.tuple #[]) (w.setCells b o ys) := by
  have hst := run_storeCells_cells (P := P) b o ys 0 w (by simpa using hc) (by simpa using hf) h1
  simp only [Nat.add_zero] at hst
  obtain ⟨m, rfl⟩ : ∃ m, n = m + 1 := ⟨n - 1, by omega⟩
  simp [Builtin.clear_, run_underlying ht, hv, hys, hst]
theorem zeroCells_mem {z : Array Value} (hz : 0 < z.size) (h : ∀ v ∈ z.toList, v.oneCell' = true) {n : Nat} {v : Value} (hv : v ∈ (Builtin.zeroCells z n).toList) : v.oneCell' = true := by
  simp only [Builtin.zeroCells, Array.toList_map, List.mem_map] at hv
  obtain ⟨i, -, rfl⟩ := hv
  have hi : i % z.size < z.size := Nat.mod_lt _ hz
  rw [getElem!_pos z (i % z.size) hi]
  exact h _ (by simp)
theorem zeroCells_len (z : Array Value) (n : Nat) : (Builtin.zeroCells z n).toList.length = n * z.size := by simp [Builtin.zeroCells]
end Go.Proofs.YtaneolfnnkppbaaGreatDoor
namespace Go.Proofs.YtaneolfnnkppbaaGreatDoor
open Go Go.RowKit Go.ChangeShapes
def Del1 (B : Nat) (ys : List Clause) (w : World) (e : Ending) (w' : World) : Prop := ∃ v, e = .returned v ∧ OwnL B (· = 65) 65 w' v ys ∧ Below B w w'
def clV0 : Value := .agg #[.string ⟨#[]⟩, .int .i64 0, .int .i64 0, .int .i64 0, .slice none 0 0]
theorem zeroCl (w : World) : (zeroValue 65).run Tryz.prog w = .ok clV0 w := by kernel_rfl
set_option maxRecDepth 100000 in
set_option maxHeartbeats 1000000 in
theorem DeleteLift_p (w0 w : World) (v : Value) (xs : List Clause) (gy : Nat) (la : Option Addr) (lc : Nat) (l : List Int) (hb0 : Below w0.heap.size w0 w) (hc : w0.cell? ⟨gy, 2, none⟩ = some (.slice la l.length lc)) (hl : Is w0 (.slice la l.length lc) l) (hv : OwnL w0.heap.size (· = 65) 65 w v xs) :
    Calls Tryz.prog 33 #[v, .func (.func 34) #[] #[.pointer (some ⟨gy, 0, none⟩)]] w fun e w' => Del1 w0.heap.size (xs.filter fun x => !liftB l x) w e w' := by
  have hlt : gy < w0.heap.size := cell_lt hc
  have hz0 : w0.heap.size ≤ w.heap.size := hb0.size
  have HIX := IndexLift_p w v xs gy la lc l (kept hb0 hc) (hl.mono hb0) hv.is
  obtain ⟨a, c, rfl, hnc, hcm, -⟩ := list_inv hv.is
  simp only [maxLen] at hcm
  have HL := Lib.hid hl
  have HC := Lib.hid hc
  have HV := Lib.hid hv
  have HB0 := Lib.hid hb0
  clear hl hc hv hb0
  generalize hN : xs.length = N at *
  have HN := Lib.hid hN
  clear hN
  go_enter Tryz.func33, Tryz.ntmps33
  go_wp2_with fail
  refine HIX.mono ?_
  unfold Ix1
  rintro e w1 ⟨r, rfl, hb1, hr⟩
  have HB1 := Lib.hid hb1
  have hz1 : w.heap.size ≤ w1.heap.size := hb1.size
  have HV1 := Lib.hid (HV.out.below hb1)
  clear hb1 HV HIX
  rcases hr with ⟨rfl, hall⟩ | ⟨k0, x0, rfl, hx0, hp0, htk⟩
  · have HA := Lib.hid hall
    clear hall
    go_wp2
    go_ret
    exact ⟨_, rfl, by rw [HA.out]; exact HV1.out, HB1.out.mono hz0⟩
  · have hk0 : k0 < N := by rw [← HN.out]; exact lt_get hx0
    have q0 : ((k0 : Int) == -1) = false := beq_eq_false_iff_ne.2 (by omega)
    have HT0 := Lib.hid htk
    have HX0 := Lib.hid hx0
    have HP0 := Lib.hid hp0
    clear htk hx0 hp0
    obtain ⟨g, -, rfl, -, hg0, hg1, -⟩ := HV1.out.elem HX0.out
    go_wp2_with fail
    go_loopw [5, 6] (fun iv jv wr => ∃ (i j : Nat) (ds : List Clause), iv = .int .i64 i ∧ jv = .int .i64 j ∧ i < j ∧ j ≤ N ∧ Below w0.heap.size w1 wr ∧ Hid (OwnL w0.heap.size (· = 65) 65 wr (.slice (some ⟨g, 0, none⟩) N c) ds) ∧ Hid (ds.length = N) ∧ Hid (ds.take i = (xs.take j).filter fun x => !liftB l x) ∧ Hid (ds.drop j = xs.drop j)) (fun _ jv _ => N - (intOf jv).toNat)
    case atStart =>
      refine ⟨k0, k0 + 1, xs, rfl, by go_num, by omega, by omega, Below.refl _ _, HV1.out, HN.out, ?_, rfl⟩
      show _ = _
      rw [filter_snoc _ HX0.out, HT0.out, HP0.out]; simp
    case round =>
      obtain ⟨i, j, ds, rfl, rfl, hij, hjn, hbr, HO, HD, HTI, HDJ⟩ := hrel
      have hwr : w1.heap.size ≤ wr.heap.size := hbr.size
      have HBR := Lib.hid hbr
      clear hbr
      by_cases hlt' : j < N
      · have hltz : (j : Int) < (N : Int) := by omega
        obtain ⟨x, hx⟩ := get_lt (xs := xs) (k := j) (by rw [HN.out]; exact hlt')
        have hdx : ds[j]? = some x := by
          have := congrArg (fun z => z[0]?) HDJ.out
          simp only [List.getElem?_drop, Nat.add_zero] at this
          rw [this]; exact hx
        obtain ⟨_, y, he, -, -, -, hyl, hcell, hst, -⟩ := HO.out.elem hdx
        cases he
        obtain ⟨ya, yc, g0, g1, g2, g3, g4, -⟩ := Clause.is_iff.1 (hst wr (Agree.refl _ _ _))
        have y0 : wr.cell? ⟨g, j * 5, none⟩ = some (.string x.license) := (hcell 0 _ g0).1
        have y1 : wr.cell? ⟨g, j * 5 + 1, none⟩ = some (.int .i64 x.way) := (hcell 1 _ g1).1
        have y2 : wr.cell? ⟨g, j * 5 + 2, none⟩ = some (.int .i64 x.relation) := (hcell 2 _ g2).1
        have y3 : wr.cell? ⟨g, j * 5 + 3, none⟩ = some (.int .i64 x.duty) := (hcell 3 _ g3).1
        have y4 : wr.cell? ⟨g, j * 5 + 4, none⟩ = some (.slice ya x.list.length yc) := (hcell 4 _ g4).1
        have HYL : Hid (y = [.string x.license, .int .i64 x.way, .int .i64 x.relation, .int .i64 x.duty, .slice ya x.list.length yc]) := by
          show _ = _
          refine List.ext_getElem? fun q => ?_
          match q with
          | 0 => exact g0
          | 1 => exact g1
          | 2 => exact g2
          | 3 => exact g3
          | 4 => exact g4
          | q + 5 => rw [List.getElem?_eq_none (by rw [hyl]; show 5 ≤ _; omega), List.getElem?_eq_none (by simp)]
        have HST := Lib.hid hst
        have HX := Lib.hid hx
        have hgr : g < wr.heap.size := cell_lt y0
        clear g0 g1 g2 g3 g4 hcell hst hx hdx hyl
        have HF := Lib.hid (filter_snoc (fun x => !liftB l x) HX.out)
        have HBA : Hid (Below wr.heap.size wr (wr.alloc (.cells #[.string x.license, .int .i64 x.way, .int .i64 x.relation, .int .i64 x.duty, .slice ya x.list.length yc] 65))) := by show Below _ _ _; exact (by first | ((repeat (first | exact Below.refl _ _ | assumption | refine Below.drewN ?_ _ | refine Below.drew ?_ | refine Below.alloc ?_ (by first | exact Nat.le_refl _ | (simp; done) | (simp; omega) | omega) _ | refine Below.setCell ?_ (by first | exact Nat.le_refl _ | (simp; done) | (simp; omega) | omega) _ | refine Below.trans ?_ (Below.mono (by assumption) (by first | exact Nat.le_refl _ | (simp; done) | (simp; omega) | omega)))); done) | fail)
        have HBZ : Hid (Below w0.heap.size w0 wr) := (HB0.out.trans (HB1.out.mono hz0)).trans HBR.out
        have hcall := Lift1_p (wr.alloc (.cells #[.string x.license, .int .i64 x.way, .int .i64 x.relation, .int .i64 x.duty, .slice ya x.list.length yc] 65)) x ya yc gy la lc l (kept (HBZ.out.trans (HBA.out.mono (by omega))) HC.out) (HL.out.mono (HBZ.out.trans (HBA.out.mono (by omega))))
        go_wp2_with fail
        cases q : liftB l x
        case true =>
          rw [show l.contains x.duty = true from q] at hcall
          refine hcall.mono ?_
          rintro e w3 ⟨rfl, hb2⟩
          have HB3 : Hid (Below wr.heap.size wr w3) := HBA.out.trans (hb2.mono (by simp))
          clear hb2
          go_wp2
          go_roundw
          case rel =>
            refine ⟨i, j + 1, ds, rfl, by go_num, by omega, by omega, HBR.out.trans (HB3.out.mono (by omega)), HO.out.below HB3.out, HD, ?_, ?_⟩
            · show _ = _
              rw [HF.out, q, HTI.out]; simp
            · show _ = _
              rw [← List.drop_drop, HDJ.out, List.drop_drop]
          case measure => simp [intOf]; omega
        case false =>
          rw [show l.contains x.duty = false from q] at hcall
          refine hcall.mono ?_
          rintro e w3 ⟨rfl, hb2⟩
          have HB3 : Hid (Below wr.heap.size wr w3) := HBA.out.trans (hb2.mono (by simp))
          have z0 := kept hb2 (a := ⟨wr.heap.size, 0, none⟩) (v := .string x.license) (by simp)
          have z1 := kept hb2 (a := ⟨wr.heap.size, 1, none⟩) (v := .int .i64 x.way) (by simp)
          have z2 := kept hb2 (a := ⟨wr.heap.size, 2, none⟩) (v := .int .i64 x.relation) (by simp)
          have z3 := kept hb2 (a := ⟨wr.heap.size, 3, none⟩) (v := .int .i64 x.duty) (by simp)
          have z4 := kept hb2 (a := ⟨wr.heap.size, 4, none⟩) (v := .slice ya x.list.length yc) (by simp)
          clear hb2 y0 y1 y2 y3 y4
          have HO3 := Lib.hid (HO.out.below HB3.out)
          obtain ⟨u, hu⟩ := get_lt (xs := ds) (k := i) (by rw [HD.out]; omega)
          obtain ⟨_, yu, he, -, -, -, hul, hucell, -, -⟩ := HO3.out.elem hu
          cases he
          have cu : ∀ q, q < 5 → ∃ z, w3.cell? ⟨g, i * 5 + q, none⟩ = some z ∧ w3.frozen? ⟨g, i * 5 + q, none⟩ = false := fun q hq => by
            obtain ⟨z, hz⟩ := get_lt (xs := yu) (k := q) (by rw [hul]; exact hq)
            exact ⟨z, hucell q z hz⟩
          obtain ⟨u0, c0, f0⟩ := cu 0 (by omega)
          obtain ⟨u1, c1, f1⟩ := cu 1 (by omega)
          obtain ⟨u2, c2, f2⟩ := cu 2 (by omega)
          obtain ⟨u3, c3, f3⟩ := cu 3 (by omega)
          obtain ⟨u4, c4, f4⟩ := cu 4 (by omega)
          simp only [Nat.add_zero] at c0 f0
          have HU := Lib.hid hu
          have hsw : wr.heap.size ≤ w3.heap.size := HB3.out.size
          have hg3 : g < w3.heap.size := cell_lt c0
          clear hu hul hucell cu
          go_wp2
          go_roundw
          case rel =>
            have hput := HO3.out.put rfl (i := i) (y := y) (x := x) (by rw [HD.out]; omega) (by rw [HYL.out]; rfl) (fun w' hA => HST.out w' ((Agree.of_below HB3.out).trans hA))
            rw [HYL.out] at hput
            refine ⟨i + 1, j + 1, ds.set i x, by go_num, by go_num, by omega, by omega, ?_, hput, ?_, ?_, ?_⟩
            · exact below_setCellsO hg0 [.string x.license, .int .i64 x.way, .int .i64 x.relation, .int .i64 x.duty, .slice ya x.list.length yc] (i * 5) w1 w3 (HBR.out.trans (HB3.out.mono (by omega)))
            · show _ = _
              rw [List.length_set]; exact HD.out
            · show _ = _
              rw [HF.out, q, take_at (x := x) (List.getElem?_set_self (by rw [HD.out]; omega)), List.take_set, List.set_eq_of_length_le (by rw [List.length_take]; omega), HTI.out]; simp
            · show _ = _
              rw [List.drop_set_of_lt (by omega), ← List.drop_drop, HDJ.out, List.drop_drop]
          case measure => simp [intOf]; omega
      · have hltz : ¬ (j : Int) < (N : Int) := by omega
        obtain rfl : j = N := by omega
        obtain ⟨ys, hys⟩ : ∃ ys, (Builtin.zeroCells clV0.cells (j - i)).toList = ys := ⟨_, rfl⟩
        have hyl : ys.length = (j - i) * 5 := by rw [← hys, zeroCells_len]; rfl
        have hyo : ∀ v ∈ ys, v.oneCell' = true := fun v hv => zeroCells_mem (z := clV0.cells) (by decide) (by intro v hv; simp [clV0, Value.cells] at hv; rcases hv with rfl | rfl | rfl <;> rfl) (by rw [hys]; exact hv)
        have hcu : ∀ q, q < ys.length → ∃ z, wr.cell? ⟨g, i * 5 + q, none⟩ = some z ∧ wr.frozen? ⟨g, i * 5 + q, none⟩ = false := fun q hq => by
          have hq5 : q / 5 < j - i := by rw [hyl] at hq; omega
          obtain ⟨u, hu⟩ := get_lt (xs := ds) (k := i + q / 5) (by rw [HD.out]; omega)
          obtain ⟨_, yu, he, -, -, -, hul, hucell, -, -⟩ := HO.out.elem hu
          cases he
          obtain ⟨z, hz⟩ := get_lt (xs := yu) (k := q % 5) (by rw [hul]; exact Nat.mod_lt _ (by omega))
          have := hucell _ z hz
          rw [show (i + q / 5) * Lay.n Clause + q % 5 = i * 5 + q by show (i + q / 5) * 5 + q % 5 = _; omega] at this
          exact ⟨z, this⟩
        have hclear : ∀ ty, (Builtin.clear_ #[25] ty #[.slice (some ⟨g, i * 5, none⟩) (j - i) (c - i)]).run Tryz.prog wr = .ok (.tuple #[]) (wr.setCells g (i * 5) ys) := fun ty =>
          run_clear_k wr 25 65 ty clV0 Tryz.underlying25 zeroCl ys g (i * 5) (j - i) (c - i) (by omega) hys hyo (fun q hq => by obtain ⟨z, h1, -⟩ := hcu q hq; rw [h1]; rfl) (fun q hq => by obtain ⟨z, -, h2⟩ := hcu q hq; exact h2)
        have HCUT := Lib.hid (HO.out.cut rfl (m := i) (by rw [HD.out]; omega) ys (by rw [hyl, HD.out]; show i * 5 + _ ≤ j * 5; omega))
        have HBS := Lib.hid (below_setCellsO hg0 ys (i * 5) w wr ((HB1.out.mono hz0).trans HBR.out))
        clear hcu hyo hyl hys
        go_wp2_with fail
        go_ret
        refine ⟨_, rfl, ?_, HBS.out⟩
        have := HCUT.out
        rw [HTI.out, List.take_of_length_le (by rw [HN.out]; exact Nat.le_refl _)] at this
        exact this
end Go.Proofs.YtaneolfnnkppbaaGreatDoor
namespace Go.Proofs.YtaneolfnnkppbaaGreatDoor
open Go Go.RowKit Go.ChangeShapes
theorem OwnL.join {α : Type} [Lay α] {B : Nat} {E : TypeId → Prop} {e : TypeId} (hE : E e) {w w' : World} {v v' u : Value} {xs ys : List α} (h : OwnL B E e w v xs) (k : OwnL B E e w u ys) (hg : w.grownBy w' v.ownBlock)
    (ho : ∀ cs ds, w.ownsRow B e (Lay.n α) v xs.length cs → w.ownsRow B e (Lay.n α) u ys.length ds → w'.ownsRow B e (Lay.n α) v' (xs.length + ys.length) (cs ++ ds)) :
    OwnL B E e w' v' (xs ++ ys) := by
  obtain ⟨zs, h1, h2, h3⟩ := h
  obtain ⟨us, k1, k2, k3⟩ := k
  have hag : Agree B E w w' := Agree.app hE h2 hg
  refine ⟨zs ++ us, by simp [h1, k1], ?_, ?_⟩
  · simpa using ho _ _ h2 k2
  · intro i y z hy hz
    by_cases hi : i < xs.length
    · rw [List.getElem?_append_left (by omega)] at hy
      rw [List.getElem?_append_left hi] at hz
      obtain ⟨a, b⟩ := h3 i y z hy hz
      exact ⟨a, fun w'' hw => b w'' (hag.trans hw)⟩
    · rw [List.getElem?_append_right (by omega), h1] at hy
      rw [List.getElem?_append_right (by omega)] at hz
      obtain ⟨a, b⟩ := k3 _ y z hy hz
      exact ⟨a, fun w'' hw => b w'' (hag.trans hw)⟩
theorem wp_appLL {α : Type} [Lay α] {P : Program} {t e : TypeId} {z : Value} {bytes : Nat} (hinfo : (P.info? e).map (fun i => (i.zero, i.size, i.bytes)) = some (some z, Lay.n α, bytes))
    (hz : z.cells.size = Lay.n α) (hsz : 0 < Lay.n α) (ht : P.underlying t = some (.slice e)) (hone : ∀ (y : List Value) (x : α) (w : World), y.length = Lay.n α → Lay.is w (fun j => y[j]?) x → ∀ u ∈ y, u.oneCell' = true)
    {ops : Array Oper} {rest : List Oper} {o : Oper} {a : Act} {Q : Exit → Act → World → Prop} {w : World} (hgd : o.guard = none) (s x : Operand)
    (ho : o.op = .call { callee := .builtin .append, args := #[s, x], argTypes := #[t, t] })
    (B : Nat) (E : TypeId → Prop) (v u : Value) (xs ys : List α) (hs : a.eval s = v) (hx : a.eval x = u) (hE : E e) (hown : OwnL B E e w v xs) (hu : OwnL B E e w u ys)
    (hb : (xs.length + ys.length) * (bytes + 1) ≤ 140737488355328) (hB : B ≤ w.heap.size)
    (h : ∀ v' w', OwnL B E e w' v' (xs ++ ys) → Below B w w' → Agree B (· = e) w w' → wpList P ops Q rest (a.put o.dst v') w') :
    wpList P ops Q (o :: rest) a w := by
  obtain ⟨i0, hi, hz0, hz1, hz2⟩ := info_parts hinfo
  have e1 : (xs.length + ys.length) * (bytes + 1) = (xs.length + ys.length) * bytes + (xs.length + ys.length) := by rw [Nat.mul_add, Nat.mul_one]
  obtain ⟨us, k1, k2, k3⟩ := id hu
  obtain ⟨cs, hcs⟩ := hown.row
  rcases k2.2 with ⟨rfl, h0⟩ | ⟨g, cap, cur, rfl, hg, hh, hn', hc, hsz', htk⟩
  · obtain rfl : ys = [] := List.length_eq_zero_iff.1 h0
    obtain ⟨va, vc, rfl, hvc, -⟩ := list_inv hown.is
    have hrun := run_append_nothing (P := P) w t t o.type e i0 ht hi va xs.length vc hvc (.slice none 0 0) (Src.ofNil w ht 0)
    have hk := h (.slice va xs.length vc) w (by simpa using hown) (Below.refl _ _) (Agree.refl _ _ _)
    refine wpList_plain hgd fun K hK => ?_
    unfold Oper.wp execOp
    simp only [ho, resolve, invoke, builtin, Sem.run_bind, Sem.run_pure, Result.andThen_ok, List.map_toArray, List.map_cons, List.map_nil, hs, hx, hrun]
    exact hK _ _ hk
  · have hall := OwnL.all (P := fun z => ∀ u ∈ z, u.oneCell' = true) k1 (fun i y x hy hx => hone y x w (k3 i y x hy hx).1 ((k3 i y x hy hx).2 w (Agree.refl _ _ _)))
    refine wpList_append_own _ hgd s x t ho B e i0 z (Lay.n α) bytes ht hi hz0 hz1 hz2 hz hsz v xs.length cs hs hcs ⟨g, 0, none⟩ ys.length cap us.flatten hx k2.1 ?_ ?_ ?_ ?_ hB ?_
    · intro j q hj
      have e2 : (⟨g, 0, none⟩ : Addr).add j = ⟨g, j, none⟩ := by
        unfold Addr.add; split
        · subst j; rfl
        · simp
      rw [e2]
      refine objcell hh ?_
      rw [← htk, List.getElem?_take] at hj
      split at hj
      · simpa using hj
      · cases hj
    · intro q hq
      obtain ⟨y, hy, hqy⟩ := List.mem_flatten.1 hq
      exact hall y hy q hqy
    · unfold maxLen; omega
    · omega
    · intro v' w' h2 h3 h4
      refine h v' w' (OwnL.join hE hown hu h3 fun cs' ds' r1 r2 => ?_) ((Below.refl _ _).app h3 (by omega) hcs) (Agree.app (E := (· = e)) rfl hcs h3)
      rw [OwnL.row_unique r1 hcs, OwnL.row_unique r2 k2]
      exact h2
theorem cl_one (y : List Value) (x : Clause) (w : World) (hl : y.length = Lay.n Clause) (h : Lay.is w (fun j => y[j]?) x) : ∀ u ∈ y, u.oneCell' = true := by
  obtain ⟨a, c, g0, g1, g2, g3, g4, -⟩ := Clause.is_iff.1 h
  intro u hu
  obtain ⟨i, hi, rfl⟩ := List.mem_iff_getElem.1 hu
  have h5 : i < 5 := by rw [hl] at hi; exact hi
  have hv : y[i]? = some y[i] := List.getElem?_eq_getElem hi
  match i, h5 with
  | 0, _ => rw [g0] at hv; rw [← Option.some.inj hv]; rfl
  | 1, _ => rw [g1] at hv; rw [← Option.some.inj hv]; rfl
  | 2, _ => rw [g2] at hv; rw [← Option.some.inj hv]; rfl
  | 3, _ => rw [g3] at hv; rw [← Option.some.inj hv]; rfl
  | 4, _ => rw [g4] at hv; rw [← Option.some.inj hv]; rfl
theorem agree_blk {B : Nat} {e t : TypeId} {w w' : World} {k : Nat} {cs : Array Value} {fr : Nat × Nat} (h : Agree B (· = e) w w') (hk : w.heap[k]? = some (.cells cs t fr)) (hne : t ≠ e) : w'.heap[k]? = some (.cells cs t fr) := by
  have hlt : k < w.heap.size := by
    rcases Nat.lt_or_ge k w.heap.size with h | h
    · exact h
    · rw [Array.getElem?_eq_none h] at hk; cases hk
  rw [h.2 k hlt (.inr fun ⟨cs', e', fr', he, hh⟩ => by rw [hk] at hh; cases hh; exact hne he), hk]
theorem below_blk {w w' : World} {k : Nat} {o : Obj} (h : Below w.heap.size w w') (hk : w.heap[k]? = some o) : w'.heap[k]? = some o := by
  have hlt : k < w.heap.size := by
    rcases Nat.lt_or_ge k w.heap.size with h | h
    · exact h
    · rw [Array.getElem?_eq_none h] at hk; cases hk
  rw [h.block k hlt, hk]
def acc3 {α : Type} (f : Int → Int → List α) (a b : Nat) : List α := (([0, 1, 2] : List Int).take a).flatMap (fun w => ([0, 1, 2] : List Int).flatMap (f w)) ++ (([0, 1, 2] : List Int).take b).flatMap (f a)
theorem acc3_step {α : Type} (f : Int → Int → List α) (a : Nat) {b : Nat} (hb : b < 3) : acc3 f a (b + 1) = acc3 f a b ++ f a b := by
  unfold acc3
  obtain rfl | rfl | rfl : b = 0 ∨ b = 1 ∨ b = 2 := by omega
  all_goals simp
theorem acc3_next {α : Type} (f : Int → Int → List α) {a : Nat} (ha : a < 3) : acc3 f a 3 = acc3 f (a + 1) 0 := by
  unfold acc3
  obtain rfl | rfl | rfl : a = 0 ∨ a = 1 ∨ a = 2 := by omega
  all_goals simp
theorem acc3_le {α : Type} (f : Int → Int → List α) {a b : Nat} (ha : a < 3) (hb : b < 3) : (acc3 f a b).length + (f a b).length ≤ (acc3 f 3 0).length := by
  unfold acc3
  obtain rfl | rfl | rfl : a = 0 ∨ a = 1 ∨ a = 2 := by omega
  all_goals (obtain rfl | rfl | rfl : b = 0 ∨ b = 1 ∨ b = 2 := by omega)
  all_goals simp
  all_goals omega
end Go.Proofs.YtaneolfnnkppbaaGreatDoor
