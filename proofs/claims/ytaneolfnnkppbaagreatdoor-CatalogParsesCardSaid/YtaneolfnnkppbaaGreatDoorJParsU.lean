/- How the reference parses: plain laws of the loop over the lines. -/
import Derived.Test.YtaneolfnnkppbaaGreatDoorJReadW
import Derived.Test.YtaneolfnnkppbaaGreatDoorJLawN
import Derived.Test.YtaneolfnnkppbaaGreatDoorJOwnU
import Derived.Test.YtaneolfnnkppbaaGreatDoorJReadRU
set_option linter.all false
namespace Go.Proofs.YtaneolfnnkppbaaGreatDoor
open Go
theorem readR_upto {c c' : Catalog} {ws : List ByteArray} {n k : Nat} (h : readR c ws = some (c', n)) (hk : Upto k c) : Upto (k + 1) c' ∧ n < 1000000000000000000 ∧ (n = 0 ∨ ∃ x, c'.licenses = c.licenses ++ [x] ∧ x.text = mkS []) := by
 obtain ⟨h1, h2, h3, h4⟩ := hk
 unfold readR at h
 split at h
 ·cases h
 ·split at h
  ·split at h
   ·split at h
    ·rename_i q1 q2
     cases h
     obtain ⟨m, rfl, hm⟩ := num_nat q2
     exact ⟨⟨by simp; omega, by show c.exceptions.length ≤ _; omega, by show c.clauses.length ≤ _; omega, by show c.apart.length ≤ _; omega⟩, by simpa using hm, .inr ⟨_, rfl, rfl⟩⟩
    ·cases h
   ·cases h
  ·split at h
   ·split at h
    ·split at h
     ·cases h
     ·cases h; exact ⟨⟨by show c.licenses.length ≤ _; omega, by simp; omega, by show c.clauses.length ≤ _; omega, by show c.apart.length ≤ _; omega⟩, by omega, .inl rfl⟩
    ·cases h
   ·split at h
    ·split at h
     ·split at h
      ·cases h
      ·cases h; exact ⟨⟨by show c.licenses.length ≤ _; omega, by show c.exceptions.length ≤ _; omega, by simp; omega, by show c.apart.length ≤ _; omega⟩, by omega, .inl rfl⟩
     ·cases h
    ·split at h
     ·split at h
      ·cases h; exact ⟨⟨by show c.licenses.length ≤ _; omega, by show c.exceptions.length ≤ _; omega, by show c.clauses.length ≤ _; omega, by simp; omega⟩, by omega, .inl rfl⟩
      ·cases h
     ·cases h
def txtC (c : Catalog) (ls : List ByteArray) (k : Nat) : Catalog := if k = 0 then c else lastText c (mkS (joinB [10] (ls.take k)))
theorem joinB_snoc (d : List UInt8) (a : ByteArray) : ∀ (l : List ByteArray), l ≠ [] → joinB d (l ++ [a]) = joinB d l ++ d ++ a.data.toList
 | [], h => absurd rfl h
 | [x], _ => rfl
 | x :: y :: r, _ => by
  have h := joinB_snoc d a (y :: r) (by simp)
  rw [List.cons_append, List.cons_append, joinB_cons, joinB_cons, ← List.cons_append, h]
  simp
theorem joinB_len10 {M : Nat} : ∀ (l : List ByteArray), (∀ s ∈ l, s.size ≤ M) → (joinB [10] l).length ≤ l.length * (M + 1)
 | [], _ => by simp [joinB]
 | [x], h => by
  have := h x (by simp)
  simp only [joinB, List.length_cons, List.length_nil, Nat.zero_add, Nat.one_mul, by_len]; omega
 | x :: y :: r, h => by
  have h1 := h x (by simp)
  have h2 := joinB_len10 (y :: r) (fun s hs => h s (by simp at hs ⊢; exact .inr hs))
  rw [joinB_cons]
  simp only [List.length_append, List.length_cons, List.length_nil, by_len] at h2 ⊢
  rw [Nat.succ_mul (r.length + 1)]
  omega
theorem txtC_at {c : Catalog} {pre : List License} {x : License} {ls : List ByteArray} {k : Nat} (hx : c.licenses = pre ++ [x]) (ht : x.text = mkS []) {t : ByteArray} (h : t.data.toList = joinB [10] (ls.take k)) :
  txtC c ls k = { c with licenses := pre ++ [{ x with text := t }] } := by
 have e : t = mkS (joinB [10] (ls.take k)) := by rw [← h, mkS_self]
 subst e
 unfold txtC
 split
 ·rename_i h0
  subst h0
  cases c; cases x
  simp only at hx ht
  subst hx ht
  rfl
 ·unfold lastText
  rw [hx]
  simp
theorem text_next {ls : List ByteArray} {k : Nat} {l : ByteArray} (hl : ls[k]? = some l) : joinB [10] (ls.take (k + 1)) = if k = 0 then l.data.toList else joinB [10] (ls.take k) ++ [10] ++ l.data.toList := by
 rw [take_at hl]
 split
 ·rename_i h0; subst h0; simp [joinB]
 ·rename_i h0
  refine joinB_snoc _ _ _ ?_
  intro hn
  have := congrArg List.length hn
  have hk := lt_get hl
  simp at this
  rcases this with h | h
  ·exact h0 h
  ·rw [h] at hk; simp at hk
theorem step_skip {L : List ByteArray} {nx : Nat} {c : Catalog} {s : ByteArray} (hs : L[nx]? = some s) (h : wordsB s = [] ∨ ∃ a r, wordsB s = a :: r ∧ a.data.toList.head? = some 35) :
  readLines nx 0 c (L.drop nx) = readLines ((nx + 1 : Nat) : Int) 0 c (L.drop (nx + 1)) := by
 rw [readLines_step hs]
 have : readLine c s (L.drop (nx + 1)) = .ok c 0 := by
  unfold readLine
  rcases h with h | ⟨a, r, h, h2⟩
  ·rw [h]
  ·rw [h]; simp only; rw [if_pos h2]
 rw [this]
 try rfl
theorem step_bad {L : List ByteArray} {nx : Nat} {c : Catalog} {s h : ByteArray} {ws : List ByteArray} (hs : L[nx]? = some s) (hw : wordsB s = h :: ws) (h35 : h.data.toList.head? ≠ some 35) (hr : readR c (h :: ws) = none) :
  readLines nx 0 c (L.drop nx) = ((nx : Int), 4, emptyC) := by
 rw [readLines_step hs, read_eq _ _ _ hw h35, hr]
 try rfl
theorem step_short {L : List ByteArray} {nx n : Nat} {c c' : Catalog} {s h : ByteArray} {ws : List ByteArray} (hs : L[nx]? = some s) (hw : wordsB s = h :: ws) (h35 : h.data.toList.head? ≠ some 35) (hr : readR c (h :: ws) = some (c', n)) (hl : L.length ≤ nx + n) :
  readLines nx 0 c (L.drop nx) = ((nx : Int), 13, emptyC) := by
 have hlt := lt_get hs
 rw [readLines_step hs, read_eq _ _ _ hw h35, hr]
 simp only
 rw [if_pos (by rw [List.length_drop]; omega)]
 try rfl
theorem step_ok {L : List ByteArray} {nx n : Nat} {c c' : Catalog} {s h : ByteArray} {ws : List ByteArray} (hs : L[nx]? = some s) (hw : wordsB s = h :: ws) (h35 : h.data.toList.head? ≠ some 35) (hr : readR c (h :: ws) = some (c', n)) (hl : nx + n < L.length) :
  readLines nx 0 c (L.drop nx) = readLines ((nx + 1 + n : Nat) : Int) 0 (txtC c' (L.drop (nx + 1)) n) (L.drop (nx + 1 + n)) := by
 rw [readLines_step hs, read_eq _ _ _ hw h35, hr]
 simp only
 rw [if_neg (by rw [List.length_drop]; omega)]
 unfold txtC
 by_cases h0 : n = 0
 ·rw [if_pos h0, if_pos h0, h0]
 ·rw [if_neg h0, if_neg h0]
theorem txtC_upto {c : Catalog} {ls : List ByteArray} {k m : Nat} (h : Upto m c) : Upto m (txtC c ls k) := by
 unfold txtC
 split
 ·exact h
 ·obtain ⟨h1, h2, h3, h4⟩ := h
  unfold lastText
  split
  ·exact ⟨h1, h2, h3, h4⟩
  ·rename_i x hx
   refine ⟨?_, h2, h3, h4⟩
   simp only [List.length_append, List.length_dropLast, List.length_cons, List.length_nil]
   have : c.licenses ≠ [] := by intro e; rw [e] at hx; cases hx
   have := List.length_pos_iff.2 this
   omega
theorem parse_of {s : ByteArray} (h : ¬ 65536 < s.size) {a e : Int} {c : Catalog} (hr : readLines 0 0 emptyC (linesB (strip s)) = (a, e, c)) :
  parseC s = if e != 0 then (a, e, emptyC) else if checkC (sortC c) != 0 then (-1, checkC (sortC c), emptyC) else (0, 0, sortC c) := by
 unfold parseC
 rw [← strip_reads, hr, if_neg (by simpa using h)]
theorem strip_size (s : ByteArray) : (strip s).size ≤ s.size := by
 unfold strip
 split
 ·rw [← by_len, ← by_len s, mkS_toList]; simp
 ·exact Nat.le_refl _
end Go.Proofs.YtaneolfnnkppbaaGreatDoor
namespace Go.Proofs.YtaneolfnnkppbaaGreatDoor
open Go Go.RowKit Go.ChangeShapes
theorem share {G H : Option Addr → Nat → World → Prop} {R : Prop} (main : (∀ a c w, H a c w → G a c w) → R) (key : ∀ a c w, H a c w → G a c w) : R := main key
def OwnGe (S : Nat) (v : Value) : Prop := ∀ k, v.ownBlock = some k → S ≤ k
theorem OwnGe.nil (S : Nat) : OwnGe S (.slice none 0 0) := fun k hk => by cases hk
theorem OwnGe.at {S g n c : Nat} (h : OwnGe S (.slice (some ⟨g, 0, none⟩) n c)) : S ≤ g := h g rfl
theorem owns_ge {w : World} {B S n k : Nat} {e : TypeId} {v : Value} {cs : List Value} (h : w.ownsRow B e n v k cs) (hg : OwnGe S v) : w.ownsRow S e n v k cs :=
 ⟨h.1, h.2.imp id fun ⟨g, cap, cur, a, _, c⟩ => ⟨g, cap, cur, a, hg g (by rw [a]; rfl), c⟩⟩
theorem ge_owns {w : World} {S n k : Nat} {e : TypeId} {v : Value} {cs : List Value} (h : w.ownsRow S e n v k cs) : OwnGe S v := by
 intro j hj
 rcases h.2 with ⟨rfl, _⟩ | ⟨g, cap, cur, rfl, hB, _⟩
 ·cases hj
 ·cases hj; exact hB
theorem owns_lower {w : World} {B S n k : Nat} {e : TypeId} {v : Value} {cs : List Value} (h : w.ownsRow S e n v k cs) (hB : B ≤ S) : w.ownsRow B e n v k cs :=
 ⟨h.1, h.2.imp id fun ⟨g, cap, cur, a, b, c⟩ => ⟨g, cap, cur, a, Nat.le_trans hB b, c⟩⟩
theorem wpo_app2 {α : Type} [Lay α] {P : Program} {t e : TypeId} {z : Value} {bytes : Nat} (hinfo : (P.info? e).map (fun i => (i.zero, i.size, i.bytes)) = some (some z, Lay.n α, bytes))
  (hz : z.cells.size = Lay.n α) (hsz : 0 < Lay.n α) (ht : P.underlying t = some (.slice e))
  {o : Oper} {a : Act} {K : Act → World → Prop} {Q : Exit → Act → World → Prop} {w : World} (s x : Operand)
  (ho : o.op = .call { callee := .builtin .append, args := #[s, x], argTypes := #[t, t] })
  (B S : Nat) (hBS : B ≤ S) (E : TypeId → Prop) (v : Value) (xs : List α) (hs : a.eval s = v) (hE : E e) (hown : OwnL B E e w v xs) (hge : OwnGe S v)
  (ad : Addr) (news : List Value) (y : α) (hx : a.eval x = .slice (some ad) 1 1) (hl : news.length = Lay.n α) (hnews : ∀ j u, news[j]? = some u → w.cell? (ad.add j) = some u) (h1 : ∀ u ∈ news, u.oneCell' = true)
  (hy : ∀ w'', Agree B E w w'' → Lay.is w'' (fun j => news[j]?) y)
  (hb : (xs.length + 1) * (bytes + 1) ≤ 140737488355328) (hB : S ≤ w.heap.size)
  (h : ∀ a' c' w', OwnL B E e w' (.slice a' (xs.length + 1) c') (xs ++ [y]) → OwnGe S (.slice a' (xs.length + 1) c') → w.grownBy w' v.ownBlock → K (a.put o.dst (.slice a' (xs.length + 1) c')) w') : o.wp P a w K Q := by
 obtain ⟨i0, hi, hz0, hz1, hz2⟩ := info_parts hinfo
 obtain ⟨cs, hrow⟩ := hown.row
 have e1 : (xs.length + 1) * (bytes + 1) = (xs.length + 1) * bytes + (xs.length + 1) := by rw [Nat.mul_add, Nat.mul_one]
 refine wp_append_own w s x t ho S e i0 z (Lay.n α) bytes ht hi hz0 hz1 hz2 hz hsz v xs.length cs hs (owns_ge hrow hge) ad 1 1 news hx (by omega) hnews h1 (by unfold maxLen; omega) (by omega) hB ?_
 intro v' w' h2 h3 _
 have h4 : OwnL B E e w' v' (xs ++ [y]) := OwnL.snoc hE hown (Below.refl _ _) hl hy h3 fun cs2 h5 => by
  rw [OwnL.row_unique hrow h5] at h2; exact owns_lower h2 hBS
 have h6 := ge_owns h2
 obtain ⟨a', c', rfl⟩ := h4.shape
 simp only [List.length_append, List.length_cons, List.length_nil, Nat.zero_add] at h4 h6 ⊢
 exact h a' c' w' h4 h6 h3
theorem step_app2 {α : Type} [Lay α] {P : Program} {t e : TypeId} {z : Value} {bytes : Nat} (hinfo : (P.info? e).map (fun i => (i.zero, i.size, i.bytes)) = some (some z, Lay.n α, bytes))
  (hz : z.cells.size = Lay.n α) (hsz : 0 < Lay.n α) (ht : P.underlying t = some (.slice e))
  {ops : Array Oper} {o : Oper} {a : Act} {K : Act → World → Prop} {Q : Exit → Act → World → Prop} {X : Prop} {w : World} (hgd : o.guard = none) (s x : Operand)
  (ho : o.op = .call { callee := .builtin .append, args := #[s, x], argTypes := #[t, t] })
  (B S : Nat) (hBS : B ≤ S) (E : TypeId → Prop) (v : Value) (xs : List α) (hs : a.eval s = v) (hE : E e) (hown : OwnL B E e w v xs) (hge : OwnGe S v)
  (ad : Addr) (news : List Value) (y : α) (hx : a.eval x = .slice (some ad) 1 1) (hl : news.length = Lay.n α) (hnews : ∀ j u, news[j]? = some u → w.cell? (ad.add j) = some u) (h1 : ∀ u ∈ news, u.oneCell' = true)
  (hy : ∀ w'', Agree B E w w'' → Lay.is w'' (fun j => news[j]?) y)
  (hb : (xs.length + 1) * (bytes + 1) ≤ 140737488355328) (hB : S ≤ w.heap.size)
  (h : ∀ a' c' w', OwnL B E e w' (.slice a' (xs.length + 1) c') (xs ++ [y]) → OwnGe S (.slice a' (xs.length + 1) c') → w.grownBy w' v.ownBlock → K (a.put o.dst (.slice a' (xs.length + 1) c')) w') :
  if Region.wanted o (yielded ops a.tmps) = true then Oper.wp P o a w K Q else X := by
 have hw : Region.wanted o (yielded ops a.tmps) = true := by simp [Region.wanted, hgd]
 rw [if_pos hw]
 exact wpo_app2 hinfo hz hsz ht s x ho B S hBS E v xs hs hE hown hge ad news y hx hl hnews h1 hy hb hB h
structure SS (B S : Nat) (w wr : World) (A : Array Value) (u0 u1 u2 u3 : Value) (o : Catalog) : Prop where
 le : B ≤ S
 bel : Below S w wr
 arg : wr.heap[S]? = some (.cells A 28 (0, 0))
 res : wr.heap[S + 1]? = some (.cells #[.slice none 0 0, .slice none 0 0, .slice none 0 0, .slice none 0 0] 28 (0, 0))
 out : wr.heap[S + 1 + 1]? = some (.cells #[u0, u1, u2, u3] 28 (0, 0))
 rc : RC B wr u0 u1 u2 u3 o
 g0 : OwnGe S u0
 g1 : OwnGe S u1
 g2 : OwnGe S u2
 g3 : OwnGe S u3
section
variable {B S : Nat} {w W w1 w' : World} {A : Array Value} {u u0 u1 u2 u3 : Value} {o : Catalog}
theorem SS.lt (h : SS B S w W A u0 u1 u2 u3 o) : S + 1 + 1 < W.heap.size := obj_lt h.out
theorem SS.below (h : SS B S w W A u0 u1 u2 u3 o) (hb : Below W.heap.size W w') : SS B S w w' A u0 u1 u2 u3 o :=
 ⟨h.le, h.bel.trans (hb.mono (by have := h.lt; omega)), obj_below h.arg hb, obj_below h.res hb, obj_below h.out hb, h.rc.below hb, h.g0, h.g1, h.g2, h.g3⟩
theorem SS.set {j : Nat} (h : SS B S w W A u0 u1 u2 u3 o) {e : TypeId} (hne : 28 ≠ e) (hb : Below S W w1) (hA : Agree B (· = e) W w1) {t0 t1 t2 t3 : Value} {o' : Catalog} (hcs : #[u0, u1, u2, u3].setIfInBounds j u = #[t0, t1, t2, t3]) (hr : RC B w1 t0 t1 t2 t3 o')
  (g0 : OwnGe S t0) (g1 : OwnGe S t1) (g2 : OwnGe S t2) (g3 : OwnGe S t3) : SS B S w (w1.setCell ⟨S + 1 + 1, j, none⟩ u) A t0 t1 t2 t3 o' := by
 have ho := hA.obj h.out hne
 have hl := h.le
 refine ⟨h.le, (h.bel.trans hb).setCell (by show S ≤ S + 1 + 1; omega) _, ?_, ?_, ?_, hr.box (by omega) ho, g0, g1, g2, g3⟩
 ·rw [blk_set_other _ _ _ _ (by show S ≠ S + 1 + 1; omega)]; exact hA.obj h.arg hne
 ·rw [blk_set_other _ _ _ _ (by show S + 1 ≠ S + 1 + 1; omega)]; exact hA.obj h.res hne
 ·rw [setCell_obj w1 (S + 1 + 1) j u ho, hcs]
theorem SS.swp (h : SS B S w W A u0 u1 u2 u3 o) {e : TypeId} (hne : 28 ≠ e) (hb : Below S W w1) (hA : Agree B (· = e) W w1) {o' : Catalog} (hr : RC B w1 u0 u1 u2 u3 o') : SS B S w w1 A u0 u1 u2 u3 o' :=
 ⟨h.le, h.bel.trans hb, hA.obj h.arg hne, hA.obj h.res hne, hA.obj h.out hne, hr, h.g0, h.g1, h.g2, h.g3⟩
end
theorem is_enc {α : Type} [Lay α] {w : World} {y : List Value} {x : α} (hl : y.length = Lay.n α) (ha : Lay.agg α = true) (h : Lay.is w (fun j => y[j]?) x) : Is w (.agg y.toArray) x :=
 ⟨y.toArray, by simpa using hl, by rw [if_pos ha], by simpa using h⟩
theorem agree_4 {B g : Nat} {w1 : World} {x0 x1 x2 x3 : Value} (hB : B ≤ g) (o : IsBox w1 g) :
  Agree B (· = 28) w1 ((((w1.setCell ⟨g, 0, none⟩ x0).setCell ⟨g, 1, none⟩ x1).setCell ⟨g, 2, none⟩ x2).setCell ⟨g, 3, none⟩ x3) := by
 have a1 := agree_box (u := x0) (j := 0) (Agree.refl B _ w1) hB o
 have a2 := agree_box (u := x1) (j := 1) a1.1 hB (a1.2 _ o)
 have a3 := agree_box (u := x2) (j := 2) a2.1 hB (a2.2 _ (a1.2 _ o))
 exact (agree_box (u := x3) (j := 3) a3.1 hB (a3.2 _ (a2.2 _ (a1.2 _ o)))).1
theorem below_4 {B g : Nat} {w w1 : World} {x0 x1 x2 x3 : Value} (hB : B ≤ g) (h : Below B w w1) :
  Below B w ((((w1.setCell ⟨g, 0, none⟩ x0).setCell ⟨g, 1, none⟩ x1).setCell ⟨g, 2, none⟩ x2).setCell ⟨g, 3, none⟩ x3) :=
 (((h.setCell hB _).setCell hB _).setCell hB _).setCell hB _
theorem ss_start (B : Nat) (w : World) (hB : B ≤ w.heap.size) (A : Array Value) : SS B w.heap.size w (((w.alloc (.cells A 28)).alloc (.cells #[.slice none 0 0, .slice none 0 0, .slice none 0 0, .slice none 0 0] 28)).alloc (.cells #[.slice none 0 0, .slice none 0 0, .slice none 0 0, .slice none 0 0] 28)) A (.slice none 0 0) (.slice none 0 0) (.slice none 0 0) (.slice none 0 0) emptyC := by
 refine ⟨hB, (by first | ((repeat (first | exact Below.refl _ _ | assumption | refine Below.drewN ?_ _ | refine Below.drew ?_ | refine Below.alloc ?_ (by first | exact Nat.le_refl _ | (simp; done) | (simp; omega) | omega) _ | refine Below.setCell ?_ (by first | exact Nat.le_refl _ | (simp; done) | (simp; omega) | omega) _ | refine Below.trans ?_ (Below.mono (by assumption) (by first | exact Nat.le_refl _ | (simp; done) | (simp; omega) | omega)))); done) | fail), obj_below (obj_below (obj_new w _) ((Below.refl _ _).alloc (Nat.le_refl _) _)) ((Below.refl _ _).alloc (Nat.le_refl _) _), ?_, ?_, ⟨OwnL.nil _ _ _ _, OwnL.nil _ _ _ _, OwnL.nil _ _ _ _, OwnL.nil _ _ _ _⟩, OwnGe.nil _, OwnGe.nil _, OwnGe.nil _, OwnGe.nil _⟩
 ·have := obj_below (obj_new (w.alloc (.cells A 28)) (.cells #[.slice none 0 0, .slice none 0 0, .slice none 0 0, .slice none 0 0] 28)) ((Below.refl _ _).alloc (Nat.le_refl _) (.cells #[.slice none 0 0, .slice none 0 0, .slice none 0 0, .slice none 0 0] 28))
  simpa using this
 ·have := obj_new ((w.alloc (.cells A 28)).alloc (.cells #[.slice none 0 0, .slice none 0 0, .slice none 0 0, .slice none 0 0] 28)) (.cells #[.slice none 0 0, .slice none 0 0, .slice none 0 0, .slice none 0 0] 28)
  simpa using this
end Go.Proofs.YtaneolfnnkppbaaGreatDoor
namespace Go.Proofs.YtaneolfnnkppbaaGreatDoor
open Go Go.RowKit Go.ChangeShapes
set_option maxRecDepth 100000 in
set_option maxHeartbeats 800000 in
theorem lines_own (s : ByteArray) (w : World) (hs : s.size ≤ 4294967296) : Calls Tryz.prog 49 #[.string s] w fun e w' => ∃ v, e = .returned v ∧ OwnV Value.string w.heap.size 9 w' v (linesB s) ∧ Below w.heap.size w w' := by
 by_cases h0 : s.toList = []
 ·have e1 : s = ByteArray.empty := WideShapes.bytes_inj (by rw [← ByteArray.toList_eq, h0]; rfl)
  have e2 : linesB s = [] := by subst e1; rfl
  have h1 : (s.toList == []) = true := by simp [h0]
  have h2 : s.toList.isEmpty = true := by simp [h0]
  clear h0 e1
  have E2 := Lib.hid e2
  clear e2
  go_enter Tryz.func49, Tryz.ntmps49
  go_wp2
  go_ret
  exact ⟨_, rfl, by rw [E2.out]; exact OwnV.nil _ _ _ _, Below.refl _ _⟩
 ·have e2 : linesB s = splitAt 10 [] s.data.toList := by unfold linesB linesL; rw [if_neg (by rw [← ByteArray.toList_eq]; exact h0)]
  have E2 := Lib.hid e2
  have h2 : s.toList.isEmpty = false := by simp [h0]
  clear h0 e2
  go_enter Tryz.func49, Tryz.ntmps49
  go_wp2
  go_loopw [3, 4, 5] (fun out from_ i wr => ∃ (k f : Nat) (ys : List ByteArray), k ≤ s.size ∧ f ≤ k ∧ i = .int .i64 k ∧ from_ = .int .i64 f ∧ ys.length ≤ k ∧
   wr.ownsRow w.heap.size 9 1 out ys.length (ys.map Value.string) ∧ Below w.heap.size w wr ∧ (∀ x ∈ ys, x.size ≤ s.size) ∧
   Hid (splitAt 10 [] s.data.toList = ys ++ splitAt 10 ((s.data.toList.drop f).take (k - f)) (s.data.toList.drop k))) (fun _ _ i _ => s.size - (intOf i).toNat)
  case atStart => exact ⟨0, 0, [], by omega, by omega, rfl, rfl, by simp, ⟨rfl, .inl ⟨rfl, rfl⟩⟩, Below.refl _ _, by simp, by simp [Hid]⟩
  case round =>
   obtain ⟨k, f, ys, hk, hfk, rfl, rfl, hys, hown, hb, hsz, hf⟩ := hrel
   have HS := Lib.hid hsz
   have HB := Lib.hid hb
   have hB : w.heap.size ≤ wr.heap.size := hb.size
   clear hsz hb
   by_cases hlt : k < s.size
   ·go_wp2_with (at_builtin; refine app_str rfl _ _ rfl w.heap.size _ _ _ rfl hown (s.extract f k) rfl ?c4 ?c5 ?_)
    case c4 => omega
    case c5 => omega
    ·intro v' w1 hown1 hgrow1 _
     have HG := Lib.hid hgrow1
     clear hgrow1
     have ht : ((s[k].toNat : Int) == 10) = true := by assumption
     have hc : s.data.toList[k]? = some s[k] := by simp [hlt]; rfl
     have hd := by_at s k hlt
     go_wp2
     go_roundw
     case rel =>
      refine ⟨k + 1, k + 1, ys ++ [s.extract f k], by omega, by omega, by go_num, by go_num, by simp; omega, by simpa using hown1, ?_, ?_, ?_⟩
      ·exact (HB.out.alloc (by omega) _).app HG.out (by simp; omega) hown
      ·intro x hx
       simp only [List.mem_append, List.mem_singleton] at hx
       rcases hx with hx | rfl
       ·exact HS.out x hx
       ·simp; omega
      ·show _ = _
       rw [hf.out, hd, splitAt_cons, if_pos (u8_t 10 ht), extract_mkS]; simp
     case measure => simp [intOf]; omega
    ·have ht : ((s[k].toNat : Int) == 10) = false := by assumption
     have hc : s.data.toList[k]? = some s[k] := by simp [hlt]; rfl
     have hd := by_at s k hlt
     go_roundw
     case rel =>
      refine ⟨k + 1, f, ys, by omega, by omega, by go_num, rfl, by omega, hown, HB.out, HS.out, ?_⟩
      show _ = _
      rw [hf.out, hd, splitAt_cons, if_neg (u8_f 10 ht), cut_snoc _ _ _ _ hfk hc]
     case measure => simp [intOf]; omega
   ·go_wp2_with (at_builtin; refine app_str rfl _ _ rfl w.heap.size _ _ _ rfl hown (s.extract f s.size) rfl ?d4 ?d5 ?_)
    case d4 => omega
    case d5 => omega
    intro v' w1 hown1 hgrow1 _
    have HG := Lib.hid hgrow1
    clear hgrow1
    go_wp2
    go_ret
    refine ⟨_, rfl, ?_, (HB.out.alloc (by omega) _).app HG.out (by simp; omega) hown⟩
    have hk' : k = s.size := by omega
    have e : linesB s = ys ++ [s.extract f s.size] := by
     rw [E2.out, hf.out, hk', extract_mkS, show s.data.toList.drop s.size = [] from List.drop_eq_nil_of_le (by simp)]; rfl
    rw [e]
    show World.ownsRow _ _ _ _ _ _ _
    simpa using hown1
theorem OwnV.keep {B : Nat} {w w' : World} {v : Value} {xs : List ByteArray} (h : OwnV Value.string B 9 w v xs) (hk : KeepBox w w') : OwnV Value.string B 9 w' v xs := by
 refine ⟨h.1, h.2.imp id ?_⟩
 rintro ⟨g, cap, cur, a, b, c, d⟩
 exact ⟨g, cap, cur, a, b, hk g _ _ _ (by decide) c, d⟩
theorem OwnV.box {B : Nat} {w : World} {v : Value} {xs : List ByteArray} {g j : Nat} {u : Value} {cs : Array Value} {e : TypeId} {fr : Nat × Nat} (h : OwnV Value.string B 9 w v xs) (ho : w.heap[g]? = some (.cells cs e fr)) (he : e ≠ 9) : OwnV Value.string B 9 (w.setCell ⟨g, j, none⟩ u) v xs :=
 h.congr fun k _ _ ⟨cs', fr', hk⟩ => blk_set_other w ⟨g, j, none⟩ u k (by rintro rfl; rw [ho] at hk; cases hk; exact he rfl)
theorem KeepBox.below {w w' : World} (h : Below w.heap.size w w') : KeepBox w w' := fun _ _ _ _ _ hk => obj_below hk h
theorem RC.isC {B : Nat} {w : World} {v0 v1 v2 v3 : Value} {c : Catalog} (h : RC B w v0 v1 v2 v3 c) : Is w (.agg #[v0, v1, v2, v3]) c := by
 obtain ⟨a0, c0, rfl, l0, m0, r0⟩ := list_inv h.lic.is
 obtain ⟨a1, c1, rfl, l1, m1, r1⟩ := list_inv h.exc.is
 obtain ⟨a2, c2, rfl, l2, m2, r2⟩ := list_inv h.cla.is
 obtain ⟨a3, c3, rfl, l3, m3, r3⟩ := list_inv h.prs.is
 exact Catalog.mk' ⟨l0, m0, r0, l1, m1, r1, l2, m2, r2, l3, m3, r3⟩
theorem mem_split (d : UInt8) : ∀ (l cur : List UInt8) (x : ByteArray), x ∈ splitAt d cur l → x.size ≤ cur.length + l.length
 | [], cur, x, h => by
  simp only [splitAt, List.mem_singleton] at h
  subst h
  rw [← by_len, mkS_toList]; omega
 | c :: r, cur, x, h => by
  rw [splitAt_cons] at h
  split at h
  ·rcases List.mem_cons.1 h with rfl | h
   ·rw [← by_len, mkS_toList]; omega
   ·have := mem_split d r [] x h
    simp only [List.length_nil, List.length_cons] at *; omega
  ·have := mem_split d r _ x h
   simp only [List.length_append, List.length_cons, List.length_nil] at *; omega
theorem mem_lines {s x : ByteArray} (h : x ∈ linesB s) : x.size ≤ s.size := by
 unfold linesB linesL at h
 split at h
 ·cases h
 ·have := mem_split 10 _ _ _ h
  rw [by_len] at this; simpa using this
theorem mem_words {s x : ByteArray} (h : x ∈ wordsB s) : x.size ≤ s.size ∧ 0 < x.size := by
 unfold wordsB at h
 obtain ⟨h1, h2⟩ := List.mem_filter.1 h
 have := mem_split 32 _ _ _ h1
 rw [by_len] at this
 refine ⟨by simpa using this, ?_⟩
 rcases Nat.eq_zero_or_pos x.size with h0 | h0
 ·have h3 : x.data.toList = [] := by rw [← List.length_eq_zero_iff, by_len]; exact h0
  simp [isW, h3] at h2
 ·exact h0
theorem words_len (s : ByteArray) : (wordsB s).length ≤ s.size + 1 := by
 unfold wordsB
 refine Nat.le_trans (List.length_filter_le _ _) ?_
 rw [splitAt_len]
 have : s.data.toList.count 32 ≤ s.data.toList.length := List.count_le_length
 rw [by_len] at this; omega
theorem lines_len (s : ByteArray) : (linesB s).length ≤ s.size + 1 := by
 unfold linesB linesL
 split
 ·simp
 ·rw [splitAt_len]
  have : s.data.toList.count 10 ≤ s.data.toList.length := List.count_le_length
  rw [by_len] at this; omega
theorem str_sum2 (A t : ByteArray) (h : A.size + t.size ≤ 4611686018427387904) : ∃ S : ByteArray, (∀ W : World, (Op.stringOp .add A t).run Tryz.prog W = .ok (.string S) W) ∧ Hid (S.data.toList = A.data.toList ++ t.data.toList) ∧ S.size ≤ A.size + t.size :=
 ⟨A ++ t, fun W => run_string_add_sum W A t (by omega), by show _ = _; simp, by simp⟩
theorem below_4' {B g : Nat} {w w1 : World} {x0 x1 x2 x3 : Value} (hB : B ≤ g) (h : Below B w w1) :
  Below B w ((((w1.setCell ⟨g, 0, none⟩ x0).setCell ⟨g, 1, none⟩ x1).setCell ⟨g, 2, none⟩ x2).setCell ⟨g, 3, none⟩ x3) :=
 (((h.setCell hB _).setCell hB _).setCell hB _).setCell hB _
theorem below_6 {B g : Nat} {w w1 : World} {x0 x1 x2 x3 x4 x5 : Value} (hB : B ≤ g) (h : Below B w w1) :
  Below B w ((((((w1.setCell ⟨g, 0, none⟩ x0).setCell ⟨g, 1, none⟩ x1).setCell ⟨g, 2, none⟩ x2).setCell ⟨g, 3, none⟩ x3).setCell ⟨g, 4, none⟩ x4).setCell ⟨g, 5, none⟩ x5) :=
 (((((h.setCell hB _).setCell hB _).setCell hB _).setCell hB _).setCell hB _).setCell hB _
theorem RC.res {B : Nat} {w : World} {g j : Nat} {u v0 v1 v2 v3 : Value} {c : Catalog} {cs : Array Value} {fr : Nat × Nat} (h : RC B w v0 v1 v2 v3 c) (hB : B ≤ g) (ho : w.heap[g]? = some (.cells cs 33 fr)) : RC B (w.setCell ⟨g, j, none⟩ u) v0 v1 v2 v3 c := by
 have hR := agree_setCell (j := j) (u := u) hB ho
 exact ⟨h.lic.other hR (fun x hx => hx ▸ (by decide)) (by decide), h.exc.other hR (fun x hx => hx ▸ (by decide)) (by decide), h.cla.other hR (fun x hx => hx ▸ (by decide)) (by decide), h.prs.other hR (fun x hx => hx ▸ (by decide)) (by decide)⟩
theorem RC.res6 {B : Nat} {w : World} {g : Nat} {v0 v1 v2 v3 x0 x1 x2 x3 x4 x5 : Value} {c : Catalog} {cs : Array Value} {fr : Nat × Nat} (h : RC B w v0 v1 v2 v3 c) (hB : B ≤ g) (ho : w.heap[g]? = some (.cells cs 33 fr)) :
  RC B ((((((w.setCell ⟨g, 0, none⟩ x0).setCell ⟨g, 1, none⟩ x1).setCell ⟨g, 2, none⟩ x2).setCell ⟨g, 3, none⟩ x3).setCell ⟨g, 4, none⟩ x4).setCell ⟨g, 5, none⟩ x5) v0 v1 v2 v3 c := by
 have o1 := setCell_obj w g 0 x0 ho
 have o2 := setCell_obj _ g 1 x1 o1
 have o3 := setCell_obj _ g 2 x2 o2
 have o4 := setCell_obj _ g 3 x3 o3
 have o5 := setCell_obj _ g 4 x4 o4
 exact (((((h.res hB ho).res hB o1).res hB o2).res hB o3).res hB o4).res hB o5
structure PS (S g : Nat) (w wr : World) (lv : Value) (ls : List ByteArray) (u0 u1 u2 u3 : Value) (c : Catalog) : Prop where
 lt : S < g
 bel : Below S w wr
 res : wr.heap[S]? = some (.cells #[.slice none 0 0, .slice none 0 0, .slice none 0 0, .slice none 0 0, .int .i64 0, .int .i64 0] 33 (0, 0))
 lin : OwnV Value.string S 9 wr lv ls
 box : wr.heap[g]? = some (.cells #[u0, u1, u2, u3] 28 (0, 0))
 rc : RC S wr u0 u1 u2 u3 c
section
variable {S g : Nat} {w wr w' : World} {lv u0 u1 u2 u3 a0 a1 a2 a3 : Value} {ls : List ByteArray} {c c' : Catalog}
theorem PS.below (h : PS S g w wr lv ls u0 u1 u2 u3 c) (hb : Below wr.heap.size wr w') : PS S g w w' lv ls u0 u1 u2 u3 c :=
 ⟨h.lt, h.bel.trans (hb.mono (Nat.le_of_lt (obj_lt h.res))), obj_below h.res hb, h.lin.below hb, obj_below h.box hb, h.rc.below hb⟩
theorem PS.read (h : PS S g w wr lv ls u0 u1 u2 u3 c) (hb : Below S wr w') (hk : KeepBox wr w') (hrc : RC S w' a0 a1 a2 a3 c') :
  PS S g w ((((w'.setCell ⟨g, 0, none⟩ a0).setCell ⟨g, 1, none⟩ a1).setCell ⟨g, 2, none⟩ a2).setCell ⟨g, 3, none⟩ a3) lv ls a0 a1 a2 a3 c' := by
 have hl := h.lt
 have hx := hk _ _ _ _ (by decide) h.box
 have x1 := setCell_obj w' g 0 a0 hx
 have x2 := setCell_obj _ g 1 a1 x1
 have x3 := setCell_obj _ g 2 a2 x2
 have x4 := setCell_obj _ g 3 a3 x3
 refine ⟨hl, ((((h.bel.trans hb).setCell (by show S ≤ g; omega) _).setCell (by show S ≤ g; omega) _).setCell (by show S ≤ g; omega) _).setCell (by show S ≤ g; omega) _, ?_, ?_, ?_, ?_⟩
 ·rw [blk_set_other _ _ _ _ (by show S ≠ g; omega), blk_set_other _ _ _ _ (by show S ≠ g; omega), blk_set_other _ _ _ _ (by show S ≠ g; omega), blk_set_other _ _ _ _ (by show S ≠ g; omega)]
  exact hk _ _ _ _ (by decide) h.res
 ·exact ((((h.lin.keep hk).box hx (by decide)).box x1 (by decide)).box x2 (by decide)).box x3 (by decide)
 ·rw [x4]; rfl
 ·exact (((hrc.box (Nat.le_of_lt hl) hx).box (Nat.le_of_lt hl) x1).box (Nat.le_of_lt hl) x2).box (Nat.le_of_lt hl) x3
theorem lic_set3 {w' : World} {y : List Value} {x : License} {t : ByteArray} (ht : t.size ≤ maxLen) (hl : y.length = Lay.n License) (h : Lay.is w' (fun j => y[j]?) x) : Lay.is w' (fun j => (y.set 3 (.string t))[j]?) { x with text := t } := by
 obtain ⟨g0, g1, g2, g3, s0, s1, s2, s3⟩ := License.is_iff.1 h
 have hl : y.length = 4 := hl
 refine License.is_iff.2 ⟨?_, ?_, ?_, ?_, s0, s1, s2, ht⟩
 ·show (y.set 3 _)[0]? = _; rw [List.getElem?_set_ne (by decide)]; exact g0
 ·show (y.set 3 _)[1]? = _; rw [List.getElem?_set_ne (by decide)]; exact g1
 ·show (y.set 3 _)[2]? = _; rw [List.getElem?_set_ne (by decide)]; exact g2
 ·show (y.set 3 _)[3]? = _; rw [List.getElem?_set_self (by omega)]
theorem set_last {α : Type} (pre : List α) (x y : α) : (pre ++ [x]).set pre.length y = pre ++ [y] := by
 rw [List.set_append_right _ _ (Nat.le_refl _)]; simp
theorem at_last {α : Type} (pre : List α) (x : α) : (pre ++ [x])[pre.length]? = some x := by
 rw [List.getElem?_append_right (Nat.le_refl _)]; simp
theorem PS.text {q : Nat} {M m : Nat} {pre : List License} {x : License} {t : ByteArray} (h : PS S g w wr lv ls (.slice (some ⟨q, 0, none⟩) M m) u1 u2 u3 { c with licenses := pre ++ [x] }) (ht : t.size ≤ maxLen) :
  PS S g w (wr.setCell ⟨q, pre.length * 4 + 3, none⟩ (.string t)) lv ls (.slice (some ⟨q, 0, none⟩) M m) u1 u2 u3 { c with licenses := pre ++ [{ x with text := t }] } := by
 obtain ⟨q', y, he, hn, hB, hq, hl, fx, sx, cur, hh⟩ := h.rc.lic.elem (at_last pre x)
 cases he
 have hA := agree_setCell (j := pre.length * 4 + 3) (u := .string t) hB hh
 have hp := h.rc.lic.put1 (by decide) (at_last pre x) (q := 3) (by decide) (u := .string t) (x' := { x with text := t }) (fun y w' hl h => lic_set3 ht hl h)
 rw [set_last] at hp
 exact ⟨h.lt, h.bel.setCell hB _, hA.obj h.res (by decide), h.lin.agree hA (by decide), hA.obj h.box (by decide), h.rc.set_lic (Below.refl _ _) hA hp⟩
end
end Go.Proofs.YtaneolfnnkppbaaGreatDoor
