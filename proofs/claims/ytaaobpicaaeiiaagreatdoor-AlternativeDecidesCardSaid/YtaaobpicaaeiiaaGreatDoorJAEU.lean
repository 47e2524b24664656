/- The plain meaning of alternative.Expr. No program in sight. -/
import Derived.Test.YtaaobpicaaeiiaaGreatDoorJExpG
import Derived.Test.YtaaobpicaaeiiaaGreatDoorJCmpU
import Derived.Test.YtaaobpicaaeiiaaGreatDoorJLexU
import Derived.Test.YtaaobpicaaeiiaaGreatDoorJRdU
set_option linter.all false
namespace Go.Proofs.YtaaobpicaaeiiaaGreatDoor
open Go

def termE (t : Term) : LExpr := .mk 0 t.license t.exception []
def nodeA (k : Int) : List LExpr → LExpr
 | [x] => x
 | ks => .mk k ByteArray.empty ByteArray.empty ks
theorem nodeA_one (k : Int) (x : LExpr) : nodeA k [x] = x := rfl
theorem nodeA_ne {k : Int} {ks : List LExpr} (h : ks.length ≠ 1) : nodeA k ks = .mk k ByteArray.empty ByteArray.empty ks := by
 match ks, h with
 | [], _ => rfl
 | [x], h => simp at h
 | x :: y :: r, _ => rfl
def altE (a : List Term) : LExpr := nodeA 2 (a.map termE)
def orAll (l : List (List Term)) : LExpr := nodeA 3 (l.map altE)
def zeroE : LExpr := .mk 0 ByteArray.empty ByteArray.empty []
def exprA (l : List (List Term)) : LExpr × Int :=
 if checkA l != 0 || (l.length : Int) == 0 || l.any (fun a => (a.length : Int) == 0) then (zeroE, 1) else if decide ((64 : Int) < sizeE (orAll l)) then (zeroE, 10) else (orAll l, 0)
end Go.Proofs.YtaaobpicaaeiiaaGreatDoor
namespace Go.Proofs.YtaaobpicaaeiiaaGreatDoor
open Go Go.RowKit Go.ChangeShapes Go.Lib

theorem run_append_at {P : Program} (w : World) (base : Nat) (t ty e : TypeId) (i : TypeInfo) (z : Value) (size bytes : Nat) (ht : P.underlying t = some (.slice e)) (hi : P.info? e = some i) (hz : i.zero = some z)
  (hsize : i.size = size) (hby : i.bytes = bytes) (hzs : z.cells.size = size) (hsz : 0 < size)
  (v : Value) (n : Nat) (xs : List Value) (hown : w.ownsRow base e size v n xs)
  (a : Addr) (c : Nat) (news : List Value) (hl : news.length = size) (hnews : ∀ j u, news[j]? = some u → w.cell? (a.add j) = some u) (h1 : ∀ u ∈ news, u.oneCell' = true)
  (h63 : n + 1 ≤ maxLen) (hbytes : (n + 1) * bytes ≤ 140737488355328) (hbase : base ≤ w.heap.size) :
  ∃ v' w', (Builtin.append_ #[t, t] ty #[v, .slice (some a) 1 c]).run P w = .ok v' w' ∧ w'.ownsRow base e size v' (n + 1) (xs ++ news) ∧ w.grownBy w' v.ownBlock ∧ (v'.ownBlock = v.ownBlock ∨ v'.ownBlock = some w.heap.size) := by
 have hl1 : news.length = 1 * size := by omega
 obtain ⟨v', w', hr, h2, h3, -⟩ := run_append_own (P := P) w base t ty e i z size bytes ht hi hz hsize hby hzs hsz v n xs hown a 1 c news hl1 hnews h1 h63 hbytes hbase
 refine ⟨v', w', hr, h2, h3, ?_⟩
 subst hsize
 subst hby
 have hsmall : n + 1 ≤ 9223372036854775807 := by simp only [maxLen] at h63; omega
 rcases hown.2 with ⟨rfl, rfl⟩ | ⟨g, cap, cur, rfl, hbg, hg, hnc, hcm, hcs, htake⟩
 ·have hr2 := run_append_nil (P := P) (w := w) t ty e i z ht hi hz a 1 c news hl1 hnews (by omega) (by omega) (by simp only [Nat.zero_add] at hbytes; omega)
  rw [hr2] at hr
  injection hr with hv hw
  right; rw [← hv]; rfl
 ·by_cases hroom : n + 1 ≤ cap
  ·have hfit : n * i.size + news.length ≤ cur.size := by
    rw [hl1, hcs, ← Nat.add_mul]; exact Nat.mul_le_mul_right _ hroom
   have hr2 := run_append_room (P := P) w t ty e i ht hi g n cap cur hg a 1 c news hl1 hnews h1 hroom hfit
   rw [hr2] at hr
   injection hr with hv hw
   left; rw [← hv]; rfl
  ·have holds : ∀ j u, xs[j]? = some u → w.cell? ((⟨g, 0, none⟩ : Addr).add j) = some u := hown.cells (g := g) rfl
   have hr2 := run_append_grow (P := P) (w := w) t ty e i z ht hi hz ⟨g, 0, none⟩ n cap xs hown.1 holds a 1 c news hl1 hnews (by omega) (by omega) (growslice_fits (by omega) hbytes)
   rw [hr2] at hr
   injection hr with hv hw
   right; rw [← hv]; rfl
def Mr (B : Nat) (v : Value) (k : Nat) : Prop := k < B ∨ v.ownBlock = some k
def OwnN (B : Nat) (w : World) (v : Value) (xs : List LExpr) : Prop :=
 ∃ cs : List (List Value), cs.length = xs.length ∧ w.ownsRow B 30 4 v xs.length cs.flatten ∧
  ∀ (j : Nat) (y : List Value) (x : LExpr), cs[j]? = some y → xs[j]? = some x → y.length = 4 ∧ ∀ w', Kv (Mr B v) w w' → Lay.is w' (fun q => y[q]?) x
theorem OwnN.nil (B : Nat) (w : World) : OwnN B w (.slice none 0 0) [] := ⟨[], rfl, World.ownsRow_nil _ _ _ _, fun j y x h => by simp at h⟩
theorem OwnN.is {B : Nat} {w : World} {v : Value} {xs : List LExpr} (h : OwnN B w v xs) : Is w v xs := by
 obtain ⟨cs, h1, h2, h3⟩ := h
 refine OwnL.is (B := B) (E := fun _ => False) (e := 30) ⟨cs, h1, h2, fun j y x hy hx => ⟨(h3 j y x hy hx).1, fun w' ha => (h3 j y x hy hx).2 w' ⟨ha.1, fun k c t fr _ hc => ?_⟩⟩⟩
 rw [ha.2 k (heap_lt hc) (Or.inr (by rintro ⟨_, _, _, hf, _⟩; exact hf))]; exact hc
theorem OwnN.kv {B : Nat} {w w' : World} {v : Value} {xs : List LExpr} (h : OwnN B w v xs) (hk : Kv (fun k => k < B) w w') : OwnN B w' v xs := by
 obtain ⟨cs, h1, ⟨h2, h2'⟩, h3⟩ := h
 refine ⟨cs, h1, ⟨h2, h2'.imp id ?_⟩, fun j y x hy hx => ⟨(h3 j y x hy hx).1, fun w2 k2 => (h3 j y x hy hx).2 w2 ((hk.weaken fun _ h => Or.inl h).trans k2)⟩⟩
 rintro ⟨g, cap, cur, a, b, c, d⟩
 exact ⟨g, cap, cur, a, b, hk.2 g cur _ _ (by omega) c, d⟩
theorem OwnN.below {B : Nat} {w w' : World} {v : Value} {xs : List LExpr} (h : OwnN B w v xs) (hb : Below w.heap.size w w') : OwnN B w' v xs := h.kv (Kv.of_below hb)
theorem OwnN.snoc {B : Nat} {w w' : World} {v v' : Value} {xs : List LExpr} {y : List Value} {x : LExpr} (h : OwnN B w v xs) (hy : y.length = 4) (hx : ∀ w2, Kv (Mr B v) w w2 → Lay.is w2 (fun q => y[q]?) x)
  (ho : ∀ cs, w.ownsRow B 30 4 v xs.length cs → w'.ownsRow B 30 4 v' (xs.length + 1) (cs ++ y)) (hg : w.grownBy w' v.ownBlock) (hv : v'.ownBlock = v.ownBlock ∨ v'.ownBlock = some w.heap.size) : OwnN B w' v' (xs ++ [x]) := by
 obtain ⟨cs, h1, h2, h3⟩ := h
 have key : ∀ w2, Kv (Mr B v') w' w2 → Kv (Mr B v) w w2 := by
  intro w2 hk
  refine ⟨Nat.le_trans hg.size hk.1, fun k c t fr hm hc => hk.2 k c t fr ?_ (obj_grow hc hg fun e => hm (Or.inr e.symm))⟩
  rintro (h | h)
  ·exact hm (Or.inl h)
  ·rcases hv with e | e
   ·exact hm (Or.inr (e ▸ h))
   ·rw [e] at h; cases h; exact absurd (heap_lt hc) (Nat.lt_irrefl _)
 refine ⟨cs ++ [y], by simp [h1], ?_, ?_⟩
 ·have := ho _ h2
  simpa using this
 ·intro j y2 x2 hj hjx
  rcases Nat.lt_or_ge j cs.length with hlt | hge
  ·rw [List.getElem?_append_left hlt] at hj
   rw [List.getElem?_append_left (by omega)] at hjx
   exact ⟨(h3 j y2 x2 hj hjx).1, fun w2 k2 => (h3 j y2 x2 hj hjx).2 w2 (key w2 k2)⟩
  ·rw [List.getElem?_append_right hge] at hj
   rw [List.getElem?_append_right (by omega)] at hjx
   have hj0 : j - cs.length = 0 := by
    rcases Nat.eq_zero_or_pos (j - cs.length) with h | h
    ·exact h
    ·rw [List.getElem?_eq_none (by simp; omega)] at hj; cases hj
   rw [hj0] at hj
   rw [show j - xs.length = 0 by omega] at hjx
   cases hj; cases hjx
   exact ⟨hy, fun w2 k2 => hx w2 (key w2 k2)⟩
theorem wpo_appN {o : Oper} {a : Act} {K : Act → World → Prop} {Q : Exit → Act → World → Prop} {w : World} (s x : Operand)
  (ho : o.op = .call { callee := .builtin .append, args := #[s, x], argTypes := #[28, 28] })
  (B : Nat) (v : Value) (xs : List LExpr) (hs : a.eval s = v) (hown : OwnN B w v xs)
  (k : Nat) (news : Array Value) (y : LExpr) (hx : a.eval x = .slice (some ⟨k, 0, none⟩) 1 1) (hl : news.size = 4) (hk : w.heap[k]? = some (.cells news 30 (0, 0))) (h1 : ∀ u ∈ news.toList, u.oneCell' = true)
  (hy : ∀ w2, Kv (Mr B v) w w2 → Lay.is w2 (fun q => news.toList[q]?) y) (hb : xs.length ≤ 1000000) (hB : B ≤ w.heap.size)
  (h : ∀ v' w', OwnN B w' v' (xs ++ [y]) → w.grownBy w' v.ownBlock → (v'.ownBlock = v.ownBlock ∨ v'.ownBlock = some w.heap.size) → K (a.put o.dst v') w') : o.wp Tryz.prog a w K Q := by
 obtain ⟨i0, hi, hz0, hz1, hz2⟩ := info_parts expRow
 have hcells : ∀ j u, news.toList[j]? = some u → w.cell? ((⟨k, 0, none⟩ : Addr).add j) = some u := by
  intro j u hj
  have e2 : (⟨k, 0, none⟩ : Addr).add j = ⟨k, j, none⟩ := by
   unfold Addr.add; split
   ·subst j; rfl
   ·simp
  rw [e2]
  exact objcell hk (by simpa using hj)
 obtain ⟨cs, g1, g2, g3⟩ := id hown
 obtain ⟨v', w', hr, h2, h3, h4⟩ := run_append_at (P := Tryz.prog) w B 28 o.type 30 i0 _ 4 64 Tryz.underlying28 hi hz0 hz1 hz2 rfl (by decide) v xs.length cs.flatten g2 ⟨k, 0, none⟩ 1 news.toList (by simp [hl]) hcells h1 (by unfold maxLen; omega) (by omega) hB
 unfold Oper.wp execOp
 simp only [ho, resolve, invoke, builtin, Sem.run_bind, Sem.run_pure, Result.andThen_ok, List.map_toArray, List.map_cons, List.map_nil, hs, hx, hr]
 refine h v' w' (hown.snoc (by simp [hl]) hy (fun cs2 hc2 => ?_) h3 h4) h3 h4
 rw [OwnL.row_unique hc2 g2]; exact h2
end Go.Proofs.YtaaobpicaaeiiaaGreatDoor
namespace Go.Proofs.YtaaobpicaaeiiaaGreatDoor
open Go Go.RowKit Go.ChangeShapes Go.Lib

theorem OwnN.one {B : Nat} {w : World} {v : Value} {k1 : Int} {n1 x1 : ByteArray} {ks1 : List LExpr} (h : OwnN B w v [LExpr.mk k1 n1 x1 ks1]) :
  ∃ (g cap : Nat) (a1 : Option Addr) (c1 : Nat), v = .slice (some ⟨g, 0, none⟩) 1 cap ∧ w.cell? ⟨g, 0, none⟩ = some (.int .i64 k1) ∧ w.cell? ⟨g, 1, none⟩ = some (.string n1) ∧ w.cell? ⟨g, 2, none⟩ = some (.string x1) ∧ w.cell? ⟨g, 3, none⟩ = some (.slice a1 ks1.length c1) ∧
   ∀ w2, Kv (Mr B v) w w2 → Is w2 (.agg #[.int .i64 k1, .string n1, .string x1, .slice a1 ks1.length c1]) (LExpr.mk k1 n1 x1 ks1) := by
 obtain ⟨cs, h1, ho, h3⟩ := h
 match cs, h1 with
 | [y], _ =>
  obtain ⟨hl, hy⟩ := h3 0 y _ rfl rfl
  obtain ⟨G, cap, cur, rfl, hBG, hGo, hcap, hcm, hcur⟩ := own_shape ho (by simp)
  obtain ⟨a1, c1, g0, g1, g2, g3, -⟩ := LExpr.is_iff.1 (hy w (Kv.refl _ _))
  have hc : ∀ (j : Nat) (u : Value), y[j]? = some u → w.cell? ⟨G, j, none⟩ = some u := by
   intro j u hj
   refine objcell hGo ?_
   have hcur' : cur.toList.take 4 = y := by simpa using hcur
   rw [← hcur', List.getElem?_take] at hj
   split at hj
   ·simpa using hj
   ·cases hj
  have hyy : y = [.int .i64 k1, .string n1, .string x1, .slice a1 ks1.length c1] := by
   refine List.ext_getElem? fun j => ?_
   match j with
   | 0 => simpa using g0
   | 1 => simpa using g1
   | 2 => simpa using g2
   | 3 => simpa using g3
   | j + 4 => rw [List.getElem?_eq_none (by omega), List.getElem?_eq_none (by simp)]
  refine ⟨G, cap, a1, c1, rfl, hc 0 _ g0, hc 1 _ g1, hc 2 _ g2, hc 3 _ g3, fun w2 k2 => ⟨#[.int .i64 k1, .string n1, .string x1, .slice a1 ks1.length c1], rfl, rfl, ?_⟩⟩
  have := hy w2 k2
  rw [hyy] at this
  refine Eq.mp (congrArg (fun f => Lay.is w2 f (LExpr.mk k1 n1 x1 ks1)) (funext fun q => ?_)) this
  simp
set_option maxRecDepth 100000 in
set_option maxHeartbeats 1000000 in
theorem Expr1_p (W : World) (v : Value) (a : List Term) (h : Is W v a) : Calls Tryz.prog 77 #[v] W fun e W' => e = .returned (.bool ((a.length : Int) == 0)) ∧ Below W.heap.size W W' := by
 obtain ⟨p, c, rfl, -⟩ := list_inv h
 clear h
 go_enter Tryz.func77, Tryz.ntmps77
 go_wp2
 go_ret
 exact ⟨rfl, (by repeat (first | exact zR _ _ | assumption | refine zN ?_ _ | refine zD ?_ | refine zA ?_ ?_ _ | refine zS ?_ ?_ _ | refine zT ?_ (zM (by assumption) ?_) | exact Nat.le_refl _ | (simp <;> omega) | omega))⟩
set_option maxRecDepth 100000 in
set_option maxHeartbeats 1000000 in
theorem Expr2_p (B : Nat) (W : World) (kv : Value) (kind : Int) (ks : List LExpr) (h : OwnN B W kv ks) (hki : inI64 kind) (hB : B ≤ W.heap.size) :
  Calls Tryz.prog 78 #[.int .i64 kind, kv] W fun e W' => ∃ v, e = .returned v ∧ Below W.heap.size W W' ∧ LE B W' v (nodeA kind ks) := by
 have HO := Lib.hid h
 have hI := h.is
 have HI := Lib.hid hI
 by_cases h1 : ks.length = 1
 ·match ks, h1 with
  | [x], _ =>
   obtain ⟨k1, n1, x1, ks1⟩ := x
   obtain ⟨G, cap, a1, c1, rfl, q0, q1, q2, q3, hE⟩ := OwnN.one (B := B) h
   have HE := Lib.hid hE
   have hGl := cell_lt q0
   clear h hI hE
   go_enter Tryz.func78, Tryz.ntmps78
   go_wp2
   have hO := World.alloc_heap_new W (.cells #[.int .i64 k1, .string n1, .string x1, .slice a1 ks1.length c1] 30)
   have e0 := objcell hO (j := 0) rfl
   have e1 := objcell hO (j := 1) rfl
   have e2 := objcell hO (j := 2) rfl
   have e3 := objcell hO (j := 3) rfl
   have hbW : Below W.heap.size W (W.alloc (.cells #[.int .i64 k1, .string n1, .string x1, .slice a1 ks1.length c1] 30)) := (by repeat (first | exact zR _ _ | assumption | refine zN ?_ _ | refine zD ?_ | refine zA ?_ ?_ _ | refine zS ?_ ?_ _ | refine zT ?_ (zM (by assumption) ?_) | exact Nat.le_refl _ | (simp <;> omega) | omega))
   refine bodyPost_ret (v := .agg #[.int .i64 k1, .string n1, .string x1, .slice a1 ks1.length c1]) ?_ rfl ⟨_, rfl, hbW, fun w2 k2 => ?_⟩
   ·clear hbW hO
    generalize (W.alloc (.cells #[.int .i64 k1, .string n1, .string x1, .slice a1 ks1.length c1] 30)) = w8 at *
    simp [results, Tryz.results78, go_sem, e0, e1, e2, e3]
   ·exact HE.out w2 (((Kv.of_below hbW).trans (k2.weaken fun _ h => Or.inl h)))
 ·obtain ⟨p, c, rfl, hnc, hcm, hr⟩ := list_inv hI
  have hn1 : ((ks.length : Int) == 1) = false := by simp; omega
  rw [nodeA_ne h1]
  clear h hI h1 hr
  generalize hN : ks.length = N at *
  have HN := Lib.hid hN
  clear hN
  go_enter Tryz.func78, Tryz.ntmps78
  go_wp2
  have hO := World.alloc_heap_new W (.cells #[.int .i64 kind, .string ⟨#[]⟩, .string ⟨#[]⟩, .slice p N c] 30)
  have e0 := objcell hO (j := 0) rfl
  have e1 := objcell hO (j := 1) rfl
  have e2 := objcell hO (j := 2) rfl
  have e3 := objcell hO (j := 3) rfl
  have hbW : Below W.heap.size W (W.alloc (.cells #[.int .i64 kind, .string ⟨#[]⟩, .string ⟨#[]⟩, .slice p N c] 30)) := (by repeat (first | exact zR _ _ | assumption | refine zN ?_ _ | refine zD ?_ | refine zA ?_ ?_ _ | refine zS ?_ ?_ _ | refine zT ?_ (zM (by assumption) ?_) | exact Nat.le_refl _ | (simp <;> omega) | omega))
  refine bodyPost_ret (v := .agg #[.int .i64 kind, .string ⟨#[]⟩, .string ⟨#[]⟩, .slice p N c]) ?_ rfl ⟨_, rfl, hbW, fun w2 k2 => ?_⟩
  ·clear hbW hO
   generalize (W.alloc (.cells #[.int .i64 kind, .string ⟨#[]⟩, .string ⟨#[]⟩, .slice p N c] 30)) = w8 at *
   simp [results, Tryz.results78, go_sem, e0, e1, e2, e3]
  ·have h2 := (HO.out.kv ((Kv.of_below hbW).trans k2)).is
   obtain ⟨p2, c2, he, -, -, hr2⟩ := list_inv h2
   cases he
   have := LExpr.mk' (ks := ks) hki (show ByteArray.empty.size ≤ maxLen by decide) (show ByteArray.empty.size ≤ maxLen by decide) (by rw [HN.out]; exact hnc) hcm hr2
   rw [HN.out] at this
   exact this
end Go.Proofs.YtaaobpicaaeiiaaGreatDoor
namespace Go.Proofs.YtaaobpicaaeiiaaGreatDoor
open Go Go.RowKit Go.ChangeShapes Go.Lib

theorem wp_appN {ops : Array Oper} {rest : List Oper} {o : Oper} {a : Act} {Q : Exit → Act → World → Prop} {w : World} (hgd : o.guard = none) (s x : Operand)
  (ho : o.op = .call { callee := .builtin .append, args := #[s, x], argTypes := #[28, 28] })
  (B : Nat) (v : Value) (xs : List LExpr) (hs : a.eval s = v) (hown : OwnN B w v xs)
  (k : Nat) (news : Array Value) (y : LExpr) (hx : a.eval x = .slice (some ⟨k, 0, none⟩) 1 1) (hl : news.size = 4) (hk : w.heap[k]? = some (.cells news 30 (0, 0))) (h1 : ∀ u ∈ news.toList, u.oneCell' = true)
  (hy : ∀ w2, Kv (Mr B v) w w2 → Lay.is w2 (fun q => news.toList[q]?) y) (hb : xs.length ≤ 1000000) (hB : B ≤ w.heap.size)
  (h : ∀ v' w', OwnN B w' v' (xs ++ [y]) → w.grownBy w' v.ownBlock → (v'.ownBlock = v.ownBlock ∨ v'.ownBlock = some w.heap.size) → wpList Tryz.prog ops Q rest (a.put o.dst v') w') : wpList Tryz.prog ops Q (o :: rest) a w :=
 wpList_plain hgd fun _ hK => wpo_appN s x ho B v xs hs hown k news y hx hl hk h1 hy hb hB fun v' w' h2 h3 h4 => hK _ _ (h v' w' h2 h3 h4)
def rowTE (y : List Term) (j : Nat) : List LExpr := (y.take j).map termE
def rowAE (l : List (List Term)) (i : Nat) : List LExpr := (l.take i).map altE
theorem rowTE_succ {y : List Term} {j : Nat} {t : Term} (h : y[j]? = some t) : rowTE y (j + 1) = rowTE y j ++ [termE t] := by unfold rowTE; rw [take_at h, List.map_append]; rfl
theorem rowAE_succ {l : List (List Term)} {i : Nat} {a : List Term} (h : l[i]? = some a) : rowAE l (i + 1) = rowAE l i ++ [altE a] := by unfold rowAE; rw [take_at h, List.map_append]; rfl
theorem rowTE_all {y : List Term} {j : Nat} (h : y.length = j) : rowTE y j = y.map termE := by subst h; unfold rowTE; rw [List.take_length]
theorem rowAE_all {l : List (List Term)} {i : Nat} (h : l.length = i) : rowAE l i = l.map altE := by subst h; unfold rowAE; rw [List.take_length]
theorem rowTE_len (y : List Term) (j : Nat) : (rowTE y j).length ≤ j := by unfold rowTE; rw [List.length_map, List.length_take]; omega
theorem rowAE_len (l : List (List Term)) (j : Nat) : (rowAE l j).length ≤ j := by unfold rowAE; rw [List.length_map, List.length_take]; omega
theorem size_nodeA (k : Int) (ks : List LExpr) : sizeE (nodeA k ks) ≤ sizeKs ks + 1 := by
 by_cases q : ks.length = 1
 ·match ks, q with
  | [x], _ => rw [nodeA_one, sizeKs, sizeKs]; omega
 ·rw [nodeA_ne q, sizeE]; exact Nat.le_refl _
theorem size_terms : ∀ a : List Term, sizeKs (a.map termE) = a.length
 | [] => rfl
 | t :: r => by rw [List.map_cons, sizeKs, size_terms r, termE, sizeE, sizeKs, List.length_cons]; omega
theorem size_alts : ∀ l : List (List Term), (∀ a ∈ l, a.length ≤ 64) → sizeKs (l.map altE) ≤ l.length * 65
 | [], _ => by simp [sizeKs]
 | a :: r, h => by
  have h1 := size_alts r fun x hx => h x (by simp [hx])
  have h2 := size_nodeA 2 (a.map termE)
  rw [size_terms] at h2
  have h3 := h a (by simp)
  rw [List.map_cons, sizeKs, List.length_cons]
  show sizeE (nodeA 2 (a.map termE)) + _ ≤ _
  omega
theorem size_orAll {l : List (List Term)} (h : l.length ≤ 64) (h2 : ∀ a ∈ l, a.length ≤ 64) : sizeE (orAll l) ≤ 1000000 := by
 have h1 := size_alts l h2
 have h3 := size_nodeA 3 (l.map altE)
 show sizeE (nodeA 3 (l.map altE)) ≤ _
 omega
theorem check_sizes {l : List (List Term)} (h : checkA l = 0) : l.length ≤ 64 ∧ ∀ a ∈ l, a.length ≤ 64 := by
 unfold checkA at h
 cases q : decide ((64 : Int) < l.length) || l.any (fun a => decide ((64 : Int) < a.length))
 ·rw [Bool.or_eq_false_iff, List.any_eq_false] at q
  refine ⟨by have := q.1; simp at this; omega, fun a ha => ?_⟩
  have := q.2 a ha; simp at this; omega
 ·rw [q] at h; simp at h
theorem OwnN.blk {B : Nat} {w : World} {v : Value} {xs : List LExpr} {k : Nat} (h : OwnN B w v xs) (hk : v.ownBlock = some k) : k < w.heap.size := by
 obtain ⟨cs, -, h2, -⟩ := h
 rcases h2.2 with ⟨rfl, -⟩ | ⟨G, cap, cur, rfl, h3, h4, -⟩
 ·simp [Value.ownBlock] at hk
 ·simp only [Value.ownBlock] at hk
  cases hk
  exact heap_lt h4
theorem LExpr.eta (x : LExpr) : ∃ k n e ks, x = .mk k n e ks := by cases x; exact ⟨_, _, _, _, rfl⟩
theorem LE.elem {lo B : Nat} {w w1 : World} {u : Value} {k1 : Int} {n1 x1 : ByteArray} {ks1 : List LExpr} {a1 : Option Addr} {c1 : Nat} (he : LE lo w (.agg #[.int .i64 k1, .string n1, .string x1, .slice a1 ks1.length c1]) (.mk k1 n1 x1 ks1))
  (hk : Kv (fun k => k < lo) w w1) (hB : B ≤ lo) (hu : ∀ k, u.ownBlock = some k → k < lo) : ∀ w2, Kv (Mr B u) w1 w2 → Lay.is w2 (fun q => (#[.int .i64 k1, .string n1, .string x1, .slice a1 ks1.length c1] : Array Value).toList[q]?) (LExpr.mk k1 n1 x1 ks1) := by
 intro w2 k2
 obtain ⟨cs, hs, hv, hl⟩ := he w2 (hk.trans (k2.weaken fun k h => by
  rcases h with h | h
  ·omega
  ·exact hu k h))
 obtain rfl := (Value.agg.inj hv).symm
 refine Eq.mp (congrArg (fun f => Lay.is w2 f (LExpr.mk k1 n1 x1 ks1)) (funext fun q => ?_)) hl
 simp
set_option maxRecDepth 100000 in
set_option maxHeartbeats 4000000 in
theorem Expr_p (w : World) (v : Value) (l : List (List Term)) (h : Is w v l) :
  Calls Tryz.prog 30 #[v] w fun e w' => ∃ v', e = .returned (.tuple #[v', .int .i64 (exprA l).2]) ∧ Is w' v' (exprA l).1 ∧ Below w.heap.size w w' := by
 have HI := Lib.hid h
 obtain ⟨a, c, rfl, hnc, hcm, hr⟩ := list_inv h
 simp only [maxLen] at hcm
 have HR := Lib.hid hr
 have eg1 : ∀ args w, (callFunc 77 args).run Tryz.prog w = .ok (.enter 77 args) w := enters_of Tryz.func77 (by kernel_rfl) rfl
 have HF := Lib.hid (fun w h => ContainsFuncAlt w (.slice a l.length c) l (fun a => (a.length : Int) == 0) 77 #[] eg1 h (fun i x _ W v _ hv => Expr1_p W v x hv))
 have HCK := Lib.hid (fun w h => CheckA_p w (.slice a l.length c) l h)
 have HE : Hid (exprA l = if checkA l != 0 || (l.length : Int) == 0 || l.any (fun a => (a.length : Int) == 0) then (zeroE, 1) else if decide ((64 : Int) < sizeE (orAll l)) then (zeroE, 10) else (orAll l, 0)) := rfl
 clear hr h eg1
 generalize exprA l = EA at *
 generalize (l.any fun a => (a.length : Int) == 0) = bb at *
 obtain ⟨ck, hck⟩ : ∃ ck, ck = checkA l := ⟨_, rfl⟩
 rw [← hck] at HE HCK
 have HCC := Lib.hid hck
 clear hck
 generalize hN : l.length = N at *
 have HN := Lib.hid hN
 clear hN
 go_enter Tryz.func30, Tryz.ntmps30
 go_wp2_with fail
 have hb0 : Below w.heap.size w (w.alloc (.cells #[.int .i64 0, .string ⟨#[]⟩, .string ⟨#[]⟩, .slice none 0 0] 30)) := (by repeat (first | exact zR _ _ | assumption | refine zN ?_ _ | refine zD ?_ | refine zA ?_ ?_ _ | refine zS ?_ ?_ _ | refine zT ?_ (zM (by assumption) ?_) | exact Nat.le_refl _ | (simp <;> omega) | omega))
 have hO0 := World.alloc_heap_new w (.cells #[.int .i64 0, .string ⟨#[]⟩, .string ⟨#[]⟩, .slice none 0 0] 30)
 generalize (w.alloc (.cells #[.int .i64 0, .string ⟨#[]⟩, .string ⟨#[]⟩, .slice none 0 0] 30)) = w0 at *
 refine (HCK.out w0 (HI.out.mono hb0)).mono ?_
 rintro e w1 ⟨rfl, hb1⟩
 have HO1 := Lib.hid (obj_below hO0 hb1)
 have HB1 : Hid (Below w.heap.size w w1) := Lib.hid (hb0.trans (hb1.mono hb0.size))
 have hs1 : w.heap.size < w1.heap.size := heap_lt HO1.out
 clear hb0 hO0 hb1
 have bad : ∀ (W : World), Below w.heap.size w W → EA = (zeroE, 1) → ∃ v', Ending.returned (.tuple #[.agg #[.int .i64 0, .string ⟨#[]⟩, .string ⟨#[]⟩, .slice none 0 0], .int .i64 1]) = .returned (.tuple #[v', .int .i64 EA.2]) ∧ Is W v' EA.1 ∧ Below w.heap.size w W := by
  intro W hb he
  subst he
  exact ⟨_, rfl, (leaf_is 0 W (show ByteArray.empty.size ≤ maxLen by decide)).is, hb⟩
 have HBAD := Lib.hid bad
 clear bad
 have f0 := objfrozen HO1.out (j := 0)
 have z0 := objcell HO1.out (j := 0) rfl
 have f1 := objfrozen HO1.out (j := 1)
 have z1 := objcell HO1.out (j := 1) rfl
 have f2 := objfrozen HO1.out (j := 2)
 have z2 := objcell HO1.out (j := 2) rfl
 have f3 := objfrozen HO1.out (j := 3)
 have z3 := objcell HO1.out (j := 3) rfl
 cases q0 : (ck != 0)
 case true =>
  have HQ : Hid (EA = (zeroE, 1)) := by show _ = _; rw [HE.out, q0]; rfl
  go_wp2
  have hX3 := set4_obj (v0 := .int .i64 0) (v1 := .string ⟨#[]⟩) (v2 := .string ⟨#[]⟩) (v3 := .slice none 0 0) HO1.out
  have hB3 : Below w.heap.size w (set4 w1 w.heap.size (.int .i64 0) (.string ⟨#[]⟩) (.string ⟨#[]⟩) (.slice none 0 0)) := (((HB1.out.setCell (p := ⟨w.heap.size, 0, none⟩) (Nat.le_refl _) _).setCell (p := ⟨w.heap.size, 1, none⟩) (Nat.le_refl _) _).setCell (p := ⟨w.heap.size, 2, none⟩) (Nat.le_refl _) _).setCell (p := ⟨w.heap.size, 3, none⟩) (Nat.le_refl _) _
  have hP3 := HBAD.out _ hB3 HQ.out
  unfold set4 at hX3 hP3
  have e0 := objcell hX3 (j := 0) rfl
  have e1 := objcell hX3 (j := 1) rfl
  have e2 := objcell hX3 (j := 2) rfl
  have e3 := objcell hX3 (j := 3) rfl
  refine bodyPost_ret (v := .tuple #[.agg #[.int .i64 0, .string ⟨#[]⟩, .string ⟨#[]⟩, .slice none 0 0], .int .i64 1]) ?_ rfl hP3
  clear hX3 hB3 hP3
  generalize ((((w1.setCell ⟨w.heap.size, 0, none⟩ (.int .i64 0)).setCell ⟨w.heap.size, 1, none⟩ (.string ⟨#[]⟩)).setCell ⟨w.heap.size, 2, none⟩ (.string ⟨#[]⟩)).setCell ⟨w.heap.size, 3, none⟩ (.slice none 0 0)) = w8 at *
  simp [results, Tryz.results30, go_sem, e0, e1, e2, e3]
 cases q1 : ((N : Int) == 0)
 case true =>
  have HQ : Hid (EA = (zeroE, 1)) := by show _ = _; rw [HE.out, q0, q1]; rfl
  go_wp2
  have hX3 := set4_obj (v0 := .int .i64 0) (v1 := .string ⟨#[]⟩) (v2 := .string ⟨#[]⟩) (v3 := .slice none 0 0) HO1.out
  have hB3 : Below w.heap.size w (set4 w1 w.heap.size (.int .i64 0) (.string ⟨#[]⟩) (.string ⟨#[]⟩) (.slice none 0 0)) := (((HB1.out.setCell (p := ⟨w.heap.size, 0, none⟩) (Nat.le_refl _) _).setCell (p := ⟨w.heap.size, 1, none⟩) (Nat.le_refl _) _).setCell (p := ⟨w.heap.size, 2, none⟩) (Nat.le_refl _) _).setCell (p := ⟨w.heap.size, 3, none⟩) (Nat.le_refl _) _
  have hP3 := HBAD.out _ hB3 HQ.out
  unfold set4 at hX3 hP3
  have e0 := objcell hX3 (j := 0) rfl
  have e1 := objcell hX3 (j := 1) rfl
  have e2 := objcell hX3 (j := 2) rfl
  have e3 := objcell hX3 (j := 3) rfl
  refine bodyPost_ret (v := .tuple #[.agg #[.int .i64 0, .string ⟨#[]⟩, .string ⟨#[]⟩, .slice none 0 0], .int .i64 1]) ?_ rfl hP3
  clear hX3 hB3 hP3
  generalize ((((w1.setCell ⟨w.heap.size, 0, none⟩ (.int .i64 0)).setCell ⟨w.heap.size, 1, none⟩ (.string ⟨#[]⟩)).setCell ⟨w.heap.size, 2, none⟩ (.string ⟨#[]⟩)).setCell ⟨w.heap.size, 3, none⟩ (.slice none 0 0)) = w8 at *
  simp [results, Tryz.results30, go_sem, e0, e1, e2, e3]
 have hcf := HF.out w1 (HI.out.mono HB1.out)
 clear f0 f1 f2 f3 z0 z1 z2 z3
 go_wp2_with fail
 refine hcf.mono ?_
 rintro e w2 ⟨rfl, hb2⟩
 have HO2 := Lib.hid (obj_below HO1.out hb2)
 have HB2 : Hid (Below w.heap.size w w2) := Lib.hid (HB1.out.trans (hb2.mono HB1.out.size))
 clear hb2 hcf
 have f0 := objfrozen HO2.out (j := 0)
 have z0 := objcell HO2.out (j := 0) rfl
 have f1 := objfrozen HO2.out (j := 1)
 have z1 := objcell HO2.out (j := 1) rfl
 have f2 := objfrozen HO2.out (j := 2)
 have z2 := objcell HO2.out (j := 2) rfl
 have f3 := objfrozen HO2.out (j := 3)
 have z3 := objcell HO2.out (j := 3) rfl
 cases bb
 case true =>
  have HQ : Hid (EA = (zeroE, 1)) := by show _ = _; rw [HE.out, q0, q1]; rfl
  go_wp2
  have hX3 := set4_obj (v0 := .int .i64 0) (v1 := .string ⟨#[]⟩) (v2 := .string ⟨#[]⟩) (v3 := .slice none 0 0) HO2.out
  have hB3 : Below w.heap.size w (set4 w2 w.heap.size (.int .i64 0) (.string ⟨#[]⟩) (.string ⟨#[]⟩) (.slice none 0 0)) := (((HB2.out.setCell (p := ⟨w.heap.size, 0, none⟩) (Nat.le_refl _) _).setCell (p := ⟨w.heap.size, 1, none⟩) (Nat.le_refl _) _).setCell (p := ⟨w.heap.size, 2, none⟩) (Nat.le_refl _) _).setCell (p := ⟨w.heap.size, 3, none⟩) (Nat.le_refl _) _
  have hP3 := HBAD.out _ hB3 HQ.out
  unfold set4 at hX3 hP3
  have e0 := objcell hX3 (j := 0) rfl
  have e1 := objcell hX3 (j := 1) rfl
  have e2 := objcell hX3 (j := 2) rfl
  have e3 := objcell hX3 (j := 3) rfl
  refine bodyPost_ret (v := .tuple #[.agg #[.int .i64 0, .string ⟨#[]⟩, .string ⟨#[]⟩, .slice none 0 0], .int .i64 1]) ?_ rfl hP3
  clear hX3 hB3 hP3
  generalize ((((w2.setCell ⟨w.heap.size, 0, none⟩ (.int .i64 0)).setCell ⟨w.heap.size, 1, none⟩ (.string ⟨#[]⟩)).setCell ⟨w.heap.size, 2, none⟩ (.string ⟨#[]⟩)).setCell ⟨w.heap.size, 3, none⟩ (.slice none 0 0)) = w8 at *
  simp [results, Tryz.results30, go_sem, e0, e1, e2, e3]
 clear f0 f1 f2 f3 z0 z1 z2 z3
 have hck0 : checkA l = 0 := by have := HCC.out; rw [← this]; simpa using q0
 have HSZ := Lib.hid (check_sizes hck0)
 clear hck0
 have hN64 : N ≤ 64 := by have := HSZ.out.1; rw [HN.out] at this; exact this
 have hs2 : w.heap.size < w2.heap.size := heap_lt HO2.out
 go_wp2_with fail
 go_loopw [5, 27] (fun rv iv wr => ∃ i : Nat, i ≤ N ∧ iv = .int .i64 i ∧ Hid (Below w2.heap.size w2 wr) ∧ Hid (OwnN w2.heap.size wr rv (rowAE l i))) (fun _ iv _ => N - (intOf iv).toNat)
 case atStart => exact ⟨0, by omega, rfl, Lib.hid (Below.refl _ _), Lib.hid (OwnN.nil _ _)⟩
 case round =>
  obtain ⟨i, hi, rfl, HB, HO⟩ := hrel
  have hsr := HB.out.size
  by_cases hlt : i < N
  case neg =>
   have hiz : ¬ (i : Int) < (N : Int) := by omega
   have hOA : OwnN w2.heap.size wr u5 (l.map altE) := by have h1 := HO.out; rw [rowAE_all (l := l) (i := i) (by rw [HN.out]; omega)] at h1; exact h1
   have hX2 := obj_below HO2.out HB.out
   have hBW : Below w.heap.size w wr := HB2.out.trans (HB.out.mono (Nat.le_of_lt hs2))
   have hcall := Expr2_p w2.heap.size wr u5 3 (l.map altE) hOA (by unfold inI64; omega) hsr
   have HX2 := Lib.hid hX2
   have HBW := Lib.hid hBW
   clear hOA hX2 hBW HO
   go_wp2_with fail
   refine hcall.mono ?_
   rintro e w5 ⟨v5, rfl, hb5, he5⟩
   have hsz : sizeE (orAll l) ≤ 1000000 := size_orAll HSZ.out.1 HSZ.out.2
   have he5 : LE w2.heap.size w5 v5 (orAll l) := he5
   obtain ⟨k1, n1, x1, ks1, hE⟩ := LExpr.eta (orAll l)
   rw [hE] at he5
   obtain ⟨a1', c1', rfl, -⟩ := LExpr.inv he5.is
   have HIE : Hid (Is w5 (.agg #[.int .i64 k1, .string n1, .string x1, .slice a1' ks1.length c1']) (orAll l)) := by rw [hE]; exact he5.is
   have hbB : Below w5.heap.size w5 (w5.alloc (.cells #[.int .i64 k1, .string n1, .string x1, .slice a1' ks1.length c1'] 30)) := (by repeat (first | exact zR _ _ | assumption | refine zN ?_ _ | refine zD ?_ | refine zA ?_ ?_ _ | refine zS ?_ ?_ _ | refine zT ?_ (zM (by assumption) ?_) | exact Nat.le_refl _ | (simp <;> omega) | omega))
   have hO := World.alloc_heap_new w5 (.cells #[.int .i64 k1, .string n1, .string x1, .slice a1' ks1.length c1'] 30)
   have hcall := Size_p _ _ (orAll l) (HIE.out.mono hbB) hsz
   have HX6 := Lib.hid (obj_below (obj_below HX2.out hb5) hbB)
   have HE6 : Hid (LE w2.heap.size (w5.alloc (.cells #[.int .i64 k1, .string n1, .string x1, .slice a1' ks1.length c1'] 30)) (.agg #[.int .i64 k1, .string n1, .string x1, .slice a1' ks1.length c1']) (orAll l)) := by rw [hE]; exact he5.kv (Kv.of_below hbB)
   have HB6 := Lib.hid ((HBW.out.trans (hb5.mono HBW.out.size)).trans (hbB.mono (HBW.out.trans (hb5.mono HBW.out.size)).size))
   have e0 := objcell hO (j := 0) rfl
   have e1 := objcell hO (j := 1) rfl
   have e2 := objcell hO (j := 2) rfl
   have e3 := objcell hO (j := 3) rfl
   have HO6 := Lib.hid hO
   have HBB := Lib.hid hbB
   have HQ : Hid (EA = if decide ((64 : Int) < sizeE (orAll l)) then (zeroE, 10) else (orAll l, 0)) := by show _ = _; rw [HE.out, q0, q1]; rfl
   clear hO hbB he5 hE hb5 HX2 HBW HE
   go_wp2_with fail
   generalize (w5.alloc (.cells #[.int .i64 k1, .string n1, .string x1, .slice a1' ks1.length c1'] 30)) = w6 at *
   refine hcall.mono ?_
   rintro e w7 ⟨rfl, hb7⟩
   have HX7 := Lib.hid (obj_below HX6.out hb7)
   have HE7 := Lib.hid (HE6.out.kv (Kv.of_below hb7))
   have HB7 : Hid (Below w.heap.size w w7) := HB6.out.trans (hb7.mono HB6.out.size)
   have HIE7 := Lib.hid ((HIE.out.mono HBB.out).mono hb7)
   have hO7 := obj_below HO6.out hb7
   clear hcall hb7 e0 e1 e2 e3 hsz
   have f0 := objfrozen HX7.out (j := 0)
   have z0 := objcell HX7.out (j := 0) rfl
   have f1 := objfrozen HX7.out (j := 1)
   have z1 := objcell HX7.out (j := 1) rfl
   have f2 := objfrozen HX7.out (j := 2)
   have z2 := objcell HX7.out (j := 2) rfl
   have f3 := objfrozen HX7.out (j := 3)
   have z3 := objcell HX7.out (j := 3) rfl
   have g0 := objcell hO7 (j := 0) rfl
   have g1 := objcell hO7 (j := 1) rfl
   have g2 := objcell hO7 (j := 2) rfl
   have g3 := objcell hO7 (j := 3) rfl
   have hsA := heap_lt HX7.out
   have hsB := heap_lt hO7
   clear hO7
   generalize sizeE (orAll l) = Z at *
   generalize hOR : orAll l = ol at *
   cases qz : decide ((64 : Int) < (Z : Int))
   case true =>
    have HQ2 : Hid (EA = (zeroE, 10)) := by show _ = _; rw [HQ.out, qz]; rfl
    go_wp2
    have hX3 := set4_obj (v0 := .int .i64 0) (v1 := .string ⟨#[]⟩) (v2 := .string ⟨#[]⟩) (v3 := .slice none 0 0) HX7.out
    have hB3 : Below w.heap.size w (set4 w7 w.heap.size (.int .i64 0) (.string ⟨#[]⟩) (.string ⟨#[]⟩) (.slice none 0 0)) := (((HB7.out.setCell (p := ⟨w.heap.size, 0, none⟩) (Nat.le_refl _) _).setCell (p := ⟨w.heap.size, 1, none⟩) (Nat.le_refl _) _).setCell (p := ⟨w.heap.size, 2, none⟩) (Nat.le_refl _) _).setCell (p := ⟨w.heap.size, 3, none⟩) (Nat.le_refl _) _
    have hP3 : ∃ v', Ending.returned (.tuple #[.agg #[.int .i64 0, .string ⟨#[]⟩, .string ⟨#[]⟩, .slice none 0 0], .int .i64 10]) = .returned (.tuple #[v', .int .i64 EA.2]) ∧ Is (set4 w7 w.heap.size (.int .i64 0) (.string ⟨#[]⟩) (.string ⟨#[]⟩) (.slice none 0 0)) v' EA.1 ∧ Below w.heap.size w (set4 w7 w.heap.size (.int .i64 0) (.string ⟨#[]⟩) (.string ⟨#[]⟩) (.slice none 0 0)) := by
     rw [HQ2.out]
     exact ⟨_, rfl, (leaf_is 0 _ (show ByteArray.empty.size ≤ maxLen by decide)).is, hB3⟩
    unfold set4 at hX3 hP3
    have e0 := objcell hX3 (j := 0) rfl
    have e1 := objcell hX3 (j := 1) rfl
    have e2 := objcell hX3 (j := 2) rfl
    have e3 := objcell hX3 (j := 3) rfl
    refine bodyPost_ret (v := .tuple #[.agg #[.int .i64 0, .string ⟨#[]⟩, .string ⟨#[]⟩, .slice none 0 0], .int .i64 10]) ?_ rfl hP3
    clear hX3 hB3 hP3
    generalize ((((w7.setCell ⟨w.heap.size, 0, none⟩ (.int .i64 0)).setCell ⟨w.heap.size, 1, none⟩ (.string ⟨#[]⟩)).setCell ⟨w.heap.size, 2, none⟩ (.string ⟨#[]⟩)).setCell ⟨w.heap.size, 3, none⟩ (.slice none 0 0)) = w8 at *
    simp [results, Tryz.results30, go_sem, e0, e1, e2, e3]
   case false =>
    have HQ2 : Hid (EA = (ol, 0)) := by show _ = _; rw [HQ.out, qz]; rfl
    go_wp2
    have hX3 := set4_obj (v0 := .int .i64 k1) (v1 := .string n1) (v2 := .string x1) (v3 := .slice a1' ks1.length c1') HX7.out
    have hB3 : Below w.heap.size w (set4 w7 w.heap.size (.int .i64 k1) (.string n1) (.string x1) (.slice a1' ks1.length c1')) := (((HB7.out.setCell (p := ⟨w.heap.size, 0, none⟩) (Nat.le_refl _) _).setCell (p := ⟨w.heap.size, 1, none⟩) (Nat.le_refl _) _).setCell (p := ⟨w.heap.size, 2, none⟩) (Nat.le_refl _) _).setCell (p := ⟨w.heap.size, 3, none⟩) (Nat.le_refl _) _
    have hP3 : ∃ v', Ending.returned (.tuple #[.agg #[.int .i64 k1, .string n1, .string x1, .slice a1' ks1.length c1'], .int .i64 0]) = .returned (.tuple #[v', .int .i64 EA.2]) ∧ Is (set4 w7 w.heap.size (.int .i64 k1) (.string n1) (.string x1) (.slice a1' ks1.length c1')) v' EA.1 ∧ Below w.heap.size w (set4 w7 w.heap.size (.int .i64 k1) (.string n1) (.string x1) (.slice a1' ks1.length c1')) := by
     rw [HQ2.out]
     exact ⟨_, rfl, HE7.out _ (Kv.set4 (Kv.refl _ _) (show w.heap.size < w2.heap.size from hs2)), hB3⟩
    unfold set4 at hX3 hP3
    have e0 := objcell hX3 (j := 0) rfl
    have e1 := objcell hX3 (j := 1) rfl
    have e2 := objcell hX3 (j := 2) rfl
    have e3 := objcell hX3 (j := 3) rfl
    refine bodyPost_ret (v := .tuple #[.agg #[.int .i64 k1, .string n1, .string x1, .slice a1' ks1.length c1'], .int .i64 0]) ?_ rfl hP3
    clear hX3 hB3 hP3
    generalize ((((w7.setCell ⟨w.heap.size, 0, none⟩ (.int .i64 k1)).setCell ⟨w.heap.size, 1, none⟩ (.string n1)).setCell ⟨w.heap.size, 2, none⟩ (.string x1)).setCell ⟨w.heap.size, 3, none⟩ (.slice a1' ks1.length c1')) = w8 at *
    simp [results, Tryz.results30, go_sem, e0, e1, e2, e3]
  have hiz : (i : Int) < (N : Int) := by omega
  obtain ⟨y, hy⟩ := get_lt (xs := l) (k := i) (by rw [HN.out]; exact hlt)
  have hy64 : y.length ≤ 64 := HSZ.out.2 y (List.mem_of_getElem? hy)
  have HRA := Lib.hid (rowAE_succ hy)
  have HLA := rowAE_len l i
  obtain ⟨b, off, rfl, hb, a3, c3, y0', hyc, hym, hyr⟩ := list_at HR.out hy
  have hbw : Below w.heap.size w wr := HB2.out.trans (HB.out.mono (Nat.le_of_lt hs2))
  have y0 := kept hbw y0'
  have hsb := cell_lt y0
  have HYR := Lib.hid hyr
  have HBW := Lib.hid hbw
  clear hy y0' hyr hbw
  obtain ⟨wo, rfl⟩ : ∃ wo : World, wo = wr := ⟨_, rfl⟩
  generalize hM : y.length = M at *
  have HM := Lib.hid hM
  clear hM
  go_wp2_with fail
  go_loopw [8, 33] (fun rv jv wr => ∃ j : Nat, j ≤ M ∧ jv = .int .i64 j ∧ Hid (Below wo.heap.size wo wr) ∧ Hid (OwnN wo.heap.size wr rv (rowTE y j))) (fun _ jv _ => M - (intOf jv).toNat)
  case atStart => exact ⟨0, by omega, rfl, Lib.hid (Below.refl _ _), Lib.hid (OwnN.nil _ _)⟩
  case round =>
   obtain ⟨j, hj, rfl, HBi, HOi⟩ := hrel
   have hsi := HBi.out.size
   by_cases hltj : j < M
   case neg =>
    have hjz : ¬ (j : Int) < (M : Int) := by omega
    have hOT : OwnN wo.heap.size wr u8 (y.map termE) := by have h1 := HOi.out; rw [rowTE_all (y := y) (j := j) (by rw [HM.out]; omega)] at h1; exact h1
    have hcall := Expr2_p wo.heap.size wr u8 2 (y.map termE) hOT (by unfold inI64; omega) hsi
    clear hOT HOi
    go_wp2_with fail
    refine hcall.mono ?_
    rintro e w5 ⟨v5, rfl, hb5, he5⟩
    have he5 : LE wo.heap.size w5 v5 (altE y) := he5
    obtain ⟨k1, n1, x1, ks1, hE⟩ := LExpr.eta (altE y)
    rw [hE] at he5
    have HE := Lib.hid hE
    obtain ⟨a1', c1', rfl, -⟩ := LExpr.inv he5.is
    have HE5 := Lib.hid he5
    have hb6 : Below wo.heap.size wo w5 := HBi.out.trans (hb5.mono hsi)
    have HB6 := Lib.hid hb6
    have hs6 := hb6.size
    clear hcall hb5 he5 hE hb6
    have hu : ∀ k, u5.ownBlock = some k → k < wo.heap.size := fun k hk => HO.out.blk hk
    have HU := Lib.hid hu
    clear hu
    obtain ⟨csi, -, hrow, -⟩ := id HO.out
    have HROW := Lib.hid hrow
    clear hrow
    go_wp2_with (at_builtin; refine wp_appN rfl _ _ rfl w2.heap.size u5 (rowAE l i) rfl ((HO.out.below HB6.out).below (by repeat (first | exact zR _ _ | assumption | refine zN ?_ _ | refine zD ?_ | refine zA ?_ ?_ _ | refine zS ?_ ?_ _ | refine zT ?_ (zM (by assumption) ?_) | exact Nat.le_refl _ | (simp <;> omega) | omega))) w5.heap.size #[.int .i64 k1, .string n1, .string x1, .slice a1' ks1.length c1'] (.mk k1 n1 x1 ks1) rfl rfl (World.alloc_heap_new w5 _) ?p4 ?p5 ?p6 ?p7 ?_)
    case p4 => simp [Value.oneCell']
    case p5 => exact HE5.out.elem (Kv.of_below (by repeat (first | exact zR _ _ | assumption | refine zN ?_ _ | refine zD ?_ | refine zA ?_ ?_ _ | refine zS ?_ ?_ _ | refine zT ?_ (zM (by assumption) ?_) | exact Nat.le_refl _ | (simp <;> omega) | omega))) hsr HU.out
    case p6 => omega
    case p7 => simp; omega
    have hbA : Below w5.heap.size w5 (w5.alloc (.cells #[.int .i64 k1, .string n1, .string x1, .slice a1' ks1.length c1'] 30)) := (by repeat (first | exact zR _ _ | assumption | refine zN ?_ _ | refine zD ?_ | refine zA ?_ ?_ _ | refine zS ?_ ?_ _ | refine zT ?_ (zM (by assumption) ?_) | exact Nat.le_refl _ | (simp <;> omega) | omega))
    have HBA := Lib.hid (HB6.out.trans (hbA.mono hs6))
    clear hbA
    intro v' w6 ho6 hg6 hv6
    rw [← HE.out, ← HRA.out] at ho6
    have HO6 := Lib.hid ho6
    have HG6 := Lib.hid hg6
    clear ho6 hg6 hv6 he5 HLA
    go_wp2
    go_roundw
    case rel =>
     refine ⟨i + 1, by omega, by go_num, ?_, HO6⟩
     exact (HB.out.trans (HBA.out.mono hsr)).app HG6.out (by have := HBA.out.size; simp at this ⊢; omega) HROW.out
    case measure => simp [intOf]; omega
   have hjz : (j : Int) < (M : Int) := by omega
   obtain ⟨t, ht⟩ := get_lt (xs := y) (k := j) (by rw [HM.out]; exact hltj)
   have HLT := rowTE_len y j
   have HRT := Lib.hid (rowTE_succ ht)
   obtain ⟨bt, ot, rfl, hbt, t0', t1', st0, st1⟩ := Term.at_row HYR.out ht
   have hbi : Below w.heap.size w wr := HBW.out.trans (HBi.out.mono (by have := HB2.out.size; omega))
   have t0 := kept hbi t0'
   have t1 := kept hbi t1'
   have hsb := cell_lt t0
   clear t0' t1' ht hbi
   obtain ⟨csi, -, hrow, -⟩ := id HOi.out
   have HROW := Lib.hid hrow
   have HT0 := Lib.hid st0
   have HT1 := Lib.hid st1
   clear hrow st0 st1
   go_wp2_with (at_builtin; refine wp_appN rfl _ _ rfl wo.heap.size u8 (rowTE y j) rfl (HOi.out.below (by repeat (first | exact zR _ _ | assumption | refine zN ?_ _ | refine zD ?_ | refine zA ?_ ?_ _ | refine zS ?_ ?_ _ | refine zT ?_ (zM (by assumption) ?_) | exact Nat.le_refl _ | (simp <;> omega) | omega))) (wr.heap.size + 1) #[.int .i64 0, .string t.license, .string t.exception, .slice none 0 0] (termE t) rfl rfl (by have h := World.alloc_heap_new (wr.alloc (.cells #[.string t.license, .string t.exception] 60)) (.cells #[.int .i64 0, .string t.license, .string t.exception, .slice none 0 0] 30); simpa using h) ?p4 ?p5 ?p6 ?p7 ?_)
   case p4 => simp [Value.oneCell']
   case p5 => exact fun w2 _ => LExpr.is_iff.2 ⟨none, 0, rfl, rfl, rfl, rfl, by unfold inI64; omega, HT0.out, HT1.out, Nat.le_refl _, by decide, fun i x h => by simp at h⟩
   case p6 => omega
   case p7 => omega
   have hbA : Below wr.heap.size wr ((wr.alloc (.cells #[.string t.license, .string t.exception] 60)).alloc (.cells #[.int .i64 0, .string t.license, .string t.exception, .slice none 0 0] 30)) := (by repeat (first | exact zR _ _ | assumption | refine zN ?_ _ | refine zD ?_ | refine zA ?_ ?_ _ | refine zS ?_ ?_ _ | refine zT ?_ (zM (by assumption) ?_) | exact Nat.le_refl _ | (simp <;> omega) | omega))
   have HBA := Lib.hid (HBi.out.trans (hbA.mono hsi))
   clear hbA
   intro v' w5 ho5 hg5 hv5
   rw [← HRT.out] at ho5
   have HO5 := Lib.hid ho5
   have HG5 := Lib.hid hg5
   clear ho5 hg5 hv5 HLT
   go_wp2
   go_roundw
   case rel =>
    refine ⟨j + 1, by omega, by go_num, ?_, HO5⟩
    exact HBA.out.app HG5.out (by have := HBA.out.size; exact this) HROW.out
   case measure => simp [intOf]; omega
end Go.Proofs.YtaaobpicaaeiiaaGreatDoor
