/- slices.Grow of nothing, slices.Concat: at terms and at alternatives. -/
import Derived.Lib.AppendZerosOnto
import Derived.Lib.SliceRun
import Derived.Lib.Walk
import Derived.Test.YtoemmpfcnpdblaaGreatDoorJMeanU
set_option linter.all false
namespace Go.Proofs.YtoemmpfcnpdblaaGreatDoor
open Go Go.RowKit Go.ChangeShapes Go.Sort Go.Lib

set_option maxRecDepth 100000 in
set_option maxHeartbeats 2000000 in
theorem GrowT_p (w : World) (n : Nat) (hn : n ≤ 1000000000) :
  Calls Tryz.prog 200 #[.slice none 0 0, .int .i64 n] w fun e w' => ∃ v, e = .returned v ∧ w'.ownsRow w.heap.size 67 2 v 0 [] ∧ Below w.heap.size w w' := by
 obtain ⟨i0, hi, hz0, hz1, hz2⟩ := info_parts infoTerm
 by_cases h0 : n = 0
 ·subst h0
  go_enter Tryz.func200, Tryz.ntmps200
  go_wp2
  go_ret
  exact ⟨.slice none 0 0, rfl, World.ownsRow_nil _ _ _ _, Below.refl _ _⟩
 ·have h4 : (0 : Int) < (n : Int) := by omega
  have h1 : ¬ ((n : Int) < 0) := by omega
  have hold : (Builtin.firstCells i0.size 0 (.slice none 0 0)).run Tryz.prog w.drew = .ok ([] : List Value).toArray w.drew := run_firstCells_none w.drew i0.size 0 0 0
  have hrz : ∀ ty, (Builtin.append_ #[24, 3] ty #[.slice none 0 0, .int .i64 (n : Int)]).run Tryz.prog w = _ := fun ty =>
   Lib.run_append_grow_zeros w 24 3 ty 67 i0 _ .i64 .i64 Tryz.underlying24 Tryz.underlying3 hi hz0 none 0 0 [] hold n (by omega) (by omega) (by omega) (by omega) (by rw [hz2]; omega)
    (by rw [hz2, Nat.zero_add]; exact growslice_fits (by omega) (by omega))
  have hG := grownCap_le_maxLen w (0 + n) 0 67 (by unfold maxLen; omega)
  have hG2 := grownCap_ge w (0 + n) 0 67
  generalize hGe : grownCap w (0 + n) 0 67 = G at hrz hG hG2
  have hsz : ((([] : List Value).toArray ++ Builtin.zeroCells (.agg #[.string ByteArray.empty, .string ByteArray.empty] : Value).cells n ++ Builtin.zeroCells (.agg #[.string ByteArray.empty, .string ByteArray.empty] : Value).cells (G - (0 + n)))).size = G * 2 := by
   rw [Array.size_append, Array.size_append, size_zeroCells, size_zeroCells]
   have : (.agg #[.string ByteArray.empty, .string ByteArray.empty] : Value).cells.size = 2 := rfl
   rw [this]; simp; omega
  have HS : Hid (∀ cur : Array Value, cur.size = G * 2 → (w.drew.alloc (.cells cur 67)).ownsRow w.heap.size 67 2 (.slice (some ⟨w.heap.size, 0, none⟩) 0 G) 0 []) := fun cur h => World.ownsRow_made w.drew cur G (Nat.le_refl _) hG h
  generalize (([] : List Value).toArray ++ Builtin.zeroCells (.agg #[.string ByteArray.empty, .string ByteArray.empty] : Value).cells n ++ Builtin.zeroCells (.agg #[.string ByteArray.empty, .string ByteArray.empty] : Value).cells (G - (0 + n))) = cur at *
  have HO := Lib.hid (HS.out cur hsz)
  have hG3 : G ≤ 9223372036854775807 := by unfold maxLen at hG; omega
  clear hold hsz HS hGe hG
  go_enter Tryz.func200, Tryz.ntmps200
  go_wp2_with (at_builtin; refine Lib.wpList_append_run _ rfl _ _ _ _ rfl _ _ rfl rfl _ _ (hrz _) ?_)
  all_goals
   go_ret
   exact ⟨_, rfl, HO.out, ((Below.refl _ w).drew).alloc (by simp) _⟩

theorem addr_add (b off j : Nat) : (⟨b, off, none⟩ : Addr).add j = ⟨b, off + j, none⟩ := by
 unfold Addr.add; split
 ·subst j; simp
 ·rfl
theorem term_sizes {w : World} {a : Option Addr} {xs : List Term} (hr : Row w a xs) : ∀ x ∈ xs, x.license.size ≤ maxLen ∧ x.exception.size ≤ maxLen := by
 intro x hx
 obtain ⟨i, hi, rfl⟩ := List.mem_iff_getElem.1 hx
 have hx2 : xs[i]? = some xs[i] := by simp
 obtain ⟨b, off, -, -, -, -, s⟩ := Term.at_row hr hx2
 exact s
theorem row_none {α : Type} [Lay α] {w : World} {xs : List α} (hr : Row w none xs) : xs = [] := by
 cases xs with
 | nil => rfl
 | cons x r => obtain ⟨b, off, h1, -⟩ := hr 0 x rfl; cases h1
theorem encT_len (ls : List Term) : (ls.map encT).flatten.length = ls.length * 2 := by
 induction ls with
 | nil => rfl
 | cons a r ih => simp only [List.map_cons, List.flatten_cons, List.length_append, ih, List.length_cons]; simp [encT]; omega
theorem app_terms {ops : Array Oper} {rest : List Oper} {o : Oper} {a : Act} {Q : Exit → Act → World → Prop} {w : World} (hgd : o.guard = none) (s x : Operand)
  (ho : o.op = .call { callee := .builtin .append, args := #[s, x], argTypes := #[24, 24] })
  (B : Nat) (v u : Value) (xs ys : List Term) (hs : a.eval s = v) (hx : a.eval x = u) (hown : RowT B w v xs) (hu : Is w u ys)
  (hb : xs.length + ys.length ≤ 1000000000) (hB : B ≤ w.heap.size)
  (h : ∀ v' w', RowT B w' v' (xs ++ ys) → Below B w w' → wpList Tryz.prog ops Q rest (a.put o.dst v') w') :
  wpList Tryz.prog ops Q (o :: rest) a w := by
 obtain ⟨i0, hi, hz0, hz1, hz2⟩ := info_parts infoTerm
 obtain ⟨ua, uc, rfl, huc, hum, hur⟩ := list_inv hu
 have hsz : ∀ z ∈ xs ++ ys, z.license.size ≤ maxLen ∧ z.exception.size ≤ maxLen := fun z hz => (List.mem_append.1 hz).elim (hown.2 z) (term_sizes hur z)
 cases ua with
 | none =>
  obtain rfl := row_none hur
  obtain ⟨va, vc, rfl, hvc, -⟩ := list_inv hown.is
  have hrun := run_append_nothing (P := Tryz.prog) w 24 24 o.type 67 i0 Tryz.underlying24 hi va xs.length vc hvc (.slice none 0 uc) (Src.ofNil w Tryz.underlying24 uc)
  have hk := h (.slice va xs.length vc) w (by simpa using hown) (Below.refl _ _)
  refine wpList_plain hgd fun K hK => ?_
  unfold Oper.wp execOp
  simp only [List.length_nil] at hx
  simp only [ho, resolve, invoke, builtin, Sem.run_bind, Sem.run_pure, Result.andThen_ok, List.map_toArray, List.map_cons, List.map_nil, hs, hx, hrun]
  exact hK _ _ hk
 | some p =>
  have hcells : ∀ j q, ((ys.map encT).flatten)[j]? = some q → w.cell? (p.add j) = some q := by
   intro j q hj
   cases ys with
   | nil => simp at hj
   | cons y r =>
    obtain ⟨b, off, he, -⟩ := hur 0 y rfl
    cases he
    rw [addr_add]; exact row_cells hur j q hj
  refine wpList_append_own _ hgd s x 24 ho B 67 i0 _ 2 32 Tryz.underlying24 hi hz0 hz1 hz2 rfl (by decide) v xs.length _ hs hown.1 p ys.length uc (ys.map encT).flatten hx (encT_len _) hcells encT_one ?_ ?_ hB ?_
  ·unfold maxLen; omega
  ·omega
  ·intro v' w' h2 h3 h4
   refine h v' w' ⟨?_, hsz⟩ ((Below.refl _ _).app h3 hB hown.1)
   rw [List.length_append, List.map_append, List.flatten_append]; exact h2
def RowF (B : Nat) (w0 w : World) (v : Value) (xs : List (List Term)) : Prop :=
 ∃ vs : List Value, vs.length = xs.length ∧ w.ownsRow B 24 1 v xs.length vs ∧ ∀ (i : Nat) (u : Value) (x : List Term), vs[i]? = some u → xs[i]? = some x → Is w0 u x
theorem RowF.is {B : Nat} {w0 w : World} {v : Value} {xs : List (List Term)} (h : RowF B w0 w v xs) (hb : Below w0.heap.size w0 w) : Is w v xs := by
 obtain ⟨vs, h1, h2, h3⟩ := h
 rcases h2.2 with ⟨rfl, h0⟩ | ⟨g, cap, cur, rfl, hg, hh, hn', hc, hsz, ht⟩
 ·obtain rfl : xs = [] := List.length_eq_zero_iff.1 h0
  exact nil_mk w
 ·refine list_mk hn' hc fun i x hx => ⟨g, 0, rfl, ?_, ?_⟩
  ·rcases Nat.lt_or_ge g w.heap.size with h | h
   ·exact h
   ·rw [Array.getElem?_eq_none h] at hh; cases hh
  ·have hi : i < xs.length := lt_get hx
   obtain ⟨u, hu⟩ := get_lt (xs := vs) (k := i) (by omega)
   obtain ⟨a', c', rfl, k1, k2, k3⟩ := list_inv ((h3 i u x hu hx).mono hb)
   refine ⟨a', c', ?_, k1, k2, k3⟩
   show w.cell? ⟨g, 0 + i * 1 + 0, none⟩ = _
   have e : cur[i]? = some (.slice a' x.length c') := by
    rw [← ht, List.getElem?_take] at hu
    split at hu
    ·simpa using hu
    ·cases hu
   rw [show 0 + i * 1 + 0 = i by omega]
   simp [World.cell?, hh, e]
theorem row_vals {w : World} {b off : Nat} {L : List (List Term)} (h : Row w (some ⟨b, off, none⟩) L) :
  ∃ vs : List Value, vs.length = L.length ∧ (∀ j u, vs[j]? = some u → w.cell? ⟨b, off + j, none⟩ = some u ∧ u.oneCell' = true) ∧ ∀ (i : Nat) (u : Value) (x : List Term), vs[i]? = some u → L[i]? = some x → Is w u x := by
 refine ⟨(List.range L.length).map fun i => (w.cell? ⟨b, off + i, none⟩).getD undef, by simp, fun j u hj => ?_, fun i u x hu hx => ?_⟩
 ·rw [List.getElem?_map] at hj
  have hlt : j < L.length := by
   rcases Nat.lt_or_ge j L.length with h | h
   ·exact h
   ·rw [List.getElem?_eq_none (by simpa using h)] at hj; cases hj
  obtain ⟨x, hx⟩ := get_lt hlt
  obtain ⟨b', off', he, -, ax, cx, x0, -⟩ := list_at h hx
  cases he
  rw [List.getElem?_range hlt] at hj
  simp only [Option.map_some, Option.some.injEq] at hj
  rw [x0] at hj ⊢
  subst hj
  exact ⟨rfl, rfl⟩
 ·obtain ⟨b', off', he, -, ax, cx, x0, x1, x2, x3⟩ := list_at h hx
  cases he
  rw [List.getElem?_map, List.getElem?_range (lt_get hx)] at hu
  simp only [Option.map_some, Option.some.injEq] at hu
  rw [x0] at hu
  subst hu
  exact list_mk x1 x2 x3
theorem app_alts {ops : Array Oper} {rest : List Oper} {o : Oper} {a : Act} {Q : Exit → Act → World → Prop} {w0 w : World} (hgd : o.guard = none) (s x : Operand)
  (ho : o.op = .call { callee := .builtin .append, args := #[s, x], argTypes := #[22, 22] })
  (B : Nat) (v u : Value) (xs ys : List (List Term)) (hs : a.eval s = v) (hx : a.eval x = u) (hown : RowF B w0 w v xs) (hu : Is w0 u ys) (h0 : Below w0.heap.size w0 w)
  (hb : xs.length + ys.length ≤ 1000000000) (hB : B ≤ w.heap.size)
  (h : ∀ v' w', RowF B w0 w' v' (xs ++ ys) → Below B w w' → wpList Tryz.prog ops Q rest (a.put o.dst v') w') :
  wpList Tryz.prog ops Q (o :: rest) a w := by
 obtain ⟨i0, hi, hz0, hz1, hz2⟩ := info_parts altRow
 obtain ⟨ua, uc, rfl, huc, hum, hur⟩ := list_inv hu
 obtain ⟨vs, k1, k2, k3⟩ := id hown
 cases ua with
 | none =>
  obtain rfl := row_none hur
  obtain ⟨va, vc, rfl, hvc, -⟩ := list_inv (hown.is h0)
  have hrun := run_append_nothing (P := Tryz.prog) w 22 22 o.type 24 i0 Tryz.underlying22 hi va xs.length vc hvc (.slice none 0 uc) (Src.ofNil w Tryz.underlying22 uc)
  have hk := h (.slice va xs.length vc) w (by simpa using hown) (Below.refl _ _)
  refine wpList_plain hgd fun K hK => ?_
  unfold Oper.wp execOp
  simp only [List.length_nil] at hx
  simp only [ho, resolve, invoke, builtin, Sem.run_bind, Sem.run_pure, Result.andThen_ok, List.map_toArray, List.map_cons, List.map_nil, hs, hx, hrun]
  exact hK _ _ hk
 | some p =>
  obtain ⟨us, m1, m2, m3⟩ : ∃ us : List Value, us.length = ys.length ∧ (∀ j q, us[j]? = some q → w.cell? (p.add j) = some q ∧ q.oneCell' = true) ∧ ∀ (i : Nat) (u : Value) (x : List Term), us[i]? = some u → ys[i]? = some x → Is w0 u x := by
   cases ys with
   | nil => exact ⟨[], rfl, fun j q hj => by simp at hj, fun i u x hu => by simp at hu⟩
   | cons y r =>
    obtain ⟨b, off, he, -⟩ := hur 0 y rfl
    cases he
    obtain ⟨us, m1, m2, m3⟩ := row_vals hur
    exact ⟨us, m1, fun j q hj => by rw [addr_add]; exact ⟨kept h0 (m2 j q hj).1, (m2 j q hj).2⟩, m3⟩
  refine wpList_append_own _ hgd s x 22 ho B 24 i0 _ 1 24 Tryz.underlying22 hi hz0 hz1 hz2 rfl (by decide) v xs.length _ hs k2 p ys.length uc us hx (by omega) (fun j q hj => (m2 j q hj).1) ?_ ?_ ?_ hB ?_
  ·intro q hq
   obtain ⟨j, hj, rfl⟩ := List.mem_iff_getElem.1 hq
   exact (m2 j us[j] (by simp)).2
  ·unfold maxLen; omega
  ·omega
  ·intro v' w' h2 h3 h4
   refine h v' w' ⟨vs ++ us, by simp [k1, m1], by rw [List.length_append]; exact h2, fun i q z hq hz => ?_⟩ ((Below.refl _ _).app h3 hB k2)
   rcases Nat.lt_or_ge i xs.length with hi | hi
   ·rw [List.getElem?_append_left (by omega)] at hq
    rw [List.getElem?_append_left (by omega)] at hz
    exact k3 i q z hq hz
   ·rw [List.getElem?_append_right (by omega)] at hq
    rw [List.getElem?_append_right (by omega)] at hz
    rw [k1] at hq
    exact m3 _ q z hq hz
theorem flat_take {α : Type} {xs : List (List α)} {k : Nat} {x : List α} (hx : xs[k]? = some x) : (xs.take (k + 1)).flatten = (xs.take k).flatten ++ x := by
 rw [take_at hx, List.flatten_append]; simp
theorem flat_bound {α : Type} {xs : List (List α)} {m : Nat} (h : ∀ x ∈ xs, x.length ≤ m) : ∀ k, (xs.take k).flatten.length ≤ k * m := by
 intro k
 induction k with
 | zero => simp
 | succ k ih =>
  rcases Nat.lt_or_ge k xs.length with hk | hk
  ·obtain ⟨x, hx⟩ := get_lt hk
   rw [flat_take hx, List.length_append]
   have := h x (List.mem_of_getElem? hx)
   rw [Nat.succ_mul]; omega
  ·rw [List.take_of_length_le (by omega)]
   rw [List.take_of_length_le hk] at ih
   rw [Nat.succ_mul]; omega

set_option maxRecDepth 100000 in
set_option maxHeartbeats 8000000 in
theorem ConcatT_p (w : World) (v : Value) (xss : List (List Term)) (h : Is w v xss) (hn : xss.length ≤ 1000) (hl : ∀ x ∈ xss, x.length ≤ 1000000) :
  Calls Tryz.prog 156 #[v] w fun e w' => ∃ v', e = .returned v' ∧ RowT w.heap.size w' v' xss.flatten ∧ Below w.heap.size w w' := by
 obtain ⟨a, c, rfl, hnc, hcm, hr⟩ := list_inv h
 simp only [maxLen] at hcm
 have HR := Lib.hid hr
 have HF := Lib.hid (flat_bound hl)
 have HLN := Lib.hid hl
 clear hr h hl
 generalize hN : xss.length = N at *
 have HN := Lib.hid hN
 clear hN
 go_enter Tryz.func156, Tryz.ntmps156
 go_wp2
 go_loopw [3, 11] (fun sv kv wr => ∃ k : Nat, k ≤ N ∧ sv = .int .i64 ((xss.take k).flatten.length : Nat) ∧ kv = .int .i64 k ∧ w = wr) (fun _ kv _ => N - (intOf kv).toNat)
 case atStart => exact ⟨0, by omega, by simp, rfl, rfl⟩
 case round =>
  obtain ⟨k, hk, rfl, rfl, rfl⟩ := hrel
  by_cases hki : k < N
  ·have hkz : (k : Int) < (N : Int) := by omega
   have hk0 : (0 : Int) ≤ (k : Int) := by omega
   obtain ⟨x, hx⟩ := get_lt (xs := xss) (k := k) (by rw [HN.out]; exact hki)
   obtain ⟨bx, ox, rfl, hbx, ax, cx, x0, hx1, hx2, hx3⟩ := list_at HR.out hx
   have hsx := cell_lt x0
   have hS := HF.out k
   have hS2 := HF.out (k + 1)
   have HFT := Lib.hid (congrArg List.length (flat_take hx))
   have hxl := HLN.out x (List.mem_of_getElem? hx)
   simp only [maxLen] at hx2
   clear hx hx3
   generalize hq : (xss.take k).flatten.length = S at *
   have HQ : Hid ((xss.take (k + 1)).flatten.length = S + x.length) := by show _ = _; rw [HFT.out, List.length_append, hq]
   clear HFT hq
   generalize x.length = L at *
   have hkb : k * 1000000 ≤ 1000000000 := by omega
   have hneg : ¬ ((S : Int) + (L : Int) < 0) := by omega
   go_wp2
   go_roundw
   case rel => exact ⟨k + 1, by omega, by rw [HQ.out]; go_num, by go_num, (by first | rfl | trivial)⟩
   case measure => simp [intOf]; omega
  ·have hkz : ¬ (k : Int) < (N : Int) := by omega
   have hS := HF.out k
   have hkb : k * 1000000 ≤ 1000000000 := by omega
   have hcall := GrowT_p w ((xss.take k).flatten.length) (by omega)
   generalize (xss.take k).flatten.length = S at *
   clear hS hkb hki
   go_wp2_with fail
   refine hcall.mono ?_
   rintro e w1 ⟨v1, rfl, ho, hb1⟩
   have HB1 := Lib.hid hb1
   have HO1 : Hid (RowT w.heap.size w1 v1 []) := ⟨by simpa using ho, fun x hx => by simp at hx⟩
   clear hcall ho hb1
   clear hkz hk
   go_wp2
   go_loopw [6, 27] (fun nv kv wr => ∃ k : Nat, k ≤ N ∧ kv = .int .i64 k ∧ Hid (Below w.heap.size w wr) ∧ Hid (RowT w.heap.size wr nv (xss.take k).flatten)) (fun _ kv _ => N - (intOf kv).toNat)
   case atStart => exact ⟨0, by omega, rfl, HB1, by simpa using HO1⟩
   case round =>
    clear HB1 HO1
    obtain ⟨k, hk, rfl, HB, HO⟩ := hrel
    by_cases hki : k < N
    ·have hkz : (k : Int) < (N : Int) := by omega
     have hk0 : (0 : Int) ≤ (k : Int) := by omega
     obtain ⟨x, hx⟩ := get_lt (xs := xss) (k := k) (by rw [HN.out]; exact hki)
     obtain ⟨bx, ox, rfl, hbx, ax, cx, x0', hx1, hx2, hx3⟩ := list_at HR.out hx
     have x0 := kept HB.out x0'
     have hsx := cell_lt x0
     have hxi0 : Hid (Is w (.slice ax x.length cx) x) := list_mk hx1 hx2 hx3
     have hxi : Hid (Is wr (.slice ax x.length cx) x) := hxi0.out.mono HB.out
     have HFT := Lib.hid (flat_take hx)
     have hbb : (xss.take k).flatten.length + x.length ≤ 1000000000 := by
      have h1 := HF.out k
      have h2 := HLN.out x (List.mem_of_getElem? hx)
      omega
     clear hx hx3 x0' hx1 hx2
     go_wp2_with (at_builtin; go_loud (refine app_terms rfl _ _ rfl w.heap.size _ _ _ x rfl rfl HO.out hxi.out hbb (by have := HB.out.size; omega) ?_))
     intro v2 w2 ho2 hb2
     have HB2 : Hid (Below w.heap.size w w2) := HB.out.trans hb2
     have HO2 : Hid (RowT w.heap.size w2 v2 (xss.take (k + 1)).flatten) := by rw [HFT.out]; exact ho2
     clear ho2 hb2 HO HFT hbb hxi hxi0
     go_wp2
     go_roundw
     case rel => exact ⟨k + 1, by omega, by go_num, HB2, HO2⟩
     case measure => simp [intOf]; omega
    ·have hkz : ¬ (k : Int) < (N : Int) := by omega
     have HOE : Hid (RowT w.heap.size wr u6 xss.flatten) := by
      have := HO.out
      rw [List.take_of_length_le (by rw [HN.out]; omega)] at this
      exact this
     go_wp2
     go_ret
     exact ⟨_, rfl, HOE.out, HB.out⟩

end Go.Proofs.YtoemmpfcnpdblaaGreatDoor
