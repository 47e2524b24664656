/- The reference of layer 34: what is milder. -/
import Derived.Test.YtoemmpfcnpdblaaGreatDoorJRefV
import Derived.Test.YtoemmpfcnpdblaaGreatDoorJLawE
import Derived.Test.YtoemmpfcnpdblaaGreatDoorJR33A
set_option linter.all false
namespace Go.Proofs.YtoemmpfcnpdblaaGreatDoor
open Go Go.RowKit Go.ChangeShapes Go.Lib

set_option maxRecDepth 100000 in
set_option maxHeartbeats 2000000 in
theorem has34_ref (w : World) (v : Value) (xs : List ByteArray) (s : ByteArray) (h : Is w v xs) :
  Calls Tryz.prog 185 #[v, .string s] w fun e w' => e = .returned (.bool (hasB xs s)) ∧ w' = w := by
 obtain ⟨a, c, rfl, hnc, hcm, hr⟩ := list_inv h
 simp only [maxLen] at hcm
 have HR := Lib.hid hr
 have HD : Hid (hasB xs s = xs.any fun y => decide (y = s)) := rfl
 clear hr h
 generalize hN : xs.length = N at *
 have HN := Lib.hid hN
 clear hN
 go_enter Tryz.func185, Tryz.ntmps185
 go_wp2
 go_loopw [5] (fun i wr => ∃ k : Nat, k ≤ N ∧ i = .int .i64 k ∧ Hid ((xs.take k).any (fun y => decide (y = s)) = false) ∧ wr = w) (fun i _ => N - (intOf i).toNat)
 case atStart => exact ⟨0, by omega, rfl, rfl, rfl⟩
 case round =>
  obtain ⟨k, hk, rfl, HK, rfl⟩ := hrel
  by_cases hki : k < N
  ·have hkz : (k : Int) < (N : Int) := by omega
   have hk0 : (0 : Int) ≤ (k : Int) := by omega
   obtain ⟨x, hx⟩ := get_lt (xs := xs) (k := k) (by rw [HN.out]; exact hki)
   obtain ⟨b, off, rfl, hb, x0, -⟩ := str_at HR.out hx
   have HX := Lib.hid hx
   clear hx
   cases e9 : (x.toList == s.toList)
   case true =>
    have HF : Hid (hasB xs s = true) := any_hitR HX.out (by rw [← ba_eq]; exact e9)
    go_wp2
    go_ret
    exact ⟨ret_b HF.out.symm, rfl⟩
   case false =>
    have HT : Hid ((xs.take (k + 1)).any (fun y => decide (y = s)) = false) := by show _ = _; rw [any_snocR _ HX.out, HK.out, ← ba_eq, e9]; rfl
    go_wp2
    go_roundw
    case rel => exact ⟨k + 1, by omega, by go_num, HT, (by first | rfl | trivial)⟩
    case measure => simp [intOf]; omega
  ·have hkz : ¬ (k : Int) < (N : Int) := by omega
   have HF : Hid (hasB xs s = false) := any_endR HK.out (by rw [HN.out]; exact hki)
   go_wp2
   go_ret
   exact ⟨ret_b HF.out.symm, rfl⟩
theorem all_endR {α : Type} {p : α → Bool} {xs : List α} {k : Nat} (h : (xs.take k).all p = true) (hk : ¬ k < xs.length) : xs.all p = true := by
 rw [List.take_of_length_le (by omega)] at h; exact h
theorem all_snocB {α : Type} (p : α → Bool) {xs : List α} {k : Nat} {x : α} (hx : xs[k]? = some x) : (xs.take (k + 1)).all p = ((xs.take k).all p && p x) := by
 rw [take_at hx, List.all_append]; simp
theorem all_missB {α : Type} {p : α → Bool} {xs : List α} {k : Nat} {x : α} (hx : xs[k]? = some x) (hp : p x = false) : xs.all p = false := List.all_eq_false.2 ⟨x, List.mem_of_getElem? hx, by rw [hp]; decide⟩
theorem coveredR_f {x y : Clause} (h : (x.way != y.way) = true ∨ (x.relation != y.relation) = true ∨ (x.duty != y.duty) = true) : coveredR x y = false := by
 unfold coveredR
 rw [if_pos]
 rcases h with h | h | h
 ·rw [show (x.way == y.way) = false by simpa using h]; rfl
 ·rw [show (x.relation == y.relation) = false by simpa using h]; simp
 ·rw [show (x.duty == y.duty) = false by simpa using h]; simp
theorem coveredR_t {x y : Clause} (h1 : (x.way != y.way) = false) (h2 : (x.relation != y.relation) = false) (h3 : (x.duty != y.duty) = false) : coveredR x y = y.list.all (hasB x.list) := by
 unfold coveredR
 rw [if_neg]
 simp at h1 h2 h3
 rw [h1, h2, h3]; simp
abbrev claV (x : Clause) (a : Option Addr) (c : Nat) : Value := .agg #[.string x.license, .int .i64 x.way, .int .i64 x.relation, .int .i64 x.duty, .slice a x.list.length c]
set_option maxRecDepth 100000 in
set_option maxHeartbeats 4000000 in
theorem covered_ref (w : World) (x y : Clause) (a b : Option Addr) (c d : Nat) (hx : Is w (.slice a x.list.length c) x.list) (hy : Is w (.slice b y.list.length d) y.list) :
  Calls Tryz.prog 124 #[claV x a c, claV y b d] w fun e w' => e = .returned (.bool (coveredR x y)) ∧ Below w.heap.size w w' := by
 have HX := Lib.hid hx
 obtain ⟨b', d', he, hnd, hdm, hr⟩ := list_inv hy
 cases he
 simp only [maxLen] at hdm
 have HR := Lib.hid hr
 have F1 : Hid (((x.way != y.way) = true ∨ (x.relation != y.relation) = true ∨ (x.duty != y.duty) = true) → coveredR x y = false) := coveredR_f
 have F2 : Hid ((x.way != y.way) = false → (x.relation != y.relation) = false → (x.duty != y.duty) = false → coveredR x y = y.list.all (hasB x.list)) := coveredR_t
 clear hx hy hr
 unfold claV
 obtain ⟨xl, xw, xr, xd, xs⟩ := x
 obtain ⟨yl, yw, yr, yd, ys⟩ := y
 simp only at *
 generalize coveredR _ _ = res at *
 generalize hN : xs.length = N at *
 generalize hM : ys.length = M at *
 have HM := Lib.hid hM
 clear hN hM
 cases q1 : (xw != yw)
 case true =>
  obtain rfl : res = false := F1.out (.inl q1)
  go_enter Tryz.func124, Tryz.ntmps124
  go_wp2
  go_ret
  exact ⟨rfl, (by first | ((repeat (first | exact Below.refl _ _ | assumption | refine Below.drewN ?_ _ | refine Below.drew ?_ | refine Below.alloc ?_ (by first | exact Nat.le_refl _ | (simp; done) | (simp; omega) | omega) _ | refine Below.setCell ?_ (by first | exact Nat.le_refl _ | (simp; done) | (simp; omega) | omega) _ | refine Below.trans ?_ (Below.mono (by assumption) (by first | exact Nat.le_refl _ | (simp; done) | (simp; omega) | omega)))); done) | fail)⟩
 cases q2 : (xr != yr)
 case true =>
  obtain rfl : res = false := F1.out (.inr (.inl q2))
  go_enter Tryz.func124, Tryz.ntmps124
  go_wp2
  go_ret
  exact ⟨rfl, (by first | ((repeat (first | exact Below.refl _ _ | assumption | refine Below.drewN ?_ _ | refine Below.drew ?_ | refine Below.alloc ?_ (by first | exact Nat.le_refl _ | (simp; done) | (simp; omega) | omega) _ | refine Below.setCell ?_ (by first | exact Nat.le_refl _ | (simp; done) | (simp; omega) | omega) _ | refine Below.trans ?_ (Below.mono (by assumption) (by first | exact Nat.le_refl _ | (simp; done) | (simp; omega) | omega)))); done) | fail)⟩
 cases q3 : (xd != yd)
 case true =>
  obtain rfl : res = false := F1.out (.inr (.inr q3))
  go_enter Tryz.func124, Tryz.ntmps124
  go_wp2
  go_ret
  exact ⟨rfl, (by first | ((repeat (first | exact Below.refl _ _ | assumption | refine Below.drewN ?_ _ | refine Below.drew ?_ | refine Below.alloc ?_ (by first | exact Nat.le_refl _ | (simp; done) | (simp; omega) | omega) _ | refine Below.setCell ?_ (by first | exact Nat.le_refl _ | (simp; done) | (simp; omega) | omega) _ | refine Below.trans ?_ (Below.mono (by assumption) (by first | exact Nat.le_refl _ | (simp; done) | (simp; omega) | omega)))); done) | fail)⟩
 have HF := Lib.hid (F2.out q1 q2 q3)
 clear F1 F2
 go_enter Tryz.func124, Tryz.ntmps124
 go_wp2
 have hba : Below w.heap.size w ((w.alloc (.cells #[.string xl, .int .i64 xw, .int .i64 xr, .int .i64 xd, .slice a N c] 86)).alloc (.cells #[.string yl, .int .i64 yw, .int .i64 yr, .int .i64 yd, .slice b M d] 86)) := (by first | ((repeat (first | exact Below.refl _ _ | assumption | refine Below.drewN ?_ _ | refine Below.drew ?_ | refine Below.alloc ?_ (by first | exact Nat.le_refl _ | (simp; done) | (simp; omega) | omega) _ | refine Below.setCell ?_ (by first | exact Nat.le_refl _ | (simp; done) | (simp; omega) | omega) _ | refine Below.trans ?_ (Below.mono (by assumption) (by first | exact Nat.le_refl _ | (simp; done) | (simp; omega) | omega)))); done) | fail)
 have e0 : ((w.alloc (.cells #[.string xl, .int .i64 xw, .int .i64 xr, .int .i64 xd, .slice a N c] 86)).alloc (.cells #[.string yl, .int .i64 yw, .int .i64 yr, .int .i64 yd, .slice b M d] 86)).cell? ⟨w.heap.size, 4, none⟩ = some (.slice a N c) := by simp
 have e1 : ((w.alloc (.cells #[.string xl, .int .i64 xw, .int .i64 xr, .int .i64 xd, .slice a N c] 86)).alloc (.cells #[.string yl, .int .i64 yw, .int .i64 yr, .int .i64 yd, .slice b M d] 86)).cell? ⟨w.heap.size + 1, 4, none⟩ = some (.slice b M d) := by simp
 generalize ((w.alloc (.cells #[.string xl, .int .i64 xw, .int .i64 xr, .int .i64 xd, .slice a N c] 86)).alloc (.cells #[.string yl, .int .i64 yw, .int .i64 yr, .int .i64 yd, .slice b M d] 86)) = w0 at *
 have HB0 := Lib.hid hba
 have z1 : w.heap.size + 1 < w0.heap.size := cell_lt e1
 clear hba q1 q2 q3
 go_loopw [5] (fun i wr => ∃ k : Nat, k ≤ M ∧ i = .int .i64 k ∧ Hid ((ys.take k).all (hasB xs) = true) ∧ Hid (Below w0.heap.size w0 wr)) (fun i _ => M - (intOf i).toNat)
 case atStart => exact ⟨0, by omega, rfl, rfl, Below.refl _ _⟩
 case round =>
  obtain ⟨k, hk, rfl, HK, HB⟩ := hrel
  have HBr : Hid (Below w.heap.size w wr) := HB0.out.trans (HB.out.mono HB0.out.size)
  have c0 := kept HB.out e0
  have c1 := kept HB.out e1
  have zr := cell_lt c1
  have zr0 := cell_lt c0
  by_cases hki : k < M
  ·have hkz : (k : Int) < (M : Int) := by omega
   have hk0 : (0 : Int) ≤ (k : Int) := by omega
   obtain ⟨s, hs⟩ := get_lt (xs := ys) (k := k) (by rw [HM.out]; exact hki)
   obtain ⟨b9, o9, rfl, hb9, y0', -⟩ := str_at HR.out hs
   have y0 := kept HBr.out y0'
   have hsy := cell_lt y0
   have HS := Lib.hid hs
   have hcall := fun W (hb : Below w.heap.size w W) => has34_ref W (.slice a N c) xs s (HX.out.mono hb)
   clear hs y0'
   cases e9 : hasB xs s
   case false =>
    rw [e9] at hcall
    have HE : Hid (res = false) := by show _ = _; rw [HF.out, all_missB HS.out e9]
    clear e9
    go_wp2
    refine still_tail 7 (by kernel_rfl) (by kernel_rfl) ?_
    simp only [List.take_succ_cons, List.take_zero, List.drop_succ_cons, List.drop_zero]
    repeat still_step
    refine wpStill_nil ?_
    go_wp2_with fail
    refine (hcall _ (HBr.out.trans (by first | ((repeat (first | exact Below.refl _ _ | assumption | refine Below.drewN ?_ _ | refine Below.drew ?_ | refine Below.alloc ?_ (by first | exact Nat.le_refl _ | (simp; done) | (simp; omega) | omega) _ | refine Below.setCell ?_ (by first | exact Nat.le_refl _ | (simp; done) | (simp; omega) | omega) _ | refine Below.trans ?_ (Below.mono (by assumption) (by first | exact Nat.le_refl _ | (simp; done) | (simp; omega) | omega)))); done) | fail))).mono ?_
    rintro e w2 ⟨rfl, rfl⟩
    go_wp2
    go_ret
    exact ⟨ret_b HE.out.symm, HBr.out.drew⟩
   case true =>
    rw [e9] at hcall
    have HT : Hid ((ys.take (k + 1)).all (hasB xs) = true) := by show _ = _; rw [all_snocB _ HS.out, HK.out, e9]; rfl
    clear e9
    go_wp2
    refine still_tail 7 (by kernel_rfl) (by kernel_rfl) ?_
    simp only [List.take_succ_cons, List.take_zero, List.drop_succ_cons, List.drop_zero]
    repeat still_step
    refine wpStill_nil ?_
    go_wp2_with fail
    refine (hcall _ (HBr.out.trans (by first | ((repeat (first | exact Below.refl _ _ | assumption | refine Below.drewN ?_ _ | refine Below.drew ?_ | refine Below.alloc ?_ (by first | exact Nat.le_refl _ | (simp; done) | (simp; omega) | omega) _ | refine Below.setCell ?_ (by first | exact Nat.le_refl _ | (simp; done) | (simp; omega) | omega) _ | refine Below.trans ?_ (Below.mono (by assumption) (by first | exact Nat.le_refl _ | (simp; done) | (simp; omega) | omega)))); done) | fail))).mono ?_
    rintro e w2 ⟨rfl, rfl⟩
    go_wp2
    go_roundw
    case rel => exact ⟨k + 1, by omega, by go_num, HT, Lib.hid HB.out.drew⟩
    case measure => simp [intOf]; omega
  ·have hkz : ¬ (k : Int) < (M : Int) := by omega
   have HE : Hid (res = true) := by show _ = _; rw [HF.out, all_endR HK.out (by rw [HM.out]; exact hki)]
   go_wp2
   go_ret
   exact ⟨ret_b HE.out.symm, HBr.out⟩
set_option maxRecDepth 100000 in
set_option maxHeartbeats 8000000 in
theorem milder34_ref (w : World) (v u : Value) (xs ys : List Clause) (h : Is w v xs) (k : Is w u ys) :
  Calls Tryz.prog 62 #[v, u] w fun e w' => e = .returned (.bool (mildR xs ys)) ∧ Below w.heap.size w w' := by
 obtain ⟨a, c, rfl, hnc, hcm, hr⟩ := list_inv h
 obtain ⟨b, d, rfl, hnd, hdm, hs⟩ := list_inv k
 simp only [maxLen] at hcm hdm
 have HR := Lib.hid hr
 have HS := Lib.hid hs
 have HD : Hid (mildR xs ys = xs.all fun x => ys.any fun y => coveredR x y) := rfl
 clear hr h hs k
 generalize hN : xs.length = N at *
 have HN := Lib.hid hN
 clear hN
 generalize hM : ys.length = M at *
 have HM := Lib.hid hM
 clear hM
 go_enter Tryz.func62, Tryz.ntmps62
 go_wp2
 go_loopw [5, 6, 7] (fun i _ _ wr => ∃ k : Nat, k ≤ N ∧ i = .int .i64 k ∧ Hid (Below w.heap.size w wr) ∧ Hid ((xs.take k).all (fun x => ys.any fun y => coveredR x y) = true)) (fun i _ _ _ => N - (intOf i).toNat)
 case atStart => exact ⟨0, by omega, rfl, Below.refl _ _, rfl⟩
 case round =>
  obtain ⟨k, hk, rfl, HB, HK⟩ := hrel
  by_cases hki : k < N
  ·have hkz : (k : Int) < (N : Int) := by omega
   have hk0 : (0 : Int) ≤ (k : Int) := by omega
   obtain ⟨x, hx⟩ := get_lt (xs := xs) (k := k) (by rw [HN.out]; exact hki)
   obtain ⟨bx, ox, rfl, hbx, xa, xc, x0', x1', x2', x3', x4', -, -, -, -, xl, xm, xr⟩ := Clause.at_row HR.out hx
   have HX := Lib.hid hx
   have HXI : Hid (Is w (.slice xa x.list.length xc) x.list) := list_mk xl xm xr
   have HC0 := Lib.hid (And.intro x0' (And.intro x1' (And.intro x2' (And.intro x3' x4'))))
   clear hx x0' x1' x2' x3' x4' xl xm xr
   go_wp2
   go_loopw [6, 7] (fun fv j wr => ∃ (i : Nat) (f : Bool), i ≤ M ∧ fv = .bool f ∧ j = .int .i64 i ∧ Hid (Below w.heap.size w wr) ∧ Hid (f = (ys.take i).any fun y => coveredR x y)) (fun _ j _ => M - (intOf j).toNat)
   case atStart => exact ⟨0, false, by omega, rfl, rfl, HB, rfl⟩
   case round =>
    clear HB
    obtain ⟨i, f, hi, rfl, rfl, HB, HF⟩ := hrel
    by_cases hii : i < M
    ·have hiz : (i : Int) < (M : Int) := by omega
     have hi0 : (0 : Int) ≤ (i : Int) := by omega
     obtain ⟨y, hy⟩ := get_lt (xs := ys) (k := i) (by rw [HM.out]; exact hii)
     have HY := Lib.hid (any_snocR (fun y => coveredR x y) hy)
     cases f
     case true =>
      have HT : Hid (true = (ys.take (i + 1)).any fun y => coveredR x y) := by show _ = _; rw [HY.out, ← HF.out]; rfl
      clear hy
      go_wp2
      go_quiet (fail)
      go_wp2
      go_roundw
      case rel => exact ⟨i + 1, true, by omega, rfl, by go_num, Lib.hid (HB.out.drewN _), HT⟩
      case measure => simp [intOf]; omega
     case false =>
      obtain ⟨by', oy, rfl, hby, ya, yc, y0', y1', y2', y3', y4', -, -, -, -, yl, ym, yr⟩ := Clause.at_row HS.out hy
      have HYI : Hid (Is w (.slice ya y.list.length yc) y.list) := list_mk yl ym yr
      obtain ⟨x0', x1', x2', x3', x4'⟩ := HC0.out
      have x0 := kept HB.out x0'
      have x1 := kept HB.out x1'
      have x2 := kept HB.out x2'
      have x3 := kept HB.out x3'
      have x4 := kept HB.out x4'
      have y0 := kept HB.out y0'
      have y1 := kept HB.out y1'
      have y2 := kept HB.out y2'
      have y3 := kept HB.out y3'
      have y4 := kept HB.out y4'
      have hsx := cell_lt x0
      have hsy := cell_lt y0
      have hcall := fun W (hb : Below w.heap.size w W) => covered_ref W x y xa ya xc yc (HXI.out.mono hb) (HYI.out.mono hb)
      have HT : Hid (coveredR x y = (ys.take (i + 1)).any fun y => coveredR x y) := by show _ = _; rw [HY.out, ← HF.out]; rfl
      unfold claV at hcall
      clear hy x0' x1' x2' x3' x4' y0' y1' y2' y3' y4' yl ym yr
      generalize coveredR x y = cb at hcall HT
      generalize x.list.length = XL at *
      generalize y.list.length = YL at *
      go_wp2
      refine still_tail 10 (by kernel_rfl) (by kernel_rfl) ?_
      simp only [List.take_succ_cons, List.take_zero, List.drop_succ_cons, List.drop_zero]
      repeat still_step
      refine wpStill_nil ?_
      go_wp2_with fail
      refine (hcall _ (HB.out.trans (by first | ((repeat (first | exact Below.refl _ _ | assumption | refine Below.drewN ?_ _ | refine Below.drew ?_ | refine Below.alloc ?_ (by first | exact Nat.le_refl _ | (simp; done) | (simp; omega) | omega) _ | refine Below.setCell ?_ (by first | exact Nat.le_refl _ | (simp; done) | (simp; omega) | omega) _ | refine Below.trans ?_ (Below.mono (by assumption) (by first | exact Nat.le_refl _ | (simp; done) | (simp; omega) | omega)))); done) | fail))).mono ?_
      rintro e w2 ⟨rfl, hg⟩
      have HB2 : Hid (Below w.heap.size w w2) := HB.out.trans (((Below.refl wr.heap.size wr).drew.trans hg).mono HB.out.size)
      clear hg hcall x0 x1 x2 x3 x4 y0 y1 y2 y3 y4
      go_wp2
      go_roundw
      case rel => exact ⟨i + 1, cb, by omega, rfl, by go_num, HB2, HT⟩
      case measure => simp [intOf]; omega
    ·have hiz : ¬ (i : Int) < (M : Int) := by omega
     have HFF : Hid (f = ys.any fun y => coveredR x y) := by
      have := HF.out
      rw [List.take_of_length_le (by rw [HM.out]; omega)] at this; exact this
     cases f
     case false =>
      have HE : Hid (mildR xs ys = false) := by show _ = _; rw [HD.out, all_missB HX.out HFF.out.symm]
      go_wp2
      go_ret
      exact ⟨ret_b HE.out.symm, HB.out⟩
     case true =>
      have HT : Hid ((xs.take (k + 1)).all (fun x => ys.any fun y => coveredR x y) = true) := by show _ = _; rw [all_snocB _ HX.out, HK.out, ← HFF.out]; rfl
      go_wp2
      go_roundw
      case rel => exact ⟨k + 1, by omega, by go_num, HB, HT⟩
      case measure => simp [intOf]; omega
  ·have hkz : ¬ (k : Int) < (N : Int) := by omega
   have HE : Hid (mildR xs ys = true) := by show _ = _; rw [HD.out, all_endR HK.out (by rw [HN.out]; exact hki)]
   go_wp2
   go_ret
   exact ⟨ret_b HE.out.symm, HB.out⟩
end Go.Proofs.YtoemmpfcnpdblaaGreatDoor
