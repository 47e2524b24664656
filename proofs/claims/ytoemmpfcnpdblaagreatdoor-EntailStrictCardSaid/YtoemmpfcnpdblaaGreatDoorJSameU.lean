/- The reference's comparison of clauses. -/
import Derived.Deep.RegionHeld3
import Derived.Test.YtoemmpfcnpdblaaGreatDoorJRefV
set_option linter.all false
namespace Go.Proofs.YtoemmpfcnpdblaaGreatDoor
open Go Go.RowKit Go.ChangeShapes
set_option maxRecDepth 100000 in
set_option maxHeartbeats 8000000 in
theorem SameClauses_ref (w : World) (x0 x1 : Value) (xs ys : List Clause) (h : Is w x0 xs) (h1 : Is w x1 ys) :
  Calls Tryz.prog 30 #[x0, x1] w fun e w' => e = .returned (.bool (decide (xs = ys))) ∧ Below w.heap.size w w' := by
 obtain ⟨a, c, rfl, hnc, hc, hr⟩ := list_inv h
 obtain ⟨a1, c1, rfl, hnc1, hc1, hr1⟩ := list_inv h1
 unfold maxLen at hc hc1
 clear h h1
 by_cases hne : xs.length = ys.length
 ·have q0 : ((xs.length : Int) != (ys.length : Int)) = false := by simp; omega
  have HR := Lib.hid hr
  have HR1 := Lib.hid hr1
  have HNE := Lib.hid hne
  clear hr hr1 hne
  generalize hM : xs.length = M at *
  generalize hM1 : ys.length = M1 at *
  have HM := Lib.hid hM
  have HM1 := Lib.hid hM1
  clear hM hM1
  go_enter Tryz.func30, Tryz.ntmps30
  go_wp2
  go_loopw [5] (fun i wr => ∃ k : Nat, k ≤ M ∧ i = .int .i64 k ∧ Hid (decide (xs = ys) = decide (xs.drop k = ys.drop k)) ∧ Hid (Below w.heap.size w wr)) (fun i _ => M - (intOf i).toNat)
  case atStart => exact ⟨0, by omega, rfl, rfl, Lib.hid (Below.refl _ _)⟩
  case round =>
   obtain ⟨k, hk, rfl, hf, hbr⟩ := hrel
   by_cases hki : k < M
   ·obtain ⟨x, hx⟩ := get_lt (xs := xs) (k := k) (by rw [HM.out]; exact hki)
    obtain ⟨y, hy⟩ := get_lt (xs := ys) (k := k) (by rw [HM1.out, ← HNE.out]; exact hki)
    obtain ⟨b, off, rfl, hb, xa, xc, x0, x1, x2, x3, x4, s0, s1, s2, s3, xl, xm, xr⟩ := Clause.at_row (HR.out.mono hbr.out) hx
    obtain ⟨b', off', rfl, hb', ya, yc, y0, y1, y2, y3, y4, t0, t1, t2, t3, yl, ym, yr⟩ := Clause.at_row (HR1.out.mono hbr.out) hy
    have hd := Lib.hid (dec_cons (drop_at hx) (drop_at hy) _ hf.out)
    have HX := Lib.hid (list_mk xl xm xr)
    have HY := Lib.hid (list_mk yl ym yr)
    have hkz : (k : Int) < (M : Int) := by omega
    have hkz1 : (k : Int) < (M1 : Int) := by have := HNE.out; omega
    have hk0 : (0 : Int) ≤ (k : Int) := by omega
    clear hx hy s0 s1 s2 s3 t0 t1 t2 t3 xl xm xr yl ym yr hf q0
    go_wp2_with fail
    go_region_held3 (fun w' => w'.cell? ⟨b, off + k * 5, none⟩ = some (.string x.license) ∧ w'.cell? ⟨b, off + k * 5 + 1, none⟩ = some (.int .i64 x.way) ∧ w'.cell? ⟨b, off + k * 5 + 2, none⟩ = some (.int .i64 x.relation) ∧ w'.cell? ⟨b, off + k * 5 + 3, none⟩ = some (.int .i64 x.duty) ∧ w'.cell? ⟨b, off + k * 5 + 4, none⟩ = some (.slice xa x.list.length xc) ∧
     w'.cell? ⟨b', off' + k * 5, none⟩ = some (.string y.license) ∧ w'.cell? ⟨b', off' + k * 5 + 1, none⟩ = some (.int .i64 y.way) ∧ w'.cell? ⟨b', off' + k * 5 + 2, none⟩ = some (.int .i64 y.relation) ∧ w'.cell? ⟨b', off' + k * 5 + 3, none⟩ = some (.int .i64 y.duty) ∧ w'.cell? ⟨b', off' + k * 5 + 4, none⟩ = some (.slice ya y.list.length yc)) (go_keep) (fail)
    all_goals
     cases e1 : (x.license.toList == y.license.toList)
     case false =>
      go_wp2
      go_ret
      refine ⟨ret_b ?_, ?_⟩
      ·rw [hd.out, decide_eq_false, Bool.false_and]
       rintro rfl
       simp at e1
      ·have hq := hbr.out
       have hqs := hq.size
       exact (by first | ((repeat (first | exact Below.refl _ _ | assumption | refine Below.drewN ?_ _ | refine Below.drew ?_ | refine Below.alloc ?_ (by first | exact Nat.le_refl _ | (simp; done) | (simp; omega) | omega) _ | refine Below.setCell ?_ (by first | exact Nat.le_refl _ | (simp; done) | (simp; omega) | omega) _ | refine Below.trans ?_ (Below.mono (by assumption) (by first | exact Nat.le_refl _ | (simp; done) | (simp; omega) | omega)))); done) | fail)
     cases e2 : (x.way != y.way)
     case true =>
      go_wp2
      go_ret
      refine ⟨ret_b ?_, ?_⟩
      ·rw [hd.out, decide_eq_false, Bool.false_and]
       rintro rfl
       simp at e2
      ·have hq := hbr.out
       have hqs := hq.size
       exact (by first | ((repeat (first | exact Below.refl _ _ | assumption | refine Below.drewN ?_ _ | refine Below.drew ?_ | refine Below.alloc ?_ (by first | exact Nat.le_refl _ | (simp; done) | (simp; omega) | omega) _ | refine Below.setCell ?_ (by first | exact Nat.le_refl _ | (simp; done) | (simp; omega) | omega) _ | refine Below.trans ?_ (Below.mono (by assumption) (by first | exact Nat.le_refl _ | (simp; done) | (simp; omega) | omega)))); done) | fail)
     cases e3 : (x.relation != y.relation)
     case true =>
      go_wp2
      go_ret
      refine ⟨ret_b ?_, ?_⟩
      ·rw [hd.out, decide_eq_false, Bool.false_and]
       rintro rfl
       simp at e3
      ·have hq := hbr.out
       have hqs := hq.size
       exact (by first | ((repeat (first | exact Below.refl _ _ | assumption | refine Below.drewN ?_ _ | refine Below.drew ?_ | refine Below.alloc ?_ (by first | exact Nat.le_refl _ | (simp; done) | (simp; omega) | omega) _ | refine Below.setCell ?_ (by first | exact Nat.le_refl _ | (simp; done) | (simp; omega) | omega) _ | refine Below.trans ?_ (Below.mono (by assumption) (by first | exact Nat.le_refl _ | (simp; done) | (simp; omega) | omega)))); done) | fail)
     cases e4 : (x.duty != y.duty)
     case true =>
      go_wp2
      go_ret
      refine ⟨ret_b ?_, ?_⟩
      ·rw [hd.out, decide_eq_false, Bool.false_and]
       rintro rfl
       simp at e4
      ·have hq := hbr.out
       have hqs := hq.size
       exact (by first | ((repeat (first | exact Below.refl _ _ | assumption | refine Below.drewN ?_ _ | refine Below.drew ?_ | refine Below.alloc ?_ (by first | exact Nat.le_refl _ | (simp; done) | (simp; omega) | omega) _ | refine Below.setCell ?_ (by first | exact Nat.le_refl _ | (simp; done) | (simp; omega) | omega) _ | refine Below.trans ?_ (Below.mono (by assumption) (by first | exact Nat.le_refl _ | (simp; done) | (simp; omega) | omega)))); done) | fail)
     have hEQ : Hid (decide (x = y) = decide (x.list = y.list)) := by
      show _ = _
      have h1 := ba_eq_t e1
      simp only [bne_eq_false_iff_eq] at e2 e3 e4
      rw [Bool.eq_iff_iff, decide_eq_true_iff, decide_eq_true_iff]
      constructor
      ·rintro rfl; rfl
      ·intro h5; cases x; cases y; simp_all
     go_wp2_with fail
     refine (SameTexts_ref _ _ _ x.list y.list (HX.out.mono (by first | ((repeat (first | exact Below.refl _ _ | assumption | refine Below.drewN ?_ _ | refine Below.drew ?_ | refine Below.alloc ?_ (by first | exact Nat.le_refl _ | (simp; done) | (simp; omega) | omega) _ | refine Below.setCell ?_ (by first | exact Nat.le_refl _ | (simp; done) | (simp; omega) | omega) _ | refine Below.trans ?_ (Below.mono (by assumption) (by first | exact Nat.le_refl _ | (simp; done) | (simp; omega) | omega)))); done) | fail)) (HY.out.mono (by first | ((repeat (first | exact Below.refl _ _ | assumption | refine Below.drewN ?_ _ | refine Below.drew ?_ | refine Below.alloc ?_ (by first | exact Nat.le_refl _ | (simp; done) | (simp; omega) | omega) _ | refine Below.setCell ?_ (by first | exact Nat.le_refl _ | (simp; done) | (simp; omega) | omega) _ | refine Below.trans ?_ (Below.mono (by assumption) (by first | exact Nat.le_refl _ | (simp; done) | (simp; omega) | omega)))); done) | fail))).mono ?_
     rintro e w5 ⟨rfl, hb5⟩
     have HB5 : Hid (Below w.heap.size w w5) := by
      have hq := hbr.out
      have hqs := hq.size
      exact Below.trans (Below.trans hq (by exact (by first | ((repeat (first | exact Below.refl _ _ | assumption | refine Below.drewN ?_ _ | refine Below.drew ?_ | refine Below.alloc ?_ (by first | exact Nat.le_refl _ | (simp; done) | (simp; omega) | omega) _ | refine Below.setCell ?_ (by first | exact Nat.le_refl _ | (simp; done) | (simp; omega) | omega) _ | refine Below.trans ?_ (Below.mono (by assumption) (by first | exact Nat.le_refl _ | (simp; done) | (simp; omega) | omega)))); done) | fail))) (hb5.mono (by simp; omega))
     clear hb5
     cases e5 : decide (x.list = y.list)
     case false =>
      go_wp2
      go_ret
      exact ⟨ret_b (by rw [hd.out, hEQ.out, e5, Bool.false_and]), HB5.out⟩
     case true =>
      go_wp2
      go_roundw
      case rel => exact ⟨k + 1, by omega, by go_num, by show _ = _; rw [hd.out, hEQ.out, e5, Bool.true_and], HB5⟩
      case measure => simp [intOf]; omega
   ·go_wp2
    go_ret
    refine ⟨ret_b ?_, hbr.out⟩
    rw [hf.out, List.drop_eq_nil_of_le (by rw [HM.out]; omega), List.drop_eq_nil_of_le (by rw [HM1.out, ← HNE.out]; omega)]; simp
 ·have q0 : ((xs.length : Int) != (ys.length : Int)) = true := by simp; omega
  go_enter Tryz.func30, Tryz.ntmps30
  go_wp2
  go_ret
  exact ⟨ret_b (by rw [decide_eq_false]; rintro rfl; exact hne rfl), (by first | ((repeat (first | exact Below.refl _ _ | assumption | refine Below.drewN ?_ _ | refine Below.drew ?_ | refine Below.alloc ?_ (by first | exact Nat.le_refl _ | (simp; done) | (simp; omega) | omega) _ | refine Below.setCell ?_ (by first | exact Nat.le_refl _ | (simp; done) | (simp; omega) | omega) _ | refine Below.trans ?_ (Below.mono (by assumption) (by first | exact Nat.le_refl _ | (simp; done) | (simp; omega) | omega)))); done) | fail)⟩
end Go.Proofs.YtoemmpfcnpdblaaGreatDoor
