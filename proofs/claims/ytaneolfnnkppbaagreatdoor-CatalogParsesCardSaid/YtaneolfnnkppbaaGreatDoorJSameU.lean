/- The reference's comparison of clauses. -/
import Derived.Deep.RegionHeld3
import Derived.Test.YtaneolfnnkppbaaGreatDoorJRefV
import Derived.Test.YtaneolfnnkppbaaGreatDoorJProX
set_option linter.all false
namespace Go.Proofs.YtaneolfnnkppbaaGreatDoor
open Go Go.RowKit Go.ChangeShapes
set_option maxRecDepth 100000 in
set_option maxHeartbeats 8000000 in
theorem SameClauses_ref (w : World) (x0 x1 : Value) (xs ys : List Clause) (h : Is w x0 xs) (h1 : Is w x1 ys) :
  Calls Tryz.prog 29 #[x0, x1] w fun e w' => e = .returned (.bool (decide (xs = ys))) ∧ Below w.heap.size w w' := by
 obtain ⟨a, c, rfl, hnc, hc, hr⟩ := list_inv h
 obtain ⟨a1, c1, rfl, hnc1, hc1, hr1⟩ := list_inv h1
 unfold maxLen at hc hc1
 clear h h1
 by_cases hne : xs.length = ys.length
 ·have q0 : ((xs.length : Int) != (ys.length : Int)) = false := by simp; omega
  have HR := Lib.hid hr
  have HR1 := Lib.hid hr1
  have HNE := Lib.hid hne
  clear hr hr1 hne
  generalize hM : xs.length = M at *
  generalize hM1 : ys.length = M1 at *
  have HM := Lib.hid hM
  have HM1 := Lib.hid hM1
  clear hM hM1
  go_enter Tryz.func29, Tryz.ntmps29
  go_wp2
  go_loopw [5] (fun i wr => ∃ k : Nat, k ≤ M ∧ i = .int .i64 k ∧ Hid (decide (xs = ys) = decide (xs.drop k = ys.drop k)) ∧ Hid (Below w.heap.size w wr)) (fun i _ => M - (intOf i).toNat)
  case atStart => exact ⟨0, by omega, rfl, rfl, Lib.hid (Below.refl _ _)⟩
  case round =>
   obtain ⟨k, hk, rfl, hf, hbr⟩ := hrel
   by_cases hki : k < M
   ·obtain ⟨x, hx⟩ := get_lt (xs := xs) (k := k) (by rw [HM.out]; exact hki)
    obtain ⟨y, hy⟩ := get_lt (xs := ys) (k := k) (by rw [HM1.out, ← HNE.out]; exact hki)
    obtain ⟨b, off, rfl, hb, xa, xc, x0, x1, x2, x3, x4, s0, s1, s2, s3, xl, xm, xr⟩ := Clause.at_row (HR.out.mono hbr.out) hx
    obtain ⟨b', off', rfl, hb', ya, yc, y0, y1, y2, y3, y4, t0, t1, t2, t3, yl, ym, yr⟩ := Clause.at_row (HR1.out.mono hbr.out) hy
    have hd := Lib.hid (dec_cons (drop_at hx) (drop_at hy) _ hf.out)
    have HX := Lib.hid (list_mk xl xm xr)
    have HY := Lib.hid (list_mk yl ym yr)
    have hkz : (k : Int) < (M : Int) := by omega
    have hkz1 : (k : Int) < (M1 : Int) := by have := HNE.out; omega
    have hk0 : (0 : Int) ≤ (k : Int) := by omega
    clear hx hy s0 s1 s2 s3 t0 t1 t2 t3 xl xm xr yl ym yr hf q0
    go_wp2_with fail
    go_region_held3 (fun w' => w'.cell? ⟨b, off + k * 5, none⟩ = some (.string x.license) ∧ w'.cell? ⟨b, off + k * 5 + 1, none⟩ = some (.int .i64 x.way) ∧ w'.cell? ⟨b, off + k * 5 + 2, none⟩ = some (.int .i64 x.relation) ∧ w'.cell? ⟨b, off + k * 5 + 3, none⟩ = some (.int .i64 x.duty) ∧ w'.cell? ⟨b, off + k * 5 + 4, none⟩ = some (.slice xa x.list.length xc) ∧
     w'.cell? ⟨b', off' + k * 5, none⟩ = some (.string y.license) ∧ w'.cell? ⟨b', off' + k * 5 + 1, none⟩ = some (.int .i64 y.way) ∧ w'.cell? ⟨b', off' + k * 5 + 2, none⟩ = some (.int .i64 y.relation) ∧ w'.cell? ⟨b', off' + k * 5 + 3, none⟩ = some (.int .i64 y.duty) ∧ w'.cell? ⟨b', off' + k * 5 + 4, none⟩ = some (.slice ya y.list.length yc)) (go_keep) (fail)
    all_goals
     cases e1 : (x.license.toList == y.license.toList)
     case false =>
      go_wp2
      go_ret
      refine ⟨ret_b ?_, ?_⟩
      ·rw [hd.out, decide_eq_false, Bool.false_and]
       rintro rfl
       simp at e1
      ·have hq := hbr.out
       have hqs := hq.size
       exact (by first | ((repeat (first | exact Below.refl _ _ | assumption | refine Below.drewN ?_ _ | refine Below.drew ?_ | refine Below.alloc ?_ (by first | exact Nat.le_refl _ | (simp; done) | (simp; omega) | omega) _ | refine Below.setCell ?_ (by first | exact Nat.le_refl _ | (simp; done) | (simp; omega) | omega) _ | refine Below.trans ?_ (Below.mono (by assumption) (by first | exact Nat.le_refl _ | (simp; done) | (simp; omega) | omega)))); done) | fail)
     cases e2 : (x.way != y.way)
     case true =>
      go_wp2
      go_ret
      refine ⟨ret_b ?_, ?_⟩
      ·rw [hd.out, decide_eq_false, Bool.false_and]
       rintro rfl
       simp at e2
      ·have hq := hbr.out
       have hqs := hq.size
       exact (by first | ((repeat (first | exact Below.refl _ _ | assumption | refine Below.drewN ?_ _ | refine Below.drew ?_ | refine Below.alloc ?_ (by first | exact Nat.le_refl _ | (simp; done) | (simp; omega) | omega) _ | refine Below.setCell ?_ (by first | exact Nat.le_refl _ | (simp; done) | (simp; omega) | omega) _ | refine Below.trans ?_ (Below.mono (by assumption) (by first | exact Nat.le_refl _ | (simp; done) | (simp; omega) | omega)))); done) | fail)
     cases e3 : (x.relation != y.relation)
     case true =>
      go_wp2
      go_ret
      refine ⟨ret_b ?_, ?_⟩
      ·rw [hd.out, decide_eq_false, Bool.false_and]
       rintro rfl
       simp at e3
      ·have hq := hbr.out
       have hqs := hq.size
       exact (by first | ((repeat (first | exact Below.refl _ _ | assumption | refine Below.drewN ?_ _ | refine Below.drew ?_ | refine Below.alloc ?_ (by first | exact Nat.le_refl _ | (simp; done) | (simp; omega) | omega) _ | refine Below.setCell ?_ (by first | exact Nat.le_refl _ | (simp; done) | (simp; omega) | omega) _ | refine Below.trans ?_ (Below.mono (by assumption) (by first | exact Nat.le_refl _ | (simp; done) | (simp; omega) | omega)))); done) | fail)
     cases e4 : (x.duty != y.duty)
     case true =>
      go_wp2
      go_ret
      refine ⟨ret_b ?_, ?_⟩
      ·rw [hd.out, decide_eq_false, Bool.false_and]
       rintro rfl
       simp at e4
      ·have hq := hbr.out
       have hqs := hq.size
       exact (by first | ((repeat (first | exact Below.refl _ _ | assumption | refine Below.drewN ?_ _ | refine Below.drew ?_ | refine Below.alloc ?_ (by first | exact Nat.le_refl _ | (simp; done) | (simp; omega) | omega) _ | refine Below.setCell ?_ (by first | exact Nat.le_refl _ | (simp; done) | (simp; omega) | omega) _ | refine Below.trans ?_ (Below.mono (by assumption) (by first | exact Nat.le_refl _ | (simp; done) | (simp; omega) | omega)))); done) | fail)
     have hEQ : Hid (decide (x = y) = decide (x.list = y.list)) := by
      show _ = _
      have h1 := ba_eq_t e1
      simp only [bne_eq_false_iff_eq] at e2 e3 e4
      rw [Bool.eq_iff_iff, decide_eq_true_iff, decide_eq_true_iff]
      constructor
      ·rintro rfl; rfl
      ·intro h5; cases x; cases y; simp_all
     go_wp2_with fail
     refine (SameTexts_ref _ _ _ x.list y.list (HX.out.mono (by first | ((repeat (first | exact Below.refl _ _ | assumption | refine Below.drewN ?_ _ | refine Below.drew ?_ | refine Below.alloc ?_ (by first | exact Nat.le_refl _ | (simp; done) | (simp; omega) | omega) _ | refine Below.setCell ?_ (by first | exact Nat.le_refl _ | (simp; done) | (simp; omega) | omega) _ | refine Below.trans ?_ (Below.mono (by assumption) (by first | exact Nat.le_refl _ | (simp; done) | (simp; omega) | omega)))); done) | fail)) (HY.out.mono (by first | ((repeat (first | exact Below.refl _ _ | assumption | refine Below.drewN ?_ _ | refine Below.drew ?_ | refine Below.alloc ?_ (by first | exact Nat.le_refl _ | (simp; done) | (simp; omega) | omega) _ | refine Below.setCell ?_ (by first | exact Nat.le_refl _ | (simp; done) | (simp; omega) | omega) _ | refine Below.trans ?_ (Below.mono (by assumption) (by first | exact Nat.le_refl _ | (simp; done) | (simp; omega) | omega)))); done) | fail))).mono ?_
     rintro e w5 ⟨rfl, hb5⟩
     have HB5 : Hid (Below w.heap.size w w5) := by
      have hq := hbr.out
      have hqs := hq.size
      exact Below.trans (Below.trans hq (by exact (by first | ((repeat (first | exact Below.refl _ _ | assumption | refine Below.drewN ?_ _ | refine Below.drew ?_ | refine Below.alloc ?_ (by first | exact Nat.le_refl _ | (simp; done) | (simp; omega) | omega) _ | refine Below.setCell ?_ (by first | exact Nat.le_refl _ | (simp; done) | (simp; omega) | omega) _ | refine Below.trans ?_ (Below.mono (by assumption) (by first | exact Nat.le_refl _ | (simp; done) | (simp; omega) | omega)))); done) | fail))) (hb5.mono (by simp; omega))
     clear hb5
     cases e5 : decide (x.list = y.list)
     case false =>
      go_wp2
      go_ret
      exact ⟨ret_b (by rw [hd.out, hEQ.out, e5, Bool.false_and]), HB5.out⟩
     case true =>
      go_wp2
      go_roundw
      case rel => exact ⟨k + 1, by omega, by go_num, by show _ = _; rw [hd.out, hEQ.out, e5, Bool.true_and], HB5⟩
      case measure => simp [intOf]; omega
   ·go_wp2
    go_ret
    refine ⟨ret_b ?_, hbr.out⟩
    rw [hf.out, List.drop_eq_nil_of_le (by rw [HM.out]; omega), List.drop_eq_nil_of_le (by rw [HM1.out, ← HNE.out]; omega)]; simp
 ·have q0 : ((xs.length : Int) != (ys.length : Int)) = true := by simp; omega
  go_enter Tryz.func29, Tryz.ntmps29
  go_wp2
  go_ret
  exact ⟨ret_b (by rw [decide_eq_false]; rintro rfl; exact hne rfl), (by first | ((repeat (first | exact Below.refl _ _ | assumption | refine Below.drewN ?_ _ | refine Below.drew ?_ | refine Below.alloc ?_ (by first | exact Nat.le_refl _ | (simp; done) | (simp; omega) | omega) _ | refine Below.setCell ?_ (by first | exact Nat.le_refl _ | (simp; done) | (simp; omega) | omega) _ | refine Below.trans ?_ (Below.mono (by assumption) (by first | exact Nat.le_refl _ | (simp; done) | (simp; omega) | omega)))); done) | fail)⟩
end Go.Proofs.YtaneolfnnkppbaaGreatDoor
namespace Go.Proofs.YtaneolfnnkppbaaGreatDoor
open Go Go.RowKit Go.ChangeShapes
theorem neqLic (x y : License) (w : World) : (Go.binOp BinOp.neq 43 (licV x) (licV y)).run Tryz.prog w = .ok (.bool (!decide (x = y))) w := by
 have u3 := Tryz.underlying9
 have a3 := Tryz.isAgg9
 have z3 := Tryz.sizeOf9
 have u4 := Tryz.underlying3
 have a4 := Tryz.isAgg3
 have z4 := Tryz.sizeOf3
 have hS : Tryz.prog.underlying 43 = some (.struct (Tryz.prog.fieldsOf 43)) := by kernel_rfl
 have hp : Tryz.prog.stoodInHeld 43 = false := by kernel_rfl
 unfold licV
 rw [run_neq_struct, show (10000 : Nat) = 9999 + 1 from rfl, run_equalIn_agg w 9999 43 _ _ hS hp]
 simp only [Program.fieldsOf, Tryz.underlying43]
 go_simp
 have e : decide (x = y) = ((x.name.toList == y.name.toList) && (x.family.toList == y.family.toList) && (x.version == y.version) && (x.text.toList == y.text.toList)) := by
  rw [ba_eq, ba_eq, ba_eq, Bool.eq_iff_iff]
  cases x; cases y
  simp [and_assoc]
 rw [e]
 by_cases h1 : x.name.toList = y.name.toList <;> by_cases h2 : x.family.toList = y.family.toList <;> by_cases h3 : x.version = y.version <;> by_cases h4 : x.text.toList = y.text.toList <;> simp [h1, h2, h3, h4]
theorem neqPair (x y : Pair) (w : World) : (Go.binOp BinOp.neq 52 (.agg #[.string x.a, .string x.b]) (.agg #[.string y.a, .string y.b])).run Tryz.prog w = .ok (.bool (!decide (x = y))) w := by
 have u3 := Tryz.underlying9
 have a3 := Tryz.isAgg9
 have z3 := Tryz.sizeOf9
 have hS : Tryz.prog.underlying 52 = some (.struct (Tryz.prog.fieldsOf 52)) := by kernel_rfl
 have hp : Tryz.prog.stoodInHeld 52 = false := by kernel_rfl
 rw [run_neq_struct, show (10000 : Nat) = 9999 + 1 from rfl, run_equalIn_agg w 9999 52 _ _ hS hp]
 simp only [Program.fieldsOf, Tryz.underlying52]
 go_simp
 have e : decide (x = y) = ((x.a.toList == y.a.toList) && (x.b.toList == y.b.toList)) := by
  rw [ba_eq, ba_eq, Bool.eq_iff_iff]
  cases x; cases y
  simp
 rw [e]
 by_cases h1 : x.a.toList = y.a.toList <;> by_cases h2 : x.b.toList = y.b.toList <;> simp [h1, h2]
end Go.Proofs.YtaneolfnnkppbaaGreatDoor
namespace Go.Proofs.YtaneolfnnkppbaaGreatDoor
open Go Go.RowKit Go.ChangeShapes
theorem cat_eq (c d : Catalog) : decide (c = d) = (decide (c.licenses = d.licenses) && (decide (c.exceptions = d.exceptions) && (decide (c.apart = d.apart) && decide (c.clauses = d.clauses)))) := by
 rw [Bool.eq_iff_iff]
 cases c; cases d
 simp
 intro _ _
 exact And.comm
theorem cat_ne_l {c d : Catalog} (h : ¬ c.licenses.length = d.licenses.length) : decide (c = d) = false := by
 rw [decide_eq_false]; rintro rfl; exact h rfl
theorem cat_ne_e {c d : Catalog} (h : ¬ c.exceptions.length = d.exceptions.length) : decide (c = d) = false := by
 rw [decide_eq_false]; rintro rfl; exact h rfl
theorem cat_ne_p {c d : Catalog} (h : ¬ c.apart.length = d.apart.length) : decide (c = d) = false := by
 rw [decide_eq_false]; rintro rfl; exact h rfl
set_option maxRecDepth 100000 in
set_option maxHeartbeats 8000000 in
theorem Same_ref (w : World) (x0 x1 : Value) (c d : Catalog) (h : Is w x0 c) (h1 : Is w x1 d) :
  Calls Tryz.prog 14 #[x0, x1] w fun e w' => e = .returned (.bool (decide (c = d))) ∧ Below w.heap.size w w' := by
 obtain ⟨a0, c0, a1, c1, a2, c2, a3, c3, rfl, l0, m0, r0, l1, m1, r1, l2, m2, r2, l3, m3, r3⟩ := Catalog.inv h
 obtain ⟨b0, k0, b1, k1, b2, k2, b3, k3, rfl, l0', m0', r0', l1', m1', r1', l2', m2', r2', l3', m3', r3'⟩ := Catalog.inv h1
 have n0 : c.licenses.length ≤ 9223372036854775807 := by simp only [maxLen] at m0; omega
 have n1 : c.exceptions.length ≤ 9223372036854775807 := by simp only [maxLen] at m1; omega
 have n3 : c.apart.length ≤ 9223372036854775807 := by simp only [maxLen] at m3; omega
 have R0 := Lib.hid r0
 have R1 := Lib.hid r1
 have R3 := Lib.hid r3
 have S0 := Lib.hid r0'
 have S1 := Lib.hid r1'
 have S3 := Lib.hid r3'
 have L2 := Lib.hid (list_mk l2 m2 r2)
 have K2 := Lib.hid (list_mk l2' m2' r2')
 have HCE := Lib.hid (cat_eq c d)
 clear h h1 r0 r1 r2 r3 l0 l1 l2 l3 m0 m1 m2 m3 r0' r1' r2' r3' l0' l1' l2' l3' m0' m1' m2' m3'
 have HN0 : Hid (¬ c.licenses.length = d.licenses.length → decide (c = d) = false) := fun h => cat_ne_l h
 have HN1 : Hid (¬ c.exceptions.length = d.exceptions.length → decide (c = d) = false) := fun h => cat_ne_e h
 have HN3 : Hid (¬ c.apart.length = d.apart.length → decide (c = d) = false) := fun h => cat_ne_p h
 generalize hN0 : c.licenses.length = N0 at *
 generalize hM0 : d.licenses.length = M0 at *
 generalize hN1 : c.exceptions.length = N1 at *
 generalize hM1 : d.exceptions.length = M1 at *
 generalize hN2 : c.clauses.length = N2 at *
 generalize hM2 : d.clauses.length = M2 at *
 generalize hN3 : c.apart.length = N3 at *
 generalize hM3 : d.apart.length = M3 at *
 have HL := Lib.hid (And.intro hN0 (And.intro hN1 (And.intro hN2 hN3)))
 have HM := Lib.hid (And.intro hM0 (And.intro hM1 (And.intro hM2 hM3)))
 clear hN0 hN1 hN2 hN3 hM0 hM1 hM2 hM3
 by_cases ne0 : N0 = M0
 case neg =>
  have q0 : ((N0 : Int) != (M0 : Int)) = true := by simp; omega
  have HF := Lib.hid (HN0.out ne0)
  clear ne0
  go_enter Tryz.func14, Tryz.ntmps14
  go_wp2
  go_ret
  exact ⟨ret_b (by rw [HF.out]), (by first | ((repeat (first | exact Below.refl _ _ | assumption | refine Below.drewN ?_ _ | refine Below.drew ?_ | refine Below.alloc ?_ (by first | exact Nat.le_refl _ | (simp; done) | (simp; omega) | omega) _ | refine Below.setCell ?_ (by first | exact Nat.le_refl _ | (simp; done) | (simp; omega) | omega) _ | refine Below.trans ?_ (Below.mono (by assumption) (by first | exact Nat.le_refl _ | (simp; done) | (simp; omega) | omega)))); done) | fail)⟩
 have q0 : ((N0 : Int) != (M0 : Int)) = false := by simp; omega
 have NE0 := Lib.hid ne0
 clear ne0 HN0
 by_cases ne1 : N1 = M1
 case neg =>
  have q1 : ((N1 : Int) != (M1 : Int)) = true := by simp; omega
  have HF := Lib.hid (HN1.out ne1)
  clear ne1
  go_enter Tryz.func14, Tryz.ntmps14
  go_wp2
  go_ret
  exact ⟨ret_b (by rw [HF.out]), (by first | ((repeat (first | exact Below.refl _ _ | assumption | refine Below.drewN ?_ _ | refine Below.drew ?_ | refine Below.alloc ?_ (by first | exact Nat.le_refl _ | (simp; done) | (simp; omega) | omega) _ | refine Below.setCell ?_ (by first | exact Nat.le_refl _ | (simp; done) | (simp; omega) | omega) _ | refine Below.trans ?_ (Below.mono (by assumption) (by first | exact Nat.le_refl _ | (simp; done) | (simp; omega) | omega)))); done) | fail)⟩
 have q1 : ((N1 : Int) != (M1 : Int)) = false := by simp; omega
 have NE1 := Lib.hid ne1
 clear ne1 HN1
 by_cases ne3 : N3 = M3
 case neg =>
  have q3 : ((N3 : Int) != (M3 : Int)) = true := by simp; omega
  have HF := Lib.hid (HN3.out ne3)
  clear ne3
  go_enter Tryz.func14, Tryz.ntmps14
  go_wp2
  go_ret
  exact ⟨ret_b (by rw [HF.out]), (by first | ((repeat (first | exact Below.refl _ _ | assumption | refine Below.drewN ?_ _ | refine Below.drew ?_ | refine Below.alloc ?_ (by first | exact Nat.le_refl _ | (simp; done) | (simp; omega) | omega) _ | refine Below.setCell ?_ (by first | exact Nat.le_refl _ | (simp; done) | (simp; omega) | omega) _ | refine Below.trans ?_ (Below.mono (by assumption) (by first | exact Nat.le_refl _ | (simp; done) | (simp; omega) | omega)))); done) | fail)⟩
 have q3 : ((N3 : Int) != (M3 : Int)) = false := by simp; omega
 have NE3 := Lib.hid ne3
 clear ne3 HN3
 go_enter Tryz.func14, Tryz.ntmps14
 go_wp2
 clear q0 q1 q3
 have HB1 : Hid (Below w.heap.size w ((w.alloc (.cells #[.slice a0 N0 c0, .slice a1 N1 c1, .slice a2 N2 c2, .slice a3 N3 c3] 28)).alloc (.cells #[.slice b0 M0 k0, .slice b1 M1 k1, .slice b2 M2 k2, .slice b3 M3 k3] 28))) := by show Below _ _ _; exact (by first | ((repeat (first | exact Below.refl _ _ | assumption | refine Below.drewN ?_ _ | refine Below.drew ?_ | refine Below.alloc ?_ (by first | exact Nat.le_refl _ | (simp; done) | (simp; omega) | omega) _ | refine Below.setCell ?_ (by first | exact Nat.le_refl _ | (simp; done) | (simp; omega) | omega) _ | refine Below.trans ?_ (Below.mono (by assumption) (by first | exact Nat.le_refl _ | (simp; done) | (simp; omega) | omega)))); done) | fail)
 have d0 : ((w.alloc (.cells #[.slice a0 N0 c0, .slice a1 N1 c1, .slice a2 N2 c2, .slice a3 N3 c3] 28)).alloc (.cells #[.slice b0 M0 k0, .slice b1 M1 k1, .slice b2 M2 k2, .slice b3 M3 k3] 28)).cell? ⟨w.heap.size, 0, none⟩ = some (.slice a0 N0 c0) := by simp
 have d1 : ((w.alloc (.cells #[.slice a0 N0 c0, .slice a1 N1 c1, .slice a2 N2 c2, .slice a3 N3 c3] 28)).alloc (.cells #[.slice b0 M0 k0, .slice b1 M1 k1, .slice b2 M2 k2, .slice b3 M3 k3] 28)).cell? ⟨w.heap.size, 1, none⟩ = some (.slice a1 N1 c1) := by simp
 have d2 : ((w.alloc (.cells #[.slice a0 N0 c0, .slice a1 N1 c1, .slice a2 N2 c2, .slice a3 N3 c3] 28)).alloc (.cells #[.slice b0 M0 k0, .slice b1 M1 k1, .slice b2 M2 k2, .slice b3 M3 k3] 28)).cell? ⟨w.heap.size, 2, none⟩ = some (.slice a2 N2 c2) := by simp
 have d3 : ((w.alloc (.cells #[.slice a0 N0 c0, .slice a1 N1 c1, .slice a2 N2 c2, .slice a3 N3 c3] 28)).alloc (.cells #[.slice b0 M0 k0, .slice b1 M1 k1, .slice b2 M2 k2, .slice b3 M3 k3] 28)).cell? ⟨w.heap.size, 3, none⟩ = some (.slice a3 N3 c3) := by simp
 have e0 : ((w.alloc (.cells #[.slice a0 N0 c0, .slice a1 N1 c1, .slice a2 N2 c2, .slice a3 N3 c3] 28)).alloc (.cells #[.slice b0 M0 k0, .slice b1 M1 k1, .slice b2 M2 k2, .slice b3 M3 k3] 28)).cell? ⟨w.heap.size + 1, 0, none⟩ = some (.slice b0 M0 k0) := by simp
 have e1 : ((w.alloc (.cells #[.slice a0 N0 c0, .slice a1 N1 c1, .slice a2 N2 c2, .slice a3 N3 c3] 28)).alloc (.cells #[.slice b0 M0 k0, .slice b1 M1 k1, .slice b2 M2 k2, .slice b3 M3 k3] 28)).cell? ⟨w.heap.size + 1, 1, none⟩ = some (.slice b1 M1 k1) := by simp
 have e2 : ((w.alloc (.cells #[.slice a0 N0 c0, .slice a1 N1 c1, .slice a2 N2 c2, .slice a3 N3 c3] 28)).alloc (.cells #[.slice b0 M0 k0, .slice b1 M1 k1, .slice b2 M2 k2, .slice b3 M3 k3] 28)).cell? ⟨w.heap.size + 1, 2, none⟩ = some (.slice b2 M2 k2) := by simp
 have e3 : ((w.alloc (.cells #[.slice a0 N0 c0, .slice a1 N1 c1, .slice a2 N2 c2, .slice a3 N3 c3] 28)).alloc (.cells #[.slice b0 M0 k0, .slice b1 M1 k1, .slice b2 M2 k2, .slice b3 M3 k3] 28)).cell? ⟨w.heap.size + 1, 3, none⟩ = some (.slice b3 M3 k3) := by simp
 generalize (w.alloc (.cells #[.slice a0 N0 c0, .slice a1 N1 c1, .slice a2 N2 c2, .slice a3 N3 c3] 28)).alloc (.cells #[.slice b0 M0 k0, .slice b1 M1 k1, .slice b2 M2 k2, .slice b3 M3 k3] 28) = w1 at *
 have z1 : w.heap.size + 1 < w1.heap.size := cell_lt e0
 go_loopw [5] (fun kv wr => ∃ k : Nat, k ≤ N0 ∧ kv = .int .i64 k ∧ Hid (decide (c.licenses = d.licenses) = decide (c.licenses.drop k = d.licenses.drop k)) ∧ Hid (Below w1.heap.size w1 wr)) (fun kv _ => N0 - (intOf kv).toNat)
 case atStart => exact ⟨0, by omega, rfl, rfl, Lib.hid (Below.refl _ _)⟩
 case round =>
  obtain ⟨k, hk, rfl, hf, hbr⟩ := hrel
  have D0 := kept hbr.out d0
  have D1 := kept hbr.out d1
  have D2 := kept hbr.out d2
  have D3 := kept hbr.out d3
  have E0 := kept hbr.out e0
  have E1 := kept hbr.out e1
  have E2 := kept hbr.out e2
  have E3 := kept hbr.out e3
  have zr : w.heap.size + 1 < wr.heap.size := cell_lt E0
  by_cases hki : k < N0
  ·obtain ⟨x, hx⟩ := get_lt (xs := c.licenses) (k := k) (by rw [HL.out.1]; exact hki)
   obtain ⟨y, hy⟩ := get_lt (xs := d.licenses) (k := k) (by rw [HM.out.1, ← NE0.out]; exact hki)
   have hd := Lib.hid (dec_cons (drop_at hx) (drop_at hy) _ hf.out)
   have hkm : (k : Int) < (M0 : Int) := by have := NE0.out; omega
   have hkn : (k : Int) < (N0 : Int) := by omega
   have hk0 : (0 : Int) ≤ (k : Int) := by omega
   obtain ⟨b, off, rfl, hb, y0', y1', y2', y3', -⟩ := License.at_row (R0.out.mono (HB1.out.trans (hbr.out.mono HB1.out.size))) hx
   obtain ⟨b', off', rfl, hb', u0', u1', u2', u3', -⟩ := License.at_row (S0.out.mono (HB1.out.trans (hbr.out.mono HB1.out.size))) hy
   have hq := fun W => neqLic x y W
   unfold licV at hq
   clear hx hy
   cases e9 : decide (x = y)
   case false =>
    rw [e9] at hq
    have HF : Hid (decide (c = d) = false) := by show _ = _; rw [HCE.out, hd.out, e9]; rfl
    clear hd e9
    go_wp2
    go_quiet (fail)
    go_wp2
    go_ret
    exact ⟨ret_b HF.out.symm, by have hq := HB1.out; have hqs := hq.size; have hr := hbr.out; have hrs := hr.size; exact (by first | ((repeat (first | exact Below.refl _ _ | assumption | refine Below.drewN ?_ _ | refine Below.drew ?_ | refine Below.alloc ?_ (by first | exact Nat.le_refl _ | (simp; done) | (simp; omega) | omega) _ | refine Below.setCell ?_ (by first | exact Nat.le_refl _ | (simp; done) | (simp; omega) | omega) _ | refine Below.trans ?_ (Below.mono (by assumption) (by first | exact Nat.le_refl _ | (simp; done) | (simp; omega) | omega)))); done) | fail)⟩
   case true =>
    rw [e9] at hq
    have HT : Hid (decide (c.licenses = d.licenses) = decide (c.licenses.drop (k + 1) = d.licenses.drop (k + 1))) := by show _ = _; rw [hd.out, e9, Bool.true_and]
    clear hd e9
    go_wp2
    go_quiet (fail)
    go_wp2
    go_roundw
    case rel => exact ⟨k + 1, by omega, by go_num, HT, Lib.hid (hbr.out.drewN _)⟩
    case measure => simp [intOf]; omega
  ·have P0 : Hid (decide (c.licenses = d.licenses) = true) := by
    show _ = _
    rw [hf.out, List.drop_eq_nil_of_le (by rw [HL.out.1]; omega), List.drop_eq_nil_of_le (by rw [HM.out.1, ← NE0.out]; omega)]; simp
   go_wp2
   go_loopw [6] (fun kv wr => ∃ k : Nat, k ≤ N1 ∧ kv = .int .i64 k ∧ Hid (decide (c.exceptions = d.exceptions) = decide (c.exceptions.drop k = d.exceptions.drop k)) ∧ Hid (Below w1.heap.size w1 wr)) (fun kv _ => N1 - (intOf kv).toNat)
   case atStart => exact ⟨0, by omega, rfl, rfl, hbr⟩
   case round =>
    clear hbr hf hk hki D0 D1 D2 D3 E0 E1 E2 E3 zr
    obtain ⟨k, hk, rfl, hf, hbr⟩ := hrel
    have D0 := kept hbr.out d0
    have D1 := kept hbr.out d1
    have D2 := kept hbr.out d2
    have D3 := kept hbr.out d3
    have E0 := kept hbr.out e0
    have E1 := kept hbr.out e1
    have E2 := kept hbr.out e2
    have E3 := kept hbr.out e3
    have zr : w.heap.size + 1 < wr.heap.size := cell_lt E0
    by_cases hki : k < N1
    ·obtain ⟨x, hx⟩ := get_lt (xs := c.exceptions) (k := k) (by rw [HL.out.2.1]; exact hki)
     obtain ⟨y, hy⟩ := get_lt (xs := d.exceptions) (k := k) (by rw [HM.out.2.1, ← NE1.out]; exact hki)
     have hd := Lib.hid (dec_cons (drop_at hx) (drop_at hy) _ hf.out)
     have hkm : (k : Int) < (M1 : Int) := by have := NE1.out; omega
     have hkn : (k : Int) < (N1 : Int) := by omega
     have hk0 : (0 : Int) ≤ (k : Int) := by omega
     obtain ⟨b, off, rfl, hb, xa, xc, x0, x1, x2, s0, s1, xl, xm, xr⟩ := Exc.at_row (R1.out.mono (HB1.out.trans (hbr.out.mono HB1.out.size))) hx
     obtain ⟨b', off', rfl, hb', ya, yc, y0, y1, y2, t0, t1, yl, ym, yr⟩ := Exc.at_row (S1.out.mono (HB1.out.trans (hbr.out.mono HB1.out.size))) hy
     have HX := Lib.hid (list_mk xl xm xr)
     have HY := Lib.hid (list_mk yl ym yr)
     clear hx hy s0 s1 t0 t1 xl xm xr yl ym yr hf
     generalize hX : x.lifts.length = NX at *
     generalize hY : y.lifts.length = NY at *
     clear hX hY
     go_wp2
     go_region_held3 (fun w' => w'.cell? ⟨b, off + k * 3, none⟩ = some (.string x.name) ∧ w'.cell? ⟨b, off + k * 3 + 1, none⟩ = some (.string x.license) ∧ w'.cell? ⟨b, off + k * 3 + 2, none⟩ = some (.slice xa NX xc) ∧ w'.cell? ⟨b', off' + k * 3, none⟩ = some (.string y.name) ∧ w'.cell? ⟨b', off' + k * 3 + 1, none⟩ = some (.string y.license) ∧ w'.cell? ⟨b', off' + k * 3 + 2, none⟩ = some (.slice ya NY yc) ∧ w'.cell? ⟨w.heap.size, 1, none⟩ = some (.slice (some ⟨b, off, none⟩) N1 c1) ∧ w'.cell? ⟨w.heap.size + 1, 1, none⟩ = some (.slice (some ⟨b', off', none⟩) M1 k1)) (go_keep) (fail)
     all_goals
      cases e1 : (x.name.toList == y.name.toList)
      case false =>
       go_wp2
       go_ret
       refine ⟨ret_b ?_, by have hq := HB1.out; have hqs := hq.size; have hr := hbr.out; have hrs := hr.size; exact (by first | ((repeat (first | exact Below.refl _ _ | assumption | refine Below.drewN ?_ _ | refine Below.drew ?_ | refine Below.alloc ?_ (by first | exact Nat.le_refl _ | (simp; done) | (simp; omega) | omega) _ | refine Below.setCell ?_ (by first | exact Nat.le_refl _ | (simp; done) | (simp; omega) | omega) _ | refine Below.trans ?_ (Below.mono (by assumption) (by first | exact Nat.le_refl _ | (simp; done) | (simp; omega) | omega)))); done) | fail)⟩
       rw [HCE.out, hd.out, decide_eq_false (p := x = y) (by rintro rfl; simp at e1)]; simp
      cases e2 : (x.license.toList == y.license.toList)
      case false =>
       go_wp2
       go_ret
       refine ⟨ret_b ?_, by have hq := HB1.out; have hqs := hq.size; have hr := hbr.out; have hrs := hr.size; exact (by first | ((repeat (first | exact Below.refl _ _ | assumption | refine Below.drewN ?_ _ | refine Below.drew ?_ | refine Below.alloc ?_ (by first | exact Nat.le_refl _ | (simp; done) | (simp; omega) | omega) _ | refine Below.setCell ?_ (by first | exact Nat.le_refl _ | (simp; done) | (simp; omega) | omega) _ | refine Below.trans ?_ (Below.mono (by assumption) (by first | exact Nat.le_refl _ | (simp; done) | (simp; omega) | omega)))); done) | fail)⟩
       rw [HCE.out, hd.out, decide_eq_false (p := x = y) (by rintro rfl; simp at e2)]; simp
      have hEQ : Hid (decide (x = y) = decide (x.lifts = y.lifts)) := by
       show _ = _
       have h1 := ba_eq_t e1
       have h2 := ba_eq_t e2
       rw [Bool.eq_iff_iff, decide_eq_true_iff, decide_eq_true_iff]
       constructor
       ·rintro rfl; rfl
       ·intro h5; cases x; cases y; simp_all
      go_wp2_with fail
      refine (SameNumbers_ref _ _ _ x.lifts y.lifts (HX.out.mono (by first | ((repeat (first | exact Below.refl _ _ | assumption | refine Below.drewN ?_ _ | refine Below.drew ?_ | refine Below.alloc ?_ (by first | exact Nat.le_refl _ | (simp; done) | (simp; omega) | omega) _ | refine Below.setCell ?_ (by first | exact Nat.le_refl _ | (simp; done) | (simp; omega) | omega) _ | refine Below.trans ?_ (Below.mono (by assumption) (by first | exact Nat.le_refl _ | (simp; done) | (simp; omega) | omega)))); done) | fail)) (HY.out.mono (by first | ((repeat (first | exact Below.refl _ _ | assumption | refine Below.drewN ?_ _ | refine Below.drew ?_ | refine Below.alloc ?_ (by first | exact Nat.le_refl _ | (simp; done) | (simp; omega) | omega) _ | refine Below.setCell ?_ (by first | exact Nat.le_refl _ | (simp; done) | (simp; omega) | omega) _ | refine Below.trans ?_ (Below.mono (by assumption) (by first | exact Nat.le_refl _ | (simp; done) | (simp; omega) | omega)))); done) | fail))).mono ?_
      rintro e w5 ⟨rfl, hb5⟩
      have HB5 : Hid (Below w1.heap.size w1 w5) := by
       have hq := hbr.out
       have hqs := hq.size
       exact Below.trans (Below.trans hq (by exact (by first | ((repeat (first | exact Below.refl _ _ | assumption | refine Below.drewN ?_ _ | refine Below.drew ?_ | refine Below.alloc ?_ (by first | exact Nat.le_refl _ | (simp; done) | (simp; omega) | omega) _ | refine Below.setCell ?_ (by first | exact Nat.le_refl _ | (simp; done) | (simp; omega) | omega) _ | refine Below.trans ?_ (Below.mono (by assumption) (by first | exact Nat.le_refl _ | (simp; done) | (simp; omega) | omega)))); done) | fail))) (hb5.mono (by simp; omega))
      clear hb5
      cases e5 : decide (x.lifts = y.lifts)
      case false =>
       go_wp2
       go_ret
       exact ⟨ret_b (by rw [HCE.out, hd.out, hEQ.out, e5]; simp), HB1.out.trans (HB5.out.mono HB1.out.size)⟩
      case true =>
       go_wp2
       go_roundw
       case rel => exact ⟨k + 1, by omega, by go_num, by show _ = _; rw [hd.out, hEQ.out, e5, Bool.true_and], HB5⟩
       case measure => simp [intOf]; omega
    ·have P1 : Hid (decide (c.exceptions = d.exceptions) = true) := by
      show _ = _
      rw [hf.out, List.drop_eq_nil_of_le (by rw [HL.out.2.1]; omega), List.drop_eq_nil_of_le (by rw [HM.out.2.1, ← NE1.out]; omega)]; simp
     go_wp2
     go_loopw [9] (fun kv wr => ∃ k : Nat, k ≤ N3 ∧ kv = .int .i64 k ∧ Hid (decide (c.apart = d.apart) = decide (c.apart.drop k = d.apart.drop k)) ∧ Hid (Below w1.heap.size w1 wr)) (fun kv _ => N3 - (intOf kv).toNat)
     case atStart => exact ⟨0, by omega, rfl, rfl, hbr⟩
     case round =>
      clear hbr hf hk hki D0 D1 D2 D3 E0 E1 E2 E3 zr
      obtain ⟨k, hk, rfl, hf, hbr⟩ := hrel
      have D0 := kept hbr.out d0
      have D1 := kept hbr.out d1
      have D2 := kept hbr.out d2
      have D3 := kept hbr.out d3
      have E0 := kept hbr.out e0
      have E1 := kept hbr.out e1
      have E2 := kept hbr.out e2
      have E3 := kept hbr.out e3
      have zr : w.heap.size + 1 < wr.heap.size := cell_lt E0
      by_cases hki : k < N3
      ·obtain ⟨x, hx⟩ := get_lt (xs := c.apart) (k := k) (by rw [HL.out.2.2.2]; exact hki)
       obtain ⟨y, hy⟩ := get_lt (xs := d.apart) (k := k) (by rw [HM.out.2.2.2, ← NE3.out]; exact hki)
       have hd := Lib.hid (dec_cons (drop_at hx) (drop_at hy) _ hf.out)
       have hkm : (k : Int) < (M3 : Int) := by have := NE3.out; omega
       have hkn : (k : Int) < (N3 : Int) := by omega
       have hk0 : (0 : Int) ≤ (k : Int) := by omega
       obtain ⟨b, off, rfl, hb, y0', y1', -⟩ := Pair.at_row (R3.out.mono (HB1.out.trans (hbr.out.mono HB1.out.size))) hx
       obtain ⟨b', off', rfl, hb', u0', u1', -⟩ := Pair.at_row (S3.out.mono (HB1.out.trans (hbr.out.mono HB1.out.size))) hy
       have hq := fun W => neqPair x y W
       clear hx hy
       cases e9 : decide (x = y)
       case false =>
        rw [e9] at hq
        have HF : Hid (decide (c = d) = false) := by show _ = _; rw [HCE.out, hd.out, e9]; simp
        clear hd e9
        go_wp2
        go_quiet (fail)
        go_wp2
        go_ret
        exact ⟨ret_b HF.out.symm, by have hq := HB1.out; have hqs := hq.size; have hr := hbr.out; have hrs := hr.size; exact (by first | ((repeat (first | exact Below.refl _ _ | assumption | refine Below.drewN ?_ _ | refine Below.drew ?_ | refine Below.alloc ?_ (by first | exact Nat.le_refl _ | (simp; done) | (simp; omega) | omega) _ | refine Below.setCell ?_ (by first | exact Nat.le_refl _ | (simp; done) | (simp; omega) | omega) _ | refine Below.trans ?_ (Below.mono (by assumption) (by first | exact Nat.le_refl _ | (simp; done) | (simp; omega) | omega)))); done) | fail)⟩
       case true =>
        rw [e9] at hq
        have HT : Hid (decide (c.apart = d.apart) = decide (c.apart.drop (k + 1) = d.apart.drop (k + 1))) := by show _ = _; rw [hd.out, e9, Bool.true_and]
        clear hd e9
        go_wp2
        go_quiet (fail)
        go_wp2
        go_roundw
        case rel => exact ⟨k + 1, by omega, by go_num, HT, Lib.hid (hbr.out.drewN _)⟩
        case measure => simp [intOf]; omega
      ·have P3 : Hid (decide (c.apart = d.apart) = true) := by
        show _ = _
        rw [hf.out, List.drop_eq_nil_of_le (by rw [HL.out.2.2.2]; omega), List.drop_eq_nil_of_le (by rw [HM.out.2.2.2, ← NE3.out]; omega)]; simp
       have HE : Hid (decide (c.clauses = d.clauses) = decide (c = d)) := by show _ = _; rw [HCE.out, P0.out, P1.out, P3.out]; simp
       clear hf HCE
       go_wp2_with fail
       refine (SameClauses_ref _ _ _ c.clauses d.clauses (L2.out.mono (HB1.out.trans (hbr.out.mono HB1.out.size))) (K2.out.mono (HB1.out.trans (hbr.out.mono HB1.out.size)))).mono ?_
       rintro e w5 ⟨rfl, hb5⟩
       have HB5 := Lib.hid ((HB1.out.trans (hbr.out.mono HB1.out.size)).trans (hb5.mono (by omega)))
       clear hb5
       rw [HE.out]
       go_wp2
       go_ret
       exact ⟨rfl, HB5.out⟩
end Go.Proofs.YtaneolfnnkppbaaGreatDoor
