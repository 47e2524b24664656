/- The statement of look-ups: what its function computes. -/
import Derived.Test.YtaneolfnnkppbaaGreatDoorJAwake
import Derived.Test.YtaneolfnnkppbaaGreatDoorJFewU
import Derived.Test.YtaneolfnnkppbaaGreatDoorJSameU
import Derived.Test.YtaneolfnnkppbaaGreatDoorJLookU
set_option linter.all false
namespace Go.Proofs.YtaneolfnnkppbaaGreatDoor
open Go Go.RowKit Go.ChangeShapes
set_option maxRecDepth 100000 in
set_option maxHeartbeats 8000000 in
theorem CatalogLooks_q (w : World) (x0 : Value) (c : Catalog) (t : Term) (s : ByteArray) (wy rl : Int) (hg : Glob w) (h : Is w x0 c) :
    Calls Tryz.prog 8 #[x0, .agg #[.string t.license, .string t.exception], .string s, .int .i64 wy, .int .i64 rl] w fun e w' => e = .returned (.bool true) ∧ Below w.heap.size w w' := by
  obtain ⟨a0, c0, a1, c1, a2, c2, a3, c3, rfl, l0, m0, r0, l1, m1, r1, l2, m2, r2, l3, m3, r3⟩ := Catalog.inv h
  have HI := Lib.hid h
  have HG := Lib.hid hg
  have n0 : c.licenses.length ≤ 9223372036854775807 := by simp only [maxLen] at m0; omega
  have n1 : c.exceptions.length ≤ 9223372036854775807 := by simp only [maxLen] at m1; omega
  have n2 : c.clauses.length ≤ 9223372036854775807 := by simp only [maxLen] at m2; omega
  have n3 : c.apart.length ≤ 9223372036854775807 := by simp only [maxLen] at m3; omega
  clear h hg r0 r1 r2 r3 l0 l1 l2 l3 m0 m1 m2 m3
  generalize hL0 : c.licenses.length = N0 at *
  generalize hL1 : c.exceptions.length = N1 at *
  generalize hL2 : c.clauses.length = N2 at *
  generalize hL3 : c.apart.length = N3 at *
  have HL := Lib.hid (And.intro hL0 (And.intro hL1 (And.intro hL2 hL3)))
  clear hL0 hL1 hL2 hL3
  go_enter Tryz.func8, Tryz.ntmps8
  go_wp2_with fail
  have HB1 : Hid (Below w.heap.size w ((w.alloc (.cells #[.slice a0 N0 c0, .slice a1 N1 c1, .slice a2 N2 c2, .slice a3 N3 c3] 28)).alloc (.cells #[.string t.license, .string t.exception] 55))) := by show Below _ _ _; exact (by first | ((repeat (first | exact Below.refl _ _ | assumption | refine Below.drewN ?_ _ | refine Below.drew ?_ | refine Below.alloc ?_ (by first | exact Nat.le_refl _ | (simp; done) | (simp; omega) | omega) _ | refine Below.setCell ?_ (by first | exact Nat.le_refl _ | (simp; done) | (simp; omega) | omega) _ | refine Below.trans ?_ (Below.mono (by assumption) (by first | exact Nat.le_refl _ | (simp; done) | (simp; omega) | omega)))); done) | fail)
  have d0 : ((w.alloc (.cells #[.slice a0 N0 c0, .slice a1 N1 c1, .slice a2 N2 c2, .slice a3 N3 c3] 28)).alloc (.cells #[.string t.license, .string t.exception] 55)).cell? ⟨w.heap.size, 0, none⟩ = some (.slice a0 N0 c0) := by simp
  have d1 : ((w.alloc (.cells #[.slice a0 N0 c0, .slice a1 N1 c1, .slice a2 N2 c2, .slice a3 N3 c3] 28)).alloc (.cells #[.string t.license, .string t.exception] 55)).cell? ⟨w.heap.size, 1, none⟩ = some (.slice a1 N1 c1) := by simp
  have d2 : ((w.alloc (.cells #[.slice a0 N0 c0, .slice a1 N1 c1, .slice a2 N2 c2, .slice a3 N3 c3] 28)).alloc (.cells #[.string t.license, .string t.exception] 55)).cell? ⟨w.heap.size, 2, none⟩ = some (.slice a2 N2 c2) := by simp
  have d3 : ((w.alloc (.cells #[.slice a0 N0 c0, .slice a1 N1 c1, .slice a2 N2 c2, .slice a3 N3 c3] 28)).alloc (.cells #[.string t.license, .string t.exception] 55)).cell? ⟨w.heap.size, 3, none⟩ = some (.slice a3 N3 c3) := by simp
  have t0 : ((w.alloc (.cells #[.slice a0 N0 c0, .slice a1 N1 c1, .slice a2 N2 c2, .slice a3 N3 c3] 28)).alloc (.cells #[.string t.license, .string t.exception] 55)).cell? ⟨w.heap.size + 1, 0, none⟩ = some (.string t.license) := by simp
  have t1 : ((w.alloc (.cells #[.slice a0 N0 c0, .slice a1 N1 c1, .slice a2 N2 c2, .slice a3 N3 c3] 28)).alloc (.cells #[.string t.license, .string t.exception] 55)).cell? ⟨w.heap.size + 1, 1, none⟩ = some (.string t.exception) := by simp
  have HI1 := Lib.hid (HI.out.mono HB1.out)
  have HG1 := Lib.hid (HG.out.mono HB1.out)
  generalize (w.alloc (.cells #[.slice a0 N0 c0, .slice a1 N1 c1, .slice a2 N2 c2, .slice a3 N3 c3] 28)).alloc (.cells #[.string t.license, .string t.exception] 55) = w1 at *
  have z1 : w.heap.size < w1.heap.size := cell_lt d0
  clear HI HG
  refine (awake_p w1 HG1.out).mono ?_
  rintro e w2 ⟨rfl, hb⟩
  have u0 := kept hb t0
  have u1 := kept hb t1
  clear t0 t1
  have y2 : w.heap.size + 1 < w2.heap.size := cell_lt u0
  have e0 := kept hb d0
  have e1 := kept hb d1
  have e2 := kept hb d2
  have e3 := kept hb d3
  have HI2 := Lib.hid (HI1.out.mono hb)
  have HG2 := Lib.hid (HG1.out.mono hb)
  have HB2 := Lib.hid (HB1.out.trans (hb.mono HB1.out.size))
  have z2 : w.heap.size < w2.heap.size := cell_lt e0
  clear d0 d1 d2 d3 hb HI1 HG1 HB1 z1 
  go_wp2_with fail
  refine (Few_ref w2 _ c HI2.out).mono ?_
  unfold SomeB
  rintro e w3 ⟨fb, rfl, hb⟩
  have t0 := kept hb u0
  have t1 := kept hb u1
  clear u0 u1 y2
  have y3 : w.heap.size + 1 < w3.heap.size := cell_lt t0
  have d0 := kept hb e0
  have d1 := kept hb e1
  have d2 := kept hb e2
  have d3 := kept hb e3
  have HI3 := Lib.hid (HI2.out.mono hb)
  have HG3 := Lib.hid (HG2.out.mono hb)
  have HB3 := Lib.hid (HB2.out.trans (hb.mono HB2.out.size))
  have z3 : w.heap.size < w3.heap.size := cell_lt d0
  clear e0 e1 e2 e3 hb HI2 HG2 HB2 z2 
  cases fb
  case false =>
    go_wp2
    go_ret
    exact ⟨rfl, HB3.out⟩
  cases q1 : decide ((300 : Int) < wrap64 (wrap64 ((t.license.size : Int) + (t.exception.size : Int)) + (s.size : Int)))
  case true =>
    go_wp2
    go_ret
    exact ⟨rfl, HB3.out⟩
  go_wp2_with fail
  refine (Find_p w3 _ c _ HG3.out HI3.out).mono ?_
  unfold licV
  rintro e w4 ⟨rfl, hb⟩
  have u0 := kept hb t0
  have u1 := kept hb t1
  clear t0 t1
  have y4 : w.heap.size + 1 < w4.heap.size := cell_lt u0
  have e0 := kept hb d0
  have e1 := kept hb d1
  have e2 := kept hb d2
  have e3 := kept hb d3
  have HI4 := Lib.hid (HI3.out.mono hb)
  have HG4 := Lib.hid (HG3.out.mono hb)
  have HB4 := Lib.hid (HB3.out.trans (hb.mono HB3.out.size))
  have z4 : w.heap.size < w4.heap.size := cell_lt e0
  clear d0 d1 d2 d3 hb HI3 HG3 HB3 z3 
  clear q1 y3
  obtain ⟨z, hz⟩ : ∃ z, z = (findC c t.license).getD noLic := ⟨_, rfl⟩
  rw [← hz]
  have HZ := Lib.hid hz
  clear hz
  obtain ⟨fz, hfz⟩ : ∃ fz, fz = (findC c t.license).isSome := ⟨_, rfl⟩
  rw [← hfz]
  have HFZ := Lib.hid hfz
  clear hfz
  go_wp2_with fail
  have hb : Below w4.heap.size w4 (w4.alloc (.cells #[.string z.name, .string z.family, .int .i64 z.version, .string z.text] 43)) := by exact (by first | ((repeat (first | exact Below.refl _ _ | assumption | refine Below.drewN ?_ _ | refine Below.drew ?_ | refine Below.alloc ?_ (by first | exact Nat.le_refl _ | (simp; done) | (simp; omega) | omega) _ | refine Below.setCell ?_ (by first | exact Nat.le_refl _ | (simp; done) | (simp; omega) | omega) _ | refine Below.trans ?_ (Below.mono (by assumption) (by first | exact Nat.le_refl _ | (simp; done) | (simp; omega) | omega)))); done) | fail)
  have g0 : (w4.alloc (.cells #[.string z.name, .string z.family, .int .i64 z.version, .string z.text] 43)).cell? ⟨w4.heap.size, 0, none⟩ = some (.string z.name) := by simp
  have g1 : (w4.alloc (.cells #[.string z.name, .string z.family, .int .i64 z.version, .string z.text] 43)).cell? ⟨w4.heap.size, 1, none⟩ = some (.string z.family) := by simp
  have g2 : (w4.alloc (.cells #[.string z.name, .string z.family, .int .i64 z.version, .string z.text] 43)).cell? ⟨w4.heap.size, 2, none⟩ = some (.int .i64 z.version) := by simp
  have g3 : (w4.alloc (.cells #[.string z.name, .string z.family, .int .i64 z.version, .string z.text] 43)).cell? ⟨w4.heap.size, 3, none⟩ = some (.string z.text) := by simp
  have t0 := kept hb u0
  have t1 := kept hb u1
  clear u0 u1
  have y5 : w.heap.size + 1 < (w4.alloc (.cells #[.string z.name, .string z.family, .int .i64 z.version, .string z.text] 43)).heap.size := cell_lt t0
  have d0 := kept hb e0
  have d1 := kept hb e1
  have d2 := kept hb e2
  have d3 := kept hb e3
  have HI5 := Lib.hid (HI4.out.mono hb)
  have HG5 := Lib.hid (HG4.out.mono hb)
  have HB5 := Lib.hid (HB4.out.trans (hb.mono HB4.out.size))
  have z5 : w.heap.size < (w4.alloc (.cells #[.string z.name, .string z.family, .int .i64 z.version, .string z.text] 43)).heap.size := cell_lt d0
  clear e0 e1 e2 e3 hb HI4 HG4 HB4 z4 
  clear y4
  generalize w4.alloc (.cells #[.string z.name, .string z.family, .int .i64 z.version, .string z.text] 43) = w5 at *
  have v5 : w4.heap.size < w5.heap.size := cell_lt g0
  refine (Find_ref w5 _ c _ HI5.out).mono ?_
  unfold licV
  rintro e w6 ⟨rfl, hb⟩
  rw [← HZ.out, ← HFZ.out]
  have h0 := kept hb g0
  have h1 := kept hb g1
  have h2 := kept hb g2
  have h3 := kept hb g3
  clear g0 g1 g2 g3
  have u0 := kept hb t0
  have u1 := kept hb t1
  clear t0 t1
  have y6 : w.heap.size + 1 < w6.heap.size := cell_lt u0
  have e0 := kept hb d0
  have e1 := kept hb d1
  have e2 := kept hb d2
  have e3 := kept hb d3
  have HI6 := Lib.hid (HI5.out.mono hb)
  have HG6 := Lib.hid (HG5.out.mono hb)
  have HB6 := Lib.hid (HB5.out.trans (hb.mono HB5.out.size))
  have z6 : w.heap.size < w6.heap.size := cell_lt e0
  clear d0 d1 d2 d3 hb HI5 HG5 HB5 z5 
  clear y5 v5
  have v6 : w4.heap.size < w6.heap.size := cell_lt h0
  go_wp2_with fail
  have hb : Below w6.heap.size w6 (w6.alloc (.cells #[.string z.name, .string z.family, .int .i64 z.version, .string z.text] 43)) := by exact (by first | ((repeat (first | exact Below.refl _ _ | assumption | refine Below.drewN ?_ _ | refine Below.drew ?_ | refine Below.alloc ?_ (by first | exact Nat.le_refl _ | (simp; done) | (simp; omega) | omega) _ | refine Below.setCell ?_ (by first | exact Nat.le_refl _ | (simp; done) | (simp; omega) | omega) _ | refine Below.trans ?_ (Below.mono (by assumption) (by first | exact Nat.le_refl _ | (simp; done) | (simp; omega) | omega)))); done) | fail)
  have k0 : (w6.alloc (.cells #[.string z.name, .string z.family, .int .i64 z.version, .string z.text] 43)).cell? ⟨w6.heap.size, 0, none⟩ = some (.string z.name) := by simp
  have k1 : (w6.alloc (.cells #[.string z.name, .string z.family, .int .i64 z.version, .string z.text] 43)).cell? ⟨w6.heap.size, 1, none⟩ = some (.string z.family) := by simp
  have k2 : (w6.alloc (.cells #[.string z.name, .string z.family, .int .i64 z.version, .string z.text] 43)).cell? ⟨w6.heap.size, 2, none⟩ = some (.int .i64 z.version) := by simp
  have k3 : (w6.alloc (.cells #[.string z.name, .string z.family, .int .i64 z.version, .string z.text] 43)).cell? ⟨w6.heap.size, 3, none⟩ = some (.string z.text) := by simp
  have g0 := kept hb h0
  have g1 := kept hb h1
  have g2 := kept hb h2
  have g3 := kept hb h3
  clear h0 h1 h2 h3
  have t0 := kept hb u0
  have t1 := kept hb u1
  clear u0 u1
  have y7 : w.heap.size + 1 < (w6.alloc (.cells #[.string z.name, .string z.family, .int .i64 z.version, .string z.text] 43)).heap.size := cell_lt t0
  have d0 := kept hb e0
  have d1 := kept hb e1
  have d2 := kept hb e2
  have d3 := kept hb e3
  have HI7 := Lib.hid (HI6.out.mono hb)
  have HG7 := Lib.hid (HG6.out.mono hb)
  have HB7 := Lib.hid (HB6.out.trans (hb.mono HB6.out.size))
  have z7 : w.heap.size < (w6.alloc (.cells #[.string z.name, .string z.family, .int .i64 z.version, .string z.text] 43)).heap.size := cell_lt d0
  clear e0 e1 e2 e3 hb HI6 HG6 HB6 z6 
  clear y6 v6
  generalize w6.alloc (.cells #[.string z.name, .string z.family, .int .i64 z.version, .string z.text] 43) = w7 at *
  have v7 : w4.heap.size < w7.heap.size := cell_lt g0
  have x7 : w6.heap.size < w7.heap.size := cell_lt k0
  refine (Later_p w7 _ c _ HG7.out HI7.out).mono ?_
  rintro e w8 ⟨ls, rfl, hls, hb⟩
  have LS := Lib.hid hls
  clear hls
  have h0 := kept hb g0
  have l0 := kept hb k0
  have h1 := kept hb g1
  have l1 := kept hb k1
  have h2 := kept hb g2
  have l2 := kept hb k2
  have h3 := kept hb g3
  have l3 := kept hb k3
  clear g0 g1 g2 g3 k0 k1 k2 k3
  have u0 := kept hb t0
  have u1 := kept hb t1
  clear t0 t1
  have y8 : w.heap.size + 1 < w8.heap.size := cell_lt u0
  have e0 := kept hb d0
  have e1 := kept hb d1
  have e2 := kept hb d2
  have e3 := kept hb d3
  have HI8 := Lib.hid (HI7.out.mono hb)
  have HG8 := Lib.hid (HG7.out.mono hb)
  have HB8 := Lib.hid (HB7.out.trans (hb.mono HB7.out.size))
  have z8 : w.heap.size < w8.heap.size := cell_lt e0
  clear d0 d1 d2 d3 hb HI7 HG7 HB7 z7 
  clear y7 v7 x7
  have v8 : w4.heap.size < w8.heap.size := cell_lt h0
  have x8 : w6.heap.size < w8.heap.size := cell_lt l0
  go_wp2_with fail
  refine (Later_ref w8 _ c _ HI8.out).mono ?_
  unfold LaOut
  rintro e w9 ⟨ms, rfl, hms, hb⟩
  have MS := Lib.hid hms
  have LS9 := Lib.hid (LS.out.mono hb)
  clear hms LS
  have g0 := kept hb h0
  have k0 := kept hb l0
  have g1 := kept hb h1
  have k1 := kept hb l1
  have g2 := kept hb h2
  have k2 := kept hb l2
  have g3 := kept hb h3
  have k3 := kept hb l3
  clear h0 h1 h2 h3 l0 l1 l2 l3
  have t0 := kept hb u0
  have t1 := kept hb u1
  clear u0 u1
  have y9 : w.heap.size + 1 < w9.heap.size := cell_lt t0
  have d0 := kept hb e0
  have d1 := kept hb e1
  have d2 := kept hb e2
  have d3 := kept hb e3
  have HI9 := Lib.hid (HI8.out.mono hb)
  have HG9 := Lib.hid (HG8.out.mono hb)
  have HB9 := Lib.hid (HB8.out.trans (hb.mono HB8.out.size))
  have z9 : w.heap.size < w9.heap.size := cell_lt d0
  clear e0 e1 e2 e3 hb HI8 HG8 HB8 z8 
  clear y8 v8 x8
  have v9 : w4.heap.size < w9.heap.size := cell_lt g0
  have x9 : w6.heap.size < w9.heap.size := cell_lt k0
  obtain ⟨kn, hkn⟩ : ∃ kn, kn = (liftsC c t).isSome := ⟨_, rfl⟩
  have HKN := Lib.hid hkn
  obtain ⟨ap, hap⟩ : ∃ ap, ap = apartC c t.license s := ⟨_, rfl⟩
  have HAP := Lib.hid hap
  clear hkn hap
  obtain ⟨le, hle⟩ : ∃ le, le = laterE c t.license := ⟨_, rfl⟩
  rw [← hle]
  clear hle
  have hq9 := fun W => neqLic z z W
  unfold licV at hq9
  rw [decide_eq_true rfl] at hq9
  go_wp2
  go_region_held3 (fun w' => w'.cell? ⟨w.heap.size, 0, none⟩ = some (.slice a0 N0 c0) ∧ w'.cell? ⟨w.heap.size, 1, none⟩ = some (.slice a1 N1 c1) ∧ w'.cell? ⟨w.heap.size, 2, none⟩ = some (.slice a2 N2 c2) ∧ w'.cell? ⟨w.heap.size, 3, none⟩ = some (.slice a3 N3 c3) ∧ w'.cell? ⟨w.heap.size + 1, 0, none⟩ = some (.string t.license) ∧ w'.cell? ⟨w.heap.size + 1, 1, none⟩ = some (.string t.exception) ∧ w'.cell? ⟨w4.heap.size, 0, none⟩ = some (.string z.name) ∧ w'.cell? ⟨w4.heap.size, 1, none⟩ = some (.string z.family) ∧ w'.cell? ⟨w4.heap.size, 2, none⟩ = some (.int .i64 z.version) ∧ w'.cell? ⟨w4.heap.size, 3, none⟩ = some (.string z.text) ∧ w'.cell? ⟨w6.heap.size, 0, none⟩ = some (.string z.name) ∧ w'.cell? ⟨w6.heap.size, 1, none⟩ = some (.string z.family) ∧ w'.cell? ⟨w6.heap.size, 2, none⟩ = some (.int .i64 z.version) ∧ w'.cell? ⟨w6.heap.size, 3, none⟩ = some (.string z.text))
    (first | exact ⟨kept (W := w9) (by first | ((repeat (first | exact Below.refl _ _ | assumption | refine Below.drewN ?_ _ | refine Below.drew ?_ | refine Below.alloc ?_ (by first | exact Nat.le_refl _ | (simp; done) | (simp; omega) | omega) _ | refine Below.setCell ?_ (by first | exact Nat.le_refl _ | (simp; done) | (simp; omega) | omega) _ | refine Below.trans ?_ (Below.mono (by assumption) (by first | exact Nat.le_refl _ | (simp; done) | (simp; omega) | omega)))); done) | fail) d0, kept (W := w9) (by first | ((repeat (first | exact Below.refl _ _ | assumption | refine Below.drewN ?_ _ | refine Below.drew ?_ | refine Below.alloc ?_ (by first | exact Nat.le_refl _ | (simp; done) | (simp; omega) | omega) _ | refine Below.setCell ?_ (by first | exact Nat.le_refl _ | (simp; done) | (simp; omega) | omega) _ | refine Below.trans ?_ (Below.mono (by assumption) (by first | exact Nat.le_refl _ | (simp; done) | (simp; omega) | omega)))); done) | fail) d1, kept (W := w9) (by first | ((repeat (first | exact Below.refl _ _ | assumption | refine Below.drewN ?_ _ | refine Below.drew ?_ | refine Below.alloc ?_ (by first | exact Nat.le_refl _ | (simp; done) | (simp; omega) | omega) _ | refine Below.setCell ?_ (by first | exact Nat.le_refl _ | (simp; done) | (simp; omega) | omega) _ | refine Below.trans ?_ (Below.mono (by assumption) (by first | exact Nat.le_refl _ | (simp; done) | (simp; omega) | omega)))); done) | fail) d2, kept (W := w9) (by first | ((repeat (first | exact Below.refl _ _ | assumption | refine Below.drewN ?_ _ | refine Below.drew ?_ | refine Below.alloc ?_ (by first | exact Nat.le_refl _ | (simp; done) | (simp; omega) | omega) _ | refine Below.setCell ?_ (by first | exact Nat.le_refl _ | (simp; done) | (simp; omega) | omega) _ | refine Below.trans ?_ (Below.mono (by assumption) (by first | exact Nat.le_refl _ | (simp; done) | (simp; omega) | omega)))); done) | fail) d3, kept (W := w9) (by first | ((repeat (first | exact Below.refl _ _ | assumption | refine Below.drewN ?_ _ | refine Below.drew ?_ | refine Below.alloc ?_ (by first | exact Nat.le_refl _ | (simp; done) | (simp; omega) | omega) _ | refine Below.setCell ?_ (by first | exact Nat.le_refl _ | (simp; done) | (simp; omega) | omega) _ | refine Below.trans ?_ (Below.mono (by assumption) (by first | exact Nat.le_refl _ | (simp; done) | (simp; omega) | omega)))); done) | fail) t0, kept (W := w9) (by first | ((repeat (first | exact Below.refl _ _ | assumption | refine Below.drewN ?_ _ | refine Below.drew ?_ | refine Below.alloc ?_ (by first | exact Nat.le_refl _ | (simp; done) | (simp; omega) | omega) _ | refine Below.setCell ?_ (by first | exact Nat.le_refl _ | (simp; done) | (simp; omega) | omega) _ | refine Below.trans ?_ (Below.mono (by assumption) (by first | exact Nat.le_refl _ | (simp; done) | (simp; omega) | omega)))); done) | fail) t1, kept (W := w9) (by first | ((repeat (first | exact Below.refl _ _ | assumption | refine Below.drewN ?_ _ | refine Below.drew ?_ | refine Below.alloc ?_ (by first | exact Nat.le_refl _ | (simp; done) | (simp; omega) | omega) _ | refine Below.setCell ?_ (by first | exact Nat.le_refl _ | (simp; done) | (simp; omega) | omega) _ | refine Below.trans ?_ (Below.mono (by assumption) (by first | exact Nat.le_refl _ | (simp; done) | (simp; omega) | omega)))); done) | fail) g0, kept (W := w9) (by first | ((repeat (first | exact Below.refl _ _ | assumption | refine Below.drewN ?_ _ | refine Below.drew ?_ | refine Below.alloc ?_ (by first | exact Nat.le_refl _ | (simp; done) | (simp; omega) | omega) _ | refine Below.setCell ?_ (by first | exact Nat.le_refl _ | (simp; done) | (simp; omega) | omega) _ | refine Below.trans ?_ (Below.mono (by assumption) (by first | exact Nat.le_refl _ | (simp; done) | (simp; omega) | omega)))); done) | fail) g1, kept (W := w9) (by first | ((repeat (first | exact Below.refl _ _ | assumption | refine Below.drewN ?_ _ | refine Below.drew ?_ | refine Below.alloc ?_ (by first | exact Nat.le_refl _ | (simp; done) | (simp; omega) | omega) _ | refine Below.setCell ?_ (by first | exact Nat.le_refl _ | (simp; done) | (simp; omega) | omega) _ | refine Below.trans ?_ (Below.mono (by assumption) (by first | exact Nat.le_refl _ | (simp; done) | (simp; omega) | omega)))); done) | fail) g2, kept (W := w9) (by first | ((repeat (first | exact Below.refl _ _ | assumption | refine Below.drewN ?_ _ | refine Below.drew ?_ | refine Below.alloc ?_ (by first | exact Nat.le_refl _ | (simp; done) | (simp; omega) | omega) _ | refine Below.setCell ?_ (by first | exact Nat.le_refl _ | (simp; done) | (simp; omega) | omega) _ | refine Below.trans ?_ (Below.mono (by assumption) (by first | exact Nat.le_refl _ | (simp; done) | (simp; omega) | omega)))); done) | fail) g3, kept (W := w9) (by first | ((repeat (first | exact Below.refl _ _ | assumption | refine Below.drewN ?_ _ | refine Below.drew ?_ | refine Below.alloc ?_ (by first | exact Nat.le_refl _ | (simp; done) | (simp; omega) | omega) _ | refine Below.setCell ?_ (by first | exact Nat.le_refl _ | (simp; done) | (simp; omega) | omega) _ | refine Below.trans ?_ (Below.mono (by assumption) (by first | exact Nat.le_refl _ | (simp; done) | (simp; omega) | omega)))); done) | fail) k0, kept (W := w9) (by first | ((repeat (first | exact Below.refl _ _ | assumption | refine Below.drewN ?_ _ | refine Below.drew ?_ | refine Below.alloc ?_ (by first | exact Nat.le_refl _ | (simp; done) | (simp; omega) | omega) _ | refine Below.setCell ?_ (by first | exact Nat.le_refl _ | (simp; done) | (simp; omega) | omega) _ | refine Below.trans ?_ (Below.mono (by assumption) (by first | exact Nat.le_refl _ | (simp; done) | (simp; omega) | omega)))); done) | fail) k1, kept (W := w9) (by first | ((repeat (first | exact Below.refl _ _ | assumption | refine Below.drewN ?_ _ | refine Below.drew ?_ | refine Below.alloc ?_ (by first | exact Nat.le_refl _ | (simp; done) | (simp; omega) | omega) _ | refine Below.setCell ?_ (by first | exact Nat.le_refl _ | (simp; done) | (simp; omega) | omega) _ | refine Below.trans ?_ (Below.mono (by assumption) (by first | exact Nat.le_refl _ | (simp; done) | (simp; omega) | omega)))); done) | fail) k2, kept (W := w9) (by first | ((repeat (first | exact Below.refl _ _ | assumption | refine Below.drewN ?_ _ | refine Below.drew ?_ | refine Below.alloc ?_ (by first | exact Nat.le_refl _ | (simp; done) | (simp; omega) | omega) _ | refine Below.setCell ?_ (by first | exact Nat.le_refl _ | (simp; done) | (simp; omega) | omega) _ | refine Below.trans ?_ (Below.mono (by assumption) (by first | exact Nat.le_refl _ | (simp; done) | (simp; omega) | omega)))); done) | fail) k3⟩ | (go_keep; done))
    (first
      | (go_at_call 22; (with_reducible refine (Equal_p _ _ _ ((laterC c t.license).getD []) ((laterC c t.license).getD []) ?_ ?_).mono ?_); (focus (exact LS9.out.mono (by first | ((repeat (first | exact Below.refl _ _ | assumption | refine Below.drewN ?_ _ | refine Below.drew ?_ | refine Below.alloc ?_ (by first | exact Nat.le_refl _ | (simp; done) | (simp; omega) | omega) _ | refine Below.setCell ?_ (by first | exact Nat.le_refl _ | (simp; done) | (simp; omega) | omega) _ | refine Below.trans ?_ (Below.mono (by assumption) (by first | exact Nat.le_refl _ | (simp; done) | (simp; omega) | omega)))); done) | fail))); (focus (exact MS.out.mono (by first | ((repeat (first | exact Below.refl _ _ | assumption | refine Below.drewN ?_ _ | refine Below.drew ?_ | refine Below.alloc ?_ (by first | exact Nat.le_refl _ | (simp; done) | (simp; omega) | omega) _ | refine Below.setCell ?_ (by first | exact Nat.le_refl _ | (simp; done) | (simp; omega) | omega) _ | refine Below.trans ?_ (Below.mono (by assumption) (by first | exact Nat.le_refl _ | (simp; done) | (simp; omega) | omega)))); done) | fail))); rintro e w10 ⟨rfl, hb10⟩; rw [decide_eq_true rfl]; have s10 : w9.heap.size ≤ w10.heap.size := hb10.size)
      | (go_at_call 27; (with_reducible refine (Known_p _ _ c t ?_ ?_).mono ?_); (focus (exact HG9.out.mono (by first | ((repeat (first | exact Below.refl _ _ | assumption | refine Below.drewN ?_ _ | refine Below.drew ?_ | refine Below.alloc ?_ (by first | exact Nat.le_refl _ | (simp; done) | (simp; omega) | omega) _ | refine Below.setCell ?_ (by first | exact Nat.le_refl _ | (simp; done) | (simp; omega) | omega) _ | refine Below.trans ?_ (Below.mono (by assumption) (by first | exact Nat.le_refl _ | (simp; done) | (simp; omega) | omega)))); done) | fail))); (focus (exact HI9.out.mono (by first | ((repeat (first | exact Below.refl _ _ | assumption | refine Below.drewN ?_ _ | refine Below.drew ?_ | refine Below.alloc ?_ (by first | exact Nat.le_refl _ | (simp; done) | (simp; omega) | omega) _ | refine Below.setCell ?_ (by first | exact Nat.le_refl _ | (simp; done) | (simp; omega) | omega) _ | refine Below.trans ?_ (Below.mono (by assumption) (by first | exact Nat.le_refl _ | (simp; done) | (simp; omega) | omega)))); done) | fail))); rintro e w11 ⟨rfl, hb11⟩; rw [← HKN.out]; have s11 : w9.heap.size ≤ w11.heap.size := Nat.le_trans s10 hb11.size)
      | (go_at_call 28; (with_reducible refine (Known_ref _ _ c t ?_).mono ?_); (focus (exact HI9.out.mono (by first | ((repeat (first | exact Below.refl _ _ | assumption | refine Below.drewN ?_ _ | refine Below.drew ?_ | refine Below.alloc ?_ (by first | exact Nat.le_refl _ | (simp; done) | (simp; omega) | omega) _ | refine Below.setCell ?_ (by first | exact Nat.le_refl _ | (simp; done) | (simp; omega) | omega) _ | refine Below.trans ?_ (Below.mono (by assumption) (by first | exact Nat.le_refl _ | (simp; done) | (simp; omega) | omega)))); done) | fail))); rintro e w12 ⟨rfl, hb12⟩; rw [← HKN.out]; have s12 : w9.heap.size ≤ w12.heap.size := Nat.le_trans s11 hb12.size))
  have HBx : Hid (Below w9.heap.size w9 w12) := Lib.hid (by first | ((repeat (first | exact Below.refl _ _ | assumption | refine Below.drewN ?_ _ | refine Below.drew ?_ | refine Below.alloc ?_ (by first | exact Nat.le_refl _ | (simp; done) | (simp; omega) | omega) _ | refine Below.setCell ?_ (by first | exact Nat.le_refl _ | (simp; done) | (simp; omega) | omega) _ | refine Below.trans ?_ (Below.mono (by assumption) (by first | exact Nat.le_refl _ | (simp; done) | (simp; omega) | omega)))); done) | fail)
  have hs9 := HBx.out.size
  have D0 := kept HBx.out d0
  have D1 := kept HBx.out d1
  have D2 := kept HBx.out d2
  have D3 := kept HBx.out d3
  have T0 := kept HBx.out t0
  have T1 := kept HBx.out t1
  have HIx := Lib.hid (HI9.out.mono HBx.out)
  have HGx := Lib.hid (HG9.out.mono HBx.out)
  have HBy := Lib.hid (HB9.out.trans (HBx.out.mono HB9.out.size))
  have zx : w.heap.size < w12.heap.size := cell_lt D0
  have yx : w.heap.size + 1 < w12.heap.size := cell_lt T0
  clear d0 d1 d2 d3 t0 t1 g0 g1 g2 g3 k0 k1 k2 k3 HI9 HG9 HB9 HBx hb10 hb11 hb12 s10 s11 s12 hs9 LS9 MS hq9 v9 x9 z9 y9
  go_wp2
  go_region_held3 (fun w' => w'.cell? ⟨w.heap.size, 0, none⟩ = some (.slice a0 N0 c0) ∧ w'.cell? ⟨w.heap.size, 1, none⟩ = some (.slice a1 N1 c1) ∧ w'.cell? ⟨w.heap.size, 2, none⟩ = some (.slice a2 N2 c2) ∧ w'.cell? ⟨w.heap.size, 3, none⟩ = some (.slice a3 N3 c3) ∧ w'.cell? ⟨w.heap.size + 1, 0, none⟩ = some (.string t.license) ∧ w'.cell? ⟨w.heap.size + 1, 1, none⟩ = some (.string t.exception))
    (first | exact ⟨kept (W := w12) (by first | ((repeat (first | exact Below.refl _ _ | assumption | refine Below.drewN ?_ _ | refine Below.drew ?_ | refine Below.alloc ?_ (by first | exact Nat.le_refl _ | (simp; done) | (simp; omega) | omega) _ | refine Below.setCell ?_ (by first | exact Nat.le_refl _ | (simp; done) | (simp; omega) | omega) _ | refine Below.trans ?_ (Below.mono (by assumption) (by first | exact Nat.le_refl _ | (simp; done) | (simp; omega) | omega)))); done) | fail) D0, kept (W := w12) (by first | ((repeat (first | exact Below.refl _ _ | assumption | refine Below.drewN ?_ _ | refine Below.drew ?_ | refine Below.alloc ?_ (by first | exact Nat.le_refl _ | (simp; done) | (simp; omega) | omega) _ | refine Below.setCell ?_ (by first | exact Nat.le_refl _ | (simp; done) | (simp; omega) | omega) _ | refine Below.trans ?_ (Below.mono (by assumption) (by first | exact Nat.le_refl _ | (simp; done) | (simp; omega) | omega)))); done) | fail) D1, kept (W := w12) (by first | ((repeat (first | exact Below.refl _ _ | assumption | refine Below.drewN ?_ _ | refine Below.drew ?_ | refine Below.alloc ?_ (by first | exact Nat.le_refl _ | (simp; done) | (simp; omega) | omega) _ | refine Below.setCell ?_ (by first | exact Nat.le_refl _ | (simp; done) | (simp; omega) | omega) _ | refine Below.trans ?_ (Below.mono (by assumption) (by first | exact Nat.le_refl _ | (simp; done) | (simp; omega) | omega)))); done) | fail) D2, kept (W := w12) (by first | ((repeat (first | exact Below.refl _ _ | assumption | refine Below.drewN ?_ _ | refine Below.drew ?_ | refine Below.alloc ?_ (by first | exact Nat.le_refl _ | (simp; done) | (simp; omega) | omega) _ | refine Below.setCell ?_ (by first | exact Nat.le_refl _ | (simp; done) | (simp; omega) | omega) _ | refine Below.trans ?_ (Below.mono (by assumption) (by first | exact Nat.le_refl _ | (simp; done) | (simp; omega) | omega)))); done) | fail) D3, kept (W := w12) (by first | ((repeat (first | exact Below.refl _ _ | assumption | refine Below.drewN ?_ _ | refine Below.drew ?_ | refine Below.alloc ?_ (by first | exact Nat.le_refl _ | (simp; done) | (simp; omega) | omega) _ | refine Below.setCell ?_ (by first | exact Nat.le_refl _ | (simp; done) | (simp; omega) | omega) _ | refine Below.trans ?_ (Below.mono (by assumption) (by first | exact Nat.le_refl _ | (simp; done) | (simp; omega) | omega)))); done) | fail) T0, kept (W := w12) (by first | ((repeat (first | exact Below.refl _ _ | assumption | refine Below.drewN ?_ _ | refine Below.drew ?_ | refine Below.alloc ?_ (by first | exact Nat.le_refl _ | (simp; done) | (simp; omega) | omega) _ | refine Below.setCell ?_ (by first | exact Nat.le_refl _ | (simp; done) | (simp; omega) | omega) _ | refine Below.trans ?_ (Below.mono (by assumption) (by first | exact Nat.le_refl _ | (simp; done) | (simp; omega) | omega)))); done) | fail) T1⟩ | (go_keep; done))
    (first
      | (go_at_call 30; (with_reducible refine (Clauses_p _ _ c t wy rl ?_ ?_).mono ?_); (focus (exact HGx.out.mono (by first | ((repeat (first | exact Below.refl _ _ | assumption | refine Below.drewN ?_ _ | refine Below.drew ?_ | refine Below.alloc ?_ (by first | exact Nat.le_refl _ | (simp; done) | (simp; omega) | omega) _ | refine Below.setCell ?_ (by first | exact Nat.le_refl _ | (simp; done) | (simp; omega) | omega) _ | refine Below.trans ?_ (Below.mono (by assumption) (by first | exact Nat.le_refl _ | (simp; done) | (simp; omega) | omega)))); done) | fail))); (focus (exact HIx.out.mono (by first | ((repeat (first | exact Below.refl _ _ | assumption | refine Below.drewN ?_ _ | refine Below.drew ?_ | refine Below.alloc ?_ (by first | exact Nat.le_refl _ | (simp; done) | (simp; omega) | omega) _ | refine Below.setCell ?_ (by first | exact Nat.le_refl _ | (simp; done) | (simp; omega) | omega) _ | refine Below.trans ?_ (Below.mono (by assumption) (by first | exact Nat.le_refl _ | (simp; done) | (simp; omega) | omega)))); done) | fail))); rintro e w13 ⟨p1, rfl, hp1, hb13⟩; have s13 : w12.heap.size ≤ w13.heap.size := hb13.size)
      | (go_at_call 31; (with_reducible refine (Clauses_ref _ _ c t wy rl ?_).mono ?_); (focus (exact HIx.out.mono (by first | ((repeat (first | exact Below.refl _ _ | assumption | refine Below.drewN ?_ _ | refine Below.drew ?_ | refine Below.alloc ?_ (by first | exact Nat.le_refl _ | (simp; done) | (simp; omega) | omega) _ | refine Below.setCell ?_ (by first | exact Nat.le_refl _ | (simp; done) | (simp; omega) | omega) _ | refine Below.trans ?_ (Below.mono (by assumption) (by first | exact Nat.le_refl _ | (simp; done) | (simp; omega) | omega)))); done) | fail))); unfold IsOut; rintro e w14 ⟨p2, rfl, hp2, hb14⟩; have s14 : w12.heap.size ≤ w14.heap.size := Nat.le_trans s13 hb14.size)
      | (go_at_call 29; (with_reducible refine (SameClauses_ref _ _ _ (clausesC c t wy rl) (clausesC c t wy rl) ?_ ?_).mono ?_); (focus (exact hp1.mono (by first | ((repeat (first | exact Below.refl _ _ | assumption | refine Below.drewN ?_ _ | refine Below.drew ?_ | refine Below.alloc ?_ (by first | exact Nat.le_refl _ | (simp; done) | (simp; omega) | omega) _ | refine Below.setCell ?_ (by first | exact Nat.le_refl _ | (simp; done) | (simp; omega) | omega) _ | refine Below.trans ?_ (Below.mono (by assumption) (by first | exact Nat.le_refl _ | (simp; done) | (simp; omega) | omega)))); done) | fail))); (focus (exact hp2.mono (by first | ((repeat (first | exact Below.refl _ _ | assumption | refine Below.drewN ?_ _ | refine Below.drew ?_ | refine Below.alloc ?_ (by first | exact Nat.le_refl _ | (simp; done) | (simp; omega) | omega) _ | refine Below.setCell ?_ (by first | exact Nat.le_refl _ | (simp; done) | (simp; omega) | omega) _ | refine Below.trans ?_ (Below.mono (by assumption) (by first | exact Nat.le_refl _ | (simp; done) | (simp; omega) | omega)))); done) | fail))); rintro e w15 ⟨rfl, hb15⟩; rw [decide_eq_true rfl]; have s15 : w12.heap.size ≤ w15.heap.size := Nat.le_trans s14 hb15.size)
      | (go_at_call 24; (with_reducible refine (Incompatible_p _ _ c t.license s ?_ ?_).mono ?_); (focus (exact HGx.out.mono (by first | ((repeat (first | exact Below.refl _ _ | assumption | refine Below.drewN ?_ _ | refine Below.drew ?_ | refine Below.alloc ?_ (by first | exact Nat.le_refl _ | (simp; done) | (simp; omega) | omega) _ | refine Below.setCell ?_ (by first | exact Nat.le_refl _ | (simp; done) | (simp; omega) | omega) _ | refine Below.trans ?_ (Below.mono (by assumption) (by first | exact Nat.le_refl _ | (simp; done) | (simp; omega) | omega)))); done) | fail))); (focus (exact HIx.out.mono (by first | ((repeat (first | exact Below.refl _ _ | assumption | refine Below.drewN ?_ _ | refine Below.drew ?_ | refine Below.alloc ?_ (by first | exact Nat.le_refl _ | (simp; done) | (simp; omega) | omega) _ | refine Below.setCell ?_ (by first | exact Nat.le_refl _ | (simp; done) | (simp; omega) | omega) _ | refine Below.trans ?_ (Below.mono (by assumption) (by first | exact Nat.le_refl _ | (simp; done) | (simp; omega) | omega)))); done) | fail))); rintro e w16 ⟨rfl, hb16⟩; rw [← HAP.out]; have s16 : w12.heap.size ≤ w16.heap.size := Nat.le_trans s15 hb16.size)
      | (go_at_call 32; (with_reducible refine (Incompatible_ref _ _ c t.license s ?_).mono ?_); (focus (exact HIx.out.mono (by first | ((repeat (first | exact Below.refl _ _ | assumption | refine Below.drewN ?_ _ | refine Below.drew ?_ | refine Below.alloc ?_ (by first | exact Nat.le_refl _ | (simp; done) | (simp; omega) | omega) _ | refine Below.setCell ?_ (by first | exact Nat.le_refl _ | (simp; done) | (simp; omega) | omega) _ | refine Below.trans ?_ (Below.mono (by assumption) (by first | exact Nat.le_refl _ | (simp; done) | (simp; omega) | omega)))); done) | fail))); rintro e w17 ⟨rfl, hb17⟩; rw [← HAP.out]; have s17 : w12.heap.size ≤ w17.heap.size := Nat.le_trans s16 hb17.size))
  go_wp2
  go_ret
  refine ⟨ret_b (by simp), ?_⟩
  have hq := HBy.out
  have hqs := hq.size
  exact (by first | ((repeat (first | exact Below.refl _ _ | assumption | refine Below.drewN ?_ _ | refine Below.drew ?_ | refine Below.alloc ?_ (by first | exact Nat.le_refl _ | (simp; done) | (simp; omega) | omega) _ | refine Below.setCell ?_ (by first | exact Nat.le_refl _ | (simp; done) | (simp; omega) | omega) _ | refine Below.trans ?_ (Below.mono (by assumption) (by first | exact Nat.le_refl _ | (simp; done) | (simp; omega) | omega)))); done) | fail)
theorem CatalogLooks_p (w : World) (x0 x1 : Value) (c : Catalog) (t : Term) (s : ByteArray) (wy rl : Int) (hg : Glob w) (h : Is w x0 c) (h1 : Is w x1 t) {p q r : Prop} (_ : p) (_ : q) (_ : r) :
    Calls Tryz.prog 8 #[x0, x1, .string s, .int .i64 wy, .int .i64 rl] w fun e w' => e = .returned (.bool true) ∧ Below w.heap.size w w' := by
  obtain ⟨rfl, -⟩ := Term.inv h1
  exact CatalogLooks_q w x0 c t s wy rl hg h
end Go.Proofs.YtaneolfnnkppbaaGreatDoor
