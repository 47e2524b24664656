/- The statement of checks and texts: what its function computes. -/
import Derived.Test.YtaneolfnnkppbaaGreatDoorJAwake
import Derived.Test.YtaneolfnnkppbaaGreatDoorJLawV
import Derived.Test.YtaneolfnnkppbaaGreatDoorJFmtRef
set_option linter.all false
namespace Go.Proofs.YtaneolfnnkppbaaGreatDoor
open Go Go.RowKit Go.ChangeShapes
set_option maxRecDepth 100000 in
set_option maxHeartbeats 8000000 in
theorem CatalogChecks_p (w : World) (x0 : Value) (c : Catalog) (hg : Glob w) (h : Is w x0 c) :
    Calls Tryz.prog 4 #[x0] w fun e w' => e = .returned (.bool true) ∧ Below w.heap.size w w' := by
  obtain ⟨a0, c0, a1, c1, a2, c2, a3, c3, rfl, l0, m0, r0, l1, m1, r1, l2, m2, r2, l3, m3, r3⟩ := Catalog.inv h
  have HI := Lib.hid h
  have HG := Lib.hid hg
  have n0 : c.licenses.length ≤ 9223372036854775807 := by simp only [maxLen] at m0; omega
  have n1 : c.exceptions.length ≤ 9223372036854775807 := by simp only [maxLen] at m1; omega
  have n2 : c.clauses.length ≤ 9223372036854775807 := by simp only [maxLen] at m2; omega
  have n3 : c.apart.length ≤ 9223372036854775807 := by simp only [maxLen] at m3; omega
  clear h hg r0 r1 r2 r3 l0 l1 l2 l3 m0 m1 m2 m3
  generalize hL0 : c.licenses.length = N0 at *
  generalize hL1 : c.exceptions.length = N1 at *
  generalize hL2 : c.clauses.length = N2 at *
  generalize hL3 : c.apart.length = N3 at *
  have HL := Lib.hid (And.intro hL0 (And.intro hL1 (And.intro hL2 hL3)))
  clear hL0 hL1 hL2 hL3
  go_enter Tryz.func4, Tryz.ntmps4
  go_wp2_with fail
  have HB1 : Hid (Below w.heap.size w (w.alloc (.cells #[.slice a0 N0 c0, .slice a1 N1 c1, .slice a2 N2 c2, .slice a3 N3 c3] 28))) := by show Below _ _ _; exact (by first | ((repeat (first | exact Below.refl _ _ | assumption | refine Below.drewN ?_ _ | refine Below.drew ?_ | refine Below.alloc ?_ (by first | exact Nat.le_refl _ | (simp; done) | (simp; omega) | omega) _ | refine Below.setCell ?_ (by first | exact Nat.le_refl _ | (simp; done) | (simp; omega) | omega) _ | refine Below.trans ?_ (Below.mono (by assumption) (by first | exact Nat.le_refl _ | (simp; done) | (simp; omega) | omega)))); done) | fail)
  have d0 : (w.alloc (.cells #[.slice a0 N0 c0, .slice a1 N1 c1, .slice a2 N2 c2, .slice a3 N3 c3] 28)).cell? ⟨w.heap.size, 0, none⟩ = some (.slice a0 N0 c0) := by simp
  have d1 : (w.alloc (.cells #[.slice a0 N0 c0, .slice a1 N1 c1, .slice a2 N2 c2, .slice a3 N3 c3] 28)).cell? ⟨w.heap.size, 1, none⟩ = some (.slice a1 N1 c1) := by simp
  have d2 : (w.alloc (.cells #[.slice a0 N0 c0, .slice a1 N1 c1, .slice a2 N2 c2, .slice a3 N3 c3] 28)).cell? ⟨w.heap.size, 2, none⟩ = some (.slice a2 N2 c2) := by simp
  have d3 : (w.alloc (.cells #[.slice a0 N0 c0, .slice a1 N1 c1, .slice a2 N2 c2, .slice a3 N3 c3] 28)).cell? ⟨w.heap.size, 3, none⟩ = some (.slice a3 N3 c3) := by simp
  have HI1 := Lib.hid (HI.out.mono HB1.out)
  have HG1 := Lib.hid (HG.out.mono HB1.out)
  generalize w.alloc (.cells #[.slice a0 N0 c0, .slice a1 N1 c1, .slice a2 N2 c2, .slice a3 N3 c3] 28) = w1 at *
  have z1 : w.heap.size < w1.heap.size := cell_lt d0
  clear HI HG
  refine (awake_p w1 HG1.out).mono ?_
  rintro e w2 ⟨rfl, hb⟩
  have e0 := kept hb d0
  have e1 := kept hb d1
  have e2 := kept hb d2
  have e3 := kept hb d3
  have HI2 := Lib.hid (HI1.out.mono hb)
  have HG2 := Lib.hid (HG1.out.mono hb)
  have HB2 := Lib.hid (HB1.out.trans (hb.mono HB1.out.size))
  have z2 : w.heap.size < w2.heap.size := cell_lt e0
  clear d0 d1 d2 d3 hb HI1 HG1 HB1 z1 
  go_wp2_with fail
  refine (Few_any w2 _ c HI2.out).mono ?_
  unfold FewB
  rintro e w3 ⟨fb, rfl, hb, hfew⟩
  have HFEW := Lib.hid hfew
  clear hfew
  have d0 := kept hb e0
  have d1 := kept hb e1
  have d2 := kept hb e2
  have d3 := kept hb e3
  have HI3 := Lib.hid (HI2.out.mono hb)
  have HG3 := Lib.hid (HG2.out.mono hb)
  have HB3 := Lib.hid (HB2.out.trans (hb.mono HB2.out.size))
  have z3 : w.heap.size < w3.heap.size := cell_lt d0
  clear e0 e1 e2 e3 hb HI2 HG2 HB2 z2 
  cases fb
  case false =>
    go_wp2
    go_ret
    exact ⟨rfl, HB3.out⟩
  have HFL := Lib.hid (HFEW.out rfl)
  clear HFEW
  go_wp2_with fail
  refine (Format_p w3 _ c HG3.out HI3.out (fun h => Nat.le_trans (HFL.out h) (by decide))).mono ?_
  rintro e w4 ⟨rfl, hb⟩
  have e0 := kept hb d0
  have e1 := kept hb d1
  have e2 := kept hb d2
  have e3 := kept hb d3
  have HI4 := Lib.hid (HI3.out.mono hb)
  have HG4 := Lib.hid (HG3.out.mono hb)
  have HB4 := Lib.hid (HB3.out.trans (hb.mono HB3.out.size))
  have z4 : w.heap.size < w4.heap.size := cell_lt e0
  clear d0 d1 d2 d3 hb HI3 HG3 HB3 z3 
  go_wp2_with fail
  refine (Format_ref w4 _ c HI4.out (fun h => HFL.out h)).mono ?_
  rintro e w5 ⟨rfl, hb⟩
  have d0 := kept hb e0
  have d1 := kept hb e1
  have d2 := kept hb e2
  have d3 := kept hb e3
  have HI5 := Lib.hid (HI4.out.mono hb)
  have HG5 := Lib.hid (HG4.out.mono hb)
  have HB5 := Lib.hid (HB4.out.trans (hb.mono HB4.out.size))
  have z5 : w.heap.size < w5.heap.size := cell_lt d0
  clear e0 e1 e2 e3 hb HI4 HG4 HB4 z4 
  obtain ⟨ck, hck⟩ : ∃ ck, ck = checkC c := ⟨_, rfl⟩
  rw [← hck]
  have HCK := Lib.hid hck
  clear hck HFL
  generalize formatC c = fc at *
  go_wp2_with fail
  go_region_held3 (fun w' => w'.cell? ⟨w.heap.size, 0, none⟩ = some (.slice a0 N0 c0) ∧ w'.cell? ⟨w.heap.size, 1, none⟩ = some (.slice a1 N1 c1) ∧ w'.cell? ⟨w.heap.size, 2, none⟩ = some (.slice a2 N2 c2) ∧ w'.cell? ⟨w.heap.size, 3, none⟩ = some (.slice a3 N3 c3))
    (first | exact ⟨kept (W := w5) (by first | ((repeat (first | exact Below.refl _ _ | assumption | refine Below.drewN ?_ _ | refine Below.drew ?_ | refine Below.alloc ?_ (by first | exact Nat.le_refl _ | (simp; done) | (simp; omega) | omega) _ | refine Below.setCell ?_ (by first | exact Nat.le_refl _ | (simp; done) | (simp; omega) | omega) _ | refine Below.trans ?_ (Below.mono (by assumption) (by first | exact Nat.le_refl _ | (simp; done) | (simp; omega) | omega)))); done) | fail) d0, kept (W := w5) (by first | ((repeat (first | exact Below.refl _ _ | assumption | refine Below.drewN ?_ _ | refine Below.drew ?_ | refine Below.alloc ?_ (by first | exact Nat.le_refl _ | (simp; done) | (simp; omega) | omega) _ | refine Below.setCell ?_ (by first | exact Nat.le_refl _ | (simp; done) | (simp; omega) | omega) _ | refine Below.trans ?_ (Below.mono (by assumption) (by first | exact Nat.le_refl _ | (simp; done) | (simp; omega) | omega)))); done) | fail) d1, kept (W := w5) (by first | ((repeat (first | exact Below.refl _ _ | assumption | refine Below.drewN ?_ _ | refine Below.drew ?_ | refine Below.alloc ?_ (by first | exact Nat.le_refl _ | (simp; done) | (simp; omega) | omega) _ | refine Below.setCell ?_ (by first | exact Nat.le_refl _ | (simp; done) | (simp; omega) | omega) _ | refine Below.trans ?_ (Below.mono (by assumption) (by first | exact Nat.le_refl _ | (simp; done) | (simp; omega) | omega)))); done) | fail) d2, kept (W := w5) (by first | ((repeat (first | exact Below.refl _ _ | assumption | refine Below.drewN ?_ _ | refine Below.drew ?_ | refine Below.alloc ?_ (by first | exact Nat.le_refl _ | (simp; done) | (simp; omega) | omega) _ | refine Below.setCell ?_ (by first | exact Nat.le_refl _ | (simp; done) | (simp; omega) | omega) _ | refine Below.trans ?_ (Below.mono (by assumption) (by first | exact Nat.le_refl _ | (simp; done) | (simp; omega) | omega)))); done) | fail) d3⟩ | (go_keep; done))
    (first
      | (go_at_call 18; (with_reducible refine (Check_p _ _ c ?_ ?_).mono ?_); (focus (exact HG5.out.mono (by first | ((repeat (first | exact Below.refl _ _ | assumption | refine Below.drewN ?_ _ | refine Below.drew ?_ | refine Below.alloc ?_ (by first | exact Nat.le_refl _ | (simp; done) | (simp; omega) | omega) _ | refine Below.setCell ?_ (by first | exact Nat.le_refl _ | (simp; done) | (simp; omega) | omega) _ | refine Below.trans ?_ (Below.mono (by assumption) (by first | exact Nat.le_refl _ | (simp; done) | (simp; omega) | omega)))); done) | fail))); (focus (exact HI5.out.mono (by first | ((repeat (first | exact Below.refl _ _ | assumption | refine Below.drewN ?_ _ | refine Below.drew ?_ | refine Below.alloc ?_ (by first | exact Nat.le_refl _ | (simp; done) | (simp; omega) | omega) _ | refine Below.setCell ?_ (by first | exact Nat.le_refl _ | (simp; done) | (simp; omega) | omega) _ | refine Below.trans ?_ (Below.mono (by assumption) (by first | exact Nat.le_refl _ | (simp; done) | (simp; omega) | omega)))); done) | fail))); rintro e w6 ⟨rfl, hb6⟩; rw [← HCK.out]; have s6 : w5.heap.size ≤ w6.heap.size := hb6.size)
      | (go_at_call 19; (with_reducible refine (Check_ref _ _ c ?_).mono ?_); (focus (exact HI5.out.mono (by first | ((repeat (first | exact Below.refl _ _ | assumption | refine Below.drewN ?_ _ | refine Below.drew ?_ | refine Below.alloc ?_ (by first | exact Nat.le_refl _ | (simp; done) | (simp; omega) | omega) _ | refine Below.setCell ?_ (by first | exact Nat.le_refl _ | (simp; done) | (simp; omega) | omega) _ | refine Below.trans ?_ (Below.mono (by assumption) (by first | exact Nat.le_refl _ | (simp; done) | (simp; omega) | omega)))); done) | fail))); rintro e w7 ⟨rfl, hb7⟩; rw [← HCK.out]; have s7 : w5.heap.size ≤ w7.heap.size := Nat.le_trans s6 hb7.size))
  go_wp2
  go_ret
  refine ⟨ret_b (by simp), ?_⟩
  have hq := HB5.out
  have hqs := hq.size
  exact (by first | ((repeat (first | exact Below.refl _ _ | assumption | refine Below.drewN ?_ _ | refine Below.drew ?_ | refine Below.alloc ?_ (by first | exact Nat.le_refl _ | (simp; done) | (simp; omega) | omega) _ | refine Below.setCell ?_ (by first | exact Nat.le_refl _ | (simp; done) | (simp; omega) | omega) _ | refine Below.trans ?_ (Below.mono (by assumption) (by first | exact Nat.le_refl _ | (simp; done) | (simp; omega) | omega)))); done) | fail)
end Go.Proofs.YtaneolfnnkppbaaGreatDoor
