/- The statement of texts that are read again: what its function computes. -/
import Derived.Test.YtaneolfnnkppbaaGreatDoorJAwake
import Derived.Test.YtaneolfnnkppbaaGreatDoorJLawV
import Derived.Test.YtaneolfnnkppbaaGreatDoorJSameU
set_option linter.all false
namespace Go.Proofs.YtaneolfnnkppbaaGreatDoor
open Go Go.RowKit Go.ChangeShapes
theorem ret_law {c : Catalog} (h : checkC c = 0) (hl : (formatL Lib.itoa c).length ≤ 65536) : parseC (formatC c) = (0, 0, c) := by
  unfold formatC
  rw [h]
  exact parse_format num_itoa h hl
set_option maxRecDepth 100000 in
set_option maxHeartbeats 8000000 in
theorem CatalogReturns_p (w : World) (x0 : Value) (c : Catalog) (s : ByteArray) (hg : Glob w) (h : Is w x0 c) (hs : s.size ≤ maxLen) :
    Calls Tryz.prog 5 #[x0, .string s] w fun e w' => e = .returned (.bool true) ∧ Below w.heap.size w w' := by
  obtain ⟨a0, c0, a1, c1, a2, c2, a3, c3, rfl, l0, m0, r0, l1, m1, r1, l2, m2, r2, l3, m3, r3⟩ := Catalog.inv h
  have HI := Lib.hid h
  have HG := Lib.hid hg
  have n0 : c.licenses.length ≤ 9223372036854775807 := by simp only [maxLen] at m0; omega
  have n1 : c.exceptions.length ≤ 9223372036854775807 := by simp only [maxLen] at m1; omega
  have n2 : c.clauses.length ≤ 9223372036854775807 := by simp only [maxLen] at m2; omega
  have n3 : c.apart.length ≤ 9223372036854775807 := by simp only [maxLen] at m3; omega
  unfold maxLen at hs
  clear h hg r0 r1 r2 r3 l0 l1 l2 l3 m0 m1 m2 m3
  generalize hL0 : c.licenses.length = N0 at *
  generalize hL1 : c.exceptions.length = N1 at *
  generalize hL2 : c.clauses.length = N2 at *
  generalize hL3 : c.apart.length = N3 at *
  have HL := Lib.hid (And.intro hL0 (And.intro hL1 (And.intro hL2 hL3)))
  clear hL0 hL1 hL2 hL3
  go_enter Tryz.func5, Tryz.ntmps5
  go_wp2_with fail
  have HB1 : Hid (Below w.heap.size w (w.alloc (.cells #[.slice a0 N0 c0, .slice a1 N1 c1, .slice a2 N2 c2, .slice a3 N3 c3] 28))) := by show Below _ _ _; exact (by first | ((repeat (first | exact Below.refl _ _ | assumption | refine Below.drewN ?_ _ | refine Below.drew ?_ | refine Below.alloc ?_ (by first | exact Nat.le_refl _ | (simp; done) | (simp; omega) | omega) _ | refine Below.setCell ?_ (by first | exact Nat.le_refl _ | (simp; done) | (simp; omega) | omega) _ | refine Below.trans ?_ (Below.mono (by assumption) (by first | exact Nat.le_refl _ | (simp; done) | (simp; omega) | omega)))); done) | fail)
  have d0 : (w.alloc (.cells #[.slice a0 N0 c0, .slice a1 N1 c1, .slice a2 N2 c2, .slice a3 N3 c3] 28)).cell? ⟨w.heap.size, 0, none⟩ = some (.slice a0 N0 c0) := by simp
  have d1 : (w.alloc (.cells #[.slice a0 N0 c0, .slice a1 N1 c1, .slice a2 N2 c2, .slice a3 N3 c3] 28)).cell? ⟨w.heap.size, 1, none⟩ = some (.slice a1 N1 c1) := by simp
  have d2 : (w.alloc (.cells #[.slice a0 N0 c0, .slice a1 N1 c1, .slice a2 N2 c2, .slice a3 N3 c3] 28)).cell? ⟨w.heap.size, 2, none⟩ = some (.slice a2 N2 c2) := by simp
  have d3 : (w.alloc (.cells #[.slice a0 N0 c0, .slice a1 N1 c1, .slice a2 N2 c2, .slice a3 N3 c3] 28)).cell? ⟨w.heap.size, 3, none⟩ = some (.slice a3 N3 c3) := by simp
  have HI1 := Lib.hid (HI.out.mono HB1.out)
  have HG1 := Lib.hid (HG.out.mono HB1.out)
  generalize w.alloc (.cells #[.slice a0 N0 c0, .slice a1 N1 c1, .slice a2 N2 c2, .slice a3 N3 c3] 28) = w1 at *
  have z1 : w.heap.size < w1.heap.size := cell_lt d0
  clear HI HG
  refine (awake_p w1 HG1.out).mono ?_
  rintro e w2 ⟨rfl, hb⟩
  have e0 := kept hb d0
  have e1 := kept hb d1
  have e2 := kept hb d2
  have e3 := kept hb d3
  have HI2 := Lib.hid (HI1.out.mono hb)
  have HG2 := Lib.hid (HG1.out.mono hb)
  have HB2 := Lib.hid (HB1.out.trans (hb.mono HB1.out.size))
  have z2 : w.heap.size < w2.heap.size := cell_lt e0
  clear d0 d1 d2 d3 hb HI1 HG1 HB1 z1
  go_wp2_with fail
  refine (Few_any w2 _ c HI2.out).mono ?_
  unfold FewB
  rintro e w3 ⟨fb, rfl, hb, hfew⟩
  have HFEW := Lib.hid hfew
  clear hfew
  have d0 := kept hb e0
  have d1 := kept hb e1
  have d2 := kept hb e2
  have d3 := kept hb e3
  have HI3 := Lib.hid (HI2.out.mono hb)
  have HG3 := Lib.hid (HG2.out.mono hb)
  have HB3 := Lib.hid (HB2.out.trans (hb.mono HB2.out.size))
  have z3 : w.heap.size < w3.heap.size := cell_lt d0
  clear e0 e1 e2 e3 hb HI2 HG2 HB2 z2 
  cases fb
  case false =>
    go_wp2
    go_ret
    exact ⟨rfl, HB3.out⟩
  cases q1 : decide ((4000 : Int) < (s.size : Int))
  case true =>
    go_wp2
    go_ret
    exact ⟨rfl, HB3.out⟩
  have hs4 : s.size ≤ 4000 := by have := of_decide_eq_false q1; omega
  have HFL := Lib.hid (HFEW.out rfl)
  have HS4 := Lib.hid hs4
  clear HFEW hs4 hs
  go_wp2_with fail
  refine (Format_p w3 _ c HG3.out HI3.out (fun h => Nat.le_trans (HFL.out h) (by decide))).mono ?_
  rintro e w4 ⟨rfl, hb⟩
  have e0 := kept hb d0
  have e1 := kept hb d1
  have e2 := kept hb d2
  have e3 := kept hb d3
  have HI4 := Lib.hid (HI3.out.mono hb)
  have HG4 := Lib.hid (HG3.out.mono hb)
  have HB4 := Lib.hid (HB3.out.trans (hb.mono HB3.out.size))
  have z4 : w.heap.size < w4.heap.size := cell_lt e0
  clear d0 d1 d2 d3 hb HI3 HG3 HB3 z3 
  clear q1
  cases q3 : ((checkC c : Int) == 0)
  case false =>
    generalize checkC c = ck at *
    generalize formatC c = fc at *
    go_wp2_with fail
    refine (Parse_any w4 s HG4.out).mono ?_
    unfold POut
    rintro e u1 ⟨v, rfl, hi, hb⟩
    have GU1 := Lib.hid (HG4.out.mono hb)
    have BU1 := Lib.hid (HB4.out.trans (hb.mono HB4.out.size))
    obtain ⟨pa0, pc0, pa1, pc1, pa2, pc2, pa3, pc3, rfl, -⟩ := Catalog.inv hi
    have PI := Lib.hid hi
    clear hi hb e0 e1 e2 e3 HI4 z4
    cases q2 : ((parseC s).2.1 != 0)
    case true =>
      have HE : Hid ((parseC s).2.2 = emptyC) := parse_err (by simpa using q2)
      rw [HE.out] at PI ⊢
      simp only [emptyC, List.length_nil] at PI ⊢
      generalize (parseC s).2.1 = er at *
      generalize (parseC s).1 = ln at *
      go_wp2_with fail
      refine (Same_ref _ _ _ emptyC emptyC (PI.out.mono (by first | ((repeat (first | exact Below.refl _ _ | assumption | refine Below.drewN ?_ _ | refine Below.drew ?_ | refine Below.alloc ?_ (by first | exact Nat.le_refl _ | (simp; done) | (simp; omega) | omega) _ | refine Below.setCell ?_ (by first | exact Nat.le_refl _ | (simp; done) | (simp; omega) | omega) _ | refine Below.trans ?_ (Below.mono (by assumption) (by first | exact Nat.le_refl _ | (simp; done) | (simp; omega) | omega)))); done) | fail)) (nil4 _)).mono ?_
      rintro e u2 ⟨rfl, hb2⟩
      rw [decide_eq_true rfl]
      have hq := BU1.out
      have hqs := hq.size
      have BU2 : Hid (Below w.heap.size w u2) := Lib.hid (Below.trans (by exact (by first | ((repeat (first | exact Below.refl _ _ | assumption | refine Below.drewN ?_ _ | refine Below.drew ?_ | refine Below.alloc ?_ (by first | exact Nat.le_refl _ | (simp; done) | (simp; omega) | omega) _ | refine Below.setCell ?_ (by first | exact Nat.le_refl _ | (simp; done) | (simp; omega) | omega) _ | refine Below.trans ?_ (Below.mono (by assumption) (by first | exact Nat.le_refl _ | (simp; done) | (simp; omega) | omega)))); done) | fail)) (hb2.mono (by simp; omega)))
      clear hq hqs hb2
      go_wp2
      go_ret
      exact ⟨rfl, BU2.out⟩
    have hv0 : (parseC s).2.1 = 0 := by simpa using q2
    obtain ⟨hvd, hfl⟩ := parse_fl num_itoa hv0
    have hfl2 : (formatL Lib.itoa (parseC s).2.2).length ≤ 65536 := by have := HS4.out; omega
    have HPR := Lib.hid (ret_law hvd hfl2)
    have HVD := Lib.hid hvd
    have HF2 := Lib.hid hfl2
    clear hv0 hvd hfl hfl2
    generalize (parseC s).2.1 = er at *
    generalize (parseC s).1 = ln at *
    obtain ⟨d, hdq⟩ : ∃ d, d = (parseC s).2.2 := ⟨_, rfl⟩
    rw [← hdq] at PI HPR HVD HF2 ⊢
    clear hdq
    generalize d.licenses.length = M0 at *
    generalize d.exceptions.length = M1 at *
    generalize d.clauses.length = M2 at *
    generalize d.apart.length = M3 at *
    go_wp2_with fail
    have BU2 : Hid (Below u1.heap.size u1 (u1.alloc (.cells #[.slice pa0 M0 pc0, .slice pa1 M1 pc1, .slice pa2 M2 pc2, .slice pa3 M3 pc3] 28))) := by show Below _ _ _; exact (by first | ((repeat (first | exact Below.refl _ _ | assumption | refine Below.drewN ?_ _ | refine Below.drew ?_ | refine Below.alloc ?_ (by first | exact Nat.le_refl _ | (simp; done) | (simp; omega) | omega) _ | refine Below.setCell ?_ (by first | exact Nat.le_refl _ | (simp; done) | (simp; omega) | omega) _ | refine Below.trans ?_ (Below.mono (by assumption) (by first | exact Nat.le_refl _ | (simp; done) | (simp; omega) | omega)))); done) | fail)
    have p0 : (u1.alloc (.cells #[.slice pa0 M0 pc0, .slice pa1 M1 pc1, .slice pa2 M2 pc2, .slice pa3 M3 pc3] 28)).cell? ⟨u1.heap.size, 0, none⟩ = some (.slice pa0 M0 pc0) := by simp
    have p1 : (u1.alloc (.cells #[.slice pa0 M0 pc0, .slice pa1 M1 pc1, .slice pa2 M2 pc2, .slice pa3 M3 pc3] 28)).cell? ⟨u1.heap.size, 1, none⟩ = some (.slice pa1 M1 pc1) := by simp
    have p2 : (u1.alloc (.cells #[.slice pa0 M0 pc0, .slice pa1 M1 pc1, .slice pa2 M2 pc2, .slice pa3 M3 pc3] 28)).cell? ⟨u1.heap.size, 2, none⟩ = some (.slice pa2 M2 pc2) := by simp
    have p3 : (u1.alloc (.cells #[.slice pa0 M0 pc0, .slice pa1 M1 pc1, .slice pa2 M2 pc2, .slice pa3 M3 pc3] 28)).cell? ⟨u1.heap.size, 3, none⟩ = some (.slice pa3 M3 pc3) := by simp
    have PI2 := Lib.hid (PI.out.mono BU2.out)
    have GU2 := Lib.hid (GU1.out.mono BU2.out)
    have BW2 := Lib.hid (BU1.out.trans (BU2.out.mono BU1.out.size))
    generalize u1.alloc (.cells #[.slice pa0 M0 pc0, .slice pa1 M1 pc1, .slice pa2 M2 pc2, .slice pa3 M3 pc3] 28) = u2 at *
    clear PI GU1 BU1 BU2
    refine (Format_p u2 _ d GU2.out PI2.out (fun _ => Nat.le_trans HF2.out (by decide))).mono ?_
    rintro e u3 ⟨rfl, hb⟩
    rw [HVD.out]
    have r0 := kept hb p0
    have r1 := kept hb p1
    have r2 := kept hb p2
    have r3 := kept hb p3
    have PI3 := Lib.hid (PI2.out.mono hb)
    have GU3 := Lib.hid (GU2.out.mono hb)
    have BW3 := Lib.hid (BW2.out.trans (hb.mono BW2.out.size))
    clear p0 p1 p2 p3 PI2 GU2 BW2 hb
    go_wp2_with fail
    refine (Parse_any u3 (formatC d) GU3.out).mono ?_
    unfold POut
    rw [HPR.out]
    rintro e u4 ⟨v, rfl, hi, hb⟩
    have p0 := kept hb r0
    have p1 := kept hb r1
    have p2 := kept hb r2
    have p3 := kept hb r3
    have PI4 := Lib.hid (PI3.out.mono hb)
    have BW4 := Lib.hid (BW3.out.trans (hb.mono BW3.out.size))
    obtain ⟨qa0, qc0, qa1, qc1, qa2, qc2, qa3, qc3, rfl, -⟩ := Catalog.inv hi
    have QI := Lib.hid hi
    have hzu : u1.heap.size < u4.heap.size := cell_lt p0
    clear hi hb r0 r1 r2 r3 PI3 GU3 BW3
    generalize d.licenses.length = K0 at *
    generalize d.exceptions.length = K1 at *
    generalize d.clauses.length = K2 at *
    generalize d.apart.length = K3 at *
    generalize formatC d = fd at *
    go_wp2_with fail
    refine (Same_ref _ _ _ d d (PI4.out.mono (by first | ((repeat (first | exact Below.refl _ _ | assumption | refine Below.drewN ?_ _ | refine Below.drew ?_ | refine Below.alloc ?_ (by first | exact Nat.le_refl _ | (simp; done) | (simp; omega) | omega) _ | refine Below.setCell ?_ (by first | exact Nat.le_refl _ | (simp; done) | (simp; omega) | omega) _ | refine Below.trans ?_ (Below.mono (by assumption) (by first | exact Nat.le_refl _ | (simp; done) | (simp; omega) | omega)))); done) | fail)) (QI.out.mono (by first | ((repeat (first | exact Below.refl _ _ | assumption | refine Below.drewN ?_ _ | refine Below.drew ?_ | refine Below.alloc ?_ (by first | exact Nat.le_refl _ | (simp; done) | (simp; omega) | omega) _ | refine Below.setCell ?_ (by first | exact Nat.le_refl _ | (simp; done) | (simp; omega) | omega) _ | refine Below.trans ?_ (Below.mono (by assumption) (by first | exact Nat.le_refl _ | (simp; done) | (simp; omega) | omega)))); done) | fail))).mono ?_
    rintro e u5 ⟨rfl, hb5⟩
    rw [decide_eq_true rfl]
    have hq := BW4.out
    have hqs := hq.size
    have BW5 : Hid (Below w.heap.size w u5) := Lib.hid (Below.trans (by exact (by first | ((repeat (first | exact Below.refl _ _ | assumption | refine Below.drewN ?_ _ | refine Below.drew ?_ | refine Below.alloc ?_ (by first | exact Nat.le_refl _ | (simp; done) | (simp; omega) | omega) _ | refine Below.setCell ?_ (by first | exact Nat.le_refl _ | (simp; done) | (simp; omega) | omega) _ | refine Below.trans ?_ (Below.mono (by assumption) (by first | exact Nat.le_refl _ | (simp; done) | (simp; omega) | omega)))); done) | fail)) (hb5.mono (by simp; omega)))
    clear hq hqs hb5
    go_wp2
    go_ret
    exact ⟨rfl, BW5.out⟩
  case true =>
    have hv : checkC c = 0 := by simpa using q3
    have HPC := Lib.hid (ret_law hv (HFL.out hv))
    clear hv
    generalize checkC c = ck at *
    go_wp2_with fail
    refine (Parse_any w4 (formatC c) HG4.out).mono ?_
    unfold POut
    rw [HPC.out]
    rintro e w5 ⟨v, rfl, hi, hb⟩
    obtain ⟨qa0, qc0, qa1, qc1, qa2, qc2, qa3, qc3, rfl, -⟩ := Catalog.inv hi
    have QI5 := Lib.hid hi
    clear hi
    have d0 := kept hb e0
    have d1 := kept hb e1
    have d2 := kept hb e2
    have d3 := kept hb e3
    have HI5 := Lib.hid (HI4.out.mono hb)
    have HG5 := Lib.hid (HG4.out.mono hb)
    have HB5 := Lib.hid (HB4.out.trans (hb.mono HB4.out.size))
    have z5 : w.heap.size < w5.heap.size := cell_lt d0
    clear e0 e1 e2 e3 hb HI4 HG4 HB4 z4 
    generalize c.licenses.length = K0 at *
    generalize c.exceptions.length = K1 at *
    generalize c.clauses.length = K2 at *
    generalize c.apart.length = K3 at *
    generalize formatC c = fc at *
    go_wp2_with fail
    refine (Same_ref _ _ _ c c (HI5.out.mono (by first | ((repeat (first | exact Below.refl _ _ | assumption | refine Below.drewN ?_ _ | refine Below.drew ?_ | refine Below.alloc ?_ (by first | exact Nat.le_refl _ | (simp; done) | (simp; omega) | omega) _ | refine Below.setCell ?_ (by first | exact Nat.le_refl _ | (simp; done) | (simp; omega) | omega) _ | refine Below.trans ?_ (Below.mono (by assumption) (by first | exact Nat.le_refl _ | (simp; done) | (simp; omega) | omega)))); done) | fail)) (QI5.out.mono (by first | ((repeat (first | exact Below.refl _ _ | assumption | refine Below.drewN ?_ _ | refine Below.drew ?_ | refine Below.alloc ?_ (by first | exact Nat.le_refl _ | (simp; done) | (simp; omega) | omega) _ | refine Below.setCell ?_ (by first | exact Nat.le_refl _ | (simp; done) | (simp; omega) | omega) _ | refine Below.trans ?_ (Below.mono (by assumption) (by first | exact Nat.le_refl _ | (simp; done) | (simp; omega) | omega)))); done) | fail))).mono ?_
    rintro e w6 ⟨rfl, hb6⟩
    rw [decide_eq_true rfl]
    have hb : Below w5.heap.size w5 w6 := Below.trans (by exact (by first | ((repeat (first | exact Below.refl _ _ | assumption | refine Below.drewN ?_ _ | refine Below.drew ?_ | refine Below.alloc ?_ (by first | exact Nat.le_refl _ | (simp; done) | (simp; omega) | omega) _ | refine Below.setCell ?_ (by first | exact Nat.le_refl _ | (simp; done) | (simp; omega) | omega) _ | refine Below.trans ?_ (Below.mono (by assumption) (by first | exact Nat.le_refl _ | (simp; done) | (simp; omega) | omega)))); done) | fail)) (hb6.mono (by simp))
    clear hb6
    have e0 := kept hb d0
    have e1 := kept hb d1
    have e2 := kept hb d2
    have e3 := kept hb d3
    have HI6 := Lib.hid (HI5.out.mono hb)
    have HG6 := Lib.hid (HG5.out.mono hb)
    have HB6 := Lib.hid (HB5.out.trans (hb.mono HB5.out.size))
    have z6 : w.heap.size < w6.heap.size := cell_lt e0
    clear d0 d1 d2 d3 hb HI5 HG5 HB5 z5 
    go_wp2_with fail
    refine (Parse_any w6 s HG6.out).mono ?_
    unfold POut
    rintro e u1 ⟨v, rfl, hi, hb⟩
    have GU1 := Lib.hid (HG6.out.mono hb)
    have BU1 := Lib.hid (HB6.out.trans (hb.mono HB6.out.size))
    obtain ⟨pa0, pc0, pa1, pc1, pa2, pc2, pa3, pc3, rfl, -⟩ := Catalog.inv hi
    have PI := Lib.hid hi
    clear hi hb e0 e1 e2 e3 HI6 z6
    cases q2 : ((parseC s).2.1 != 0)
    case true =>
      have HE : Hid ((parseC s).2.2 = emptyC) := parse_err (by simpa using q2)
      rw [HE.out] at PI ⊢
      simp only [emptyC, List.length_nil] at PI ⊢
      generalize (parseC s).2.1 = er at *
      generalize (parseC s).1 = ln at *
      go_wp2_with fail
      refine (Same_ref _ _ _ emptyC emptyC (PI.out.mono (by first | ((repeat (first | exact Below.refl _ _ | assumption | refine Below.drewN ?_ _ | refine Below.drew ?_ | refine Below.alloc ?_ (by first | exact Nat.le_refl _ | (simp; done) | (simp; omega) | omega) _ | refine Below.setCell ?_ (by first | exact Nat.le_refl _ | (simp; done) | (simp; omega) | omega) _ | refine Below.trans ?_ (Below.mono (by assumption) (by first | exact Nat.le_refl _ | (simp; done) | (simp; omega) | omega)))); done) | fail)) (nil4 _)).mono ?_
      rintro e u2 ⟨rfl, hb2⟩
      rw [decide_eq_true rfl]
      have hq := BU1.out
      have hqs := hq.size
      have BU2 : Hid (Below w.heap.size w u2) := Lib.hid (Below.trans (by exact (by first | ((repeat (first | exact Below.refl _ _ | assumption | refine Below.drewN ?_ _ | refine Below.drew ?_ | refine Below.alloc ?_ (by first | exact Nat.le_refl _ | (simp; done) | (simp; omega) | omega) _ | refine Below.setCell ?_ (by first | exact Nat.le_refl _ | (simp; done) | (simp; omega) | omega) _ | refine Below.trans ?_ (Below.mono (by assumption) (by first | exact Nat.le_refl _ | (simp; done) | (simp; omega) | omega)))); done) | fail)) (hb2.mono (by simp; omega)))
      clear hq hqs hb2
      go_wp2
      go_ret
      exact ⟨rfl, BU2.out⟩
    have hv0 : (parseC s).2.1 = 0 := by simpa using q2
    obtain ⟨hvd, hfl⟩ := parse_fl num_itoa hv0
    have hfl2 : (formatL Lib.itoa (parseC s).2.2).length ≤ 65536 := by have := HS4.out; omega
    have HPR := Lib.hid (ret_law hvd hfl2)
    have HVD := Lib.hid hvd
    have HF2 := Lib.hid hfl2
    clear hv0 hvd hfl hfl2
    generalize (parseC s).2.1 = er at *
    generalize (parseC s).1 = ln at *
    obtain ⟨d, hdq⟩ : ∃ d, d = (parseC s).2.2 := ⟨_, rfl⟩
    rw [← hdq] at PI HPR HVD HF2 ⊢
    clear hdq
    generalize d.licenses.length = M0 at *
    generalize d.exceptions.length = M1 at *
    generalize d.clauses.length = M2 at *
    generalize d.apart.length = M3 at *
    go_wp2_with fail
    have BU2 : Hid (Below u1.heap.size u1 (u1.alloc (.cells #[.slice pa0 M0 pc0, .slice pa1 M1 pc1, .slice pa2 M2 pc2, .slice pa3 M3 pc3] 28))) := by show Below _ _ _; exact (by first | ((repeat (first | exact Below.refl _ _ | assumption | refine Below.drewN ?_ _ | refine Below.drew ?_ | refine Below.alloc ?_ (by first | exact Nat.le_refl _ | (simp; done) | (simp; omega) | omega) _ | refine Below.setCell ?_ (by first | exact Nat.le_refl _ | (simp; done) | (simp; omega) | omega) _ | refine Below.trans ?_ (Below.mono (by assumption) (by first | exact Nat.le_refl _ | (simp; done) | (simp; omega) | omega)))); done) | fail)
    have p0 : (u1.alloc (.cells #[.slice pa0 M0 pc0, .slice pa1 M1 pc1, .slice pa2 M2 pc2, .slice pa3 M3 pc3] 28)).cell? ⟨u1.heap.size, 0, none⟩ = some (.slice pa0 M0 pc0) := by simp
    have p1 : (u1.alloc (.cells #[.slice pa0 M0 pc0, .slice pa1 M1 pc1, .slice pa2 M2 pc2, .slice pa3 M3 pc3] 28)).cell? ⟨u1.heap.size, 1, none⟩ = some (.slice pa1 M1 pc1) := by simp
    have p2 : (u1.alloc (.cells #[.slice pa0 M0 pc0, .slice pa1 M1 pc1, .slice pa2 M2 pc2, .slice pa3 M3 pc3] 28)).cell? ⟨u1.heap.size, 2, none⟩ = some (.slice pa2 M2 pc2) := by simp
    have p3 : (u1.alloc (.cells #[.slice pa0 M0 pc0, .slice pa1 M1 pc1, .slice pa2 M2 pc2, .slice pa3 M3 pc3] 28)).cell? ⟨u1.heap.size, 3, none⟩ = some (.slice pa3 M3 pc3) := by simp
    have PI2 := Lib.hid (PI.out.mono BU2.out)
    have GU2 := Lib.hid (GU1.out.mono BU2.out)
    have BW2 := Lib.hid (BU1.out.trans (BU2.out.mono BU1.out.size))
    generalize u1.alloc (.cells #[.slice pa0 M0 pc0, .slice pa1 M1 pc1, .slice pa2 M2 pc2, .slice pa3 M3 pc3] 28) = u2 at *
    clear PI GU1 BU1 BU2
    refine (Format_p u2 _ d GU2.out PI2.out (fun _ => Nat.le_trans HF2.out (by decide))).mono ?_
    rintro e u3 ⟨rfl, hb⟩
    rw [HVD.out]
    have r0 := kept hb p0
    have r1 := kept hb p1
    have r2 := kept hb p2
    have r3 := kept hb p3
    have PI3 := Lib.hid (PI2.out.mono hb)
    have GU3 := Lib.hid (GU2.out.mono hb)
    have BW3 := Lib.hid (BW2.out.trans (hb.mono BW2.out.size))
    clear p0 p1 p2 p3 PI2 GU2 BW2 hb
    go_wp2_with fail
    refine (Parse_any u3 (formatC d) GU3.out).mono ?_
    unfold POut
    rw [HPR.out]
    rintro e u4 ⟨v, rfl, hi, hb⟩
    have p0 := kept hb r0
    have p1 := kept hb r1
    have p2 := kept hb r2
    have p3 := kept hb r3
    have PI4 := Lib.hid (PI3.out.mono hb)
    have BW4 := Lib.hid (BW3.out.trans (hb.mono BW3.out.size))
    obtain ⟨qa0, qc0, qa1, qc1, qa2, qc2, qa3, qc3, rfl, -⟩ := Catalog.inv hi
    have QI := Lib.hid hi
    have hzu : u1.heap.size < u4.heap.size := cell_lt p0
    clear hi hb r0 r1 r2 r3 PI3 GU3 BW3
    generalize d.licenses.length = K0 at *
    generalize d.exceptions.length = K1 at *
    generalize d.clauses.length = K2 at *
    generalize d.apart.length = K3 at *
    generalize formatC d = fd at *
    go_wp2_with fail
    refine (Same_ref _ _ _ d d (PI4.out.mono (by first | ((repeat (first | exact Below.refl _ _ | assumption | refine Below.drewN ?_ _ | refine Below.drew ?_ | refine Below.alloc ?_ (by first | exact Nat.le_refl _ | (simp; done) | (simp; omega) | omega) _ | refine Below.setCell ?_ (by first | exact Nat.le_refl _ | (simp; done) | (simp; omega) | omega) _ | refine Below.trans ?_ (Below.mono (by assumption) (by first | exact Nat.le_refl _ | (simp; done) | (simp; omega) | omega)))); done) | fail)) (QI.out.mono (by first | ((repeat (first | exact Below.refl _ _ | assumption | refine Below.drewN ?_ _ | refine Below.drew ?_ | refine Below.alloc ?_ (by first | exact Nat.le_refl _ | (simp; done) | (simp; omega) | omega) _ | refine Below.setCell ?_ (by first | exact Nat.le_refl _ | (simp; done) | (simp; omega) | omega) _ | refine Below.trans ?_ (Below.mono (by assumption) (by first | exact Nat.le_refl _ | (simp; done) | (simp; omega) | omega)))); done) | fail))).mono ?_
    rintro e u5 ⟨rfl, hb5⟩
    rw [decide_eq_true rfl]
    have hq := BW4.out
    have hqs := hq.size
    have BW5 : Hid (Below w.heap.size w u5) := Lib.hid (Below.trans (by exact (by first | ((repeat (first | exact Below.refl _ _ | assumption | refine Below.drewN ?_ _ | refine Below.drew ?_ | refine Below.alloc ?_ (by first | exact Nat.le_refl _ | (simp; done) | (simp; omega) | omega) _ | refine Below.setCell ?_ (by first | exact Nat.le_refl _ | (simp; done) | (simp; omega) | omega) _ | refine Below.trans ?_ (Below.mono (by assumption) (by first | exact Nat.le_refl _ | (simp; done) | (simp; omega) | omega)))); done) | fail)) (hb5.mono (by simp; omega)))
    clear hq hqs hb5
    go_wp2
    go_ret
    exact ⟨rfl, BW5.out⟩
end Go.Proofs.YtaneolfnnkppbaaGreatDoor
