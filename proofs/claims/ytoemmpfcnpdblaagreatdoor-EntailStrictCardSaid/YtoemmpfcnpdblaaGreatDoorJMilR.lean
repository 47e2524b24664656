/- The reference of layer 34: Milder. -/
import Derived.Test.YtoemmpfcnpdblaaGreatDoorJClaR
import Derived.Test.YtoemmpfcnpdblaaGreatDoorJR34B
set_option linter.all false
namespace Go.Proofs.YtoemmpfcnpdblaaGreatDoor
open Go Go.RowKit Go.ChangeShapes Go.Sort Go.Lib

set_option maxRecDepth 100000 in
set_option maxHeartbeats 4000000 in
theorem Milder34_ref (w : World) (vc v u : Value) (c : Catalog) (xs ys : List Term) (hc : Is w vc c) (h : Is w v xs) (k : Is w u ys) (hl : xs.length ≤ 1000000) (kl : ys.length ≤ 1000000) :
  Calls Tryz.prog 32 #[vc, v, u] w fun e w' => e = .returned (.tuple #[.bool (mildP c xs ys).1, .int .i64 (mildP c xs ys).2]) ∧ Below w.heap.size w w' := by
 have HF : Hid (mildP c xs ys = if !(clausesE c xs == 0) then (false, clausesE c xs) else if !(clausesE c ys == 0) then (false, clausesE c ys) else (mildC (clausesA c xs) (clausesA c ys), 0)) := rfl
 have HX : Hid (clausesP c xs = if !(clausesE c xs == 0) then ([], clausesE c xs) else (clausesA c xs, 0)) := rfl
 have HY : Hid (clausesP c ys = if !(clausesE c ys == 0) then ([], clausesE c ys) else (clausesA c ys, 0)) := rfl
 have HC := Lib.hid hc
 have HI := Lib.hid h
 have HJ := Lib.hid k
 have HKL := Lib.hid kl
 obtain ⟨a0, N0, c0, a1, N1, c1, a2, N2, c2, a3, N3, c3, rfl⟩ := catBox hc
 obtain ⟨av, cv, rfl, -⟩ := list_inv h
 obtain ⟨au, cu, rfl, -⟩ := list_inv k
 have hba : Below w.heap.size w (w.alloc (.cells #[.slice a0 N0 c0, .slice a1 N1 c1, .slice a2 N2 c2, .slice a3 N3 c3] 42)) := (by first | ((repeat (first | exact Below.refl _ _ | assumption | refine Below.drewN ?_ _ | refine Below.drew ?_ | refine Below.alloc ?_ (by first | exact Nat.le_refl _ | (simp; done) | (simp; omega) | omega) _ | refine Below.setCell ?_ (by first | exact Nat.le_refl _ | (simp; done) | (simp; omega) | omega) _ | refine Below.trans ?_ (Below.mono (by assumption) (by first | exact Nat.le_refl _ | (simp; done) | (simp; omega) | omega)))); done) | fail)
 have hcall := Clauses34_ref w (w.alloc (.cells #[.slice a0 N0 c0, .slice a1 N1 c1, .slice a2 N2 c2, .slice a3 N3 c3] 42)) _ _ c xs HC.out hba (HI.out.mono hba) hl
 have HBA := Lib.hid hba
 clear h k hc hba hl kl
 generalize xs.length = LX at *
 generalize hly : ys.length = LY at *
 generalize clausesE c xs = ex at *
 generalize clausesE c ys = ey at *
 go_enter Tryz.func32, Tryz.ntmps32
 go_wp2_with fail
 refine hcall.mono ?_
 unfold ClW
 rintro e w2 ⟨v2, rfl, ho2, hb2⟩
 have d0 := kept hb2 (a := ⟨w.heap.size, 0, none⟩) (v := .slice a0 N0 c0) (by simp)
 have d1 := kept hb2 (a := ⟨w.heap.size, 1, none⟩) (v := .slice a1 N1 c1) (by simp)
 have d2 := kept hb2 (a := ⟨w.heap.size, 2, none⟩) (v := .slice a2 N2 c2) (by simp)
 have d3 := kept hb2 (a := ⟨w.heap.size, 3, none⟩) (v := .slice a3 N3 c3) (by simp)
 have hs0 := cell_lt d0
 have HB2 : Hid (Below w.heap.size w w2) := HBA.out.trans (hb2.mono (by simp))
 have HO2 := Lib.hid ho2.is
 clear hcall hb2 ho2
 by_cases q : ex = 0
 case neg =>
  have q1 : (ex == 0) = false := by simpa using q
  have q2 : (ex != 0) = true := by simpa using q
  have HT : Hid (mildP c xs ys = (false, ex)) := by show _ = _; rw [HF.out, q1]; rfl
  have HT2 : Hid (clausesP c xs = ([], ex)) := by show _ = _; rw [HX.out, q1]; rfl
  rw [HT2.out]
  clear q
  go_wp2
  go_ret2
  exact ⟨by rw [HT.out]; rfl, HB2.out⟩
 subst q
 have HT2 : Hid (clausesP c xs = (clausesA c xs, 0)) := by show _ = _; rw [HX.out]; rfl
 rw [HT2.out] at HO2 ⊢
 have hcall := Clauses34_ref w w2 _ _ c ys HC.out HB2.out (HJ.out.mono HB2.out) (by rw [hly]; exact HKL.out)
 clear hly

 go_wp2_with fail
 refine hcall.mono ?_
 unfold ClW
 rintro e w3 ⟨v3, rfl, ho3, hb3⟩
 have HB3 : Hid (Below w.heap.size w w3) := HB2.out.trans (hb3.mono HB2.out.size)
 have HO23 := Lib.hid (HO2.out.mono hb3)
 have HO3 := Lib.hid ho3.is
 clear hcall hb3 ho3 d0 d1 d2 d3 HO2
 by_cases q : ey = 0
 case neg =>
  have q1 : (ey == 0) = false := by simpa using q
  have q2 : (ey != 0) = true := by simpa using q
  have HT : Hid (mildP c xs ys = (false, ey)) := by show _ = _; rw [HF.out, q1]; rfl
  have HT3 : Hid (clausesP c ys = ([], ey)) := by show _ = _; rw [HY.out, q1]; rfl
  rw [HT3.out]
  clear q
  go_wp2
  go_ret2
  exact ⟨by rw [HT.out]; rfl, HB3.out⟩
 subst q
 have HT3 : Hid (clausesP c ys = (clausesA c ys, 0)) := by show _ = _; rw [HY.out]; rfl
 have HT : Hid (mildP c xs ys = (mildC (clausesA c xs) (clausesA c ys), 0)) := by show _ = _; rw [HF.out]; rfl
 rw [HT3.out] at HO3 ⊢
 have hcall := milder34_ref w3 v2 v3 _ _ HO23.out HO3.out
 obtain ⟨a5, c5, rfl, -⟩ := list_inv HO23.out
 obtain ⟨a6, c6, rfl, -⟩ := list_inv HO3.out
 rw [mild_same] at hcall
 clear HO23 HO3
 go_wp2_with fail
 refine hcall.mono ?_
 rintro e w5 ⟨rfl, hb5⟩
 have HB5 : Hid (Below w.heap.size w w5) := HB3.out.trans (hb5.mono HB3.out.size)
 clear hcall hb5
 go_wp2
 go_ret2
 exact ⟨by rw [HT.out]; rfl, HB5.out⟩
end Go.Proofs.YtoemmpfcnpdblaaGreatDoor
