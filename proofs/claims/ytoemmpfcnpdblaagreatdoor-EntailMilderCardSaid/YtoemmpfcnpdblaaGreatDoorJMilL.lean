/- The law: to be milder is reflexive and transitive; a term with an exception is milder than without it; what entails a list entails it by the catalog. -/
import Derived.Test.YtoemmpfcnpdblaaGreatDoorJMilU
import Derived.Test.YtoemmpfcnpdblaaGreatDoorJAwU
import Derived.Test.YtoemmpfcnpdblaaGreatDoorJSepU
import Derived.Test.YtoemmpfcnpdblaaGreatDoorJFewU
import Derived.Test.YtoemmpfcnpdblaaGreatDoorJConcA
import Derived.Test.YtoemmpfcnpdblaaGreatDoorJLawE
set_option linter.all false
namespace Go.Proofs.YtoemmpfcnpdblaaGreatDoor
open Go Go.RowKit Go.ChangeShapes Go.Sort Go.Lib

def CatB (c : Catalog) (v0 v1 v2 v3 : Value) (g : Nat) (W : World) : Prop :=
 (W.cell? ⟨g, 0, none⟩ = some v0 ∧ W.cell? ⟨g, 1, none⟩ = some v1 ∧ W.cell? ⟨g, 2, none⟩ = some v2 ∧ W.cell? ⟨g, 3, none⟩ = some v3) ∧ Is W (.agg #[v0, v1, v2, v3]) c ∧ Glob W
theorem CatB.mono {c : Catalog} {v0 v1 v2 v3 : Value} {g : Nat} {W W' : World} (h : CatB c v0 v1 v2 v3 g W) (hb : Below W.heap.size W W') : CatB c v0 v1 v2 v3 g W' :=
 ⟨⟨kept hb h.1.1, kept hb h.1.2.1, kept hb h.1.2.2.1, kept hb h.1.2.2.2⟩, h.2.1.mono hb, h.2.2.mono hb⟩
theorem catB_new {c : Catalog} {v0 v1 v2 v3 : Value} {W : World} (h : Is W (.agg #[v0, v1, v2, v3]) c) (hg : Glob W) : CatB c v0 v1 v2 v3 W.heap.size (W.alloc (.cells #[v0, v1, v2, v3] 42)) := by
 have hb : Below W.heap.size W (W.alloc (.cells #[v0, v1, v2, v3] 42)) := (Below.refl _ _).alloc (Nat.le_refl _) _
 exact ⟨⟨by simp, by simp, by simp, by simp⟩, h.mono hb, hg.mono hb⟩
set_option maxRecDepth 100000 in
set_option maxHeartbeats 2000000 in
theorem MilderC_p (w : World) (g : Nat) (c : Catalog) (v0 v1 v2 v3 v u : Value) (xs ys : List Term) (hc : CatB c v0 v1 v2 v3 g w) (h : Is w v xs) (k : Is w u ys) (hl : xs.length ≤ 1000000) (kl : ys.length ≤ 1000000) :
  Calls Tryz.prog 33 #[v, u, .pointer (some ⟨g, 0, none⟩)] w fun e w' => e = .returned (.bool (isM c xs ys)) ∧ Below w.heap.size w w' := by
 have hcall := Milder_p w _ v u c xs ys hc.2.2 hc.2.1 h k hl kl
 have HI : Hid (isM c xs ys = ((mildP c xs ys).1 && ((mildP c xs ys).2 == 0))) := rfl
 obtain ⟨⟨d0, d1, d2, d3⟩, hi, -⟩ := hc
 obtain ⟨a0, c0, a1, c1, a2, c2, a3, c3, he, -⟩ := Catalog.inv hi
 cases he
 obtain ⟨a, c', rfl, -⟩ := list_inv h
 obtain ⟨b, d', rfl, -⟩ := list_inv k
 have hg := cell_lt d0
 clear h k hi
 generalize mildP c xs ys = r at *
 obtain ⟨r1, r2⟩ := r
 generalize c.licenses.length = N0 at *
 generalize c.exceptions.length = N1 at *
 generalize c.clauses.length = N2 at *
 generalize c.apart.length = N3 at *
 generalize xs.length = N at *
 generalize ys.length = M at *
 cases r1
 case false =>
  go_enter Tryz.func33, Tryz.ntmps33
  go_wp2_with fail
  refine hcall.mono ?_
  rintro e w1 ⟨rfl, hb⟩
  go_wp2
  go_ret
  exact ⟨ret_b (by rw [HI.out]; rfl), hb⟩
 case true =>
  go_enter Tryz.func33, Tryz.ntmps33
  go_wp2_with fail
  refine hcall.mono ?_
  rintro e w1 ⟨rfl, hb⟩
  go_wp2
  go_ret
  exact ⟨ret_b (by rw [HI.out]; rfl), hb⟩
set_option maxRecDepth 100000 in
set_option maxHeartbeats 16000000 in
theorem EntailMilder_p (w : World) (vc v u : Value) (c : Catalog) (xs ys : List (List Term)) (hg : Glob w) (hc : Is w vc c) (h : Is w v xs) (k : Is w u ys) :
  Calls Tryz.prog 7 #[vc, v, u] w fun e w' => e = .returned (.bool true) ∧ Below w.heap.size w w' := by
 have HI := Lib.hid h
 have HJ := Lib.hid k
 have HG := Lib.hid hg
 have HC := Lib.hid hc
 obtain ⟨a0, c0, a1, c1, a2, c2, a3, c3, rfl, l0, m0, r0, l1, m1, r1, l2, m2, r2, l3, m3, r3⟩ := Catalog.inv hc
 have R1 := Lib.hid r1
 have n1 : c.exceptions.length ≤ 9223372036854775807 := by simp only [maxLen] at m1; omega
 obtain ⟨a, c', rfl, -⟩ := list_inv h
 obtain ⟨b, d', rfl, -⟩ := list_inv k
 clear h k hg hc r0 r1 r2 r3 m0 m1 m2 m3 l0 l1 l2 l3
 generalize hN : xs.length = N at *
 generalize hM : ys.length = M at *
 have HNM := Lib.hid (And.intro hN hM)
 clear hN hM
 generalize c.licenses.length = N0 at *
 generalize hN1 : c.exceptions.length = N1 at *
 have HN1 := Lib.hid hN1
 clear hN1
 generalize c.clauses.length = N2 at *
 generalize c.apart.length = N3 at *
 have eg : ∀ args w, (callFunc 33 args).run Tryz.prog w = .ok (.enter 33 args) w := enters_of Tryz.func33 (by kernel_rfl) rfl
 go_enter Tryz.func7, Tryz.ntmps7
 go_wp2_with fail
 have HB0 : Hid (Below w.heap.size w (w.alloc (.cells #[.slice a0 N0 c0, .slice a1 N1 c1, .slice a2 N2 c2, .slice a3 N3 c3] 42))) := by show Below _ _ _; exact (by first | ((repeat (first | exact Below.refl _ _ | assumption | refine Below.drewN ?_ _ | refine Below.drew ?_ | refine Below.alloc ?_ (by first | exact Nat.le_refl _ | (simp; done) | (simp; omega) | omega) _ | refine Below.setCell ?_ (by first | exact Nat.le_refl _ | (simp; done) | (simp; omega) | omega) _ | refine Below.trans ?_ (Below.mono (by assumption) (by first | exact Nat.le_refl _ | (simp; done) | (simp; omega) | omega)))); done) | fail)
 have HX0 := Lib.hid (catB_new HC.out HG.out)
 refine (awakeF_p _ HX0.out.2.2).mono ?_
 rintro e w1 ⟨rfl, hb1⟩
 have HB1 : Hid (Below w.heap.size w w1) := HB0.out.trans (hb1.mono HB0.out.size)
 have HX1 := Lib.hid (HX0.out.mono hb1)
 obtain ⟨d0, d1, d2, d3⟩ := HX1.out.1
 have z1 := cell_lt d0
 clear hb1 HX0 HB0
 go_wp2_with fail
 refine (Few_ref w1 _ c HX1.out.2.1).mono ?_
 rintro e w2 ⟨fc, rfl, hb2⟩
 have HB2 : Hid (Below w.heap.size w w2) := HB1.out.trans (hb2.mono HB1.out.size)
 have HX2 := Lib.hid (HX1.out.mono hb2)
 clear hb2 HB1 HX1 d0 d1 d2 d3 z1
 cases fc
 case false =>
  go_wp2
  go_ret
  exact ⟨rfl, HB2.out⟩
 go_wp2_with fail
 refine (FewA_ref w2 _ xs (HI.out.mono HB2.out)).mono ?_
 unfold FewO
 rintro e w3 ⟨f1, rfl, hb3, few1⟩
 have HB3 : Hid (Below w.heap.size w w3) := HB2.out.trans (hb3.mono HB2.out.size)
 have HX3 := Lib.hid (HX2.out.mono hb3)
 clear hb3 HB2 HX2
 cases f1
 case false =>
  clear few1
  go_wp2
  go_ret
  exact ⟨rfl, HB3.out⟩
 have FX := Lib.hid (few1 rfl)
 clear few1
 go_wp2_with fail
 refine (FewA_ref w3 _ ys (HJ.out.mono HB3.out)).mono ?_
 unfold FewO
 rintro e w4 ⟨f2, rfl, hb4, few2⟩
 have HB4 : Hid (Below w.heap.size w w4) := HB3.out.trans (hb4.mono HB3.out.size)
 have HX4 := Lib.hid (HX3.out.mono hb4)
 clear hb4 HB3 HX3
 cases f2
 case false =>
  clear few2
  go_wp2
  go_ret
  exact ⟨rfl, HB4.out⟩
 have FY := Lib.hid (few2 rfl)
 clear few2
 by_cases t1 : (10 : Int) < (N : Int)
 ·go_wp2
  go_ret
  exact ⟨rfl, HB4.out⟩
 by_cases t2 : (10 : Int) < (M : Int)
 ·go_wp2
  go_ret
  exact ⟨rfl, HB4.out⟩
 have hcall := ConcatA_p _ _ [xs, ys] (two_box 22 (HI.out.mono HB4.out) (HJ.out.mono HB4.out) rfl) (Nat.le_of_ble_eq_true rfl) (by
  intro x hx
  simp at hx
  rcases hx with rfl | rfl
  ·have := FX.out.1; omega
  ·have := FY.out.1; omega)
 go_wp2_with fail
 have hba : Below w4.heap.size w4 (w4.alloc (.cells #[.slice a N c', .slice b M d'] 22)) := (by first | ((repeat (first | exact Below.refl _ _ | assumption | refine Below.drewN ?_ _ | refine Below.drew ?_ | refine Below.alloc ?_ (by first | exact Nat.le_refl _ | (simp; done) | (simp; omega) | omega) _ | refine Below.setCell ?_ (by first | exact Nat.le_refl _ | (simp; done) | (simp; omega) | omega) _ | refine Below.trans ?_ (Below.mono (by assumption) (by first | exact Nat.le_refl _ | (simp; done) | (simp; omega) | omega)))); done) | fail)
 have hflat : [xs, ys].flatten = xs ++ ys := by simp
 refine hcall.mono ?_
 rintro e w5 ⟨v5, rfl, ho5, hb5⟩
 have hw5 : Below w4.heap.size w4 w5 := hba.trans (hb5.mono hba.size)
 have his : Is w5 v5 (xs ++ ys) := by rw [← hflat]; exact ho5.is hb5
 have HB5 : Hid (Below w.heap.size w w5) := HB4.out.trans (hw5.mono HB4.out.size)
 have HX5 := Lib.hid (HX4.out.mono hw5)
 have hZ1 : (xs ++ ys).length ≤ 20 := by rw [List.length_append, HNM.out.1, HNM.out.2]; omega
 have HZL : Hid (∀ x ∈ xs ++ ys, x.length ≤ 1000000) := by
  intro x hx
  rcases List.mem_append.1 hx with h | h
  ·have := FX.out.2 x h; omega
  ·have := FY.out.2 x h; omega
 obtain ⟨zs, hzs⟩ : ∃ zs, zs = xs ++ ys := ⟨_, rfl⟩
 rw [← hzs] at his hZ1 HZL
 have HZS := Lib.hid hzs
 obtain ⟨az, cz, rfl, hzc, hzm, hzr⟩ := list_inv his
 have HZR := Lib.hid hzr
 simp only [maxLen] at hzm
 clear hcall hba hflat ho5 hb5 hw5 his hzs hzr HX4 HB4 t1 t2
 generalize hNZ : zs.length = NZ at *
 have HNZ := Lib.hid hNZ
 clear hNZ
 go_wp2
 go_loopw [53] (fun kv wr => ∃ i : Nat, i ≤ NZ ∧ kv = .int .i64 i ∧ Hid (Below w5.heap.size w5 wr)) (fun kv _ => NZ - (intOf kv).toNat)
 case atStart => exact ⟨0, by omega, rfl, Below.refl _ _⟩
 case round =>
  obtain ⟨i, hi, rfl, HB⟩ := hrel
  by_cases hiN : i < NZ
  ·have hiz : (i : Int) < (NZ : Int) := by omega
   have hi0 : (0 : Int) ≤ (i : Int) := by omega
   have HX := Lib.hid (HX5.out.mono HB.out)
   obtain ⟨x, hx⟩ := get_lt (xs := zs) (k := i) (by rw [HNZ.out]; exact hiN)
   obtain ⟨bx, ox, rfl, hbx, ax, cx, x0', hx1, hx2, hx3⟩ := list_at HZR.out hx
   have HXI : Hid (Is w5 (.slice ax x.length cx) x) := list_mk hx1 hx2 hx3
   have HXL : Hid (x.length ≤ 1000000) := HZL.out x (List.mem_of_getElem? hx)
   have x0 := kept HB.out x0'
   obtain ⟨d0, d1, d2, d3⟩ := HX.out.1
   have zd := cell_lt d0
   have hcall := ClausesE_p wr _ (.slice ax x.length cx) c x HX.out.2.2 HX.out.2.1 (HXI.out.mono HB.out) HXL.out
   have hcl2 : (clausesP c x).2 = clausesE c x := by
    unfold clausesP
    split
    ·rfl
    ·rename_i h; simp at h; rw [h]
   have HRF : Hid (clausesE c x = 0 → isM c x x = true) := fun h => isM_refl h
   unfold ClO at hcall
   rw [hcl2] at hcall
   clear hx hx3 hx1 hx2 hcl2
   generalize clausesE c x = ce at *
   go_wp2_with fail
   refine hcall.mono ?_
   rintro e w6 ⟨v6, rfl, hcl, hb6⟩
   obtain ⟨a6, c6, rfl, -⟩ := list_inv hcl.is
   have HB6 : Hid (Below w5.heap.size w5 w6) := HB.out.trans (hb6.mono HB.out.size)
   have HX6 := Lib.hid (HX.out.mono hb6)
   generalize (clausesP c x).1.length = LC at *
   clear hcall hcl hb6 d0 d1 d2 d3 zd x0
   have hNZ0 : ¬ NZ = 0 := by omega
   obtain ⟨j1, hj1⟩ : ∃ j1 : Nat, j1 = (i + 1) % NZ := ⟨_, rfl⟩
   obtain ⟨j2, hj2⟩ : ∃ j2 : Nat, j2 = (i + 2) % NZ := ⟨_, rfl⟩
   have hj1N : j1 < NZ := by rw [hj1]; exact Nat.mod_lt _ (by omega)
   have hj2N : j2 < NZ := by rw [hj2]; exact Nat.mod_lt _ (by omega)
   have e1 : ((i : Int) + 1) % (NZ : Int) = (j1 : Int) := by rw [hj1, Int.natCast_emod]; rfl
   have e2 : ((i : Int) + 2) % (NZ : Int) = (j2 : Int) := by rw [hj2, Int.natCast_emod]; rfl
   have e1' : ((i : Int) + 1).tmod (NZ : Int) = (j1 : Int) := by rw [Int.tmod_eq_emod_of_nonneg (by omega)]; exact e1
   have e2' : ((i : Int) + 2).tmod (NZ : Int) = (j2 : Int) := by rw [Int.tmod_eq_emod_of_nonneg (by omega)]; exact e2
   obtain ⟨y, hy⟩ := get_lt (xs := zs) (k := j1) (by rw [HNZ.out]; exact hj1N)
   obtain ⟨z, hz⟩ := get_lt (xs := zs) (k := j2) (by rw [HNZ.out]; exact hj2N)
   obtain ⟨by', oy', he, -, ay, cy, y0', hy1, hy2, hy3⟩ := list_at HZR.out hy
   cases he
   obtain ⟨bz', oz', he, -, ag, cg, g0', hg1, hg2, hg3⟩ := list_at HZR.out hz
   cases he
   have HYI : Hid (Is w5 (.slice ay y.length cy) y) := list_mk hy1 hy2 hy3
   have HGI : Hid (Is w5 (.slice ag z.length cg) z) := list_mk hg1 hg2 hg3
   have HYL : Hid (y.length ≤ 1000000) := HZL.out y (List.mem_of_getElem? hy)
   have HGL : Hid (z.length ≤ 1000000) := HZL.out z (List.mem_of_getElem? hz)
   have HY0 := Lib.hid y0'
   have HG0 := Lib.hid g0'
   have hj1z : (j1 : Int) < (NZ : Int) := by omega
   have hj2z : (j2 : Int) < (NZ : Int) := by omega
   have hj10 : (0 : Int) ≤ (j1 : Int) := by omega
   have hj20 : (0 : Int) ≤ (j2 : Int) := by omega
   have HTR : Hid (isM c x y = true → isM c y z = true → isM c x z = true) := fun h k => isM_trans h k
   have HK1 := Lib.hid (fun W (hb : Below w5.heap.size w5 W) => MilderC_p W w.heap.size c _ _ _ _ (.slice ax x.length cx) (.slice ay y.length cy) x y (HX5.out.mono hb) (HXI.out.mono hb) (HYI.out.mono hb) HXL.out HYL.out)
   have HK2 := Lib.hid (fun W (hb : Below w5.heap.size w5 W) => MilderC_p W w.heap.size c _ _ _ _ (.slice ay y.length cy) (.slice ag z.length cg) y z (HX5.out.mono hb) (HYI.out.mono hb) (HGI.out.mono hb) HYL.out HGL.out)
   have HK3 := Lib.hid (fun W (hb : Below w5.heap.size w5 W) => MilderC_p W w.heap.size c _ _ _ _ (.slice ax x.length cx) (.slice ag z.length cg) x z (HX5.out.mono hb) (HXI.out.mono hb) (HGI.out.mono hb) HXL.out HGL.out)
   clear hy hz hy1 hy2 hy3 hg1 hg2 hg3 y0' g0' hj1 hj2 hj1N hj2N
   cases q : (ce == 0)
   case' true =>
    have hxx := HRF.out (by simpa using q)
    have hcall := MilderC_p w6 w.heap.size c _ _ _ _ (.slice ax x.length cx) (.slice ax x.length cx) x x HX6.out (HXI.out.mono HB6.out) (HXI.out.mono HB6.out) HXL.out HXL.out
    rw [hxx] at hcall
    clear hxx
    obtain ⟨d0, d1, d2, d3⟩ := HX6.out.1
    have zd := cell_lt d0
    go_wp2_with fail
    refine hcall.mono ?_
    rintro e w7 ⟨rfl, hb7⟩
    clear d0 d1 d2 d3 zd hcall
    have HB7 : Hid (Below w5.heap.size w5 w7) := HB6.out.trans (hb7.mono HB6.out.size)
    clear hb7
    go_wp2
   case' false =>
    have HB7 := HB6
    go_wp2
   all_goals
    clear HRF HB6 HX6 q
    have y0 := kept HB7.out HY0.out
    have g0 := kept HB7.out HG0.out
    have hsy := cell_lt y0
    have hsg := cell_lt g0
    go_quiet (fail)
    have HB8 := Lib.hid (HB7.out.drewN nq)
    clear HB7 y0 g0 hsy hsg e1 e2 e1' e2'
    generalize isM c x y = b1 at *
    generalize isM c y z = b2 at *
    generalize isM c x z = b3 at *
    cases b1
    case false =>
     go_wp2_with fail
     refine (HK1.out _ HB8.out).mono ?_
     rintro e w9 ⟨rfl, hb9⟩
     have HB9 : Hid (Below w5.heap.size w5 w9) := HB8.out.trans (hb9.mono HB8.out.size)
     clear hb9 HK1 HK2 HK3 HTR
     go_wp2
     go_roundw
     case rel => exact ⟨i + 1, by omega, by go_num, HB9⟩
     case measure => simp [intOf]; omega
    case true =>
     go_wp2_with fail
     refine (HK1.out _ HB8.out).mono ?_
     rintro e w9 ⟨rfl, hb9⟩
     have HB9 : Hid (Below w5.heap.size w5 w9) := HB8.out.trans (hb9.mono HB8.out.size)
     clear hb9 HK1
     cases b2
     case false =>
      go_wp2_with fail
      refine (HK2.out _ HB9.out).mono ?_
      rintro e w10 ⟨rfl, hb10⟩
      have HB10 : Hid (Below w5.heap.size w5 w10) := HB9.out.trans (hb10.mono HB9.out.size)
      clear hb10 HK2 HK3 HTR
      go_wp2
      go_roundw
      case rel => exact ⟨i + 1, by omega, by go_num, HB10⟩
      case measure => simp [intOf]; omega
     case true =>
      obtain rfl : b3 = true := HTR.out (by first | rfl | trivial) (by first | rfl | trivial)
      go_wp2_with fail
      refine (HK2.out _ HB9.out).mono ?_
      rintro e w10 ⟨rfl, hb10⟩
      have HB10 : Hid (Below w5.heap.size w5 w10) := HB9.out.trans (hb10.mono HB9.out.size)
      clear hb10 HK2 HTR
      go_wp2_with fail
      refine (HK3.out _ HB10.out).mono ?_
      rintro e w11 ⟨rfl, hb11⟩
      have HB11 : Hid (Below w5.heap.size w5 w11) := HB10.out.trans (hb11.mono HB10.out.size)
      clear hb11 HK3
      go_wp2
      go_roundw
      case rel => exact ⟨i + 1, by omega, by go_num, HB11⟩
      case measure => simp [intOf]; omega
  ·have hiz : ¬ (i : Int) < (NZ : Int) := by omega
   have HX := Lib.hid (HX5.out.mono HB.out)
   have HBW : Hid (Below w.heap.size w wr) := HB5.out.trans (HB.out.mono HB5.out.size)
   obtain ⟨d0, d1, d2, d3⟩ := HX.out.1
   have zd := cell_lt d0
   have hcall := Check_p wr _ c HX.out.2.2 HX.out.2.1
   go_wp2_with fail
   refine hcall.mono ?_
   rintro e w6 ⟨rfl, hb6⟩
   have HB6 : Hid (Below w.heap.size w w6) := HBW.out.trans (hb6.mono HBW.out.size)
   have HX6 := Lib.hid (HX.out.mono hb6)
   clear hcall hb6 d0 d1 d2 d3 zd HX HBW HB HX5 HB5
   have HEXC : Hid (checkC c = 0 → ∀ x ∈ c.exceptions, isM c [⟨x.license, x.name⟩] [⟨x.license, eS⟩] = true) := fun h x hx => isM_exc h hx
   cases qc : (checkC c == 0)
   case' false =>
    have HBt := HB6
    have HXt := HX6
    obtain ⟨d0, d1, d2, d3⟩ := HXt.out.1
    have zd := cell_lt d0
    generalize checkC c = ck at *
    go_wp2_with fail
   case' true =>
    have HEX := Lib.hid (HEXC.out (by simpa using qc))
    obtain ⟨d0, d1, d2, d3⟩ := HX6.out.1
    have zd := cell_lt d0
    generalize checkC c = ck at *
    go_wp2
    clear d0 d1 d2 d3 zd
    go_loopw [113] (fun kv wr => ∃ k : Nat, k ≤ N1 ∧ kv = .int .i64 k ∧ Hid (Below w6.heap.size w6 wr)) (fun kv _ => N1 - (intOf kv).toNat)
    case atStart => exact ⟨0, by omega, rfl, Below.refl _ _⟩
    case' round =>
     obtain ⟨k, hk, rfl, HB⟩ := hrel
     have HX := Lib.hid (HX6.out.mono HB.out)
     have HBr : Hid (Below w.heap.size w wr) := HB6.out.trans (HB.out.mono HB6.out.size)
     by_cases hki : k < N1
     case pos =>
      have hkz : (k : Int) < (N1 : Int) := by omega
      have hk0 : (0 : Int) ≤ (k : Int) := by omega
      obtain ⟨x, hx⟩ := get_lt (xs := c.exceptions) (k := k) (by rw [HN1.out]; exact hki)
      obtain ⟨b9, o9, rfl, hb9, a9, c9, y0', y1', y2', s0, s1, -⟩ := Exc.at_row R1.out hx
      have hm := HEX.out x (List.mem_of_getElem? hx)
      have y0 := kept HBr.out y0'
      have y1 := kept HBr.out y1'
      have y2 := kept HBr.out y2'
      have hsy := cell_lt y0
      clear hx y0' y1' y2'
      generalize x.lifts.length = LL at *
      go_wp2_with fail
      obtain ⟨Wa, hWa⟩ : ∃ Wa, Wa = wr.alloc (.cells #[.string x.name, .string x.license, .slice a9 LL c9] 65) := ⟨_, rfl⟩
      have hza : Wa.heap.size = wr.heap.size + 1 := by rw [hWa]; simp
      have hba : Below wr.heap.size wr Wa := by rw [hWa]; exact (by first | ((repeat (first | exact Below.refl _ _ | assumption | refine Below.drewN ?_ _ | refine Below.drew ?_ | refine Below.alloc ?_ (by first | exact Nat.le_refl _ | (simp; done) | (simp; omega) | omega) _ | refine Below.setCell ?_ (by first | exact Nat.le_refl _ | (simp; done) | (simp; omega) | omega) _ | refine Below.trans ?_ (Below.mono (by assumption) (by first | exact Nat.le_refl _ | (simp; done) | (simp; omega) | omega)))); done) | fail)
      rw [← hWa]
      obtain ⟨Wb, hWb⟩ : ∃ Wb, Wb = Wa.alloc (.cells #[.string x.license, .string x.name] 67) := ⟨_, rfl⟩
      have h1 := (rowT_new Wa (t := ⟨x.license, x.name⟩) s1 s0).is
      have hzb : Wb.heap.size = wr.heap.size + 1 + 1 := by rw [hWb, World.size_alloc, hza]
      have hbb : Below Wa.heap.size Wa Wb := by rw [hWb]; exact (Below.refl _ _).alloc (Nat.le_refl _) _
      rw [← hWb, hza] at h1
      rw [← hWb]
      obtain ⟨Wc, hWc⟩ : ∃ Wc, Wc = Wb.alloc (.cells #[.string x.license, .string eS] 67) := ⟨_, rfl⟩
      have h2 := (rowT_new Wb (t := ⟨x.license, eS⟩) s1 (Nat.zero_le _)).is
      have hbc : Below Wb.heap.size Wb Wc := by rw [hWc]; exact (Below.refl _ _).alloc (Nat.le_refl _) _
      rw [← hWc, hzb] at h2
      have hww : Below wr.heap.size wr Wc := (hba.trans (hbb.mono hba.size)).trans (hbc.mono (by omega))
      have hcall := MilderC_p Wc w.heap.size c _ _ _ _ _ _ [⟨x.license, x.name⟩] [⟨x.license, eS⟩] (HX.out.mono hww) (h1.mono hbc) h2 (by simp) (by simp)
      rw [hm, hWc] at hcall
      have HBC : Hid (Below w6.heap.size w6 Wc) := HB.out.trans (hww.mono HB.out.size)
      refine hcall.mono ?_
      rintro e w7 ⟨rfl, hb7⟩
      rw [← hWc] at hb7
      have HB7 : Hid (Below w6.heap.size w6 w7) := HBC.out.trans (hb7.mono HBC.out.size)
      clear hcall hb7 HBC hww hbc hbb hba h1 h2 hWa hWb hWc hza hzb y0 y1 y2 hsy s0 s1 hm
      go_wp2
      go_roundw
      case rel => exact ⟨k + 1, by omega, by go_num, HB7⟩
      case measure => simp [intOf]; omega
     case' neg =>
      have hkz : ¬ (k : Int) < (N1 : Int) := by omega
      have HBt := HBr
      have HXt := HX
      obtain ⟨d0, d1, d2, d3⟩ := HXt.out.1
      have zd := cell_lt d0
      go_wp2_with fail
   all_goals
    have HE1 := Entails_p _ _ _ _ _ (HI.out.mono HBt.out) (HJ.out.mono HBt.out)
    have HEB : Hid ((entP xs ys).2 = 0 → (byP c xs ys).2 = 0 → (entP xs ys).1 = true → (byP c xs ys).1 = true) := ent_by
    have HBY := Lib.hid (fun W hb => EntailsBy_p W _ _ _ c xs ys (HXt.out.mono hb).2.2 (HXt.out.mono hb).2.1 ((HI.out.mono HBt.out).mono (w' := W) hb) ((HJ.out.mono HBt.out).mono hb))
    generalize entP xs ys = e1 at *
    generalize byP c xs ys = e2 at *
    obtain ⟨p1, p2⟩ := e1
    obtain ⟨g1, g2⟩ := e2
    simp only at HEB
    refine HE1.mono ?_
    clear HE1
    rintro e w7 ⟨rfl, hb7⟩
    have HB7 : Hid (Below w.heap.size w w7) := HBt.out.trans (hb7.mono HBt.out.size)
    have hby := HBY.out _ hb7
    have d0' := kept hb7 d0
    have d1' := kept hb7 d1
    have d2' := kept hb7 d2
    have d3' := kept hb7 d3
    have zd' := cell_lt d0'
    clear hb7 HBY d0 d1 d2 d3 zd
    go_wp2_with fail
    refine hby.mono ?_
    rintro e w8 ⟨rfl, hb8⟩
    have HB8 : Hid (Below w.heap.size w w8) := HB7.out.trans (hb8.mono HB7.out.size)
    clear hby hb8 d0' d1' d2' d3' zd'
    cases q1 : (p2 != 0)
    case true =>
     go_wp2
     go_ret
     exact ⟨rfl, HB8.out⟩
    cases q2 : (g2 != 0)
    case true =>
     go_wp2
     go_ret
     exact ⟨rfl, HB8.out⟩
    cases p1
    case false =>
     go_wp2
     go_ret
     exact ⟨rfl, HB8.out⟩
    obtain rfl : g1 = true := HEB.out (by simpa using q1) (by simpa using q2) rfl
    go_wp2
    go_ret
    exact ⟨rfl, HB8.out⟩
end Go.Proofs.YtoemmpfcnpdblaaGreatDoor
