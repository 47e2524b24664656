/- The law: Clauses, Milder and EntailsBy return what the definitions specify. -/
import Derived.Test.YtoemmpfcnpdblaaGreatDoorJMilL
import Derived.Test.YtoemmpfcnpdblaaGreatDoorJByR
import Derived.Test.YtoemmpfcnpdblaaGreatDoorJSameU
set_option linter.all false
namespace Go.Proofs.YtoemmpfcnpdblaaGreatDoor
open Go Go.RowKit Go.ChangeShapes Go.Sort Go.Lib

set_option maxRecDepth 100000 in
set_option maxHeartbeats 16000000 in
theorem EntailStrict_p (w : World) (vc v u : Value) (c : Catalog) (xs ys : List (List Term)) (hg : Glob w) (hc : Is w vc c) (h : Is w v xs) (k : Is w u ys) :
  Calls Tryz.prog 5 #[vc, v, u] w fun e w' => e = .returned (.bool true) ∧ Below w.heap.size w w' := by
 have HI := Lib.hid h
 have HJ := Lib.hid k
 have HG := Lib.hid hg
 have HC := Lib.hid hc
 obtain ⟨a0, c0, a1, c1, a2, c2, a3, c3, rfl, l0, m0, r0, l1, m1, r1, l2, m2, r2, l3, m3, r3⟩ := Catalog.inv hc
 have R1 := Lib.hid r1
 have n1 : c.exceptions.length ≤ 9223372036854775807 := by simp only [maxLen] at m1; omega
 obtain ⟨a, c', rfl, hnx, hmx, hrx⟩ := list_inv h
 obtain ⟨b, d', rfl, hny, hmy, hry⟩ := list_inv k
 simp only [maxLen] at hmx hmy
 have HRX := Lib.hid hrx
 have HRY := Lib.hid hry
 clear hrx hry
 clear h k hg hc r0 r1 r2 r3 m0 m1 m2 m3 l0 l1 l2 l3
 generalize hN : xs.length = N at *
 generalize hM : ys.length = M at *
 have HNM := Lib.hid (And.intro hN hM)
 clear hN hM
 generalize c.licenses.length = N0 at *
 generalize hN1 : c.exceptions.length = N1 at *
 have HN1 := Lib.hid hN1
 clear hN1
 generalize c.clauses.length = N2 at *
 generalize c.apart.length = N3 at *
 go_enter Tryz.func5, Tryz.ntmps5
 go_wp2_with fail
 have HB0 : Hid (Below w.heap.size w (w.alloc (.cells #[.slice a0 N0 c0, .slice a1 N1 c1, .slice a2 N2 c2, .slice a3 N3 c3] 42))) := by show Below _ _ _; exact (by first | ((repeat (first | exact Below.refl _ _ | assumption | refine Below.drewN ?_ _ | refine Below.drew ?_ | refine Below.alloc ?_ (by first | exact Nat.le_refl _ | (simp; done) | (simp; omega) | omega) _ | refine Below.setCell ?_ (by first | exact Nat.le_refl _ | (simp; done) | (simp; omega) | omega) _ | refine Below.trans ?_ (Below.mono (by assumption) (by first | exact Nat.le_refl _ | (simp; done) | (simp; omega) | omega)))); done) | fail)
 have HX0 := Lib.hid (catB_new HC.out HG.out)
 refine (awakeF_p _ HX0.out.2.2).mono ?_
 rintro e w1 ⟨rfl, hb1⟩
 have HB1 : Hid (Below w.heap.size w w1) := HB0.out.trans (hb1.mono HB0.out.size)
 have HX1 := Lib.hid (HX0.out.mono hb1)
 obtain ⟨d0, d1, d2, d3⟩ := HX1.out.1
 have z1 := cell_lt d0
 clear hb1 HX0 HB0
 go_wp2_with fail
 refine (Few_ref w1 _ c HX1.out.2.1).mono ?_
 rintro e w2 ⟨fc, rfl, hb2⟩
 have HB2 : Hid (Below w.heap.size w w2) := HB1.out.trans (hb2.mono HB1.out.size)
 have HX2 := Lib.hid (HX1.out.mono hb2)
 clear hb2 HB1 HX1 d0 d1 d2 d3 z1
 cases fc
 case false =>
  go_wp2
  go_ret
  exact ⟨rfl, HB2.out⟩
 go_wp2_with fail
 refine (FewA_ref w2 _ xs (HI.out.mono HB2.out)).mono ?_
 unfold FewO
 rintro e w3 ⟨f1, rfl, hb3, few1⟩
 have HB3 : Hid (Below w.heap.size w w3) := HB2.out.trans (hb3.mono HB2.out.size)
 have HX3 := Lib.hid (HX2.out.mono hb3)
 clear hb3 HB2 HX2
 cases f1
 case false =>
  clear few1
  go_wp2
  go_ret
  exact ⟨rfl, HB3.out⟩
 have FX := Lib.hid (few1 rfl)
 clear few1
 go_wp2_with fail
 refine (FewA_ref w3 _ ys (HJ.out.mono HB3.out)).mono ?_
 unfold FewO
 rintro e w4 ⟨f2, rfl, hb4, few2⟩
 have HB4 : Hid (Below w.heap.size w w4) := HB3.out.trans (hb4.mono HB3.out.size)
 have HX4 := Lib.hid (HX3.out.mono hb4)
 clear hb4 HB3 HX3
 cases f2
 case false =>
  clear few2
  go_wp2
  go_ret
  exact ⟨rfl, HB4.out⟩
 have FY := Lib.hid (few2 rfl)
 clear few2
 by_cases t1 : (10 : Int) < (N : Int)
 ·go_wp2
  go_ret
  exact ⟨rfl, HB4.out⟩
 by_cases t2 : (10 : Int) < (M : Int)
 ·go_wp2
  go_ret
  exact ⟨rfl, HB4.out⟩
 have hba := EntailsBy_p w4 _ _ _ c xs ys HX4.out.2.2 HX4.out.2.1 (HI.out.mono HB4.out) (HJ.out.mono HB4.out)
 have hbb := fun W (hb : Below w4.heap.size w4 W) => EntailsBy34_ref W _ _ _ c xs ys (HX4.out.2.1.mono hb) ((HI.out.mono HB4.out).mono hb) ((HJ.out.mono HB4.out).mono hb)
 generalize byP c xs ys = bp at hba hbb
 have q1 : (bp.1 != bp.1) = false := by simp
 have q2 : (bp.2 != bp.2) = false := by simp
 obtain ⟨d0, d1, d2, d3⟩ := HX4.out.1
 have z4 := cell_lt d0
 go_wp2_with fail
 refine hba.mono ?_
 rintro e w5 ⟨rfl, hb5⟩
 have H5 := Lib.hid hb5
 have HX5 := Lib.hid (HX4.out.mono hb5)
 obtain ⟨d0, d1, d2, d3⟩ := HX5.out.1
 have z5 := cell_lt d0
 clear hba hb5
 go_wp2_with fail
 refine (hbb _ H5.out).mono ?_
 rintro e w6 ⟨rfl, hb6⟩
 have HX6 := Lib.hid (HX5.out.mono hb6)
 have HB6 : Hid (Below w.heap.size w w6) := HB4.out.trans ((H5.out.trans (hb6.mono H5.out.size)).mono HB4.out.size)
 clear hbb hb6 HX5 HX4 HB4 H5 d0 d1 d2 d3 z4 z5
 generalize bp.1 = b1 at *
 generalize bp.2 = b2 at *
 go_wp2
 have hm0 : min (N : Int) (M : Int) = ((min N M : Nat) : Int) := by omega
 go_loopw [11, 12, 13, 14, 15, 16, 17, 70] (fun _ _ _ _ _ _ _ kv wr => ∃ k : Nat, k ≤ min N M ∧ kv = .int .i64 k ∧ Hid (Below w6.heap.size w6 wr)) (fun _ _ _ _ _ _ _ kv _ => min N M - (intOf kv).toNat)
 case atStart => exact ⟨0, by omega, rfl, Lib.hid (Below.refl _ _)⟩
 case round =>
  obtain ⟨k, hk, rfl, HR⟩ := hrel
  have HBR : Hid (Below w.heap.size w wr) := HB6.out.trans (HR.out.mono HB6.out.size)
  by_cases hki : k < min N M
  case neg =>
   have hkz : ¬ (k : Int) < min (N : Int) (M : Int) := by omega
   go_wp2
   go_ret
   exact ⟨rfl, HBR.out⟩
  have hkz : (k : Int) < min (N : Int) (M : Int) := by omega
  have hkN : k < N := by omega
  have hkM : k < M := by omega
  have hkx : (k : Int) < (N : Int) := by omega
  have hky : (k : Int) < (M : Int) := by omega
  have hk0 : (0 : Int) ≤ (k : Int) := by omega
  obtain ⟨x, hx⟩ := get_lt (xs := xs) (k := k) (by rw [HNM.out.1]; exact hkN)
  obtain ⟨y, hy⟩ := get_lt (xs := ys) (k := k) (by rw [HNM.out.2]; exact hkM)
  obtain ⟨bx, ox, rfl, hbx, ax, cx, x0', l1, l2, l3⟩ := list_at HRX.out hx
  obtain ⟨by', oy, rfl, hby, ay, cy, y0', m1, m2, m3⟩ := list_at HRY.out hy
  have x0 := kept HBR.out x0'
  have y0 := kept HBR.out y0'
  have HXr := Lib.hid (HX6.out.mono HR.out)
  obtain ⟨f0, f1, f2, f3⟩ := HXr.out.1
  have hsf := cell_lt f0
  have hsx := cell_lt x0
  have hsy := cell_lt y0
  have hlx : x.length ≤ 1000000 := by have := FX.out.2 x (List.mem_of_getElem? hx); omega
  have hly : y.length ≤ 1000000 := by have := FY.out.2 y (List.mem_of_getElem? hy); omega
  have hIx : Is wr (.slice ax x.length cx) x := list_mk l1 l2 (l3.mono HBR.out)
  have hIy : Is wr (.slice ay y.length cy) y := list_mk m1 m2 (m3.mono HBR.out)
  have hcall1 := fun W (hb : Below wr.heap.size wr W) => ClausesE_p W _ _ c x (HXr.out.2.2.mono hb) (HXr.out.2.1.mono hb) (hIx.mono hb) hlx
  have hcall2 := fun W (hb : Below wr.heap.size wr W) => Clauses34_ref wr W _ _ c x HXr.out.2.1 hb (hIx.mono hb) hlx
  have hcall3 := fun W (hb : Below wr.heap.size wr W) => Milder_p W _ _ _ c x y (HXr.out.2.2.mono hb) (HXr.out.2.1.mono hb) (hIx.mono hb) (hIy.mono hb) hlx hly
  have hcall4 := fun W (hb : Below wr.heap.size wr W) => Milder34_ref W _ _ _ c x y (HXr.out.2.1.mono hb) (hIx.mono hb) (hIy.mono hb) hlx hly
  clear hx hy x0' y0' l1 l2 l3 m1 m2 m3 hIx hIy hlx hly hbx hby
  generalize clausesP c x = cp at hcall1 hcall2
  generalize mildP c x y = mp at hcall3 hcall4
  generalize x.length = XL at *
  generalize y.length = YL at *
  have HRF : Hid (Below wr.heap.size wr wr) := Lib.hid (Below.refl _ _)
  have q3 : (cp.2 != cp.2) = false := by simp
  have q4 : (mp.1 != mp.1) = false := by simp
  have q5 : (mp.2 != mp.2) = false := by simp
  go_wp2
  refine wp_region_held_drew (S := (fun w' : World => w'.cell? ⟨w.heap.size, 0, none⟩ = some (.slice a0 N0 c0) ∧ w'.cell? ⟨w.heap.size, 1, none⟩ = some (.slice a1 N1 c1) ∧ w'.cell? ⟨w.heap.size, 2, none⟩ = some (.slice a2 N2 c2) ∧ w'.cell? ⟨w.heap.size, 3, none⟩ = some (.slice a3 N3 c3) ∧ w'.cell? ⟨bx, ox + k, none⟩ = some (.slice ax XL cx))) (by kernel_rfl) (by exact ⟨f0, f1, f2, f3, x0⟩) (fun hH0 => ?_)
  refine wpAnyH_take (i := 0) (oi := _) (v := ?_) rfl (by kernel_rfl) (by kernel_rfl) (by kernel_rfl) (fun _ _ _ h => h) (Or.inl ⟨by kernel_rfl, ?_⟩) hH0 ?_
  rotate_left
  ·intro w hSw; (try dsimp only at hSw); go_simp
   all_goals with_reducible rfl
  try simp only [tkS, Act.put]
  refine wpAnyH_take (i := 1) (oi := _) (v := ?_) rfl (by kernel_rfl) (by kernel_rfl) (by kernel_rfl) (fun _ _ _ h => h) (Or.inl ⟨by kernel_rfl, ?_⟩) hH0 ?_
  rotate_left
  ·intro w hSw; (try dsimp only at hSw); go_simp
   all_goals with_reducible rfl
  try simp only [tkS, Act.put]
  refine wpAnyH_take (i := 2) (oi := _) (v := ?_) rfl (by kernel_rfl) (by kernel_rfl) (by kernel_rfl) (fun _ _ _ h => h) (Or.inl ⟨by kernel_rfl, ?_⟩) hH0 ?_
  rotate_left
  ·intro w hSw; (try dsimp only at hSw); go_simp
   all_goals with_reducible rfl
  try simp only [tkS, Act.put]
  refine wpAnyH_take (i := 3) (oi := _) (v := ?_) rfl (by kernel_rfl) (by kernel_rfl) (by kernel_rfl) (fun _ _ _ h => h) (Or.inl ⟨by kernel_rfl, ?_⟩) hH0 ?_
  rotate_left
  ·intro w hSw; (try dsimp only at hSw); go_simp
   all_goals with_reducible rfl
  try simp only [tkS, Act.put]
  refine wpAnyH_take (i := 4) (oi := _) (v := ?_) rfl (by kernel_rfl) (by kernel_rfl) (by kernel_rfl) (fun _ _ _ h => h) (Or.inl ⟨by kernel_rfl, ?_⟩) hH0 ?_
  rotate_left
  ·intro w hSw; (try dsimp only at hSw); go_simp
   all_goals with_reducible rfl
  try simp only [tkS, Act.put]
  refine wpAnyH_ready (rs := [5]) (by kernel_rfl) (by simp) ?_
  refine AllReadyH.cons (o := _) rfl (fun K hK => ?_) AllReadyH.nil
  go_simp
  go_at_call 28
  refine (hcall1 _ ((HRF.out.trans ((show Below wr.heap.size wr _ from (by first | ((repeat (first | exact Below.refl _ _ | assumption | refine Below.drewN ?_ _ | refine Below.drew ?_ | refine Below.alloc ?_ (by first | exact Nat.le_refl _ | (simp; done) | (simp; omega) | omega) _ | refine Below.setCell ?_ (by first | exact Nat.le_refl _ | (simp; done) | (simp; omega) | omega) _ | refine Below.trans ?_ (Below.mono (by assumption) (by first | exact Nat.le_refl _ | (simp; done) | (simp; omega) | omega)))); done) | fail)).mono HRF.out.size)))).mono ?_
  unfold ClO
  rintro e w7 ⟨v7, rfl, ho7, hb7⟩
  have hgo : Below wr.heap.size wr w7 := by exact (by first | ((repeat (first | exact Below.refl _ _ | assumption | refine Below.drewN ?_ _ | refine Below.drew ?_ | refine Below.alloc ?_ (by first | exact Nat.le_refl _ | (simp; done) | (simp; omega) | omega) _ | refine Below.setCell ?_ (by first | exact Nat.le_refl _ | (simp; done) | (simp; omega) | omega) _ | refine Below.trans ?_ (Below.mono (by assumption) (by first | exact Nat.le_refl _ | (simp; done) | (simp; omega) | omega)))); done) | fail)
  go_wp2_with fail
  refine hK.out _ _ ?_ (fun hH1 => ?_)
  ·exact ⟨kept hgo f0, kept hgo f1, kept hgo f2, kept hgo f3, kept hgo x0⟩
  try simp only [tkS, Act.put]
  clear hK K
  refine wpAnyH_take (i := 6) (oi := _) (v := ?_) rfl (by kernel_rfl) (by kernel_rfl) (by kernel_rfl) (fun _ _ _ h => h) (Or.inl ⟨by kernel_rfl, ?_⟩) hH1 ?_
  rotate_left
  ·intro w hSw; (try dsimp only at hSw); go_simp
   all_goals with_reducible rfl
  try simp only [tkS, Act.put]
  refine wpAnyH_take (i := 7) (oi := _) (v := ?_) rfl (by kernel_rfl) (by kernel_rfl) (by kernel_rfl) (fun _ _ _ h => h) (Or.inl ⟨by kernel_rfl, ?_⟩) hH1 ?_
  rotate_left
  ·intro w hSw; (try dsimp only at hSw); go_simp
   all_goals with_reducible rfl
  try simp only [tkS, Act.put]
  refine wpAnyH_take (i := 8) (oi := _) (v := ?_) rfl (by kernel_rfl) (by kernel_rfl) (by kernel_rfl) (fun _ _ _ h => h) (Or.inl ⟨by kernel_rfl, ?_⟩) hH1 ?_
  rotate_left
  ·intro w hSw; (try dsimp only at hSw); go_simp
   all_goals with_reducible rfl
  try simp only [tkS, Act.put]
  refine wpAnyH_take (i := 9) (oi := _) (v := ?_) rfl (by kernel_rfl) (by kernel_rfl) (by kernel_rfl) (fun _ _ _ h => h) (Or.inl ⟨by kernel_rfl, ?_⟩) hH1 ?_
  rotate_left
  ·intro w hSw; (try dsimp only at hSw); go_simp
   all_goals with_reducible rfl
  try simp only [tkS, Act.put]
  refine wpAnyH_take (i := 10) (oi := _) (v := ?_) rfl (by kernel_rfl) (by kernel_rfl) (by kernel_rfl) (fun _ _ _ h => h) (Or.inl ⟨by kernel_rfl, ?_⟩) hH1 ?_
  rotate_left
  ·intro w hSw; (try dsimp only at hSw); go_simp
   all_goals with_reducible rfl
  try simp only [tkS, Act.put]
  refine wpAnyH_done (by kernel_rfl) ?_ _
  have Gw7 := Lib.hid hgo
  have Hw7 : Hid (Below wr.heap.size wr w7) := HRF.out.trans (hgo.mono HRF.out.size)
  have f0 := kept hgo f0
  have f1 := kept hgo f1
  have f2 := kept hgo f2
  have f3 := kept hgo f3
  have x0 := kept hgo x0
  have y0 := kept hgo y0
  have hsf := cell_lt f0
  have hsx := cell_lt x0
  have hsy := cell_lt y0
  clear hgo hH0 hH1
  have HO7 := Lib.hid ho7.is
  clear ho7 hcall1
  go_wp2
  refine wp_region_held_drew (S := (fun w' : World => w'.cell? ⟨w.heap.size, 0, none⟩ = some (.slice a0 N0 c0) ∧ w'.cell? ⟨w.heap.size, 1, none⟩ = some (.slice a1 N1 c1) ∧ w'.cell? ⟨w.heap.size, 2, none⟩ = some (.slice a2 N2 c2) ∧ w'.cell? ⟨w.heap.size, 3, none⟩ = some (.slice a3 N3 c3) ∧ w'.cell? ⟨bx, ox + k, none⟩ = some (.slice ax XL cx))) (by kernel_rfl) (by exact ⟨f0, f1, f2, f3, x0⟩) (fun hH0 => ?_)
  refine wpAnyH_take (i := 0) (oi := _) (v := ?_) rfl (by kernel_rfl) (by kernel_rfl) (by kernel_rfl) (fun _ _ _ h => h) (Or.inl ⟨by kernel_rfl, ?_⟩) hH0 ?_
  rotate_left
  ·intro w hSw; (try dsimp only at hSw); go_simp
   all_goals with_reducible rfl
  try simp only [tkS, Act.put]
  refine wpAnyH_take (i := 1) (oi := _) (v := ?_) rfl (by kernel_rfl) (by kernel_rfl) (by kernel_rfl) (fun _ _ _ h => h) (Or.inl ⟨by kernel_rfl, ?_⟩) hH0 ?_
  rotate_left
  ·intro w hSw; (try dsimp only at hSw); go_simp
   all_goals with_reducible rfl
  try simp only [tkS, Act.put]
  refine wpAnyH_take (i := 2) (oi := _) (v := ?_) rfl (by kernel_rfl) (by kernel_rfl) (by kernel_rfl) (fun _ _ _ h => h) (Or.inl ⟨by kernel_rfl, ?_⟩) hH0 ?_
  rotate_left
  ·intro w hSw; (try dsimp only at hSw); go_simp
   all_goals with_reducible rfl
  try simp only [tkS, Act.put]
  refine wpAnyH_take (i := 3) (oi := _) (v := ?_) rfl (by kernel_rfl) (by kernel_rfl) (by kernel_rfl) (fun _ _ _ h => h) (Or.inl ⟨by kernel_rfl, ?_⟩) hH0 ?_
  rotate_left
  ·intro w hSw; (try dsimp only at hSw); go_simp
   all_goals with_reducible rfl
  try simp only [tkS, Act.put]
  refine wpAnyH_take (i := 4) (oi := _) (v := ?_) rfl (by kernel_rfl) (by kernel_rfl) (by kernel_rfl) (fun _ _ _ h => h) (Or.inl ⟨by kernel_rfl, ?_⟩) hH0 ?_
  rotate_left
  ·intro w hSw; (try dsimp only at hSw); go_simp
   all_goals with_reducible rfl
  try simp only [tkS, Act.put]
  refine wpAnyH_ready (rs := [5]) (by kernel_rfl) (by simp) ?_
  refine AllReadyH.cons (o := _) rfl (fun K hK => ?_) AllReadyH.nil
  go_simp
  go_at_call 29
  refine (hcall2 _ ((Hw7.out.trans ((show Below w7.heap.size w7 _ from (by first | ((repeat (first | exact Below.refl _ _ | assumption | refine Below.drewN ?_ _ | refine Below.drew ?_ | refine Below.alloc ?_ (by first | exact Nat.le_refl _ | (simp; done) | (simp; omega) | omega) _ | refine Below.setCell ?_ (by first | exact Nat.le_refl _ | (simp; done) | (simp; omega) | omega) _ | refine Below.trans ?_ (Below.mono (by assumption) (by first | exact Nat.le_refl _ | (simp; done) | (simp; omega) | omega)))); done) | fail)).mono Hw7.out.size)))).mono ?_
  unfold ClW
  rintro e w8 ⟨v8, rfl, ho8, hb8⟩
  have hgo : Below w7.heap.size w7 w8 := by exact (by first | ((repeat (first | exact Below.refl _ _ | assumption | refine Below.drewN ?_ _ | refine Below.drew ?_ | refine Below.alloc ?_ (by first | exact Nat.le_refl _ | (simp; done) | (simp; omega) | omega) _ | refine Below.setCell ?_ (by first | exact Nat.le_refl _ | (simp; done) | (simp; omega) | omega) _ | refine Below.trans ?_ (Below.mono (by assumption) (by first | exact Nat.le_refl _ | (simp; done) | (simp; omega) | omega)))); done) | fail)
  go_wp2_with fail
  refine hK.out _ _ ?_ (fun hH1 => ?_)
  ·exact ⟨kept hgo f0, kept hgo f1, kept hgo f2, kept hgo f3, kept hgo x0⟩
  try simp only [tkS, Act.put]
  clear hK K
  refine wpAnyH_take (i := 6) (oi := _) (v := ?_) rfl (by kernel_rfl) (by kernel_rfl) (by kernel_rfl) (fun _ _ _ h => h) (Or.inl ⟨by kernel_rfl, ?_⟩) hH1 ?_
  rotate_left
  ·intro w hSw; (try dsimp only at hSw); go_simp
   all_goals with_reducible rfl
  try simp only [tkS, Act.put]
  refine wpAnyH_take (i := 7) (oi := _) (v := ?_) rfl (by kernel_rfl) (by kernel_rfl) (by kernel_rfl) (fun _ _ _ h => h) (Or.inl ⟨by kernel_rfl, ?_⟩) hH1 ?_
  rotate_left
  ·intro w hSw; (try dsimp only at hSw); go_simp
   all_goals with_reducible rfl
  try simp only [tkS, Act.put]
  refine wpAnyH_take (i := 8) (oi := _) (v := ?_) rfl (by kernel_rfl) (by kernel_rfl) (by kernel_rfl) (fun _ _ _ h => h) (Or.inl ⟨by kernel_rfl, ?_⟩) hH1 ?_
  rotate_left
  ·intro w hSw; (try dsimp only at hSw); go_simp
   all_goals with_reducible rfl
  try simp only [tkS, Act.put]
  refine wpAnyH_take (i := 9) (oi := _) (v := ?_) rfl (by kernel_rfl) (by kernel_rfl) (by kernel_rfl) (fun _ _ _ h => h) (Or.inl ⟨by kernel_rfl, ?_⟩) hH1 ?_
  rotate_left
  ·intro w hSw; (try dsimp only at hSw); go_simp
   all_goals with_reducible rfl
  try simp only [tkS, Act.put]
  refine wpAnyH_take (i := 10) (oi := _) (v := ?_) rfl (by kernel_rfl) (by kernel_rfl) (by kernel_rfl) (fun _ _ _ h => h) (Or.inl ⟨by kernel_rfl, ?_⟩) hH1 ?_
  rotate_left
  ·intro w hSw; (try dsimp only at hSw); go_simp
   all_goals with_reducible rfl
  try simp only [tkS, Act.put]
  refine wpAnyH_done (by kernel_rfl) ?_ _
  have Gw8 := Lib.hid hgo
  have Hw8 : Hid (Below wr.heap.size wr w8) := Hw7.out.trans (hgo.mono Hw7.out.size)
  have f0 := kept hgo f0
  have f1 := kept hgo f1
  have f2 := kept hgo f2
  have f3 := kept hgo f3
  have x0 := kept hgo x0
  have y0 := kept hgo y0
  have hsf := cell_lt f0
  have hsx := cell_lt x0
  have hsy := cell_lt y0
  clear hgo hH0 hH1
  have hsame := SameClauses_ref w8 v7 v8 cp.1 cp.1 (HO7.out.mono Gw8.out) ho8.is
  rw [decide_eq_true rfl] at hsame
  obtain ⟨a7, c7, rfl, -⟩ := list_inv HO7.out
  obtain ⟨a8, c8, rfl, -⟩ := list_inv ho8.is
  clear ho8 hcall2 HO7
  go_wp2_with fail
  refine hsame.mono ?_
  rintro e w9 ⟨rfl, hb9⟩
  have HW9 : Hid (Below wr.heap.size wr w9) := Hw8.out.trans (hb9.mono Hw8.out.size)
  have f0 := kept hb9 f0
  have f1 := kept hb9 f1
  have f2 := kept hb9 f2
  have f3 := kept hb9 f3
  have x0 := kept hb9 x0
  have y0 := kept hb9 y0
  have hsf := cell_lt f0
  have hsx := cell_lt x0
  have hsy := cell_lt y0
  clear hsame hb9 hb8 hb7
  go_wp2
  refine wp_region_held_drew (S := (fun w' : World => w'.cell? ⟨w.heap.size, 0, none⟩ = some (.slice a0 N0 c0) ∧ w'.cell? ⟨w.heap.size, 1, none⟩ = some (.slice a1 N1 c1) ∧ w'.cell? ⟨w.heap.size, 2, none⟩ = some (.slice a2 N2 c2) ∧ w'.cell? ⟨w.heap.size, 3, none⟩ = some (.slice a3 N3 c3) ∧ w'.cell? ⟨bx, ox + k, none⟩ = some (.slice ax XL cx) ∧ w'.cell? ⟨by', oy + k, none⟩ = some (.slice ay YL cy))) (by kernel_rfl) (by exact ⟨f0, f1, f2, f3, x0, y0⟩) (fun hH0 => ?_)
  refine wpAnyH_take (i := 0) (oi := _) (v := ?_) rfl (by kernel_rfl) (by kernel_rfl) (by kernel_rfl) (fun _ _ _ h => h) (Or.inl ⟨by kernel_rfl, ?_⟩) hH0 ?_
  rotate_left
  ·intro w hSw; (try dsimp only at hSw); go_simp
   all_goals with_reducible rfl
  try simp only [tkS, Act.put]
  refine wpAnyH_take (i := 1) (oi := _) (v := ?_) rfl (by kernel_rfl) (by kernel_rfl) (by kernel_rfl) (fun _ _ _ h => h) (Or.inl ⟨by kernel_rfl, ?_⟩) hH0 ?_
  rotate_left
  ·intro w hSw; (try dsimp only at hSw); go_simp
   all_goals with_reducible rfl
  try simp only [tkS, Act.put]
  refine wpAnyH_take (i := 2) (oi := _) (v := ?_) rfl (by kernel_rfl) (by kernel_rfl) (by kernel_rfl) (fun _ _ _ h => h) (Or.inl ⟨by kernel_rfl, ?_⟩) hH0 ?_
  rotate_left
  ·intro w hSw; (try dsimp only at hSw); go_simp
   all_goals with_reducible rfl
  try simp only [tkS, Act.put]
  refine wpAnyH_take (i := 3) (oi := _) (v := ?_) rfl (by kernel_rfl) (by kernel_rfl) (by kernel_rfl) (fun _ _ _ h => h) (Or.inl ⟨by kernel_rfl, ?_⟩) hH0 ?_
  rotate_left
  ·intro w hSw; (try dsimp only at hSw); go_simp
   all_goals with_reducible rfl
  try simp only [tkS, Act.put]
  refine wpAnyH_take (i := 4) (oi := _) (v := ?_) rfl (by kernel_rfl) (by kernel_rfl) (by kernel_rfl) (fun _ _ _ h => h) (Or.inl ⟨by kernel_rfl, ?_⟩) hH0 ?_
  rotate_left
  ·intro w hSw; (try dsimp only at hSw); go_simp
   all_goals with_reducible rfl
  try simp only [tkS, Act.put]
  refine wpAnyH_take (i := 5) (oi := _) (v := ?_) rfl (by kernel_rfl) (by kernel_rfl) (by kernel_rfl) (fun _ _ _ h => h) (Or.inl ⟨by kernel_rfl, ?_⟩) hH0 ?_
  rotate_left
  ·intro w hSw; (try dsimp only at hSw); go_simp
   all_goals with_reducible rfl
  try simp only [tkS, Act.put]
  refine wpAnyH_take (i := 6) (oi := _) (v := ?_) rfl (by kernel_rfl) (by kernel_rfl) (by kernel_rfl) (fun _ _ _ h => h) (Or.inl ⟨by kernel_rfl, ?_⟩) hH0 ?_
  rotate_left
  ·intro w hSw; (try dsimp only at hSw); go_simp
   all_goals with_reducible rfl
  try simp only [tkS, Act.put]
  refine wpAnyH_take (i := 7) (oi := _) (v := ?_) rfl (by kernel_rfl) (by kernel_rfl) (by kernel_rfl) (fun _ _ _ h => h) (Or.inl ⟨by kernel_rfl, ?_⟩) hH0 ?_
  rotate_left
  ·intro w hSw; (try dsimp only at hSw); go_simp
   all_goals with_reducible rfl
  try simp only [tkS, Act.put]
  refine wpAnyH_take (i := 8) (oi := _) (v := ?_) rfl (by kernel_rfl) (by kernel_rfl) (by kernel_rfl) (fun _ _ _ h => h) (Or.inl ⟨by kernel_rfl, ?_⟩) hH0 ?_
  rotate_left
  ·intro w hSw; (try dsimp only at hSw); go_simp
   all_goals with_reducible rfl
  try simp only [tkS, Act.put]
  refine wpAnyH_ready (rs := [9]) (by kernel_rfl) (by simp) ?_
  refine AllReadyH.cons (o := _) rfl (fun K hK => ?_) AllReadyH.nil
  go_simp
  go_at_call 31
  refine (hcall3 _ ((HW9.out.trans ((show Below w9.heap.size w9 _ from (by first | ((repeat (first | exact Below.refl _ _ | assumption | refine Below.drewN ?_ _ | refine Below.drew ?_ | refine Below.alloc ?_ (by first | exact Nat.le_refl _ | (simp; done) | (simp; omega) | omega) _ | refine Below.setCell ?_ (by first | exact Nat.le_refl _ | (simp; done) | (simp; omega) | omega) _ | refine Below.trans ?_ (Below.mono (by assumption) (by first | exact Nat.le_refl _ | (simp; done) | (simp; omega) | omega)))); done) | fail)).mono HW9.out.size)))).mono ?_
  rintro e w10 ⟨rfl, hb10⟩
  have hgo : Below w9.heap.size w9 w10 := by exact (by first | ((repeat (first | exact Below.refl _ _ | assumption | refine Below.drewN ?_ _ | refine Below.drew ?_ | refine Below.alloc ?_ (by first | exact Nat.le_refl _ | (simp; done) | (simp; omega) | omega) _ | refine Below.setCell ?_ (by first | exact Nat.le_refl _ | (simp; done) | (simp; omega) | omega) _ | refine Below.trans ?_ (Below.mono (by assumption) (by first | exact Nat.le_refl _ | (simp; done) | (simp; omega) | omega)))); done) | fail)
  go_wp2_with fail
  refine hK.out _ _ ?_ (fun hH1 => ?_)
  ·exact ⟨kept hgo f0, kept hgo f1, kept hgo f2, kept hgo f3, kept hgo x0, kept hgo y0⟩
  try simp only [tkS, Act.put]
  clear hK K
  refine wpAnyH_take (i := 10) (oi := _) (v := ?_) rfl (by kernel_rfl) (by kernel_rfl) (by kernel_rfl) (fun _ _ _ h => h) (Or.inl ⟨by kernel_rfl, ?_⟩) hH1 ?_
  rotate_left
  ·intro w hSw; (try dsimp only at hSw); go_simp
   all_goals with_reducible rfl
  try simp only [tkS, Act.put]
  refine wpAnyH_take (i := 11) (oi := _) (v := ?_) rfl (by kernel_rfl) (by kernel_rfl) (by kernel_rfl) (fun _ _ _ h => h) (Or.inl ⟨by kernel_rfl, ?_⟩) hH1 ?_
  rotate_left
  ·intro w hSw; (try dsimp only at hSw); go_simp
   all_goals with_reducible rfl
  try simp only [tkS, Act.put]
  refine wpAnyH_take (i := 12) (oi := _) (v := ?_) rfl (by kernel_rfl) (by kernel_rfl) (by kernel_rfl) (fun _ _ _ h => h) (Or.inl ⟨by kernel_rfl, ?_⟩) hH1 ?_
  rotate_left
  ·intro w hSw; (try dsimp only at hSw); go_simp
   all_goals with_reducible rfl
  try simp only [tkS, Act.put]
  refine wpAnyH_take (i := 13) (oi := _) (v := ?_) rfl (by kernel_rfl) (by kernel_rfl) (by kernel_rfl) (fun _ _ _ h => h) (Or.inl ⟨by kernel_rfl, ?_⟩) hH1 ?_
  rotate_left
  ·intro w hSw; (try dsimp only at hSw); go_simp
   all_goals with_reducible rfl
  try simp only [tkS, Act.put]
  refine wpAnyH_take (i := 14) (oi := _) (v := ?_) rfl (by kernel_rfl) (by kernel_rfl) (by kernel_rfl) (fun _ _ _ h => h) (Or.inl ⟨by kernel_rfl, ?_⟩) hH1 ?_
  rotate_left
  ·intro w hSw; (try dsimp only at hSw); go_simp
   all_goals with_reducible rfl
  try simp only [tkS, Act.put]
  refine wpAnyH_done (by kernel_rfl) ?_ _
  have Gw10 := Lib.hid hgo
  have Hw10 : Hid (Below wr.heap.size wr w10) := HW9.out.trans (hgo.mono HW9.out.size)
  have f0 := kept hgo f0
  have f1 := kept hgo f1
  have f2 := kept hgo f2
  have f3 := kept hgo f3
  have x0 := kept hgo x0
  have y0 := kept hgo y0
  have hsf := cell_lt f0
  have hsx := cell_lt x0
  have hsy := cell_lt y0
  clear hgo hH0 hH1
  clear hcall3
  go_wp2
  refine wp_region_held_drew (S := (fun w' : World => w'.cell? ⟨w.heap.size, 0, none⟩ = some (.slice a0 N0 c0) ∧ w'.cell? ⟨w.heap.size, 1, none⟩ = some (.slice a1 N1 c1) ∧ w'.cell? ⟨w.heap.size, 2, none⟩ = some (.slice a2 N2 c2) ∧ w'.cell? ⟨w.heap.size, 3, none⟩ = some (.slice a3 N3 c3) ∧ w'.cell? ⟨bx, ox + k, none⟩ = some (.slice ax XL cx) ∧ w'.cell? ⟨by', oy + k, none⟩ = some (.slice ay YL cy))) (by kernel_rfl) (by exact ⟨f0, f1, f2, f3, x0, y0⟩) (fun hH0 => ?_)
  refine wpAnyH_take (i := 0) (oi := _) (v := ?_) rfl (by kernel_rfl) (by kernel_rfl) (by kernel_rfl) (fun _ _ _ h => h) (Or.inl ⟨by kernel_rfl, ?_⟩) hH0 ?_
  rotate_left
  ·intro w hSw; (try dsimp only at hSw); go_simp
   all_goals with_reducible rfl
  try simp only [tkS, Act.put]
  refine wpAnyH_take (i := 1) (oi := _) (v := ?_) rfl (by kernel_rfl) (by kernel_rfl) (by kernel_rfl) (fun _ _ _ h => h) (Or.inl ⟨by kernel_rfl, ?_⟩) hH0 ?_
  rotate_left
  ·intro w hSw; (try dsimp only at hSw); go_simp
   all_goals with_reducible rfl
  try simp only [tkS, Act.put]
  refine wpAnyH_take (i := 2) (oi := _) (v := ?_) rfl (by kernel_rfl) (by kernel_rfl) (by kernel_rfl) (fun _ _ _ h => h) (Or.inl ⟨by kernel_rfl, ?_⟩) hH0 ?_
  rotate_left
  ·intro w hSw; (try dsimp only at hSw); go_simp
   all_goals with_reducible rfl
  try simp only [tkS, Act.put]
  refine wpAnyH_take (i := 3) (oi := _) (v := ?_) rfl (by kernel_rfl) (by kernel_rfl) (by kernel_rfl) (fun _ _ _ h => h) (Or.inl ⟨by kernel_rfl, ?_⟩) hH0 ?_
  rotate_left
  ·intro w hSw; (try dsimp only at hSw); go_simp
   all_goals with_reducible rfl
  try simp only [tkS, Act.put]
  refine wpAnyH_take (i := 4) (oi := _) (v := ?_) rfl (by kernel_rfl) (by kernel_rfl) (by kernel_rfl) (fun _ _ _ h => h) (Or.inl ⟨by kernel_rfl, ?_⟩) hH0 ?_
  rotate_left
  ·intro w hSw; (try dsimp only at hSw); go_simp
   all_goals with_reducible rfl
  try simp only [tkS, Act.put]
  refine wpAnyH_take (i := 5) (oi := _) (v := ?_) rfl (by kernel_rfl) (by kernel_rfl) (by kernel_rfl) (fun _ _ _ h => h) (Or.inl ⟨by kernel_rfl, ?_⟩) hH0 ?_
  rotate_left
  ·intro w hSw; (try dsimp only at hSw); go_simp
   all_goals with_reducible rfl
  try simp only [tkS, Act.put]
  refine wpAnyH_take (i := 6) (oi := _) (v := ?_) rfl (by kernel_rfl) (by kernel_rfl) (by kernel_rfl) (fun _ _ _ h => h) (Or.inl ⟨by kernel_rfl, ?_⟩) hH0 ?_
  rotate_left
  ·intro w hSw; (try dsimp only at hSw); go_simp
   all_goals with_reducible rfl
  try simp only [tkS, Act.put]
  refine wpAnyH_take (i := 7) (oi := _) (v := ?_) rfl (by kernel_rfl) (by kernel_rfl) (by kernel_rfl) (fun _ _ _ h => h) (Or.inl ⟨by kernel_rfl, ?_⟩) hH0 ?_
  rotate_left
  ·intro w hSw; (try dsimp only at hSw); go_simp
   all_goals with_reducible rfl
  try simp only [tkS, Act.put]
  refine wpAnyH_take (i := 8) (oi := _) (v := ?_) rfl (by kernel_rfl) (by kernel_rfl) (by kernel_rfl) (fun _ _ _ h => h) (Or.inl ⟨by kernel_rfl, ?_⟩) hH0 ?_
  rotate_left
  ·intro w hSw; (try dsimp only at hSw); go_simp
   all_goals with_reducible rfl
  try simp only [tkS, Act.put]
  refine wpAnyH_ready (rs := [9]) (by kernel_rfl) (by simp) ?_
  refine AllReadyH.cons (o := _) rfl (fun K hK => ?_) AllReadyH.nil
  go_simp
  go_at_call 32
  refine (hcall4 _ ((Hw10.out.trans ((show Below w10.heap.size w10 _ from (by first | ((repeat (first | exact Below.refl _ _ | assumption | refine Below.drewN ?_ _ | refine Below.drew ?_ | refine Below.alloc ?_ (by first | exact Nat.le_refl _ | (simp; done) | (simp; omega) | omega) _ | refine Below.setCell ?_ (by first | exact Nat.le_refl _ | (simp; done) | (simp; omega) | omega) _ | refine Below.trans ?_ (Below.mono (by assumption) (by first | exact Nat.le_refl _ | (simp; done) | (simp; omega) | omega)))); done) | fail)).mono Hw10.out.size)))).mono ?_
  rintro e w11 ⟨rfl, hb11⟩
  have hgo : Below w10.heap.size w10 w11 := by exact (by first | ((repeat (first | exact Below.refl _ _ | assumption | refine Below.drewN ?_ _ | refine Below.drew ?_ | refine Below.alloc ?_ (by first | exact Nat.le_refl _ | (simp; done) | (simp; omega) | omega) _ | refine Below.setCell ?_ (by first | exact Nat.le_refl _ | (simp; done) | (simp; omega) | omega) _ | refine Below.trans ?_ (Below.mono (by assumption) (by first | exact Nat.le_refl _ | (simp; done) | (simp; omega) | omega)))); done) | fail)
  go_wp2_with fail
  refine hK.out _ _ ?_ (fun hH1 => ?_)
  ·exact ⟨kept hgo f0, kept hgo f1, kept hgo f2, kept hgo f3, kept hgo x0, kept hgo y0⟩
  try simp only [tkS, Act.put]
  clear hK K
  refine wpAnyH_take (i := 10) (oi := _) (v := ?_) rfl (by kernel_rfl) (by kernel_rfl) (by kernel_rfl) (fun _ _ _ h => h) (Or.inl ⟨by kernel_rfl, ?_⟩) hH1 ?_
  rotate_left
  ·intro w hSw; (try dsimp only at hSw); go_simp
   all_goals with_reducible rfl
  try simp only [tkS, Act.put]
  refine wpAnyH_take (i := 11) (oi := _) (v := ?_) rfl (by kernel_rfl) (by kernel_rfl) (by kernel_rfl) (fun _ _ _ h => h) (Or.inl ⟨by kernel_rfl, ?_⟩) hH1 ?_
  rotate_left
  ·intro w hSw; (try dsimp only at hSw); go_simp
   all_goals with_reducible rfl
  try simp only [tkS, Act.put]
  refine wpAnyH_take (i := 12) (oi := _) (v := ?_) rfl (by kernel_rfl) (by kernel_rfl) (by kernel_rfl) (fun _ _ _ h => h) (Or.inl ⟨by kernel_rfl, ?_⟩) hH1 ?_
  rotate_left
  ·intro w hSw; (try dsimp only at hSw); go_simp
   all_goals with_reducible rfl
  try simp only [tkS, Act.put]
  refine wpAnyH_take (i := 13) (oi := _) (v := ?_) rfl (by kernel_rfl) (by kernel_rfl) (by kernel_rfl) (fun _ _ _ h => h) (Or.inl ⟨by kernel_rfl, ?_⟩) hH1 ?_
  rotate_left
  ·intro w hSw; (try dsimp only at hSw); go_simp
   all_goals with_reducible rfl
  try simp only [tkS, Act.put]
  refine wpAnyH_take (i := 14) (oi := _) (v := ?_) rfl (by kernel_rfl) (by kernel_rfl) (by kernel_rfl) (fun _ _ _ h => h) (Or.inl ⟨by kernel_rfl, ?_⟩) hH1 ?_
  rotate_left
  ·intro w hSw; (try dsimp only at hSw); go_simp
   all_goals with_reducible rfl
  try simp only [tkS, Act.put]
  refine wpAnyH_done (by kernel_rfl) ?_ _
  have Gw11 := Lib.hid hgo
  have Hw11 : Hid (Below wr.heap.size wr w11) := Hw10.out.trans (hgo.mono Hw10.out.size)
  have f0 := kept hgo f0
  have f1 := kept hgo f1
  have f2 := kept hgo f2
  have f3 := kept hgo f3
  have x0 := kept hgo x0
  have y0 := kept hgo y0
  have hsf := cell_lt f0
  have hsx := cell_lt x0
  have hsy := cell_lt y0
  clear hgo hH0 hH1
  clear hcall4
  have HRN : Hid (Below w6.heap.size w6 w11) := HR.out.trans (Hw11.out.mono HR.out.size)
  go_wp2
  go_roundw
  case rel =>
   first
   | exact ⟨k + 1, by omega, by go_num, HRN⟩
   | exact ⟨_, _, _, _, _, _, _, _, _, ⟨k + 1, by omega, by go_num, HRN⟩, rfl, rfl, rfl, rfl, rfl, rfl, rfl, rfl, rfl⟩
   | exact ⟨_, _, _, _, _, _, _, _, _, ⟨k + 1, by omega, by go_num⟩, rfl, rfl, rfl, rfl, rfl, rfl, rfl, rfl, rfl⟩
  case measure => simp [intOf]; omega
end Go.Proofs.YtoemmpfcnpdblaaGreatDoor
