/- The law: Entails, Separating and Check return what the definitions specify. -/
import Derived.Test.YtoemmpfcnpdblaaGreatDoorJAwU
import Derived.Test.YtoemmpfcnpdblaaGreatDoorJSepU
import Derived.Test.YtoemmpfcnpdblaaGreatDoorJDecU
set_option linter.all false
namespace Go.Proofs.YtoemmpfcnpdblaaGreatDoor
open Go Go.RowKit Go.ChangeShapes Go.Sort Go.Lib

theorem one_alt {w : World} {v : Value} {x : List Term} (e : TypeId) (h : Is w v x) {b : Nat} (hb : b = w.heap.size) : Is (w.alloc (.cells #[v] e)) (.slice (some ⟨b, 0, none⟩) 1 1) [x] := by
 subst hb
 have hba : Below w.heap.size w (w.alloc (.cells #[v] e)) := (Below.refl _ _).alloc (Nat.le_refl _) _
 refine list_mk (xs := [x]) (Nat.le_refl _) (by decide) fun i y hy => ⟨w.heap.size, 0, rfl, by simp, ?_⟩
 match i, hy with
 | 0, hy =>
  cases hy
  obtain ⟨a, c, rfl, l, m, r⟩ := list_inv h
  exact ⟨a, c, by simp, l, m, r.mono hba⟩
 | i + 1, hy => simp at hy
set_option maxRecDepth 100000 in
set_option maxHeartbeats 8000000 in
theorem EntailDecides_p (w : World) (v u z : Value) (xs ys : List (List Term)) (x : List Term) (hg : Glob w) (h : Is w v xs) (k : Is w u ys) (l : Is w z x) :
  Calls Tryz.prog 3 #[v, u, z] w fun e w' => e = .returned (.bool true) ∧ Below w.heap.size w w' := by
 have HI := Lib.hid h
 have HJ := Lib.hid k
 have HL := Lib.hid l
 have HA := Lib.hid (awakeF_p w hg)
 obtain ⟨a, c, rfl, hnc, hcm, hr⟩ := list_inv h
 simp only [maxLen] at hcm
 have HR := Lib.hid hr
 obtain ⟨b, d, rfl, -⟩ := list_inv k
 obtain ⟨a', c', rfl, -⟩ := list_inv l
 clear h k l hg hr
 generalize hN : xs.length = N at *
 have HN := Lib.hid hN
 clear hN
 generalize ys.length = M at *
 generalize x.length = L at *
 go_enter Tryz.func3, Tryz.ntmps3
 go_wp2_with fail
 refine HA.out.mono ?_
 rintro e w1 ⟨rfl, hb1⟩
 have HB1 := Lib.hid hb1
 clear hb1 HA
 go_wp2_with fail
 refine (FewA_ref w1 _ xs (HI.out.mono HB1.out)).mono ?_
 unfold FewO
 rintro e w2 ⟨f1, rfl, hb2, -⟩
 have HB2 : Hid (Below w.heap.size w w2) := HB1.out.trans (hb2.mono HB1.out.size)
 clear hb2 HB1
 cases f1
 case false =>
  go_wp2
  go_ret
  exact ⟨rfl, HB2.out⟩
 go_wp2_with fail
 refine (FewA_ref w2 _ ys (HJ.out.mono HB2.out)).mono ?_
 unfold FewO
 rintro e w3 ⟨f2, rfl, hb3, -⟩
 have HB3 : Hid (Below w.heap.size w w3) := HB2.out.trans (hb3.mono HB2.out.size)
 clear hb3 HB2
 cases f2
 case false =>
  go_wp2
  go_ret
  exact ⟨rfl, HB3.out⟩
 go_wp2_with fail
 refine (FewA_ref _ _ [x] (one_alt 24 (HL.out.mono HB3.out) rfl)).mono ?_
 unfold FewO
 rintro e w4 ⟨f3, rfl, hb4, -⟩
 have HB4 : Hid (Below w.heap.size w w4) := HB3.out.trans (((Below.refl w3.heap.size w3).alloc (Nat.le_refl _) _ |>.trans (hb4.mono (by simp))).mono HB3.out.size)
 clear hb4 HB3
 cases f3
 case false =>
  go_wp2
  go_ret
  exact ⟨rfl, HB4.out⟩
 have hcall := Entails_p w4 _ _ _ _ (HI.out.mono HB4.out) (HJ.out.mono HB4.out)
 have hcall2 := fun W hb => Entails_ref W _ _ _ _ ((HI.out.mono HB4.out).mono hb) ((HJ.out.mono HB4.out).mono (w' := W) hb)
 obtain ⟨e1, he1⟩ : ∃ e1, e1 = entP xs ys := ⟨_, rfl⟩
 rw [← he1] at hcall hcall2
 have HE1 := Lib.hid he1
 clear he1
 go_wp2_with fail
 refine hcall.mono ?_
 rintro e w5 ⟨rfl, hb5⟩
 have HB5 := Lib.hid hb5
 clear hcall hb5
 go_wp2_with fail
 refine (hcall2 _ HB5.out).mono ?_
 rintro e w6 ⟨rfl, hb6⟩
 have HB6 : Hid (Below w.heap.size w w6) := HB4.out.trans ((HB5.out.trans (hb6.mono HB5.out.size)).mono HB4.out.size)
 clear hcall2 hb6 HB4 HB5
 have hcall := CheckE_p w6 _ _ _ xs ys x (HI.out.mono HB6.out) (HJ.out.mono HB6.out) (HL.out.mono HB6.out)
 have hcall2 := fun W hb => Check34_ref W _ _ _ xs ys x ((HI.out.mono HB6.out).mono (w' := W) hb) ((HJ.out.mono HB6.out).mono hb) ((HL.out.mono HB6.out).mono hb)
 generalize chkP xs ys x = ck at *
 have q1 : (e1.1 != e1.1) = false := by simp
 have q2 : (e1.2 != e1.2) = false := by simp
 have q3 : (ck != ck) = false := by simp
 go_wp2_with fail
 refine hcall.mono ?_
 rintro e w7 ⟨rfl, hb7⟩
 have HB7 := Lib.hid hb7
 clear hcall hb7
 go_wp2_with fail
 refine (hcall2 _ HB7.out).mono ?_
 rintro e w8 ⟨rfl, hb8⟩
 have HB8 : Hid (Below w.heap.size w w8) := HB6.out.trans ((HB7.out.trans (hb8.mono HB7.out.size)).mono HB6.out.size)
 clear hcall2 hb8 HB6 HB7
 have hcall := Separating_p w8 _ _ _ _ (HI.out.mono HB8.out) (HJ.out.mono HB8.out)
 have HM := Lib.hid (fun W hb => Minimal34_ref W _ _ _ _ ((HI.out.mono HB8.out).mono hb) ((HJ.out.mono HB8.out).mono (w' := W) hb))
 obtain ⟨o, ho⟩ : ∃ o, o = sepO xs ys := ⟨_, rfl⟩
 obtain ⟨be, hbe⟩ : ∃ be, be = badE xs ys := ⟨_, rfl⟩
 rw [← ho, ← hbe] at hcall
 have HO := Lib.hid ho
 have HBE := Lib.hid hbe
 clear ho hbe
 go_wp2_with fail
 refine hcall.mono ?_
 unfold SepOut
 rintro e w9 ⟨v9, rfl, h9, hb9⟩
 have HB9' := Lib.hid hb9
 have HV := Lib.hid h9
 obtain ⟨av, cv, rfl, -⟩ := list_inv h9
 clear hcall hb9 h9 q1 q2 q3
 have hcallM := HM.out _ HB9'.out
 cases hbd : badP xs ys
 case true =>
  have h2 : o = none := by rw [HO.out]; unfold sepO; rw [hbd]; rfl
  have h3 : be = 1 := by rw [HBE.out]; unfold badE; rw [hbd]; rfl
  rw [hbd] at hcallM
  clear hbd HO HBE HV HM
  subst h2 h3
  go_wp2_with fail
  refine hcallM.mono ?_
  rintro e w10 ⟨rfl, hb10⟩
  have HB10 : Hid (Below w.heap.size w w10) := HB8.out.trans ((HB9'.out.trans (hb10.mono HB9'.out.size)).mono HB8.out.size)
  clear hcallM hb10
  go_wp2
  go_ret
  exact ⟨rfl, HB10.out⟩
 have h3 : be = 0 := by rw [HBE.out]; unfold badE; rw [hbd]; rfl
 have HO2 : Hid (o = xs.find? (sepB ys)) := by show _ = _; rw [HO.out]; unfold sepO; rw [hbd]; rfl
 rw [hbd] at hcallM
 clear hbd HO HBE HM
 subst h3
 go_wp2_with fail
 refine hcallM.mono ?_
 rintro e w10 ⟨rfl, hb10⟩
 have HB910 : Hid (Below w9.heap.size w9 w10) := hb10
 have HB10 : Hid (Below w.heap.size w w10) := HB8.out.trans ((HB9'.out.trans (hb10.mono HB9'.out.size)).mono HB8.out.size)
 clear hcallM hb10 HB9' HB8
 have hcall := Separating_ref w10 _ _ _ _ (HI.out.mono HB10.out) (HJ.out.mono HB10.out)
 rcases idxP_cases (sepB ys) xs with ⟨h1, h2⟩ | ⟨k, x2, hx2, h1, h2⟩
 ·rw [h2] at hcall
  obtain rfl : o = none := by rw [HO2.out, h1]
  clear h1 h2 HV
  go_wp2_with fail
  refine hcall.mono ?_
  rintro e w11 ⟨rfl, hb11⟩
  have HB11 : Hid (Below w.heap.size w w11) := HB10.out.trans (hb11.mono HB10.out.size)
  clear hcall hb11
  go_wp2
  go_ret
  exact ⟨rfl, HB11.out⟩
 ·rw [h2] at hcall
  obtain rfl : o = some x2 := by rw [HO2.out, h1]
  have hk0 : (0 : Int) ≤ (k : Int) := by omega
  have hkN : (k : Int) < (N : Int) := by have := lt_get hx2; rw [HN.out] at this; omega
  obtain ⟨bx, ox, rfl, hbx, ax, cx, x0', hx1, hx2', hx3⟩ := list_at HR.out hx2
  simp only [Option.getD_some, Option.isSome_some] at HV ⊢
  clear h1 h2 hx2
  go_wp2_with fail
  refine hcall.mono ?_
  rintro e w11 ⟨rfl, hb11⟩
  have HB11 : Hid (Below w.heap.size w w11) := HB10.out.trans (hb11.mono HB10.out.size)
  have x0 := kept HB11.out x0'
  have hsx := cell_lt x0
  have hcall3 := SameTerms_ref w11 (.slice av x2.length cv) (.slice ax x2.length cx) x2 x2 ((HV.out.mono HB910.out).mono hb11) (list_mk hx1 hx2' (hx3.mono HB11.out))
  rw [decide_eq_true (rfl : x2 = x2)] at hcall3
  clear hcall hb11 HV hx1 hx2' hx3 x0'
  generalize x2.length = LV at *
  go_wp2_with fail
  refine hcall3.mono ?_
  rintro e w12 ⟨rfl, hb12⟩
  have HB12 : Hid (Below w.heap.size w w12) := HB11.out.trans (hb12.mono HB11.out.size)
  clear hcall3 hb12
  go_wp2
  go_ret
  exact ⟨rfl, HB12.out⟩
end Go.Proofs.YtoemmpfcnpdblaaGreatDoor
