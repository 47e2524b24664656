/- The law: what Minimal does. -/
import Derived.Test.YtaaobpicaaeiiaaGreatDoorJCompU
import Derived.Test.YtaaobpicaaeiiaaGreatDoorJFewA
import Derived.Test.YtaaobpicaaeiiaaGreatDoorJR33U
import Derived.Test.YtaaobpicaaeiiaaGreatDoorJAwG
import Derived.Test.YtaaobpicaaeiiaaGreatDoorJLatL
set_option linter.all false
namespace Go.Proofs.YtaaobpicaaeiiaaGreatDoor
open Go Go.RowKit Go.ChangeShapes Go.Sort Go.Lib

set_option maxRecDepth 100000 in
set_option maxHeartbeats 1000000 in
theorem MinLaw1_p (w : World) (g : Nat) (v1 v2 : Value) (xs ys : List Term) (hc : w.cell? ⟨g, 0, none⟩ = some v1) (h1 : Is w v1 xs) (h2 : Is w v2 ys) :
  Calls Tryz.prog 28 #[v2, .pointer (some ⟨g, 0, none⟩)] w fun e w' => e = .returned (.bool (conA xs ys && conA ys xs)) ∧ Below w.heap.size w w' := by
 have hg := cell_lt hc
 have HC := Lib.hid hc
 have HF := Contains_p w v1 v2 xs ys h1 h2
 have HK := Lib.hid (fun W hb => Contains_p W v2 v1 ys xs (h2.mono (w' := W) hb) (h1.mono hb))
 obtain ⟨a, c, rfl, -⟩ := list_inv h1
 obtain ⟨b, d, rfl, -⟩ := list_inv h2
 clear h1 h2
 generalize conA xs ys = r at *
 generalize conA ys xs = s at *
 generalize xs.length = N at *
 generalize ys.length = M at *
 go_enter Tryz.func28, Tryz.ntmps28
 go_wp2_with fail
 refine HF.mono ?_
 rintro e w1 ⟨rfl, hb⟩
 have HB := Lib.hid hb
 clear HF hb hc
 have hc := kept HB.out HC.out
 have hg1 := cell_lt hc
 cases r
 case false =>
  go_wp2
  go_ret
  exact ⟨rfl, HB.out⟩
 go_wp2_with fail
 refine (HK.out w1 HB.out).mono ?_
 rintro e w2 ⟨rfl, hb⟩
 go_wp2
 go_ret
 exact ⟨ret_b (by simp), HB.out.trans (hb.mono HB.out.size)⟩
set_option maxRecDepth 100000 in
set_option maxHeartbeats 1000000 in
theorem MinLaw2_p (w : World) (g : Nat) (v1 v2 : Value) (xs ys : List Term) (hc : w.cell? ⟨g, 0, none⟩ = some v1) (h1 : Is w v1 xs) (h2 : Is w v2 ys) :
  Calls Tryz.prog 29 #[v2, .pointer (some ⟨g, 0, none⟩)] w fun e w' => e = .returned (.bool (conA xs ys)) ∧ Below w.heap.size w w' := by
 have hg := cell_lt hc
 have HF := Contains_p w v1 v2 xs ys h1 h2
 obtain ⟨a, c, rfl, -⟩ := list_inv h1
 obtain ⟨b, d, rfl, -⟩ := list_inv h2
 clear h1 h2
 generalize conA xs ys = r at *
 generalize xs.length = N at *
 generalize ys.length = M at *
 go_enter Tryz.func29, Tryz.ntmps29
 go_wp2_with fail
 refine HF.mono ?_
 rintro e w1 ⟨rfl, hb⟩
 go_wp2
 go_ret
 exact ⟨rfl, hb⟩
set_option maxRecDepth 100000 in
set_option maxHeartbeats 8000000 in
theorem AlternativeMinimal_p (w : World) (v : Value) (xs : List (List Term)) (hg : Glob w) (h : Is w v xs) :
  Calls Tryz.prog 5 #[v] w fun e w' => e = .returned (.bool true) ∧ Below w.heap.size w w' := by
 have HI := Lib.hid h
 have HA := Lib.hid (awakeG_p w hg)
 obtain ⟨a, c, rfl, hnc, hcm, hr⟩ := list_inv h
 simp only [maxLen] at hcm
 have HR := Lib.hid hr
 have eg1 : Hid (∀ args w, (callFunc 28 args).run Tryz.prog w = .ok (.enter 28 args) w) := Lib.hid (enters_of Tryz.func28 (by kernel_rfl) rfl)
 have eg2 : Hid (∀ args w, (callFunc 29 args).run Tryz.prog w = .ok (.enter 29 args) w) := Lib.hid (enters_of Tryz.func29 (by kernel_rfl) rfl)
 clear h hg hr
 generalize hN : xs.length = N at *
 have HN := Lib.hid hN
 clear hN
 go_enter Tryz.func5, Tryz.ntmps5
 go_wp2_with fail
 refine HA.out.mono ?_
 rintro e w1 ⟨rfl, hb1⟩
 have HB1 := Lib.hid hb1
 clear hb1 HA
 go_wp2_with fail
 refine (FewA_ref w1 _ xs (HI.out.mono HB1.out)).mono ?_
 unfold FewO
 rintro e w2 ⟨f1, rfl, hb2, few1⟩
 have HB2 : Hid (Below w.heap.size w w2) := HB1.out.trans (hb2.mono HB1.out.size)
 clear hb2 HB1
 cases f1
 case false =>
  clear few1
  go_wp2
  go_ret
  exact ⟨rfl, HB2.out⟩
 have FX := Lib.hid (few1 rfl)
 clear few1
 cases q : decide ((30 : Int) < (N : Int))
 case true =>
  go_wp2
  go_ret
  exact ⟨rfl, HB2.out⟩
 have hcall := Minimal_p w2 _ xs (HI.out.mono HB2.out) (fun x hx => by have := FX.out.2 x hx; omega) (by have := FX.out.1; omega)
 have HTH := Lib.hid (minimal_there xs)
 have HCO := Lib.hid (minimal_cover xs)
 have HMM : Hid (minimalP (minimalP xs) = minimalP xs) := Lib.hid (minimal_self (minimal_min xs))
 have HLE : Hid ((minimalP xs).length ≤ xs.length) := Lib.hid (minimal_count xs)
 have HLT : Hid (∀ x ∈ minimalP xs, x.length ≤ 65) := Lib.hid (minimal_len FX.out.2)
 have hz := check_minimal xs
 generalize minimalP xs = m at *
 obtain ⟨ck, hck⟩ : ∃ ck, ck = checkA m := ⟨_, rfl⟩
 rw [← hck] at hz
 have HCK := Lib.hid hck
 clear hck
 go_wp2_with fail
 refine hcall.mono ?_
 unfold MO
 rintro e w3 ⟨v3, rfl, ho3, hb3⟩
 have HB3 : Hid (Below w.heap.size w w3) := HB2.out.trans (hb3.mono HB2.out.size)
 have I3 := Lib.hid ho3.is
 obtain ⟨a3, c3, rfl, hnc3, hcm3, hr3⟩ := list_inv ho3.is
 simp only [maxLen] at hcm3
 have HR3 := Lib.hid hr3
 clear hcall hb3 ho3 hr3
 have hcall := CheckA_p w3 _ m I3.out
 rw [← HCK.out] at hcall
 have hM60 : m.length ≤ 70 := by have := HLE.out; have := FX.out.1; omega
 generalize hM : m.length = M at *
 have HM := Lib.hid hM
 clear hM
 go_wp2_with fail
 refine hcall.mono ?_
 rintro e w4 ⟨rfl, hb4⟩
 have HB4 : Hid (Below w.heap.size w w4) := HB3.out.trans (hb4.mono HB3.out.size)
 have I4 := Lib.hid (I3.out.mono hb4)
 have HR4 := Lib.hid (HR3.out.mono hb4)
 clear hcall hb4 HB3 I3 HR3
 rcases hz with rfl | rfl
 all_goals
  go_wp2_with fail
  go_loopw [31] (fun iv wr => ∃ i : Nat, i ≤ M ∧ iv = .int .i64 i ∧ Hid (Below w4.heap.size w4 wr)) (fun iv _ => M - (intOf iv).toNat)
  case atStart => exact ⟨0, by omega, rfl, Lib.hid (Below.refl _ _)⟩
  case round =>
   obtain ⟨i, hi, rfl, HBr⟩ := hrel
   by_cases hlt : i < M
   ·have hiz : (i : Int) < (M : Int) := by omega
    obtain ⟨x, hx⟩ := get_lt (xs := m) (k := i) (by rw [HM.out]; exact hlt)
    have hth := HTH.out x (List.mem_of_getElem? hx)
    obtain ⟨bx, ox, rfl, hbx, ax, cx, x0', hx1, hx2, hx3⟩ := list_at HR4.out hx
    have x0 := kept HBr.out x0'
    have hsx := cell_lt x0
    have hs4 := HBr.out.size
    have hba : Below wr.heap.size wr (wr.alloc (.cells #[.slice ax x.length cx] 44)) := (by repeat (first | exact zR _ _ | assumption | refine zN ?_ _ | refine zD ?_ | refine zA ?_ ?_ _ | refine zS ?_ ?_ _ | refine zT ?_ (zM (by assumption) ?_) | exact Nat.le_refl _ | (simp <;> omega) | omega))
    have hcell : (wr.alloc (.cells #[.slice ax x.length cx] 44)).cell? ⟨wr.heap.size, 0, none⟩ = some (.slice ax x.length cx) := by simp
    have hIx : Is wr (.slice ax x.length cx) x := (list_mk hx1 hx2 hx3).mono HBr.out
    have hcall := ContainsFuncAlt _ _ xs (fun y => conA x y && conA y x) 28 #[.pointer (some ⟨wr.heap.size, 0, none⟩)] eg1.out (((HI.out.mono HB4.out).mono HBr.out).mono hba) (fun i y _ W v hb hv => MinLaw1_p W wr.heap.size _ v x y (kept hb hcell) ((hIx.mono hba).mono hb) hv)
    rw [hth] at hcall
    have HBA := Lib.hid (HBr.out.trans (hba.mono hs4))
    clear hth hx x0' hx1 hx2 hx3 hba hcell hIx
    generalize x.length = X at *
    go_wp2_with fail
    refine hcall.mono ?_
    rintro e w6 ⟨rfl, hb6⟩
    have HB6 : Hid (Below w4.heap.size w4 w6) := HBA.out.trans (hb6.mono HBA.out.size)
    clear hcall hb6
    go_wp2
    go_roundw
    case rel => exact ⟨i + 1, by omega, by go_num, HB6⟩
    case measure => simp [intOf]; omega
   have hiz : ¬ (i : Int) < (M : Int) := by omega
   obtain ⟨w5, rfl⟩ : ∃ w5 : World, w5 = wr := ⟨_, rfl⟩
   have HB5 : Hid (Below w.heap.size w w5) := HB4.out.trans (HBr.out.mono HB4.out.size)
   have I5 := Lib.hid (I4.out.mono HBr.out)
   clear HBr
   go_wp2_with fail
   go_loopw [42] (fun iv wr => ∃ i : Nat, i ≤ N ∧ iv = .int .i64 i ∧ Hid (Below w5.heap.size w5 wr)) (fun iv _ => N - (intOf iv).toNat)
   case atStart => exact ⟨0, by omega, rfl, Lib.hid (Below.refl _ _)⟩
   case round =>
    obtain ⟨j, hj, rfl, HBr⟩ := hrel
    by_cases hlt : j < N
    ·have hjz : (j : Int) < (N : Int) := by omega
     obtain ⟨x, hx⟩ := get_lt (xs := xs) (k := j) (by rw [HN.out]; exact hlt)
     have hth := HCO.out x (List.mem_of_getElem? hx)
     obtain ⟨bx, ox, rfl, hbx, ax, cx, x0', hx1, hx2, hx3⟩ := list_at HR.out hx
     have hBw : Below w.heap.size w wr := HB5.out.trans (HBr.out.mono HB5.out.size)
     have x0 := kept hBw x0'
     have hsx := cell_lt x0
     have hs5 := HBr.out.size
     have hba : Below wr.heap.size wr (wr.alloc (.cells #[.slice ax x.length cx] 44)) := (by repeat (first | exact zR _ _ | assumption | refine zN ?_ _ | refine zD ?_ | refine zA ?_ ?_ _ | refine zS ?_ ?_ _ | refine zT ?_ (zM (by assumption) ?_) | exact Nat.le_refl _ | (simp <;> omega) | omega))
     have hcell : (wr.alloc (.cells #[.slice ax x.length cx] 44)).cell? ⟨wr.heap.size, 0, none⟩ = some (.slice ax x.length cx) := by simp
     have hIx : Is wr (.slice ax x.length cx) x := (list_mk hx1 hx2 hx3).mono hBw
     have hcall := ContainsFuncAlt _ _ m (fun y => conA x y) 29 #[.pointer (some ⟨wr.heap.size, 0, none⟩)] eg2.out ((I5.out.mono HBr.out).mono hba) (fun i y _ W v hb hv => MinLaw2_p W wr.heap.size _ v x y (kept hb hcell) ((hIx.mono hba).mono hb) hv)
     rw [hth] at hcall
     have HBA := Lib.hid (HBr.out.trans (hba.mono hs5))
     clear hth hx x0' hx1 hx2 hx3 hba hcell hIx hBw
     generalize x.length = X at *
     go_wp2_with fail
     refine hcall.mono ?_
     rintro e w6 ⟨rfl, hb6⟩
     have HB6 : Hid (Below w5.heap.size w5 w6) := HBA.out.trans (hb6.mono HBA.out.size)
     clear hcall hb6
     go_wp2
     go_roundw
     case rel => exact ⟨j + 1, by omega, by go_num, HB6⟩
     case measure => simp [intOf]; omega
    have hjz : ¬ (j : Int) < (N : Int) := by omega
    have HB6 : Hid (Below w.heap.size w wr) := HB5.out.trans (HBr.out.mono HB5.out.size)
    have I6 := Lib.hid (I5.out.mono HBr.out)
    clear HBr
    have hcall := Minimal_p wr _ m I6.out (fun x hx => by have := HLT.out x hx; omega) (by rw [HM.out]; omega)
    rw [HMM.out] at hcall
    go_wp2_with fail
    refine hcall.mono ?_
    unfold MO
    rintro e w7 ⟨v7, rfl, ho7, hb7⟩
    have HB7 : Hid (Below w.heap.size w w7) := HB6.out.trans (hb7.mono HB6.out.size)
    have hsame := SameA_ref w7 _ _ m m ho7.is (I6.out.mono hb7)
    rw [decide_eq_true rfl] at hsame
    obtain ⟨a7, c7, rfl, -⟩ := list_inv ho7.is
    clear hcall hb7 ho7
    rw [HM.out] at hsame ⊢
    go_wp2_with fail
    refine hsame.mono ?_
    rintro e w8 ⟨rfl, hb8⟩
    go_wp2
    go_ret
    exact ⟨rfl, HB7.out.trans (hb8.mono HB7.out.size)⟩
end Go.Proofs.YtaaobpicaaeiiaaGreatDoor
