/- The law: Check, Minimal, Contains, Compare and Satisfied return what the definitions specify. -/
import Derived.Test.YtaaobpicaaeiiaaGreatDoorJCompU
import Derived.Test.YtaaobpicaaeiiaaGreatDoorJFewA
import Derived.Test.YtaaobpicaaeiiaaGreatDoorJR33U
import Derived.Test.YtaaobpicaaeiiaaGreatDoorJAwG
import Derived.Test.YtaaobpicaaeiiaaGreatDoorJDecU
import Derived.Test.YtaaobpicaaeiiaaGreatDoorJRfM
import Derived.Test.YtaaobpicaaeiiaaGreatDoorJLatL
set_option linter.all false
namespace Go.Proofs.YtaaobpicaaeiiaaGreatDoor
open Go Go.RowKit Go.ChangeShapes Go.Sort Go.Lib

theorem one_altL {w : World} {v : Value} {x : List Term} (e : TypeId) (h : Is w v x) {b : Nat} (hb : b = w.heap.size) : Is (w.alloc (.cells #[v] e)) (.slice (some ⟨b, 0, none⟩) 1 1) [x] := by
 subst hb
 have hba : Below w.heap.size w (w.alloc (.cells #[v] e)) := (Below.refl _ _).alloc (Nat.le_refl _) _
 refine list_mk (xs := [x]) (Nat.le_refl _) (by decide) fun i y hy => ⟨w.heap.size, 0, rfl, by simp, ?_⟩
 match i, hy with
 | 0, hy =>
  cases hy
  obtain ⟨a, c, rfl, l, m, r⟩ := list_inv h
  exact ⟨a, c, by simp, l, m, r.mono hba⟩
 | i + 1, hy => simp at hy
set_option maxRecDepth 100000 in
set_option maxHeartbeats 8000000 in
theorem AlternativeLists_p (w : World) (v u : Value) (xs : List (List Term)) (ts : List Term) (hg : Glob w) (h : Is w v xs) (k : Is w u ts) :
  Calls Tryz.prog 4 #[v, u] w fun e w' => e = .returned (.bool true) ∧ Below w.heap.size w w' := by
 have HI := Lib.hid h
 have HJ := Lib.hid k
 have HA := Lib.hid (awakeG_p w hg)
 obtain ⟨a, c, rfl, hnc, hcm, hr⟩ := list_inv h
 simp only [maxLen] at hcm
 have HR := Lib.hid hr
 obtain ⟨b, d, rfl, -⟩ := list_inv k
 clear h k hg hr
 generalize hN : xs.length = N at *
 have HN := Lib.hid hN
 clear hN
 generalize ts.length = T at *
 go_enter Tryz.func4, Tryz.ntmps4
 go_wp2_with fail
 refine HA.out.mono ?_
 rintro e w1 ⟨rfl, hb1⟩
 have HB1 := Lib.hid hb1
 clear hb1 HA
 go_wp2_with fail
 refine (FewA_ref w1 _ xs (HI.out.mono HB1.out)).mono ?_
 unfold FewO
 rintro e w2 ⟨f1, rfl, hb2, few1⟩
 have HB2 : Hid (Below w.heap.size w w2) := HB1.out.trans (hb2.mono HB1.out.size)
 clear hb2 HB1
 cases f1
 case false =>
  clear few1
  go_wp2
  go_ret
  exact ⟨rfl, HB2.out⟩
 have FX := Lib.hid (few1 rfl)
 clear few1
 go_wp2_with fail
 refine (FewA_ref _ _ [ts] (one_altL 44 (HJ.out.mono HB2.out) rfl)).mono ?_
 unfold FewO
 rintro e w3 ⟨f2, rfl, hb3, -⟩
 have HB3 : Hid (Below w.heap.size w w3) := HB2.out.trans (((Below.refl w2.heap.size w2).alloc (Nat.le_refl _) _ |>.trans (hb3.mono (by simp))).mono HB2.out.size)
 clear hb3 HB2
 cases f2
 case false =>
  go_wp2
  go_ret
  exact ⟨rfl, HB3.out⟩
 have hcall := CheckA_p w3 _ xs (HI.out.mono HB3.out)
 have hcall2 := fun W hb => CheckR_ref W _ xs ((HI.out.mono HB3.out).mono (w' := W) hb)
 rw [← check_same] at hcall2
 generalize checkA xs = ck at *
 have HC2 := Lib.hid hcall2
 have q1 : (ck != ck) = false := by simp
 clear hcall2
 go_wp2_with fail
 refine hcall.mono ?_
 rintro e w4 ⟨rfl, hb4⟩
 have HB4 := Lib.hid hb4
 clear hcall hb4
 go_wp2_with fail
 refine (HC2.out w4 HB4.out).mono ?_
 rintro e w5 ⟨rfl, hb5⟩
 have HB5 : Hid (Below w.heap.size w w5) := HB3.out.trans ((HB4.out.trans (hb5.mono HB4.out.size)).mono HB3.out.size)
 clear hb5 HB3 HB4 HC2
 have hcall := Minimal_p w5 _ xs (HI.out.mono HB5.out) (fun x hx => by have := FX.out.2 x hx; omega) (by have := FX.out.1; omega)
 have HC2 := Lib.hid (fun W hb => Minimal_ref W _ xs ((HI.out.mono HB5.out).mono (w' := W) hb) (fun x hx => by have := FX.out.2 x hx; omega) (by have := FX.out.1; omega))
 generalize minimalP xs = m at *
 unfold MO at HC2
 go_wp2_with fail
 refine hcall.mono ?_
 unfold MO
 rintro e w6 ⟨v6, rfl, ho6, hb6⟩
 have HB6 := Lib.hid hb6
 have I6 := Lib.hid ho6.is
 obtain ⟨a6, c6, rfl, -⟩ := list_inv ho6.is
 clear hcall hb6 ho6
 generalize m.length = M at *
 go_wp2_with fail
 refine (HC2.out w6 HB6.out).mono ?_
 rintro e w7 ⟨v7, rfl, ho7, hb7⟩
 have HB7 : Hid (Below w.heap.size w w7) := HB5.out.trans ((HB6.out.trans (hb7.mono HB6.out.size)).mono HB5.out.size)
 have hcall := SameA_ref w7 _ _ m m (I6.out.mono hb7) ho7.is
 rw [decide_eq_true rfl] at hcall
 obtain ⟨a7, c7, rfl, -⟩ := list_inv ho7.is
 clear hb7 ho7 HB5 HB6 HC2 I6
 generalize m.length = M2 at *
 go_wp2_with fail
 refine hcall.mono ?_
 rintro e w8 ⟨rfl, hb8⟩
 have HB8 : Hid (Below w.heap.size w w8) := HB7.out.trans (hb8.mono HB7.out.size)
 clear hcall hb8 HB7
 have hcall := Satisfied_p w8 _ _ xs ts (HI.out.mono HB8.out) (HJ.out.mono HB8.out)
 have HC2 := Lib.hid (fun W hb => Satisfied_ref W _ _ xs ts ((HI.out.mono HB8.out).mono (w' := W) hb) ((HJ.out.mono HB8.out).mono hb))
 generalize satP xs ts = sa at *
 have q2 : (sa != sa) = false := by simp
 go_wp2_with fail
 refine hcall.mono ?_
 rintro e w9 ⟨rfl, hb9⟩
 have HB9 := Lib.hid hb9
 clear hcall hb9
 go_wp2_with fail
 refine (HC2.out w9 HB9.out).mono ?_
 rintro e w10 ⟨rfl, hb10⟩
 have HB10 : Hid (Below w.heap.size w w10) := HB8.out.trans ((HB9.out.trans (hb10.mono HB9.out.size)).mono HB8.out.size)
 clear hb10 HB8 HB9 HC2
 go_wp2_with fail
 go_loopw [43] (fun iv wr => ∃ i : Nat, i ≤ N ∧ iv = .int .i64 i ∧ Hid (Below w.heap.size w wr)) (fun iv _ => N - (intOf iv).toNat)
 case atStart => exact ⟨0, by omega, rfl, Lib.hid HB10.out⟩
 case round =>
  obtain ⟨i, hi, rfl, HB⟩ := hrel
  by_cases hlt : i < N
  ·have hiz : (i : Int) < (N : Int) := by omega
   obtain ⟨x, hx⟩ := get_lt (xs := xs) (k := i) (by rw [HN.out]; exact hlt)
   obtain ⟨kk, hkk⟩ : ∃ kk, kk = (i + 1) % N := ⟨_, rfl⟩
   have hkN : kk < N := by rw [hkk]; exact Nat.mod_lt _ (by omega)
   obtain ⟨y, hy⟩ := get_lt (xs := xs) (k := kk) (by rw [HN.out]; exact hkN)
   obtain ⟨bx, ox, rfl, hbx, ax, cx, x0', hx1, hx2, hx3⟩ := list_at HR.out hx
   obtain ⟨bx', ox', hbe, -, ay, cy, y0', hy1, hy2, hy3⟩ := list_at HR.out hy
   cases hbe
   have x0 := kept HB.out x0'
   have y0 := kept HB.out y0'
   have hsx := cell_lt x0
   have IX := Lib.hid ((list_mk hx1 hx2 hx3).mono HB.out)
   have IY := Lib.hid ((list_mk hy1 hy2 hy3).mono HB.out)
   have hn0 : ((N : Int) == 0) = false := by simp; omega
   have hn1 : ¬ (N : Int) = 0 := by omega
   have hrem : ((i : Int) + 1).tmod (N : Int) = (kk : Int) := by rw [hkk]; norm_cast
   clear hx hy x0' y0' hx1 hx2 hx3 hy1 hy2 hy3 hkk
   go_wp2_with fail
   go_quiet (fail)
   have hcall := Contains_p (wr.drewN nq) _ _ x y (IX.out.mono (by repeat (first | exact zR _ _ | assumption | refine zN ?_ _ | refine zD ?_ | refine zA ?_ ?_ _ | refine zS ?_ ?_ _ | refine zT ?_ (zM (by assumption) ?_) | exact Nat.le_refl _ | (simp <;> omega) | omega))) (IY.out.mono (by repeat (first | exact zR _ _ | assumption | refine zN ?_ _ | refine zD ?_ | refine zA ?_ ?_ _ | refine zS ?_ ?_ _ | refine zT ?_ (zM (by assumption) ?_) | exact Nat.le_refl _ | (simp <;> omega) | omega)))
   have HD : Hid (Below wr.heap.size wr (wr.drewN nq)) := Lib.hid (by repeat (first | exact zR _ _ | assumption | refine zN ?_ _ | refine zD ?_ | refine zA ?_ ?_ _ | refine zS ?_ ?_ _ | refine zT ?_ (zM (by assumption) ?_) | exact Nat.le_refl _ | (simp <;> omega) | omega))
   have HC2 := Lib.hid (fun W hb => Contains_ref W _ _ x y (IX.out.mono (w' := W) hb) (IY.out.mono hb))
   have HC3 := Lib.hid (fun W hb => Compare_p W _ _ x y (IX.out.mono (w' := W) hb) (IY.out.mono hb))
   have HC4 := Lib.hid (fun W hb => Compare_ref W _ _ x y (IX.out.mono (w' := W) hb) (IY.out.mono hb))
   generalize conA x y = r1 at *
   generalize acmp x y = r2 at *
   have q3 : (r1 != r1) = false := by simp
   have q4 : (r2 != r2) = false := by simp
   clear x0 y0 hrem hn0 hn1
   generalize wr.drewN nq = wd at *
   go_wp2_with fail
   refine hcall.mono ?_
   rintro e w11 ⟨rfl, hb11⟩
   have HB11 : Hid (Below wr.heap.size wr w11) := HD.out.trans (hb11.mono HD.out.size)
   clear hcall hb11
   go_wp2_with fail
   refine (HC2.out w11 HB11.out).mono ?_
   rintro e w12 ⟨rfl, hb12⟩
   have HB12 : Hid (Below wr.heap.size wr w12) := HB11.out.trans (hb12.mono HB11.out.size)
   clear hb12 HC2
   go_wp2_with fail
   refine (HC3.out w12 HB12.out).mono ?_
   rintro e w13 ⟨rfl, hg13⟩
   have hb13 := hg13.below
   have HB13 : Hid (Below wr.heap.size wr w13) := HB12.out.trans (hb13.mono HB12.out.size)
   clear hg13 hb13 HC3
   go_wp2_with fail
   refine (HC4.out w13 HB13.out).mono ?_
   rintro e w14 ⟨rfl, hb14⟩
   have HB14 : Hid (Below w.heap.size w w14) := HB.out.trans ((HB13.out.trans (hb14.mono HB13.out.size)).mono HB.out.size)
   clear hb14 HC4
   go_wp2
   go_roundw
   case rel => exact ⟨i + 1, by omega, by go_num, HB14⟩
   case measure => simp [intOf]; omega
  have hiz : ¬ (i : Int) < (N : Int) := by omega
  go_wp2
  go_ret
  exact ⟨rfl, HB.out⟩
end Go.Proofs.YtaaobpicaaeiiaaGreatDoor
