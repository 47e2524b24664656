/- The law: Either, Both and Expr return what the definitions specify (printed by gen/combs.py). -/
import Derived.Test.YtaaobpicaaeiiaaGreatDoorJFewA
import Derived.Test.YtaaobpicaaeiiaaGreatDoorJR33U
import Derived.Test.YtaaobpicaaeiiaaGreatDoorJAwG
import Derived.Test.YtaaobpicaaeiiaaGreatDoorJEitU
import Derived.Test.YtaaobpicaaeiiaaGreatDoorJEquE
import Derived.Test.YtaaobpicaaeiiaaGreatDoorJExpRf
set_option linter.all false
namespace Go.Proofs.YtaaobpicaaeiiaaGreatDoor
open Go Go.RowKit Go.ChangeShapes Go.Sort Go.Lib

set_option maxRecDepth 100000 in
set_option maxHeartbeats 8000000 in
theorem AlternativeCombines_p (w : World) (v u : Value) (xs ys : List (List Term)) (hg : Glob w) (h : Is w v xs) (k : Is w u ys) :
  Calls Tryz.prog 8 #[v, u] w fun e w' => e = .returned (.bool true) ∧ Below w.heap.size w w' := by
 have HI := Lib.hid h
 have HJ := Lib.hid k
 have HA := Lib.hid (awakeG_p w hg)
 obtain ⟨a, c, rfl, -⟩ := list_inv h
 obtain ⟨b, d, rfl, -⟩ := list_inv k
 clear h k hg
 generalize xs.length = N at *
 generalize ys.length = M at *
 go_enter Tryz.func8, Tryz.ntmps8
 go_wp2_with fail
 refine HA.out.mono ?_
 rintro e w1 ⟨rfl, hb1⟩
 have HB1 := Lib.hid hb1
 clear hb1 HA
 go_wp2_with fail
 refine (FewA_ref w1 _ xs (HI.out.mono HB1.out)).mono ?_
 unfold FewO
 rintro e w2 ⟨f1, rfl, hb2, -⟩
 have HB2 : Hid (Below w.heap.size w w2) := HB1.out.trans (hb2.mono HB1.out.size)
 clear hb2 HB1
 cases f1
 case false =>
  go_wp2
  go_ret
  exact ⟨rfl, HB2.out⟩
 go_wp2_with fail
 refine (FewA_ref w2 _ ys (HJ.out.mono HB2.out)).mono ?_
 unfold FewO
 rintro e w3 ⟨f2, rfl, hb3, -⟩
 have HB : Hid (Below w.heap.size w w3) := HB2.out.trans (hb3.mono HB2.out.size)
 clear hb3 HB2
 cases f2
 case false =>
  go_wp2
  go_ret
  exact ⟨rfl, HB.out⟩
 have hcall := Either_p w3 _ _ xs ys (HI.out.mono HB.out) (HJ.out.mono HB.out)
 have HC2 := Lib.hid (fun W hb => EitherR_ref W _ _ xs ys ((HI.out.mono HB.out).mono (w' := W) hb) ((HJ.out.mono HB.out).mono hb))
 generalize eitherP xs ys = pp at *
 obtain ⟨l, f⟩ := pp
 unfold BO at hcall HC2
 have q1 : (f != f) = false := by simp
 go_wp2_with fail
 refine hcall.mono ?_
 rintro e w4 ⟨v1, rfl, ho1, hb1⟩
 have HB1 := Lib.hid hb1
 have I1 : Hid (Is w4 v1 l) := Lib.hid ho1.is
 obtain ⟨a1, c1, rfl, -⟩ := list_inv I1.out
 clear hcall hb1 ho1
 generalize hL : l.length = L at *
 have HL := Lib.hid hL
 clear hL
 go_wp2_with fail
 refine (HC2.out w4 HB1.out).mono ?_
 rintro e w5 ⟨v2, rfl, ho2, hb2⟩
 have I2 : Hid (Is w5 v2 l) := Lib.hid ho2.is
 obtain ⟨a2, c2, rfl, -⟩ := list_inv I2.out
 have hsame := SameA_ref w5 _ _ l l (I1.out.mono hb2) I2.out
 rw [decide_eq_true rfl] at hsame
 have HB : Hid (Below w.heap.size w w5) := HB.out.trans ((HB1.out.trans (hb2.mono HB1.out.size)).mono HB.out.size)
 clear HB1 HC2 hb2 ho2
 rw [HL.out] at hsame ⊢
 go_wp2_with fail
 refine hsame.mono ?_
 rintro e w6 ⟨rfl, hb3⟩
 have HB : Hid (Below w.heap.size w w6) := HB.out.trans (hb3.mono HB.out.size)
 clear hsame hb3 HL I1 I2
 have hcall := Both_p w6 _ _ xs ys (HI.out.mono HB.out) (HJ.out.mono HB.out)
 have HC2 := Lib.hid (fun W hb => BothR_ref W _ _ xs ys ((HI.out.mono HB.out).mono (w' := W) hb) ((HJ.out.mono HB.out).mono hb))
 generalize bothP xs ys = pp at *
 obtain ⟨l, f⟩ := pp
 unfold BO at hcall HC2
 have q1 : (f != f) = false := by simp
 go_wp2_with fail
 refine hcall.mono ?_
 rintro e w7 ⟨v1, rfl, ho1, hb1⟩
 have HB1 := Lib.hid hb1
 have I1 : Hid (Is w7 v1 l) := Lib.hid ho1.is
 obtain ⟨a1, c1, rfl, -⟩ := list_inv I1.out
 clear hcall hb1 ho1
 generalize hL : l.length = L at *
 have HL := Lib.hid hL
 clear hL
 go_wp2_with fail
 refine (HC2.out w7 HB1.out).mono ?_
 rintro e w8 ⟨v2, rfl, ho2, hb2⟩
 have I2 : Hid (Is w8 v2 l) := Lib.hid ho2.is
 obtain ⟨a2, c2, rfl, -⟩ := list_inv I2.out
 have hsame := SameA_ref w8 _ _ l l (I1.out.mono hb2) I2.out
 rw [decide_eq_true rfl] at hsame
 have HB : Hid (Below w.heap.size w w8) := HB.out.trans ((HB1.out.trans (hb2.mono HB1.out.size)).mono HB.out.size)
 clear HB1 HC2 hb2 ho2
 rw [HL.out] at hsame ⊢
 go_wp2_with fail
 refine hsame.mono ?_
 rintro e w9 ⟨rfl, hb3⟩
 have HB : Hid (Below w.heap.size w w9) := HB.out.trans (hb3.mono HB.out.size)
 clear hsame hb3 HL I1 I2
 have hcall := Expr_p w9 _ xs (HI.out.mono HB.out)
 have HC2 := Lib.hid (fun W hb => ExprR_ref W _ xs ((HI.out.mono HB.out).mono (w' := W) hb))
 generalize exprA xs = pp at *
 obtain ⟨x, f⟩ := pp
 have q2 : (f == f) = true := by simp
 go_wp2_with fail
 refine hcall.mono ?_
 rintro e w10 ⟨v1, rfl, hi1, hb1⟩
 have hi1 : Is w10 v1 x := hi1
 obtain ⟨k0, n0, x0, ka, K, kc, rfl⟩ := expBox hi1
 have hO1 := World.alloc_heap_new w10 (.cells #[.int .i64 k0, .string n0, .string x0, .slice ka K kc] 30)
 have hba : Below w10.heap.size w10 (w10.alloc (.cells #[.int .i64 k0, .string n0, .string x0, .slice ka K kc] 30)) := (by repeat (first | exact zR _ _ | assumption | refine zN ?_ _ | refine zD ?_ | refine zA ?_ ?_ _ | refine zS ?_ ?_ _ | refine zT ?_ (zM (by assumption) ?_) | exact Nat.le_refl _ | (simp <;> omega) | omega))
 have I1 := Lib.hid (hi1.mono hba)
 have HB1 : Hid (Below w9.heap.size w9 (w10.alloc (.cells #[.int .i64 k0, .string n0, .string x0, .slice ka K kc] 30))) := Lib.hid (hb1.trans (hba.mono hb1.size))
 have HO1 := Lib.hid hO1
 clear hcall hb1 hi1 hba hO1
 go_wp2_with fail
 generalize (w10.alloc (.cells #[.int .i64 k0, .string n0, .string x0, .slice ka K kc] 30)) = w11 at *
 generalize w10.heap.size = g10 at *
 refine (HC2.out w11 HB1.out).mono ?_
 rintro e w12 ⟨v2, rfl, hi2, hb2⟩
 have hi2 : Is w12 v2 x := hi2
 obtain ⟨k1, n1, x1, la, L, lc, rfl⟩ := expBox hi2
 have hO2 := World.alloc_heap_new w12 (.cells #[.int .i64 k1, .string n1, .string x1, .slice la L lc] 30)
 have hba : Below w12.heap.size w12 (w12.alloc (.cells #[.int .i64 k1, .string n1, .string x1, .slice la L lc] 30)) := (by repeat (first | exact zR _ _ | assumption | refine zN ?_ _ | refine zD ?_ | refine zA ?_ ?_ _ | refine zS ?_ ?_ _ | refine zT ?_ (zM (by assumption) ?_) | exact Nat.le_refl _ | (simp <;> omega) | omega))
 have I2 := Lib.hid (hi2.mono hba)
 have I1 := Lib.hid ((I1.out.mono hb2).mono hba)
 have hO1 := obj_below (obj_below HO1.out hb2) hba
 have HB : Hid (Below w.heap.size w (w12.alloc (.cells #[.int .i64 k1, .string n1, .string x1, .slice la L lc] 30))) := HB.out.trans (((HB1.out.trans (hb2.mono HB1.out.size)).trans (hba.mono (HB1.out.trans (hb2.mono HB1.out.size)).size)).mono HB.out.size)
 have hcall := Equal_same x _ _ _ I1.out I2.out
 have d0 := objcell hO1 (j := 0) rfl
 have e0 := objcell hO2 (j := 0) rfl
 have d1 := objcell hO1 (j := 1) rfl
 have e1 := objcell hO2 (j := 1) rfl
 have d2 := objcell hO1 (j := 2) rfl
 have e2 := objcell hO2 (j := 2) rfl
 have d3 := objcell hO1 (j := 3) rfl
 have e3 := objcell hO2 (j := 3) rfl
 have s0 := obj_lt hO1
 have s1 := obj_lt hO2
 clear hb2 hi2 hba hO1 hO2 HC2 HB1
 go_wp2_with fail
 generalize (w12.alloc (.cells #[.int .i64 k1, .string n1, .string x1, .slice la L lc] 30)) = w13 at *
 refine hcall.mono ?_
 rintro e w14 ⟨rfl, hb3⟩
 have HB : Hid (Below w.heap.size w w14) := HB.out.trans (hb3.mono HB.out.size)
 clear hcall hb3 d0 d1 d2 d3 e0 e1 e2 e3 s0 s1
 go_wp2
 go_ret
 exact ⟨ret_b (by simp), HB.out⟩
end Go.Proofs.YtaaobpicaaeiiaaGreatDoor
