/- The law: the expression of the meaning of an expression has this meaning (printed by gen/law33.py). -/
import Derived.Test.YtaaobpicaaeiiaaGreatDoorJR33U
import Derived.Test.YtaaobpicaaeiiaaGreatDoorJAwG
import Derived.Test.YtaaobpicaaeiiaaGreatDoorJSmal
import Derived.Test.YtaaobpicaaeiiaaGreatDoorJMeaY
import Derived.Test.YtaaobpicaaeiiaaGreatDoorJRetL
set_option linter.all false
namespace Go.Proofs.YtaaobpicaaeiiaaGreatDoor
open Go Go.RowKit Go.ChangeShapes Go.Sort Go.Lib

set_option maxRecDepth 100000 in
set_option maxHeartbeats 8000000 in
theorem AlternativeReturns_p (w : World) (vc v : Value) (c : Catalog) (y : LExpr) (hg : Glob w) (hc : Is w vc c) (h : Is w v y) (oy : okE y) : Calls Tryz.prog 6 #[vc, v] w fun e w' => e = .returned (.bool true) ∧ Below w.heap.size w w' := by
 obtain ⟨k0, n0, x0, a, K, k, rfl⟩ := expBox h
 obtain ⟨a0, N0, c0, a1, N1, c1, a2, N2, c2, a3, N3, c3, rfl⟩ := catBox hc
 obtain ⟨hb0, hd, he⟩ := box2 w #[.slice a0 N0 c0, .slice a1 N1 c1, .slice a2 N2 c2, .slice a3 N3 c3] #[.int .i64 k0, .string n0, .string x0, .slice a K k] 27 30
 have HG := Lib.hid (hg.mono hb0)
 have HC := Lib.hid (hc.mono hb0)
 have HI := Lib.hid (h.mono hb0)
 have HW := Lib.hid hb0
 have OY := Lib.hid oy
 have d0 := hd 0 _ rfl
 have d1 := hd 1 _ rfl
 have d2 := hd 2 _ rfl
 have d3 := hd 3 _ rfl
 have e0 := he 0 _ rfl
 have e1 := he 1 _ rfl
 have e2 := he 2 _ rfl
 have e3 := he 3 _ rfl
 clear hd he hb0 hc h oy hg
 go_enter Tryz.func6, Tryz.ntmps6
 go_wp2_with fail
 generalize ((w.alloc (.cells #[.slice a0 N0 c0, .slice a1 N1 c1, .slice a2 N2 c2, .slice a3 N3 c3] 27)).alloc (.cells #[.int .i64 k0, .string n0, .string x0, .slice a K k] 30)) = w0 at *
 have D0 := Lib.hid d0
 have D1 := Lib.hid d1
 have D2 := Lib.hid d2
 have D3 := Lib.hid d3
 have E0 := Lib.hid e0
 have E1 := Lib.hid e1
 have E2 := Lib.hid e2
 have E3 := Lib.hid e3
 clear d0 d1 d2 d3 e0 e1 e2 e3
 refine (awakeG_p _ HG.out).mono ?_
 rintro e w1 ⟨rfl, hb1⟩
 have HB1 := Lib.hid hb1
 clear hb1
 have d0 := kept HB1.out D0.out
 have d1 := kept HB1.out D1.out
 have d2 := kept HB1.out D2.out
 have d3 := kept HB1.out D3.out
 have e0 := kept HB1.out E0.out
 have e1 := kept HB1.out E1.out
 have e2 := kept HB1.out E2.out
 have e3 := kept HB1.out E3.out
 have s0 := cell_lt e0
 have s1 := cell_lt d0
 go_wp2_with fail
 refine (small_p w1 _ _ c y (HC.out.mono HB1.out) (HI.out.mono HB1.out) OY.out).mono ?_
 unfold SmO
 rintro e w2 ⟨fs, rfl, few, hb2⟩
 have HB2 : Hid (Below w0.heap.size w0 w2) := HB1.out.trans (hb2.mono HB1.out.size)
 clear hb2 d0 d1 d2 d3 e0 e1 e2 e3 s0 s1
 cases fs
 case false =>
  clear few
  go_wp2
  go_ret
  exact ⟨rfl, HW.out.trans (HB2.out.mono HW.out.size)⟩
 have HFE := Lib.hid (few rfl)
 clear few
 have d0 := kept HB2.out D0.out
 have d1 := kept HB2.out D1.out
 have d2 := kept HB2.out D2.out
 have d3 := kept HB2.out D3.out
 have e0 := kept HB2.out E0.out
 have e1 := kept HB2.out E1.out
 have e2 := kept HB2.out E2.out
 have e3 := kept HB2.out E3.out
 have s0 := cell_lt e0
 have s1 := cell_lt d0
 have HRO := Lib.hid (returns_of (c := c) (e := y))
 have HER := Lib.hid (ofP_err (c := c) (e := y))
 have hp := Of_p c y (.inl pairsC) (by have := HFE.out; omega) w2 _ _ (HG.out.mono HB2.out) (HC.out.mono HB2.out) (HI.out.mono HB2.out)
 generalize ofP c y = pp at *
 obtain ⟨l, f⟩ := pp
 unfold MeO at hp
 go_wp2_with fail
 refine hp.mono ?_
 rintro e w3 ⟨v3, rfl, ho3, hb3⟩
 have HB3 : Hid (Below w0.heap.size w0 w3) := HB2.out.trans (hb3.mono HB2.out.size)
 have I3 : Hid (Is w3 v3 l) := Lib.hid ho3.is
 clear hp hb3 ho3 d0 d1 d2 d3 e0 e1 e2 e3 s0 s1
 by_cases q : f = 0
 case neg =>
  obtain rfl : l = [] := HER.out q
  obtain ⟨a3', c3', rfl, -⟩ := list_inv I3.out
  have q1 : (f != 0) = true := by simpa using q
  clear q HRO HER
  go_wp2
  go_ret
  exact ⟨ret_b (by simp), HW.out.trans (HB3.out.mono HW.out.size)⟩
 obtain ⟨a3', c3', rfl, -⟩ := list_inv I3.out
 subst q
 have HRO := Lib.hid (HRO.out rfl)
 have hcall := Expr_p w3 _ l I3.out
 generalize exprA l = xp at *
 obtain ⟨x, fx⟩ := xp
 generalize hL : l.length = L at *
 have HL := Lib.hid hL
 clear hL HER
 have HD : Hid (w3.cell? ⟨w.heap.size, 0, none⟩ = some (.slice a0 N0 c0) ∧ w3.cell? ⟨w.heap.size, 1, none⟩ = some (.slice a1 N1 c1) ∧ w3.cell? ⟨w.heap.size, 2, none⟩ = some (.slice a2 N2 c2) ∧ w3.cell? ⟨w.heap.size, 3, none⟩ = some (.slice a3 N3 c3)) := Lib.hid ⟨kept HB3.out D0.out, kept HB3.out D1.out, kept HB3.out D2.out, kept HB3.out D3.out⟩
 go_wp2_with fail
 refine hcall.mono ?_
 rintro e w4 ⟨v4, rfl, hi4, hb4⟩
 obtain ⟨q0, q1, q2, aq, Q, q, rfl⟩ := expBox hi4
 have hba : Below w4.heap.size w4 (w4.alloc (.cells #[.int .i64 q0, .string q1, .string q2, .slice aq Q q] 30)) := (by repeat (first | exact zR _ _ | assumption | refine zN ?_ _ | refine zD ?_ | refine zA ?_ ?_ _ | refine zS ?_ ?_ _ | refine zT ?_ (zM (by assumption) ?_) | exact Nat.le_refl _ | (simp <;> omega) | omega))
 have HB4 : Hid (Below w0.heap.size w0 (w4.alloc (.cells #[.int .i64 q0, .string q1, .string q2, .slice aq Q q] 30))) := HB3.out.trans ((hb4.trans (hba.mono hb4.size)).mono HB3.out.size)
 have I4 := Lib.hid (I3.out.mono (hb4.trans (hba.mono hb4.size)))
 have HX : Hid (Is (w4.alloc (.cells #[.int .i64 q0, .string q1, .string q2, .slice aq Q q] 30)) (.agg #[.int .i64 q0, .string q1, .string q2, .slice aq Q q]) x) := Lib.hid (hi4.mono hba)
 have g0 : (w4.alloc (.cells #[.int .i64 q0, .string q1, .string q2, .slice aq Q q] 30)).cell? ⟨w4.heap.size, 0, none⟩ = some (.int .i64 q0) := by simp
 have g1 : (w4.alloc (.cells #[.int .i64 q0, .string q1, .string q2, .slice aq Q q] 30)).cell? ⟨w4.heap.size, 1, none⟩ = some (.string q1) := by simp
 have g2 : (w4.alloc (.cells #[.int .i64 q0, .string q1, .string q2, .slice aq Q q] 30)).cell? ⟨w4.heap.size, 2, none⟩ = some (.string q2) := by simp
 have g3 : (w4.alloc (.cells #[.int .i64 q0, .string q1, .string q2, .slice aq Q q] 30)).cell? ⟨w4.heap.size, 3, none⟩ = some (.slice aq Q q) := by simp
 have hd := HD.out
 obtain ⟨d0, d1, d2, d3⟩ := hd
 have d0 := kept hba (kept hb4 d0)
 have d1 := kept hba (kept hb4 d1)
 have d2 := kept hba (kept hb4 d2)
 have d3 := kept hba (kept hb4 d3)
 have s0 := cell_lt g0
 have s1 := cell_lt d0
 clear hcall hi4 hb4 hba HD
 have hro : fx = 10 ∨ fx = 0 ∧ x = orAll l ∧ ofP c (orAll l) = (l, 0) := by first | exact HRO.out | exact HRO.out trivial
 rcases hro with h10 | ⟨h0, hx, hof⟩
 ·obtain rfl : fx = 10 := h10
  clear HRO g0 g1 g2 g3 d0 d1 d2 d3
  go_wp2
  go_ret
  exact ⟨rfl, HW.out.trans (HB4.out.mono HW.out.size)⟩
 obtain rfl : fx = 0 := h0
 obtain rfl : x = orAll l := hx
 have hcall := Of_p c (orAll l) (.inl pairsC) (by have := of_size (c := c) (e := orAll l) (by rw [hof]); omega) _ _ _ ((HG.out.mono HB4.out)) ((HC.out.mono HB4.out)) HX.out
 rw [hof] at hcall
 clear hof HRO
 go_wp2_with fail
 generalize (w4.alloc (.cells #[.int .i64 q0, .string q1, .string q2, .slice aq Q q] 30)) = w5 at *
 generalize w4.heap.size = g5 at *
 refine hcall.mono ?_
 unfold MeO
 rintro e w6 ⟨v6, rfl, ho6, hb6⟩
 have HB6 : Hid (Below w0.heap.size w0 w6) := HB4.out.trans (hb6.mono HB4.out.size)
 have hsame := SameA_ref w6 _ _ l l (I4.out.mono hb6) (show Is w6 v6 l from ho6.is)
 rw [decide_eq_true rfl] at hsame
 obtain ⟨a6, c6, rfl, -⟩ := list_inv (show Is w6 v6 l from ho6.is)
 clear hcall hb6 ho6 g0 g1 g2 g3 d0 d1 d2 d3 s0 s1
 rw [HL.out] at hsame ⊢
 go_wp2_with fail
 refine hsame.mono ?_
 rintro e w7 ⟨rfl, hb7⟩
 have HB7 : Hid (Below w0.heap.size w0 w7) := HB6.out.trans (hb7.mono HB6.out.size)
 clear hsame hb7
 go_wp2
 go_ret
 exact ⟨rfl, HW.out.trans (HB7.out.mono HW.out.size)⟩
end Go.Proofs.YtaaobpicaaeiiaaGreatDoor
