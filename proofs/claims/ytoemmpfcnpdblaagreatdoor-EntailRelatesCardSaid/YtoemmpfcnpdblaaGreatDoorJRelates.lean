/- The law: Relate returns what the definition specifies (printed by gen/relr.py). -/
import Derived.Test.YtoemmpfcnpdblaaGreatDoorJAwU
import Derived.Test.YtoemmpfcnpdblaaGreatDoorJRfE
import Derived.Test.YtoemmpfcnpdblaaGreatDoorJPairU
import Derived.Test.YtoemmpfcnpdblaaGreatDoorJFewU
set_option linter.all false
namespace Go.Proofs.YtoemmpfcnpdblaaGreatDoor
open Go Go.RowKit Go.ChangeShapes Go.Sort Go.Lib

set_option maxRecDepth 100000 in
set_option maxHeartbeats 16000000 in
theorem EntailRelates_p (w : World) (vc v u : Value) (c : Catalog) (y z : LExpr) (hg : Glob w) (hc : Is w vc c) (h : Is w v y) (h2 : Is w u z) (oy : okE y) (oz : okE z) :
  Calls Tryz.prog 4 #[vc, v, u] w fun e w' => e = .returned (.bool true) ∧ Below w.heap.size w w' := by
 obtain ⟨k0, n0, x0, a, K, k, rfl⟩ := expBox h
 obtain ⟨k1, n1, x1, b, L, l, rfl⟩ := expBox h2
 obtain ⟨a0, N0, c0, a1, N1, c1, a2, N2, c2, a3, N3, c3, rfl⟩ := catBox hc
 obtain ⟨hb0, hd, he, hf⟩ := box3 w #[.slice a0 N0 c0, .slice a1 N1 c1, .slice a2 N2 c2, .slice a3 N3 c3] #[.int .i64 k0, .string n0, .string x0, .slice a K k] #[.int .i64 k1, .string n1, .string x1, .slice b L l] 42 45 45
 have hg0 := hg.mono hb0
 have hc0 := hc.mono hb0
 have hy0 := h.mono hb0
 have hz0 := h2.mono hb0
 clear hg hc h h2
 go_enter Tryz.func4, Tryz.ntmps4
 go_wp2_with fail
 generalize (((w.alloc (.cells #[.slice a0 N0 c0, .slice a1 N1 c1, .slice a2 N2 c2, .slice a3 N3 c3] 42)).alloc (.cells #[.int .i64 k0, .string n0, .string x0, .slice a K k] 45)).alloc (.cells #[.int .i64 k1, .string n1, .string x1, .slice b L l] 45)) = w0 at *
 have HG := Lib.hid hg0
 have HC := Lib.hid hc0
 have HI := Lib.hid hy0
 have HJ := Lib.hid hz0
 have HW := Lib.hid hb0
 have D := Lib.hid hd
 have E := Lib.hid he
 have F := Lib.hid hf
 clear hd he hf
 have OY := Lib.hid oy
 have OZ := Lib.hid oz
 clear hg0 hc0 hy0 hz0 hb0 oy oz
 refine (awakeF_p _ HG.out).mono ?_
 rintro e w1 ⟨rfl, hb1⟩
 have HB1 := Lib.hid hb1
 clear hb1
 have d0 := kept HB1.out (D.out 0 _ rfl)
 have d1 := kept HB1.out (D.out 1 _ rfl)
 have d2 := kept HB1.out (D.out 2 _ rfl)
 have d3 := kept HB1.out (D.out 3 _ rfl)
 have e0 := kept HB1.out (E.out 0 _ rfl)
 have e1 := kept HB1.out (E.out 1 _ rfl)
 have e2 := kept HB1.out (E.out 2 _ rfl)
 have e3 := kept HB1.out (E.out 3 _ rfl)
 have f0 := kept HB1.out (F.out 0 _ rfl)
 have f1 := kept HB1.out (F.out 1 _ rfl)
 have f2 := kept HB1.out (F.out 2 _ rfl)
 have f3 := kept HB1.out (F.out 3 _ rfl)
 have zs1 : w.heap.size + 1 + 1 < w1.heap.size := cell_lt f0
 go_wp2_with fail
 refine (Few_ref w1 _ c (HC.out.mono HB1.out)).mono ?_
 rintro e w2 ⟨fc, rfl, hb2⟩
 have HB2 : Hid (Below w0.heap.size w0 w2) := HB1.out.trans (hb2.mono HB1.out.size)
 clear hb2 d0 d1 d2 d3 e0 e1 e2 e3 f0 f1 f2 f3
 cases fc
 case false =>
  go_wp2
  go_ret
  exact ⟨rfl, HW.out.trans (HB2.out.mono HW.out.size)⟩
 have d0 := kept HB2.out (D.out 0 _ rfl)
 have d1 := kept HB2.out (D.out 1 _ rfl)
 have d2 := kept HB2.out (D.out 2 _ rfl)
 have d3 := kept HB2.out (D.out 3 _ rfl)
 have e0 := kept HB2.out (E.out 0 _ rfl)
 have e1 := kept HB2.out (E.out 1 _ rfl)
 have e2 := kept HB2.out (E.out 2 _ rfl)
 have e3 := kept HB2.out (E.out 3 _ rfl)
 have f0 := kept HB2.out (F.out 0 _ rfl)
 have f1 := kept HB2.out (F.out 1 _ rfl)
 have f2 := kept HB2.out (F.out 2 _ rfl)
 have f3 := kept HB2.out (F.out 3 _ rfl)
 have zs2 : w.heap.size + 1 + 1 < w2.heap.size := cell_lt f0
 go_wp2_with fail
 refine (FewE_ref y OY.out w2 _ (HI.out.mono HB2.out)).mono ?_
 rintro e w3 ⟨fy, rfl, few1, hb3⟩
 have HB3 : Hid (Below w0.heap.size w0 w3) := HB2.out.trans (hb3.mono HB2.out.size)
 clear hb3 d0 d1 d2 d3 e0 e1 e2 e3 f0 f1 f2 f3
 cases fy
 case false =>
  clear few1
  go_wp2
  go_ret
  exact ⟨rfl, HW.out.trans (HB3.out.mono HW.out.size)⟩
 have FY := Lib.hid (few1 rfl)
 clear few1
 have d0 := kept HB3.out (D.out 0 _ rfl)
 have d1 := kept HB3.out (D.out 1 _ rfl)
 have d2 := kept HB3.out (D.out 2 _ rfl)
 have d3 := kept HB3.out (D.out 3 _ rfl)
 have e0 := kept HB3.out (E.out 0 _ rfl)
 have e1 := kept HB3.out (E.out 1 _ rfl)
 have e2 := kept HB3.out (E.out 2 _ rfl)
 have e3 := kept HB3.out (E.out 3 _ rfl)
 have f0 := kept HB3.out (F.out 0 _ rfl)
 have f1 := kept HB3.out (F.out 1 _ rfl)
 have f2 := kept HB3.out (F.out 2 _ rfl)
 have f3 := kept HB3.out (F.out 3 _ rfl)
 have zs3 : w.heap.size + 1 + 1 < w3.heap.size := cell_lt f0
 go_wp2_with fail
 refine (FewE_ref z OZ.out w3 _ (HJ.out.mono HB3.out)).mono ?_
 rintro e w4 ⟨fz, rfl, few2, hb4⟩
 have HB4 : Hid (Below w0.heap.size w0 w4) := HB3.out.trans (hb4.mono HB3.out.size)
 clear hb4 d0 d1 d2 d3 e0 e1 e2 e3 f0 f1 f2 f3
 cases fz
 case false =>
  clear few2
  go_wp2
  go_ret
  exact ⟨rfl, HW.out.trans (HB4.out.mono HW.out.size)⟩
 have FZ := Lib.hid (few2 rfl)
 clear few2
 have d0 := kept HB4.out (D.out 0 _ rfl)
 have d1 := kept HB4.out (D.out 1 _ rfl)
 have d2 := kept HB4.out (D.out 2 _ rfl)
 have d3 := kept HB4.out (D.out 3 _ rfl)
 have e0 := kept HB4.out (E.out 0 _ rfl)
 have e1 := kept HB4.out (E.out 1 _ rfl)
 have e2 := kept HB4.out (E.out 2 _ rfl)
 have e3 := kept HB4.out (E.out 3 _ rfl)
 have f0 := kept HB4.out (F.out 0 _ rfl)
 have f1 := kept HB4.out (F.out 1 _ rfl)
 have f2 := kept HB4.out (F.out 2 _ rfl)
 have f3 := kept HB4.out (F.out 3 _ rfl)
 have zs4 : w.heap.size + 1 + 1 < w4.heap.size := cell_lt f0
 go_wp2_with fail
 refine (Light_p c y w4 _ _ (HC.out.mono HB4.out) (HI.out.mono HB4.out)).mono ?_
 rintro e w5 ⟨fl, rfl, hb5⟩
 have HB5 : Hid (Below w0.heap.size w0 w5) := HB4.out.trans (hb5.mono HB4.out.size)
 clear hb5 d0 d1 d2 d3 e0 e1 e2 e3 f0 f1 f2 f3
 cases fl
 case false =>
  go_wp2
  go_ret
  exact ⟨rfl, HW.out.trans (HB5.out.mono HW.out.size)⟩
 have d0 := kept HB5.out (D.out 0 _ rfl)
 have d1 := kept HB5.out (D.out 1 _ rfl)
 have d2 := kept HB5.out (D.out 2 _ rfl)
 have d3 := kept HB5.out (D.out 3 _ rfl)
 have e0 := kept HB5.out (E.out 0 _ rfl)
 have e1 := kept HB5.out (E.out 1 _ rfl)
 have e2 := kept HB5.out (E.out 2 _ rfl)
 have e3 := kept HB5.out (E.out 3 _ rfl)
 have f0 := kept HB5.out (F.out 0 _ rfl)
 have f1 := kept HB5.out (F.out 1 _ rfl)
 have f2 := kept HB5.out (F.out 2 _ rfl)
 have f3 := kept HB5.out (F.out 3 _ rfl)
 have zs5 : w.heap.size + 1 + 1 < w5.heap.size := cell_lt f0
 go_wp2_with fail
 refine (Light_p c z w5 _ _ (HC.out.mono HB5.out) (HJ.out.mono HB5.out)).mono ?_
 rintro e w6 ⟨fm, rfl, hb6⟩
 have HB6 : Hid (Below w0.heap.size w0 w6) := HB5.out.trans (hb6.mono HB5.out.size)
 clear hb6 d0 d1 d2 d3 e0 e1 e2 e3 f0 f1 f2 f3
 cases fm
 case false =>
  go_wp2
  go_ret
  exact ⟨rfl, HW.out.trans (HB6.out.mono HW.out.size)⟩
 have hr := fun W (hb : Below w0.heap.size w0 W) => Relate_p c y z (.inl pairsC) (.inl pairsC) (by have := FY.out; omega) (by have := FZ.out; omega) W _ _ _ (HG.out.mono hb) (HC.out.mono hb) (HI.out.mono hb) (HJ.out.mono hb)
 have hs := fun W (hb : Below w0.heap.size w0 W) => Relate_ref c y z (by have := FY.out; omega) (by have := FZ.out; omega) W _ _ _ (HC.out.mono hb) (HI.out.mono hb) (HJ.out.mono hb)
 generalize relateP c y z = rp at hr hs
 obtain ⟨r, g⟩ := rp
 have d0 := kept HB6.out (D.out 0 _ rfl)
 have d1 := kept HB6.out (D.out 1 _ rfl)
 have d2 := kept HB6.out (D.out 2 _ rfl)
 have d3 := kept HB6.out (D.out 3 _ rfl)
 have e0 := kept HB6.out (E.out 0 _ rfl)
 have e1 := kept HB6.out (E.out 1 _ rfl)
 have e2 := kept HB6.out (E.out 2 _ rfl)
 have e3 := kept HB6.out (E.out 3 _ rfl)
 have f0 := kept HB6.out (F.out 0 _ rfl)
 have f1 := kept HB6.out (F.out 1 _ rfl)
 have f2 := kept HB6.out (F.out 2 _ rfl)
 have f3 := kept HB6.out (F.out 3 _ rfl)
 have zs6 : w.heap.size + 1 + 1 < w6.heap.size := cell_lt f0
 go_wp2_with fail
 refine (hr w6 HB6.out).mono ?_
 rintro e w7 ⟨rfl, hb7⟩
 have HB7 : Hid (Below w0.heap.size w0 w7) := HB6.out.trans (hb7.mono HB6.out.size)
 clear hb7 hr d0 d1 d2 d3 e0 e1 e2 e3 f0 f1 f2 f3
 have d0 := kept HB7.out (D.out 0 _ rfl)
 have d1 := kept HB7.out (D.out 1 _ rfl)
 have d2 := kept HB7.out (D.out 2 _ rfl)
 have d3 := kept HB7.out (D.out 3 _ rfl)
 have e0 := kept HB7.out (E.out 0 _ rfl)
 have e1 := kept HB7.out (E.out 1 _ rfl)
 have e2 := kept HB7.out (E.out 2 _ rfl)
 have e3 := kept HB7.out (E.out 3 _ rfl)
 have f0 := kept HB7.out (F.out 0 _ rfl)
 have f1 := kept HB7.out (F.out 1 _ rfl)
 have f2 := kept HB7.out (F.out 2 _ rfl)
 have f3 := kept HB7.out (F.out 3 _ rfl)
 have zs7 : w.heap.size + 1 + 1 < w7.heap.size := cell_lt f0
 go_wp2_with fail
 refine (hs w7 HB7.out).mono ?_
 rintro e w8 ⟨rfl, hb8⟩
 have HB8 : Hid (Below w0.heap.size w0 w8) := HB7.out.trans (hb8.mono HB7.out.size)
 clear hb8 hs d0 d1 d2 d3 e0 e1 e2 e3 f0 f1 f2 f3
 have q1 : (r == r) = true := by simp
 have q2 : (g == g) = true := by simp
 go_wp2
 go_ret
 exact ⟨ret_b (by simp), HW.out.trans (HB8.out.mono HW.out.size)⟩
end Go.Proofs.YtoemmpfcnpdblaaGreatDoor
