/- Are a catalog and an expression small? -/
import Derived.Test.YtaaobpicaaeiiaaGreatDoorJR33U
import Derived.Test.YtaaobpicaaeiiaaGreatDoorJFewU
import Derived.Test.YtaaobpicaaeiiaaGreatDoorJRfE
set_option linter.all false
namespace Go.Proofs.YtaaobpicaaeiiaaGreatDoor
open Go Go.RowKit Go.ChangeShapes Go.Sort Go.Lib

def SmO (y : LExpr) (w : World) (e : Ending) (w' : World) : Prop := ∃ b, e = .returned (.bool b) ∧ (b = true → sizeE y ≤ 120) ∧ Below w.heap.size w w'
set_option maxRecDepth 100000 in
set_option maxHeartbeats 4000000 in
theorem small_p (w : World) (vc v : Value) (c : Catalog) (y : LExpr) (hc : Is w vc c) (h : Is w v y) (oy : okE y) : Calls Tryz.prog 12 #[vc, v] w fun e w' => SmO y w e w' := by
 obtain ⟨k0, n0, x0, a, K, k, rfl⟩ := expBox h
 obtain ⟨a0, N0, c0, a1, N1, c1, a2, N2, c2, a3, N3, c3, rfl⟩ := catBox hc
 obtain ⟨hb0, hd, he⟩ := box2 w #[.slice a0 N0 c0, .slice a1 N1 c1, .slice a2 N2 c2, .slice a3 N3 c3] #[.int .i64 k0, .string n0, .string x0, .slice a K k] 27 30
 have HC := Lib.hid (hc.mono hb0)
 have HI := Lib.hid (h.mono hb0)
 have HW := Lib.hid hb0
 have OY := Lib.hid oy
 have d0 := hd 0 _ rfl
 have d1 := hd 1 _ rfl
 have d2 := hd 2 _ rfl
 have d3 := hd 3 _ rfl
 have e0 := he 0 _ rfl
 have e1 := he 1 _ rfl
 have e2 := he 2 _ rfl
 have e3 := he 3 _ rfl
 clear hd he hb0 hc h oy
 go_enter Tryz.func12, Tryz.ntmps12
 go_wp2_with fail
 generalize ((w.alloc (.cells #[.slice a0 N0 c0, .slice a1 N1 c1, .slice a2 N2 c2, .slice a3 N3 c3] 27)).alloc (.cells #[.int .i64 k0, .string n0, .string x0, .slice a K k] 30)) = w0 at *
 have D0 := Lib.hid d0
 have D1 := Lib.hid d1
 have D2 := Lib.hid d2
 have D3 := Lib.hid d3
 have E0 := Lib.hid e0
 have E1 := Lib.hid e1
 have E2 := Lib.hid e2
 have E3 := Lib.hid e3
 clear d0 d1 d2 d3 e0 e1 e2 e3
 refine (Few_ref w0 _ c HC.out).mono ?_
 rintro e w2 ⟨fc, rfl, hb2⟩
 have HB2 := Lib.hid hb2
 clear hb2
 cases fc
 case false =>
  go_wp2
  go_ret
  exact ⟨false, rfl, (fun h => by cases h), HW.out.trans (HB2.out.mono HW.out.size)⟩
 have e0 := kept HB2.out E0.out
 have e1 := kept HB2.out E1.out
 have e2 := kept HB2.out E2.out
 have e3 := kept HB2.out E3.out
 have s0 := cell_lt e0
 go_wp2_with fail
 refine (FewE_ref y OY.out w2 _ (HI.out.mono HB2.out)).mono ?_
 rintro e w3 ⟨fy, rfl, few1, hb3⟩
 have HB3 : Hid (Below w0.heap.size w0 w3) := HB2.out.trans (hb3.mono HB2.out.size)
 have FY := Lib.hid few1
 clear hb3 few1 e0 e1 e2 e3 s0
 cases fy
 case false =>
  go_wp2
  go_ret
  exact ⟨false, rfl, (fun h => by cases h), HW.out.trans (HB3.out.mono HW.out.size)⟩
 have d0 := kept HB3.out D0.out
 have d1 := kept HB3.out D1.out
 have d2 := kept HB3.out D2.out
 have d3 := kept HB3.out D3.out
 have e0 := kept HB3.out E0.out
 have e1 := kept HB3.out E1.out
 have e2 := kept HB3.out E2.out
 have e3 := kept HB3.out E3.out
 have s0 := cell_lt e0
 have s1 := cell_lt d0
 go_wp2_with fail
 refine (Light_p c y w3 _ _ (HC.out.mono HB3.out) (HI.out.mono HB3.out)).mono ?_
 rintro e w4 ⟨fl, rfl, hb4⟩
 have HB4 : Hid (Below w0.heap.size w0 w4) := HB3.out.trans (hb4.mono HB3.out.size)
 clear hb4 d0 d1 d2 d3 e0 e1 e2 e3 s0 s1
 go_wp2
 go_ret
 exact ⟨fl, rfl, fun _ => FY.out (by first | rfl | trivial), HW.out.trans (HB4.out.mono HW.out.size)⟩
end Go.Proofs.YtaaobpicaaeiiaaGreatDoor
