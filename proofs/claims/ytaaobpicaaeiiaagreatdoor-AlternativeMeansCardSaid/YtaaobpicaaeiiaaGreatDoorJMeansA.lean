/- The law: Of returns the meaning that the definition specifies (printed by gen/law33.py). -/
import Derived.Test.YtaaobpicaaeiiaaGreatDoorJR33U
import Derived.Test.YtaaobpicaaeiiaaGreatDoorJAwG
import Derived.Test.YtaaobpicaaeiiaaGreatDoorJRfE
import Derived.Test.YtaaobpicaaeiiaaGreatDoorJSmal
set_option linter.all false
namespace Go.Proofs.YtaaobpicaaeiiaaGreatDoor
open Go Go.RowKit Go.ChangeShapes Go.Sort Go.Lib

set_option maxRecDepth 100000 in
set_option maxHeartbeats 8000000 in
theorem AlternativeMeans_p (w : World) (vc v : Value) (c : Catalog) (y : LExpr) (hg : Glob w) (hc : Is w vc c) (h : Is w v y) (oy : okE y) : Calls Tryz.prog 3 #[vc, v] w fun e w' => e = .returned (.bool true) ∧ Below w.heap.size w w' := by
 obtain ⟨k0, n0, x0, a, K, k, rfl⟩ := expBox h
 obtain ⟨a0, N0, c0, a1, N1, c1, a2, N2, c2, a3, N3, c3, rfl⟩ := catBox hc
 obtain ⟨hb0, hd, he⟩ := box2 w #[.slice a0 N0 c0, .slice a1 N1 c1, .slice a2 N2 c2, .slice a3 N3 c3] #[.int .i64 k0, .string n0, .string x0, .slice a K k] 27 30
 have HG := Lib.hid (hg.mono hb0)
 have HC := Lib.hid (hc.mono hb0)
 have HI := Lib.hid (h.mono hb0)
 have HW := Lib.hid hb0
 have OY := Lib.hid oy
 have d0 := hd 0 _ rfl
 have d1 := hd 1 _ rfl
 have d2 := hd 2 _ rfl
 have d3 := hd 3 _ rfl
 have e0 := he 0 _ rfl
 have e1 := he 1 _ rfl
 have e2 := he 2 _ rfl
 have e3 := he 3 _ rfl
 clear hd he hb0 hc h oy hg
 go_enter Tryz.func3, Tryz.ntmps3
 go_wp2_with fail
 generalize ((w.alloc (.cells #[.slice a0 N0 c0, .slice a1 N1 c1, .slice a2 N2 c2, .slice a3 N3 c3] 27)).alloc (.cells #[.int .i64 k0, .string n0, .string x0, .slice a K k] 30)) = w0 at *
 have D0 := Lib.hid d0
 have D1 := Lib.hid d1
 have D2 := Lib.hid d2
 have D3 := Lib.hid d3
 have E0 := Lib.hid e0
 have E1 := Lib.hid e1
 have E2 := Lib.hid e2
 have E3 := Lib.hid e3
 clear d0 d1 d2 d3 e0 e1 e2 e3
 refine (awakeG_p _ HG.out).mono ?_
 rintro e w1 ⟨rfl, hb1⟩
 have HB1 := Lib.hid hb1
 clear hb1
 have d0 := kept HB1.out D0.out
 have d1 := kept HB1.out D1.out
 have d2 := kept HB1.out D2.out
 have d3 := kept HB1.out D3.out
 have e0 := kept HB1.out E0.out
 have e1 := kept HB1.out E1.out
 have e2 := kept HB1.out E2.out
 have e3 := kept HB1.out E3.out
 have s0 := cell_lt e0
 have s1 := cell_lt d0
 go_wp2_with fail
 refine (small_p w1 _ _ c y (HC.out.mono HB1.out) (HI.out.mono HB1.out) OY.out).mono ?_
 unfold SmO
 rintro e w2 ⟨fs, rfl, few, hb2⟩
 have HB2 : Hid (Below w0.heap.size w0 w2) := HB1.out.trans (hb2.mono HB1.out.size)
 clear hb2 d0 d1 d2 d3 e0 e1 e2 e3 s0 s1
 cases fs
 case false =>
  clear few
  go_wp2
  go_ret
  exact ⟨rfl, HW.out.trans (HB2.out.mono HW.out.size)⟩
 have HFE := Lib.hid (few rfl)
 clear few
 have d0 := kept HB2.out D0.out
 have d1 := kept HB2.out D1.out
 have d2 := kept HB2.out D2.out
 have d3 := kept HB2.out D3.out
 have e0 := kept HB2.out E0.out
 have e1 := kept HB2.out E1.out
 have e2 := kept HB2.out E2.out
 have e3 := kept HB2.out E3.out
 have s0 := cell_lt e0
 have s1 := cell_lt d0
 have hp := Of_p c y (.inl pairsC) (by have := HFE.out; omega) w2 _ _ (HG.out.mono HB2.out) (HC.out.mono HB2.out) (HI.out.mono HB2.out)
 have hr := fun W (hb : Below w0.heap.size w0 W) => Of_ref c y (by have := HFE.out; omega) W _ _ (HC.out.mono hb) (HI.out.mono hb)
 generalize ofP c y = pp at hp hr
 obtain ⟨l, f⟩ := pp
 unfold MeO at hp
 unfold OfO at hr
 have HR := Lib.hid hr
 clear hr
 go_wp2_with fail
 refine hp.mono ?_
 rintro e w3 ⟨v3, rfl, ho3, hb3⟩
 have HB3 : Hid (Below w0.heap.size w0 w3) := HB2.out.trans (hb3.mono HB2.out.size)
 have I3 := Lib.hid ho3.is
 obtain ⟨a3', c3', rfl, -⟩ := list_inv ho3.is
 clear hp hb3 ho3 d0 d1 d2 d3 e0 e1 e2 e3 s0 s1
 have d0 := kept HB3.out D0.out
 have d1 := kept HB3.out D1.out
 have d2 := kept HB3.out D2.out
 have d3 := kept HB3.out D3.out
 have e0 := kept HB3.out E0.out
 have e1 := kept HB3.out E1.out
 have e2 := kept HB3.out E2.out
 have e3 := kept HB3.out E3.out
 have s0 := cell_lt e0
 have s1 := cell_lt d0
 go_wp2_with fail
 refine (HR.out w3 HB3.out).mono ?_
 rintro e w4 ⟨v4, rfl, hi4, hb4⟩
 have HB4 : Hid (Below w0.heap.size w0 w4) := HB3.out.trans (hb4.mono HB3.out.size)
 have I4 := Lib.hid (show Is w4 v4 l from hi4)
 have J3 := Lib.hid (I3.out.mono hb4)
 obtain ⟨a4', c4', rfl, -⟩ := list_inv I4.out
 have hcall := SameA_ref w4 _ _ l l J3.out I4.out
 rw [decide_eq_true rfl] at hcall
 clear hb4 hi4 d0 d1 d2 d3 e0 e1 e2 e3 s0 s1
 generalize l.length = N at *
 go_wp2_with fail
 refine hcall.mono ?_
 rintro e w5 ⟨rfl, hb5⟩
 have HB5 : Hid (Below w0.heap.size w0 w5) := HB4.out.trans (hb5.mono HB4.out.size)
 clear hcall hb5
 go_wp2
 go_ret
 exact ⟨ret_b (by simp), HW.out.trans (HB5.out.mono HW.out.size)⟩
end Go.Proofs.YtaaobpicaaeiiaaGreatDoor
