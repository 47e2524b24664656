/- The law: an expression with a further part (printed by gen/parts.py). -/
import Derived.Test.YtoemmpfcnpdblaaGreatDoorJLexU
import Derived.Test.YtoemmpfcnpdblaaGreatDoorJAwU
import Derived.Test.YtoemmpfcnpdblaaGreatDoorJWgt
import Derived.Test.YtoemmpfcnpdblaaGreatDoorJPartL
import Derived.Test.YtoemmpfcnpdblaaGreatDoorJPairU
import Derived.Test.YtoemmpfcnpdblaaGreatDoorJFewU
set_option linter.all false
namespace Go.Proofs.YtoemmpfcnpdblaaGreatDoor
open Go Go.RowKit Go.ChangeShapes Go.Sort Go.Lib

theorem two_expr {w : World} {k k0 k1 : Int} {n x n0 x0 n1 x1 : ByteArray} {a b : Option Addr} {K c L d : Nat} {y z : LExpr} (hk : inI64 k) (hn : n.size ≤ maxLen) (hx : x.size ≤ maxLen)
  (h : Is w (.agg #[.int .i64 k0, .string n0, .string x0, .slice a K c]) y) (h2 : Is w (.agg #[.int .i64 k1, .string n1, .string x1, .slice b L d]) z) {g : Nat} (hg : g = w.heap.size) (t : TypeId) :
  Is (w.alloc (.cells #[.int .i64 k0, .string n0, .string x0, .slice a K c, .int .i64 k1, .string n1, .string x1, .slice b L d] t)) (.agg #[.int .i64 k, .string n, .string x, .slice (some ⟨g, 0, none⟩) 2 2]) (LExpr.mk k n x [y, z]) := by
 subst hg
 have hba : Below w.heap.size w (w.alloc (.cells #[.int .i64 k0, .string n0, .string x0, .slice a K c, .int .i64 k1, .string n1, .string x1, .slice b L d] t)) := (Below.refl _ _).alloc (Nat.le_refl _) _
 refine LExpr.mk' (ks := [y, z]) hk hn hx (Nat.le_refl _) (show (2 : Nat) ≤ maxLen by decide) fun i e he => ⟨w.heap.size, 0, rfl, by rw [World.size_alloc]; exact Nat.lt_succ_self _, ?_⟩
 obtain ⟨cs, hs, hv, hl⟩ := h
 obtain ⟨cs2, hs2, hv2, hl2⟩ := h2
 have e1 : cs = #[.int .i64 k0, .string n0, .string x0, .slice a K c] := (Value.agg.inj hv).symm
 have e2 : cs2 = #[.int .i64 k1, .string n1, .string x1, .slice b L d] := (Value.agg.inj hv2).symm
 subst e1 e2
 match i, he with
 | 0, he =>
  cases he
  refine Lay.congr (α := LExpr) (fun j hj => ?_) (Lay.mono (α := LExpr) hba hl)
  match j, hj with
  | 0, _ => simp [show Lay.n LExpr = 4 from rfl]
  | 1, _ => simp [show Lay.n LExpr = 4 from rfl]
  | 2, _ => simp [show Lay.n LExpr = 4 from rfl]
  | 3, _ => simp [show Lay.n LExpr = 4 from rfl]
  | j + 4, hj => exact absurd hj (by show ¬ j + 4 < 4; omega)
 | 1, he =>
  cases he
  refine Lay.congr (α := LExpr) (fun j hj => ?_) (Lay.mono (α := LExpr) hba hl2)
  match j, hj with
  | 0, _ => simp [show Lay.n LExpr = 4 from rfl]
  | 1, _ => simp [show Lay.n LExpr = 4 from rfl]
  | 2, _ => simp [show Lay.n LExpr = 4 from rfl]
  | 3, _ => simp [show Lay.n LExpr = 4 from rfl]
  | j + 4, hj => exact absurd hj (by show ¬ j + 4 < 4; omega)
 | i + 2, he => simp at he
theorem name_expr {w : World} {k : Int} {n x : ByteArray} (hk : inI64 k) (hn : n.size ≤ maxLen) (hx : x.size ≤ maxLen) : Is w (.agg #[.int .i64 k, .string n, .string x, .slice none 0 0]) (LExpr.mk k n x []) :=
 LExpr.mk' (ks := []) hk hn hx (Nat.le_refl _) (by decide) fun i e he => by simp at he
set_option maxRecDepth 100000 in
set_option maxHeartbeats 16000000 in
theorem EntailParts_p (w : World) (vc v u : Value) (c : Catalog) (y z : LExpr) (hg : Glob w) (hc : Is w vc c) (h : Is w v y) (h2 : Is w u z) (oy : okE y) (oz : okE z) :
  Calls Tryz.prog 6 #[vc, v, u] w fun e w' => e = .returned (.bool true) ∧ Below w.heap.size w w' := by
 obtain ⟨k0, n0, x0, a, K, k, rfl⟩ := expBox h
 obtain ⟨k1, n1, x1, b, L, l, rfl⟩ := expBox h2
 have HCw := Lib.hid hc
 obtain ⟨a0, c0, a1, c1, a2, c2, a3, c3, rfl, l0, m0, r0, l1, m1, r1, l2, m2, r2, l3, m3, r3⟩ := Catalog.inv hc
 have R0 := Lib.hid r0
 have hN0 : c.licenses.length ≤ 9223372036854775807 := by simp only [maxLen] at m0; omega
 clear r0 r1 r2 r3 m0 m1 m2 m3 l0 l1 l2 l3
 generalize hN : c.licenses.length = N0 at *
 have HN := Lib.hid hN
 clear hN
 generalize c.exceptions.length = N1 at *
 generalize c.clauses.length = N2 at *
 generalize c.apart.length = N3 at *
 have hb0 : Below w.heap.size w (((w.alloc (.cells #[.slice a0 N0 c0, .slice a1 N1 c1, .slice a2 N2 c2, .slice a3 N3 c3] 42)).alloc (.cells #[.int .i64 k0, .string n0, .string x0, .slice a K k] 45)).alloc (.cells #[.int .i64 k1, .string n1, .string x1, .slice b L l] 45)) := (by first | ((repeat (first | exact Below.refl _ _ | assumption | refine Below.drewN ?_ _ | refine Below.drew ?_ | refine Below.alloc ?_ (by first | exact Nat.le_refl _ | (simp; done) | (simp; omega) | omega) _ | refine Below.setCell ?_ (by first | exact Nat.le_refl _ | (simp; done) | (simp; omega) | omega) _ | refine Below.trans ?_ (Below.mono (by assumption) (by first | exact Nat.le_refl _ | (simp; done) | (simp; omega) | omega)))); done) | fail)
 have hba : Below ((w.alloc (.cells #[.slice a0 N0 c0, .slice a1 N1 c1, .slice a2 N2 c2, .slice a3 N3 c3] 42)).alloc (.cells #[.int .i64 k0, .string n0, .string x0, .slice a K k] 45)).heap.size ((w.alloc (.cells #[.slice a0 N0 c0, .slice a1 N1 c1, .slice a2 N2 c2, .slice a3 N3 c3] 42)).alloc (.cells #[.int .i64 k0, .string n0, .string x0, .slice a K k] 45)) (((w.alloc (.cells #[.slice a0 N0 c0, .slice a1 N1 c1, .slice a2 N2 c2, .slice a3 N3 c3] 42)).alloc (.cells #[.int .i64 k0, .string n0, .string x0, .slice a K k] 45)).alloc (.cells #[.int .i64 k1, .string n1, .string x1, .slice b L l] 45)) := (by first | ((repeat (first | exact Below.refl _ _ | assumption | refine Below.drewN ?_ _ | refine Below.drew ?_ | refine Below.alloc ?_ (by first | exact Nat.le_refl _ | (simp; done) | (simp; omega) | omega) _ | refine Below.setCell ?_ (by first | exact Nat.le_refl _ | (simp; done) | (simp; omega) | omega) _ | refine Below.trans ?_ (Below.mono (by assumption) (by first | exact Nat.le_refl _ | (simp; done) | (simp; omega) | omega)))); done) | fail)
 have hnew := World.alloc_heap_new ((w.alloc (.cells #[.slice a0 N0 c0, .slice a1 N1 c1, .slice a2 N2 c2, .slice a3 N3 c3] 42)).alloc (.cells #[.int .i64 k0, .string n0, .string x0, .slice a K k] 45)) (.cells #[.int .i64 k1, .string n1, .string x1, .slice b L l] 45)
 simp only [World.size_alloc] at hnew
 have d0 : (((w.alloc (.cells #[.slice a0 N0 c0, .slice a1 N1 c1, .slice a2 N2 c2, .slice a3 N3 c3] 42)).alloc (.cells #[.int .i64 k0, .string n0, .string x0, .slice a K k] 45)).alloc (.cells #[.int .i64 k1, .string n1, .string x1, .slice b L l] 45)).cell? ⟨w.heap.size, 0, none⟩ = some (.slice a0 N0 c0) := kept hba (a := ⟨w.heap.size, 0, none⟩) (v := .slice a0 N0 c0) (kept (by first | ((repeat (first | exact Below.refl _ _ | assumption | refine Below.drewN ?_ _ | refine Below.drew ?_ | refine Below.alloc ?_ (by first | exact Nat.le_refl _ | (simp; done) | (simp; omega) | omega) _ | refine Below.setCell ?_ (by first | exact Nat.le_refl _ | (simp; done) | (simp; omega) | omega) _ | refine Below.trans ?_ (Below.mono (by assumption) (by first | exact Nat.le_refl _ | (simp; done) | (simp; omega) | omega)))); done) | fail) (a := ⟨w.heap.size, 0, none⟩) (v := .slice a0 N0 c0) (by simp))
 have d1 : (((w.alloc (.cells #[.slice a0 N0 c0, .slice a1 N1 c1, .slice a2 N2 c2, .slice a3 N3 c3] 42)).alloc (.cells #[.int .i64 k0, .string n0, .string x0, .slice a K k] 45)).alloc (.cells #[.int .i64 k1, .string n1, .string x1, .slice b L l] 45)).cell? ⟨w.heap.size, 1, none⟩ = some (.slice a1 N1 c1) := kept hba (a := ⟨w.heap.size, 1, none⟩) (v := .slice a1 N1 c1) (kept (by first | ((repeat (first | exact Below.refl _ _ | assumption | refine Below.drewN ?_ _ | refine Below.drew ?_ | refine Below.alloc ?_ (by first | exact Nat.le_refl _ | (simp; done) | (simp; omega) | omega) _ | refine Below.setCell ?_ (by first | exact Nat.le_refl _ | (simp; done) | (simp; omega) | omega) _ | refine Below.trans ?_ (Below.mono (by assumption) (by first | exact Nat.le_refl _ | (simp; done) | (simp; omega) | omega)))); done) | fail) (a := ⟨w.heap.size, 1, none⟩) (v := .slice a1 N1 c1) (by simp))
 have d2 : (((w.alloc (.cells #[.slice a0 N0 c0, .slice a1 N1 c1, .slice a2 N2 c2, .slice a3 N3 c3] 42)).alloc (.cells #[.int .i64 k0, .string n0, .string x0, .slice a K k] 45)).alloc (.cells #[.int .i64 k1, .string n1, .string x1, .slice b L l] 45)).cell? ⟨w.heap.size, 2, none⟩ = some (.slice a2 N2 c2) := kept hba (a := ⟨w.heap.size, 2, none⟩) (v := .slice a2 N2 c2) (kept (by first | ((repeat (first | exact Below.refl _ _ | assumption | refine Below.drewN ?_ _ | refine Below.drew ?_ | refine Below.alloc ?_ (by first | exact Nat.le_refl _ | (simp; done) | (simp; omega) | omega) _ | refine Below.setCell ?_ (by first | exact Nat.le_refl _ | (simp; done) | (simp; omega) | omega) _ | refine Below.trans ?_ (Below.mono (by assumption) (by first | exact Nat.le_refl _ | (simp; done) | (simp; omega) | omega)))); done) | fail) (a := ⟨w.heap.size, 2, none⟩) (v := .slice a2 N2 c2) (by simp))
 have d3 : (((w.alloc (.cells #[.slice a0 N0 c0, .slice a1 N1 c1, .slice a2 N2 c2, .slice a3 N3 c3] 42)).alloc (.cells #[.int .i64 k0, .string n0, .string x0, .slice a K k] 45)).alloc (.cells #[.int .i64 k1, .string n1, .string x1, .slice b L l] 45)).cell? ⟨w.heap.size, 3, none⟩ = some (.slice a3 N3 c3) := kept hba (a := ⟨w.heap.size, 3, none⟩) (v := .slice a3 N3 c3) (kept (by first | ((repeat (first | exact Below.refl _ _ | assumption | refine Below.drewN ?_ _ | refine Below.drew ?_ | refine Below.alloc ?_ (by first | exact Nat.le_refl _ | (simp; done) | (simp; omega) | omega) _ | refine Below.setCell ?_ (by first | exact Nat.le_refl _ | (simp; done) | (simp; omega) | omega) _ | refine Below.trans ?_ (Below.mono (by assumption) (by first | exact Nat.le_refl _ | (simp; done) | (simp; omega) | omega)))); done) | fail) (a := ⟨w.heap.size, 3, none⟩) (v := .slice a3 N3 c3) (by simp))
 have e0 : (((w.alloc (.cells #[.slice a0 N0 c0, .slice a1 N1 c1, .slice a2 N2 c2, .slice a3 N3 c3] 42)).alloc (.cells #[.int .i64 k0, .string n0, .string x0, .slice a K k] 45)).alloc (.cells #[.int .i64 k1, .string n1, .string x1, .slice b L l] 45)).cell? ⟨w.heap.size + 1, 0, none⟩ = some (.int .i64 k0) := kept hba (a := ⟨w.heap.size + 1, 0, none⟩) (v := .int .i64 k0) (by simp)
 have e1 : (((w.alloc (.cells #[.slice a0 N0 c0, .slice a1 N1 c1, .slice a2 N2 c2, .slice a3 N3 c3] 42)).alloc (.cells #[.int .i64 k0, .string n0, .string x0, .slice a K k] 45)).alloc (.cells #[.int .i64 k1, .string n1, .string x1, .slice b L l] 45)).cell? ⟨w.heap.size + 1, 1, none⟩ = some (.string n0) := kept hba (a := ⟨w.heap.size + 1, 1, none⟩) (v := .string n0) (by simp)
 have e2 : (((w.alloc (.cells #[.slice a0 N0 c0, .slice a1 N1 c1, .slice a2 N2 c2, .slice a3 N3 c3] 42)).alloc (.cells #[.int .i64 k0, .string n0, .string x0, .slice a K k] 45)).alloc (.cells #[.int .i64 k1, .string n1, .string x1, .slice b L l] 45)).cell? ⟨w.heap.size + 1, 2, none⟩ = some (.string x0) := kept hba (a := ⟨w.heap.size + 1, 2, none⟩) (v := .string x0) (by simp)
 have e3 : (((w.alloc (.cells #[.slice a0 N0 c0, .slice a1 N1 c1, .slice a2 N2 c2, .slice a3 N3 c3] 42)).alloc (.cells #[.int .i64 k0, .string n0, .string x0, .slice a K k] 45)).alloc (.cells #[.int .i64 k1, .string n1, .string x1, .slice b L l] 45)).cell? ⟨w.heap.size + 1, 3, none⟩ = some (.slice a K k) := kept hba (a := ⟨w.heap.size + 1, 3, none⟩) (v := .slice a K k) (by simp)
 have f0 : (((w.alloc (.cells #[.slice a0 N0 c0, .slice a1 N1 c1, .slice a2 N2 c2, .slice a3 N3 c3] 42)).alloc (.cells #[.int .i64 k0, .string n0, .string x0, .slice a K k] 45)).alloc (.cells #[.int .i64 k1, .string n1, .string x1, .slice b L l] 45)).cell? ⟨w.heap.size + 1 + 1, 0, none⟩ = some (.int .i64 k1) := objcell2 hnew (j := 0) rfl
 have f1 : (((w.alloc (.cells #[.slice a0 N0 c0, .slice a1 N1 c1, .slice a2 N2 c2, .slice a3 N3 c3] 42)).alloc (.cells #[.int .i64 k0, .string n0, .string x0, .slice a K k] 45)).alloc (.cells #[.int .i64 k1, .string n1, .string x1, .slice b L l] 45)).cell? ⟨w.heap.size + 1 + 1, 1, none⟩ = some (.string n1) := objcell2 hnew (j := 1) rfl
 have f2 : (((w.alloc (.cells #[.slice a0 N0 c0, .slice a1 N1 c1, .slice a2 N2 c2, .slice a3 N3 c3] 42)).alloc (.cells #[.int .i64 k0, .string n0, .string x0, .slice a K k] 45)).alloc (.cells #[.int .i64 k1, .string n1, .string x1, .slice b L l] 45)).cell? ⟨w.heap.size + 1 + 1, 2, none⟩ = some (.string x1) := objcell2 hnew (j := 2) rfl
 have f3 : (((w.alloc (.cells #[.slice a0 N0 c0, .slice a1 N1 c1, .slice a2 N2 c2, .slice a3 N3 c3] 42)).alloc (.cells #[.int .i64 k0, .string n0, .string x0, .slice a K k] 45)).alloc (.cells #[.int .i64 k1, .string n1, .string x1, .slice b L l] 45)).cell? ⟨w.heap.size + 1 + 1, 3, none⟩ = some (.slice b L l) := objcell2 hnew (j := 3) rfl
 have hg0 := hg.mono hb0
 have hc0 := hc.mono hb0
 have hy0 := h.mono hb0
 have hz0 := h2.mono hb0
 clear hba hnew hg hc h h2
 go_enter Tryz.func6, Tryz.ntmps6
 go_wp2_with fail
 generalize (((w.alloc (.cells #[.slice a0 N0 c0, .slice a1 N1 c1, .slice a2 N2 c2, .slice a3 N3 c3] 42)).alloc (.cells #[.int .i64 k0, .string n0, .string x0, .slice a K k] 45)).alloc (.cells #[.int .i64 k1, .string n1, .string x1, .slice b L l] 45)) = w0 at *
 have HG := Lib.hid hg0
 have HC := Lib.hid hc0
 have HI := Lib.hid hy0
 have HJ := Lib.hid hz0
 have HW := Lib.hid hb0
 have D0 := Lib.hid d0
 have D1 := Lib.hid d1
 have D2 := Lib.hid d2
 have D3 := Lib.hid d3
 have E0 := Lib.hid e0
 have E1 := Lib.hid e1
 have E2 := Lib.hid e2
 have E3 := Lib.hid e3
 have F0 := Lib.hid f0
 have F1 := Lib.hid f1
 have F2 := Lib.hid f2
 have F3 := Lib.hid f3
 have OY := Lib.hid oy
 have OZ := Lib.hid oz
 clear hg0 hc0 hy0 hz0 hb0 d0 d1 d2 d3 e0 e1 e2 e3 f0 f1 f2 f3 oy oz
 refine (awakeF_p _ HG.out).mono ?_
 rintro e w1 ⟨rfl, hb1⟩
 have HB1 := Lib.hid hb1
 clear hb1
 have d0 := kept HB1.out D0.out
 have d1 := kept HB1.out D1.out
 have d2 := kept HB1.out D2.out
 have d3 := kept HB1.out D3.out
 have e0 := kept HB1.out E0.out
 have e1 := kept HB1.out E1.out
 have e2 := kept HB1.out E2.out
 have e3 := kept HB1.out E3.out
 have f0 := kept HB1.out F0.out
 have f1 := kept HB1.out F1.out
 have f2 := kept HB1.out F2.out
 have f3 := kept HB1.out F3.out
 have zs1 : w.heap.size + 1 + 1 < w1.heap.size := cell_lt (kept HB1.out F0.out)
 go_wp2_with fail
 refine (Few_ref w1 _ c (HC.out.mono HB1.out)).mono ?_
 rintro e w2 ⟨fc, rfl, hb2⟩
 have HB2 : Hid (Below w0.heap.size w0 w2) := HB1.out.trans (hb2.mono HB1.out.size)
 clear hb2 d0 d1 d2 d3 e0 e1 e2 e3 f0 f1 f2 f3
 cases fc
 case false =>
  go_wp2
  go_ret
  exact ⟨rfl, HW.out.trans (HB2.out.mono HW.out.size)⟩
 have d0 := kept HB2.out D0.out
 have d1 := kept HB2.out D1.out
 have d2 := kept HB2.out D2.out
 have d3 := kept HB2.out D3.out
 have e0 := kept HB2.out E0.out
 have e1 := kept HB2.out E1.out
 have e2 := kept HB2.out E2.out
 have e3 := kept HB2.out E3.out
 have f0 := kept HB2.out F0.out
 have f1 := kept HB2.out F1.out
 have f2 := kept HB2.out F2.out
 have f3 := kept HB2.out F3.out
 have zs2 : w.heap.size + 1 + 1 < w2.heap.size := cell_lt (kept HB2.out F0.out)
 go_wp2_with fail
 refine (FewE_ref y OY.out w2 _ (HI.out.mono HB2.out)).mono ?_
 rintro e w3 ⟨fy, rfl, few1, hb3⟩
 have HB3 : Hid (Below w0.heap.size w0 w3) := HB2.out.trans (hb3.mono HB2.out.size)
 clear hb3 d0 d1 d2 d3 e0 e1 e2 e3 f0 f1 f2 f3
 cases fy
 case false =>
  clear few1
  go_wp2
  go_ret
  exact ⟨rfl, HW.out.trans (HB3.out.mono HW.out.size)⟩
 have FY := Lib.hid (few1 rfl)
 clear few1
 have d0 := kept HB3.out D0.out
 have d1 := kept HB3.out D1.out
 have d2 := kept HB3.out D2.out
 have d3 := kept HB3.out D3.out
 have e0 := kept HB3.out E0.out
 have e1 := kept HB3.out E1.out
 have e2 := kept HB3.out E2.out
 have e3 := kept HB3.out E3.out
 have f0 := kept HB3.out F0.out
 have f1 := kept HB3.out F1.out
 have f2 := kept HB3.out F2.out
 have f3 := kept HB3.out F3.out
 have zs3 : w.heap.size + 1 + 1 < w3.heap.size := cell_lt (kept HB3.out F0.out)
 go_wp2_with fail
 refine (FewE_ref z OZ.out w3 _ (HJ.out.mono HB3.out)).mono ?_
 rintro e w4 ⟨fz, rfl, few2, hb4⟩
 have HB4 : Hid (Below w0.heap.size w0 w4) := HB3.out.trans (hb4.mono HB3.out.size)
 clear hb4 d0 d1 d2 d3 e0 e1 e2 e3 f0 f1 f2 f3
 cases fz
 case false =>
  clear few2
  go_wp2
  go_ret
  exact ⟨rfl, HW.out.trans (HB4.out.mono HW.out.size)⟩
 have FZ := Lib.hid (few2 rfl)
 clear few2
 have d0 := kept HB4.out D0.out
 have d1 := kept HB4.out D1.out
 have d2 := kept HB4.out D2.out
 have d3 := kept HB4.out D3.out
 have e0 := kept HB4.out E0.out
 have e1 := kept HB4.out E1.out
 have e2 := kept HB4.out E2.out
 have e3 := kept HB4.out E3.out
 have f0 := kept HB4.out F0.out
 have f1 := kept HB4.out F1.out
 have f2 := kept HB4.out F2.out
 have f3 := kept HB4.out F3.out
 have zs4 : w.heap.size + 1 + 1 < w4.heap.size := cell_lt (kept HB4.out F0.out)
 have hl := Light_p c (.mk 2 ByteArray.empty ByteArray.empty [y, z]) (w4.alloc (.cells #[.int .i64 k0, .string n0, .string x0, .slice a K k, .int .i64 k1, .string n1, .string x1, .slice b L l] 45)) _ _ ((HC.out.mono HB4.out).mono (by first | ((repeat (first | exact Below.refl _ _ | assumption | refine Below.drewN ?_ _ | refine Below.drew ?_ | refine Below.alloc ?_ (by first | exact Nat.le_refl _ | (simp; done) | (simp; omega) | omega) _ | refine Below.setCell ?_ (by first | exact Nat.le_refl _ | (simp; done) | (simp; omega) | omega) _ | refine Below.trans ?_ (Below.mono (by assumption) (by first | exact Nat.le_refl _ | (simp; done) | (simp; omega) | omega)))); done) | fail)) (two_expr (k := 2) (n := ByteArray.empty) (x := ByteArray.empty) (g := w4.heap.size) (by unfold inI64; decide) (by decide) (by decide) (HI.out.mono HB4.out) (HJ.out.mono HB4.out) rfl _)
 go_wp2_with fail
 refine hl.mono ?_
 rintro e w5 ⟨fl, rfl, hb5⟩
 have HB5 : Hid (Below w0.heap.size w0 w5) := (HB4.out.alloc HB4.out.size _).trans (hb5.mono (by have := HB4.out.size; simp; omega))
 clear hb5 hl d0 d1 d2 d3 e0 e1 e2 e3 f0 f1 f2 f3
 cases fl
 case false =>
  go_wp2
  go_ret
  exact ⟨rfl, HW.out.trans (HB5.out.mono HW.out.size)⟩
 go_wp2
 have hb6 : Below w5.heap.size w5 (w5.alloc (.cells #[.int .i64 2, .int .i64 3] 3)) := (by first | ((repeat (first | exact Below.refl _ _ | assumption | refine Below.drewN ?_ _ | refine Below.drew ?_ | refine Below.alloc ?_ (by first | exact Nat.le_refl _ | (simp; done) | (simp; omega) | omega) _ | refine Below.setCell ?_ (by first | exact Nat.le_refl _ | (simp; done) | (simp; omega) | omega) _ | refine Below.trans ?_ (Below.mono (by assumption) (by first | exact Nat.le_refl _ | (simp; done) | (simp; omega) | omega)))); done) | fail)
 have s0 : (w5.alloc (.cells #[.int .i64 2, .int .i64 3] 3)).cell? ⟨w5.heap.size, 0, none⟩ = some (.int .i64 2) := by simp
 have s1 : (w5.alloc (.cells #[.int .i64 2, .int .i64 3] 3)).cell? ⟨w5.heap.size, 1, none⟩ = some (.int .i64 3) := by simp
 generalize w5.alloc (.cells #[.int .i64 2, .int .i64 3] 3) = w6 at *
 have HB6 : Hid (Below w0.heap.size w0 w6) := HB5.out.trans (hb6.mono HB5.out.size)
 have S0 := Lib.hid s0
 have S1 := Lib.hid s1
 clear hb6 s0 s1
 generalize w5.heap.size = g5 at *
 go_loopw [42] (fun kv wr => ∃ i : Nat, i ≤ 2 ∧ kv = .int .i64 i ∧ Hid (Below w6.heap.size w6 wr)) (fun kv _ => 2 - (intOf kv).toNat)
 case atStart => exact ⟨0, by omega, rfl, Lib.hid (Below.refl _ _)⟩
 case round =>
  obtain ⟨i, hi, rfl, HBr⟩ := hrel
  have HB7 : Hid (Below w0.heap.size w0 wr) := HB6.out.trans (HBr.out.mono HB6.out.size)
  have s0 := kept HBr.out S0.out
  have s1 := kept HBr.out S1.out
  have zs := cell_lt s0
  have d0 := kept HB7.out D0.out
  have d1 := kept HB7.out D1.out
  have d2 := kept HB7.out D2.out
  have d3 := kept HB7.out D3.out
  have e0 := kept HB7.out E0.out
  have e1 := kept HB7.out E1.out
  have e2 := kept HB7.out E2.out
  have e3 := kept HB7.out E3.out
  have f0 := kept HB7.out F0.out
  have f1 := kept HB7.out F1.out
  have f2 := kept HB7.out F2.out
  have f3 := kept HB7.out F3.out
  have zs7 : w.heap.size + 1 + 1 < wr.heap.size := cell_lt f0
  by_cases hki : i < 2
  ·obtain rfl | rfl : i = 0 ∨ i = 1 := by omega
   ·have hr := Relate_p c y (.mk 2 ByteArray.empty ByteArray.empty [y, z]) (.inl pairsC) (.inl pairsC) (by have := FY.out; omega) (by have h1 := FY.out; have h2 := FZ.out; simp only [sizeE, sizeKs]; omega) (wr.alloc (.cells #[.int .i64 k0, .string n0, .string x0, .slice a K k, .int .i64 k1, .string n1, .string x1, .slice b L l] 45)) _ _ _ ((HG.out.mono HB7.out).mono (by first | ((repeat (first | exact Below.refl _ _ | assumption | refine Below.drewN ?_ _ | refine Below.drew ?_ | refine Below.alloc ?_ (by first | exact Nat.le_refl _ | (simp; done) | (simp; omega) | omega) _ | refine Below.setCell ?_ (by first | exact Nat.le_refl _ | (simp; done) | (simp; omega) | omega) _ | refine Below.trans ?_ (Below.mono (by assumption) (by first | exact Nat.le_refl _ | (simp; done) | (simp; omega) | omega)))); done) | fail)) ((HC.out.mono HB7.out).mono (by first | ((repeat (first | exact Below.refl _ _ | assumption | refine Below.drewN ?_ _ | refine Below.drew ?_ | refine Below.alloc ?_ (by first | exact Nat.le_refl _ | (simp; done) | (simp; omega) | omega) _ | refine Below.setCell ?_ (by first | exact Nat.le_refl _ | (simp; done) | (simp; omega) | omega) _ | refine Below.trans ?_ (Below.mono (by assumption) (by first | exact Nat.le_refl _ | (simp; done) | (simp; omega) | omega)))); done) | fail)) ((HI.out.mono HB7.out).mono (by first | ((repeat (first | exact Below.refl _ _ | assumption | refine Below.drewN ?_ _ | refine Below.drew ?_ | refine Below.alloc ?_ (by first | exact Nat.le_refl _ | (simp; done) | (simp; omega) | omega) _ | refine Below.setCell ?_ (by first | exact Nat.le_refl _ | (simp; done) | (simp; omega) | omega) _ | refine Below.trans ?_ (Below.mono (by assumption) (by first | exact Nat.le_refl _ | (simp; done) | (simp; omega) | omega)))); done) | fail)) (two_expr (k := 2) (n := ByteArray.empty) (x := ByteArray.empty) (g := wr.heap.size) (by unfold inI64; decide) (by decide) (by decide) (HI.out.mono HB7.out) (HJ.out.mono HB7.out) rfl _)
    have hq := Lib.hid (parts_and (c := c) (e := y) (f := z) (n := ByteArray.empty) (x := ByteArray.empty))
    generalize relateP c y (.mk 2 ByteArray.empty ByteArray.empty [y, z]) = rp at hr hq
    obtain ⟨r, g⟩ := rp
    go_wp2_with fail
    refine hr.mono ?_
    rintro e w8 ⟨rfl, hb8⟩
    have HB8 : Hid (Below w6.heap.size w6 w8) := (HBr.out.alloc HBr.out.size _).trans (hb8.mono (by have := HBr.out.size; simp; omega))
    clear hr hb8 d0 d1 d2 d3 e0 e1 e2 e3 f0 f1 f2 f3 s0 s1
    by_cases q : g = 0
    ·subst q
     rcases hq.out rfl with q | q
     all_goals
      try dsimp only at q
      subst q
      go_wp2
      go_roundw
      case rel => exact ⟨1, by omega, rfl, HB8⟩
      case measure => first | (simp [intOf]; done) | (simp [intOf]; omega)
    ·have q1 : (g == 0) = false := by simpa using q
     clear q hq
     go_wp2
     go_roundw
     case rel => exact ⟨1, by omega, rfl, HB8⟩
     case measure => first | (simp [intOf]; done) | (simp [intOf]; omega)
   ·have hr := Relate_p c y (.mk 3 ByteArray.empty ByteArray.empty [y, z]) (.inl pairsC) (.inl pairsC) (by have := FY.out; omega) (by have h1 := FY.out; have h2 := FZ.out; simp only [sizeE, sizeKs]; omega) (wr.alloc (.cells #[.int .i64 k0, .string n0, .string x0, .slice a K k, .int .i64 k1, .string n1, .string x1, .slice b L l] 45)) _ _ _ ((HG.out.mono HB7.out).mono (by first | ((repeat (first | exact Below.refl _ _ | assumption | refine Below.drewN ?_ _ | refine Below.drew ?_ | refine Below.alloc ?_ (by first | exact Nat.le_refl _ | (simp; done) | (simp; omega) | omega) _ | refine Below.setCell ?_ (by first | exact Nat.le_refl _ | (simp; done) | (simp; omega) | omega) _ | refine Below.trans ?_ (Below.mono (by assumption) (by first | exact Nat.le_refl _ | (simp; done) | (simp; omega) | omega)))); done) | fail)) ((HC.out.mono HB7.out).mono (by first | ((repeat (first | exact Below.refl _ _ | assumption | refine Below.drewN ?_ _ | refine Below.drew ?_ | refine Below.alloc ?_ (by first | exact Nat.le_refl _ | (simp; done) | (simp; omega) | omega) _ | refine Below.setCell ?_ (by first | exact Nat.le_refl _ | (simp; done) | (simp; omega) | omega) _ | refine Below.trans ?_ (Below.mono (by assumption) (by first | exact Nat.le_refl _ | (simp; done) | (simp; omega) | omega)))); done) | fail)) ((HI.out.mono HB7.out).mono (by first | ((repeat (first | exact Below.refl _ _ | assumption | refine Below.drewN ?_ _ | refine Below.drew ?_ | refine Below.alloc ?_ (by first | exact Nat.le_refl _ | (simp; done) | (simp; omega) | omega) _ | refine Below.setCell ?_ (by first | exact Nat.le_refl _ | (simp; done) | (simp; omega) | omega) _ | refine Below.trans ?_ (Below.mono (by assumption) (by first | exact Nat.le_refl _ | (simp; done) | (simp; omega) | omega)))); done) | fail)) (two_expr (k := 3) (n := ByteArray.empty) (x := ByteArray.empty) (g := wr.heap.size) (by unfold inI64; decide) (by decide) (by decide) (HI.out.mono HB7.out) (HJ.out.mono HB7.out) rfl _)
    have hq := Lib.hid (parts_or (c := c) (e := y) (f := z) (n := ByteArray.empty) (x := ByteArray.empty))
    generalize relateP c y (.mk 3 ByteArray.empty ByteArray.empty [y, z]) = rp at hr hq
    obtain ⟨r, g⟩ := rp
    go_wp2_with fail
    refine hr.mono ?_
    rintro e w8 ⟨rfl, hb8⟩
    have HB8 : Hid (Below w6.heap.size w6 w8) := (HBr.out.alloc HBr.out.size _).trans (hb8.mono (by have := HBr.out.size; simp; omega))
    clear hr hb8 d0 d1 d2 d3 e0 e1 e2 e3 f0 f1 f2 f3 s0 s1
    by_cases q : g = 0
    ·subst q
     rcases hq.out rfl with q | q
     all_goals
      try dsimp only at q
      subst q
      go_wp2
      go_roundw
      case rel => exact ⟨2, by omega, rfl, HB8⟩
      case measure => first | (simp [intOf]; done) | (simp [intOf]; omega)
    ·have q1 : (g == 0) = false := by simpa using q
     clear q hq
     go_wp2
     go_roundw
     case rel => exact ⟨2, by omega, rfl, HB8⟩
     case measure => first | (simp [intOf]; done) | (simp [intOf]; omega)
  ·have hkz : ¬ (i : Int) < 2 := by omega
   clear e0 e1 e2 e3 f0 f1 f2 f3 s0 s1
   go_wp2
   generalize wr = w9 at *
   go_loopw [74] (fun kv wr => ∃ i : Nat, i ≤ N0 ∧ kv = .int .i64 i ∧ Hid (Below w9.heap.size w9 wr)) (fun kv _ => N0 - (intOf kv).toNat)
   case atStart => exact ⟨0, by omega, rfl, Lib.hid (Below.refl _ _)⟩
   case round =>
    obtain ⟨j, hj, rfl, HBs⟩ := hrel
    have HBt : Hid (Below w0.heap.size w0 wr) := HB7.out.trans (HBs.out.mono HB7.out.size)
    have HBw : Hid (Below w.heap.size w wr) := HW.out.trans (HBt.out.mono HW.out.size)
    have d0 := kept HBt.out D0.out
    have d1 := kept HBt.out D1.out
    have d2 := kept HBt.out D2.out
    have d3 := kept HBt.out D3.out
    have zt := cell_lt d0
    by_cases hkj : j < N0
    ·have hkz : (j : Int) < (N0 : Int) := by omega
     have hk0 : (0 : Int) ≤ (j : Int) := by omega
     obtain ⟨x, hx⟩ := get_lt (xs := c.licenses) (k := j) (by rw [HN.out]; exact hkj)
     have hmx := List.mem_of_getElem? hx
     obtain ⟨bx, ox, rfl, hbx, y0', y1', y2', y3', sz0, sz1, iv, sz3⟩ := License.at_row R0.out hx
     have y0 := kept HBw.out y0'
     have y1 := kept HBw.out y1'
     have y2 := kept HBw.out y2'
     have y3 := kept HBw.out y3'
     have zb := cell_lt y0
     have hbx2 : Below wr.heap.size wr (wr.alloc (.cells #[.string x.name, .string x.family, .int .i64 x.version, .string x.text] 60)) := (by first | ((repeat (first | exact Below.refl _ _ | assumption | refine Below.drewN ?_ _ | refine Below.drew ?_ | refine Below.alloc ?_ (by first | exact Nat.le_refl _ | (simp; done) | (simp; omega) | omega) _ | refine Below.setCell ?_ (by first | exact Nat.le_refl _ | (simp; done) | (simp; omega) | omega) _ | refine Below.trans ?_ (Below.mono (by assumption) (by first | exact Nat.le_refl _ | (simp; done) | (simp; omega) | omega)))); done) | fail)
     have hr := Relate_p c (.mk 0 x.name ByteArray.empty []) (.mk 1 x.name ByteArray.empty []) (.inl pairsC) (.inl pairsC) (by simp [sizeE, sizeKs]) (by simp [sizeE, sizeKs]) (wr.alloc (.cells #[.string x.name, .string x.family, .int .i64 x.version, .string x.text] 60)) _ _ _ ((HG.out.mono HBt.out).mono hbx2) ((HC.out.mono HBt.out).mono hbx2) (name_expr (k := 0) (x := ByteArray.empty) (by unfold inI64; decide) sz0 (by decide)) (name_expr (k := 1) (x := ByteArray.empty) (by unfold inI64; decide) sz0 (by decide))
     have hq := Lib.hid (parts_later (c := c) (x := x) (z := ByteArray.empty) (z' := ByteArray.empty) hmx rfl)
     generalize relateP c (.mk 0 x.name ByteArray.empty []) (.mk 1 x.name ByteArray.empty []) = rp at hr hq
     obtain ⟨r, g⟩ := rp
     clear hx hmx y0' y1' y2' y3'
     go_wp2_with fail
     refine hr.mono ?_
     rintro e w8 ⟨rfl, hb8⟩
     have HB8 : Hid (Below w9.heap.size w9 w8) := HBs.out.trans ((hbx2.trans (hb8.mono (by simp))).mono HBs.out.size)
     clear hr hb8 hbx2 d0 d1 d2 d3 y0 y1 y2 y3
     by_cases q : g = 0
     ·subst q
      rcases hq.out rfl with q | q
      all_goals
       try dsimp only at q
       subst q
       go_wp2
       go_roundw
       case rel => exact ⟨j + 1, by omega, by go_num, HB8⟩
       case measure => first | (simp [intOf]; done) | (simp [intOf]; omega)
     ·have q1 : (g == 0) = false := by simpa using q
      clear q hq
      go_wp2
      go_roundw
      case rel => exact ⟨j + 1, by omega, by go_num, HB8⟩
      case measure => first | (simp [intOf]; done) | (simp [intOf]; omega)
    ·have hkz : ¬ (j : Int) < (N0 : Int) := by omega
     go_wp2
     go_ret
     exact ⟨rfl, HBw.out⟩
end Go.Proofs.YtoemmpfcnpdblaaGreatDoor
