/- The reference's Equal, at one expression that lies twice in memory. -/
import Derived.Test.YtaaobpicaaeiiaaGreatDoorJMeanU
import Derived.Test.YtaaobpicaaeiiaaGreatDoorJR33U
set_option linter.all false
namespace Go.Proofs.YtaaobpicaaeiiaaGreatDoor
open Go Go.RowKit Go.ChangeShapes Go.Sort Go.Lib

def EquP (y : LExpr) : Prop := ∀ (w : World) (v u : Value), Is w v y → Is w u y → Calls Tryz.prog 36 #[v, u] w fun e w' => e = .returned (.bool true) ∧ Below w.heap.size w w'
set_option maxRecDepth 100000 in
set_option maxHeartbeats 8000000 in
theorem equal_step (k0 : Int) (n0 x0 : ByteArray) (ks : List LExpr) (ih : ∀ e ∈ ks, EquP e) : EquP (LExpr.mk k0 n0 x0 ks) := by
 intro w v u h k
 obtain ⟨a, c, rfl, -, -, -, hnc, hcm, hr⟩ := LExpr.inv h
 obtain ⟨b, d, rfl, -, -, -, hnd, hdm, hs⟩ := LExpr.inv k
 simp only [maxLen] at hcm hdm
 have HR := Lib.hid hr
 have HS := Lib.hid hs
 have HIH := Lib.hid ih
 clear hr hs h k ih
 generalize hN : ks.length = N at *
 have HN := Lib.hid hN
 clear hN
 obtain ⟨hb0, hd, he⟩ := box2 w #[.int .i64 k0, .string n0, .string x0, .slice a N c] #[.int .i64 k0, .string n0, .string x0, .slice b N d] 30 30
 have HW := Lib.hid hb0
 have d0 := hd 0 _ rfl
 have d1 := hd 1 _ rfl
 have d2 := hd 2 _ rfl
 have d3 := hd 3 _ rfl
 have e0 := he 0 _ rfl
 have e1 := he 1 _ rfl
 have e2 := he 2 _ rfl
 have e3 := he 3 _ rfl
 have q0 : (k0 != k0) = false := by simp
 have q1 : (n0.toList == n0.toList) = true := by simp
 have q2 : (x0.toList == x0.toList) = true := by simp
 have q3 : ((N : Int) != (N : Int)) = false := by simp
 clear hd he hb0
 go_enter Tryz.func36, Tryz.ntmps36
 go_wp2_with fail
 generalize ((w.alloc (.cells #[.int .i64 k0, .string n0, .string x0, .slice a N c] 30)).alloc (.cells #[.int .i64 k0, .string n0, .string x0, .slice b N d] 30)) = w0 at *
 have D3 := Lib.hid d3
 have E3 := Lib.hid e3
 clear d0 d1 d2 d3 e0 e1 e2 e3 q0 q1 q2 q3
 go_loopw [5] (fun iv wr => ∃ i : Nat, i ≤ N ∧ iv = .int .i64 i ∧ Hid (Below w0.heap.size w0 wr)) (fun iv _ => N - (intOf iv).toNat)
 case atStart => exact ⟨0, by omega, rfl, Lib.hid (Below.refl _ _)⟩
 case round =>
  obtain ⟨i, hi, rfl, HB⟩ := hrel
  have d3 := kept HB.out D3.out
  have e3 := kept HB.out E3.out
  have s0 := cell_lt e3
  have s1 := cell_lt d3
  by_cases hlt : i < N
  ·have hiz : (i : Int) < (N : Int) := by omega
   have hk0 : (0 : Int) ≤ (i : Int) := by omega
   obtain ⟨y, hy⟩ := get_lt (xs := ks) (k := i) (by rw [HN.out]; exact hlt)
   have hmem := List.mem_of_getElem? hy
   obtain ⟨k1, n1, x1, ks1⟩ := y
   obtain ⟨bx, ox, rfl, hbx, a3, c3, y0', y1', y2', y3', i0, t1, t2, l3, m3, r3⟩ := LExpr.at_row HR.out hy
   obtain ⟨by', oy, rfl, hby, a4, c4, z0', z1', z2', z3', j0, u1, u2, l4, m4, r4⟩ := LExpr.at_row HS.out hy
   have hbw : Below w.heap.size w wr := HW.out.trans (HB.out.mono HW.out.size)
   have y0 := kept hbw y0'
   have y1 := kept hbw y1'
   have y2 := kept hbw y2'
   have y3 := kept hbw y3'
   have z0 := kept hbw z0'
   have z1 := kept hbw z1'
   have z2 := kept hbw z2'
   have z3 := kept hbw z3'
   have hsy := cell_lt y0
   have hsz := cell_lt z0
   have hcall := fun W (hb : Below wr.heap.size wr W) => HIH.out _ hmem W (.agg #[.int .i64 k1, .string n1, .string x1, .slice a3 ks1.length c3]) (.agg #[.int .i64 k1, .string n1, .string x1, .slice a4 ks1.length c4]) ((LExpr.mk' i0 t1 t2 l3 m3 (r3.mono hbw)).mono hb) ((LExpr.mk' j0 u1 u2 l4 m4 (r4.mono hbw)).mono hb)
   have HBW := Lib.hid hbw
   clear hy hmem y0' y1' y2' y3' z0' z1' z2' z3' r3 r4 i0 t1 t2 j0 u1 u2 hbw
   generalize ks1.length = L1 at *
   go_wp2
   refine still_tail 10 (by kernel_rfl) (by kernel_rfl) ?_
   simp only [List.take_succ_cons, List.take_zero, List.drop_succ_cons, List.drop_zero]
   repeat still_step
   refine wpStill_nil ?_
   go_wp2_with fail
   refine (hcall _ ((by repeat (first | exact zR _ _ | assumption | refine zN ?_ _ | refine zD ?_ | refine zA ?_ ?_ _ | refine zS ?_ ?_ _ | refine zT ?_ (zM (by assumption) ?_) | exact Nat.le_refl _ | (simp <;> omega) | omega)))).mono ?_
   rintro e w2 ⟨rfl, hg⟩
   have HB2 : Hid (Below w0.heap.size w0 w2) := HB.out.trans (((Below.refl wr.heap.size wr).drew.trans hg).mono HB.out.size)
   clear hg hcall
   go_wp2
   go_roundw
   case rel => exact ⟨i + 1, by omega, by go_num, HB2⟩
   case measure => simp [intOf]; omega
  ·have hiz : ¬ (i : Int) < (N : Int) := by omega
   go_wp2
   go_ret
   exact ⟨rfl, HW.out.trans (HB.out.mono HW.out.size)⟩
theorem Equal_same (y : LExpr) : EquP y := LExpr.ind (fun k n x ks ih => equal_step k n x ks ih) y
end Go.Proofs.YtaaobpicaaeiiaaGreatDoor
