/- The reference's order of alternatives, and its check of a list. -/
import Derived.Test.YtoemmpfcnpdblaaGreatDoorJRefV
import Derived.Test.YtoemmpfcnpdblaaGreatDoorJCmpU
import Derived.Test.YtoemmpfcnpdblaaGreatDoorJEntU
import Derived.Test.YtoemmpfcnpdblaaGreatDoorJR33A
import Derived.Test.YtoemmpfcnpdblaaGreatDoorJLawE
set_option linter.all false
namespace Go.Proofs.YtoemmpfcnpdblaaGreatDoor
open Go Go.RowKit Go.ChangeShapes Go.Lib

set_option maxRecDepth 100000 in
set_option maxHeartbeats 1000000 in
theorem Before_ref (w : World) (a b : Term) :
  Calls Tryz.prog 172 #[.agg #[.string a.license, .string a.exception], .agg #[.string b.license, .string b.exception]] w fun e w' => e = .returned (.bool (bef a b)) ∧ Below w.heap.size w w' := by
 have HP : Hid (bef a b = (Op.bytesLess a.license.toList b.license.toList || ((a.license.toList == b.license.toList) && Op.bytesLess a.exception.toList b.exception.toList))) := rfl
 cases q1 : Op.bytesLess a.license.toList b.license.toList
 case true =>
  go_enter Tryz.func172, Tryz.ntmps172
  go_wp2
  go_ret
  exact ⟨ret_b (by rw [HP.out, q1]; rfl), (by repeat (first | exact zR _ _ | assumption | refine zN ?_ _ | refine zD ?_ | refine zA ?_ ?_ _ | refine zS ?_ ?_ _ | refine zT ?_ (zM (by assumption) ?_) | exact Nat.le_refl _ | (simp <;> omega) | omega))⟩
 cases q2 : (a.license.toList == b.license.toList)
 case false =>
  go_enter Tryz.func172, Tryz.ntmps172
  go_wp2
  go_ret
  exact ⟨ret_b (by rw [HP.out, q1, q2]; rfl), (by repeat (first | exact zR _ _ | assumption | refine zN ?_ _ | refine zD ?_ | refine zA ?_ ?_ _ | refine zS ?_ ?_ _ | refine zT ?_ (zM (by assumption) ?_) | exact Nat.le_refl _ | (simp <;> omega) | omega))⟩
 case true =>
  go_enter Tryz.func172, Tryz.ntmps172
  go_wp2
  go_ret
  exact ⟨ret_b (by rw [HP.out, q1, q2]; simp), (by repeat (first | exact zR _ _ | assumption | refine zN ?_ _ | refine zD ?_ | refine zA ?_ ?_ _ | refine zS ?_ ?_ _ | refine zT ?_ (zM (by assumption) ?_) | exact Nat.le_refl _ | (simp <;> omega) | omega))⟩
theorem lcmp_lt {x y : Term} {a b : List Term} (h : bef x y = true) : lcmp tcmp (x :: a) (y :: b) = -1 := by
 rw [bef_eq] at h
 have h1 := of_decide_eq_true h
 have h2 := tcmp_to.rng x y
 have h3 : tcmp x y = -1 := by omega
 rw [lcmp, h3]; rfl
theorem lcmp_gt {x y : Term} {a b : List Term} (h : bef y x = true) : lcmp tcmp (x :: a) (y :: b) = 1 := by
 rw [bef_eq] at h
 have h1 := of_decide_eq_true h
 have h2 := tcmp_to.rng x y
 rw [tcmp_to.sw x y] at h1
 have h3 : tcmp x y = 1 := by omega
 rw [lcmp, h3]; rfl
theorem lcmp_on {x y : Term} {a b : List Term} (h : bef x y = false) (k : bef y x = false) : lcmp tcmp (x :: a) (y :: b) = lcmp tcmp a b := by
 rw [bef_eq] at h k
 have h1 := of_decide_eq_false h
 have k1 := of_decide_eq_false k
 rw [tcmp_to.sw x y] at k1
 have h3 : tcmp x y = 0 := by omega
 rw [lcmp, h3]; rfl
set_option maxRecDepth 100000 in
set_option maxHeartbeats 4000000 in
theorem Compare_ref (w : World) (v1 v2 : Value) (xs ys : List Term) (h1 : Is w v1 xs) (h2 : Is w v2 ys) :
  Calls Tryz.prog 110 #[v1, v2] w fun e w' => e = .returned (.int .i64 (acmp xs ys)) ∧ Below w.heap.size w w' := by
 obtain ⟨a, c, rfl, hnc, hcm, hr⟩ := list_inv h1
 obtain ⟨b, d, rfl, hnd, hdm, hs⟩ := list_inv h2
 simp only [maxLen] at hcm hdm
 have HR := Lib.hid hr
 have HS := Lib.hid hs
 have HD : Hid (acmp xs ys = lex2 (ncmp xs.length ys.length) (lcmp tcmp xs ys)) := rfl
 clear hr hs h1 h2
 generalize hN : xs.length = N at *
 have HN := Lib.hid hN
 clear hN
 generalize hM : ys.length = M at *
 have HM := Lib.hid hM
 clear hM
 by_cases hne : N = M
 case neg =>
  have q0 : ((N : Int) != (M : Int)) = true := by simp; omega
  by_cases q1 : (N : Int) < (M : Int)
  ·have HF : Hid (acmp xs ys = -1) := by show _ = _; rw [HD.out]; unfold ncmp lex2; rw [if_pos (show N < M by omega)]; rfl
   go_enter Tryz.func110, Tryz.ntmps110
   go_wp2
   go_ret
   exact ⟨ret_i HF.out.symm, Below.refl _ _⟩
  ·have HF : Hid (acmp xs ys = 1) := by show _ = _; rw [HD.out]; unfold ncmp lex2; rw [if_neg (show ¬ N < M by omega), if_pos (show M < N by omega)]; rfl
   go_enter Tryz.func110, Tryz.ntmps110
   go_wp2
   go_ret
   exact ⟨ret_i HF.out.symm, Below.refl _ _⟩
 subst hne
 have HL : Hid (acmp xs ys = lcmp tcmp xs ys) := by show _ = _; rw [HD.out]; unfold ncmp; rw [if_neg (Nat.lt_irrefl _), if_neg (Nat.lt_irrefl _)]; rfl
 have q0 : ((N : Int) != (N : Int)) = false := by simp
 clear HD
 go_enter Tryz.func110, Tryz.ntmps110
 go_wp2
 clear q0
 go_loopw [5] (fun i wr => ∃ k : Nat, k ≤ N ∧ i = .int .i64 k ∧ Hid (Below w.heap.size w wr) ∧ Hid (acmp xs ys = lcmp tcmp (xs.drop k) (ys.drop k))) (fun i _ => N - (intOf i).toNat)
 case atStart => exact ⟨0, by omega, rfl, Below.refl _ _, HL⟩
 case round =>
  obtain ⟨k, hk, rfl, HB, HC⟩ := hrel
  by_cases hki : k < N
  ·have hkz : (k : Int) < (N : Int) := by omega
   have hk0 : (0 : Int) ≤ (k : Int) := by omega
   obtain ⟨x, hx⟩ := get_lt (xs := xs) (k := k) (by rw [HN.out]; exact hki)
   obtain ⟨y, hy⟩ := get_lt (xs := ys) (k := k) (by rw [HM.out]; exact hki)
   obtain ⟨bx, ox, rfl, hbx, x0', x1', -⟩ := Term.at_row HR.out hx
   obtain ⟨by', oy, rfl, hby, y0', y1', -⟩ := Term.at_row HS.out hy
   have x0 := kept HB.out x0'
   have x1 := kept HB.out x1'
   have y0 := kept HB.out y0'
   have y1 := kept HB.out y1'
   have hsx := cell_lt x0
   have hsy := cell_lt y0
   have hcall := fun W => Before_ref W x y
   have hcall2 := fun W => Before_ref W y x
   have HX : Hid (acmp xs ys = lcmp tcmp (x :: xs.drop (k + 1)) (y :: ys.drop (k + 1))) := by show _ = _; rw [HC.out, drop_at hx, drop_at hy]
   have L1 : Hid (bef x y = true → acmp xs ys = -1) := fun h => by rw [HX.out, lcmp_lt h]
   have L2 : Hid (bef y x = true → acmp xs ys = 1) := fun h => by rw [HX.out, lcmp_gt h]
   have L3 : Hid (bef x y = false → bef y x = false → acmp xs ys = lcmp tcmp (xs.drop (k + 1)) (ys.drop (k + 1))) := fun h k => by rw [HX.out, lcmp_on h k]
   clear hx hy x0' x1' y0' y1' HX
   generalize bef x y = b1 at *
   generalize bef y x = b2 at *
   cases b1
   case true =>
    go_wp2
    refine still_tail 8 (by kernel_rfl) (by kernel_rfl) ?_
    simp only [List.take_succ_cons, List.take_zero, List.drop_succ_cons, List.drop_zero]
    repeat still_step
    refine wpStill_nil ?_
    go_wp2_with fail
    refine (hcall _).mono ?_
    rintro e w2 ⟨rfl, hg⟩
    have HB2 : Hid (Below w.heap.size w w2) := HB.out.trans (((Below.refl wr.heap.size wr).drew.trans hg).mono HB.out.size)
    clear hg hcall hcall2
    go_wp2
    go_ret
    exact ⟨ret_i (L1.out (by first | rfl | trivial)).symm, HB2.out⟩
   case false =>
    go_wp2
    refine still_tail 8 (by kernel_rfl) (by kernel_rfl) ?_
    simp only [List.take_succ_cons, List.take_zero, List.drop_succ_cons, List.drop_zero]
    repeat still_step
    refine wpStill_nil ?_
    go_wp2_with fail
    refine (hcall _).mono ?_
    rintro e w2 ⟨rfl, hg⟩
    have hw2 : Below wr.heap.size wr w2 := (Below.refl wr.heap.size wr).drew.trans hg
    have HB2 : Hid (Below w.heap.size w w2) := HB.out.trans (hw2.mono HB.out.size)
    have x0' := kept hw2 x0
    have x1' := kept hw2 x1
    have y0' := kept hw2 y0
    have y1' := kept hw2 y1
    have hsx := cell_lt x0'
    have hsy := cell_lt y0'
    clear hg hcall x0 x1 y0 y1 hw2
    go_wp2
    refine still_tail 8 (by kernel_rfl) (by kernel_rfl) ?_
    simp only [List.take_succ_cons, List.take_zero, List.drop_succ_cons, List.drop_zero]
    repeat still_step
    refine wpStill_nil ?_
    go_wp2_with fail
    refine (hcall2 _).mono ?_
    rintro e w3 ⟨rfl, hg⟩
    have HB3 : Hid (Below w.heap.size w w3) := HB2.out.trans (((Below.refl w2.heap.size w2).drew.trans hg).mono HB2.out.size)
    clear hg hcall2 x0' x1' y0' y1'
    cases b2
    case true =>
     go_wp2
     go_ret
     exact ⟨ret_i (L2.out (by first | rfl | trivial)).symm, HB3.out⟩
    case false =>
     have HT := Lib.hid (L3.out (by first | rfl | trivial) (by first | rfl | trivial))
     go_wp2
     go_roundw
     case rel => exact ⟨k + 1, by omega, by go_num, HB3, HT⟩
     case measure => simp [intOf]; omega
  ·have hkz : ¬ (k : Int) < (N : Int) := by omega
   have HF : Hid (acmp xs ys = 0) := by
    show _ = _
    rw [HC.out, List.drop_eq_nil_of_le (by rw [HN.out]; omega), List.drop_eq_nil_of_le (by rw [HM.out]; omega)]; rfl
   go_wp2
   go_ret
   exact ⟨ret_i HF.out.symm, HB.out⟩
end Go.Proofs.YtoemmpfcnpdblaaGreatDoor
namespace Go.Proofs.YtoemmpfcnpdblaaGreatDoor
open Go Go.RowKit Go.ChangeShapes Go.Lib

end Go.Proofs.YtoemmpfcnpdblaaGreatDoor
namespace Go.Proofs.YtoemmpfcnpdblaaGreatDoor
open Go Go.RowKit Go.ChangeShapes Go.Lib

set_option maxRecDepth 100000 in
set_option maxHeartbeats 4000000 in
theorem Separating_ref (w : World) (v u : Value) (xs ys : List (List Term)) (h : Is w v xs) (k : Is w u ys) :
  Calls Tryz.prog 19 #[v, u] w fun e w' => e = .returned (.int .i64 (idxP (sepB ys) xs)) ∧ Below w.heap.size w w' := by
 have HI := Lib.hid k
 obtain ⟨a, c, rfl, hnc, hcm, hr⟩ := list_inv h
 obtain ⟨b, d, rfl, -⟩ := list_inv k
 simp only [maxLen] at hcm
 have HR := Lib.hid hr
 clear h k hr
 generalize ys.length = M at *
 generalize hN : xs.length = N at *
 have HN := Lib.hid hN
 clear hN
 go_enter Tryz.func19, Tryz.ntmps19
 go_wp2
 go_loopw [5] (fun i wr => ∃ k : Nat, k ≤ N ∧ i = .int .i64 k ∧ Hid ((xs.take k).any (sepB ys) = false) ∧ Hid (Below w.heap.size w wr)) (fun i _ => N - (intOf i).toNat)
 case atStart => exact ⟨0, by omega, rfl, rfl, Below.refl _ _⟩
 case round =>
  obtain ⟨k, hk, rfl, HK, HB⟩ := hrel
  by_cases hki : k < N
  ·have hkz : (k : Int) < (N : Int) := by omega
   have hk0 : (0 : Int) ≤ (k : Int) := by omega
   obtain ⟨x, hx⟩ := get_lt (xs := xs) (k := k) (by rw [HN.out]; exact hki)
   obtain ⟨bx, ox, rfl, hbx, ax, cx, x0', hx1, hx2, hx3⟩ := list_at HR.out hx
   have x0 := kept HB.out x0'
   have hsx := cell_lt x0
   have HX := Lib.hid hx
   have hcall := Satisfied_ref wr (.slice b M d) (.slice ax x.length cx) ys x (HI.out.mono HB.out) (list_mk hx1 hx2 (hx3.mono HB.out))
   have HE : Hid (sepB ys x = !satP ys x) := rfl
   clear hx x0' hx3
   cases e9 : satP ys x
   case false =>
    rw [e9] at hcall
    have HF : Hid (idxP (sepB ys) xs = k) := idxP_hit HX.out (by rw [HE.out, e9]; rfl) HK.out
    clear e9
    go_wp2_with fail
    refine hcall.mono ?_
    rintro e w2 ⟨rfl, hb2⟩
    have HB2 : Hid (Below w.heap.size w w2) := HB.out.trans (hb2.mono HB.out.size)
    clear hcall hb2
    go_wp2
    go_ret
    exact ⟨ret_i HF.out.symm, HB2.out⟩
   case true =>
    rw [e9] at hcall
    have HT : Hid ((xs.take (k + 1)).any (sepB ys) = false) := by show _ = _; rw [any_snocR _ HX.out, HK.out, HE.out, e9]; rfl
    clear e9
    go_wp2_with fail
    refine hcall.mono ?_
    rintro e w2 ⟨rfl, hb2⟩
    have HB2 : Hid (Below w.heap.size w w2) := HB.out.trans (hb2.mono HB.out.size)
    clear hcall hb2
    go_wp2
    go_roundw
    case rel => exact ⟨k + 1, by omega, by go_num, HT, HB2⟩
    case measure => simp [intOf]; omega
  ·have hkz : ¬ (k : Int) < (N : Int) := by omega
   have HF : Hid (idxP (sepB ys) xs = -1) := idxP_miss (any_endR HK.out (by rw [HN.out]; exact hki))
   go_wp2
   go_ret
   exact ⟨ret_i HF.out.symm, HB.out⟩
theorem sep_idx (a b : List (List Term)) : (sepP a b).isNone = decide (idxP (sepB b) a < 0) := by
 show (a.find? (sepB b)).isNone = _
 rcases idxP_cases (sepB b) a with ⟨h1, h2⟩ | ⟨k, x, -, h1, h2⟩
 ·rw [h1, h2]; rfl
 ·rw [h1, h2, decide_eq_false (by omega)]; rfl
end Go.Proofs.YtoemmpfcnpdblaaGreatDoor
