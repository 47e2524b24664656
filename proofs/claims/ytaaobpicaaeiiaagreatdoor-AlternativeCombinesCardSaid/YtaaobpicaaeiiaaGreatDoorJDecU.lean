/- The reference's order of alternatives, and its check of a list. -/
import Derived.Test.YtaaobpicaaeiiaaGreatDoorJRefV
import Derived.Test.YtaaobpicaaeiiaaGreatDoorJCmpU
import Derived.Test.YtaaobpicaaeiiaaGreatDoorJEntU
import Derived.Test.YtaaobpicaaeiiaaGreatDoorJR33U
import Derived.Test.YtaaobpicaaeiiaaGreatDoorJLawE
set_option linter.all false
namespace Go.Proofs.YtaaobpicaaeiiaaGreatDoor
open Go Go.RowKit Go.ChangeShapes Go.Lib

set_option maxRecDepth 100000 in
set_option maxHeartbeats 1000000 in
theorem Before_ref (w : World) (a b : Term) :
  Calls Tryz.prog 75 #[.agg #[.string a.license, .string a.exception], .agg #[.string b.license, .string b.exception]] w fun e w' => e = .returned (.bool (bef a b)) ∧ Below w.heap.size w w' := by
 have HP : Hid (bef a b = (Op.bytesLess a.license.toList b.license.toList || ((a.license.toList == b.license.toList) && Op.bytesLess a.exception.toList b.exception.toList))) := rfl
 cases q1 : Op.bytesLess a.license.toList b.license.toList
 case true =>
  go_enter Tryz.func75, Tryz.ntmps75
  go_wp2
  go_ret
  exact ⟨ret_b (by rw [HP.out, q1]; rfl), (by repeat (first | exact zR _ _ | assumption | refine zN ?_ _ | refine zD ?_ | refine zA ?_ ?_ _ | refine zS ?_ ?_ _ | refine zT ?_ (zM (by assumption) ?_) | exact Nat.le_refl _ | (simp <;> omega) | omega))⟩
 cases q2 : (a.license.toList == b.license.toList)
 case false =>
  go_enter Tryz.func75, Tryz.ntmps75
  go_wp2
  go_ret
  exact ⟨ret_b (by rw [HP.out, q1, q2]; rfl), (by repeat (first | exact zR _ _ | assumption | refine zN ?_ _ | refine zD ?_ | refine zA ?_ ?_ _ | refine zS ?_ ?_ _ | refine zT ?_ (zM (by assumption) ?_) | exact Nat.le_refl _ | (simp <;> omega) | omega))⟩
 case true =>
  go_enter Tryz.func75, Tryz.ntmps75
  go_wp2
  go_ret
  exact ⟨ret_b (by rw [HP.out, q1, q2]; simp), (by repeat (first | exact zR _ _ | assumption | refine zN ?_ _ | refine zD ?_ | refine zA ?_ ?_ _ | refine zS ?_ ?_ _ | refine zT ?_ (zM (by assumption) ?_) | exact Nat.le_refl _ | (simp <;> omega) | omega))⟩
theorem lcmp_lt {x y : Term} {a b : List Term} (h : bef x y = true) : lcmp tcmp (x :: a) (y :: b) = -1 := by
 rw [bef_eq] at h
 have h1 := of_decide_eq_true h
 have h2 := tcmp_to.rng x y
 have h3 : tcmp x y = -1 := by omega
 rw [lcmp, h3]; rfl
theorem lcmp_gt {x y : Term} {a b : List Term} (h : bef y x = true) : lcmp tcmp (x :: a) (y :: b) = 1 := by
 rw [bef_eq] at h
 have h1 := of_decide_eq_true h
 have h2 := tcmp_to.rng x y
 rw [tcmp_to.sw x y] at h1
 have h3 : tcmp x y = 1 := by omega
 rw [lcmp, h3]; rfl
theorem lcmp_on {x y : Term} {a b : List Term} (h : bef x y = false) (k : bef y x = false) : lcmp tcmp (x :: a) (y :: b) = lcmp tcmp a b := by
 rw [bef_eq] at h k
 have h1 := of_decide_eq_false h
 have k1 := of_decide_eq_false k
 rw [tcmp_to.sw x y] at k1
 have h3 : tcmp x y = 0 := by omega
 rw [lcmp, h3]; rfl
set_option maxRecDepth 100000 in
set_option maxHeartbeats 4000000 in
theorem Compare_ref (w : World) (v1 v2 : Value) (xs ys : List Term) (h1 : Is w v1 xs) (h2 : Is w v2 ys) :
  Calls Tryz.prog 26 #[v1, v2] w fun e w' => e = .returned (.int .i64 (acmp xs ys)) ∧ Below w.heap.size w w' := by
 obtain ⟨a, c, rfl, hnc, hcm, hr⟩ := list_inv h1
 obtain ⟨b, d, rfl, hnd, hdm, hs⟩ := list_inv h2
 simp only [maxLen] at hcm hdm
 have HR := Lib.hid hr
 have HS := Lib.hid hs
 have HD : Hid (acmp xs ys = lex2 (ncmp xs.length ys.length) (lcmp tcmp xs ys)) := rfl
 clear hr hs h1 h2
 generalize hN : xs.length = N at *
 have HN := Lib.hid hN
 clear hN
 generalize hM : ys.length = M at *
 have HM := Lib.hid hM
 clear hM
 by_cases hne : N = M
 case neg =>
  have q0 : ((N : Int) != (M : Int)) = true := by simp; omega
  by_cases q1 : (N : Int) < (M : Int)
  ·have HF : Hid (acmp xs ys = -1) := by show _ = _; rw [HD.out]; unfold ncmp lex2; rw [if_pos (show N < M by omega)]; rfl
   go_enter Tryz.func26, Tryz.ntmps26
   go_wp2
   go_ret
   exact ⟨ret_i HF.out.symm, Below.refl _ _⟩
  ·have HF : Hid (acmp xs ys = 1) := by show _ = _; rw [HD.out]; unfold ncmp lex2; rw [if_neg (show ¬ N < M by omega), if_pos (show M < N by omega)]; rfl
   go_enter Tryz.func26, Tryz.ntmps26
   go_wp2
   go_ret
   exact ⟨ret_i HF.out.symm, Below.refl _ _⟩
 subst hne
 have HL : Hid (acmp xs ys = lcmp tcmp xs ys) := by show _ = _; rw [HD.out]; unfold ncmp; rw [if_neg (Nat.lt_irrefl _), if_neg (Nat.lt_irrefl _)]; rfl
 have q0 : ((N : Int) != (N : Int)) = false := by simp
 clear HD
 go_enter Tryz.func26, Tryz.ntmps26
 go_wp2
 clear q0
 go_loopw [5] (fun i wr => ∃ k : Nat, k ≤ N ∧ i = .int .i64 k ∧ Hid (Below w.heap.size w wr) ∧ Hid (acmp xs ys = lcmp tcmp (xs.drop k) (ys.drop k))) (fun i _ => N - (intOf i).toNat)
 case atStart => exact ⟨0, by omega, rfl, Below.refl _ _, HL⟩
 case round =>
  obtain ⟨k, hk, rfl, HB, HC⟩ := hrel
  by_cases hki : k < N
  ·have hkz : (k : Int) < (N : Int) := by omega
   have hk0 : (0 : Int) ≤ (k : Int) := by omega
   obtain ⟨x, hx⟩ := get_lt (xs := xs) (k := k) (by rw [HN.out]; exact hki)
   obtain ⟨y, hy⟩ := get_lt (xs := ys) (k := k) (by rw [HM.out]; exact hki)
   obtain ⟨bx, ox, rfl, hbx, x0', x1', -⟩ := Term.at_row HR.out hx
   obtain ⟨by', oy, rfl, hby, y0', y1', -⟩ := Term.at_row HS.out hy
   have x0 := kept HB.out x0'
   have x1 := kept HB.out x1'
   have y0 := kept HB.out y0'
   have y1 := kept HB.out y1'
   have hsx := cell_lt x0
   have hsy := cell_lt y0
   have hcall := fun W => Before_ref W x y
   have hcall2 := fun W => Before_ref W y x
   have HX : Hid (acmp xs ys = lcmp tcmp (x :: xs.drop (k + 1)) (y :: ys.drop (k + 1))) := by show _ = _; rw [HC.out, drop_at hx, drop_at hy]
   have L1 : Hid (bef x y = true → acmp xs ys = -1) := fun h => by rw [HX.out, lcmp_lt h]
   have L2 : Hid (bef y x = true → acmp xs ys = 1) := fun h => by rw [HX.out, lcmp_gt h]
   have L3 : Hid (bef x y = false → bef y x = false → acmp xs ys = lcmp tcmp (xs.drop (k + 1)) (ys.drop (k + 1))) := fun h k => by rw [HX.out, lcmp_on h k]
   clear hx hy x0' x1' y0' y1' HX
   generalize bef x y = b1 at *
   generalize bef y x = b2 at *
   cases b1
   case true =>
    go_wp2
    refine still_tail 8 (by kernel_rfl) (by kernel_rfl) ?_
    simp only [List.take_succ_cons, List.take_zero, List.drop_succ_cons, List.drop_zero]
    repeat still_step
    refine wpStill_nil ?_
    go_wp2_with fail
    refine (hcall _).mono ?_
    rintro e w2 ⟨rfl, hg⟩
    have HB2 : Hid (Below w.heap.size w w2) := HB.out.trans (((Below.refl wr.heap.size wr).drew.trans hg).mono HB.out.size)
    clear hg hcall hcall2
    go_wp2
    go_ret
    exact ⟨ret_i (L1.out (by first | rfl | trivial)).symm, HB2.out⟩
   case false =>
    go_wp2
    refine still_tail 8 (by kernel_rfl) (by kernel_rfl) ?_
    simp only [List.take_succ_cons, List.take_zero, List.drop_succ_cons, List.drop_zero]
    repeat still_step
    refine wpStill_nil ?_
    go_wp2_with fail
    refine (hcall _).mono ?_
    rintro e w2 ⟨rfl, hg⟩
    have hw2 : Below wr.heap.size wr w2 := (Below.refl wr.heap.size wr).drew.trans hg
    have HB2 : Hid (Below w.heap.size w w2) := HB.out.trans (hw2.mono HB.out.size)
    have x0' := kept hw2 x0
    have x1' := kept hw2 x1
    have y0' := kept hw2 y0
    have y1' := kept hw2 y1
    have hsx := cell_lt x0'
    have hsy := cell_lt y0'
    clear hg hcall x0 x1 y0 y1 hw2
    go_wp2
    refine still_tail 8 (by kernel_rfl) (by kernel_rfl) ?_
    simp only [List.take_succ_cons, List.take_zero, List.drop_succ_cons, List.drop_zero]
    repeat still_step
    refine wpStill_nil ?_
    go_wp2_with fail
    refine (hcall2 _).mono ?_
    rintro e w3 ⟨rfl, hg⟩
    have HB3 : Hid (Below w.heap.size w w3) := HB2.out.trans (((Below.refl w2.heap.size w2).drew.trans hg).mono HB2.out.size)
    clear hg hcall2 x0' x1' y0' y1'
    cases b2
    case true =>
     go_wp2
     go_ret
     exact ⟨ret_i (L2.out (by first | rfl | trivial)).symm, HB3.out⟩
    case false =>
     have HT := Lib.hid (L3.out (by first | rfl | trivial) (by first | rfl | trivial))
     go_wp2
     go_roundw
     case rel => exact ⟨k + 1, by omega, by go_num, HB3, HT⟩
     case measure => simp [intOf]; omega
  ·have hkz : ¬ (k : Int) < (N : Int) := by omega
   have HF : Hid (acmp xs ys = 0) := by
    show _ = _
    rw [HC.out, List.drop_eq_nil_of_le (by rw [HN.out]; omega), List.drop_eq_nil_of_le (by rw [HM.out]; omega)]; rfl
   go_wp2
   go_ret
   exact ⟨ret_i HF.out.symm, HB.out⟩
set_option maxRecDepth 100000 in
set_option maxHeartbeats 4000000 in
theorem sorted_ref (w : World) (v : Value) (xs : List Term) (h : Is w v xs) :
  Calls Tryz.prog 60 #[v] w fun e w' => e = .returned (.bool (rises tcmp xs)) ∧ Below w.heap.size w w' := by
 obtain ⟨a, c, rfl, hnc, hcm, hr⟩ := list_inv h
 simp only [maxLen] at hcm
 have HR := Lib.hid hr
 clear hr h
 generalize hN : xs.length = N at *
 have HN := Lib.hid hN
 clear hN
 go_enter Tryz.func60, Tryz.ntmps60
 go_wp2
 go_loopw [3] (fun kv wr => ∃ m j : Nat, Hid (m = j + 1) ∧ (m = 1 ∨ m ≤ N) ∧ kv = .int .i64 (m : Int) ∧ Hid (Below w.heap.size w wr) ∧ Hid (rises tcmp xs = rises tcmp (xs.drop j))) (fun kv _ => N + 1 - (intOf kv).toNat)
 case atStart => exact ⟨1, 0, rfl, .inl rfl, rfl, Below.refl _ _, rfl⟩
 case round =>
  obtain ⟨m, j, HM, hm, rfl, HB, HD⟩ := hrel
  by_cases hji : m < N
  ·have hkz : (m : Int) < (N : Int) := by omega
   have hjm : j < m := by have := HM.out; omega
   have hjN : (j : Int) < (N : Int) := by omega
   have hj0 : (0 : Int) ≤ (j : Int) := by omega
   have hm0 : (0 : Int) ≤ (m : Int) := by omega
   have hsub : IntKind.i64.wrap ((m : Int) - 1) = (j : Int) := by have := HM.out; rw [show (m : Int) - 1 = j by omega]; exact IntWalk.i64_in _ (by omega)
   obtain ⟨x, hx⟩ := get_lt (xs := xs) (k := j) (by rw [HN.out]; omega)
   obtain ⟨y, hy⟩ := get_lt (xs := xs) (k := m) (by rw [HN.out]; omega)
   obtain ⟨bx, ox, rfl, hbx, x0', x1', -⟩ := Term.at_row HR.out hx
   obtain ⟨b2, o2, he, -, y0', y1', -⟩ := Term.at_row HR.out hy
   cases he
   have x0 := kept HB.out x0'
   have x1 := kept HB.out x1'
   have y0 := kept HB.out y0'
   have y1 := kept HB.out y1'
   have hcall := fun W => Before_ref W x y
   have HE : Hid (rises tcmp (xs.drop j) = (bef x y && rises tcmp (xs.drop m))) := by show _ = _; rw [HM.out] at hy ⊢; rw [bef_eq]; exact rises_at hx hy
   clear hx hy x0' x1' y0' y1'
   generalize bef x y = t at hcall HE
   cases t
   case false =>
    have HT : Hid (rises tcmp xs = false) := by show _ = _; rw [HD.out, HE.out]; rfl
    go_wp2
    refine still_tail 9 (by kernel_rfl) (by kernel_rfl) ?_
    simp only [List.take_succ_cons, List.take_zero, List.drop_succ_cons, List.drop_zero]
    repeat still_step
    refine wpStill_nil ?_
    go_wp2_with fail
    refine (hcall _).mono ?_
    rintro e w2 ⟨rfl, hg⟩
    have HB2 : Hid (Below w.heap.size w w2) := HB.out.trans (((Below.refl wr.heap.size wr).drew.trans hg).mono HB.out.size)
    clear hg hcall
    go_wp2
    go_ret
    exact ⟨ret_b HT.out.symm, HB2.out⟩
   case true =>
    have HT : Hid (rises tcmp xs = rises tcmp (xs.drop m)) := by show _ = _; rw [HD.out, HE.out]; rfl
    go_wp2
    refine still_tail 9 (by kernel_rfl) (by kernel_rfl) ?_
    simp only [List.take_succ_cons, List.take_zero, List.drop_succ_cons, List.drop_zero]
    repeat still_step
    refine wpStill_nil ?_
    go_wp2_with fail
    refine (hcall _).mono ?_
    rintro e w2 ⟨rfl, hg⟩
    have HB2 : Hid (Below w.heap.size w w2) := HB.out.trans (((Below.refl wr.heap.size wr).drew.trans hg).mono HB.out.size)
    clear hg hcall hsub
    go_wp2
    go_roundw
    case rel => exact ⟨m + 1, m, rfl, .inr (by omega), by go_num, HB2, HT⟩
    case measure => simp [intOf]; omega
  ·have hkz : ¬ (m : Int) < (N : Int) := by omega
   have HT : Hid (rises tcmp xs = true) := by show _ = _; rw [HD.out, rises_end (by have := HM.out; rw [HN.out]; omega)]
   go_wp2
   go_ret
   exact ⟨ret_b HT.out.symm, HB.out⟩
end Go.Proofs.YtaaobpicaaeiiaaGreatDoor
namespace Go.Proofs.YtaaobpicaaeiiaaGreatDoor
open Go Go.RowKit Go.ChangeShapes Go.Lib

theorem all_snocR {α : Type} (p : α → Bool) {xs : List α} {k : Nat} {x : α} (hx : xs[k]? = some x) : (xs.take (k + 1)).all p = ((xs.take k).all p && p x) := by
 rw [take_at hx, List.all_append]; simp
theorem all_missR {α : Type} {p : α → Bool} {xs : List α} {k : Nat} {x : α} (hx : xs[k]? = some x) (hp : p x = false) : xs.all p = false := List.all_eq_false.2 ⟨x, List.mem_of_getElem? hx, by rw [hp]; decide⟩
theorem checkR_big {l : List (List Term)} (h : bigA l = true) : checkR l = 10 := by unfold checkR; rw [h]; rfl
theorem checkR_ord {l : List (List Term)} (h : bigA l = false) (h2 : (l.all (rises tcmp) && rises acmp l) = false) : checkR l = 5 := by unfold checkR; rw [h, h2]; rfl
theorem checkR_on {l : List (List Term)} (h : bigA l = false) (h1 : l.all (rises tcmp) = true) (h2 : rises acmp l = true) : checkR l = if clashR l then 1 else 0 := by unfold checkR; rw [h, h1, h2]; rfl
def clashAt (l : List (List Term)) (i n : Nat) : Bool := (List.range n).any fun k => !(i == k) && conA (l.getD i []) (l.getD k [])
def clashTo (l : List (List Term)) (n : Nat) : Bool := (List.range n).any fun i => clashAt l i l.length
theorem clashAt_succ (l : List (List Term)) (i n : Nat) : clashAt l i (n + 1) = (clashAt l i n || (!(i == n) && conA (l.getD i []) (l.getD n []))) := by
 unfold clashAt; rw [List.range_succ, List.any_append]; simp
theorem clashTo_succ (l : List (List Term)) (n : Nat) : clashTo l (n + 1) = (clashTo l n || clashAt l n l.length) := by
 unfold clashTo; rw [List.range_succ, List.any_append]; simp
theorem clashR_to (l : List (List Term)) : clashR l = clashTo l l.length := rfl
theorem clash_found {l : List (List Term)} {i k : Nat} (hi : i < l.length) (hk : k < l.length) (hne : ¬ i = k) (h : conA (l.getD i []) (l.getD k []) = true) : clashR l = true := by
 refine List.any_eq_true.2 ⟨i, List.mem_range.2 hi, List.any_eq_true.2 ⟨k, List.mem_range.2 hk, ?_⟩⟩
 rw [h]; simpa using hne
theorem getD_at {l : List (List Term)} {k : Nat} {x : List Term} (hx : l[k]? = some x) : l.getD k [] = x := by rw [List.getD_eq_getElem?_getD, hx]; rfl
set_option maxRecDepth 100000 in
set_option maxHeartbeats 8000000 in
theorem CheckR_ref (w : World) (v : Value) (xs : List (List Term)) (h : Is w v xs) :
  Calls Tryz.prog 18 #[v] w fun e w' => e = .returned (.int .i64 (checkR xs)) ∧ Below w.heap.size w w' := by
 have HI := Lib.hid h
 obtain ⟨a, c, rfl, hnc, hcm, hr⟩ := list_inv h
 simp only [maxLen] at hcm
 have HR := Lib.hid hr
 have hcall := large_ref w (.slice a xs.length c) xs h
 clear hr h
 generalize hN : xs.length = N at *
 have HN := Lib.hid hN
 clear hN
 cases qb : bigA xs
 case true =>
  rw [qb] at hcall
  have HF := Lib.hid (checkR_big qb)
  clear qb
  go_enter Tryz.func18, Tryz.ntmps18
  go_wp2_with fail
  refine hcall.mono ?_
  rintro e w1 ⟨rfl, rfl⟩
  go_wp2
  go_ret
  exact ⟨ret_i HF.out.symm, Below.refl _ _⟩
 rw [qb] at hcall
 have HQ := Lib.hid qb
 clear qb
 go_enter Tryz.func18, Tryz.ntmps18
 go_wp2_with fail
 refine hcall.mono ?_
 rintro e w1 ⟨rfl, rfl⟩
 clear hcall
 go_wp2
 go_loopw [3] (fun kv wr => ∃ k j : Nat, k ≤ N ∧ (k = 0 ∨ k = j + 1) ∧ kv = .int .i64 k ∧ Hid (Below w1.heap.size w1 wr) ∧ Hid ((xs.take k).all (rises tcmp) = true) ∧ Hid (j = k - 1) ∧ Hid (rises acmp xs = rises acmp (xs.drop j))) (fun kv _ => N - (intOf kv).toNat)
 case atStart => exact ⟨0, 0, by omega, .inl rfl, rfl, Below.refl _ _, rfl, rfl, rfl⟩
 case round =>
  obtain ⟨k, j, hk, hkj, rfl, HB, HA, HJ, HD⟩ := hrel
  by_cases hki : k < N
  ·have hkz : (k : Int) < (N : Int) := by omega
   have hk0 : (0 : Int) ≤ (k : Int) := by omega
   obtain ⟨x, hx⟩ := get_lt (xs := xs) (k := k) (by rw [HN.out]; exact hki)
   obtain ⟨bx, ox, rfl, hbx, ax, cx, x0', hx1, hx2, hx3⟩ := list_at HR.out hx
   have x0 := kept HB.out x0'
   have hsx := cell_lt x0
   have hxi : Is wr (.slice ax x.length cx) x := list_mk hx1 hx2 (hx3.mono HB.out)
   have hcall := fun W (hb : Below wr.heap.size wr W) => sorted_ref W (.slice ax x.length cx) x (hxi.mono hb)
   have HX := Lib.hid hx
   have HXI := Lib.hid hxi
   have HX3 := Lib.hid hx3
   clear hx hxi hx3
   cases q1 : rises tcmp x
   case false =>
    have HF : Hid (checkR xs = 5) := checkR_ord HQ.out (by rw [all_missR HX.out q1]; rfl)
    rw [q1] at hcall
    clear q1
    go_wp2_with fail
    refine wp_region_held_drew (S := (fun w' : World => w'.cell? ⟨bx, ox + k, none⟩ = some (.slice ax x.length cx))) (by kernel_rfl) (by exact x0) (fun hH0 => ?_)
    refine wpAnyH_take (i := 0) (oi := _) (v := ?_) rfl (by kernel_rfl) (by kernel_rfl) (by kernel_rfl) (fun _ _ _ h => h) (Or.inl ⟨by kernel_rfl, ?_⟩) hH0 ?_
    rotate_left
    ·intro w hSw; (try dsimp only at hSw); go_simp
     all_goals with_reducible rfl
    try simp only [tkS, Act.put]
    refine wpAnyH_take (i := 1) (oi := _) (v := ?_) rfl (by kernel_rfl) (by kernel_rfl) (by kernel_rfl) (fun _ _ _ h => h) (Or.inl ⟨by kernel_rfl, ?_⟩) hH0 ?_
    rotate_left
    ·intro w hSw; (try dsimp only at hSw); go_simp
     all_goals with_reducible rfl
    try simp only [tkS, Act.put]
    refine wpAnyH_take (i := 2) (oi := _) (v := ?_) rfl (by kernel_rfl) (by kernel_rfl) (by kernel_rfl) (fun _ _ _ h => h) (Or.inl ⟨by kernel_rfl, ?_⟩) hH0 ?_
    rotate_left
    ·intro w hSw; (try dsimp only at hSw); go_simp
     all_goals with_reducible rfl
    try simp only [tkS, Act.put]
    refine wpAnyH_take (i := 3) (oi := _) (v := ?_) rfl (by kernel_rfl) (by kernel_rfl) (by kernel_rfl) (fun _ _ _ h => h) (Or.inl ⟨by kernel_rfl, ?_⟩) hH0 ?_
    rotate_left
    ·intro w hSw; (try dsimp only at hSw); go_simp
     all_goals with_reducible rfl
    try simp only [tkS, Act.put]
    refine wpAnyH_ready (rs := [4]) (by kernel_rfl) (by simp) ?_
    refine AllReadyH.cons (o := _) rfl (fun K hK => ?_) AllReadyH.nil
    go_simp
    go_at_call 60
    refine (hcall _ (by repeat (first | exact zR _ _ | assumption | refine zN ?_ _ | refine zD ?_ | refine zA ?_ ?_ _ | refine zS ?_ ?_ _ | refine zT ?_ (zM (by assumption) ?_) | exact Nat.le_refl _ | (simp <;> omega) | omega))).mono ?_
    rintro e w3 ⟨rfl, hb3⟩
    go_wp2_with fail
    refine hK.out _ _ ?_ (fun hH1 => ?_)
    ·exact kept hb3 (by simpa using x0)
    try simp only [tkS, Act.put]
    clear hK K
    refine wpAnyH_take (i := 5) (oi := _) (v := ?_) rfl (by kernel_rfl) (by kernel_rfl) (by kernel_rfl) (fun _ _ _ h => h) (Or.inl ⟨by kernel_rfl, ?_⟩) hH1 ?_
    rotate_left
    ·intro w hSw; (try dsimp only at hSw); go_simp
     all_goals with_reducible rfl
    try simp only [tkS, Act.put]
    refine wpAnyH_take (i := 6) (oi := _) (v := ?_) rfl (by kernel_rfl) (by kernel_rfl) (by kernel_rfl) (fun _ _ _ h => h) (Or.inl ⟨by kernel_rfl, ?_⟩) hH1 ?_
    rotate_left
    ·intro w hSw; (try dsimp only at hSw); go_simp
     all_goals with_reducible rfl
    try simp only [tkS, Act.put]
    refine wpAnyH_take (i := 7) (oi := _) (v := undef) rfl (by kernel_rfl) (by kernel_rfl) (by kernel_rfl) (fun _ _ _ h => h) (Or.inr ⟨by kernel_rfl, rfl⟩) hH1 ?_
    try simp only [tkS, Act.put]
    refine wpAnyH_take (i := 8) (oi := _) (v := undef) rfl (by kernel_rfl) (by kernel_rfl) (by kernel_rfl) (fun _ _ _ h => h) (Or.inr ⟨by kernel_rfl, rfl⟩) hH1 ?_
    try simp only [tkS, Act.put]
    refine wpAnyH_take (i := 9) (oi := _) (v := undef) rfl (by kernel_rfl) (by kernel_rfl) (by kernel_rfl) (fun _ _ _ h => h) (Or.inr ⟨by kernel_rfl, rfl⟩) hH1 ?_
    try simp only [tkS, Act.put]
    refine wpAnyH_take (i := 10) (oi := _) (v := undef) rfl (by kernel_rfl) (by kernel_rfl) (by kernel_rfl) (fun _ _ _ h => h) (Or.inr ⟨by kernel_rfl, rfl⟩) hH1 ?_
    try simp only [tkS, Act.put]
    refine wpAnyH_take (i := 11) (oi := _) (v := undef) rfl (by kernel_rfl) (by kernel_rfl) (by kernel_rfl) (fun _ _ _ h => h) (Or.inr ⟨by kernel_rfl, rfl⟩) hH1 ?_
    try simp only [tkS, Act.put]
    refine wpAnyH_take (i := 12) (oi := _) (v := undef) rfl (by kernel_rfl) (by kernel_rfl) (by kernel_rfl) (fun _ _ _ h => h) (Or.inr ⟨by kernel_rfl, rfl⟩) hH1 ?_
    try simp only [tkS, Act.put]
    refine wpAnyH_take (i := 13) (oi := _) (v := undef) rfl (by kernel_rfl) (by kernel_rfl) (by kernel_rfl) (fun _ _ _ h => h) (Or.inr ⟨by kernel_rfl, rfl⟩) hH1 ?_
    try simp only [tkS, Act.put]
    refine wpAnyH_take (i := 14) (oi := _) (v := undef) rfl (by kernel_rfl) (by kernel_rfl) (by kernel_rfl) (fun _ _ _ h => h) (Or.inr ⟨by kernel_rfl, rfl⟩) hH1 ?_
    try simp only [tkS, Act.put]
    refine wpAnyH_take (i := 15) (oi := _) (v := undef) rfl (by kernel_rfl) (by kernel_rfl) (by kernel_rfl) (fun _ _ _ h => h) (Or.inr ⟨by kernel_rfl, rfl⟩) hH1 ?_
    try simp only [tkS, Act.put]
    refine wpAnyH_take (i := 16) (oi := _) (v := undef) rfl (by kernel_rfl) (by kernel_rfl) (by kernel_rfl) (fun _ _ _ h => h) (Or.inr ⟨by kernel_rfl, rfl⟩) hH1 ?_
    try simp only [tkS, Act.put]
    refine wpAnyH_take (i := 17) (oi := _) (v := undef) rfl (by kernel_rfl) (by kernel_rfl) (by kernel_rfl) (fun _ _ _ h => h) (Or.inr ⟨by kernel_rfl, rfl⟩) hH1 ?_
    try simp only [tkS, Act.put]
    refine wpAnyH_take (i := 18) (oi := _) (v := undef) rfl (by kernel_rfl) (by kernel_rfl) (by kernel_rfl) (fun _ _ _ h => h) (Or.inr ⟨by kernel_rfl, rfl⟩) hH1 ?_
    try simp only [tkS, Act.put]
    refine wpAnyH_take (i := 19) (oi := _) (v := undef) rfl (by kernel_rfl) (by kernel_rfl) (by kernel_rfl) (fun _ _ _ h => h) (Or.inr ⟨by kernel_rfl, rfl⟩) hH1 ?_
    try simp only [tkS, Act.put]
    refine wpAnyH_take (i := 20) (oi := _) (v := undef) rfl (by kernel_rfl) (by kernel_rfl) (by kernel_rfl) (fun _ _ _ h => h) (Or.inr ⟨by kernel_rfl, rfl⟩) hH1 ?_
    try simp only [tkS, Act.put]
    refine wpAnyH_take (i := 21) (oi := _) (v := undef) rfl (by kernel_rfl) (by kernel_rfl) (by kernel_rfl) (fun _ _ _ h => h) (Or.inr ⟨by kernel_rfl, rfl⟩) hH1 ?_
    try simp only [tkS, Act.put]
    refine wpAnyH_take (i := 22) (oi := _) (v := ?_) rfl (by kernel_rfl) (by kernel_rfl) (by kernel_rfl) (fun _ _ _ h => h) (Or.inl ⟨by kernel_rfl, ?_⟩) hH1 ?_
    rotate_left
    ·intro w hSw; (try dsimp only at hSw); go_simp
     all_goals with_reducible rfl
    try simp only [tkS, Act.put]
    refine wpAnyH_done (by kernel_rfl) ?_ _
    go_wp2
    go_ret
    exact ⟨ret_i HF.out.symm, HB.out.trans ((by have := hb3; exact (by repeat (first | exact zR _ _ | assumption | refine zN ?_ _ | refine zD ?_ | refine zA ?_ ?_ _ | refine zS ?_ ?_ _ | refine zT ?_ (zM (by assumption) ?_) | exact Nat.le_refl _ | (simp <;> omega) | omega)) : Below wr.heap.size wr _).mono HB.out.size)⟩
   case true =>
    have HAT : Hid ((xs.take (k + 1)).all (rises tcmp) = true) := by show _ = _; rw [all_snocR _ HX.out, HA.out, q1]; rfl
    rw [q1] at hcall
    clear q1
    by_cases hk1 : (0 : Int) < (k : Int)
    case neg =>
     have HK0 : Hid (k = 0) := by show _ = _; omega
     go_wp2_with fail
     refine wp_region_held_drew (S := (fun w' : World => w'.cell? ⟨bx, ox + k, none⟩ = some (.slice ax x.length cx))) (by kernel_rfl) (by exact x0) (fun hH0 => ?_)
     refine wpAnyH_take (i := 0) (oi := _) (v := ?_) rfl (by kernel_rfl) (by kernel_rfl) (by kernel_rfl) (fun _ _ _ h => h) (Or.inl ⟨by kernel_rfl, ?_⟩) hH0 ?_
     rotate_left
     ·intro w hSw; (try dsimp only at hSw); go_simp
      all_goals with_reducible rfl
     try simp only [tkS, Act.put]
     refine wpAnyH_take (i := 1) (oi := _) (v := ?_) rfl (by kernel_rfl) (by kernel_rfl) (by kernel_rfl) (fun _ _ _ h => h) (Or.inl ⟨by kernel_rfl, ?_⟩) hH0 ?_
     rotate_left
     ·intro w hSw; (try dsimp only at hSw); go_simp
      all_goals with_reducible rfl
     try simp only [tkS, Act.put]
     refine wpAnyH_take (i := 2) (oi := _) (v := ?_) rfl (by kernel_rfl) (by kernel_rfl) (by kernel_rfl) (fun _ _ _ h => h) (Or.inl ⟨by kernel_rfl, ?_⟩) hH0 ?_
     rotate_left
     ·intro w hSw; (try dsimp only at hSw); go_simp
      all_goals with_reducible rfl
     try simp only [tkS, Act.put]
     refine wpAnyH_take (i := 3) (oi := _) (v := ?_) rfl (by kernel_rfl) (by kernel_rfl) (by kernel_rfl) (fun _ _ _ h => h) (Or.inl ⟨by kernel_rfl, ?_⟩) hH0 ?_
     rotate_left
     ·intro w hSw; (try dsimp only at hSw); go_simp
      all_goals with_reducible rfl
     try simp only [tkS, Act.put]
     refine wpAnyH_ready (rs := [4]) (by kernel_rfl) (by simp) ?_
     refine AllReadyH.cons (o := _) rfl (fun K hK => ?_) AllReadyH.nil
     go_simp
     go_at_call 60
     refine (hcall _ (by repeat (first | exact zR _ _ | assumption | refine zN ?_ _ | refine zD ?_ | refine zA ?_ ?_ _ | refine zS ?_ ?_ _ | refine zT ?_ (zM (by assumption) ?_) | exact Nat.le_refl _ | (simp <;> omega) | omega))).mono ?_
     rintro e w3 ⟨rfl, hb3⟩
     go_wp2_with fail
     refine hK.out _ _ ?_ (fun hH1 => ?_)
     ·exact kept hb3 (by simpa using x0)
     try simp only [tkS, Act.put]
     clear hK K
     refine wpAnyH_take (i := 5) (oi := _) (v := ?_) rfl (by kernel_rfl) (by kernel_rfl) (by kernel_rfl) (fun _ _ _ h => h) (Or.inl ⟨by kernel_rfl, ?_⟩) hH1 ?_
     rotate_left
     ·intro w hSw; (try dsimp only at hSw); go_simp
      all_goals with_reducible rfl
     try simp only [tkS, Act.put]
     refine wpAnyH_take (i := 6) (oi := _) (v := ?_) rfl (by kernel_rfl) (by kernel_rfl) (by kernel_rfl) (fun _ _ _ h => h) (Or.inl ⟨by kernel_rfl, ?_⟩) hH1 ?_
     rotate_left
     ·intro w hSw; (try dsimp only at hSw); go_simp
      all_goals with_reducible rfl
     try simp only [tkS, Act.put]
     refine wpAnyH_take (i := 7) (oi := _) (v := ?_) rfl (by kernel_rfl) (by kernel_rfl) (by kernel_rfl) (fun _ _ _ h => h) (Or.inl ⟨by kernel_rfl, ?_⟩) hH1 ?_
     rotate_left
     ·intro w hSw; (try dsimp only at hSw); go_simp
      all_goals with_reducible rfl
     try simp only [tkS, Act.put]
     refine wpAnyH_take (i := 8) (oi := _) (v := .bool false) rfl (by kernel_rfl) (by kernel_rfl) (by kernel_rfl) (fun _ _ _ h => h) (Or.inl ⟨by kernel_rfl, ?_⟩) hH1 ?_
     ·intro w hSw; (try dsimp only at hSw); go_simp
      all_goals omega
     try simp only [tkS, Act.put]
     refine wpAnyH_take (i := 9) (oi := _) (v := ?_) rfl (by kernel_rfl) (by kernel_rfl) (by kernel_rfl) (fun _ _ _ h => h) (Or.inl ⟨by kernel_rfl, ?_⟩) hH1 ?_
     rotate_left
     ·intro w hSw; (try dsimp only at hSw); go_simp
      all_goals with_reducible rfl
     try simp only [tkS, Act.put]
     refine wpAnyH_take (i := 10) (oi := _) (v := undef) rfl (by kernel_rfl) (by kernel_rfl) (by kernel_rfl) (fun _ _ _ h => h) (Or.inr ⟨by kernel_rfl, rfl⟩) hH1 ?_
     try simp only [tkS, Act.put]
     refine wpAnyH_take (i := 11) (oi := _) (v := undef) rfl (by kernel_rfl) (by kernel_rfl) (by kernel_rfl) (fun _ _ _ h => h) (Or.inr ⟨by kernel_rfl, rfl⟩) hH1 ?_
     try simp only [tkS, Act.put]
     refine wpAnyH_take (i := 12) (oi := _) (v := undef) rfl (by kernel_rfl) (by kernel_rfl) (by kernel_rfl) (fun _ _ _ h => h) (Or.inr ⟨by kernel_rfl, rfl⟩) hH1 ?_
     try simp only [tkS, Act.put]
     refine wpAnyH_take (i := 13) (oi := _) (v := undef) rfl (by kernel_rfl) (by kernel_rfl) (by kernel_rfl) (fun _ _ _ h => h) (Or.inr ⟨by kernel_rfl, rfl⟩) hH1 ?_
     try simp only [tkS, Act.put]
     refine wpAnyH_take (i := 14) (oi := _) (v := undef) rfl (by kernel_rfl) (by kernel_rfl) (by kernel_rfl) (fun _ _ _ h => h) (Or.inr ⟨by kernel_rfl, rfl⟩) hH1 ?_
     try simp only [tkS, Act.put]
     refine wpAnyH_take (i := 15) (oi := _) (v := undef) rfl (by kernel_rfl) (by kernel_rfl) (by kernel_rfl) (fun _ _ _ h => h) (Or.inr ⟨by kernel_rfl, rfl⟩) hH1 ?_
     try simp only [tkS, Act.put]
     refine wpAnyH_take (i := 16) (oi := _) (v := undef) rfl (by kernel_rfl) (by kernel_rfl) (by kernel_rfl) (fun _ _ _ h => h) (Or.inr ⟨by kernel_rfl, rfl⟩) hH1 ?_
     try simp only [tkS, Act.put]
     refine wpAnyH_take (i := 17) (oi := _) (v := undef) rfl (by kernel_rfl) (by kernel_rfl) (by kernel_rfl) (fun _ _ _ h => h) (Or.inr ⟨by kernel_rfl, rfl⟩) hH1 ?_
     try simp only [tkS, Act.put]
     refine wpAnyH_take (i := 18) (oi := _) (v := undef) rfl (by kernel_rfl) (by kernel_rfl) (by kernel_rfl) (fun _ _ _ h => h) (Or.inr ⟨by kernel_rfl, rfl⟩) hH1 ?_
     try simp only [tkS, Act.put]
     refine wpAnyH_take (i := 19) (oi := _) (v := undef) rfl (by kernel_rfl) (by kernel_rfl) (by kernel_rfl) (fun _ _ _ h => h) (Or.inr ⟨by kernel_rfl, rfl⟩) hH1 ?_
     try simp only [tkS, Act.put]
     refine wpAnyH_take (i := 20) (oi := _) (v := undef) rfl (by kernel_rfl) (by kernel_rfl) (by kernel_rfl) (fun _ _ _ h => h) (Or.inr ⟨by kernel_rfl, rfl⟩) hH1 ?_
     try simp only [tkS, Act.put]
     refine wpAnyH_take (i := 21) (oi := _) (v := ?_) rfl (by kernel_rfl) (by kernel_rfl) (by kernel_rfl) (fun _ _ _ h => h) (Or.inl ⟨by kernel_rfl, ?_⟩) hH1 ?_
     rotate_left
     ·intro w hSw; (try dsimp only at hSw); go_simp
      all_goals with_reducible rfl
     try simp only [tkS, Act.put]
     refine wpAnyH_take (i := 22) (oi := _) (v := ?_) rfl (by kernel_rfl) (by kernel_rfl) (by kernel_rfl) (fun _ _ _ h => h) (Or.inl ⟨by kernel_rfl, ?_⟩) hH1 ?_
     rotate_left
     ·intro w hSw; (try dsimp only at hSw); go_simp
      all_goals with_reducible rfl
     try simp only [tkS, Act.put]
     refine wpAnyH_done (by kernel_rfl) ?_ _
     have HB3 : Hid (Below w1.heap.size w1 w3) := HB.out.trans ((by have := hb3; exact (by repeat (first | exact zR _ _ | assumption | refine zN ?_ _ | refine zD ?_ | refine zA ?_ ?_ _ | refine zS ?_ ?_ _ | refine zT ?_ (zM (by assumption) ?_) | exact Nat.le_refl _ | (simp <;> omega) | omega)) : Below wr.heap.size wr _).mono HB.out.size)
     have HJ3 : Hid (j = k + 1 - 1) := by show _ = _; rw [HJ.out, HK0.out]
     have hj3 : k + 1 = j + 1 := by have := HJ3.out; omega
     clear hb3
     go_wp2
     go_roundw
     case rel => exact ⟨k + 1, j, by omega, .inr hj3, by go_num, HB3, HAT, HJ3, HD⟩
     case measure => simp [intOf]; omega
    case pos =>
     have hj1 : k = j + 1 := by omega
     have HJ1 := Lib.hid hj1
     have hj0 : (0 : Int) ≤ (j : Int) := by omega
     have hjN : (j : Int) < (N : Int) := by omega
     have hsub : IntKind.i64.wrap ((k : Int) - 1) = (j : Int) := by rw [show (k : Int) - 1 = j by omega]; exact IntWalk.i64_in _ (by omega)
     obtain ⟨p, hp⟩ := get_lt (xs := xs) (k := j) (by rw [HN.out]; omega)
     obtain ⟨b2, o2, he, -, ap, cp, p0', hp1, hp2, hp3⟩ := list_at HR.out hp
     cases he
     have p0 := kept HB.out p0'
     have hpi : Is wr (.slice ap p.length cp) p := list_mk hp1 hp2 (hp3.mono HB.out)
     have hcall2 := fun W (hb : Below wr.heap.size wr W) => Compare_ref W (.slice ap p.length cp) (.slice ax x.length cx) p x (hpi.mono hb) (HXI.out.mono hb)
     have HE : Hid (rises acmp xs = (decide (acmp p x < 0) && rises acmp (xs.drop k))) := by show _ = _; rw [HD.out]; have := HX.out; rw [HJ1.out] at this ⊢; exact rises_at hp this
     clear hp p0' hp3 hpi hj1
     generalize acmp p x = t at hcall2 HE
     go_wp2_with fail
     refine wp_region_held_drew (S := (fun w' : World => w'.cell? ⟨bx, ox + k, none⟩ = some (.slice ax x.length cx) ∧ w'.cell? ⟨bx, ox + j, none⟩ = some (.slice ap p.length cp))) (by kernel_rfl) (by exact ⟨x0, p0⟩) (fun hH0 => ?_)
     refine wpAnyH_take (i := 0) (oi := _) (v := ?_) rfl (by kernel_rfl) (by kernel_rfl) (by kernel_rfl) (fun _ _ _ h => h) (Or.inl ⟨by kernel_rfl, ?_⟩) hH0 ?_
     rotate_left
     ·intro w hSw; (try dsimp only at hSw); go_simp
      all_goals with_reducible rfl
     try simp only [tkS, Act.put]
     refine wpAnyH_take (i := 1) (oi := _) (v := ?_) rfl (by kernel_rfl) (by kernel_rfl) (by kernel_rfl) (fun _ _ _ h => h) (Or.inl ⟨by kernel_rfl, ?_⟩) hH0 ?_
     rotate_left
     ·intro w hSw; (try dsimp only at hSw); go_simp
      all_goals with_reducible rfl
     try simp only [tkS, Act.put]
     refine wpAnyH_take (i := 2) (oi := _) (v := ?_) rfl (by kernel_rfl) (by kernel_rfl) (by kernel_rfl) (fun _ _ _ h => h) (Or.inl ⟨by kernel_rfl, ?_⟩) hH0 ?_
     rotate_left
     ·intro w hSw; (try dsimp only at hSw); go_simp
      all_goals with_reducible rfl
     try simp only [tkS, Act.put]
     refine wpAnyH_take (i := 3) (oi := _) (v := ?_) rfl (by kernel_rfl) (by kernel_rfl) (by kernel_rfl) (fun _ _ _ h => h) (Or.inl ⟨by kernel_rfl, ?_⟩) hH0 ?_
     rotate_left
     ·intro w hSw; (try dsimp only at hSw); go_simp
      all_goals with_reducible rfl
     try simp only [tkS, Act.put]
     refine wpAnyH_ready (rs := [4]) (by kernel_rfl) (by simp) ?_
     refine AllReadyH.cons (o := _) rfl (fun K hK => ?_) AllReadyH.nil
     go_simp
     go_at_call 60
     refine (hcall _ (by repeat (first | exact zR _ _ | assumption | refine zN ?_ _ | refine zD ?_ | refine zA ?_ ?_ _ | refine zS ?_ ?_ _ | refine zT ?_ (zM (by assumption) ?_) | exact Nat.le_refl _ | (simp <;> omega) | omega))).mono ?_
     rintro e w3 ⟨rfl, hb3⟩
     go_wp2_with fail
     refine hK.out _ _ ?_ (fun hH1 => ?_)
     ·exact ⟨kept hb3 (by simpa using x0), kept hb3 (by simpa using p0)⟩
     try simp only [tkS, Act.put]
     clear hK K
     refine wpAnyH_take (i := 5) (oi := _) (v := ?_) rfl (by kernel_rfl) (by kernel_rfl) (by kernel_rfl) (fun _ _ _ h => h) (Or.inl ⟨by kernel_rfl, ?_⟩) hH1 ?_
     rotate_left
     ·intro w hSw; (try dsimp only at hSw); go_simp
      all_goals with_reducible rfl
     try simp only [tkS, Act.put]
     refine wpAnyH_take (i := 6) (oi := _) (v := ?_) rfl (by kernel_rfl) (by kernel_rfl) (by kernel_rfl) (fun _ _ _ h => h) (Or.inl ⟨by kernel_rfl, ?_⟩) hH1 ?_
     rotate_left
     ·intro w hSw; (try dsimp only at hSw); go_simp
      all_goals with_reducible rfl
     try simp only [tkS, Act.put]
     refine wpAnyH_take (i := 7) (oi := _) (v := ?_) rfl (by kernel_rfl) (by kernel_rfl) (by kernel_rfl) (fun _ _ _ h => h) (Or.inl ⟨by kernel_rfl, ?_⟩) hH1 ?_
     rotate_left
     ·intro w hSw; (try dsimp only at hSw); go_simp
      all_goals with_reducible rfl
     try simp only [tkS, Act.put]
     refine wpAnyH_take (i := 8) (oi := _) (v := .bool true) rfl (by kernel_rfl) (by kernel_rfl) (by kernel_rfl) (fun _ _ _ h => h) (Or.inl ⟨by kernel_rfl, ?_⟩) hH1 ?_
     ·intro w hSw; (try dsimp only at hSw); go_simp
      all_goals omega
     try simp only [tkS, Act.put]
     refine wpAnyH_take (i := 9) (oi := _) (v := ?_) rfl (by kernel_rfl) (by kernel_rfl) (by kernel_rfl) (fun _ _ _ h => h) (Or.inl ⟨by kernel_rfl, ?_⟩) hH1 ?_
     rotate_left
     ·intro w hSw; (try dsimp only at hSw); go_simp
      all_goals with_reducible rfl
     try simp only [tkS, Act.put]
     refine wpAnyH_take (i := 10) (oi := _) (v := ?_) rfl (by kernel_rfl) (by kernel_rfl) (by kernel_rfl) (fun _ _ _ h => h) (Or.inl ⟨by kernel_rfl, ?_⟩) hH1 ?_
     rotate_left
     ·intro w hSw; (try dsimp only at hSw); go_simp
      all_goals with_reducible rfl
     try simp only [tkS, Act.put]
     refine wpAnyH_take (i := 11) (oi := _) (v := ?_) rfl (by kernel_rfl) (by kernel_rfl) (by kernel_rfl) (fun _ _ _ h => h) (Or.inl ⟨by kernel_rfl, ?_⟩) hH1 ?_
     rotate_left
     ·intro w hSw; (try dsimp only at hSw); go_simp
      all_goals with_reducible rfl
     try simp only [tkS, Act.put]
     refine wpAnyH_take (i := 12) (oi := _) (v := ?_) rfl (by kernel_rfl) (by kernel_rfl) (by kernel_rfl) (fun _ _ _ h => h) (Or.inl ⟨by kernel_rfl, ?_⟩) hH1 ?_
     rotate_left
     ·intro w hSw; (try dsimp only at hSw); go_simp
      all_goals with_reducible rfl
     try simp only [tkS, Act.put]
     refine wpAnyH_take (i := 13) (oi := _) (v := ?_) rfl (by kernel_rfl) (by kernel_rfl) (by kernel_rfl) (fun _ _ _ h => h) (Or.inl ⟨by kernel_rfl, ?_⟩) hH1 ?_
     rotate_left
     ·intro w hSw; (try dsimp only at hSw); go_simp
      all_goals with_reducible rfl
     try simp only [tkS, Act.put]
     refine wpAnyH_take (i := 14) (oi := _) (v := ?_) rfl (by kernel_rfl) (by kernel_rfl) (by kernel_rfl) (fun _ _ _ h => h) (Or.inl ⟨by kernel_rfl, ?_⟩) hH1 ?_
     rotate_left
     ·intro w hSw; (try dsimp only at hSw); go_simp
      all_goals with_reducible rfl
     try simp only [tkS, Act.put]
     refine wpAnyH_take (i := 15) (oi := _) (v := ?_) rfl (by kernel_rfl) (by kernel_rfl) (by kernel_rfl) (fun _ _ _ h => h) (Or.inl ⟨by kernel_rfl, ?_⟩) hH1 ?_
     rotate_left
     ·intro w hSw; (try dsimp only at hSw); go_simp
      all_goals with_reducible rfl
     try simp only [tkS, Act.put]
     refine wpAnyH_take (i := 16) (oi := _) (v := ?_) rfl (by kernel_rfl) (by kernel_rfl) (by kernel_rfl) (fun _ _ _ h => h) (Or.inl ⟨by kernel_rfl, ?_⟩) hH1 ?_
     rotate_left
     ·intro w hSw; (try dsimp only at hSw); go_simp
      all_goals with_reducible rfl
     try simp only [tkS, Act.put]
     refine wpAnyH_take (i := 17) (oi := _) (v := ?_) rfl (by kernel_rfl) (by kernel_rfl) (by kernel_rfl) (fun _ _ _ h => h) (Or.inl ⟨by kernel_rfl, ?_⟩) hH1 ?_
     rotate_left
     ·intro w hSw; (try dsimp only at hSw); go_simp
      all_goals with_reducible rfl
     try simp only [tkS, Act.put]
     refine wpAnyH_take (i := 18) (oi := _) (v := ?_) rfl (by kernel_rfl) (by kernel_rfl) (by kernel_rfl) (fun _ _ _ h => h) (Or.inl ⟨by kernel_rfl, ?_⟩) hH1 ?_
     rotate_left
     ·intro w hSw; (try dsimp only at hSw); go_simp
      all_goals with_reducible rfl
     try simp only [tkS, Act.put]
     refine wpAnyH_ready (rs := [19]) (by kernel_rfl) (by simp) ?_
     refine AllReadyH.cons (o := _) rfl (fun K hK => ?_) AllReadyH.nil
     go_simp
     go_at_call 26
     refine (hcall2 _ (by have := hb3; exact (by repeat (first | exact zR _ _ | assumption | refine zN ?_ _ | refine zD ?_ | refine zA ?_ ?_ _ | refine zS ?_ ?_ _ | refine zT ?_ (zM (by assumption) ?_) | exact Nat.le_refl _ | (simp <;> omega) | omega)))).mono ?_
     rintro e w4 ⟨rfl, hb4⟩
     go_wp2_with fail
     refine hK.out _ _ ?_ (fun hH2 => ?_)
     ·exact ⟨kept hb4 hH1.1, kept hb4 hH1.2⟩
     try simp only [tkS, Act.put]
     clear hK K
     refine wpAnyH_take (i := 20) (oi := _) (v := ?_) rfl (by kernel_rfl) (by kernel_rfl) (by kernel_rfl) (fun _ _ _ h => h) (Or.inl ⟨by kernel_rfl, ?_⟩) hH2 ?_
     rotate_left
     ·intro w hSw; (try dsimp only at hSw); go_simp
      all_goals with_reducible rfl
     try simp only [tkS, Act.put]
     refine wpAnyH_take (i := 21) (oi := _) (v := ?_) rfl (by kernel_rfl) (by kernel_rfl) (by kernel_rfl) (fun _ _ _ h => h) (Or.inl ⟨by kernel_rfl, ?_⟩) hH2 ?_
     rotate_left
     ·intro w hSw; (try dsimp only at hSw); go_simp
      all_goals with_reducible rfl
     try simp only [tkS, Act.put]
     refine wpAnyH_take (i := 22) (oi := _) (v := ?_) rfl (by kernel_rfl) (by kernel_rfl) (by kernel_rfl) (fun _ _ _ h => h) (Or.inl ⟨by kernel_rfl, ?_⟩) hH2 ?_
     rotate_left
     ·intro w hSw; (try dsimp only at hSw); go_simp
      all_goals with_reducible rfl
     try simp only [tkS, Act.put]
     refine wpAnyH_done (by kernel_rfl) ?_ _
     have hw3 : Below wr.heap.size wr w3 := (by have := hb3; exact (by repeat (first | exact zR _ _ | assumption | refine zN ?_ _ | refine zD ?_ | refine zA ?_ ?_ _ | refine zS ?_ ?_ _ | refine zT ?_ (zM (by assumption) ?_) | exact Nat.le_refl _ | (simp <;> omega) | omega)) : Below wr.heap.size wr _)
     have HB4 : Hid (Below w1.heap.size w1 w4) := HB.out.trans ((hw3.trans (hb4.mono hw3.size)).mono HB.out.size)
     clear hb3 hb4 hw3
     cases q : decide (0 ≤ t)
     case true =>
      have HF : Hid (checkR xs = 5) := by
       have := of_decide_eq_true q
       exact checkR_ord HQ.out (by rw [HE.out, decide_eq_false (by omega)]; simp)
      go_wp2
      go_ret
      exact ⟨ret_i HF.out.symm, HB4.out⟩
     case false =>
      have HDT : Hid (rises acmp xs = rises acmp (xs.drop k)) := by
       have := of_decide_eq_false q
       show _ = _
       rw [HE.out, decide_eq_true (by omega)]; rfl
      clear hsub
      go_wp2
      go_roundw
      case rel => exact ⟨k + 1, k, by omega, .inr rfl, by go_num, HB4, HAT, rfl, HDT⟩
      case measure => simp [intOf]; omega
  ·have hkz : ¬ (k : Int) < (N : Int) := by omega
   have HAL : Hid (xs.all (rises tcmp) = true) := by
    have := HA.out
    rw [List.take_of_length_le (by rw [HN.out]; omega)] at this; exact this
   have HRI : Hid (rises acmp xs = true) := by show _ = _; rw [HD.out, rises_end (by have := HJ.out; rw [HN.out]; omega)]
   have HCK : Hid (checkR xs = if clashR xs then 1 else 0) := checkR_on HQ.out HAL.out HRI.out
   clear HA HD HJ HAL HRI hkj
   go_wp2
   go_loopw [4, 5] (fun iv _ wr => ∃ i : Nat, i ≤ N ∧ iv = .int .i64 i ∧ Hid (Below w1.heap.size w1 wr) ∧ Hid (clashTo xs i = false)) (fun iv _ _ => N - (intOf iv).toNat)
   case atStart => exact ⟨0, by omega, rfl, HB, rfl⟩
   case round =>
    clear HB hkz hki hk
    obtain ⟨i, hi, rfl, HB, HT⟩ := hrel
    by_cases hii : i < N
    ·have hiz : (i : Int) < (N : Int) := by omega
     have hi0 : (0 : Int) ≤ (i : Int) := by omega
     obtain ⟨x, hx⟩ := get_lt (xs := xs) (k := i) (by rw [HN.out]; exact hii)
     obtain ⟨bx, ox, rfl, hbx, ax, cx, x0', hx1, hx2, hx3⟩ := list_at HR.out hx
     have HX := Lib.hid hx
     have HX0 := Lib.hid x0'
     have HXI : Hid (Is w1 (.slice ax x.length cx) x) := list_mk hx1 hx2 hx3
     clear hx hx3 x0' hx1 hx2
     go_wp2
     go_loopw [5] (fun kv wr => ∃ n : Nat, n ≤ N ∧ kv = .int .i64 n ∧ Hid (Below w1.heap.size w1 wr) ∧ Hid (clashAt xs i n = false)) (fun kv _ => N - (intOf kv).toNat)
     case atStart => exact ⟨0, by omega, rfl, HB, rfl⟩
     case round =>
      clear HB
      obtain ⟨n, hn, rfl, HB, HC⟩ := hrel
      by_cases hni : n < N
      ·have hnz : (n : Int) < (N : Int) := by omega
       have hn0 : (0 : Int) ≤ (n : Int) := by omega
       obtain ⟨y, hy⟩ := get_lt (xs := xs) (k := n) (by rw [HN.out]; exact hni)
       obtain ⟨b2, o2, he, -, ay, cy, y0', hy1, hy2, hy3⟩ := list_at HR.out hy
       cases he
       have HS : Hid (clashAt xs i (n + 1) = (!(i == n) && conA x y)) := by show _ = _; rw [clashAt_succ, HC.out, getD_at HX.out, getD_at hy]; rfl
       have x0 := kept HB.out HX0.out
       have y0 := kept HB.out y0'
       have hcall := fun W (hb : Below w1.heap.size w1 W) => Contains_ref W (.slice ax x.length cx) (.slice ay y.length cy) x y (HXI.out.mono hb) ((list_mk hy1 hy2 hy3).mono hb)
       have HFD : Hid (conA x y = true → ¬ i = n → clashR xs = true) := fun h hne => clash_found (by rw [HN.out]; exact hii) (by rw [HN.out]; exact hni) hne (by rw [getD_at HX.out, getD_at hy]; exact h)
       clear hy y0' hy3
       generalize conA x y = cb at *
       by_cases hne : i = n
       ·have q : ((i : Int) != (n : Int)) = false := by simp; omega
        have HCT : Hid (clashAt xs i (n + 1) = false) := by show _ = _; rw [HS.out, hne]; simp
        clear hne
        go_wp2
        go_quiet (fail)
        go_wp2
        go_roundw
        case rel => exact ⟨n + 1, by omega, by go_num, Lib.hid (HB.out.drewN _), HCT⟩
        case measure => simp [intOf]; omega
       ·have q : ((i : Int) != (n : Int)) = true := by simp; omega
        have HNE := Lib.hid hne
        clear hne
        go_wp2
        refine still_tail 12 (by kernel_rfl) (by kernel_rfl) ?_
        simp only [List.take_succ_cons, List.take_zero, List.drop_succ_cons, List.drop_zero]
        repeat still_step
        refine wpStill_nil ?_
        go_wp2_with fail
        refine (hcall _ (HB.out.trans (by repeat (first | exact zR _ _ | assumption | refine zN ?_ _ | refine zD ?_ | refine zA ?_ ?_ _ | refine zS ?_ ?_ _ | refine zT ?_ (zM (by assumption) ?_) | exact Nat.le_refl _ | (simp <;> omega) | omega)))).mono ?_
        rintro e w2 ⟨rfl, hg⟩
        have HB2 : Hid (Below w1.heap.size w1 w2) := HB.out.trans (((Below.refl wr.heap.size wr).drew.trans hg).mono HB.out.size)
        clear hg hcall
        cases cb
        case true =>
         have HF : Hid (checkR xs = 1) := by show _ = _; rw [HCK.out, HFD.out (by first | rfl | trivial) HNE.out]; rfl
         go_wp2
         go_ret
         exact ⟨ret_i HF.out.symm, HB2.out⟩
        case false =>
         have HCT : Hid (clashAt xs i (n + 1) = false) := by show _ = _; rw [HS.out]; simp
         go_wp2
         go_roundw
         case rel => exact ⟨n + 1, by omega, by go_num, HB2, HCT⟩
         case measure => simp [intOf]; omega
      ·have hnz : ¬ (n : Int) < (N : Int) := by omega
       have HTT : Hid (clashTo xs (i + 1) = false) := by
        have hnn : n = N := by omega
        show _ = _
        rw [clashTo_succ, HT.out, HN.out, ← hnn, HC.out]; rfl
       go_wp2
       go_roundw
       case rel => exact ⟨i + 1, by omega, by go_num, HB, HTT⟩
       case measure => simp [intOf]; omega
    ·have hiz : ¬ (i : Int) < (N : Int) := by omega
     have HF : Hid (checkR xs = 0) := by
      have hin : i = N := by omega
      show _ = _
      rw [HCK.out, clashR_to, HN.out, ← hin, HT.out]; rfl
     go_wp2
     go_ret
     exact ⟨ret_i HF.out.symm, HB.out⟩
end Go.Proofs.YtaaobpicaaeiiaaGreatDoor
namespace Go.Proofs.YtaaobpicaaeiiaaGreatDoor
open Go Go.RowKit Go.ChangeShapes Go.Lib

end Go.Proofs.YtaaobpicaaeiiaaGreatDoor
