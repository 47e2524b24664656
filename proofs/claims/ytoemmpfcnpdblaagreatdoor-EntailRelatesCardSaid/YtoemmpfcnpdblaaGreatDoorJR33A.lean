/- The reference's tests on alternatives. -/
import Derived.Deep.RegionHeld3
import Derived.Laws.StructEq
import Derived.Test.YtoemmpfcnpdblaaGreatDoorJRefV
import Derived.Test.YtoemmpfcnpdblaaGreatDoorJExpG
import Derived.Test.YtoemmpfcnpdblaaGreatDoorJAltR
set_option linter.all false
namespace Go.Proofs.YtoemmpfcnpdblaaGreatDoor
open Go Go.RowKit Go.ChangeShapes Go.Lib

theorem tkS : (∀ (α : Type) (l : List α) (i : Nat) (h : i < l.toArray.size), l.toArray[i] = l[i]'(by simpa using h)) ∧ (∀ (α : Type) (a : α) (l : List α) (h : 0 < (a :: l).length), (a :: l)[0] = a) ∧
  (∀ (α : Type) (a : α) (l : List α) (i : Nat) (h : i + 1 < (a :: l).length), (a :: l)[i + 1] = l[i]'(by simpa using h)) ∧ (∀ (α : Type) (l : List α) (i : Nat) (a : α), l.toArray.setIfInBounds i a = (l.set i a).toArray) ∧
  (∀ (α : Type) (a b : α) (l : List α), (a :: l).set 0 b = b :: l) ∧ (∀ (α : Type) (a b : α) (l : List α) (i : Nat), (a :: l).set (i + 1) b = a :: l.set i b) :=
 ⟨fun _ _ _ _ => List.getElem_toArray _, fun _ _ _ _ => rfl, fun _ _ _ _ _ => rfl, fun _ _ _ _ => List.setIfInBounds_toArray .., fun _ _ _ _ => rfl, fun _ _ _ _ _ => rfl⟩
theorem eqlT (x y : Term) (w : World) : (Go.binOp BinOp.eql 67 (.agg #[.string x.license, .string x.exception]) (.agg #[.string y.license, .string y.exception])).run Tryz.prog w = .ok (.bool (decide (x = y))) w := by
 have u3 := Tryz.underlying9
 have a3 := Tryz.isAgg9
 have z3 := Tryz.sizeOf9
 have hS : Tryz.prog.underlying 67 = some (.struct (Tryz.prog.fieldsOf 67)) := by kernel_rfl
 have hp : Tryz.prog.stoodInHeld 67 = false := by kernel_rfl
 rw [run_eql_struct, show (10000 : Nat) = 9999 + 1 from rfl, run_equalIn_agg w 9999 67 _ _ hS hp]
 simp only [Program.fieldsOf, Tryz.underlying67]
 go_simp
 have e : decide (x = y) = ((x.license.toList == y.license.toList) && (x.exception.toList == y.exception.toList)) := by
  rw [ba_eq, ba_eq, Bool.eq_iff_iff]
  cases x; cases y
  simp
 rw [e]
 by_cases h1 : x.license.toList = y.license.toList <;> by_cases h2 : x.exception.toList = y.exception.toList <;> simp [h1, h2]
theorem any_snocR {α : Type} (p : α → Bool) {xs : List α} {k : Nat} {x : α} (hx : xs[k]? = some x) : (xs.take (k + 1)).any p = ((xs.take k).any p || p x) := by
 rw [take_at hx, List.any_append]; simp
theorem any_hitR {α : Type} {p : α → Bool} {xs : List α} {k : Nat} {x : α} (hx : xs[k]? = some x) (hp : p x = true) : xs.any p = true := List.any_eq_true.2 ⟨x, List.mem_of_getElem? hx, hp⟩
theorem any_endR {α : Type} {p : α → Bool} {xs : List α} {k : Nat} (h : (xs.take k).any p = false) (hk : ¬ k < xs.length) : xs.any p = false := by
 rw [List.take_of_length_le (by omega)] at h; exact h
set_option maxRecDepth 100000 in
set_option maxHeartbeats 4000000 in
theorem Has_ref (w : World) (v : Value) (xs : List Term) (t : Term) (h : Is w v xs) :
  Calls Tryz.prog 171 #[v, .agg #[.string t.license, .string t.exception]] w fun e w' => e = .returned (.bool (hasT xs t)) ∧ Below w.heap.size w w' := by
 obtain ⟨a, c, rfl, hnc, hcm, hr⟩ := list_inv h
 simp only [maxLen] at hcm
 have HR := Lib.hid hr
 have HD : Hid (hasT xs t = xs.any fun y => decide (y = t)) := rfl
 clear hr h
 generalize hN : xs.length = N at *
 have HN := Lib.hid hN
 clear hN
 go_enter Tryz.func171, Tryz.ntmps171
 go_wp2
 have hba : Below w.heap.size w (w.alloc (.cells #[.string t.license, .string t.exception] 67)) := (by repeat (first | exact zR _ _ | assumption | refine zN ?_ _ | refine zD ?_ | refine zA ?_ ?_ _ | refine zS ?_ ?_ _ | refine zT ?_ (zM (by assumption) ?_) | exact Nat.le_refl _ | (simp <;> omega) | omega))
 have e0 : (w.alloc (.cells #[.string t.license, .string t.exception] 67)).cell? ⟨w.heap.size, 0, none⟩ = some (.string t.license) := by simp
 have e1 : (w.alloc (.cells #[.string t.license, .string t.exception] 67)).cell? ⟨w.heap.size, 1, none⟩ = some (.string t.exception) := by simp
 generalize w.alloc (.cells #[.string t.license, .string t.exception] 67) = w0 at *
 have HBA := Lib.hid hba
 clear hba
 go_loopw [5] (fun i wr => ∃ k : Nat, k ≤ N ∧ i = .int .i64 k ∧ Hid ((xs.take k).any (fun y => decide (y = t)) = false) ∧ ∃ m, wr = w0.drewN m) (fun i _ => N - (intOf i).toNat)
 case atStart => exact ⟨0, by omega, rfl, rfl, 0, rfl⟩
 case round =>
  obtain ⟨k, hk, rfl, HK, m, rfl⟩ := hrel
  by_cases hki : k < N
  ·have hkz : (k : Int) < (N : Int) := by omega
   have hk0 : (0 : Int) ≤ (k : Int) := by omega
   obtain ⟨x, hx⟩ := get_lt (xs := xs) (k := k) (by rw [HN.out]; exact hki)
   obtain ⟨b, off, rfl, hb, x0', x1', -⟩ := Term.at_row HR.out hx
   have x0 := kept HBA.out x0'
   have x1 := kept HBA.out x1'
   have hq := fun W => eqlT x t W
   have HX := Lib.hid hx
   clear hx x0' x1'
   cases e9 : decide (x = t)
   case true =>
    rw [e9] at hq
    have HF : Hid (hasT xs t = true) := any_hitR HX.out e9
    clear e9
    go_wp2
    go_quiet (fail)
    go_wp2
    go_ret
    exact ⟨ret_b HF.out.symm, (HBA.out.drewN _).drewN _⟩
   case false =>
    rw [e9] at hq
    have HT : Hid ((xs.take (k + 1)).any (fun y => decide (y = t)) = false) := by show _ = _; rw [any_snocR _ HX.out, HK.out, e9]; rfl
    clear e9
    go_wp2
    go_quiet (fail)
    go_wp2
    go_roundw
    case rel => exact ⟨k + 1, by omega, by go_num, HT, _, rfl⟩
    case measure => simp [intOf]; omega
  ·have hkz : ¬ (k : Int) < (N : Int) := by omega
   have HF : Hid (hasT xs t = false) := any_endR HK.out (by rw [HN.out]; exact hki)
   go_wp2
   go_ret
   exact ⟨ret_b HF.out.symm, HBA.out.drewN _⟩
set_option maxRecDepth 100000 in
set_option maxHeartbeats 4000000 in
theorem Contains_ref (w : World) (v1 v2 : Value) (xs ys : List Term) (h1 : Is w v1 xs) (h2 : Is w v2 ys) :
  Calls Tryz.prog 107 #[v1, v2] w fun e w' => e = .returned (.bool (conA xs ys)) ∧ Below w.heap.size w w' := by
 have HI := Lib.hid h1
 obtain ⟨a, c, rfl, -⟩ := list_inv h1
 obtain ⟨b, d, rfl, hnd, hdm, hs⟩ := list_inv h2
 simp only [maxLen] at hdm
 have HS := Lib.hid hs
 have HD : Hid (conA xs ys = !ys.any fun t => !hasT xs t) := by show _ = _; unfold conA; rw [List.not_any_eq_all_not]; simp
 clear h1 h2 hs
 generalize xs.length = N at *
 generalize hM : ys.length = M at *
 have HM := Lib.hid hM
 clear hM
 go_enter Tryz.func107, Tryz.ntmps107
 go_wp2
 go_loopw [5] (fun i wr => ∃ k : Nat, k ≤ M ∧ i = .int .i64 k ∧ Hid ((ys.take k).any (fun t => !hasT xs t) = false) ∧ Hid (Below w.heap.size w wr)) (fun i _ => M - (intOf i).toNat)
 case atStart => exact ⟨0, by omega, rfl, rfl, Below.refl _ _⟩
 case round =>
  obtain ⟨k, hk, rfl, HK, HB⟩ := hrel
  by_cases hki : k < M
  ·have hkz : (k : Int) < (M : Int) := by omega
   have hk0 : (0 : Int) ≤ (k : Int) := by omega
   obtain ⟨x, hx⟩ := get_lt (xs := ys) (k := k) (by rw [HM.out]; exact hki)
   obtain ⟨b, off, rfl, hb, x0', x1', -⟩ := Term.at_row HS.out hx
   have x0 := kept HB.out x0'
   have x1 := kept HB.out x1'
   have hsx := cell_lt x0
   have HX := Lib.hid hx
   have hcall := Has_ref wr (.slice a N c) xs x (HI.out.mono HB.out)
   clear hx x0' x1'
   cases e9 : hasT xs x
   case false =>
    rw [e9] at hcall
    have HF : Hid (conA xs ys = false) := by show _ = _; rw [HD.out, any_hitR HX.out (by rw [e9]; rfl)]; rfl
    clear e9
    go_wp2_with fail
    refine hcall.mono ?_
    rintro e w2 ⟨rfl, hb2⟩
    have HB2 : Hid (Below w.heap.size w w2) := HB.out.trans (hb2.mono HB.out.size)
    clear hcall hb2
    go_wp2
    go_ret
    exact ⟨ret_b HF.out.symm, HB2.out⟩
   case true =>
    rw [e9] at hcall
    have HT : Hid ((ys.take (k + 1)).any (fun t => !hasT xs t) = false) := by show _ = _; rw [any_snocR _ HX.out, HK.out, e9]; rfl
    clear e9
    go_wp2_with fail
    refine hcall.mono ?_
    rintro e w2 ⟨rfl, hb2⟩
    have HB2 : Hid (Below w.heap.size w w2) := HB.out.trans (hb2.mono HB.out.size)
    clear hcall hb2
    go_wp2
    go_roundw
    case rel => exact ⟨k + 1, by omega, by go_num, HT, HB2⟩
    case measure => simp [intOf]; omega
  ·have hkz : ¬ (k : Int) < (M : Int) := by omega
   have HF : Hid (conA xs ys = true) := by show _ = _; rw [HD.out, any_endR HK.out (by rw [HM.out]; exact hki)]; rfl
   go_wp2
   go_ret
   exact ⟨ret_b HF.out.symm, HB.out⟩
set_option maxRecDepth 100000 in
set_option maxHeartbeats 4000000 in
theorem Satisfied_ref (w : World) (v1 v2 : Value) (xs : List (List Term)) (ts : List Term) (h1 : Is w v1 xs) (h2 : Is w v2 ts) :
  Calls Tryz.prog 50 #[v1, v2] w fun e w' => e = .returned (.bool (satP xs ts)) ∧ Below w.heap.size w w' := by
 have HI := Lib.hid h2
 obtain ⟨a, c, rfl, hnc, hcm, hr⟩ := list_inv h1
 obtain ⟨b, d, rfl, -⟩ := list_inv h2
 simp only [maxLen] at hcm
 have HR := Lib.hid hr
 have HD : Hid (satP xs ts = xs.any (conA ts)) := rfl
 clear h1 h2 hr
 generalize ts.length = M at *
 generalize hN : xs.length = N at *
 have HN := Lib.hid hN
 clear hN
 go_enter Tryz.func50, Tryz.ntmps50
 go_wp2
 go_loopw [5] (fun i wr => ∃ k : Nat, k ≤ N ∧ i = .int .i64 k ∧ Hid ((xs.take k).any (conA ts) = false) ∧ Hid (Below w.heap.size w wr)) (fun i _ => N - (intOf i).toNat)
 case atStart => exact ⟨0, by omega, rfl, rfl, Below.refl _ _⟩
 case round =>
  obtain ⟨k, hk, rfl, HK, HB⟩ := hrel
  by_cases hki : k < N
  ·have hkz : (k : Int) < (N : Int) := by omega
   have hk0 : (0 : Int) ≤ (k : Int) := by omega
   obtain ⟨x, hx⟩ := get_lt (xs := xs) (k := k) (by rw [HN.out]; exact hki)
   obtain ⟨bx, ox, rfl, hbx, ax, cx, x0', hx1, hx2, hx3⟩ := list_at HR.out hx
   have x0 := kept HB.out x0'
   have hsx := cell_lt x0
   have HX := Lib.hid hx
   have hcall := Contains_ref wr (.slice b M d) (.slice ax x.length cx) ts x (HI.out.mono HB.out) (list_mk hx1 hx2 (hx3.mono HB.out))
   clear hx x0' hx3
   cases e9 : conA ts x
   case true =>
    rw [e9] at hcall
    have HF : Hid (satP xs ts = true) := by show _ = _; rw [HD.out, any_hitR HX.out e9]
    clear e9
    go_wp2_with fail
    refine hcall.mono ?_
    rintro e w2 ⟨rfl, hb2⟩
    have HB2 : Hid (Below w.heap.size w w2) := HB.out.trans (hb2.mono HB.out.size)
    clear hcall hb2
    go_wp2
    go_ret
    exact ⟨ret_b HF.out.symm, HB2.out⟩
   case false =>
    rw [e9] at hcall
    have HT : Hid ((xs.take (k + 1)).any (conA ts) = false) := by show _ = _; rw [any_snocR _ HX.out, HK.out, e9]; rfl
    clear e9
    go_wp2_with fail
    refine hcall.mono ?_
    rintro e w2 ⟨rfl, hb2⟩
    have HB2 : Hid (Below w.heap.size w w2) := HB.out.trans (hb2.mono HB.out.size)
    clear hcall hb2
    go_wp2
    go_roundw
    case rel => exact ⟨k + 1, by omega, by go_num, HT, HB2⟩
    case measure => simp [intOf]; omega
  ·have hkz : ¬ (k : Int) < (N : Int) := by omega
   have HF : Hid (satP xs ts = false) := by show _ = _; rw [HD.out, any_endR HK.out (by rw [HN.out]; exact hki)]
   go_wp2
   go_ret
   exact ⟨ret_b HF.out.symm, HB.out⟩
end Go.Proofs.YtoemmpfcnpdblaaGreatDoor
