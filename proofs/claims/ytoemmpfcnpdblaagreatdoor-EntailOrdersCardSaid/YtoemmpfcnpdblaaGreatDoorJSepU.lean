/- Layer 34: are lists small; is a list satisfied. -/
import Derived.Test.YtoemmpfcnpdblaaGreatDoorJIdxF
import Derived.Test.YtoemmpfcnpdblaaGreatDoorJCmpU
import Derived.Test.YtoemmpfcnpdblaaGreatDoorJAwU
set_option linter.all false
namespace Go.Proofs.YtoemmpfcnpdblaaGreatDoor
open Go Go.RowKit Go.ChangeShapes Go.Sort Go.Lib

set_option maxRecDepth 100000 in
set_option maxHeartbeats 1000000 in
theorem Satisfied1_p (w : World) (g : Nat) (v1 v2 : Value) (xs ys : List Term) (hc : w.cell? ⟨g, 0, none⟩ = some v1) (h1 : Is w v1 xs) (h2 : Is w v2 ys) :
  Calls Tryz.prog 78 #[v2, .pointer (some ⟨g, 0, none⟩)] w fun e w' => e = .returned (.bool (conA xs ys)) ∧ Below w.heap.size w w' := by
 have hg := cell_lt hc
 have HF := Contains_p w v1 v2 xs ys h1 h2
 obtain ⟨a, c, rfl, -⟩ := list_inv h1
 obtain ⟨b, d, rfl, -⟩ := list_inv h2
 clear h1 h2
 generalize conA xs ys = r at *
 generalize xs.length = N at *
 generalize ys.length = M at *
 go_enter Tryz.func78, Tryz.ntmps78
 go_wp2_with fail
 refine HF.mono ?_
 rintro e w1 ⟨rfl, hb⟩
 go_wp2
 go_ret
 exact ⟨rfl, hb⟩
set_option maxRecDepth 100000 in
set_option maxHeartbeats 1000000 in
theorem Satisfied_p (w : World) (v u : Value) (xs : List (List Term)) (ts : List Term) (h : Is w v xs) (k : Is w u ts) :
  Calls Tryz.prog 37 #[v, u] w fun e w' => e = .returned (.bool (satP xs ts)) ∧ Below w.heap.size w w' := by
 have HF : Hid (satP xs ts = xs.any (conA ts)) := rfl
 obtain ⟨a, c, rfl, -⟩ := list_inv k
 have hba : Below w.heap.size w (w.alloc (.cells #[.slice a ts.length c] 23)) := (by first | ((repeat (first | exact Below.refl _ _ | assumption | refine Below.drewN ?_ _ | refine Below.drew ?_ | refine Below.alloc ?_ (by first | exact Nat.le_refl _ | (simp; done) | (simp; omega) | omega) _ | refine Below.setCell ?_ (by first | exact Nat.le_refl _ | (simp; done) | (simp; omega) | omega) _ | refine Below.trans ?_ (Below.mono (by assumption) (by first | exact Nat.le_refl _ | (simp; done) | (simp; omega) | omega)))); done) | fail)
 have e0 : (w.alloc (.cells #[.slice a ts.length c] 23)).cell? ⟨w.heap.size, 0, none⟩ = some (.slice a ts.length c) := by simp
 have eg : ∀ args w, (callFunc 78 args).run Tryz.prog w = .ok (.enter 78 args) w := enters_of Tryz.func78 (by kernel_rfl) rfl
 have hcall := ContainsFuncAlt (w.alloc (.cells #[.slice a ts.length c] 23)) v xs (conA ts) 78 #[.pointer (some ⟨w.heap.size, 0, none⟩)] eg (h.mono hba) (fun i y _ W v hb hv =>
  Satisfied1_p W w.heap.size (.slice a ts.length c) v ts y (kept hb e0) ((k.mono hba).mono hb) hv)
 obtain ⟨b, d, rfl, -⟩ := list_inv h
 have HBA := Lib.hid hba
 clear h k hba e0 eg
 generalize xs.any (conA ts) = bb at *
 generalize xs.length = N at *
 generalize ts.length = M at *
 go_enter Tryz.func37, Tryz.ntmps37
 go_wp2_with fail
 refine hcall.mono ?_
 rintro e w2 ⟨rfl, hb2⟩
 have HB2 : Hid (Below w.heap.size w w2) := HBA.out.trans (hb2.mono (by simp))
 clear hcall hb2
 go_wp2
 go_ret
 exact ⟨ret_b HF.out.symm, HB2.out⟩
def FewO (xs : List (List Term)) (w : World) (e : Ending) (w' : World) : Prop := ∃ b, e = .returned (.bool b) ∧ Below w.heap.size w w' ∧ (b = true → xs.length ≤ 70 ∧ ∀ x ∈ xs, x.length ≤ 65)
set_option maxRecDepth 100000 in
set_option maxHeartbeats 4000000 in
theorem FewA_ref (w : World) (v : Value) (xs : List (List Term)) (h : Is w v xs) :
  Calls Tryz.prog 12 #[v] w fun e w' => FewO xs w e w' := by
 obtain ⟨a, c, rfl, hnc, hcm, hr⟩ := list_inv h
 simp only [maxLen] at hcm
 have HR := Lib.hid hr
 clear hr h
 generalize hN : xs.length = N at *
 have HN := Lib.hid hN
 clear hN
 by_cases q : (30 < N ∧ N ≤ 64) ∨ 70 < N
 ·have q2 : ((30 : Int) < (N : Int) ∧ (N : Int) ≤ 64) ∨ ((30 : Int) < (N : Int) ∧ ¬ (N : Int) ≤ 64 ∧ (70 : Int) < (N : Int)) := by omega
  clear q
  rcases q2 with ⟨q1, q2⟩ | ⟨q1, q2, q3⟩
  all_goals
   go_enter Tryz.func12, Tryz.ntmps12
   go_wp2
   go_ret
   exact ⟨false, rfl, Below.refl _ _, by intro h; cases h⟩
 have HQ : Hid (N ≤ 70) := by show _ ≤ _; omega
 have q2 : (¬ (30 : Int) < (N : Int) ∧ ¬ (70 : Int) < (N : Int)) ∨ ((30 : Int) < (N : Int) ∧ ¬ (N : Int) ≤ 64 ∧ ¬ (70 : Int) < (N : Int)) := by omega
 clear q
 rcases q2 with ⟨q1, q2⟩ | ⟨q1, q2, q3⟩
 case' inl =>
  go_enter Tryz.func12, Tryz.ntmps12
  go_wp2
  clear q1 q2
 case' inr =>
  go_enter Tryz.func12, Tryz.ntmps12
  go_wp2
  clear q1 q2 q3
 all_goals
  go_loopw [3, 4] (fun nv kv wr => ∃ (n : Int) (k : Nat), nv = .int .i64 n ∧ kv = .int .i64 k ∧ k ≤ N ∧ Hid (Below w.heap.size w wr) ∧ Hid (∀ x ∈ xs.take k, x.length ≤ 65)) (fun _ kv _ => N - (intOf kv).toNat)
  case atStart => exact ⟨0, 0, rfl, rfl, by omega, Lib.hid (Below.refl _ _), by intro x hx; simp at hx⟩
  case round =>
   obtain ⟨n, k, rfl, rfl, hk, HB, HS⟩ := hrel
   by_cases hki : k < N
   ·have hkz : (k : Int) < (N : Int) := by omega
    have hk0 : (0 : Int) ≤ (k : Int) := by omega
    obtain ⟨x, hx⟩ := get_lt (xs := xs) (k := k) (by rw [HN.out]; exact hki)
    have HT := Lib.hid (take_at hx)
    obtain ⟨bx, ox, rfl, hbx, ax, cx, x0', hx1, hx2, hx3⟩ := list_at HR.out hx
    have x0 := kept HB.out x0'
    have hsx := cell_lt x0
    have HX3 := Lib.hid hx3
    simp only [maxLen] at hx2
    generalize hM : x.length = M at *
    have HM := Lib.hid hM
    clear hx x0' hx3 hM
    by_cases q : 12 < M ∧ M ≠ 65
    ·have q1 : (12 : Int) < (M : Int) := by omega
     have q2 : ((M : Int) != 65) = true := by simp; omega
     clear q
     go_wp2
     go_ret
     exact ⟨false, rfl, HB.out, by intro h; cases h⟩
    have HX : Hid (∀ y ∈ xs.take (k + 1), y.length ≤ 65) := by
     intro y hy
     rw [HT.out] at hy
     rcases List.mem_append.1 hy with hy | hy
     ·exact HS.out y hy
     ·simp at hy; subst hy; rw [HM.out]; omega
    have q1 : ¬ (12 : Int) < (M : Int) ∨ ((12 : Int) < (M : Int) ∧ ((M : Int) != 65) = false) := by
     by_cases h : 12 < M
     ·right; refine ⟨by omega, ?_⟩; simp; omega
     ·left; omega
    clear q
    rcases q1 with q1 | ⟨q1, q2⟩
    case' inl =>
     go_wp2
     clear q1
    case' inr =>
     go_wp2
     clear q1 q2
    all_goals
     generalize wr = w5 at *
     go_loopw [3, 5] (fun nv jv wr => ∃ (n : Int) (j : Nat), nv = .int .i64 n ∧ jv = .int .i64 j ∧ j ≤ M ∧ ∃ m, wr = w5.drewN m) (fun _ jv _ => M - (intOf jv).toNat)
     case atStart => exact ⟨n, 0, rfl, rfl, by omega, 0, rfl⟩
     case round =>
      obtain ⟨n, j, rfl, rfl, hj, m, rfl⟩ := hrel
      by_cases hji : j < M
      ·have hjz : (j : Int) < (M : Int) := by omega
       have hj0 : (0 : Int) ≤ (j : Int) := by omega
       obtain ⟨y, hy⟩ := get_lt (xs := x) (k := j) (by rw [HM.out]; exact hji)
       obtain ⟨by', oy, rfl, hby, y0', y1', s0, s1⟩ := Term.at_row HX3.out hy
       have y0 := kept HB.out y0'
       have y1 := kept HB.out y1'
       simp only [maxLen] at s0 s1
       clear hy y0' y1'
       go_wp2
       go_quiet (fail)
       go_wp2
       go_roundw
       case rel => exact ⟨_, j + 1, rfl, by go_num, by omega, _, rfl⟩
       case measure => simp [intOf]; omega
      ·have hjz : ¬ (j : Int) < (M : Int) := by omega
       go_wp2
       go_roundw
       case rel => exact ⟨n, k + 1, rfl, by go_num, by omega, Lib.hid (HB.out.trans (by first | ((repeat (first | exact Below.refl _ _ | assumption | refine Below.drewN ?_ _ | refine Below.drew ?_ | refine Below.alloc ?_ (by first | exact Nat.le_refl _ | (simp; done) | (simp; omega) | omega) _ | refine Below.setCell ?_ (by first | exact Nat.le_refl _ | (simp; done) | (simp; omega) | omega) _ | refine Below.trans ?_ (Below.mono (by assumption) (by first | exact Nat.le_refl _ | (simp; done) | (simp; omega) | omega)))); done) | fail)), HX⟩
       case measure => simp [intOf]; omega
   ·have hkz : ¬ (k : Int) < (N : Int) := by omega
    go_wp2
    go_ret
    refine ⟨_, rfl, HB.out, fun _ => ⟨by rw [HN.out]; exact HQ.out, ?_⟩⟩
    have := HS.out
    rw [List.take_of_length_le (by rw [HN.out]; omega)] at this
    exact this
end Go.Proofs.YtoemmpfcnpdblaaGreatDoor
namespace Go.Proofs.YtoemmpfcnpdblaaGreatDoor
open Go Go.RowKit Go.ChangeShapes Go.Sort Go.Lib

theorem chk_mem {a b : List (List Term)} {x : List Term} (h : badP a b = false) (hx : x ∈ a) : chkP a b x = if b.any (conA x) then 18 else 0 := by
 unfold chkP
 rw [h, if_neg (by decide), if_neg]
 have : a.any (fun y => decide (x = y)) = true := List.any_eq_true.2 ⟨x, hx, by simp⟩
 rw [this]; decide
theorem chk_zero {a b : List (List Term)} {x : List Term} (h : badP a b = false) (hx : x ∈ a) : (chkP a b x == 0) = !b.any (conA x) := by
 rw [chk_mem h hx]
 cases b.any (conA x) <;> rfl
theorem sep_any (a b : List (List Term)) : (a.any fun x => !b.any (conA x)) = (sepP a b).isSome := by
 unfold sepP
 rw [Bool.eq_iff_iff, List.any_eq_true, List.find?_isSome]
theorem sep_found {a b : List (List Term)} {x : List Term} (h : sepP a b = some x) : x ∈ a ∧ b.any (conA x) = false := by
 unfold sepP at h
 have h1 := List.mem_of_find?_eq_some h
 have h2 := List.find?_some h
 exact ⟨h1, by simpa using h2⟩
theorem any_snocA {α : Type} (p : α → Bool) {xs : List α} {k : Nat} {x : α} (hx : xs[k]? = some x) : (xs.take (k + 1)).any p = ((xs.take k).any p || p x) := by
 rw [take_at hx, List.any_append]; simp
set_option maxRecDepth 100000 in
set_option maxHeartbeats 8000000 in
theorem EntailSeparates_p (w : World) (v u : Value) (xs ys : List (List Term)) (hg : Glob w) (h : Is w v xs) (k : Is w u ys) :
  Calls Tryz.prog 9 #[v, u] w fun e w' => e = .returned (.bool true) ∧ Below w.heap.size w w' := by
 have HI := Lib.hid h
 have HJ := Lib.hid k
 have HA := Lib.hid (awakeF_p w hg)
 obtain ⟨a, c, rfl, hnc, hcm, hr⟩ := list_inv h
 simp only [maxLen] at hcm
 have HR := Lib.hid hr
 obtain ⟨b, d, rfl, -⟩ := list_inv k
 clear h k hg hr
 generalize hN : xs.length = N at *
 have HN := Lib.hid hN
 clear hN
 generalize ys.length = M at *
 go_enter Tryz.func9, Tryz.ntmps9
 go_wp2_with fail
 refine HA.out.mono ?_
 rintro e w1 ⟨rfl, hb1⟩
 have HB1 := Lib.hid hb1
 clear hb1 HA
 go_wp2_with fail
 refine (FewA_ref w1 _ xs (HI.out.mono HB1.out)).mono ?_
 unfold FewO
 rintro e w2 ⟨f1, rfl, hb2, -⟩
 have HB2 : Hid (Below w.heap.size w w2) := HB1.out.trans (hb2.mono HB1.out.size)
 clear hb2 HB1
 cases f1
 case false =>
  go_wp2
  go_ret
  exact ⟨rfl, HB2.out⟩
 go_wp2_with fail
 refine (FewA_ref w2 _ ys (HJ.out.mono HB2.out)).mono ?_
 unfold FewO
 rintro e w3 ⟨f2, rfl, hb3, -⟩
 have HB3 : Hid (Below w.heap.size w w3) := HB2.out.trans (hb3.mono HB2.out.size)
 clear hb3 HB2
 cases f2
 case false =>
  go_wp2
  go_ret
  exact ⟨rfl, HB3.out⟩
 have hcall := Entails_p w3 _ _ _ _ (HI.out.mono HB3.out) (HJ.out.mono HB3.out)
 obtain ⟨e1, he1⟩ : ∃ e1, e1 = entP xs ys := ⟨_, rfl⟩
 rw [← he1] at hcall
 have HE1 := Lib.hid he1
 clear he1
 go_wp2_with fail
 refine hcall.mono ?_
 rintro e w4 ⟨rfl, hb4⟩
 have HB4 : Hid (Below w.heap.size w w4) := HB3.out.trans (hb4.mono HB3.out.size)
 clear hcall hb4 HB3
 have hcall := Separating_p w4 _ _ _ _ (HI.out.mono HB4.out) (HJ.out.mono HB4.out)
 obtain ⟨o, ho⟩ : ∃ o, o = sepO xs ys := ⟨_, rfl⟩
 obtain ⟨be, hbe⟩ : ∃ be, be = badE xs ys := ⟨_, rfl⟩
 rw [← ho, ← hbe] at hcall
 have HO := Lib.hid ho
 have HBE := Lib.hid hbe
 clear ho hbe
 go_wp2_with fail
 refine hcall.mono ?_
 unfold SepOut
 rintro e w5 ⟨v5, rfl, h5, hb5⟩
 have HB5 : Hid (Below w.heap.size w w5) := HB4.out.trans (hb5.mono HB4.out.size)
 have HV := Lib.hid h5
 obtain ⟨av, cv, rfl, -⟩ := list_inv h5
 clear hcall hb5 h5 HB4
 cases hbd : badP xs ys
 case true =>
  have h1 : e1 = (false, 1) := by rw [HE1.out]; unfold entP; rw [hbd]; rfl
  have h2 : o = none := by rw [HO.out]; unfold sepO; rw [hbd]; rfl
  have h3 : be = 1 := by rw [HBE.out]; unfold badE; rw [hbd]; rfl
  clear hbd HE1 HO HBE
  subst h1 h2 h3
  go_wp2
  go_ret
  exact ⟨rfl, HB5.out⟩
 have h1 : e1 = (o.isNone, 0) := by rw [HE1.out, HO.out]; unfold entP sepO; rw [hbd]; rfl
 have h3 : be = 0 := by rw [HBE.out]; unfold badE; rw [hbd]; rfl
 have HO2 : Hid (o = sepP xs ys) := by show _ = _; rw [HO.out]; unfold sepO; rw [hbd]; rfl
 have HBD := Lib.hid hbd
 clear hbd HE1 HO HBE
 subst h1 h3
 generalize hLV : (o.getD []).length = LV at *
 clear hLV
 go_wp2
 go_loopw [10, 55] (fun bv kv wr => ∃ (i : Nat) (bb : Bool), bv = .bool bb ∧ kv = .int .i64 i ∧ i ≤ N ∧ Hid (Below w5.heap.size w5 wr) ∧ Hid (bb = (xs.take i).any fun x => !ys.any (conA x))) (fun _ kv _ => N - (intOf kv).toNat)
 case atStart => exact ⟨0, false, rfl, rfl, by omega, Lib.hid (Below.refl _ _), rfl⟩
 case round =>
  obtain ⟨i, bb, rfl, rfl, hi, HB, HBB⟩ := hrel
  have HBW : Hid (Below w.heap.size w wr) := HB5.out.trans (HB.out.mono HB5.out.size)
  by_cases hki : i < N
  ·have hkz : (i : Int) < (N : Int) := by omega
   have hk0 : (0 : Int) ≤ (i : Int) := by omega
   obtain ⟨x, hx⟩ := get_lt (xs := xs) (k := i) (by rw [HN.out]; exact hki)
   obtain ⟨bx, ox, rfl, hbx, ax, cx, x0', hx1, hx2, hx3⟩ := list_at HR.out hx
   have x0 := kept HBW.out x0'
   have hsx := cell_lt x0
   have HS := Lib.hid (any_snocA (fun x => !ys.any (conA x)) hx)
   cases bb
   case true =>
    have HT : Hid (true = (xs.take (i + 1)).any fun x => !ys.any (conA x)) := by show _ = _; rw [HS.out, ← HBB.out]; rfl
    clear hx x0' hx1 hx2 hx3
    go_wp2
    go_roundw
    case rel => exact ⟨i + 1, true, rfl, by go_num, by omega, HB, HT⟩
    case measure => simp [intOf]; omega
   case false =>
    have hcall := CheckE_p wr _ _ _ xs ys x (HI.out.mono HBW.out) (HJ.out.mono HBW.out) (list_mk hx1 hx2 (hx3.mono HBW.out))
    have HCZ := Lib.hid (chk_zero HBD.out (List.mem_of_getElem? hx))
    clear hx x0' hx1 hx2 hx3
    generalize chkP xs ys x = ck at *
    have HT : Hid ((ck == 0) = (xs.take (i + 1)).any fun x => !ys.any (conA x)) := by show _ = _; rw [HS.out, ← HBB.out, HCZ.out]; rfl
    go_wp2_with fail
    refine hcall.mono ?_
    rintro e w6 ⟨rfl, hb6⟩
    have HB6 : Hid (Below w5.heap.size w5 w6) := HB.out.trans (hb6.mono HB.out.size)
    clear hcall hb6
    go_wp2
    go_roundw
    case rel => exact ⟨i + 1, ck == 0, rfl, by go_num, by omega, HB6, HT⟩
    case measure => simp [intOf]; omega
  ·have hkz : ¬ (i : Int) < (N : Int) := by omega
   have HB1 : bb = o.isSome := by
    have := HBB.out
    rw [List.take_of_length_le (by rw [HN.out]; omega), sep_any, ← HO2.out] at this
    exact this
   subst HB1
   clear HBB
   cases hoo : o
   case none =>
    subst hoo
    go_wp2
    go_ret
    exact ⟨rfl, HBW.out⟩
   case some x =>
    subst hoo
    obtain ⟨f1, f2⟩ := sep_found HO2.out.symm
    have HV2 := Lib.hid (HV.out.mono HB.out)
    simp only [Option.getD_some] at HV2
    have hcall := CheckE_p wr _ _ _ xs ys x (HI.out.mono HBW.out) (HJ.out.mono HBW.out) HV2.out
    rw [chk_mem HBD.out f1, f2, if_neg (by decide)] at hcall
    have HF2 := Lib.hid f2
    clear f1 f2
    go_wp2_with fail
    refine hcall.mono ?_
    rintro e w6 ⟨rfl, hb6⟩
    have HB6 : Hid (Below w.heap.size w w6) := HBW.out.trans (hb6.mono HBW.out.size)
    have hcall := Satisfied_p w6 _ _ ys x (HJ.out.mono HB6.out) (HV2.out.mono hb6)
    have HSP : Hid (satP ys x = false) := HF2.out
    rw [HSP.out] at hcall
    clear hb6
    go_wp2_with fail
    refine hcall.mono ?_
    rintro e w7 ⟨rfl, hb7⟩
    have HB7 : Hid (Below w.heap.size w w7) := HB6.out.trans (hb7.mono HB6.out.size)
    clear hcall hb7
    go_wp2
    go_ret
    exact ⟨rfl, HB7.out⟩
end Go.Proofs.YtoemmpfcnpdblaaGreatDoor
