/- The law: entailment is reflexive and transitive, and lists that entail each other are equal; Both entails its parts, and these entail Either. -/
import Derived.Deep.DeepCutAuto
import Derived.Test.YtoemmpfcnpdblaaGreatDoorJAwU
import Derived.Test.YtoemmpfcnpdblaaGreatDoorJSepU
import Derived.Test.YtoemmpfcnpdblaaGreatDoorJBothP
import Derived.Test.YtoemmpfcnpdblaaGreatDoorJR33A
set_option linter.all false
namespace Go.Proofs.YtoemmpfcnpdblaaGreatDoor
open Go Go.RowKit Go.ChangeShapes Go.Sort Go.Lib

def isE (a b : List (List Term)) : Bool := (entP a b).1 && ((entP a b).2 == 0)
theorem isE_ok {a b : List (List Term)} (h : checkA a = 0) (k : checkA b = 0) : isE a b = (sepP a b).isNone := by
 unfold isE entP badP
 rw [h, k]; simp
theorem isE_iff {a b : List (List Term)} (h : checkA a = 0) (k : checkA b = 0) : isE a b = true ↔ ∀ ts, satP a ts = true → satP b ts = true := by
 rw [isE_ok h k]; exact ent_iff
theorem isE_refl {a : List (List Term)} (h : checkA a = 0) : isE a a = true := (isE_iff h h).2 fun _ h => h
theorem isE_trans {a b c : List (List Term)} (ha : checkA a = 0) (hb : checkA b = 0) (hc : checkA c = 0) (h : isE a b = true) (k : isE b c = true) : isE a c = true :=
 (isE_iff ha hc).2 fun ts ht => (isE_iff hb hc).1 k ts ((isE_iff ha hb).1 h ts ht)
theorem isE_anti {a b : List (List Term)} (ha : checkA a = 0) (hb : checkA b = 0) (h : isE a b = true) (k : isE b a = true) : a = b :=
 min_unique (checkA_ok.1 ha).1 (checkA_ok.1 hb).1 fun ts => by
  rw [Bool.eq_iff_iff]
  exact ⟨(isE_iff ha hb).1 h ts, (isE_iff hb ha).1 k ts⟩
theorem limited_ok {l : List (List Term)} (h : (limitedP l).2 = 0) : (limitedP l).1 = l ∧ bigA l = false := by
 unfold limitedP at *
 cases q : l.any fun a => decide ((64 : Int) < a.length)
 ·rw [q] at h
  simp only [Bool.false_eq_true, if_false] at h ⊢
  unfold sizedP at *
  cases q2 : decide ((64 : Int) < l.length)
  ·rw [q2] at h
   refine ⟨rfl, ?_⟩
   unfold bigA; rw [q, q2]; rfl
  ·rw [q2] at h; cases h
 ·rw [q] at h; cases h
theorem limited_chk {l : List (List Term)} (hm : MinL l) (h : (limitedP l).2 = 0) : checkA (limitedP l).1 = 0 := by
 obtain ⟨h1, h2⟩ := limited_ok h
 rw [h1]; exact checkA_ok.2 ⟨hm, h2⟩
theorem both_eq {a b : List (List Term)} (ha : checkA a = 0) (hb : checkA b = 0) : bothP a b = limitedP (minimalP (pairsA a b)) := by
 unfold bothP badP; rw [ha, hb]; rfl
theorem either_eq {a b : List (List Term)} (ha : checkA a = 0) (hb : checkA b = 0) : eitherP a b = limitedP (minimalP (a ++ b)) := by
 unfold eitherP badP; rw [ha, hb]; rfl
theorem both_chk {a b : List (List Term)} (ha : checkA a = 0) (hb : checkA b = 0) (h : (bothP a b).2 = 0) : checkA (bothP a b).1 = 0 ∧ ∀ ts, satP (bothP a b).1 ts = (satP a ts && satP b ts) := by
 rw [both_eq ha hb] at *
 refine ⟨limited_chk (minimal_min _) h, fun ts => ?_⟩
 rw [(limited_ok h).1, minimal_sat, satP_pairs]
theorem either_chk {a b : List (List Term)} (ha : checkA a = 0) (hb : checkA b = 0) (h : (eitherP a b).2 = 0) : checkA (eitherP a b).1 = 0 ∧ ∀ ts, satP (eitherP a b).1 ts = (satP a ts || satP b ts) := by
 rw [either_eq ha hb] at *
 refine ⟨limited_chk (minimal_min _) h, fun ts => ?_⟩
 rw [(limited_ok h).1, minimal_sat, satP_append]
theorem both_law {a b c : List (List Term)} (ha : checkA a = 0) (hb : checkA b = 0) (hc : checkA c = 0) (h : (bothP a b).2 = 0) :
  isE (bothP a b).1 a = true ∧ isE (bothP a b).1 b = true ∧ (isE c a = true → isE c b = true → isE c (bothP a b).1 = true) := by
 obtain ⟨hl, hs⟩ := both_chk ha hb h
 refine ⟨(isE_iff hl ha).2 fun ts ht => ?_, (isE_iff hl hb).2 fun ts ht => ?_, fun h1 h2 => (isE_iff hc hl).2 fun ts ht => ?_⟩
 ·rw [hs, Bool.and_eq_true] at ht; exact ht.1
 ·rw [hs, Bool.and_eq_true] at ht; exact ht.2
 ·rw [hs, (isE_iff hc ha).1 h1 ts ht, (isE_iff hc hb).1 h2 ts ht]; rfl
theorem either_law {a b c : List (List Term)} (ha : checkA a = 0) (hb : checkA b = 0) (hc : checkA c = 0) (h : (eitherP a b).2 = 0) :
  isE a (eitherP a b).1 = true ∧ isE b (eitherP a b).1 = true ∧ (isE a c = true → isE b c = true → isE (eitherP a b).1 c = true) := by
 obtain ⟨hl, hs⟩ := either_chk ha hb h
 refine ⟨(isE_iff ha hl).2 fun ts ht => ?_, (isE_iff hb hl).2 fun ts ht => ?_, fun h1 h2 => (isE_iff hl hc).2 fun ts ht => ?_⟩
 ·rw [hs, ht]; rfl
 ·rw [hs, ht, Bool.or_true]
 ·rw [hs, Bool.or_eq_true] at ht
  exact ht.elim ((isE_iff ha hc).1 h1 ts) ((isE_iff hb hc).1 h2 ts)
set_option maxRecDepth 100000 in
set_option maxHeartbeats 2000000 in
theorem IsE_p (w : World) (v u : Value) (xs ys : List (List Term)) (h : Is w v xs) (k : Is w u ys) :
  Calls Tryz.prog 39 #[v, u] w fun e w' => e = .returned (.bool (isE xs ys)) ∧ Below w.heap.size w w' := by
 have hcall := Entails_p w v u xs ys h k
 have HI : Hid (isE xs ys = ((entP xs ys).1 && ((entP xs ys).2 == 0))) := rfl
 obtain ⟨a, c', rfl, -⟩ := list_inv h
 obtain ⟨b, d', rfl, -⟩ := list_inv k
 clear h k
 generalize entP xs ys = r at *
 obtain ⟨r1, r2⟩ := r
 generalize xs.length = N at *
 generalize ys.length = M at *
 cases r1
 all_goals
  go_enter Tryz.func39, Tryz.ntmps39
  go_wp2_with fail
  refine hcall.mono ?_
  rintro e w1 ⟨rfl, hb⟩
  go_wp2
  go_ret
  exact ⟨ret_b (by rw [HI.out]; rfl), hb⟩
set_option maxRecDepth 100000 in
set_option maxHeartbeats 4000000 in
theorem Same33_ref (w : World) (x0 x1 : Value) (xs ys : List (List Term)) (h : Is w x0 xs) (h1 : Is w x1 ys) :
  Calls Tryz.prog 40 #[x0, x1] w fun e w' => e = .returned (.bool (decide (xs = ys))) ∧ Below w.heap.size w w' := by
 obtain ⟨a, c, rfl, hnc, hc, hr⟩ := list_inv h
 obtain ⟨a1, c1, rfl, hnc1, hc1, hr1⟩ := list_inv h1
 unfold maxLen at hc hc1
 clear h h1
 have HF : Hid (¬ xs.length = ys.length → decide (xs = ys) = false) := fun h => by rw [decide_eq_false]; rintro rfl; exact h rfl
 have HR := Lib.hid hr
 have HR1 := Lib.hid hr1
 clear hr hr1
 generalize hM : xs.length = M at *
 generalize hM1 : ys.length = M1 at *
 have HM := Lib.hid hM
 have HM1 := Lib.hid hM1
 clear hM hM1
 by_cases hne : M = M1
 case neg =>
  have q0 : ((M : Int) != (M1 : Int)) = true := by simp; omega
  have HG := Lib.hid (HF.out hne)
  clear hne HF
  go_enter Tryz.func40, Tryz.ntmps40
  go_wp2
  go_ret
  exact ⟨ret_b HG.out.symm, Below.refl _ _⟩
 have q0 : ((M : Int) != (M1 : Int)) = false := by simp; omega
 have HNE := Lib.hid hne
 clear hne HF
 go_enter Tryz.func40, Tryz.ntmps40
 go_wp2
 go_loopw [5] (fun i wr => ∃ k : Nat, k ≤ M ∧ i = .int .i64 k ∧ Hid (decide (xs = ys) = decide (xs.drop k = ys.drop k)) ∧ Hid (Below w.heap.size w wr)) (fun i _ => M - (intOf i).toNat)
 case atStart => exact ⟨0, by omega, rfl, rfl, Lib.hid (Below.refl _ _)⟩
 case round =>
  obtain ⟨k, hk, rfl, hf, hbr⟩ := hrel
  by_cases hki : k < M
  ·obtain ⟨x, hx⟩ := get_lt (xs := xs) (k := k) (by rw [HM.out]; exact hki)
   obtain ⟨y, hy⟩ := get_lt (xs := ys) (k := k) (by rw [HM1.out, ← HNE.out]; exact hki)
   obtain ⟨bx, ox, rfl, hbx, ax, cx, x0', hx1, hx2, hx3⟩ := list_at HR.out hx
   obtain ⟨by', oy, rfl, hby, ay, cy, y0', hy1, hy2, hy3⟩ := list_at HR1.out hy
   have x0 := kept hbr.out x0'
   have y0 := kept hbr.out y0'
   have hsx := cell_lt x0
   have hsy := cell_lt y0
   have hd := Lib.hid (dec_cons (drop_at hx) (drop_at hy) _ hf.out)
   have hkz : (k : Int) < (M : Int) := by omega
   have hkz1 : (k : Int) < (M1 : Int) := by have := HNE.out; omega
   have hk0 : (0 : Int) ≤ (k : Int) := by omega
   have hcall := fun W (hb : Below wr.heap.size wr W) => SameTerms_ref W (.slice ax x.length cx) (.slice ay y.length cy) x y ((list_mk hx1 hx2 (hx3.mono hbr.out)).mono hb) ((list_mk hy1 hy2 (hy3.mono hbr.out)).mono hb)
   clear hx hy x0' y0' hf q0 hx3 hy3
   cases e9 : decide (x = y)
   case false =>
    rw [e9] at hcall
    have HF : Hid (decide (xs = ys) = false) := by show _ = _; rw [hd.out, e9]; rfl
    clear hd e9
    go_wp2
    refine still_tail 8 (by kernel_rfl) (by kernel_rfl) ?_
    simp only [List.take_succ_cons, List.take_zero, List.drop_succ_cons, List.drop_zero]
    repeat still_step
    refine wpStill_nil ?_
    go_wp2_with fail
    refine (hcall _ ((by first | ((repeat (first | exact Below.refl _ _ | assumption | refine Below.drewN ?_ _ | refine Below.drew ?_ | refine Below.alloc ?_ (by first | exact Nat.le_refl _ | (simp; done) | (simp; omega) | omega) _ | refine Below.setCell ?_ (by first | exact Nat.le_refl _ | (simp; done) | (simp; omega) | omega) _ | refine Below.trans ?_ (Below.mono (by assumption) (by first | exact Nat.le_refl _ | (simp; done) | (simp; omega) | omega)))); done) | fail))).mono ?_
    rintro e w2 ⟨rfl, hg⟩
    have HB2 : Hid (Below w.heap.size w w2) := hbr.out.trans (((Below.refl wr.heap.size wr).drew.trans hg).mono hbr.out.size)
    clear hg hcall
    go_wp2
    go_ret
    exact ⟨ret_b HF.out.symm, HB2.out⟩
   case true =>
    rw [e9] at hcall
    have HT : Hid (decide (xs = ys) = decide (xs.drop (k + 1) = ys.drop (k + 1))) := by show _ = _; rw [hd.out, e9, Bool.true_and]
    clear hd e9
    go_wp2
    refine still_tail 8 (by kernel_rfl) (by kernel_rfl) ?_
    simp only [List.take_succ_cons, List.take_zero, List.drop_succ_cons, List.drop_zero]
    repeat still_step
    refine wpStill_nil ?_
    go_wp2_with fail
    refine (hcall _ ((by first | ((repeat (first | exact Below.refl _ _ | assumption | refine Below.drewN ?_ _ | refine Below.drew ?_ | refine Below.alloc ?_ (by first | exact Nat.le_refl _ | (simp; done) | (simp; omega) | omega) _ | refine Below.setCell ?_ (by first | exact Nat.le_refl _ | (simp; done) | (simp; omega) | omega) _ | refine Below.trans ?_ (Below.mono (by assumption) (by first | exact Nat.le_refl _ | (simp; done) | (simp; omega) | omega)))); done) | fail))).mono ?_
    rintro e w2 ⟨rfl, hg⟩
    have HB2 : Hid (Below w.heap.size w w2) := hbr.out.trans (((Below.refl wr.heap.size wr).drew.trans hg).mono hbr.out.size)
    clear hg hcall
    go_wp2
    go_roundw
    case rel => exact ⟨k + 1, by omega, by go_num, HT, HB2⟩
    case measure => simp [intOf]; omega
  ·have P : Hid (decide (xs = ys) = true) := by
    show _ = _
    rw [hf.out, List.drop_eq_nil_of_le (by rw [HM.out]; omega), List.drop_eq_nil_of_le (by rw [HM1.out, ← HNE.out]; omega)]; simp
   have hkz : ¬ (k : Int) < (M : Int) := by omega
   go_wp2
   go_ret
   exact ⟨ret_b P.out.symm, hbr.out⟩
theorem three_at {w : World} {v1 v2 v3 : Value} {xs ys zs : List (List Term)} (e : TypeId) (h1 : Is w v1 xs) (h2 : Is w v2 ys) (h3 : Is w v3 zs) {j : Nat} (hj : j < 3) :
  ∃ (L : List (List Term)) (aL : Option Addr) (cL : Nat), [xs, ys, zs][j]? = some L ∧ (w.alloc (.cells #[v1, v2, v3] e)).cell? ⟨w.heap.size, j, none⟩ = some (.slice aL L.length cL) ∧ Is w (.slice aL L.length cL) L := by
 obtain ⟨a, c, rfl, -⟩ := list_inv h1
 obtain ⟨b, d, rfl, -⟩ := list_inv h2
 obtain ⟨a', c', rfl, -⟩ := list_inv h3
 match j, hj with
 | 0, _ => exact ⟨xs, a, c, rfl, by simp, h1⟩
 | 1, _ => exact ⟨ys, b, d, rfl, by simp, h2⟩
 | 2, _ => exact ⟨zs, a', c', rfl, by simp, h3⟩
set_option maxRecDepth 100000 in
set_option maxHeartbeats 16000000 in
theorem EntailOrders_p (w : World) (v u z : Value) (xs ys zs : List (List Term)) (hg : Glob w) (h : Is w v xs) (k : Is w u ys) (l : Is w z zs) :
  Calls Tryz.prog 10 #[v, u, z] w fun e w' => e = .returned (.bool true) ∧ Below w.heap.size w w' := by
 have HI := Lib.hid h
 have HJ := Lib.hid k
 have HL := Lib.hid l
 have HA := Lib.hid (awakeF_p w hg)
 obtain ⟨a, c, rfl, -⟩ := list_inv h
 obtain ⟨b, d, rfl, -⟩ := list_inv k
 obtain ⟨a', c', rfl, -⟩ := list_inv l
 clear h k l hg
 generalize xs.length = N at *
 generalize ys.length = M at *
 generalize zs.length = L at *
 have eg : ∀ args w, (callFunc 39 args).run Tryz.prog w = .ok (.enter 39 args) w := enters_of Tryz.func39 (by kernel_rfl) rfl
 go_enter Tryz.func10, Tryz.ntmps10
 go_wp2_with fail
 refine HA.out.mono ?_
 rintro e w1 ⟨rfl, hb1⟩
 have HB1 := Lib.hid hb1
 clear hb1 HA
 go_wp2
 have hB0 : Below w1.heap.size w1 (w1.alloc (.cells #[.slice a N c, .slice b M d, .slice a' L c'] 22)) := (by first | ((repeat (first | exact Below.refl _ _ | assumption | refine Below.drewN ?_ _ | refine Below.drew ?_ | refine Below.alloc ?_ (by first | exact Nat.le_refl _ | (simp; done) | (simp; omega) | omega) _ | refine Below.setCell ?_ (by first | exact Nat.le_refl _ | (simp; done) | (simp; omega) | omega) _ | refine Below.trans ?_ (Below.mono (by assumption) (by first | exact Nat.le_refl _ | (simp; done) | (simp; omega) | omega)))); done) | fail)
 have HTH := Lib.hid (fun j (hj : j < 3) => three_at (j := j) 22 (HI.out.mono HB1.out) (HJ.out.mono HB1.out) (HL.out.mono HB1.out) hj)
 generalize w1.alloc (.cells #[.slice a N c, .slice b M d, .slice a' L c'] 22) = W0 at *
 have HB0 := Lib.hid hB0
 clear hB0
 go_loopw [21] (fun jv wr => ∃ j : Nat, j ≤ 3 ∧ jv = .int .i64 j ∧ Hid (Below W0.heap.size W0 wr) ∧ Hid (∀ X ∈ [xs, ys, zs].take j, checkA X = 0)) (fun jv _ => 3 - (intOf jv).toNat)
 case atStart => exact ⟨0, by omega, rfl, Below.refl _ _, by intro X hX; simp at hX⟩
 case round =>
  obtain ⟨j, hj, rfl, HB, HM⟩ := hrel
  have HBr : Hid (Below w.heap.size w wr) := HB1.out.trans ((HB0.out.trans (HB.out.mono HB0.out.size)).mono HB1.out.size)
  by_cases hj3 : j < 3
  ·have hjz : (j : Int) < (3 : Int) := by omega
   have hj0 : (0 : Int) ≤ (j : Int) := by omega
   obtain ⟨X, aX, cX, hX, x0', hXi⟩ := HTH.out j hj3
   have x0 := kept HB.out x0'
   have hsx := cell_lt x0
   have HXT := Lib.hid (take_at hX)
   have HXI : Hid (Is W0 (.slice aX X.length cX) X) := hXi.mono HB0.out
   have hcall := FewA_ref wr _ X (HXI.out.mono HB.out)
   clear hX x0' hXi
   generalize X.length = NX at *
   go_wp2_with fail
   refine hcall.mono ?_
   unfold FewO
   rintro e w2 ⟨f1, rfl, hb2, -⟩
   have HB2 : Hid (Below W0.heap.size W0 w2) := HB.out.trans (hb2.mono HB.out.size)
   have HBr2 : Hid (Below w.heap.size w w2) := HBr.out.trans (hb2.mono HBr.out.size)
   clear hb2 hcall
   cases f1
   case false =>
    go_wp2
    go_ret
    exact ⟨rfl, HBr2.out⟩
   have hcall := CheckA_p w2 _ X (HXI.out.mono HB2.out)
   have HCX : Hid (checkA X = 0 → ∀ Y ∈ [xs, ys, zs].take (j + 1), checkA Y = 0) := fun h Y hY => by
    rw [HXT.out] at hY
    rcases List.mem_append.1 hY with h1 | h1
    ·exact HM.out Y h1
    ·simp at h1; subst h1; exact h
   cases q : (checkA X != 0)
   case true =>
    generalize checkA X = cx at *
    go_wp2_with fail
    refine hcall.mono ?_
    rintro e w3 ⟨rfl, hb3⟩
    have HB3 : Hid (Below w.heap.size w w3) := HBr2.out.trans (hb3.mono HBr2.out.size)
    clear hb3 hcall
    go_wp2
    go_ret
    exact ⟨rfl, HB3.out⟩
   case false =>
    have HMN := Lib.hid (HCX.out (by simpa using q))
    clear HCX
    generalize checkA X = cx at *
    go_wp2_with fail
    refine hcall.mono ?_
    rintro e w3 ⟨rfl, hb3⟩
    have HB3 : Hid (Below W0.heap.size W0 w3) := HB2.out.trans (hb3.mono HB2.out.size)
    clear hb3 hcall
    go_wp2
    go_roundw
    case rel => exact ⟨j + 1, by omega, by go_num, HB3, HMN⟩
    case measure => simp [intOf]; omega
  ·have hjz : ¬ (j : Int) < (3 : Int) := by omega
   have hall := HM.out
   rw [show j = 3 by omega] at hall
   have hca : checkA xs = 0 := hall xs (by simp)
   have hcb : checkA ys = 0 := hall ys (by simp)
   have hcc : checkA zs = 0 := hall zs (by simp)
   have KAA := Lib.hid (fun W (hb : Below w.heap.size w W) => IsE_p W _ _ xs xs (HI.out.mono hb) (HI.out.mono hb))
   have KAB := Lib.hid (fun W (hb : Below w.heap.size w W) => IsE_p W _ _ xs ys (HI.out.mono hb) (HJ.out.mono hb))
   have KBA := Lib.hid (fun W (hb : Below w.heap.size w W) => IsE_p W _ _ ys xs (HJ.out.mono hb) (HI.out.mono hb))
   have KBC := Lib.hid (fun W (hb : Below w.heap.size w W) => IsE_p W _ _ ys zs (HJ.out.mono hb) (HL.out.mono hb))
   have KAC := Lib.hid (fun W (hb : Below w.heap.size w W) => IsE_p W _ _ xs zs (HI.out.mono hb) (HL.out.mono hb))
   have KCA := Lib.hid (fun W (hb : Below w.heap.size w W) => IsE_p W _ _ zs xs (HL.out.mono hb) (HI.out.mono hb))
   have KCB := Lib.hid (fun W (hb : Below w.heap.size w W) => IsE_p W _ _ zs ys (HL.out.mono hb) (HJ.out.mono hb))
   have KSM := Lib.hid (fun W (hb : Below w.heap.size w W) => Same33_ref W _ _ xs ys (HI.out.mono hb) (HJ.out.mono hb))
   have KBO := Lib.hid (fun W (hb : Below w.heap.size w W) => Both_p W _ _ xs ys (HI.out.mono hb) (HJ.out.mono hb))
   have KEI := Lib.hid (fun W (hb : Below w.heap.size w W) => Either_p W _ _ xs ys (HI.out.mono hb) (HJ.out.mono hb))
   have KLX := Lib.hid (fun (r : List (List Term)) (vr : Value) (W0 W : World) (hr : Is W0 vr r) (hb0 : Below W0.heap.size W0 W) (hb : Below w.heap.size w W) => And.intro (IsE_p W vr _ r xs (hr.mono hb0) (HI.out.mono hb)) (And.intro (IsE_p W vr _ r ys (hr.mono hb0) (HJ.out.mono hb)) (And.intro (IsE_p W vr _ r zs (hr.mono hb0) (HL.out.mono hb)) (And.intro (IsE_p W _ vr xs r (HI.out.mono hb) (hr.mono hb0)) (And.intro (IsE_p W _ vr ys r (HJ.out.mono hb) (hr.mono hb0)) (IsE_p W _ vr zs r (HL.out.mono hb) (hr.mono hb0)))))))
   have FAA : isE xs xs = true := isE_refl hca
   have FT : Hid (isE xs ys = true → isE ys zs = true → isE xs zs = true) := fun h k => isE_trans hca hcb hcc h k
   have FS : Hid (isE xs ys = true → isE ys xs = true → decide (xs = ys) = true) := fun h k => decide_eq_true (isE_anti hca hcb h k)
   have FB := Lib.hid (fun h => both_law hca hcb hcc h)
   have FE := Lib.hid (fun h => either_law hca hcb hcc h)
   rw [FAA] at KAA
   clear hca hcb hcc hall FAA HM HTH HB HB0 HB1
   generalize isE xs ys = b1 at *
   generalize isE ys zs = b2 at *
   generalize isE xs zs = b3 at *
   generalize isE ys xs = b4 at *
   generalize decide (xs = ys) = sm at *
   generalize isE zs xs = b5 at *
   generalize isE zs ys = b6 at *
   generalize bothP xs ys = rb at *
   generalize eitherP xs ys = re at *
   obtain ⟨rb1, rb2⟩ := rb
   obtain ⟨re1, re2⟩ := re
   go_upto_region 10 with (fail)
   go_cut [75] (fun v75 wx => v75 = .bool false ∧ Hid (Below w.heap.size w wx))
   case first =>
    go_wp2_with fail
    refine (KAA.out _ HBr.out).mono ?_
    rintro e y1 ⟨rfl, hy1⟩
    have HY1 : Hid (Below w.heap.size w y1) := HBr.out.trans (hy1.mono HBr.out.size)
    clear hy1
    go_wp2_with fail
    refine (KAB.out _ HY1.out).mono ?_
    rintro e y2 ⟨rfl, hy2⟩
    have HY2 : Hid (Below w.heap.size w y2) := HY1.out.trans (hy2.mono HY1.out.size)
    clear hy2
    cases b1
    case false =>
     go_wp2_with fail
     refine (KAB.out _ HY2.out).mono ?_
     rintro e y3 ⟨rfl, hy3⟩
     have HY3 : Hid (Below w.heap.size w y3) := HY2.out.trans (hy3.mono HY2.out.size)
     clear hy3
     go_wp2_with fail
     go_meet
     case rel => exact ⟨rfl, HY3⟩
    case true =>
     go_wp2_with fail
     refine (KBC.out _ HY2.out).mono ?_
     rintro e y4 ⟨rfl, hy4⟩
     have HY4 : Hid (Below w.heap.size w y4) := HY2.out.trans (hy4.mono HY2.out.size)
     clear hy4
     cases b2
     case false =>
      go_wp2_with fail
      refine (KAB.out _ HY4.out).mono ?_
      rintro e y5 ⟨rfl, hy5⟩
      have HY5 : Hid (Below w.heap.size w y5) := HY4.out.trans (hy5.mono HY4.out.size)
      clear hy5
      go_wp2_with fail
      refine (KBA.out _ HY5.out).mono ?_
      rintro e y6 ⟨rfl, hy6⟩
      have HY6 : Hid (Below w.heap.size w y6) := HY5.out.trans (hy6.mono HY5.out.size)
      clear hy6
      cases b4
      case false =>
       go_wp2_with fail
       go_meet
       case rel => exact ⟨rfl, HY6⟩
      case true =>
       obtain rfl : sm = true := FS.out (by first | rfl | trivial) (by first | rfl | trivial)
       go_wp2_with fail
       refine (KSM.out _ HY6.out).mono ?_
       rintro e y7 ⟨rfl, hy7⟩
       have HY7 : Hid (Below w.heap.size w y7) := HY6.out.trans (hy7.mono HY6.out.size)
       clear hy7
       go_wp2_with fail
       go_meet
       case rel => exact ⟨rfl, HY7⟩
     case true =>
      obtain rfl : b3 = true := FT.out (by first | rfl | trivial) (by first | rfl | trivial)
      go_wp2_with fail
      refine (KAC.out _ HY4.out).mono ?_
      rintro e y8 ⟨rfl, hy8⟩
      have HY8 : Hid (Below w.heap.size w y8) := HY4.out.trans (hy8.mono HY4.out.size)
      clear hy8
      go_wp2_with fail
      refine (KAB.out _ HY8.out).mono ?_
      rintro e y9 ⟨rfl, hy9⟩
      have HY9 : Hid (Below w.heap.size w y9) := HY8.out.trans (hy9.mono HY8.out.size)
      clear hy9
      go_wp2_with fail
      refine (KBA.out _ HY9.out).mono ?_
      rintro e y10 ⟨rfl, hy10⟩
      have HY10 : Hid (Below w.heap.size w y10) := HY9.out.trans (hy10.mono HY9.out.size)
      clear hy10
      cases b4
      case false =>
       go_wp2_with fail
       go_meet
       case rel => exact ⟨rfl, HY10⟩
      case true =>
       obtain rfl : sm = true := FS.out (by first | rfl | trivial) (by first | rfl | trivial)
       go_wp2_with fail
       refine (KSM.out _ HY10.out).mono ?_
       rintro e y11 ⟨rfl, hy11⟩
       have HY11 : Hid (Below w.heap.size w y11) := HY10.out.trans (hy11.mono HY10.out.size)
       clear hy11
       go_wp2_with fail
       go_meet
       case rel => exact ⟨rfl, HY11⟩
   case rest =>
    obtain ⟨rfl, HZ⟩ := hcut
    clear KAA KAB KBA KSM FT FS
    go_wp2_with fail
    refine (KBO.out _ HZ.out).mono ?_
    unfold BO
    rintro e wb ⟨vb, rfl, hvb, hbb⟩
    have HVB := Lib.hid hvb.is
    obtain ⟨ab, cb, rfl, -⟩ := list_inv hvb.is
    have HZB : Hid (Below w.heap.size w wb) := HZ.out.trans (hbb.mono HZ.out.size)
    have KX := Lib.hid (fun W (hb0 : Below wb.heap.size wb W) (hb : Below w.heap.size w W) => KLX.out rb1 _ wb W HVB.out hb0 hb)
    have FBX := Lib.hid (fun h => FB.out h)
    clear hvb hbb KBO FB
    simp only at KX FBX
    generalize rb1.length = LB at *
    generalize isE rb1 xs = c1 at *
    generalize isE rb1 ys = c2 at *
    generalize isE zs rb1 = c3 at *
    generalize isE rb1 zs = c4 at *
    generalize isE xs rb1 = c5 at *
    generalize isE ys rb1 = c6 at *
    go_upto_region 13 with (fail)
    go_cut [116] (fun v116 wx => v116 = .bool false ∧ Hid (Below w.heap.size w wx))
    case first =>
     cases q1 : (rb2 == 0)
     case false =>
      go_wp2_with fail
      go_meet
      case rel => exact ⟨rfl, HZB⟩
     case true =>
      obtain ⟨g1, g2, g3⟩ := FBX.out (by simpa using q1)
      subst g1 g2
      have G3 := Lib.hid g3
      clear g3 FBX
      have HX0 := Lib.hid (Below.refl wb.heap.size wb)
      go_wp2_with fail
      refine (KX.out _ HX0.out HZB.out).1.mono ?_
      rintro e y12 ⟨rfl, hy12⟩
      have HY12 : Hid (Below w.heap.size w y12) := HZB.out.trans (hy12.mono HZB.out.size)
      have HX12 := Lib.hid (HX0.out.trans (hy12.mono HX0.out.size))
      clear hy12
      go_wp2_with fail
      refine (KX.out _ HX12.out HY12.out).2.1.mono ?_
      rintro e y13 ⟨rfl, hy13⟩
      have HY13 : Hid (Below w.heap.size w y13) := HY12.out.trans (hy13.mono HY12.out.size)
      have HX13 := Lib.hid (HX12.out.trans (hy13.mono HX12.out.size))
      clear hy13
      go_wp2_with fail
      refine (KCA.out _ HY13.out).mono ?_
      rintro e y14 ⟨rfl, hy14⟩
      have HY14 : Hid (Below w.heap.size w y14) := HY13.out.trans (hy14.mono HY13.out.size)
      have HX14 := Lib.hid (HX13.out.trans (hy14.mono HX13.out.size))
      clear hy14
      cases b5
      case false =>
       go_wp2_with fail
       go_meet
       case rel => exact ⟨rfl, HY14⟩
      case true =>
       go_wp2_with fail
       refine (KCB.out _ HY14.out).mono ?_
       rintro e y15 ⟨rfl, hy15⟩
       have HY15 : Hid (Below w.heap.size w y15) := HY14.out.trans (hy15.mono HY14.out.size)
       have HX15 := Lib.hid (HX14.out.trans (hy15.mono HX14.out.size))
       clear hy15
       cases b6
       case false =>
        go_wp2_with fail
        go_meet
        case rel => exact ⟨rfl, HY15⟩
       case true =>
        obtain rfl : c3 = true := G3.out (by first | rfl | trivial) (by first | rfl | trivial)
        go_wp2_with fail
        refine (KX.out _ HX15.out HY15.out).2.2.2.2.2.mono ?_
        rintro e y16 ⟨rfl, hy16⟩
        have HY16 : Hid (Below w.heap.size w y16) := HY15.out.trans (hy16.mono HY15.out.size)
        have HX16 := Lib.hid (HX15.out.trans (hy16.mono HX15.out.size))
        clear hy16
        go_wp2_with fail
        go_meet
        case rel => exact ⟨rfl, HY16⟩
    case rest =>
     obtain ⟨rfl, HZ2⟩ := hcut
     clear KX FBX
     go_wp2_with fail
     refine (KEI.out _ HZ2.out).mono ?_
     unfold BO
     rintro e wd ⟨vd, rfl, hvd, hbd⟩
     have HVD := Lib.hid hvd.is
     obtain ⟨ad, cd, rfl, -⟩ := list_inv hvd.is
     have HZD : Hid (Below w.heap.size w wd) := HZ2.out.trans (hbd.mono HZ2.out.size)
     have KX := Lib.hid (fun W (hb0 : Below wd.heap.size wd W) (hb : Below w.heap.size w W) => KLX.out re1 _ wd W HVD.out hb0 hb)
     have FEX := Lib.hid (fun h => FE.out h)
     clear hvd hbd KEI FE KLX
     simp only at KX FEX
     generalize re1.length = LE at *
     generalize isE re1 xs = k1 at *
     generalize isE re1 ys = k2 at *
     generalize isE zs re1 = k3 at *
     generalize isE re1 zs = k4 at *
     generalize isE xs re1 = k5 at *
     generalize isE ys re1 = k6 at *
     cases q2 : (re2 != 0)
     case true =>
      go_wp2
      go_ret
      exact ⟨rfl, HZD.out⟩
     case false =>
      obtain ⟨g1, g2, g3⟩ := FEX.out (by simpa using q2)
      subst g1 g2
      have G3 := Lib.hid g3
      clear g3 FEX
      have HX0 := Lib.hid (Below.refl wd.heap.size wd)
      go_wp2_with fail
      refine (KX.out _ HX0.out HZD.out).2.2.2.1.mono ?_
      rintro e y17 ⟨rfl, hy17⟩
      have HY17 : Hid (Below w.heap.size w y17) := HZD.out.trans (hy17.mono HZD.out.size)
      have HX17 := Lib.hid (HX0.out.trans (hy17.mono HX0.out.size))
      clear hy17
      go_wp2_with fail
      refine (KX.out _ HX17.out HY17.out).2.2.2.2.1.mono ?_
      rintro e y18 ⟨rfl, hy18⟩
      have HY18 : Hid (Below w.heap.size w y18) := HY17.out.trans (hy18.mono HY17.out.size)
      have HX18 := Lib.hid (HX17.out.trans (hy18.mono HX17.out.size))
      clear hy18
      go_wp2_with fail
      refine (KAC.out _ HY18.out).mono ?_
      rintro e y19 ⟨rfl, hy19⟩
      have HY19 : Hid (Below w.heap.size w y19) := HY18.out.trans (hy19.mono HY18.out.size)
      have HX19 := Lib.hid (HX18.out.trans (hy19.mono HX18.out.size))
      clear hy19
      cases b3
      case false =>
       go_wp2
       go_ret
       exact ⟨rfl, HY19.out⟩
      case true =>
       go_wp2_with fail
       refine (KBC.out _ HY19.out).mono ?_
       rintro e y20 ⟨rfl, hy20⟩
       have HY20 : Hid (Below w.heap.size w y20) := HY19.out.trans (hy20.mono HY19.out.size)
       have HX20 := Lib.hid (HX19.out.trans (hy20.mono HX19.out.size))
       clear hy20
       cases b2
       case false =>
        go_wp2
        go_ret
        exact ⟨rfl, HY20.out⟩
       case true =>
        obtain rfl : k4 = true := G3.out (by first | rfl | trivial) (by first | rfl | trivial)
        go_wp2_with fail
        refine (KX.out _ HX20.out HY20.out).2.2.1.mono ?_
        rintro e y21 ⟨rfl, hy21⟩
        have HY21 : Hid (Below w.heap.size w y21) := HY20.out.trans (hy21.mono HY20.out.size)
        have HX21 := Lib.hid (HX20.out.trans (hy21.mono HX20.out.size))
        clear hy21
        go_wp2
        go_ret
        exact ⟨rfl, HY21.out⟩
end Go.Proofs.YtoemmpfcnpdblaaGreatDoor
