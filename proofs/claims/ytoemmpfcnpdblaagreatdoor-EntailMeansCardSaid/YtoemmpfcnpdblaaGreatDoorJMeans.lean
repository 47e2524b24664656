/- The law: a list entails another one exactly if each set of terms that satisfies it satisfies the other one. -/
import Derived.Test.YtoemmpfcnpdblaaGreatDoorJAwU
import Derived.Test.YtoemmpfcnpdblaaGreatDoorJSepU
import Derived.Test.YtoemmpfcnpdblaaGreatDoorJMeaA
set_option linter.all false
namespace Go.Proofs.YtoemmpfcnpdblaaGreatDoor
open Go Go.RowKit Go.ChangeShapes Go.Sort Go.Lib

theorem two_at {w : World} {v1 v2 : Value} {xs ys : List (List Term)} (e : TypeId) (h1 : Is w v1 xs) (h2 : Is w v2 ys) (k1 : xs.length ≤ 70 ∧ ∀ x ∈ xs, x.length ≤ 65) (k2 : ys.length ≤ 70 ∧ ∀ x ∈ ys, x.length ≤ 65) {j : Nat} (hj : j < 2) :
  ∃ (L : List (List Term)) (aL : Option Addr) (cL : Nat), [xs, ys][j]? = some L ∧ (w.alloc (.cells #[v1, v2] e)).cell? ⟨w.heap.size, j, none⟩ = some (.slice aL L.length cL) ∧ Is w (.slice aL L.length cL) L ∧ L.length ≤ 70 ∧ ∀ x ∈ L, x.length ≤ 65 := by
 obtain ⟨a, c, rfl, -⟩ := list_inv h1
 obtain ⟨b, d, rfl, -⟩ := list_inv h2
 match j, hj with
 | 0, _ => exact ⟨xs, a, c, rfl, by simp, h1, k1⟩
 | 1, _ => exact ⟨ys, b, d, rfl, by simp, h2, k2⟩
set_option maxRecDepth 100000 in
set_option maxHeartbeats 16000000 in
theorem EntailMeans_p (w : World) (v u : Value) (xs ys : List (List Term)) (hg : Glob w) (h : Is w v xs) (k : Is w u ys) :
  Calls Tryz.prog 8 #[v, u] w fun e w' => e = .returned (.bool true) ∧ Below w.heap.size w w' := by
 have HI := Lib.hid h
 have HJ := Lib.hid k
 have HA := Lib.hid (awakeF_p w hg)
 obtain ⟨a, c, rfl, -⟩ := list_inv h
 obtain ⟨b, d, rfl, -⟩ := list_inv k
 clear h k hg
 generalize xs.length = N at *
 generalize ys.length = M at *
 go_enter Tryz.func8, Tryz.ntmps8
 go_wp2_with fail
 refine HA.out.mono ?_
 rintro e w1 ⟨rfl, hb1⟩
 have HB1 := Lib.hid hb1
 clear hb1 HA
 go_wp2_with fail
 refine (FewA_ref w1 _ xs (HI.out.mono HB1.out)).mono ?_
 unfold FewO
 rintro e w2 ⟨f1, rfl, hb2, few1⟩
 have HB2 : Hid (Below w.heap.size w w2) := HB1.out.trans (hb2.mono HB1.out.size)
 clear hb2 HB1
 cases f1
 case false =>
  clear few1
  go_wp2
  go_ret
  exact ⟨rfl, HB2.out⟩
 have FX := Lib.hid (few1 rfl)
 clear few1
 go_wp2_with fail
 refine (FewA_ref w2 _ ys (HJ.out.mono HB2.out)).mono ?_
 unfold FewO
 rintro e w3 ⟨f2, rfl, hb3, few2⟩
 have HB3 : Hid (Below w.heap.size w w3) := HB2.out.trans (hb3.mono HB2.out.size)
 clear hb3 HB2
 cases f2
 case false =>
  clear few2
  go_wp2
  go_ret
  exact ⟨rfl, HB3.out⟩
 have FY := Lib.hid (few2 rfl)
 clear few2
 have hcall := Entails_p w3 _ _ _ _ (HI.out.mono HB3.out) (HJ.out.mono HB3.out)
 obtain ⟨e1, he1⟩ : ∃ e1, e1 = entP xs ys := ⟨_, rfl⟩
 rw [← he1] at hcall
 have HE1 := Lib.hid he1
 clear he1
 go_wp2_with fail
 refine hcall.mono ?_
 rintro e w4 ⟨rfl, hb4⟩
 have HB4 : Hid (Below w.heap.size w w4) := HB3.out.trans (hb4.mono HB3.out.size)
 clear hcall hb4 HB3
 cases hbd : badP xs ys
 case true =>
  obtain rfl : e1 = (false, 1) := by rw [HE1.out]; unfold entP; rw [hbd]; rfl
  clear hbd HE1
  go_wp2
  go_ret
  exact ⟨rfl, HB4.out⟩
 obtain ⟨is1, hi1⟩ : ∃ is1, is1 = (sepP xs ys).isNone := ⟨_, rfl⟩
 obtain rfl : e1 = (is1, 0) := by rw [HE1.out, hi1]; unfold entP; rw [hbd]; rfl
 have HIS := Lib.hid hi1
 clear hbd HE1 hi1
 go_wp2
 have hB0 : Below w4.heap.size w4 (w4.alloc (.cells #[.slice a N c, .slice b M d] 22)) := (by first | ((repeat (first | exact Below.refl _ _ | assumption | refine Below.drewN ?_ _ | refine Below.drew ?_ | refine Below.alloc ?_ (by first | exact Nat.le_refl _ | (simp; done) | (simp; omega) | omega) _ | refine Below.setCell ?_ (by first | exact Nat.le_refl _ | (simp; done) | (simp; omega) | omega) _ | refine Below.trans ?_ (Below.mono (by assumption) (by first | exact Nat.le_refl _ | (simp; done) | (simp; omega) | omega)))); done) | fail)
 have HTW := Lib.hid (fun j (hj : j < 2) => two_at (j := j) 22 (HI.out.mono HB4.out) (HJ.out.mono HB4.out) FX.out FY.out hj)
 have hsz0 : (w4.alloc (.cells #[.slice a N c, .slice b M d] 22)).heap.size = w4.heap.size + 1 := by simp
 have hcell0 := Lib.hid (fun j (hj : j < 2) => HTW.out j hj)
 clear HTW
 generalize w4.alloc (.cells #[.slice a N c, .slice b M d] 22) = W0 at *
 have HB0 := Lib.hid hB0
 have HZ0 := Lib.hid hsz0
 clear hB0 hsz0
 go_loopw [7, 43] (fun sv jv wr => ∃ (j : Nat) (all : List Term), j ≤ 2 ∧ jv = .int .i64 j ∧ Hid (Below W0.heap.size W0 wr) ∧ Hid (RowT W0.heap.size wr sv all) ∧ Hid (all.length ≤ j * 4550) ∧ Hid (∀ L ∈ [xs, ys].take j, ∀ x ∈ L, ∀ t ∈ x, t ∈ all)) (fun _ jv _ => 2 - (intOf jv).toNat)
 case atStart => exact ⟨0, [], by omega, rfl, Below.refl _ _, rowT_nil _ _, Nat.le_refl _, by intro L hL; simp at hL⟩
 case round =>
  obtain ⟨j, all, hj, rfl, HB, HO, HLn, HM⟩ := hrel
  by_cases hj2 : j < 2
  ·have hjz : (j : Int) < (2 : Int) := by omega
   have hj0 : (0 : Int) ≤ (j : Int) := by omega
   obtain ⟨L, aL, cL, hL, x0', hLi, hL1, hL2⟩ := hcell0.out j hj2
   have x0 := kept HB.out x0'
   have hsx := cell_lt x0
   have HLJ := Lib.hid (take_at hL)
   obtain ⟨aL', cL', he, hLc, hLm, hLr⟩ := list_inv (hLi.mono HB0.out)
   cases he
   have HLR := Lib.hid hLr
   have HL1 := Lib.hid hL1
   have HL2 := Lib.hid hL2
   clear hL x0' hLi hL1 hL2 hLr
   simp only [maxLen] at hLm
   generalize hNL : L.length = NL at *
   have HNL := Lib.hid hNL
   clear hNL
   go_wp2
   go_loopw [7, 49] (fun sv iv wr => ∃ (i : Nat) (al : List Term), i ≤ NL ∧ iv = .int .i64 i ∧ Hid (Below W0.heap.size W0 wr) ∧ Hid (RowT W0.heap.size wr sv al) ∧ Hid (al.length ≤ j * 4550 + i * 65) ∧ Hid (∀ t ∈ all, t ∈ al) ∧ Hid (∀ x ∈ L.take i, ∀ t ∈ x, t ∈ al)) (fun _ iv _ => NL - (intOf iv).toNat)
   case atStart => exact ⟨0, all, by omega, rfl, HB, HO, (by have := HLn.out; show _ ≤ _; omega), fun t ht => ht, by intro x hx; simp at hx⟩
   case round =>
    clear HB HO x0 hsx
    obtain ⟨i, al, hi, rfl, HB, HO, HLi, HS, HM2⟩ := hrel
    by_cases hiN : i < NL
    ·have hiz : (i : Int) < (NL : Int) := by omega
     have hi0 : (0 : Int) ≤ (i : Int) := by omega
     obtain ⟨x, hx⟩ := get_lt (xs := L) (k := i) (by rw [HNL.out]; exact hiN)
     obtain ⟨bx, ox, rfl, hbx, ax, cx, x0', hx1, hx2, hx3⟩ := list_at HLR.out hx
     have x0 := kept HB.out x0'
     have hsx := cell_lt x0
     have hxl : x.length ≤ 65 := HL2.out x (List.mem_of_getElem? hx)
     have HXI := Lib.hid (take_at hx)
     have HXR := Lib.hid hx3
     simp only [maxLen] at hx2
     clear hx x0' hx3
     generalize hNx : x.length = NX at *
     have HNX := Lib.hid hNx
     clear hNx
     go_wp2
     go_loopw [7, 55] (fun sv nv wr => ∃ (n : Nat) (ai : List Term), n ≤ NX ∧ nv = .int .i64 n ∧ Hid (Below W0.heap.size W0 wr) ∧ Hid (RowT W0.heap.size wr sv ai) ∧ Hid (ai.length ≤ j * 4550 + i * 65 + n) ∧ Hid (∀ t ∈ al, t ∈ ai) ∧ Hid (∀ t ∈ x.take n, t ∈ ai)) (fun _ nv _ => NX - (intOf nv).toNat)
     case atStart => exact ⟨0, al, by omega, rfl, HB, HO, (by have := HLi.out; show _ ≤ _; omega), fun t ht => ht, by intro t ht; simp at ht⟩
     case round =>
      clear HB HO x0 hsx
      obtain ⟨n, ai, hn, rfl, HB, HO, HLx, HS2, HM3⟩ := hrel
      by_cases hnN : n < NX
      ·have hnz : (n : Int) < (NX : Int) := by omega
       have hn0 : (0 : Int) ≤ (n : Int) := by omega
       obtain ⟨t, ht⟩ := get_lt (xs := x) (k := n) (by rw [HNX.out]; exact hnN)
       obtain ⟨bt, ot, rfl, hbt, y0', y1', s0, s1⟩ := Term.at_row HXR.out ht
       have y0 := kept HB.out y0'
       have y1 := kept HB.out y1'
       have hsy := cell_lt y0
       have HTT := Lib.hid (take_at ht)
       obtain ⟨asv, csv, rfl⟩ := HO.out.shape
       clear ht y0' y1'
       go_wp2_with fail
       refine (ContainsTermS_p _ _ ai t (HO.out.is.mono (by first | ((repeat (first | exact Below.refl _ _ | assumption | refine Below.drewN ?_ _ | refine Below.drew ?_ | refine Below.alloc ?_ (by first | exact Nat.le_refl _ | (simp; done) | (simp; omega) | omega) _ | refine Below.setCell ?_ (by first | exact Nat.le_refl _ | (simp; done) | (simp; omega) | omega) _ | refine Below.trans ?_ (Below.mono (by assumption) (by first | exact Nat.le_refl _ | (simp; done) | (simp; omega) | omega)))); done) | fail))).mono ?_
       rintro e w6 ⟨rfl, hb6⟩
       have hwa : Below wr.heap.size wr (wr.alloc (.cells #[.string t.license, .string t.exception] 67)) := (by first | ((repeat (first | exact Below.refl _ _ | assumption | refine Below.drewN ?_ _ | refine Below.drew ?_ | refine Below.alloc ?_ (by first | exact Nat.le_refl _ | (simp; done) | (simp; omega) | omega) _ | refine Below.setCell ?_ (by first | exact Nat.le_refl _ | (simp; done) | (simp; omega) | omega) _ | refine Below.trans ?_ (Below.mono (by assumption) (by first | exact Nat.le_refl _ | (simp; done) | (simp; omega) | omega)))); done) | fail)
       have c0 := kept hb6 (a := ⟨wr.heap.size, 0, none⟩) (v := .string t.license) (by simp)
       have c1 := kept hb6 (a := ⟨wr.heap.size, 1, none⟩) (v := .string t.exception) (by simp)
       have hw6 : Below wr.heap.size wr w6 := hwa.trans (hb6.mono hwa.size)
       have HO6 := Lib.hid (HO.out.below hw6)
       have HB6 : Hid (Below W0.heap.size W0 w6) := HB.out.trans (hw6.mono HB.out.size)
       have HZ6 : Hid (W0.heap.size ≤ w6.heap.size) := HB6.out.size
       clear hb6 hwa hw6 y0 y1 hsy
       cases q : hasT ai t
       case true =>
        have HIn : Hid (∀ t' ∈ x.take (n + 1), t' ∈ ai) := by
         intro t' ht'
         rw [HTT.out] at ht'
         rcases List.mem_append.1 ht' with h | h
         ·exact HM3.out t' h
         ·simp at h; subst h; exact hasT_iff.1 q
        clear q
        go_wp2
        go_roundw
        case rel => exact ⟨n + 1, ai, by omega, by go_num, HB6, HO6, (by have := HLx.out; show _ ≤ _; omega), HS2, HIn⟩
        case measure => simp [intOf]; omega
       case false =>
        have HIn : Hid (∀ t' ∈ x.take (n + 1), t' ∈ ai ++ [t]) := by
         intro t' ht'
         rw [HTT.out] at ht'
         rcases List.mem_append.1 ht' with h | h
         ·exact List.mem_append_left _ (HM3.out t' h)
         ·simp at h; subst h; simp
        clear q
        have hb0 : ai.length ≤ 1000000000 := by have := HLx.out; have := HL1.out; omega
        go_wp2_with (at_builtin; go_loud (refine app_term rfl _ _ rfl W0.heap.size _ ai rfl HO6.out t ?cx s0 s1 hb0 HZ6.out ?_))
        case cx => show Value.slice (some ⟨w6.heap.size, 0, none⟩) 1 1 = _; simp
        intro v7 w7 ho7 hb7
        have HB7 : Hid (Below W0.heap.size W0 w7) := HB6.out.trans hb7
        have HO7 := Lib.hid ho7
        clear ho7 hb7 HO6 hb0
        go_wp2
        go_roundw
        case rel => exact ⟨n + 1, ai ++ [t], by omega, by go_num, HB7, HO7, (by have := HLx.out; show _ ≤ _; rw [List.length_append]; simp only [List.length_cons, List.length_nil]; omega), fun t' ht' => List.mem_append_left _ (HS2.out t' ht'), HIn⟩
        case measure => simp [intOf]; omega
      ·have hnz : ¬ (n : Int) < (NX : Int) := by omega
       have hxl : NX ≤ 65 := hxl
       have HIn : Hid (∀ x' ∈ L.take (i + 1), ∀ t ∈ x', t ∈ ai) := by
        intro x' hx' t ht
        rw [HXI.out] at hx'
        rcases List.mem_append.1 hx' with h | h
        ·exact HS2.out t (HM2.out x' h t ht)
        ·simp at h; subst h
         have := HM3.out t
         rw [List.take_of_length_le (by rw [HNX.out]; omega)] at this
         exact this ht
       go_wp2
       go_roundw
       case rel => exact ⟨i + 1, ai, by omega, by go_num, HB, HO, (by have := HLx.out; show _ ≤ _; omega), fun t ht => HS2.out t (HS.out t ht), HIn⟩
       case measure => simp [intOf]; omega
    ·have hiz : ¬ (i : Int) < (NL : Int) := by omega
     have hNL7 : NL ≤ 70 := HL1.out
     have HIn : Hid (∀ L' ∈ [xs, ys].take (j + 1), ∀ x ∈ L', ∀ t ∈ x, t ∈ al) := by
      intro L' hL' x hx t ht
      rw [HLJ.out] at hL'
      rcases List.mem_append.1 hL' with h | h
      ·exact HS.out t (HM.out L' h x hx t ht)
      ·simp at h; subst h
       have := HM2.out x
       rw [List.take_of_length_le (by rw [HNL.out]; omega)] at this
       exact this hx t ht
     go_wp2
     go_roundw
     case rel => exact ⟨j + 1, al, by omega, by go_num, HB, HO, (by have := HLi.out; show _ ≤ _; omega), HIn⟩
     case measure => simp [intOf]; omega
  ·have hjz : ¬ (j : Int) < (2 : Int) := by omega
   have HALL : Hid (∀ x ∈ xs, ∀ t ∈ x, t ∈ all) := by
    have hj' : j = 2 := by omega
    have := HM.out xs (by rw [hj']; simp)
    exact this
   have hlen9 : all.length ≤ 9100 := by have := HLn.out; omega
   obtain ⟨asv, csv, rfl⟩ := HO.out.shape
   clear HM HLn hcell0
   generalize hNA : all.length = NA at *
   have HNA := Lib.hid hNA
   clear hNA
   by_cases h8 : (8 : Int) < (NA : Int)
   ·go_wp2
    go_ret
    exact ⟨rfl, HB4.out.trans ((HB0.out.trans (HB.out.mono HB0.out.size)).mono HB4.out.size)⟩
   obtain ⟨P, hP, hs1, hs2⟩ : ∃ P : Nat, 2 ^ NA = P ∧ wrap64 (2 ^ NA) = (P : Int) ∧ P ≤ 256 := ⟨_, rfl, shl_small h8⟩
   have HP := Lib.hid hP
   clear hP
   obtain ⟨asv', csv', he, hac, ham, har⟩ := list_inv HO.out.is
   rw [HNA.out] at he hac
   cases he
   simp only [maxLen] at ham
   have HAR := Lib.hid har
   have HN8 : Hid (NA ≤ 8) := by show _ ≤ _; omega
   have HBW : Hid (Below w.heap.size w wr) := HB4.out.trans ((HB0.out.trans (HB.out.mono HB0.out.size)).mono HB4.out.size)
   clear har HO HB HB4 HB0 HZ0
   go_wp2
   clear hs1 h8
   generalize wr = W1 at *
   go_loopw [14, 76] (fun bv kv wr => ∃ (k : Nat) (wb : Bool), k ≤ P ∧ bv = .bool wb ∧ kv = .int .i64 k ∧ Hid (Below W1.heap.size W1 wr) ∧ Hid (wb = wantP xs ys all k)) (fun _ kv _ => P - (intOf kv).toNat)
   case atStart => exact ⟨0, true, by omega, rfl, rfl, Below.refl _ _, rfl⟩
   case round =>
    obtain ⟨k, wb, hk, rfl, rfl, HB, HW⟩ := hrel
    by_cases hkP : k < P
    ·have hkz : (k : Int) < (P : Int) := by omega
     have hk0 : (0 : Int) ≤ (k : Int) := by omega
     go_wp2
     go_loopw [16, 81] (fun sv iv wr => ∃ (i : Nat) (sm : List Term), i ≤ NA ∧ iv = .int .i64 i ∧ Hid (Below W1.heap.size W1 wr) ∧ Hid (RowT W1.heap.size wr sv sm) ∧ Hid (sm = pickT k all i)) (fun _ iv _ => NA - (intOf iv).toNat)
     case atStart => exact ⟨0, [], by omega, rfl, HB, rowT_nil _ _, rfl⟩
     case round =>
      clear HB
      obtain ⟨i, sm, hi, rfl, HB, HO, HS⟩ := hrel
      by_cases hiN : i < NA
      ·have hiz : (i : Int) < (NA : Int) := by omega
       have hi0 : (0 : Int) ≤ (i : Int) := by omega
       obtain ⟨t, ht⟩ := get_lt (xs := all) (k := i) (by rw [HNA.out]; exact hiN)
       obtain ⟨bt, ot, rfl, hbt, y0', y1', s0, s1⟩ := Term.at_row HAR.out ht
       have y0 := kept HB.out y0'
       have y1 := kept HB.out y1'
       have hsy := cell_lt y0
       have HPK := Lib.hid (pickT_snoc (b := k) ht)
       obtain ⟨aq, cq, rfl⟩ := HO.out.shape
       clear ht y0' y1'
       have HBT := Lib.hid (bit_int (k := k) (i := i) (by omega) (by have := HN8.out; omega))
       have hwa : Below wr.heap.size wr (wr.alloc (.cells #[.string t.license, .string t.exception] 67)) := (by first | ((repeat (first | exact Below.refl _ _ | assumption | refine Below.drewN ?_ _ | refine Below.drew ?_ | refine Below.alloc ?_ (by first | exact Nat.le_refl _ | (simp; done) | (simp; omega) | omega) _ | refine Below.setCell ?_ (by first | exact Nat.le_refl _ | (simp; done) | (simp; omega) | omega) _ | refine Below.trans ?_ (Below.mono (by assumption) (by first | exact Nat.le_refl _ | (simp; done) | (simp; omega) | omega)))); done) | fail)
       have HB6 : Hid (Below W1.heap.size W1 (wr.alloc (.cells #[.string t.license, .string t.exception] 67))) := HB.out.trans (hwa.mono HB.out.size)
       have HO6 : Hid (RowT W1.heap.size (wr.alloc (.cells #[.string t.license, .string t.exception] 67)) _ sm) := HO.out.below hwa
       have HZ6 : Hid (W1.heap.size ≤ (wr.alloc (.cells #[.string t.license, .string t.exception] 67)).heap.size) := HB6.out.size
       clear hwa
       cases q : (bits BinOp.and IntKind.i64 ((k : Int) / 2 ^ min i 64) 1 == 1)
       case false =>
        have HSN : Hid (sm = pickT k all (i + 1)) := by
         have := HBT.out
         rw [q] at this
         show _ = _
         rw [HPK.out, ← this, HS.out]; simp
        clear HBT HPK
        go_wp2
        go_roundw
        case rel => exact ⟨i + 1, sm, by omega, by go_num, HB6, HO6, HSN⟩
        case measure => simp [intOf]; omega
       case true =>
        have HSN : Hid (sm ++ [t] = pickT k all (i + 1)) := by
         have := HBT.out
         rw [q] at this
         show _ = _
         rw [HPK.out, ← this, HS.out]; simp
        have hsl : sm.length ≤ 1000000000 := by have := pickT_len (b := k) (k := i) (l := all); rw [← HS.out] at this; have := HN8.out; omega
        clear HBT HPK
        go_wp2_with (at_builtin; go_loud (refine app_term rfl _ _ rfl W1.heap.size _ sm rfl HO6.out t ?cx s0 s1 hsl HZ6.out ?_))
        intro v7 w7 ho7 hb7
        have HB7 : Hid (Below W1.heap.size W1 w7) := HB6.out.trans hb7
        have HO7 := Lib.hid ho7
        clear ho7 hb7 HO6 HB6 HZ6
        go_wp2
        go_roundw
        case rel => exact ⟨i + 1, sm ++ [t], by omega, by go_num, HB7, HO7, HSN⟩
        case measure => simp [intOf]; omega
      ·have hiz : ¬ (i : Int) < (NA : Int) := by omega
       have HSA : Hid (sm = pickT k all all.length) := by
        show _ = _
        rw [HNA.out, HS.out]
        have : i = NA := by omega
        rw [this]
       have HWN : Hid (wantP xs ys all (k + 1) = (wb && (!satP xs sm || satP ys sm))) := by show _ = _; rw [wantP_snoc, ← HW.out, ← HSA.out]
       have hcall := Satisfied_p wr (.slice a N c) _ xs sm ((HI.out.mono HBW.out).mono HB.out) HO.out.is
       have hcall2 := fun W (hb : Below wr.heap.size wr W) => Satisfied_p W (.slice b M d) _ ys sm (((HJ.out.mono HBW.out).mono HB.out).mono hb) (HO.out.is.mono hb)
       obtain ⟨aq, cq, rfl⟩ := HO.out.shape
       clear HS HSA
       generalize satP xs sm = s1 at *
       generalize satP ys sm = s2 at *
       generalize sm.length = SL at *
       cases s1
       case false =>
        have HWF : Hid (wb = wantP xs ys all (k + 1)) := by show _ = _; rw [HWN.out]; simp
        go_wp2_with fail
        refine hcall.mono ?_
        rintro e w7 ⟨rfl, hb7⟩
        have HB7 : Hid (Below W1.heap.size W1 w7) := HB.out.trans (hb7.mono HB.out.size)
        clear hcall hcall2 hb7
        go_wp2
        go_roundw
        case rel => exact ⟨k + 1, wb, by omega, rfl, by go_num, HB7, HWF⟩
        case measure => simp [intOf]; omega
       case true =>
        go_wp2_with fail
        refine hcall.mono ?_
        rintro e w7 ⟨rfl, hb7⟩
        go_wp2_with fail
        refine (hcall2 _ hb7).mono ?_
        rintro e w8 ⟨rfl, hb8⟩
        have HB8 : Hid (Below W1.heap.size W1 w8) := HB.out.trans ((hb7.trans (hb8.mono hb7.size)).mono HB.out.size)
        clear hcall hcall2 hb7 hb8
        cases s2
        case false =>
         have HWF : Hid (false = wantP xs ys all (k + 1)) := by show _ = _; rw [HWN.out]; simp
         go_wp2
         go_roundw
         case rel => exact ⟨k + 1, false, by omega, rfl, by go_num, HB8, HWF⟩
         case measure => simp [intOf]; omega
        case true =>
         have HWF : Hid (wb = wantP xs ys all (k + 1)) := by show _ = _; rw [HWN.out]; simp
         go_wp2
         go_roundw
         case rel => exact ⟨k + 1, wb, by omega, rfl, by go_num, HB8, HWF⟩
         case measure => simp [intOf]; omega
    ·have hkz : ¬ (k : Int) < (P : Int) := by omega
     have hwi : wb = is1 := by
      have hkP' : k = 2 ^ all.length := by rw [HNA.out, HP.out]; omega
      rw [HW.out, HIS.out, hkP']
      exact (means_law HALL.out).symm
     have HBF : Hid (Below w.heap.size w wr) := HBW.out.trans (HB.out.mono HBW.out.size)
     subst hwi
     have q : (wb == wb) = true := by simp
     go_wp2
     go_ret
     exact ⟨rfl, HBF.out⟩
end Go.Proofs.YtoemmpfcnpdblaaGreatDoor
