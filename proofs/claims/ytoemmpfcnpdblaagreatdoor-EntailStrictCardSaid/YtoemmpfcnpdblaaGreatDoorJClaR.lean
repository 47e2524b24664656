/- The reference of layer 34: Clauses. -/
import Derived.Test.YtoemmpfcnpdblaaGreatDoorJClaU
import Derived.Test.YtoemmpfcnpdblaaGreatDoorJLookO
import Derived.Test.YtoemmpfcnpdblaaGreatDoorJR33A
set_option linter.all false
namespace Go.Proofs.YtoemmpfcnpdblaaGreatDoor
open Go Go.RowKit Go.ChangeShapes Go.Lib

def OwnW {α : Type} [Lay α] (B0 B : Nat) (E : TypeId → Prop) (e : TypeId) (w : World) (v : Value) (xs : List α) : Prop := OwnL B0 E e w v xs ∧ ∃ cs, w.ownsRow B e (Lay.n α) v xs.length cs
section
variable {α : Type} [Lay α] {B0 B : Nat} {E : TypeId → Prop} {e : TypeId} {w w' : World} {v : Value} {xs : List α}
theorem OwnW.nil (B0 B : Nat) (E : TypeId → Prop) (e : TypeId) (w : World) : OwnW B0 B E e w (.slice none 0 0) ([] : List α) := ⟨OwnL.nil _ _ _ _, (OwnL.nil B E e w).row⟩
theorem OwnW.is (h : OwnW B0 B E e w v xs) : Is w v xs := h.1.is
theorem OwnW.below (h : OwnW B0 B E e w v xs) (hb : Below w.heap.size w w') : OwnW B0 B E e w' v xs := by
 refine ⟨h.1.below hb, ?_⟩
 obtain ⟨cs, h1, h2⟩ := h.2
 refine ⟨cs, h1, h2.imp id ?_⟩
 rintro ⟨g, cap, cur, a, b, c, d⟩
 have hg : g < w.heap.size := by
  rcases Nat.lt_or_ge g w.heap.size with h | h
  ·exact h
  ·rw [Array.getElem?_eq_none h] at c; cases c
 exact ⟨g, cap, cur, a, b, by rw [hb.block g hg]; exact c, d⟩
theorem wpo_appW {P : Program} {t : TypeId} {z : Value} {bytes : Nat} (hinfo : (P.info? e).map (fun i => (i.zero, i.size, i.bytes)) = some (some z, Lay.n α, bytes))
  (hz : z.cells.size = Lay.n α) (hsz : 0 < Lay.n α) (ht : P.underlying t = some (.slice e)) (hone : ∀ (y : List Value) (x : α) (w : World), y.length = Lay.n α → Lay.is w (fun j => y[j]?) x → ∀ u ∈ y, u.oneCell' = true)
  {o : Oper} {a : Act} {K : Act → World → Prop} {Q : Exit → Act → World → Prop} (s x : Operand)
  (ho : o.op = .call { callee := .builtin .append, args := #[s, x], argTypes := #[t, t] })
  (B0 B : Nat) (hB0 : B0 ≤ B) (v u : Value) (xs ys : List α) (hs : a.eval s = v) (hx : a.eval x = u) (hE : E e) (hown : OwnW B0 B E e w v xs) (hu : OwnL B0 E e w u ys)
  (hb : (xs.length + ys.length) * (bytes + 1) ≤ 140737488355328) (hB : B ≤ w.heap.size)
  (h : ∀ v' w', OwnW B0 B E e w' v' (xs ++ ys) → Below B w w' → K (a.put o.dst v') w') : o.wp P a w K Q := by
 obtain ⟨i0, hi, hz0, hz1, hz2⟩ := info_parts hinfo
 have e1 : (xs.length + ys.length) * (bytes + 1) = (xs.length + ys.length) * bytes + (xs.length + ys.length) := by rw [Nat.mul_add, Nat.mul_one]
 obtain ⟨us, k1, k2, k3⟩ := id hu
 obtain ⟨cs, hcs⟩ := hown.2
 rcases k2.2 with ⟨rfl, h0⟩ | ⟨g, cap, cur, rfl, hg, hh, hn', hc, hsz', htk⟩
 ·obtain rfl : ys = [] := List.length_eq_zero_iff.1 h0
  obtain ⟨va, vc, rfl, hvc, -⟩ := list_inv hown.is
  have hrun := run_append_nothing (P := P) w t t o.type e i0 ht hi va xs.length vc hvc (.slice none 0 0) (Src.ofNil w ht 0)
  have hk := h (.slice va xs.length vc) w (by simpa using hown) (Below.refl _ _)
  unfold Oper.wp execOp
  simp only [ho, resolve, invoke, builtin, Sem.run_bind, Sem.run_pure, Result.andThen_ok, List.map_toArray, List.map_cons, List.map_nil, hs, hx, hrun]
  exact hk
 ·have hall := OwnL.all (P := fun z => ∀ u ∈ z, u.oneCell' = true) k1 (fun i y x hy hx => hone y x w (k3 i y x hy hx).1 ((k3 i y x hy hx).2 w (Agree.refl _ _ _)))
  refine wp_append_own w s x t ho B e i0 z (Lay.n α) bytes ht hi hz0 hz1 hz2 hz hsz v xs.length cs hs hcs ⟨g, 0, none⟩ ys.length cap us.flatten hx k2.1 ?_ ?_ ?_ ?_ hB ?_
  ·intro j q hj
   have e2 : (⟨g, 0, none⟩ : Addr).add j = ⟨g, j, none⟩ := by
    unfold Addr.add; split
    ·subst j; rfl
    ·simp
   rw [e2]
   refine objcell hh ?_
   rw [← htk, List.getElem?_take] at hj
   split at hj
   ·simpa using hj
   ·cases hj
  ·intro q hq
   obtain ⟨y, hy, hqy⟩ := List.mem_flatten.1 hq
   exact hall y hy q hqy
  ·unfold maxLen; omega
  ·omega
  ·intro v' w' h2 h3 h4
   refine h v' w' ⟨OwnL.join hE hown.1 hu h3 fun cs' ds' r1 r2 => ?_, ⟨cs ++ us.flatten, ?_⟩⟩ ((Below.refl _ _).app h3 (by omega) hcs)
   ·rw [OwnL.row_unique r1 (ownsRow_weaken hcs (hB0)), OwnL.row_unique r2 k2]
    exact ownsRow_weaken h2 (hB0)
   ·rw [List.length_append]; exact h2
end
def ClW (r : List Clause × Int) (w0 w : World) (e : Ending) (w' : World) : Prop := ∃ v, e = .returned (.tuple #[v, .int .i64 r.2]) ∧ OwnL w0.heap.size Ec 86 w' v r.1 ∧ Below w.heap.size w w'
theorem any_snocN {α : Type} (p : α → Bool) {xs : List α} {k : Nat} {x : α} (hx : xs[k]? = some x) : (xs.take (k + 1)).any p = ((xs.take k).any p || p x) := by
 rw [take_at hx, List.any_append]; simp
theorem any_missN {α : Type} {p : α → Bool} {xs : List α} {k : Nat} {x : α} (hx : xs[k]? = some x) (hp : p x = true) : xs.any p = true := List.any_eq_true.2 ⟨x, List.mem_of_getElem? hx, hp⟩
set_option maxRecDepth 100000 in
set_option maxHeartbeats 8000000 in
theorem Clauses34_ref (w0 w : World) (vc v : Value) (c : Catalog) (ts : List Term) (h0 : Is w0 vc c) (hb0 : Below w0.heap.size w0 w) (h : Is w v ts) (hl : ts.length ≤ 1000000) :
  Calls Tryz.prog 29 #[vc, v] w fun e w' => ClW (clausesP c ts) w0 w e w' := by
 have hc := h0.mono hb0
 have H00 := Lib.hid h0
 have HB0 := Lib.hid hb0
 clear h0 hb0
 have HC := Lib.hid hc
 have HI := Lib.hid h
 have HLT := Lib.hid hl
 have HF : Hid (clausesP c ts = if !(clausesE c ts == 0) then ([], clausesE c ts) else (clausesA c ts, 0)) := rfl
 have HE : Hid (clausesE c ts = if !(checkC c == 0) then 1 else if ts.any (fun t => !(liftsC c t).isSome) then 7 else 0) := rfl
 obtain ⟨a, k, rfl, hnc, hcm, hr⟩ := list_inv h
 simp only [maxLen] at hcm
 have HR := Lib.hid hr
 obtain ⟨a0, N0, c0, a1, N1, c1, a2, N2, c2, a3, N3, c3, rfl⟩ := catBox hc
 have hba : Below w.heap.size w (w.alloc (.cells #[.slice a0 N0 c0, .slice a1 N1 c1, .slice a2 N2 c2, .slice a3 N3 c3] 42)) := (by first | ((repeat (first | exact Below.refl _ _ | assumption | refine Below.drewN ?_ _ | refine Below.drew ?_ | refine Below.alloc ?_ (by first | exact Nat.le_refl _ | (simp; done) | (simp; omega) | omega) _ | refine Below.setCell ?_ (by first | exact Nat.le_refl _ | (simp; done) | (simp; omega) | omega) _ | refine Below.trans ?_ (Below.mono (by assumption) (by first | exact Nat.le_refl _ | (simp; done) | (simp; omega) | omega)))); done) | fail)
 have hcall := Check_ref (w.alloc (.cells #[.slice a0 N0 c0, .slice a1 N1 c1, .slice a2 N2 c2, .slice a3 N3 c3] 42)) _ c (HC.out.mono hba)
 have HBA := Lib.hid hba
 clear h hc hl hr hba
 generalize checkC c = ce at *
 generalize hN : ts.length = N at *
 have HN := Lib.hid hN
 clear hN
 go_enter Tryz.func29, Tryz.ntmps29
 go_wp2_with fail
 refine hcall.mono ?_
 rintro e w2 ⟨rfl, hb2⟩
 have d0 := kept hb2 (a := ⟨w.heap.size, 0, none⟩) (v := .slice a0 N0 c0) (by simp)
 have d1 := kept hb2 (a := ⟨w.heap.size, 1, none⟩) (v := .slice a1 N1 c1) (by simp)
 have d2 := kept hb2 (a := ⟨w.heap.size, 2, none⟩) (v := .slice a2 N2 c2) (by simp)
 have d3 := kept hb2 (a := ⟨w.heap.size, 3, none⟩) (v := .slice a3 N3 c3) (by simp)
 have hs0 := cell_lt d0
 have HB2 : Hid (Below w.heap.size w w2) := HBA.out.trans (hb2.mono (by simp))
 clear hcall hb2
 by_cases q : ce = 0
 case neg =>
  have q1 : (ce == 0) = false := by simpa using q
  have q2 : (ce != 0) = true := by simpa using q
  have HT : Hid (clausesP c ts = ([], 1)) := by show _ = _; rw [HF.out, HE.out, q1]; rfl
  clear q
  go_wp2
  go_ret2
  exact ⟨.slice none 0 0, by rw [HT.out]; rfl, by rw [HT.out]; exact OwnL.nil _ _ _ _, HB2.out⟩
 subst q
 have D0 := Lib.hid d0
 have D1 := Lib.hid d1
 have D2 := Lib.hid d2
 have D3 := Lib.hid d3
 go_wp2
 clear d0 d1 d2 d3
 go_loopw [6] (fun kv wr => ∃ k : Nat, k ≤ N ∧ kv = .int .i64 k ∧ Hid ((ts.take k).any (fun t => !(liftsC c t).isSome) = false) ∧ Hid (Below w2.heap.size w2 wr)) (fun kv _ => N - (intOf kv).toNat)
 case atStart => exact ⟨0, by omega, rfl, rfl, Lib.hid (Below.refl _ _)⟩
 case round =>
  obtain ⟨k, hk, rfl, HK, hbr⟩ := hrel
  have hzr := hbr.out.size
  by_cases hki : k < N
  ·have hkz : (k : Int) < (N : Int) := by omega
   have hk0 : (0 : Int) ≤ (k : Int) := by omega
   obtain ⟨x, hx⟩ := get_lt (xs := ts) (k := k) (by rw [HN.out]; exact hki)
   obtain ⟨bx, ox, rfl, hbx, x0', x1', -⟩ := Term.at_row HR.out hx
   have x0 := kept hbr.out (kept HB2.out x0')
   have x1 := kept hbr.out (kept HB2.out x1')
   have f0 := kept hbr.out D0.out
   have f1 := kept hbr.out D1.out
   have f2 := kept hbr.out D2.out
   have f3 := kept hbr.out D3.out
   have hsx := cell_lt x0
   have hsf := cell_lt f0
   have hcall := fun W (hb : Below wr.heap.size wr W) => Known_ref W _ c x (((HC.out.mono HB2.out).mono hbr.out).mono hb)
   have HX := Lib.hid hx
   clear hx x0' x1'
   cases e9 : (liftsC c x).isSome
   case false =>
    rw [e9] at hcall
    have HT : Hid (clausesP c ts = ([], 7)) := by
     show _ = _
     rw [HF.out, HE.out, any_missN HX.out (by rw [e9]; rfl)]; rfl
    clear e9
    go_wp2
    refine still_tail 5 (by kernel_rfl) (by kernel_rfl) ?_
    simp only [List.take_succ_cons, List.take_zero, List.drop_succ_cons, List.drop_zero]
    repeat still_step
    refine wpStill_nil ?_
    go_wp2_with fail
    refine (hcall _ ((by first | ((repeat (first | exact Below.refl _ _ | assumption | refine Below.drewN ?_ _ | refine Below.drew ?_ | refine Below.alloc ?_ (by first | exact Nat.le_refl _ | (simp; done) | (simp; omega) | omega) _ | refine Below.setCell ?_ (by first | exact Nat.le_refl _ | (simp; done) | (simp; omega) | omega) _ | refine Below.trans ?_ (Below.mono (by assumption) (by first | exact Nat.le_refl _ | (simp; done) | (simp; omega) | omega)))); done) | fail))).mono ?_
    rintro e w4 ⟨rfl, hb4⟩
    have HB4 : Hid (Below w.heap.size w w4) := (HB2.out.trans (hbr.out.mono HB2.out.size)).trans (((Below.refl wr.heap.size wr).drew.trans hb4).mono (by have := HB2.out.size; omega))
    clear hcall hb4
    go_wp2
    go_ret2
    exact ⟨.slice none 0 0, by rw [HT.out]; rfl, by rw [HT.out]; exact OwnL.nil _ _ _ _, HB4.out⟩
   case true =>
    rw [e9] at hcall
    have HT : Hid ((ts.take (k + 1)).any (fun t => !(liftsC c t).isSome) = false) := by
     show _ = _
     rw [any_snocN _ HX.out, HK.out, e9]; rfl
    clear e9
    go_wp2
    refine still_tail 5 (by kernel_rfl) (by kernel_rfl) ?_
    simp only [List.take_succ_cons, List.take_zero, List.drop_succ_cons, List.drop_zero]
    repeat still_step
    refine wpStill_nil ?_
    go_wp2_with fail
    refine (hcall _ ((by first | ((repeat (first | exact Below.refl _ _ | assumption | refine Below.drewN ?_ _ | refine Below.drew ?_ | refine Below.alloc ?_ (by first | exact Nat.le_refl _ | (simp; done) | (simp; omega) | omega) _ | refine Below.setCell ?_ (by first | exact Nat.le_refl _ | (simp; done) | (simp; omega) | omega) _ | refine Below.trans ?_ (Below.mono (by assumption) (by first | exact Nat.le_refl _ | (simp; done) | (simp; omega) | omega)))); done) | fail))).mono ?_
    rintro e w4 ⟨rfl, hb4⟩
    have HB4 : Hid (Below w2.heap.size w2 w4) := hbr.out.trans (((Below.refl wr.heap.size wr).drew.trans hb4).mono hzr)
    clear hcall hb4
    go_wp2
    go_roundw
    case rel => exact ⟨k + 1, by omega, by go_num, HT, HB4⟩
    case measure => simp [intOf]; omega
  ·have hkz : ¬ (k : Int) < (N : Int) := by omega
   have HT : Hid (clausesP c ts = (clausesA c ts, 0)) := by
    have h1 := HK.out
    rw [List.take_of_length_le (by rw [HN.out]; omega)] at h1
    show _ = _
    rw [HF.out, HE.out, h1]; rfl
   have HI4 := Lib.hid ((HC.out.mono HB2.out).mono hbr.out)
   have HB4 : Hid (Below w.heap.size w wr) := HB2.out.trans (hbr.out.mono HB2.out.size)
   have E0 := Lib.hid (kept hbr.out D0.out)
   have E1 := Lib.hid (kept hbr.out D1.out)
   have E2 := Lib.hid (kept hbr.out D2.out)
   have E3 := Lib.hid (kept hbr.out D3.out)
   have hs4 : w.heap.size < wr.heap.size := cell_lt E0.out
   clear HF HE HK hbr D0 D1 D2 D3 HB2 hk hki hzr
   generalize wr = w4 at *
   go_wp2
   go_loopw [7, 8] (fun sv kv wr => ∃ a : Nat, a ≤ 3 ∧ kv = .int .i64 a ∧ Hid (Below w4.heap.size w4 wr) ∧ Hid (OwnW w0.heap.size w4.heap.size Ec 86 wr sv (acc3 (flatC c ts) a 0))) (fun _ kv _ => 3 - (intOf kv).toNat)
   case atStart => exact ⟨0, by omega, rfl, Lib.hid (Below.refl _ _), Lib.hid (OwnW.nil _ _ _ _ _)⟩
   case round =>
    obtain ⟨p, hp, rfl, HB, HO⟩ := hrel
    by_cases hpi : p < 3
    ·have hpz : (p : Int) ≤ 2 := by omega
     go_wp2
     generalize wr = w5 at *
     go_loopw [7, 9] (fun sv kv wr => ∃ b : Nat, b ≤ 3 ∧ kv = .int .i64 b ∧ Hid (Below w4.heap.size w4 wr) ∧ Hid (OwnW w0.heap.size w4.heap.size Ec 86 wr sv (acc3 (flatC c ts) p b))) (fun _ kv _ => 3 - (intOf kv).toNat)
     case atStart => exact ⟨0, by omega, rfl, HB, HO⟩
     case round =>
      clear HB HO
      obtain ⟨q, hq, rfl, HB, HO⟩ := hrel
      by_cases hqi : q < 3
      ·have hqz : (q : Int) ≤ 2 := by omega
       have HLA := Lib.hid (acc3_len (flatC c ts) (M := 128000000) (fun p q => Nat.le_trans (flat_len fun t _ => clC_len p q) (by rw [HN.out]; have := HLT.out; omega)) hpi hqi)
       go_wp2
       generalize wr = w6 at *
       go_loopw [7, 10] (fun sv kv wr => ∃ i : Nat, i ≤ N ∧ kv = .int .i64 i ∧ Hid (Below w4.heap.size w4 wr) ∧ Hid (OwnW w0.heap.size w4.heap.size Ec 86 wr sv (acc3 (flatC c ts) p q ++ (ts.take i).flatMap fun t => clausesC c t p q))) (fun _ kv _ => N - (intOf kv).toNat)
       case atStart => exact ⟨0, by omega, rfl, HB, by show OwnW _ _ _ _ _ _ _; simpa using HO.out⟩
       case round =>
        clear HB HO
        obtain ⟨i, hi, rfl, HB, HO⟩ := hrel
        have hz4 : w4.heap.size ≤ wr.heap.size := HB.out.size
        by_cases hki : i < N
        ·have hkz : (i : Int) < (N : Int) := by omega
         have hk0 : (0 : Int) ≤ (i : Int) := by omega
         obtain ⟨y, hy⟩ := get_lt (xs := ts) (k := i) (by rw [HN.out]; exact hki)
         have HY := Lib.hid hy
         obtain ⟨b, off, rfl, hb, y0', y1', -⟩ := Term.at_row HR.out hy
         have y0 := kept HB.out (kept HB4.out y0')
         have y1 := kept HB.out (kept HB4.out y1')
         have hsy := cell_lt y0
         have Y0 := Lib.hid (kept HB4.out y0')
         have Y1 := Lib.hid (kept HB4.out y1')
         have f0 := kept HB.out E0.out
         have f1 := kept HB.out E1.out
         have f2 := kept HB.out E2.out
         have f3 := kept HB.out E3.out
         have hs1 := cell_lt f0
         clear hy y0' y1' hb
         have hcall := fun W (hb : Below wr.heap.size wr W) => ClausesR_o w0 W _ c y p q H00.out (HB0.out.trans (((HB4.out.trans (HB.out.mono (Nat.le_of_lt hs4))).trans (hb.mono (by omega))).mono HB0.out.size))
         have HQ := Lib.hid HO.out
         have hsh := OwnL.shape HO.out.1
         generalize hXS : acc3 (flatC c ts) p q ++ (ts.take i).flatMap (fun t => clausesC c t p q) = xs9 at *
         have HXS := Lib.hid hXS
         clear hXS HQ
         obtain ⟨va, vc9, rfl⟩ := hsh
         generalize hn9 : xs9.length = n9 at *
         have HN9 := Lib.hid hn9
         clear hn9
         have HFL := Lib.hid (show ((ts.take i).flatMap fun t => clausesC c t p q).length ≤ 128000000 from Nat.le_trans (flat_len (M := 128) fun t _ => clC_len p q) (by rw [List.length_take, HN.out]; have := HLT.out; omega))
         go_wp2
         refine wp_region_held_drew (S := (fun w' : World => w'.cell? ⟨w.heap.size, 0, none⟩ = some (.slice a0 N0 c0) ∧ w'.cell? ⟨w.heap.size, 1, none⟩ = some (.slice a1 N1 c1) ∧ w'.cell? ⟨w.heap.size, 2, none⟩ = some (.slice a2 N2 c2) ∧ w'.cell? ⟨w.heap.size, 3, none⟩ = some (.slice a3 N3 c3) ∧ w'.cell? ⟨b, off + i * 2, none⟩ = some (.string y.license) ∧ w'.cell? ⟨b, off + i * 2 + 1, none⟩ = some (.string y.exception))) (by kernel_rfl) (by exact ⟨f0, f1, f2, f3, y0, y1⟩) (fun hH0 => ?_)
         refine wpAnyH_take (i := 0) (oi := _) (v := ?_) rfl (by kernel_rfl) (by kernel_rfl) (by kernel_rfl) (fun _ _ _ h => h) (Or.inl ⟨by kernel_rfl, ?_⟩) hH0 ?_
         rotate_left
         ·intro w hSw; (try dsimp only at hSw); go_simp
          all_goals with_reducible rfl
         try simp only [tkS, Act.put]
         refine wpAnyH_take (i := 1) (oi := _) (v := ?_) rfl (by kernel_rfl) (by kernel_rfl) (by kernel_rfl) (fun _ _ _ h => h) (Or.inl ⟨by kernel_rfl, ?_⟩) hH0 ?_
         rotate_left
         ·intro w hSw; (try dsimp only at hSw); go_simp
          all_goals with_reducible rfl
         try simp only [tkS, Act.put]
         refine wpAnyH_take (i := 2) (oi := _) (v := ?_) rfl (by kernel_rfl) (by kernel_rfl) (by kernel_rfl) (fun _ _ _ h => h) (Or.inl ⟨by kernel_rfl, ?_⟩) hH0 ?_
         rotate_left
         ·intro w hSw; (try dsimp only at hSw); go_simp
          all_goals with_reducible rfl
         try simp only [tkS, Act.put]
         refine wpAnyH_take (i := 3) (oi := _) (v := ?_) rfl (by kernel_rfl) (by kernel_rfl) (by kernel_rfl) (fun _ _ _ h => h) (Or.inl ⟨by kernel_rfl, ?_⟩) hH0 ?_
         rotate_left
         ·intro w hSw; (try dsimp only at hSw); go_simp
          all_goals with_reducible rfl
         try simp only [tkS, Act.put]
         refine wpAnyH_take (i := 4) (oi := _) (v := ?_) rfl (by kernel_rfl) (by kernel_rfl) (by kernel_rfl) (fun _ _ _ h => h) (Or.inl ⟨by kernel_rfl, ?_⟩) hH0 ?_
         rotate_left
         ·intro w hSw; (try dsimp only at hSw); go_simp
          all_goals with_reducible rfl
         try simp only [tkS, Act.put]
         refine wpAnyH_take (i := 5) (oi := _) (v := ?_) rfl (by kernel_rfl) (by kernel_rfl) (by kernel_rfl) (fun _ _ _ h => h) (Or.inl ⟨by kernel_rfl, ?_⟩) hH0 ?_
         rotate_left
         ·intro w hSw; (try dsimp only at hSw); go_simp
          all_goals with_reducible rfl
         try simp only [tkS, Act.put]
         refine wpAnyH_take (i := 6) (oi := _) (v := ?_) rfl (by kernel_rfl) (by kernel_rfl) (by kernel_rfl) (fun _ _ _ h => h) (Or.inl ⟨by kernel_rfl, ?_⟩) hH0 ?_
         rotate_left
         ·intro w hSw; (try dsimp only at hSw); go_simp
          all_goals with_reducible rfl
         try simp only [tkS, Act.put]
         refine wpAnyH_take (i := 7) (oi := _) (v := ?_) rfl (by kernel_rfl) (by kernel_rfl) (by kernel_rfl) (fun _ _ _ h => h) (Or.inl ⟨by kernel_rfl, ?_⟩) hH0 ?_
         rotate_left
         ·intro w hSw; (try dsimp only at hSw); go_simp
          all_goals with_reducible rfl
         try simp only [tkS, Act.put]
         refine wpAnyH_ready (rs := [8]) (by kernel_rfl) (by simp) ?_
         refine AllReadyH.cons (o := _) rfl (fun K hK => ?_) AllReadyH.nil
         go_simp
         go_at_call 69
         refine (hcall _ (by first | ((repeat (first | exact Below.refl _ _ | assumption | refine Below.drewN ?_ _ | refine Below.drew ?_ | refine Below.alloc ?_ (by first | exact Nat.le_refl _ | (simp; done) | (simp; omega) | omega) _ | refine Below.setCell ?_ (by first | exact Nat.le_refl _ | (simp; done) | (simp; omega) | omega) _ | refine Below.trans ?_ (Below.mono (by assumption) (by first | exact Nat.le_refl _ | (simp; done) | (simp; omega) | omega)))); done) | fail)).mono ?_
         unfold CW
         rintro e w7 ⟨s, rfl, ho, hb7⟩
         have HB7 : Hid (Below wr.heap.size wr w7) := Lib.hid (by exact (by first | ((repeat (first | exact Below.refl _ _ | assumption | refine Below.drewN ?_ _ | refine Below.drew ?_ | refine Below.alloc ?_ (by first | exact Nat.le_refl _ | (simp; done) | (simp; omega) | omega) _ | refine Below.setCell ?_ (by first | exact Nat.le_refl _ | (simp; done) | (simp; omega) | omega) _ | refine Below.trans ?_ (Below.mono (by assumption) (by first | exact Nat.le_refl _ | (simp; done) | (simp; omega) | omega)))); done) | fail))
         have hs7 : wr.heap.size ≤ w7.heap.size := HB7.out.size
         have HOB := Lib.hid (HO.out.below HB7.out)
         have HS7 := Lib.hid ho
         obtain ⟨sa, sc, rfl⟩ := OwnL.shape ho
         have HCL := Lib.hid (clC_len (c := c) (t := y) p q)
         go_wp2_with fail
         refine hK.out _ _ ?_ (fun hH1 => ?_)
         ·exact ⟨kept HB7.out f0, kept HB7.out f1, kept HB7.out f2, kept HB7.out f3, kept HB7.out y0, kept HB7.out y1⟩
         try simp only [tkS, Act.put]
         clear hK K
         refine wpAnyH_ready (rs := [9]) (by kernel_rfl) (by simp) ?_
         refine AllReadyH.cons (o := _) rfl (fun K hK => ?_) AllReadyH.nil
         refine wpo_appW (E := Ec) (bytes := 64) clRow rfl (by decide) Tryz.underlying39 cl_one _ _ rfl w0.heap.size w4.heap.size (by have := HB0.out.size; omega) _ _ _ _ rfl rfl (Or.inl rfl) HOB.out HS7.out ?c1 ?c2 ?_
         case c1 =>
          have := HLA.out; have := HCL.out; have := HFL.out
          rw [← HXS.out, List.length_append]; omega
         case c2 => have := HB.out.size; omega
         intro v8 w8 ho8 hb8
         have HB8 : Hid (Below w4.heap.size w4 w8) := (HB.out.trans (HB7.out.mono hz4)).trans hb8
         have HO8 := Lib.hid ho8
         go_wp2_with fail
         refine hK.out _ _ ?_ (fun hH2 => ?_)
         ·exact ⟨kept HB8.out E0.out, kept HB8.out E1.out, kept HB8.out E2.out, kept HB8.out E3.out, kept HB8.out Y0.out, kept HB8.out Y1.out⟩
         try simp only [tkS, Act.put]
         clear hK K
         refine wpAnyH_take (i := 10) (oi := _) (v := ?_) rfl (by kernel_rfl) (by kernel_rfl) (by kernel_rfl) (fun _ _ _ h => h) (Or.inl ⟨by kernel_rfl, ?_⟩) hH2 ?_
         rotate_left
         ·intro w hSw; (try dsimp only at hSw); go_simp
          all_goals with_reducible rfl
         try simp only [tkS, Act.put]
         refine wpAnyH_done (by kernel_rfl) ?_ _
         go_wp2
         go_roundw
         case rel =>
          refine ⟨i + 1, by omega, by go_num, HB8, ?_⟩
          show OwnW _ _ _ _ _ _ _
          rw [take_at HY.out, List.flatMap_append, List.flatMap_cons, List.flatMap_nil, List.append_nil, ← List.append_assoc, HXS.out]
          exact HO8.out
         case measure => simp [intOf]; omega
        ·have hkz : ¬ (i : Int) < (N : Int) := by omega
         have HO2 : Hid (OwnW w0.heap.size w4.heap.size Ec 86 wr u7 (acc3 (flatC c ts) p (q + 1))) := by
          have := HO.out
          rw [List.take_of_length_le (by rw [HN.out]; omega)] at this
          show OwnW _ _ _ _ _ _ _
          rw [acc3_step _ p hqi]
          exact this
         go_wp2
         go_roundw
         case rel => exact ⟨q + 1, by omega, by go_num, HB, HO2⟩
         case measure => simp [intOf]; omega
      ·obtain rfl : q = 3 := by omega
       go_wp2
       go_roundw
       case rel =>
        refine ⟨p + 1, by omega, by go_num, HB, ?_⟩
        show OwnW _ _ _ _ _ _ _
        rw [← acc3_next _ hpi]
        exact HO.out
       case measure => simp [intOf]; omega
    ·obtain rfl : p = 3 := by omega
     go_wp2
     go_ret2
     refine ⟨_, by rw [HT.out]; rfl, ?_, HB4.out.trans (HB.out.mono HB4.out.size)⟩
     rw [HT.out]
     show OwnL _ _ _ _ _ _
     rw [← acc3_all]; exact HO.out.1
end Go.Proofs.YtoemmpfcnpdblaaGreatDoor
