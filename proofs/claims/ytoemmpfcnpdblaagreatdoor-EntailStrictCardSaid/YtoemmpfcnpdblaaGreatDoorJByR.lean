/- The reference of layer 34: EntailsBy (printed by gen/byr.py). -/
import Derived.Test.YtoemmpfcnpdblaaGreatDoorJMilU
import Derived.Test.YtoemmpfcnpdblaaGreatDoorJMilR
import Derived.Test.YtoemmpfcnpdblaaGreatDoorJDecU
set_option linter.all false
namespace Go.Proofs.YtoemmpfcnpdblaaGreatDoor
open Go Go.RowKit Go.ChangeShapes Go.Sort Go.Lib

theorem app_clsW {ops : Array Oper} {rest : List Oper} {o : Oper} {a : Act} {Q : Exit → Act → World → Prop} {w : World} (hgd : o.guard = none) (s x : Operand)
  (ho : o.op = .call { callee := .builtin .append, args := #[s, x], argTypes := #[92, 92] })
  (B0 B : Nat) (hB0 : B0 ≤ B) (v : Value) (xs : List (List Clause)) (hs : a.eval s = v) (hown : OwnW B0 B (· = 39) 39 w v xs)
  {u : Value} (y : List Clause) (hx : a.eval x = .slice (some ⟨w.heap.size, 0, none⟩) 1 1)
  (hy : ∀ w'', Agree B0 (· = 39) (w.alloc (.cells #[u] 39)) w'' → Is w'' u y)
  (hb : xs.length ≤ 1000000000) (hB : B ≤ w.heap.size)
  (h : ∀ v' w', OwnW B0 B (· = 39) 39 w' v' (xs ++ [y]) → Below B w w' → wpList Tryz.prog ops Q rest (a.put o.dst v') w') :
  wpList Tryz.prog ops Q (o :: rest) a (w.alloc (.cells #[u] 39)) := by
 obtain ⟨cs, hrow⟩ := hown.2
 have hal : Below w.heap.size w (w.alloc (.cells #[u] 39)) := (Below.refl _ _).alloc (Nat.le_refl _) _
 obtain ⟨ua, uc, rfl, -⟩ := list_inv (hy _ (Agree.refl _ _ _))
 refine wp_app clsRow rfl (by decide) Tryz.underlying92 hgd s x ho B v xs.length cs hs hrow #[.slice ua y.length uc] hx rfl (by intro q hq; simp at hq; subst hq; rfl) (by omega) hB fun v' w' h2 h3 _ => ?_
 have hcells : ∀ w'', Agree B0 (· = 39) (w.alloc (.cells #[.slice ua y.length uc] 39)) w'' → Lay.is w'' (fun j => (#[Value.slice ua y.length uc].toList)[j]?) y := by
  intro w'' hA
  obtain ⟨a', c', he, h1, h2, h3⟩ := list_inv (hy _ hA)
  cases he
  exact ⟨_, _, rfl, h1, h2, h3⟩
 refine h v' w' ⟨OwnL.snoc (E := fun x => x = 39) rfl hown.1 hal rfl hcells h3 fun cs2 h4 => ?_, ⟨cs ++ [.slice ua y.length uc], ?_⟩⟩ ?_
 ·rw [OwnL.row_unique (ownsRow_weaken hrow hB0) h4] at h2
  exact ownsRow_weaken h2 hB0
 ·rw [List.length_append]; exact h2
 ·exact ((Below.refl _ _).alloc (by omega) _).app h3 (by simp; omega) hrow
set_option maxRecDepth 100000 in
set_option maxHeartbeats 8000000 in
theorem EntailsBy34_ref (w : World) (vc v u : Value) (c : Catalog) (xs ys : List (List Term)) (hc : Is w vc c) (h1 : Is w v xs) (h2 : Is w u ys) :
  Calls Tryz.prog 27 #[vc, v, u] w fun e w' => e = .returned (.tuple #[.bool (byP c xs ys).1, .int .i64 (byP c xs ys).2]) ∧ Below w.heap.size w w' := by
 have HF : Hid (byP c xs ys = if badP xs ys then (false, 1) else if !(allE c xs == 0) then (false, allE c xs) else if !(allE c ys == 0) then (false, allE c ys) else (byC (xs.map (clausesA c)) (ys.map (clausesA c)), 0)) := rfl
 have HC := Lib.hid hc
 have HBL := Lib.hid (bad_lenB (xs := xs) (ys := ys))
 obtain ⟨a0, N0, c0, a1, N1, c1, a2, N2, c2, a3, N3, c3, rfl⟩ := catBox hc
 have hba : Below w.heap.size w (w.alloc (.cells #[.slice a0 N0 c0, .slice a1 N1 c1, .slice a2 N2 c2, .slice a3 N3 c3] 42)) := (by first | ((repeat (first | exact Below.refl _ _ | assumption | refine Below.drewN ?_ _ | refine Below.drew ?_ | refine Below.alloc ?_ (by first | exact Nat.le_refl _ | (simp; done) | (simp; omega) | omega) _ | refine Below.setCell ?_ (by first | exact Nat.le_refl _ | (simp; done) | (simp; omega) | omega) _ | refine Below.trans ?_ (Below.mono (by assumption) (by first | exact Nat.le_refl _ | (simp; done) | (simp; omega) | omega)))); done) | fail)
 have hmn := Minimal34_ref (w.alloc (.cells #[.slice a0 N0 c0, .slice a1 N1 c1, .slice a2 N2 c2, .slice a3 N3 c3] 42)) _ _ xs ys (h1.mono hba) (h2.mono hba)
 have HBA := Lib.hid hba
 obtain ⟨av, cv, rfl, hnv, hcv, hr1⟩ := list_inv h1
 obtain ⟨au, cu, rfl, hnu, hcu, hr2⟩ := list_inv h2
 simp only [maxLen] at hcv hcu
 have HR1 := Lib.hid hr1
 have HR2 := Lib.hid hr2
 clear h1 h2 hc hba hr1 hr2
 generalize hlx : xs.length = LX at *
 generalize hly : ys.length = LY at *
 have HLX := Lib.hid hlx
 have HLY := Lib.hid hly
 clear hlx hly
 generalize hbd : badP xs ys = bd at *
 clear hbd
 cases bd
 case true =>
  have HT : Hid (byP c xs ys = (false, 1)) := by show _ = _; rw [HF.out]; rfl
  go_enter Tryz.func27, Tryz.ntmps27
  go_wp2_with fail
  refine hmn.mono ?_
  rintro e w1 ⟨rfl, hb⟩
  have HB1 : Hid (Below w.heap.size w w1) := HBA.out.trans (hb.mono (by simp))
  go_wp2
  go_ret2
  exact ⟨by rw [HT.out]; rfl, HB1.out⟩
 have HBO : Hid ((∀ x ∈ xs, x.length ≤ 1000000) ∧ (∀ y ∈ ys, y.length ≤ 1000000) ∧ LX ≤ 1000000 ∧ LY ≤ 1000000) := Lib.hid (HBL.out rfl)
 have HF1 : Hid (byP c xs ys = if !(allE c xs == 0) then (false, allE c xs) else if !(allE c ys == 0) then (false, allE c ys) else (byC (xs.map (clausesA c)) (ys.map (clausesA c)), 0)) := by show _ = _; rw [HF.out]; rfl
 clear HBL HF
 go_enter Tryz.func27, Tryz.ntmps27
 go_wp2_with fail
 refine hmn.mono ?_
 rintro e w1 ⟨rfl, hb⟩
 have HB1 : Hid (Below w.heap.size w w1) := HBA.out.trans (hb.mono (by simp))
 have D0 := Lib.hid (kept hb (a := ⟨w.heap.size, 0, none⟩) (v := .slice a0 N0 c0) (by simp))
 have D1 := Lib.hid (kept hb (a := ⟨w.heap.size, 1, none⟩) (v := .slice a1 N1 c1) (by simp))
 have D2 := Lib.hid (kept hb (a := ⟨w.heap.size, 2, none⟩) (v := .slice a2 N2 c2) (by simp))
 have D3 := Lib.hid (kept hb (a := ⟨w.heap.size, 3, none⟩) (v := .slice a3 N3 c3) (by simp))
 have hs1 : w.heap.size < w1.heap.size := cell_lt D0.out
 clear hmn hb HBA
 go_wp2
 go_loopw [8, 10] (fun sv kv wr => ∃ i : Nat, i ≤ LX ∧ kv = .int .i64 i ∧ Hid (Below w1.heap.size w1 wr) ∧ Hid (OwnW w.heap.size w1.heap.size (· = 39) 39 wr sv ((xs.take i).map (clausesA c))) ∧ Hid (allE c xs = allE c (xs.drop i))) (fun _ kv _ => LX - (intOf kv).toNat)
 case atStart => exact ⟨0, by omega, rfl, Lib.hid (Below.refl _ _), Lib.hid (OwnW.nil _ _ _ _ _), rfl⟩
 case round =>
  obtain ⟨i, hi, rfl, HB, HO, HE⟩ := hrel
  have hz1 : w1.heap.size ≤ wr.heap.size := HB.out.size
  have hz0 : w.heap.size < wr.heap.size := by omega
  by_cases hki : i < LX
  ·have hkz : (i : Int) < (LX : Int) := by omega
   have hk0 : (0 : Int) ≤ (i : Int) := by omega
   obtain ⟨x, hx⟩ := get_lt (xs := xs) (k := i) (by rw [HLX.out]; exact hki)
   have HX := Lib.hid hx
   obtain ⟨b, off, rfl, hb, ax, cx, y0', l1, l2, l3⟩ := list_at HR1.out hx
   have y0 := kept HB.out (kept HB1.out y0')
   have hsy := cell_lt y0
   have f0 := kept HB.out D0.out
   have f1 := kept HB.out D1.out
   have f2 := kept HB.out D2.out
   have f3 := kept HB.out D3.out
   have HBW : Hid (Below w.heap.size w wr) := HB1.out.trans (HB.out.mono HB1.out.size)
   have hcall := fun W (hbb : Below wr.heap.size wr W) => Clauses34_ref w W _ (.slice ax x.length cx) c x HC.out (HBW.out.trans (hbb.mono (by omega))) ((list_mk l1 l2 (l3.mono HBW.out)).mono hbb) (HBO.out.1 x (List.mem_of_getElem? hx))
   have HP : Hid (clausesP c x = if !(clausesE c x == 0) then ([], clausesE c x) else (clausesA c x, 0)) := rfl
   have HD := Lib.hid (drop_at hx)
   have HEN := Lib.hid (all_next HE.out hx)
   clear hx y0' l1 l2 l3 hb
   generalize hex : clausesE c x = ex at *
   by_cases q : ex = 0
   case neg =>
    have q1 : (ex == 0) = false := by simpa using q
    have q2 : (ex != 0) = true := by simpa using q
    have HT : Hid (allE c xs = ex) := by show _ = _; rw [HE.out, HD.out, allE, hex, q1]; rfl
    have HT2 : Hid (clausesP c x = ([], ex)) := by show _ = _; rw [HP.out, q1]; rfl
    rw [HT2.out] at hcall
    have HQ : Hid ((!(allE c xs == 0)) = true) := by show _ = _; rw [HT.out, q1]; rfl
    clear q hex HP HEN
    go_wp2
    refine wp_region_held_drew (S := (fun w' : World => w'.cell? ⟨w.heap.size, 0, none⟩ = some (.slice a0 N0 c0) ∧ w'.cell? ⟨w.heap.size, 1, none⟩ = some (.slice a1 N1 c1) ∧ w'.cell? ⟨w.heap.size, 2, none⟩ = some (.slice a2 N2 c2) ∧ w'.cell? ⟨w.heap.size, 3, none⟩ = some (.slice a3 N3 c3) ∧ w'.cell? ⟨b, off + i, none⟩ = some (.slice ax x.length cx))) (by kernel_rfl) (by exact ⟨f0, f1, f2, f3, y0⟩) (fun hH0 => ?_)
    refine wpAnyH_take (i := 0) (oi := _) (v := ?_) rfl (by kernel_rfl) (by kernel_rfl) (by kernel_rfl) (fun _ _ _ h => h) (Or.inl ⟨by kernel_rfl, ?_⟩) hH0 ?_
    rotate_left
    ·intro w hSw; (try dsimp only at hSw); go_simp
     all_goals with_reducible rfl
    try simp only [tkS, Act.put]
    refine wpAnyH_take (i := 1) (oi := _) (v := ?_) rfl (by kernel_rfl) (by kernel_rfl) (by kernel_rfl) (fun _ _ _ h => h) (Or.inl ⟨by kernel_rfl, ?_⟩) hH0 ?_
    rotate_left
    ·intro w hSw; (try dsimp only at hSw); go_simp
     all_goals with_reducible rfl
    try simp only [tkS, Act.put]
    refine wpAnyH_take (i := 2) (oi := _) (v := ?_) rfl (by kernel_rfl) (by kernel_rfl) (by kernel_rfl) (fun _ _ _ h => h) (Or.inl ⟨by kernel_rfl, ?_⟩) hH0 ?_
    rotate_left
    ·intro w hSw; (try dsimp only at hSw); go_simp
     all_goals with_reducible rfl
    try simp only [tkS, Act.put]
    refine wpAnyH_take (i := 3) (oi := _) (v := ?_) rfl (by kernel_rfl) (by kernel_rfl) (by kernel_rfl) (fun _ _ _ h => h) (Or.inl ⟨by kernel_rfl, ?_⟩) hH0 ?_
    rotate_left
    ·intro w hSw; (try dsimp only at hSw); go_simp
     all_goals with_reducible rfl
    try simp only [tkS, Act.put]
    refine wpAnyH_take (i := 4) (oi := _) (v := ?_) rfl (by kernel_rfl) (by kernel_rfl) (by kernel_rfl) (fun _ _ _ h => h) (Or.inl ⟨by kernel_rfl, ?_⟩) hH0 ?_
    rotate_left
    ·intro w hSw; (try dsimp only at hSw); go_simp
     all_goals with_reducible rfl
    try simp only [tkS, Act.put]
    refine wpAnyH_ready (rs := [5]) (by kernel_rfl) (by simp) ?_
    refine AllReadyH.cons (o := _) rfl (fun K hK => ?_) AllReadyH.nil
    go_simp
    go_at_call 29
    refine (hcall _ (by first | ((repeat (first | exact Below.refl _ _ | assumption | refine Below.drewN ?_ _ | refine Below.drew ?_ | refine Below.alloc ?_ (by first | exact Nat.le_refl _ | (simp; done) | (simp; omega) | omega) _ | refine Below.setCell ?_ (by first | exact Nat.le_refl _ | (simp; done) | (simp; omega) | omega) _ | refine Below.trans ?_ (Below.mono (by assumption) (by first | exact Nat.le_refl _ | (simp; done) | (simp; omega) | omega)))); done) | fail)).mono ?_
    unfold ClW
    rintro e w5 ⟨v5, rfl, ho5, hb5⟩
    have HB5 : Hid (Below wr.heap.size wr w5) := Lib.hid (by exact (by first | ((repeat (first | exact Below.refl _ _ | assumption | refine Below.drewN ?_ _ | refine Below.drew ?_ | refine Below.alloc ?_ (by first | exact Nat.le_refl _ | (simp; done) | (simp; omega) | omega) _ | refine Below.setCell ?_ (by first | exact Nat.le_refl _ | (simp; done) | (simp; omega) | omega) _ | refine Below.trans ?_ (Below.mono (by assumption) (by first | exact Nat.le_refl _ | (simp; done) | (simp; omega) | omega)))); done) | fail))
    have HO5 := Lib.hid ho5
    obtain ⟨a5, c5, rfl, -⟩ := list_inv ho5.is
    go_wp2_with fail
    refine hK.out _ _ ?_ (fun hH1 => ?_)
    ·exact ⟨kept HB5.out f0, kept HB5.out f1, kept HB5.out f2, kept HB5.out f3, kept HB5.out y0⟩
    try simp only [tkS, Act.put]
    clear hK K
    refine wpAnyH_take (i := 6) (oi := _) (v := ?_) rfl (by kernel_rfl) (by kernel_rfl) (by kernel_rfl) (fun _ _ _ h => h) (Or.inl ⟨by kernel_rfl, ?_⟩) hH1 ?_
    rotate_left
    ·intro w hSw; (try dsimp only at hSw); go_simp
     all_goals with_reducible rfl
    try simp only [tkS, Act.put]
    refine wpAnyH_take (i := 7) (oi := _) (v := ?_) rfl (by kernel_rfl) (by kernel_rfl) (by kernel_rfl) (fun _ _ _ h => h) (Or.inl ⟨by kernel_rfl, ?_⟩) hH1 ?_
    rotate_left
    ·intro w hSw; (try dsimp only at hSw); go_simp
     all_goals with_reducible rfl
    try simp only [tkS, Act.put]
    refine wpAnyH_take (i := 8) (oi := _) (v := ?_) rfl (by kernel_rfl) (by kernel_rfl) (by kernel_rfl) (fun _ _ _ h => h) (Or.inl ⟨by kernel_rfl, ?_⟩) hH1 ?_
    rotate_left
    ·intro w hSw; (try dsimp only at hSw); go_simp
     all_goals with_reducible rfl
    try simp only [tkS, Act.put]
    refine wpAnyH_take (i := 9) (oi := _) (v := ?_) rfl (by kernel_rfl) (by kernel_rfl) (by kernel_rfl) (fun _ _ _ h => h) (Or.inl ⟨by kernel_rfl, ?_⟩) hH1 ?_
    rotate_left
    ·intro w hSw; (try dsimp only at hSw); go_simp
     all_goals with_reducible rfl
    try simp only [tkS, Act.put]
    refine wpAnyH_take (i := 10) (oi := _) (v := ?_) rfl (by kernel_rfl) (by kernel_rfl) (by kernel_rfl) (fun _ _ _ h => h) (Or.inl ⟨by kernel_rfl, ?_⟩) hH1 ?_
    rotate_left
    ·intro w hSw; (try dsimp only at hSw); go_simp
     all_goals with_reducible rfl
    try simp only [tkS, Act.put]
    refine wpAnyH_done (by kernel_rfl) ?_ _
    go_wp2
    go_ret2
    exact ⟨by rw [HF1.out, HQ.out, HT.out]; rfl, HBW.out.trans (HB5.out.mono HBW.out.size)⟩
   have HT2 : Hid (clausesP c x = (clausesA c x, 0)) := by show _ = _; rw [HP.out, q]; rfl
   have HS : Hid (allE c xs = allE c (xs.drop (i + 1))) := HEN.out q
   rw [HT2.out] at hcall
   clear hex HP HEN
   subst q
   have HLB : Hid (((xs.take i).map (clausesA c)).length ≤ 1000000000) := by
    show _ ≤ _
    rw [List.length_map, List.length_take, HLX.out]; have := HBO.out.2.2.1; have := HBO.out.2.2.2; have := HLX.out; have := HLY.out; omega
   generalize hca : clausesA c x = ca at *
   have HCA := Lib.hid hca
   clear hca
   go_wp2
   refine wp_region_held_drew (S := (fun w' : World => w'.cell? ⟨w.heap.size, 0, none⟩ = some (.slice a0 N0 c0) ∧ w'.cell? ⟨w.heap.size, 1, none⟩ = some (.slice a1 N1 c1) ∧ w'.cell? ⟨w.heap.size, 2, none⟩ = some (.slice a2 N2 c2) ∧ w'.cell? ⟨w.heap.size, 3, none⟩ = some (.slice a3 N3 c3) ∧ w'.cell? ⟨b, off + i, none⟩ = some (.slice ax x.length cx))) (by kernel_rfl) (by exact ⟨f0, f1, f2, f3, y0⟩) (fun hH0 => ?_)
   refine wpAnyH_take (i := 0) (oi := _) (v := ?_) rfl (by kernel_rfl) (by kernel_rfl) (by kernel_rfl) (fun _ _ _ h => h) (Or.inl ⟨by kernel_rfl, ?_⟩) hH0 ?_
   rotate_left
   ·intro w hSw; (try dsimp only at hSw); go_simp
    all_goals with_reducible rfl
   try simp only [tkS, Act.put]
   refine wpAnyH_take (i := 1) (oi := _) (v := ?_) rfl (by kernel_rfl) (by kernel_rfl) (by kernel_rfl) (fun _ _ _ h => h) (Or.inl ⟨by kernel_rfl, ?_⟩) hH0 ?_
   rotate_left
   ·intro w hSw; (try dsimp only at hSw); go_simp
    all_goals with_reducible rfl
   try simp only [tkS, Act.put]
   refine wpAnyH_take (i := 2) (oi := _) (v := ?_) rfl (by kernel_rfl) (by kernel_rfl) (by kernel_rfl) (fun _ _ _ h => h) (Or.inl ⟨by kernel_rfl, ?_⟩) hH0 ?_
   rotate_left
   ·intro w hSw; (try dsimp only at hSw); go_simp
    all_goals with_reducible rfl
   try simp only [tkS, Act.put]
   refine wpAnyH_take (i := 3) (oi := _) (v := ?_) rfl (by kernel_rfl) (by kernel_rfl) (by kernel_rfl) (fun _ _ _ h => h) (Or.inl ⟨by kernel_rfl, ?_⟩) hH0 ?_
   rotate_left
   ·intro w hSw; (try dsimp only at hSw); go_simp
    all_goals with_reducible rfl
   try simp only [tkS, Act.put]
   refine wpAnyH_take (i := 4) (oi := _) (v := ?_) rfl (by kernel_rfl) (by kernel_rfl) (by kernel_rfl) (fun _ _ _ h => h) (Or.inl ⟨by kernel_rfl, ?_⟩) hH0 ?_
   rotate_left
   ·intro w hSw; (try dsimp only at hSw); go_simp
    all_goals with_reducible rfl
   try simp only [tkS, Act.put]
   refine wpAnyH_ready (rs := [5]) (by kernel_rfl) (by simp) ?_
   refine AllReadyH.cons (o := _) rfl (fun K hK => ?_) AllReadyH.nil
   go_simp
   go_at_call 29
   refine (hcall _ (by first | ((repeat (first | exact Below.refl _ _ | assumption | refine Below.drewN ?_ _ | refine Below.drew ?_ | refine Below.alloc ?_ (by first | exact Nat.le_refl _ | (simp; done) | (simp; omega) | omega) _ | refine Below.setCell ?_ (by first | exact Nat.le_refl _ | (simp; done) | (simp; omega) | omega) _ | refine Below.trans ?_ (Below.mono (by assumption) (by first | exact Nat.le_refl _ | (simp; done) | (simp; omega) | omega)))); done) | fail)).mono ?_
   unfold ClW
   rintro e w5 ⟨v5, rfl, ho5, hb5⟩
   have HB5 : Hid (Below wr.heap.size wr w5) := Lib.hid (by exact (by first | ((repeat (first | exact Below.refl _ _ | assumption | refine Below.drewN ?_ _ | refine Below.drew ?_ | refine Below.alloc ?_ (by first | exact Nat.le_refl _ | (simp; done) | (simp; omega) | omega) _ | refine Below.setCell ?_ (by first | exact Nat.le_refl _ | (simp; done) | (simp; omega) | omega) _ | refine Below.trans ?_ (Below.mono (by assumption) (by first | exact Nat.le_refl _ | (simp; done) | (simp; omega) | omega)))); done) | fail))
   have HO5 := Lib.hid ho5
   obtain ⟨a5, c5, rfl, -⟩ := list_inv ho5.is
   go_wp2_with fail
   refine hK.out _ _ ?_ (fun hH1 => ?_)
   ·exact ⟨kept HB5.out f0, kept HB5.out f1, kept HB5.out f2, kept HB5.out f3, kept HB5.out y0⟩
   try simp only [tkS, Act.put]
   clear hK K
   refine wpAnyH_take (i := 6) (oi := _) (v := ?_) rfl (by kernel_rfl) (by kernel_rfl) (by kernel_rfl) (fun _ _ _ h => h) (Or.inl ⟨by kernel_rfl, ?_⟩) hH1 ?_
   rotate_left
   ·intro w hSw; (try dsimp only at hSw); go_simp
    all_goals with_reducible rfl
   try simp only [tkS, Act.put]
   refine wpAnyH_take (i := 7) (oi := _) (v := ?_) rfl (by kernel_rfl) (by kernel_rfl) (by kernel_rfl) (fun _ _ _ h => h) (Or.inl ⟨by kernel_rfl, ?_⟩) hH1 ?_
   rotate_left
   ·intro w hSw; (try dsimp only at hSw); go_simp
    all_goals with_reducible rfl
   try simp only [tkS, Act.put]
   refine wpAnyH_take (i := 8) (oi := _) (v := ?_) rfl (by kernel_rfl) (by kernel_rfl) (by kernel_rfl) (fun _ _ _ h => h) (Or.inl ⟨by kernel_rfl, ?_⟩) hH1 ?_
   rotate_left
   ·intro w hSw; (try dsimp only at hSw); go_simp
    all_goals with_reducible rfl
   try simp only [tkS, Act.put]
   refine wpAnyH_take (i := 9) (oi := _) (v := ?_) rfl (by kernel_rfl) (by kernel_rfl) (by kernel_rfl) (fun _ _ _ h => h) (Or.inl ⟨by kernel_rfl, ?_⟩) hH1 ?_
   rotate_left
   ·intro w hSw; (try dsimp only at hSw); go_simp
    all_goals with_reducible rfl
   try simp only [tkS, Act.put]
   refine wpAnyH_take (i := 10) (oi := _) (v := ?_) rfl (by kernel_rfl) (by kernel_rfl) (by kernel_rfl) (fun _ _ _ h => h) (Or.inl ⟨by kernel_rfl, ?_⟩) hH1 ?_
   rotate_left
   ·intro w hSw; (try dsimp only at hSw); go_simp
    all_goals with_reducible rfl
   try simp only [tkS, Act.put]
   refine wpAnyH_done (by kernel_rfl) ?_ _
   have HOB := Lib.hid (HO.out.below HB5.out)
   have hs5 : wr.heap.size ≤ w5.heap.size := HB5.out.size
   clear HO
   go_wp2_with (at_builtin; go_loud (refine app_clsW rfl _ _ rfl w.heap.size w1.heap.size (by omega) _ _ rfl HOB.out ca ?cx ?c1 ?c2 ?c3 ?_))
   case cx => show Value.slice (some ⟨w5.heap.size, 0, none⟩) 1 1 = _; simp
   case c1 => intro w'' hA; exact ((HO5.out.below (by first | ((repeat (first | exact Below.refl _ _ | assumption | refine Below.drewN ?_ _ | refine Below.drew ?_ | refine Below.alloc ?_ (by first | exact Nat.le_refl _ | (simp; done) | (simp; omega) | omega) _ | refine Below.setCell ?_ (by first | exact Nat.le_refl _ | (simp; done) | (simp; omega) | omega) _ | refine Below.trans ?_ (Below.mono (by assumption) (by first | exact Nat.le_refl _ | (simp; done) | (simp; omega) | omega)))); done) | fail)).other hA (fun t ht => .inr ht) (by decide)).is
   case c2 => first | exact HLB.out | (have := HLB.out; simp at this; omega)
   case c3 => omega
   intro v3 w3 ho3 hb3
   have HB3 : Hid (Below w1.heap.size w1 w3) := (HB.out.trans (HB5.out.mono hz1)).trans hb3
   have HO3 := Lib.hid ho3
   clear ho3 hb3 HOB HO5
   go_wp2
   go_roundw
   case rel =>
    refine ⟨i + 1, by omega, by go_num, HB3, ?_, HS⟩
    show OwnW _ _ _ _ _ _ _
    rw [take_at HX.out, List.map_append, List.map_cons, List.map_nil, HCA.out]
    first | exact HO3.out | (rw [List.map_take]; exact HO3.out)
   case measure => simp [intOf]; omega
  ·have hkz : ¬ (i : Int) < (LX : Int) := by omega
   have HT : Hid (allE c xs = 0) := by
    show _ = _
    rw [HE.out, List.drop_eq_nil_of_le (by rw [HLX.out]; omega), allE]
   have HO2 : Hid (Is wr u8 (xs.map (clausesA c))) := by
    have := HO.out.is
    rw [List.take_of_length_le (by rw [HLX.out]; omega)] at this
    exact this
   have HBW : Hid (Below w.heap.size w wr) := HB1.out.trans (HB.out.mono HB1.out.size)
   have HF2 : Hid (byP c xs ys = if !(allE c ys == 0) then (false, allE c ys) else (byC (xs.map (clausesA c)) (ys.map (clausesA c)), 0)) := by show _ = _; rw [HF1.out, HT.out]; rfl
   have E0 := Lib.hid (kept HB.out D0.out)
   have E1 := Lib.hid (kept HB.out D1.out)
   have E2 := Lib.hid (kept HB.out D2.out)
   have E3 := Lib.hid (kept HB.out D3.out)
   obtain ⟨a6, c6, he6, hn6, hm6, hr6⟩ := list_inv HO2.out
   simp only [maxLen] at hm6
   generalize hL6 : (xs.map (clausesA c)).length = L6 at he6 hn6
   subst he6
   have HL6 := Lib.hid hL6
   have HR6 := Lib.hid hr6
   clear HO HF1 HE HT HB hL6 hr6 D0 D1 D2 D3 hz1 hki hi HO2 hs1
   generalize wr = w2 at *
   go_wp2
   go_loopw [9, 13] (fun sv kv wr => ∃ i : Nat, i ≤ LY ∧ kv = .int .i64 i ∧ Hid (Below w2.heap.size w2 wr) ∧ Hid (OwnW w.heap.size w2.heap.size (· = 39) 39 wr sv ((ys.take i).map (clausesA c))) ∧ Hid (allE c ys = allE c (ys.drop i))) (fun _ kv _ => LY - (intOf kv).toNat)
   case atStart => exact ⟨0, by omega, rfl, Lib.hid (Below.refl _ _), Lib.hid (OwnW.nil _ _ _ _ _), rfl⟩
   case round =>
    obtain ⟨i, hi, rfl, HB, HO, HE⟩ := hrel
    have hz1 : w2.heap.size ≤ wr.heap.size := HB.out.size
    have hz0 : w.heap.size < wr.heap.size := by omega
    by_cases hki : i < LY
    ·have hkz : (i : Int) < (LY : Int) := by omega
     have hk0 : (0 : Int) ≤ (i : Int) := by omega
     obtain ⟨x, hx⟩ := get_lt (xs := ys) (k := i) (by rw [HLY.out]; exact hki)
     have HX := Lib.hid hx
     obtain ⟨b, off, rfl, hb, ax, cx, y0', l1, l2, l3⟩ := list_at HR2.out hx
     have y0 := kept HB.out (kept HBW.out y0')
     have hsy := cell_lt y0
     have f0 := kept HB.out E0.out
     have f1 := kept HB.out E1.out
     have f2 := kept HB.out E2.out
     have f3 := kept HB.out E3.out
     have HBV : Hid (Below w.heap.size w wr) := HBW.out.trans (HB.out.mono HBW.out.size)
     have hcall := fun W (hbb : Below wr.heap.size wr W) => Clauses34_ref w W _ (.slice ax x.length cx) c x HC.out (HBV.out.trans (hbb.mono (by omega))) ((list_mk l1 l2 (l3.mono HBV.out)).mono hbb) (HBO.out.2.1 x (List.mem_of_getElem? hx))
     have HP : Hid (clausesP c x = if !(clausesE c x == 0) then ([], clausesE c x) else (clausesA c x, 0)) := rfl
     have HD := Lib.hid (drop_at hx)
     have HEN := Lib.hid (all_next HE.out hx)
     clear hx y0' l1 l2 l3 hb
     generalize hex : clausesE c x = ex at *
     by_cases q : ex = 0
     case neg =>
      have q1 : (ex == 0) = false := by simpa using q
      have q2 : (ex != 0) = true := by simpa using q
      have HT : Hid (allE c ys = ex) := by show _ = _; rw [HE.out, HD.out, allE, hex, q1]; rfl
      have HT2 : Hid (clausesP c x = ([], ex)) := by show _ = _; rw [HP.out, q1]; rfl
      rw [HT2.out] at hcall
      have HQ : Hid ((!(allE c ys == 0)) = true) := by show _ = _; rw [HT.out, q1]; rfl
      clear q hex HP HEN
      go_wp2
      refine wp_region_held_drew (S := (fun w' : World => w'.cell? ⟨w.heap.size, 0, none⟩ = some (.slice a0 N0 c0) ∧ w'.cell? ⟨w.heap.size, 1, none⟩ = some (.slice a1 N1 c1) ∧ w'.cell? ⟨w.heap.size, 2, none⟩ = some (.slice a2 N2 c2) ∧ w'.cell? ⟨w.heap.size, 3, none⟩ = some (.slice a3 N3 c3) ∧ w'.cell? ⟨b, off + i, none⟩ = some (.slice ax x.length cx))) (by kernel_rfl) (by exact ⟨f0, f1, f2, f3, y0⟩) (fun hH0 => ?_)
      refine wpAnyH_take (i := 0) (oi := _) (v := ?_) rfl (by kernel_rfl) (by kernel_rfl) (by kernel_rfl) (fun _ _ _ h => h) (Or.inl ⟨by kernel_rfl, ?_⟩) hH0 ?_
      rotate_left
      ·intro w hSw; (try dsimp only at hSw); go_simp
       all_goals with_reducible rfl
      try simp only [tkS, Act.put]
      refine wpAnyH_take (i := 1) (oi := _) (v := ?_) rfl (by kernel_rfl) (by kernel_rfl) (by kernel_rfl) (fun _ _ _ h => h) (Or.inl ⟨by kernel_rfl, ?_⟩) hH0 ?_
      rotate_left
      ·intro w hSw; (try dsimp only at hSw); go_simp
       all_goals with_reducible rfl
      try simp only [tkS, Act.put]
      refine wpAnyH_take (i := 2) (oi := _) (v := ?_) rfl (by kernel_rfl) (by kernel_rfl) (by kernel_rfl) (fun _ _ _ h => h) (Or.inl ⟨by kernel_rfl, ?_⟩) hH0 ?_
      rotate_left
      ·intro w hSw; (try dsimp only at hSw); go_simp
       all_goals with_reducible rfl
      try simp only [tkS, Act.put]
      refine wpAnyH_take (i := 3) (oi := _) (v := ?_) rfl (by kernel_rfl) (by kernel_rfl) (by kernel_rfl) (fun _ _ _ h => h) (Or.inl ⟨by kernel_rfl, ?_⟩) hH0 ?_
      rotate_left
      ·intro w hSw; (try dsimp only at hSw); go_simp
       all_goals with_reducible rfl
      try simp only [tkS, Act.put]
      refine wpAnyH_take (i := 4) (oi := _) (v := ?_) rfl (by kernel_rfl) (by kernel_rfl) (by kernel_rfl) (fun _ _ _ h => h) (Or.inl ⟨by kernel_rfl, ?_⟩) hH0 ?_
      rotate_left
      ·intro w hSw; (try dsimp only at hSw); go_simp
       all_goals with_reducible rfl
      try simp only [tkS, Act.put]
      refine wpAnyH_ready (rs := [5]) (by kernel_rfl) (by simp) ?_
      refine AllReadyH.cons (o := _) rfl (fun K hK => ?_) AllReadyH.nil
      go_simp
      go_at_call 29
      refine (hcall _ (by first | ((repeat (first | exact Below.refl _ _ | assumption | refine Below.drewN ?_ _ | refine Below.drew ?_ | refine Below.alloc ?_ (by first | exact Nat.le_refl _ | (simp; done) | (simp; omega) | omega) _ | refine Below.setCell ?_ (by first | exact Nat.le_refl _ | (simp; done) | (simp; omega) | omega) _ | refine Below.trans ?_ (Below.mono (by assumption) (by first | exact Nat.le_refl _ | (simp; done) | (simp; omega) | omega)))); done) | fail)).mono ?_
      unfold ClW
      rintro e w5 ⟨v5, rfl, ho5, hb5⟩
      have HB5 : Hid (Below wr.heap.size wr w5) := Lib.hid (by exact (by first | ((repeat (first | exact Below.refl _ _ | assumption | refine Below.drewN ?_ _ | refine Below.drew ?_ | refine Below.alloc ?_ (by first | exact Nat.le_refl _ | (simp; done) | (simp; omega) | omega) _ | refine Below.setCell ?_ (by first | exact Nat.le_refl _ | (simp; done) | (simp; omega) | omega) _ | refine Below.trans ?_ (Below.mono (by assumption) (by first | exact Nat.le_refl _ | (simp; done) | (simp; omega) | omega)))); done) | fail))
      have HO5 := Lib.hid ho5
      obtain ⟨a5, c5, rfl, -⟩ := list_inv ho5.is
      go_wp2_with fail
      refine hK.out _ _ ?_ (fun hH1 => ?_)
      ·exact ⟨kept HB5.out f0, kept HB5.out f1, kept HB5.out f2, kept HB5.out f3, kept HB5.out y0⟩
      try simp only [tkS, Act.put]
      clear hK K
      refine wpAnyH_take (i := 6) (oi := _) (v := ?_) rfl (by kernel_rfl) (by kernel_rfl) (by kernel_rfl) (fun _ _ _ h => h) (Or.inl ⟨by kernel_rfl, ?_⟩) hH1 ?_
      rotate_left
      ·intro w hSw; (try dsimp only at hSw); go_simp
       all_goals with_reducible rfl
      try simp only [tkS, Act.put]
      refine wpAnyH_take (i := 7) (oi := _) (v := ?_) rfl (by kernel_rfl) (by kernel_rfl) (by kernel_rfl) (fun _ _ _ h => h) (Or.inl ⟨by kernel_rfl, ?_⟩) hH1 ?_
      rotate_left
      ·intro w hSw; (try dsimp only at hSw); go_simp
       all_goals with_reducible rfl
      try simp only [tkS, Act.put]
      refine wpAnyH_take (i := 8) (oi := _) (v := ?_) rfl (by kernel_rfl) (by kernel_rfl) (by kernel_rfl) (fun _ _ _ h => h) (Or.inl ⟨by kernel_rfl, ?_⟩) hH1 ?_
      rotate_left
      ·intro w hSw; (try dsimp only at hSw); go_simp
       all_goals with_reducible rfl
      try simp only [tkS, Act.put]
      refine wpAnyH_take (i := 9) (oi := _) (v := ?_) rfl (by kernel_rfl) (by kernel_rfl) (by kernel_rfl) (fun _ _ _ h => h) (Or.inl ⟨by kernel_rfl, ?_⟩) hH1 ?_
      rotate_left
      ·intro w hSw; (try dsimp only at hSw); go_simp
       all_goals with_reducible rfl
      try simp only [tkS, Act.put]
      refine wpAnyH_take (i := 10) (oi := _) (v := ?_) rfl (by kernel_rfl) (by kernel_rfl) (by kernel_rfl) (fun _ _ _ h => h) (Or.inl ⟨by kernel_rfl, ?_⟩) hH1 ?_
      rotate_left
      ·intro w hSw; (try dsimp only at hSw); go_simp
       all_goals with_reducible rfl
      try simp only [tkS, Act.put]
      refine wpAnyH_done (by kernel_rfl) ?_ _
      go_wp2
      go_ret2
      exact ⟨by rw [HF2.out, HQ.out, HT.out]; rfl, HBV.out.trans (HB5.out.mono HBV.out.size)⟩
     have HT2 : Hid (clausesP c x = (clausesA c x, 0)) := by show _ = _; rw [HP.out, q]; rfl
     have HS : Hid (allE c ys = allE c (ys.drop (i + 1))) := HEN.out q
     rw [HT2.out] at hcall
     clear hex HP HEN
     subst q
     have HLB : Hid (((ys.take i).map (clausesA c)).length ≤ 1000000000) := by
      show _ ≤ _
      rw [List.length_map, List.length_take, HLY.out]; have := HBO.out.2.2.1; have := HBO.out.2.2.2; have := HLX.out; have := HLY.out; omega
     generalize hca : clausesA c x = ca at *
     have HCA := Lib.hid hca
     clear hca
     go_wp2
     refine wp_region_held_drew (S := (fun w' : World => w'.cell? ⟨w.heap.size, 0, none⟩ = some (.slice a0 N0 c0) ∧ w'.cell? ⟨w.heap.size, 1, none⟩ = some (.slice a1 N1 c1) ∧ w'.cell? ⟨w.heap.size, 2, none⟩ = some (.slice a2 N2 c2) ∧ w'.cell? ⟨w.heap.size, 3, none⟩ = some (.slice a3 N3 c3) ∧ w'.cell? ⟨b, off + i, none⟩ = some (.slice ax x.length cx))) (by kernel_rfl) (by exact ⟨f0, f1, f2, f3, y0⟩) (fun hH0 => ?_)
     refine wpAnyH_take (i := 0) (oi := _) (v := ?_) rfl (by kernel_rfl) (by kernel_rfl) (by kernel_rfl) (fun _ _ _ h => h) (Or.inl ⟨by kernel_rfl, ?_⟩) hH0 ?_
     rotate_left
     ·intro w hSw; (try dsimp only at hSw); go_simp
      all_goals with_reducible rfl
     try simp only [tkS, Act.put]
     refine wpAnyH_take (i := 1) (oi := _) (v := ?_) rfl (by kernel_rfl) (by kernel_rfl) (by kernel_rfl) (fun _ _ _ h => h) (Or.inl ⟨by kernel_rfl, ?_⟩) hH0 ?_
     rotate_left
     ·intro w hSw; (try dsimp only at hSw); go_simp
      all_goals with_reducible rfl
     try simp only [tkS, Act.put]
     refine wpAnyH_take (i := 2) (oi := _) (v := ?_) rfl (by kernel_rfl) (by kernel_rfl) (by kernel_rfl) (fun _ _ _ h => h) (Or.inl ⟨by kernel_rfl, ?_⟩) hH0 ?_
     rotate_left
     ·intro w hSw; (try dsimp only at hSw); go_simp
      all_goals with_reducible rfl
     try simp only [tkS, Act.put]
     refine wpAnyH_take (i := 3) (oi := _) (v := ?_) rfl (by kernel_rfl) (by kernel_rfl) (by kernel_rfl) (fun _ _ _ h => h) (Or.inl ⟨by kernel_rfl, ?_⟩) hH0 ?_
     rotate_left
     ·intro w hSw; (try dsimp only at hSw); go_simp
      all_goals with_reducible rfl
     try simp only [tkS, Act.put]
     refine wpAnyH_take (i := 4) (oi := _) (v := ?_) rfl (by kernel_rfl) (by kernel_rfl) (by kernel_rfl) (fun _ _ _ h => h) (Or.inl ⟨by kernel_rfl, ?_⟩) hH0 ?_
     rotate_left
     ·intro w hSw; (try dsimp only at hSw); go_simp
      all_goals with_reducible rfl
     try simp only [tkS, Act.put]
     refine wpAnyH_ready (rs := [5]) (by kernel_rfl) (by simp) ?_
     refine AllReadyH.cons (o := _) rfl (fun K hK => ?_) AllReadyH.nil
     go_simp
     go_at_call 29
     refine (hcall _ (by first | ((repeat (first | exact Below.refl _ _ | assumption | refine Below.drewN ?_ _ | refine Below.drew ?_ | refine Below.alloc ?_ (by first | exact Nat.le_refl _ | (simp; done) | (simp; omega) | omega) _ | refine Below.setCell ?_ (by first | exact Nat.le_refl _ | (simp; done) | (simp; omega) | omega) _ | refine Below.trans ?_ (Below.mono (by assumption) (by first | exact Nat.le_refl _ | (simp; done) | (simp; omega) | omega)))); done) | fail)).mono ?_
     unfold ClW
     rintro e w5 ⟨v5, rfl, ho5, hb5⟩
     have HB5 : Hid (Below wr.heap.size wr w5) := Lib.hid (by exact (by first | ((repeat (first | exact Below.refl _ _ | assumption | refine Below.drewN ?_ _ | refine Below.drew ?_ | refine Below.alloc ?_ (by first | exact Nat.le_refl _ | (simp; done) | (simp; omega) | omega) _ | refine Below.setCell ?_ (by first | exact Nat.le_refl _ | (simp; done) | (simp; omega) | omega) _ | refine Below.trans ?_ (Below.mono (by assumption) (by first | exact Nat.le_refl _ | (simp; done) | (simp; omega) | omega)))); done) | fail))
     have HO5 := Lib.hid ho5
     obtain ⟨a5, c5, rfl, -⟩ := list_inv ho5.is
     go_wp2_with fail
     refine hK.out _ _ ?_ (fun hH1 => ?_)
     ·exact ⟨kept HB5.out f0, kept HB5.out f1, kept HB5.out f2, kept HB5.out f3, kept HB5.out y0⟩
     try simp only [tkS, Act.put]
     clear hK K
     refine wpAnyH_take (i := 6) (oi := _) (v := ?_) rfl (by kernel_rfl) (by kernel_rfl) (by kernel_rfl) (fun _ _ _ h => h) (Or.inl ⟨by kernel_rfl, ?_⟩) hH1 ?_
     rotate_left
     ·intro w hSw; (try dsimp only at hSw); go_simp
      all_goals with_reducible rfl
     try simp only [tkS, Act.put]
     refine wpAnyH_take (i := 7) (oi := _) (v := ?_) rfl (by kernel_rfl) (by kernel_rfl) (by kernel_rfl) (fun _ _ _ h => h) (Or.inl ⟨by kernel_rfl, ?_⟩) hH1 ?_
     rotate_left
     ·intro w hSw; (try dsimp only at hSw); go_simp
      all_goals with_reducible rfl
     try simp only [tkS, Act.put]
     refine wpAnyH_take (i := 8) (oi := _) (v := ?_) rfl (by kernel_rfl) (by kernel_rfl) (by kernel_rfl) (fun _ _ _ h => h) (Or.inl ⟨by kernel_rfl, ?_⟩) hH1 ?_
     rotate_left
     ·intro w hSw; (try dsimp only at hSw); go_simp
      all_goals with_reducible rfl
     try simp only [tkS, Act.put]
     refine wpAnyH_take (i := 9) (oi := _) (v := ?_) rfl (by kernel_rfl) (by kernel_rfl) (by kernel_rfl) (fun _ _ _ h => h) (Or.inl ⟨by kernel_rfl, ?_⟩) hH1 ?_
     rotate_left
     ·intro w hSw; (try dsimp only at hSw); go_simp
      all_goals with_reducible rfl
     try simp only [tkS, Act.put]
     refine wpAnyH_take (i := 10) (oi := _) (v := ?_) rfl (by kernel_rfl) (by kernel_rfl) (by kernel_rfl) (fun _ _ _ h => h) (Or.inl ⟨by kernel_rfl, ?_⟩) hH1 ?_
     rotate_left
     ·intro w hSw; (try dsimp only at hSw); go_simp
      all_goals with_reducible rfl
     try simp only [tkS, Act.put]
     refine wpAnyH_done (by kernel_rfl) ?_ _
     have HOB := Lib.hid (HO.out.below HB5.out)
     have hs5 : wr.heap.size ≤ w5.heap.size := HB5.out.size
     clear HO
     go_wp2_with (at_builtin; go_loud (refine app_clsW rfl _ _ rfl w.heap.size w2.heap.size (by omega) _ _ rfl HOB.out ca ?cx ?c1 ?c2 ?c3 ?_))
     case cx => show Value.slice (some ⟨w5.heap.size, 0, none⟩) 1 1 = _; simp
     case c1 => intro w'' hA; exact ((HO5.out.below (by first | ((repeat (first | exact Below.refl _ _ | assumption | refine Below.drewN ?_ _ | refine Below.drew ?_ | refine Below.alloc ?_ (by first | exact Nat.le_refl _ | (simp; done) | (simp; omega) | omega) _ | refine Below.setCell ?_ (by first | exact Nat.le_refl _ | (simp; done) | (simp; omega) | omega) _ | refine Below.trans ?_ (Below.mono (by assumption) (by first | exact Nat.le_refl _ | (simp; done) | (simp; omega) | omega)))); done) | fail)).other hA (fun t ht => .inr ht) (by decide)).is
     case c2 => first | exact HLB.out | (have := HLB.out; simp at this; omega)
     case c3 => omega
     intro v3 w3 ho3 hb3
     have HB3 : Hid (Below w2.heap.size w2 w3) := (HB.out.trans (HB5.out.mono hz1)).trans hb3
     have HO3 := Lib.hid ho3
     clear ho3 hb3 HOB HO5
     go_wp2
     go_roundw
     case rel =>
      refine ⟨i + 1, by omega, by go_num, HB3, ?_, HS⟩
      show OwnW _ _ _ _ _ _ _
      rw [take_at HX.out, List.map_append, List.map_cons, List.map_nil, HCA.out]
      first | exact HO3.out | (rw [List.map_take]; exact HO3.out)
     case measure => simp [intOf]; omega
    ·have hkz : ¬ (i : Int) < (LY : Int) := by omega
     have HT : Hid (allE c ys = 0) := by
      show _ = _
      rw [HE.out, List.drop_eq_nil_of_le (by rw [HLY.out]; omega), allE]
     have HO2 : Hid (Is wr u9 (ys.map (clausesA c))) := by
      have := HO.out.is
      rw [List.take_of_length_le (by rw [HLY.out]; omega)] at this
      exact this
     have HBV : Hid (Below w.heap.size w wr) := HBW.out.trans (HB.out.mono HBW.out.size)
     have HF3 : Hid (byP c xs ys = (byR (xs.map (clausesA c)) (ys.map (clausesA c)), 0)) := by show _ = _; rw [by_same, HF2.out, HT.out]; rfl
     obtain ⟨a7, c7, he7, hn7, hm7, hr7⟩ := list_inv HO2.out
     simp only [maxLen] at hm7
     have HR8 := Lib.hid (HR6.out.mono HB.out)
     clear HO HF2 HE HT HB hz1 hki hi HO2 HR6 HR1 HR2 E0 E1 E2 E3
     generalize xs.map (clausesA c) = CX at *
     generalize ys.map (clausesA c) = CY at *
     generalize hL7 : CY.length = L7 at he7 hn7
     subst he7
     have HL7 := Lib.hid hL7
     have HR7 := Lib.hid hr7
     have HD : Hid (byR CX CY = CX.all fun p => CY.any fun q => mildR q p) := rfl
     clear hL7 hr7
     generalize wr = w3 at *
     go_wp2
     go_loopw [16, 17, 18] (fun kv _ _ wr => ∃ k : Nat, k ≤ L6 ∧ kv = .int .i64 k ∧ Hid (Below w3.heap.size w3 wr) ∧ Hid ((CX.take k).all (fun p => CY.any fun q => mildR q p) = true)) (fun kv _ _ _ => L6 - (intOf kv).toNat)
     case atStart => exact ⟨0, by omega, rfl, Below.refl _ _, rfl⟩
     case round =>
      obtain ⟨k, hk, rfl, HB, HK⟩ := hrel
      by_cases hki : k < L6
      ·have hkz : (k : Int) < (L6 : Int) := by omega
       have hk0 : (0 : Int) ≤ (k : Int) := by omega
       obtain ⟨x, hx⟩ := get_lt (xs := CX) (k := k) (by rw [HL6.out]; exact hki)
       obtain ⟨bx, ox, rfl, hbx, ax, cx, x0', l1, l2, l3⟩ := list_at HR8.out hx
       have HX := Lib.hid hx
       have HXI : Hid (Is w3 (.slice ax x.length cx) x) := list_mk l1 l2 l3
       have HC0 := Lib.hid x0'
       clear hx x0' l1 l2 l3
       go_wp2
       go_loopw [17, 18] (fun fv j wr => ∃ (i : Nat) (f : Bool), i ≤ L7 ∧ fv = .bool f ∧ j = .int .i64 i ∧ Hid (Below w3.heap.size w3 wr) ∧ Hid (f = (CY.take i).any fun q => mildR q x)) (fun _ j _ => L7 - (intOf j).toNat)
       case atStart => exact ⟨0, false, by omega, rfl, rfl, HB, rfl⟩
       case round =>
        clear HB
        obtain ⟨i, f, hi, rfl, rfl, HB, HF⟩ := hrel
        by_cases hii : i < L7
        ·have hiz : (i : Int) < (L7 : Int) := by omega
         have hi0 : (0 : Int) ≤ (i : Int) := by omega
         obtain ⟨y, hy⟩ := get_lt (xs := CY) (k := i) (by rw [HL7.out]; exact hii)
         have HY := Lib.hid (any_snocR (fun q => mildR q x) hy)
         cases f
         case true =>
          have HT : Hid (true = (CY.take (i + 1)).any fun q => mildR q x) := by show _ = _; rw [HY.out, ← HF.out]; rfl
          clear hy
          go_wp2
          go_quiet (fail)
          go_wp2
          go_roundw
          case rel => exact ⟨i + 1, true, by omega, rfl, by go_num, Lib.hid (HB.out.drewN _), HT⟩
          case measure => simp [intOf]; omega
         case false =>
          obtain ⟨by', oy, rfl, hby, ya, yc, y0', m1, m2, m3⟩ := list_at HR7.out hy
          have HYI : Hid (Is w3 (.slice ya y.length yc) y) := list_mk m1 m2 m3
          have x0 := kept HB.out HC0.out
          have y0 := kept HB.out y0'
          have hsx := cell_lt x0
          have hsy := cell_lt y0
          have hcall := fun W (hb : Below wr.heap.size wr W) => milder34_ref W (.slice ya y.length yc) (.slice ax x.length cx) y x ((HYI.out.mono HB.out).mono hb) ((HXI.out.mono HB.out).mono hb)
          have HT : Hid (mildR y x = (CY.take (i + 1)).any fun q => mildR q x) := by show _ = _; rw [HY.out, ← HF.out]; rfl
          clear hy y0' m1 m2 m3
          generalize mildR y x = cb at hcall HT
          generalize x.length = XL at *
          generalize y.length = YL at *
          go_wp2
          refine still_tail 10 (by kernel_rfl) (by kernel_rfl) ?_
          simp only [List.take_succ_cons, List.take_zero, List.drop_succ_cons, List.drop_zero]
          repeat still_step
          refine wpStill_nil ?_
          go_wp2_with fail
          refine (hcall _ (by first | ((repeat (first | exact Below.refl _ _ | assumption | refine Below.drewN ?_ _ | refine Below.drew ?_ | refine Below.alloc ?_ (by first | exact Nat.le_refl _ | (simp; done) | (simp; omega) | omega) _ | refine Below.setCell ?_ (by first | exact Nat.le_refl _ | (simp; done) | (simp; omega) | omega) _ | refine Below.trans ?_ (Below.mono (by assumption) (by first | exact Nat.le_refl _ | (simp; done) | (simp; omega) | omega)))); done) | fail)).mono ?_
          rintro e w5 ⟨rfl, hg⟩
          have HB5 : Hid (Below w3.heap.size w3 w5) := HB.out.trans (((Below.refl wr.heap.size wr).drew.trans hg).mono HB.out.size)
          clear hg hcall x0 y0
          go_wp2
          go_roundw
          case rel => exact ⟨i + 1, cb, by omega, rfl, by go_num, HB5, HT⟩
          case measure => simp [intOf]; omega
        ·have hiz : ¬ (i : Int) < (L7 : Int) := by omega
         have HFF : Hid (f = CY.any fun q => mildR q x) := by
          have := HF.out
          rw [List.take_of_length_le (by rw [HL7.out]; omega)] at this; exact this
         cases f
         case false =>
          have HE : Hid (byR CX CY = false) := by show _ = _; rw [HD.out, all_missB HX.out HFF.out.symm]
          go_wp2
          go_ret2
          exact ⟨by (rw [HF3.out, HE.out]; first | done | rfl), HBV.out.trans (HB.out.mono HBV.out.size)⟩
         case true =>
          have HT : Hid ((CX.take (k + 1)).all (fun p => CY.any fun q => mildR q p) = true) := by show _ = _; rw [all_snocB _ HX.out, HK.out, ← HFF.out]; rfl
          go_wp2
          go_roundw
          case rel => exact ⟨k + 1, by omega, by go_num, HB, HT⟩
          case measure => simp [intOf]; omega
      ·have hkz : ¬ (k : Int) < (L6 : Int) := by omega
       have HE : Hid (byR CX CY = true) := by show _ = _; rw [HD.out, all_endR HK.out (by rw [HL6.out]; exact hki)]
       go_wp2
       go_ret2
       exact ⟨by (rw [HF3.out, HE.out]; first | done | rfl), HBV.out.trans (HB.out.mono HBV.out.size)⟩
end Go.Proofs.YtoemmpfcnpdblaaGreatDoor
