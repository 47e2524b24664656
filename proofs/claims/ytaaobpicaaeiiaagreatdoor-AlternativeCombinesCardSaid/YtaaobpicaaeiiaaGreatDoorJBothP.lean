/- alternative.limited, Both, Either. -/
import Derived.Test.YtaaobpicaaeiiaaGreatDoorJCmpU
import Derived.Test.YtaaobpicaaeiiaaGreatDoorJEntU
import Derived.Test.YtaaobpicaaeiiaaGreatDoorJPairU
set_option linter.all false
namespace Go.Proofs.YtaaobpicaaeiiaaGreatDoor
open Go Go.RowKit Go.ChangeShapes Go.Sort Go.Lib

theorem ok_small {xs : List (List Term)} (h : checkA xs = 0) : xs.length ≤ 64 ∧ ∀ x ∈ xs, x.length ≤ 64 := by
 have h2 := (checkA_ok.1 h).2
 unfold bigA at h2
 rw [Bool.or_eq_false_iff, List.any_eq_false] at h2
 refine ⟨by have := of_decide_eq_false h2.1; omega, fun x hx => ?_⟩
 have := h2.2 x hx
 simp at this; omega
theorem pairsA_small {xs ys : List (List Term)} (h : ∀ x ∈ xs, x.length ≤ 64) (k : ∀ y ∈ ys, y.length ≤ 64) : ∀ z ∈ pairsA xs ys, z.length ≤ 1000000 := by
 intro z hz
 unfold pairsA at hz
 obtain ⟨x, hx, hz⟩ := List.mem_flatMap.1 hz
 obtain ⟨y, hy, rfl⟩ := List.mem_map.1 hz
 have := h x hx
 have := k y hy
 rw [List.length_append]; omega
set_option maxRecDepth 100000 in
set_option maxHeartbeats 1000000 in
theorem limited1_p (w : World) (v : Value) (xs : List Term) (h : Is w v xs) :
  Calls Tryz.prog 133 #[v] w fun e w' => e = .returned (.bool (decide ((64 : Int) < xs.length))) ∧ Below w.heap.size w w' := by
 obtain ⟨a, c, rfl, hnc, hcm, hr⟩ := list_inv h
 simp only [maxLen] at hcm
 clear hr h
 generalize xs.length = N at *
 go_enter Tryz.func133, Tryz.ntmps133
 go_wp2
 go_ret
 exact ⟨rfl, Below.refl _ _⟩
def BO (B : Nat) (r : List (List Term) × Int) (w : World) (e : Ending) (w' : World) : Prop := ∃ v, e = .returned (.tuple #[v, .int .i64 r.2]) ∧ OwnZ B 44 w' v r.1 ∧ Below w.heap.size w w'
set_option maxRecDepth 100000 in
set_option maxHeartbeats 2000000 in
theorem limited_p {B : Nat} {w : World} {v : Value} {xs : List (List Term)} (h : OwnZ B 44 w v xs) :
  Calls Tryz.prog 80 #[v] w fun e w' => BO B (limitedP xs) w e w' := by
 obtain ⟨a, c, rfl, -⟩ := list_inv h.is
 have eg1 : ∀ args w, (callFunc 133 args).run Tryz.prog w = .ok (.enter 133 args) w := enters_of Tryz.func133 (by kernel_rfl) rfl
 have hcall := ContainsFuncAlt w (.slice a xs.length c) xs (fun a => decide ((64 : Int) < a.length)) 133 #[] eg1 h.is (fun i x _ W v _ hv => limited1_p W v x hv)
 have HP : Hid (limitedP xs = if xs.any (fun a => decide ((64 : Int) < a.length)) then ([], 10) else sizedP xs) := rfl
 have HO := Lib.hid h
 clear h eg1
 generalize (xs.any fun a => decide ((64 : Int) < a.length)) = bb at *
 generalize xs.length = N at *
 cases bb
 case true =>
  go_enter Tryz.func80, Tryz.ntmps80
  go_wp2_with fail
  refine hcall.mono ?_
  rintro e w1 ⟨rfl, hb⟩
  go_wp2
  go_ret2
  exact ⟨.slice none 0 0, by rw [HP.out]; rfl, by rw [HP.out]; exact OwnZ.nil _ _ _, hb⟩
 case false =>
  go_enter Tryz.func80, Tryz.ntmps80
  go_wp2_with fail
  refine hcall.mono ?_
  rintro e w1 ⟨rfl, hb⟩
  have hcall2 := sized_p (HO.out.below hb)
  have HQ : Hid (limitedP xs = sizedP xs) := by show _ = _; rw [HP.out]; rfl
  obtain ⟨r, hr⟩ : ∃ r, r = sizedP xs := ⟨_, rfl⟩
  rw [← hr] at hcall2 HQ
  clear hr HP
  go_wp2_with fail
  refine hcall2.mono ?_
  rintro e w2 ⟨v2, rfl, ho, rfl⟩
  obtain ⟨a2, c2, rfl, -⟩ := list_inv ho.is
  have HO2 := Lib.hid ho
  obtain ⟨r1, r2⟩ := r
  simp only at HO2
  clear ho hcall2
  generalize hSL : r1.length = SL at *
  have HSL := Lib.hid hSL
  clear hSL
  go_wp2
  go_ret2
  exact ⟨.slice a2 SL c2, by rw [HQ.out]; rfl, by rw [HQ.out]; exact HO2.out, hb⟩
set_option maxRecDepth 100000 in
set_option maxHeartbeats 4000000 in
theorem Both_p (w : World) (v u : Value) (xs ys : List (List Term)) (h : Is w v xs) (k : Is w u ys) :
  Calls Tryz.prog 31 #[v, u] w fun e w' => BO w.heap.size (bothP xs ys) w e w' := by
 have HI := Lib.hid h
 have HJ := Lib.hid k
 have HC1 := CheckA_p w v xs h
 have HC2 := fun W (hb : Below w.heap.size w W) => CheckA_p W u ys (k.mono hb)
 have F1 : Hid (¬ checkA xs = 0 → bothP xs ys = ([], 1)) := fun h => by unfold bothP badP; rw [show (checkA xs == 0) = false by simpa using h]; rfl
 have F2 : Hid (¬ checkA ys = 0 → bothP xs ys = ([], 1)) := fun h => by unfold bothP badP; rw [show (checkA ys == 0) = false by simpa using h]; simp
 have F3 : Hid (checkA xs = 0 → checkA ys = 0 → bothP xs ys = limitedP (minimalP (pairsA xs ys))) := fun h k => by unfold bothP badP; rw [h, k]; rfl
 obtain ⟨a, c, rfl, -⟩ := list_inv h
 obtain ⟨b, d, rfl, -⟩ := list_inv k
 clear h k
 generalize bothP xs ys = r at *
 generalize hN : xs.length = N at *
 generalize hM : ys.length = M at *
 have HNM := Lib.hid (And.intro hN hM)
 clear hN hM
 by_cases q1 : checkA xs = 0
 case neg =>
  obtain rfl := F1.out q1
  have q : (checkA xs != 0) = true := by simpa using q1
  clear q1 F2 F3 F1
  generalize checkA xs = c1 at *
  go_enter Tryz.func31, Tryz.ntmps31
  go_wp2_with fail
  refine HC1.mono ?_
  rintro e w1 ⟨rfl, hb⟩
  go_wp2
  go_ret2
  exact ⟨.slice none 0 0, rfl, OwnZ.nil _ _ _, hb⟩
 by_cases q2 : checkA ys = 0
 case neg =>
  obtain rfl := F2.out q2
  have q : (checkA ys != 0) = true := by simpa using q2
  rw [q1] at HC1
  clear q1 q2 F2 F3 F1
  generalize checkA ys = c1 at *
  go_enter Tryz.func31, Tryz.ntmps31
  go_wp2_with fail
  refine HC1.mono ?_
  rintro e w1 ⟨rfl, hb⟩
  go_wp2_with fail
  refine (HC2 _ hb).mono ?_
  rintro e w2 ⟨rfl, hb2⟩
  go_wp2
  go_ret2
  exact ⟨.slice none 0 0, rfl, OwnZ.nil _ _ _, hb.trans (hb2.mono hb.size)⟩
 have HF := Lib.hid (F3.out q1 q2)
 have HS1 := Lib.hid (ok_small q1)
 have HS2 := Lib.hid (ok_small q2)
 rw [q1] at HC1
 rw [q2] at HC2
 clear q1 q2 F1 F2 F3
 go_enter Tryz.func31, Tryz.ntmps31
 go_wp2_with fail
 refine HC1.mono ?_
 rintro e w1 ⟨rfl, hb⟩
 go_wp2_with fail
 refine (HC2 _ hb).mono ?_
 rintro e w2 ⟨rfl, hb2⟩
 have HB2 : Hid (Below w.heap.size w w2) := hb.trans (hb2.mono hb.size)
 clear HC1 HC2 hb hb2
 have hpairs := pairsC w2 _ _ xs ys (HI.out.mono HB2.out) (HJ.out.mono HB2.out) HS1.out.1 HS2.out.1 (fun x hx => by have := HS1.out.2 x hx; omega) (fun x hx => by have := HS2.out.2 x hx; omega)
 go_wp2_with fail
 refine hpairs.mono ?_
 rintro e w2' ⟨fv, rfl, hb2', hcol⟩
 go_wp2_with fail
 refine hcol.mono ?_
 rintro e w3 ⟨v3, rfl, ho3, hb3⟩
 have HB3 : Hid (Below w.heap.size w w3) := HB2.out.trans (hb3.mono HB2.out.size)
 have hmin := Minimal_p w3 v3 (pairsA xs ys) ho3.is (pairsA_small HS1.out.2 HS2.out.2) (by rw [pairsA_len]; exact Nat.le_trans (Nat.mul_le_mul HS1.out.1 HS2.out.1) (by decide))
 obtain ⟨a3, c3, rfl, -⟩ := list_inv ho3.is
 clear ho3 hpairs hb2' hcol hb3
 generalize (pairsA xs ys).length = PL at *
 obtain ⟨lz, hlz⟩ : ∃ lz, lz = pairsA xs ys := ⟨_, rfl⟩
 rw [← hlz] at hmin HF
 clear hlz
 go_wp2_with fail
 refine hmin.mono ?_
 rintro e w4 ⟨v4, rfl, ho4, hb4⟩
 have hz : w.heap.size ≤ w3.heap.size := HB3.out.size
 have HO4 := Lib.hid (ho4.weaken hz)
 have HB4 : Hid (Below w.heap.size w w4) := HB3.out.trans (hb4.mono hz)
 obtain ⟨a4, c4, rfl, -⟩ := list_inv ho4.is
 clear ho4 hb4 hmin
 have hlim := limited_p HO4.out
 rw [← HF.out] at hlim
 generalize minimalP lz = mz at *
 generalize mz.length = LZ at *
 obtain ⟨r1, r2⟩ := r
 go_wp2_with fail
 refine hlim.mono ?_
 rintro e w5 ⟨v5, rfl, ho5, hb5⟩
 obtain ⟨a5, c5, rfl, -⟩ := list_inv ho5.is
 have HO5 := Lib.hid ho5
 have HB5 : Hid (Below w.heap.size w w5) := HB4.out.trans (hb5.mono HB4.out.size)
 simp only at HO5
 clear hlim ho5 hb5 HF
 generalize r1.length = L5 at *
 go_wp2
 go_ret2
 exact ⟨_, rfl, HO5.out, HB5.out⟩
set_option maxRecDepth 100000 in
set_option maxHeartbeats 4000000 in
theorem Either_p (w : World) (v u : Value) (xs ys : List (List Term)) (h : Is w v xs) (k : Is w u ys) :
  Calls Tryz.prog 32 #[v, u] w fun e w' => BO w.heap.size (eitherP xs ys) w e w' := by
 have HI := Lib.hid h
 have HJ := Lib.hid k
 have HC1 := CheckA_p w v xs h
 have HC2 := fun W (hb : Below w.heap.size w W) => CheckA_p W u ys (k.mono hb)
 have F1 : Hid (¬ checkA xs = 0 → eitherP xs ys = ([], 1)) := fun h => by unfold eitherP badP; rw [show (checkA xs == 0) = false by simpa using h]; rfl
 have F2 : Hid (¬ checkA ys = 0 → eitherP xs ys = ([], 1)) := fun h => by unfold eitherP badP; rw [show (checkA ys == 0) = false by simpa using h]; simp
 have F3 : Hid (checkA xs = 0 → checkA ys = 0 → eitherP xs ys = limitedP (minimalP (xs ++ ys))) := fun h k => by unfold eitherP badP; rw [h, k]; rfl
 obtain ⟨a, c, rfl, -⟩ := list_inv h
 obtain ⟨b, d, rfl, -⟩ := list_inv k
 clear h k
 generalize eitherP xs ys = r at *
 generalize hN : xs.length = N at *
 generalize hM : ys.length = M at *
 have HNM := Lib.hid (And.intro hN hM)
 clear hN hM
 by_cases q1 : checkA xs = 0
 case neg =>
  obtain rfl := F1.out q1
  have q : (checkA xs != 0) = true := by simpa using q1
  clear q1 F2 F3 F1
  generalize checkA xs = c1 at *
  go_enter Tryz.func32, Tryz.ntmps32
  go_wp2_with fail
  refine HC1.mono ?_
  rintro e w1 ⟨rfl, hb⟩
  go_wp2
  go_ret2
  exact ⟨.slice none 0 0, rfl, OwnZ.nil _ _ _, hb⟩
 by_cases q2 : checkA ys = 0
 case neg =>
  obtain rfl := F2.out q2
  have q : (checkA ys != 0) = true := by simpa using q2
  rw [q1] at HC1
  clear q1 q2 F2 F3 F1
  generalize checkA ys = c1 at *
  go_enter Tryz.func32, Tryz.ntmps32
  go_wp2_with fail
  refine HC1.mono ?_
  rintro e w1 ⟨rfl, hb⟩
  go_wp2_with fail
  refine (HC2 _ hb).mono ?_
  rintro e w2 ⟨rfl, hb2⟩
  go_wp2
  go_ret2
  exact ⟨.slice none 0 0, rfl, OwnZ.nil _ _ _, hb.trans (hb2.mono hb.size)⟩
 have HF := Lib.hid (F3.out q1 q2)
 have HS1 := Lib.hid (ok_small q1)
 have HS2 := Lib.hid (ok_small q2)
 rw [q1] at HC1
 rw [q2] at HC2
 clear q1 q2 F1 F2 F3
 go_enter Tryz.func32, Tryz.ntmps32
 go_wp2_with fail
 refine HC1.mono ?_
 rintro e w1 ⟨rfl, hb⟩
 go_wp2_with fail
 refine (HC2 _ hb).mono ?_
 rintro e w2 ⟨rfl, hb2⟩
 have HB2 : Hid (Below w.heap.size w w2) := hb.trans (hb2.mono hb.size)
 clear HC1 HC2 hb hb2
 have hcon := ConcatA_p _ _ [xs, ys] (two_box 33 (HI.out.mono HB2.out) (HJ.out.mono HB2.out) rfl) (Nat.le_of_ble_eq_true rfl) (by
  intro x hx
  simp at hx
  rcases hx with rfl | rfl
  ·have := HS1.out.1; omega
  ·have := HS2.out.1; omega)
 have hba : Below w2.heap.size w2 (w2.alloc (.cells #[.slice a N c, .slice b M d] 33)) := (by repeat (first | exact zR _ _ | assumption | refine zN ?_ _ | refine zD ?_ | refine zA ?_ ?_ _ | refine zS ?_ ?_ _ | refine zT ?_ (zM (by assumption) ?_) | exact Nat.le_refl _ | (simp <;> omega) | omega))
 have hflat : [xs, ys].flatten = xs ++ ys := by simp
 rw [hflat] at hcon
 go_wp2_with fail
 refine hcon.mono ?_
 rintro e w3 ⟨v3, rfl, ho3, hb3⟩
 have HB3 : Hid (Below w.heap.size w w3) := HB2.out.trans ((hba.trans (hb3.mono hba.size)).mono HB2.out.size)
 have hmin := Minimal_p w3 v3 (xs ++ ys) (ho3.is hb3) (by
  intro x hx
  rcases List.mem_append.1 hx with h | h
  ·have := HS1.out.2 x h; omega
  ·have := HS2.out.2 x h; omega) (by rw [List.length_append]; have := HS1.out.1; have := HS2.out.1; omega)
 obtain ⟨a3, c3, rfl, -⟩ := list_inv (ho3.is hb3)
 clear ho3 hcon hba hb3 hflat
 generalize (xs ++ ys).length = PL at *
 obtain ⟨lz, hlz⟩ : ∃ lz, lz = xs ++ ys := ⟨_, rfl⟩
 rw [← hlz] at hmin HF
 clear hlz
 go_wp2_with fail
 refine hmin.mono ?_
 rintro e w4 ⟨v4, rfl, ho4, hb4⟩
 have hz : w.heap.size ≤ w3.heap.size := HB3.out.size
 have HO4 := Lib.hid (ho4.weaken hz)
 have HB4 : Hid (Below w.heap.size w w4) := HB3.out.trans (hb4.mono hz)
 obtain ⟨a4, c4, rfl, -⟩ := list_inv ho4.is
 clear ho4 hb4 hmin
 have hlim := limited_p HO4.out
 rw [← HF.out] at hlim
 generalize minimalP lz = mz at *
 generalize mz.length = LZ at *
 obtain ⟨r1, r2⟩ := r
 go_wp2_with fail
 refine hlim.mono ?_
 rintro e w5 ⟨v5, rfl, ho5, hb5⟩
 obtain ⟨a5, c5, rfl, -⟩ := list_inv ho5.is
 have HO5 := Lib.hid ho5
 have HB5 : Hid (Below w.heap.size w w5) := HB4.out.trans (hb5.mono HB4.out.size)
 simp only at HO5
 clear hlim ho5 hb5 HF
 generalize r1.length = L5 at *
 go_wp2
 go_ret2
 exact ⟨_, rfl, HO5.out, HB5.out⟩
end Go.Proofs.YtaaobpicaaeiiaaGreatDoor
