/- The reference's Either and Both (printed by gen/eitu.py). -/
import Derived.Test.YtaaobpicaaeiiaaGreatDoorJAEU
import Derived.Test.YtaaobpicaaeiiaaGreatDoorJDecU
import Derived.Test.YtaaobpicaaeiiaaGreatDoorJRfM
import Derived.Test.YtaaobpicaaeiiaaGreatDoorJBothP
set_option linter.all false
namespace Go.Proofs.YtaaobpicaaeiiaaGreatDoor
open Go Go.RowKit Go.ChangeShapes Go.Sort Go.Lib

theorem limited_big (l : List (List Term)) : limitedP l = if bigA l then ([], 10) else (l, 0) := by
 unfold limitedP sizedP bigA
 cases l.any fun a => decide ((64 : Int) < a.length)
 ·cases decide ((64 : Int) < l.length) <;> rfl
 ·rw [Bool.or_true]; rfl
set_option maxRecDepth 100000 in
set_option maxHeartbeats 4000000 in
theorem EitherR_ref (w : World) (v u : Value) (xs ys : List (List Term)) (h : Is w v xs) (k : Is w u ys) :
  Calls Tryz.prog 33 #[v, u] w fun e w' => BO w.heap.size (eitherP xs ys) w e w' := by
 have HI := Lib.hid h
 have HJ := Lib.hid k
 have HC1 := CheckR_ref w v xs h
 have HC2 := fun W (hb : Below w.heap.size w W) => CheckR_ref W u ys (k.mono hb)
 rw [← check_same] at HC1 HC2
 have F1 : Hid (¬ checkA xs = 0 → eitherP xs ys = ([], 1)) := fun h => by unfold eitherP badP; rw [show (checkA xs == 0) = false by simpa using h]; rfl
 have F2 : Hid (¬ checkA ys = 0 → eitherP xs ys = ([], 1)) := fun h => by unfold eitherP badP; rw [show (checkA ys == 0) = false by simpa using h]; simp
 have F3 : Hid (checkA xs = 0 → checkA ys = 0 → eitherP xs ys = if bigA (minimalP (xs ++ ys)) then ([], 10) else (minimalP (xs ++ ys), 0)) := fun h k => by unfold eitherP badP; rw [h, k, limited_big]; rfl
 obtain ⟨a, c, rfl, -⟩ := list_inv h
 obtain ⟨b, d, rfl, -⟩ := list_inv k
 clear h k
 generalize eitherP xs ys = r at *
 generalize hN : xs.length = N at *
 generalize hM : ys.length = M at *
 have HNM := Lib.hid (And.intro hN hM)
 clear hN hM
 by_cases q1 : checkA xs = 0
 case neg =>
  obtain rfl := F1.out q1
  have q : (checkA xs != 0) = true := by simpa using q1
  clear q1 F2 F3 F1
  generalize checkA xs = c1 at *
  go_enter Tryz.func33, Tryz.ntmps33
  go_wp2_with fail
  refine HC1.mono ?_
  rintro e w1 ⟨rfl, hb⟩
  go_wp2
  go_ret2
  exact ⟨.slice none 0 0, rfl, OwnZ.nil _ _ _, hb⟩
 by_cases q2 : checkA ys = 0
 case neg =>
  obtain rfl := F2.out q2
  have q : (checkA ys != 0) = true := by simpa using q2
  rw [q1] at HC1
  clear q1 q2 F2 F3 F1
  generalize checkA ys = c1 at *
  go_enter Tryz.func33, Tryz.ntmps33
  go_wp2_with fail
  refine HC1.mono ?_
  rintro e w1 ⟨rfl, hb⟩
  go_wp2_with fail
  refine (HC2 _ hb).mono ?_
  rintro e w2 ⟨rfl, hb2⟩
  go_wp2
  go_ret2
  exact ⟨.slice none 0 0, rfl, OwnZ.nil _ _ _, hb.trans (hb2.mono hb.size)⟩
 have HF := Lib.hid (F3.out q1 q2)
 have HS1 := Lib.hid (check_sizes q1)
 have HS2 := Lib.hid (check_sizes q2)
 rw [q1] at HC1
 rw [q2] at HC2
 clear q1 q2 F1 F2 F3
 go_enter Tryz.func33, Tryz.ntmps33
 go_wp2_with fail
 refine HC1.mono ?_
 rintro e w1 ⟨rfl, hb⟩
 go_wp2_with fail
 refine (HC2 _ hb).mono ?_
 rintro e w2 ⟨rfl, hb2⟩
 have HB2 : Hid (Below w.heap.size w w2) := hb.trans (hb2.mono hb.size)
 clear HC1 HC2 hb hb2
 have hcall := either_ref w2 _ _ xs ys (HI.out.mono HB2.out) (HJ.out.mono HB2.out) (fun x hx => by have := HS1.out.2 x hx; omega) (fun x hx => by have := HS2.out.2 x hx; omega) (by have := HS1.out.1; have := HS2.out.1; omega)
 generalize minimalP (xs ++ ys) = m at *
 go_wp2_with fail
 refine hcall.mono ?_
 unfold MO
 rintro e w3 ⟨v3, rfl, ho3, hb3⟩
 have HB3 : Hid (Below w.heap.size w w3) := HB2.out.trans (hb3.mono HB2.out.size)
 have HO3 := Lib.hid (ho3.weaken HB2.out.size)
 have hlg := large_ref w3 _ m ho3.is
 obtain ⟨a3, c3, rfl, -⟩ := list_inv ho3.is
 clear hcall ho3 hb3
 generalize m.length = L3 at *
 generalize bigA m = bg at *
 go_wp2_with fail
 refine hlg.mono ?_
 rintro e w4 ⟨rfl, rfl⟩
 cases bg
 case true =>
  obtain rfl := HF.out
  go_wp2
  go_ret2
  exact ⟨.slice none 0 0, rfl, OwnZ.nil _ _ _, HB3.out⟩
 case false =>
  obtain rfl := HF.out
  go_wp2
  go_ret2
  exact ⟨_, rfl, HO3.out, HB3.out⟩
set_option maxRecDepth 100000 in
set_option maxHeartbeats 4000000 in
theorem BothR_ref (w : World) (v u : Value) (xs ys : List (List Term)) (h : Is w v xs) (k : Is w u ys) :
  Calls Tryz.prog 34 #[v, u] w fun e w' => BO w.heap.size (bothP xs ys) w e w' := by
 have HI := Lib.hid h
 have HJ := Lib.hid k
 have HC1 := CheckR_ref w v xs h
 have HC2 := fun W (hb : Below w.heap.size w W) => CheckR_ref W u ys (k.mono hb)
 rw [← check_same] at HC1 HC2
 have F1 : Hid (¬ checkA xs = 0 → bothP xs ys = ([], 1)) := fun h => by unfold bothP badP; rw [show (checkA xs == 0) = false by simpa using h]; rfl
 have F2 : Hid (¬ checkA ys = 0 → bothP xs ys = ([], 1)) := fun h => by unfold bothP badP; rw [show (checkA ys == 0) = false by simpa using h]; simp
 have F3 : Hid (checkA xs = 0 → checkA ys = 0 → bothP xs ys = if bigA (minimalP (pairsA xs ys)) then ([], 10) else (minimalP (pairsA xs ys), 0)) := fun h k => by unfold bothP badP; rw [h, k, limited_big]; rfl
 obtain ⟨a, c, rfl, -⟩ := list_inv h
 obtain ⟨b, d, rfl, -⟩ := list_inv k
 clear h k
 generalize bothP xs ys = r at *
 generalize hN : xs.length = N at *
 generalize hM : ys.length = M at *
 have HNM := Lib.hid (And.intro hN hM)
 clear hN hM
 by_cases q1 : checkA xs = 0
 case neg =>
  obtain rfl := F1.out q1
  have q : (checkA xs != 0) = true := by simpa using q1
  clear q1 F2 F3 F1
  generalize checkA xs = c1 at *
  go_enter Tryz.func34, Tryz.ntmps34
  go_wp2_with fail
  refine HC1.mono ?_
  rintro e w1 ⟨rfl, hb⟩
  go_wp2
  go_ret2
  exact ⟨.slice none 0 0, rfl, OwnZ.nil _ _ _, hb⟩
 by_cases q2 : checkA ys = 0
 case neg =>
  obtain rfl := F2.out q2
  have q : (checkA ys != 0) = true := by simpa using q2
  rw [q1] at HC1
  clear q1 q2 F2 F3 F1
  generalize checkA ys = c1 at *
  go_enter Tryz.func34, Tryz.ntmps34
  go_wp2_with fail
  refine HC1.mono ?_
  rintro e w1 ⟨rfl, hb⟩
  go_wp2_with fail
  refine (HC2 _ hb).mono ?_
  rintro e w2 ⟨rfl, hb2⟩
  go_wp2
  go_ret2
  exact ⟨.slice none 0 0, rfl, OwnZ.nil _ _ _, hb.trans (hb2.mono hb.size)⟩
 have HF := Lib.hid (F3.out q1 q2)
 have HS1 := Lib.hid (check_sizes q1)
 have HS2 := Lib.hid (check_sizes q2)
 rw [q1] at HC1
 rw [q2] at HC2
 clear q1 q2 F1 F2 F3
 go_enter Tryz.func34, Tryz.ntmps34
 go_wp2_with fail
 refine HC1.mono ?_
 rintro e w1 ⟨rfl, hb⟩
 go_wp2_with fail
 refine (HC2 _ hb).mono ?_
 rintro e w2 ⟨rfl, hb2⟩
 have HB2 : Hid (Below w.heap.size w w2) := hb.trans (hb2.mono hb.size)
 clear HC1 HC2 hb hb2
 have hcall := both_ref w2 _ _ xs ys (HI.out.mono HB2.out) (HJ.out.mono HB2.out) (fun x hx => by have := HS1.out.2 x hx; omega) (fun x hx => by have := HS2.out.2 x hx; omega) (by have := HS1.out.1; omega) (by have := HS2.out.1; omega)
 generalize minimalP (pairsA xs ys) = m at *
 go_wp2_with fail
 refine hcall.mono ?_
 unfold MO
 rintro e w3 ⟨v3, rfl, ho3, hb3⟩
 have HB3 : Hid (Below w.heap.size w w3) := HB2.out.trans (hb3.mono HB2.out.size)
 have HO3 := Lib.hid (ho3.weaken HB2.out.size)
 have hlg := large_ref w3 _ m ho3.is
 obtain ⟨a3, c3, rfl, -⟩ := list_inv ho3.is
 clear hcall ho3 hb3
 generalize m.length = L3 at *
 generalize bigA m = bg at *
 go_wp2_with fail
 refine hlg.mono ?_
 rintro e w4 ⟨rfl, rfl⟩
 cases bg
 case true =>
  obtain rfl := HF.out
  go_wp2
  go_ret2
  exact ⟨.slice none 0 0, rfl, OwnZ.nil _ _ _, HB3.out⟩
 case false =>
  obtain rfl := HF.out
  go_wp2
  go_ret2
  exact ⟨_, rfl, HO3.out, HB3.out⟩
end Go.Proofs.YtaaobpicaaeiiaaGreatDoor
