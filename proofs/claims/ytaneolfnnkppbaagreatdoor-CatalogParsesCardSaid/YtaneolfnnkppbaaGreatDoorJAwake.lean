/- The example of the chapter, through the program. -/
import Derived.Test.YtaneolfnnkppbaaGreatDoorJLaw
import Derived.Test.YtaneolfnnkppbaaGreatDoorJReadW
import Derived.Test.YtaneolfnnkppbaaGreatDoorJFmt
set_option linter.all false
namespace Go.Proofs.YtaneolfnnkppbaaGreatDoor
open Go Go.RowKit Go.ChangeShapes
theorem Equal_p (w : World) (x0 x1 : Value) (xs ys : List ByteArray) (h : Is w x0 xs) (h1 : Is w x1 ys) :
  Calls Tryz.prog 22 #[x0, x1] w fun e w' => e = .returned (.bool (decide (xs = ys))) ∧ Below w.heap.size w w' := by
 obtain ⟨a, c, rfl, hnc, hc, hr⟩ := list_inv h
 obtain ⟨a1, c1, rfl, hnc1, hc1, hr1⟩ := list_inv h1
 unfold maxLen at hc hc1
 by_cases hne : xs.length = ys.length
 ·by_cases h0 : xs.length = 0
  ·have e0 : xs = [] := List.length_eq_zero_iff.1 h0
   have e1 : ys = [] := List.length_eq_zero_iff.1 (by omega)
   subst e0 e1
   refine (Tryz.slices_Equal_string_empty a a1 c 0 c1 w (by omega)).mono ?_
   rintro e w' ⟨rfl, rfl⟩
   exact ⟨rfl, Below.refl _ _⟩
  ·obtain ⟨x, hx⟩ := get_lt (xs := xs) (k := 0) (by omega)
   obtain ⟨y, hy⟩ := get_lt (xs := ys) (k := 0) (by omega)
   obtain ⟨b, off, rfl, -⟩ := str_at hr hx
   obtain ⟨b1, off1, rfl, -⟩ := str_at hr1 hy
   refine (Tryz.slices_Equal_string b off xs.length c b1 off1 ys.length c1 xs ys w (Nat.le_refl _) (Nat.le_refl _) (by omega) (by omega) ?_ ?_).mono ?_
   ·intro j hj
    obtain ⟨z, hz⟩ := get_lt (xs := xs) (k := j) hj
    obtain ⟨b', off', he, -, h2, -⟩ := str_at hr hz
    cases he
    rw [h2, List.getD_eq_getElem?_getD, hz]; rfl
   ·intro j hj
    obtain ⟨z, hz⟩ := get_lt (xs := ys) (k := j) hj
    obtain ⟨b', off', he, -, h2, -⟩ := str_at hr1 hz
    cases he
    rw [h2, List.getD_eq_getElem?_getD, hz]; rfl
   ·rintro e w' ⟨rfl, q, rfl⟩
    refine ⟨?_, below_drewN _ _⟩
    rw [List.take_of_length_le (Nat.le_refl _), List.take_of_length_le (Nat.le_refl _)]
 ·refine (Tryz.slices_Equal_string_lens a a1 xs.length c ys.length c1 w hne).mono ?_
  rintro e w' ⟨rfl, rfl⟩
  refine ⟨?_, Below.refl _ _⟩
  rw [decide_eq_false]
  rintro rfl
  exact hne rfl
def sShare : ByteArray := ⟨#[115, 104, 97, 114, 101]⟩
def sOpen : ByteArray := ⟨#[111, 112, 101, 110]⟩
def sLink : ByteArray := ⟨#[108, 105, 110, 107]⟩
theorem ex_later : laterC exC sShare = some [sShare] ∧ laterE exC sShare = 0 := by
 have h1 : checkC exC = 0 := ex_check
 have hm : (⟨mkS [115, 104, 97, 114, 101], mkS [115, 104, 97, 114, 101], 2, mkS []⟩ : License) ∈ exC.licenses := by simp [exC]
 have := later_find h1 hm
 rw [show (License.name ⟨mkS [115, 104, 97, 114, 101], mkS [115, 104, 97, 114, 101], 2, mkS []⟩) = sShare from rfl] at this
 refine ⟨?_, this.2⟩
 rw [this.1]
 decide +kernel
theorem ex_find : findC exC sOpen = some ⟨⟨#[111, 112, 101, 110]⟩, ⟨#[111, 112, 101, 110]⟩, 1, ⟨#[107, 101, 101, 112, 32, 116, 104, 105, 115, 32, 108, 105, 110, 101]⟩⟩ := by decide +kernel
theorem ex_clauses1 : (clausesC exC ⟨sShare, eS⟩ 1 0).length = 1 := by decide +kernel
theorem ex_clauses2 : (clausesC exC ⟨sShare, sLink⟩ 1 0).length = 0 := by decide +kernel
theorem ex_apart : apartC exC sShare sOpen = true := by decide +kernel
end Go.Proofs.YtaneolfnnkppbaaGreatDoor
namespace Go.Proofs.YtaneolfnnkppbaaGreatDoor
open Go Go.RowKit Go.ChangeShapes
set_option maxRecDepth 1000000 in
def exB : ByteArray := ⟨#[108, 105, 99, 101, 110, 115, 101, 32, 111, 112, 101, 110, 32, 111, 112, 101, 110, 32, 49, 32, 49, 10, 107, 101, 101, 112, 32, 116, 104, 105, 115, 32, 108, 105, 110, 101, 10, 108, 105, 99, 101, 110, 115, 101, 32, 115, 104, 97, 114, 101, 32, 115, 104, 97, 114, 101, 32, 50, 32, 48, 10, 101, 120, 99, 101, 112, 116, 105, 111, 110, 32, 108, 105, 110, 107, 32, 115, 104, 97, 114, 101, 32, 115, 104, 97, 114, 101, 10, 99, 108, 97, 117, 115, 101, 32, 111, 112, 101, 110, 32, 115, 111, 117, 114, 99, 101, 32, 105, 110, 32, 110, 111, 116, 105, 99, 101, 10, 99, 108, 97, 117, 115, 101, 32, 115, 104, 97, 114, 101, 32, 98, 105, 110, 97, 114, 121, 32, 105, 110, 32, 115, 104, 97, 114, 101, 32, 115, 104, 97, 114, 101, 10, 97, 112, 97, 114, 116, 32, 111, 112, 101, 110, 32, 115, 104, 97, 114, 101, 10]⟩
set_option maxRecDepth 1000000 in
theorem ex_mk : mkS exL = exB := by decide +kernel
theorem exParse (w : World) (hg : Glob w) : Calls Tryz.prog 12 #[.string ⟨#[108, 105, 99, 101, 110, 115, 101, 32, 111, 112, 101, 110, 32, 111, 112, 101, 110, 32, 49, 32, 49, 10, 107, 101, 101, 112, 32, 116, 104, 105, 115, 32, 108, 105, 110, 101, 10, 108, 105, 99, 101, 110, 115, 101, 32, 115, 104, 97, 114, 101, 32, 115, 104, 97, 114, 101, 32, 50, 32, 48, 10, 101, 120, 99, 101, 112, 116, 105, 111, 110, 32, 108, 105, 110, 107, 32, 115, 104, 97, 114, 101, 32, 115, 104, 97, 114, 101, 10, 99, 108, 97, 117, 115, 101, 32, 111, 112, 101, 110, 32, 115, 111, 117, 114, 99, 101, 32, 105, 110, 32, 110, 111, 116, 105, 99, 101, 10, 99, 108, 97, 117, 115, 101, 32, 115, 104, 97, 114, 101, 32, 98, 105, 110, 97, 114, 121, 32, 105, 110, 32, 115, 104, 97, 114, 101, 32, 115, 104, 97, 114, 101, 10, 97, 112, 97, 114, 116, 32, 111, 112, 101, 110, 32, 115, 104, 97, 114, 101, 10]⟩] w fun e w' => ∃ v, e = .returned (.tuple #[v, .int .i64 0, .int .i64 0]) ∧ Is w' v exC ∧ Below w.heap.size w w' := by
 have h := Parse_p w (mkS exL) hg (by rw [mkS_size]; decide +kernel)
 rw [ex_mk] at h
 refine h.mono ?_
 rintro e w' ⟨v, he, hi, hb⟩
 have hp := ex_parse
 rw [ex_mk] at hp
 rw [hp] at he hi
 exact ⟨v, he, hi, hb⟩
theorem exFormat (w : World) (x0 : Value) (hg : Glob w) (h : Is w x0 exC) : Calls Tryz.prog 16 #[x0] w fun e w' => e = .returned (.tuple #[.string ⟨#[108, 105, 99, 101, 110, 115, 101, 32, 111, 112, 101, 110, 32, 111, 112, 101, 110, 32, 49, 32, 49, 10, 107, 101, 101, 112, 32, 116, 104, 105, 115, 32, 108, 105, 110, 101, 10, 108, 105, 99, 101, 110, 115, 101, 32, 115, 104, 97, 114, 101, 32, 115, 104, 97, 114, 101, 32, 50, 32, 48, 10, 101, 120, 99, 101, 112, 116, 105, 111, 110, 32, 108, 105, 110, 107, 32, 115, 104, 97, 114, 101, 32, 115, 104, 97, 114, 101, 10, 99, 108, 97, 117, 115, 101, 32, 111, 112, 101, 110, 32, 115, 111, 117, 114, 99, 101, 32, 105, 110, 32, 110, 111, 116, 105, 99, 101, 10, 99, 108, 97, 117, 115, 101, 32, 115, 104, 97, 114, 101, 32, 98, 105, 110, 97, 114, 121, 32, 105, 110, 32, 115, 104, 97, 114, 101, 32, 115, 104, 97, 114, 101, 10, 97, 112, 97, 114, 116, 32, 111, 112, 101, 110, 32, 115, 104, 97, 114, 101, 10]⟩, .int .i64 0]) ∧ Below w.heap.size w w' := by
 have hf := ex_fmt
 have hc := ex_check
 have h2 := Format_p w x0 exC hg h (fun _ => by rw [hf]; decide +kernel)
 have e : formatC exC = exB := by unfold formatC; rw [hc, hf]; exact ex_mk
 rw [e, hc] at h2
 exact h2

set_option maxRecDepth 100000 in
set_option maxHeartbeats 8000000 in
theorem awake_p (w : World) (hg : Glob w) : Calls Tryz.prog 11 #[] w fun e w' => e = .returned (.bool true) ∧ Below w.heap.size w w' := by
 have HG := Lib.hid hg
 clear hg
 go_enter Tryz.func11, Tryz.ntmps11
 go_wp2_with fail
 refine (exParse w HG.out).mono ?_
 rintro e w1 ⟨v, rfl, hi, hb1⟩
 obtain ⟨a0, c0, a1, c1, a2, c2, a3, c3, rfl, -⟩ := Catalog.inv hi
 have HI := Lib.hid hi
 have HB1 := Lib.hid hb1
 have hz1 : w.heap.size ≤ w1.heap.size := hb1.size
 clear hi hb1
 generalize exC.licenses.length = m0 at *
 generalize exC.exceptions.length = m1 at *
 generalize exC.clauses.length = m2 at *
 generalize exC.apart.length = m3 at *
 go_wp2_with fail
 have HB2 : Hid (Below w1.heap.size w1 (w1.alloc (.cells #[.slice a0 m0 c0, .slice a1 m1 c1, .slice a2 m2 c2, .slice a3 m3 c3] 28))) := by show Below _ _ _; exact (by first | ((repeat (first | exact Below.refl _ _ | assumption | refine Below.drewN ?_ _ | refine Below.drew ?_ | refine Below.alloc ?_ (by first | exact Nat.le_refl _ | (simp; done) | (simp; omega) | omega) _ | refine Below.setCell ?_ (by first | exact Nat.le_refl _ | (simp; done) | (simp; omega) | omega) _ | refine Below.trans ?_ (Below.mono (by assumption) (by first | exact Nat.le_refl _ | (simp; done) | (simp; omega) | omega)))); done) | fail)
 have d0 : (w1.alloc (.cells #[.slice a0 m0 c0, .slice a1 m1 c1, .slice a2 m2 c2, .slice a3 m3 c3] 28)).cell? ⟨w1.heap.size, 0, none⟩ = some (.slice a0 m0 c0) := by simp
 have d1 : (w1.alloc (.cells #[.slice a0 m0 c0, .slice a1 m1 c1, .slice a2 m2 c2, .slice a3 m3 c3] 28)).cell? ⟨w1.heap.size, 1, none⟩ = some (.slice a1 m1 c1) := by simp
 have d2 : (w1.alloc (.cells #[.slice a0 m0 c0, .slice a1 m1 c1, .slice a2 m2 c2, .slice a3 m3 c3] 28)).cell? ⟨w1.heap.size, 2, none⟩ = some (.slice a2 m2 c2) := by simp
 have d3 : (w1.alloc (.cells #[.slice a0 m0 c0, .slice a1 m1 c1, .slice a2 m2 c2, .slice a3 m3 c3] 28)).cell? ⟨w1.heap.size, 3, none⟩ = some (.slice a3 m3 c3) := by simp
 have HI2 := Lib.hid (HI.out.mono HB2.out)
 have HB := Lib.hid (HB1.out.trans (HB2.out.mono hz1))
 generalize w1.alloc (.cells #[.slice a0 m0 c0, .slice a1 m1 c1, .slice a2 m2 c2, .slice a3 m3 c3] 28) = w2 at *
 have HG2 := Lib.hid (HG.out.mono HB.out)
 have l2 : w1.heap.size < w2.heap.size := cell_lt d0
 clear HB1 HB2 HI HG hz1
 refine (exFormat w2 _ HG2.out HI2.out).mono ?_
 rintro e w3 ⟨rfl, hb⟩
 have e0 := kept hb d0
 have e1 := kept hb d1
 have e2 := kept hb d2
 have e3 := kept hb d3
 have HI3 := Lib.hid (HI2.out.mono hb)
 have HB3 := Lib.hid (HB.out.trans (hb.mono HB.out.size))
 have HG3 := Lib.hid (HG2.out.mono hb)
 have l3 : w1.heap.size < w3.heap.size := cell_lt e0
 clear d0 d1 d2 d3 hb HI2 HB HG2 l2
 go_wp2_with fail
 have hLat := ex_later
 refine (Later_p w3 _ exC sShare HG3.out HI3.out).mono ?_
 rintro e w4 ⟨s, rfl, hs, hb⟩
 rw [hLat.2]
 rw [hLat.1] at hs
 have d0 := kept hb e0
 have d1 := kept hb e1
 have d2 := kept hb e2
 have d3 := kept hb e3
 have HI4 := Lib.hid (HI3.out.mono hb)
 have HB4 := Lib.hid (HB3.out.trans (hb.mono HB3.out.size))
 have HG4 := Lib.hid (HG3.out.mono hb)
 have HS4 := Lib.hid hs
 have l4 : w1.heap.size < w4.heap.size := cell_lt d0
 clear e0 e1 e2 e3 hb HI3 HB3 HG3 l3 hLat hs
 go_wp2_with fail
 refine (Find_p w4 _ exC sOpen HG4.out HI4.out).mono ?_
 rintro e w5 ⟨rfl, hb⟩
 rw [ex_find]
 simp only [Option.getD_some, Option.isSome_some, licV]
 have e0 := kept hb d0
 have e1 := kept hb d1
 have e2 := kept hb d2
 have e3 := kept hb d3
 have HI5 := Lib.hid (HI4.out.mono hb)
 have HB5 := Lib.hid (HB4.out.trans (hb.mono HB4.out.size))
 have HG5 := Lib.hid (HG4.out.mono hb)
 have HS5 := Lib.hid (HS4.out.mono hb)
 have l5 : w1.heap.size < w5.heap.size := cell_lt e0
 clear d0 d1 d2 d3 hb HI4 HB4 HG4 l4 HS4
 go_wp2_with fail
 have hb : Below w5.heap.size w5 ((w5.alloc (.cells #[.string ⟨#[111, 112, 101, 110]⟩, .string ⟨#[111, 112, 101, 110]⟩, .int .i64 1, .string ⟨#[107, 101, 101, 112, 32, 116, 104, 105, 115, 32, 108, 105, 110, 101]⟩] 43)).alloc (.cells #[.string ⟨#[115, 104, 97, 114, 101]⟩] 9)) := (by first | ((repeat (first | exact Below.refl _ _ | assumption | refine Below.drewN ?_ _ | refine Below.drew ?_ | refine Below.alloc ?_ (by first | exact Nat.le_refl _ | (simp; done) | (simp; omega) | omega) _ | refine Below.setCell ?_ (by first | exact Nat.le_refl _ | (simp; done) | (simp; omega) | omega) _ | refine Below.trans ?_ (Below.mono (by assumption) (by first | exact Nat.le_refl _ | (simp; done) | (simp; omega) | omega)))); done) | fail)
 have t3 : ((w5.alloc (.cells #[.string ⟨#[111, 112, 101, 110]⟩, .string ⟨#[111, 112, 101, 110]⟩, .int .i64 1, .string ⟨#[107, 101, 101, 112, 32, 116, 104, 105, 115, 32, 108, 105, 110, 101]⟩] 43)).alloc (.cells #[.string ⟨#[115, 104, 97, 114, 101]⟩] 9)).cell? ⟨w5.heap.size, 3, none⟩ = some (.string ⟨#[107, 101, 101, 112, 32, 116, 104, 105, 115, 32, 108, 105, 110, 101]⟩) := by simp
 have t4 : ((w5.alloc (.cells #[.string ⟨#[111, 112, 101, 110]⟩, .string ⟨#[111, 112, 101, 110]⟩, .int .i64 1, .string ⟨#[107, 101, 101, 112, 32, 116, 104, 105, 115, 32, 108, 105, 110, 101]⟩] 43)).alloc (.cells #[.string ⟨#[115, 104, 97, 114, 101]⟩] 9)).cell? ⟨w5.heap.size + 1, 0, none⟩ = some (.string ⟨#[115, 104, 97, 114, 101]⟩) := by simp
 have HS6 := Lib.hid (HS5.out.mono hb)
 have b5 : w5.heap.size < ((w5.alloc (.cells #[.string ⟨#[111, 112, 101, 110]⟩, .string ⟨#[111, 112, 101, 110]⟩, .int .i64 1, .string ⟨#[107, 101, 101, 112, 32, 116, 104, 105, 115, 32, 108, 105, 110, 101]⟩] 43)).alloc (.cells #[.string ⟨#[115, 104, 97, 114, 101]⟩] 9)).heap.size := cell_lt t3
 have b51 : w5.heap.size + 1 < ((w5.alloc (.cells #[.string ⟨#[111, 112, 101, 110]⟩, .string ⟨#[111, 112, 101, 110]⟩, .int .i64 1, .string ⟨#[107, 101, 101, 112, 32, 116, 104, 105, 115, 32, 108, 105, 110, 101]⟩] 43)).alloc (.cells #[.string ⟨#[115, 104, 97, 114, 101]⟩] 9)).heap.size := cell_lt t4
 generalize (w5.alloc (.cells #[.string ⟨#[111, 112, 101, 110]⟩, .string ⟨#[111, 112, 101, 110]⟩, .int .i64 1, .string ⟨#[107, 101, 101, 112, 32, 116, 104, 105, 115, 32, 108, 105, 110, 101]⟩] 43)).alloc (.cells #[.string ⟨#[115, 104, 97, 114, 101]⟩] 9) = w6 at *
 have d0 := kept hb e0
 have d1 := kept hb e1
 have d2 := kept hb e2
 have d3 := kept hb e3
 have HI6 := Lib.hid (HI5.out.mono hb)
 have HB6 := Lib.hid (HB5.out.trans (hb.mono HB5.out.size))
 have HG6 := Lib.hid (HG5.out.mono hb)
 clear e0 e1 e2 e3 HI5 HB5 HG5
 have l6 : w1.heap.size < w6.heap.size := cell_lt d0
 have hl : Is w6 (.slice (some ⟨w5.heap.size + 1, 0, none⟩) 1 1) [sShare] := by
  refine list_mk (xs := [sShare]) (Nat.le_refl _) (by decide) fun i x hx => ?_
  match i, hx with
  | 0, hx => cases hx; exact ⟨_, _, rfl, b51, by have h := t4; simpa [sShare] using h, by decide⟩
  | i + 1, hx => simp at hx
 refine (Equal_p w6 s _ [sShare] [sShare] HS6.out hl).mono ?_
 rintro e w7 ⟨rfl, hb⟩
 rw [decide_eq_true (rfl : [sShare] = [sShare])]
 have u3 := kept hb t3
 have b7 : w5.heap.size < w7.heap.size := cell_lt u3
 have e0 := kept hb d0
 have e1 := kept hb d1
 have e2 := kept hb d2
 have e3 := kept hb d3
 have HI7 := Lib.hid (HI6.out.mono hb)
 have HB7 := Lib.hid (HB6.out.trans (hb.mono HB6.out.size))
 have HG7 := Lib.hid (HG6.out.mono hb)
 clear d0 d1 d2 d3 HI6 HB6 HG6
 clear t3 t4 HS5 HS6 hl b5 b51 l5 l6 hb
 go_wp2_with fail
 refine (Clauses_p w7 _ exC ⟨sShare, eS⟩ 1 0 HG7.out HI7.out).mono ?_
 rintro e w8 ⟨cv, rfl, hc, hb⟩
 obtain ⟨p1, q1, rfl, -⟩ := list_inv hc
 rw [ex_clauses1]
 have d0 := kept hb e0
 have d1 := kept hb e1
 have d2 := kept hb e2
 have d3 := kept hb e3
 have HI8 := Lib.hid (HI7.out.mono hb)
 have HB8 := Lib.hid (HB7.out.trans (hb.mono HB7.out.size))
 have HG8 := Lib.hid (HG7.out.mono hb)
 clear e0 e1 e2 e3 HI7 HB7 HG7
 clear u3 hc hb b7
 go_wp2_with fail
 refine (Clauses_p w8 _ exC ⟨sShare, sLink⟩ 1 0 HG8.out HI8.out).mono ?_
 rintro e w9 ⟨cv, rfl, hc, hb⟩
 obtain ⟨p2, q2, rfl, -⟩ := list_inv hc
 rw [ex_clauses2]
 have e0 := kept hb d0
 have e1 := kept hb d1
 have e2 := kept hb d2
 have e3 := kept hb d3
 have HI9 := Lib.hid (HI8.out.mono hb)
 have HB9 := Lib.hid (HB8.out.trans (hb.mono HB8.out.size))
 have HG9 := Lib.hid (HG8.out.mono hb)
 clear d0 d1 d2 d3 HI8 HB8 HG8
 clear hc hb
 go_wp2_with fail
 refine (Incompatible_p w9 _ exC sShare sOpen HG9.out HI9.out).mono ?_
 rintro e w10 ⟨rfl, hb⟩
 rw [ex_apart]
 have HB10 := Lib.hid (HB9.out.trans (hb.mono HB9.out.size))
 clear hb
 go_wp2
 go_ret
 exact ⟨rfl, HB10.out⟩
end Go.Proofs.YtaneolfnnkppbaaGreatDoor
