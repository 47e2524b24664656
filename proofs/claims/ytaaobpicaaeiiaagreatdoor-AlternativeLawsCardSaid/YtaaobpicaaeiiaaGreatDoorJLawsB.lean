/- The law: Either and Both are commutative, associative, .. (printed by gen/laws33.py). -/
import Derived.Test.YtaaobpicaaeiiaaGreatDoorJLawsA
set_option linter.all false
namespace Go.Proofs.YtaaobpicaaeiiaaGreatDoor
open Go Go.RowKit Go.ChangeShapes Go.Sort Go.Lib

theorem three_atL {w : World} {v1 v2 v3 : Value} {xs ys zs : List (List Term)} (e : TypeId) (h1 : Is w v1 xs) (h2 : Is w v2 ys) (h3 : Is w v3 zs) {j : Nat} (hj : j < 3) :
  ∃ (L : List (List Term)) (aL : Option Addr) (cL : Nat), [xs, ys, zs][j]? = some L ∧ (w.alloc (.cells #[v1, v2, v3] e)).cell? ⟨w.heap.size, j, none⟩ = some (.slice aL L.length cL) ∧ Is w (.slice aL L.length cL) L := by
 obtain ⟨a, c, rfl, -⟩ := list_inv h1
 obtain ⟨b, d, rfl, -⟩ := list_inv h2
 obtain ⟨x, y, rfl, -⟩ := list_inv h3
 match j, hj with
 | 0, _ => exact ⟨xs, a, c, rfl, by simp, h1⟩
 | 1, _ => exact ⟨ys, b, d, rfl, by simp, h2⟩
 | 2, _ => exact ⟨zs, x, y, rfl, by simp, h3⟩
set_option maxRecDepth 100000 in
set_option maxHeartbeats 16000000 in
theorem AlternativeLaws_p (w : World) (v u z : Value) (xs ys zs : List (List Term)) (hg : Glob w) (h : Is w v xs) (k : Is w u ys) (l : Is w z zs) :
  Calls Tryz.prog 9 #[v, u, z] w fun e w' => e = .returned (.bool true) ∧ Below w.heap.size w w' := by
 have HI := Lib.hid h
 have HJ := Lib.hid k
 have HL := Lib.hid l
 have HA := Lib.hid (awakeG_p w hg)
 obtain ⟨a, c, rfl, -⟩ := list_inv h
 obtain ⟨b, d, rfl, -⟩ := list_inv k
 obtain ⟨a', c', rfl, -⟩ := list_inv l
 clear h k l hg
 generalize xs.length = N at *
 generalize ys.length = M at *
 generalize zs.length = L at *
 go_enter Tryz.func9, Tryz.ntmps9
 go_wp2_with fail
 refine HA.out.mono ?_
 rintro e w1 ⟨rfl, hb1⟩
 have HAT := Lib.hid (fun j (hj : j < 3) => three_atL 33 (HI.out.mono hb1) (HJ.out.mono hb1) (HL.out.mono hb1) hj)
 have hba : Below w1.heap.size w1 (w1.alloc (.cells #[.slice a N c, .slice b M d, .slice a' L c'] 33)) := (by repeat (first | exact zR _ _ | assumption | refine zN ?_ _ | refine zD ?_ | refine zA ?_ ?_ _ | refine zS ?_ ?_ _ | refine zT ?_ (zM (by assumption) ?_) | exact Nat.le_refl _ | (simp <;> omega) | omega))
 have hlt1 : w1.heap.size < (w1.alloc (.cells #[.slice a N c, .slice b M d, .slice a' L c'] 33)).heap.size := by simp
 have HB2 : Hid (Below w.heap.size w (w1.alloc (.cells #[.slice a N c, .slice b M d, .slice a' L c'] 33))) := hb1.trans (hba.mono hb1.size)
 have HBA := Lib.hid hba
 clear hb1 HA hba
 go_wp2_with fail
 generalize (w1.alloc (.cells #[.slice a N c, .slice b M d, .slice a' L c'] 33)) = w2 at *
 go_loopw [20] (fun iv wr => ∃ i : Nat, i ≤ 3 ∧ iv = .int .i64 i ∧ Hid (Below w2.heap.size w2 wr) ∧ Hid (∀ l ∈ [xs, ys, zs].take i, checkA l = 0)) (fun iv _ => 3 - (intOf iv).toNat)
 case atStart => exact ⟨0, by omega, rfl, Lib.hid (Below.refl _ _), Lib.hid (by intro l hl; simp at hl)⟩
 case round =>
  obtain ⟨i, hi, rfl, HB, HCK⟩ := hrel
  by_cases hlt : i < 3
  ·have hiz : (i : Int) < 3 := by omega
   obtain ⟨q, aq, cq, hq, hcell, hIq⟩ := HAT.out i hlt
   have hs2 := HB.out.size
   have x0 := kept HB.out hcell
   have HIQ := Lib.hid ((hIq.mono HBA.out).mono HB.out)
   have HQ := Lib.hid hq
   have hs1 := cell_lt x0
   clear hcell hIq hq
   generalize hQL : q.length = QL at *
   have HQL := Lib.hid hQL
   clear hQL
   go_wp2_with fail
   refine (FewA_ref wr _ q HIQ.out).mono ?_
   unfold FewO
   rintro e w3 ⟨f1, rfl, hb3, -⟩
   have HB3 : Hid (Below w2.heap.size w2 w3) := HB.out.trans (hb3.mono hs2)
   have HIQ3 := Lib.hid (HIQ.out.mono hb3)
   clear hb3 x0
   cases f1
   case false =>
    go_wp2
    go_ret
    exact ⟨rfl, HB2.out.trans (HB3.out.mono HB2.out.size)⟩
   cases q6 : decide ((6 : Int) < (QL : Int))
   case true =>
    go_wp2
    go_ret
    exact ⟨rfl, HB2.out.trans (HB3.out.mono HB2.out.size)⟩
   have hcall := CheckA_p w3 _ q HIQ3.out
   obtain ⟨ck, hck⟩ : ∃ ck, ck = checkA q := ⟨_, rfl⟩
   rw [← hck] at hcall
   have HC := Lib.hid hck
   clear hck
   go_wp2_with fail
   refine hcall.mono ?_
   rintro e w4 ⟨rfl, hb4⟩
   have HB4 : Hid (Below w2.heap.size w2 w4) := HB3.out.trans (hb4.mono HB3.out.size)
   clear hcall hb4
   cases qc : (ck != 0)
   case true =>
    go_wp2
    go_ret
    exact ⟨rfl, HB2.out.trans (HB4.out.mono HB2.out.size)⟩
   have HCN : Hid (∀ l ∈ [xs, ys, zs].take (i + 1), checkA l = 0) := by
    intro l hl
    rw [take_at HQ.out] at hl
    rcases List.mem_append.1 hl with hl | hl
    ·exact HCK.out l hl
    ·obtain rfl : l = q := by simpa using hl
     rw [← HC.out]; simpa using qc
   go_wp2
   go_roundw
   case rel => exact ⟨i + 1, by omega, by go_num, HB4, HCN⟩
   case measure => simp [intOf]; omega
  have hiz : ¬ (i : Int) < 3 := by omega
  have hck : ∀ l ∈ [xs, ys, zs], checkA l = 0 := by
   have h := HCK.out
   rw [List.take_of_length_le (by simp; omega)] at h
   exact h
  have HOX : Hid (OkL false xs (satP xs)) := Lib.hid (OkL.of (hck xs (by simp)))
  have HOY : Hid (OkL false ys (satP ys)) := Lib.hid (OkL.of (hck ys (by simp)))
  have HOZ : Hid (OkL false zs (satP zs)) := Lib.hid (OkL.of (hck zs (by simp)))
  have HB3 : Hid (Below w.heap.size w wr) := HB2.out.trans (HB.out.mono HB2.out.size)
  have hfl := World.alloc_heap_new wr (.cells #[.bool false] 4)
  have hba : Below wr.heap.size wr (wr.alloc (.cells #[.bool false] 4)) := (by repeat (first | exact zR _ _ | assumption | refine zN ?_ _ | refine zD ?_ | refine zA ?_ ?_ _ | refine zS ?_ ?_ _ | refine zT ?_ (zM (by assumption) ?_) | exact Nat.le_refl _ | (simp <;> omega) | omega))
  have HS0 : Hid (w.heap.size ≤ wr.heap.size) := Lib.hid HB3.out.size
  have HB4 : Hid (Below w.heap.size w (wr.alloc (.cells #[.bool false] 4))) := HB3.out.trans (hba.mono HB3.out.size)
  have HF : Hid (Flag wr.heap.size (wr.alloc (.cells #[.bool false] 4)) false) := Lib.hid hfl
  clear hck hfl hba HCK HAT HBA HB
  generalize hW : wr.alloc (.cells #[.bool false] 4) = wx at *
  have HWX := Lib.hid hW
  clear hW
  have HW0 : Hid (Below w.heap.size w wx) := HB4
  go_wp2_with fail
  rw [HWX.out]
  refine (Laws1_p wr.heap.size _ false _ _ xs ys (satP xs) (satP ys) HF.out (HI.out.mono HB4.out) (HJ.out.mono HB4.out) HOX.out HOY.out).mono ?_
  unfold LO
  rintro e wR1 ⟨vR1, lR1, big, rfl, hi, hf, hok, hk, hb⟩
  obtain ⟨aR1, cR1, rfl, -⟩ := list_inv hi
  have HOX := Lib.hid (HOX.out.up (big := big))
  have HOY := Lib.hid (HOY.out.up (big := big))
  have HOZ := Lib.hid (HOZ.out.up (big := big))
  have HB4 : Hid (Below w.heap.size w wR1) := HB4.out.trans (hb.mono HS0.out)
  have HF := Lib.hid hf
  have HIR1 := Lib.hid hi
  have HOR1 := Lib.hid hok
  clear hi hf hok hk hb
  generalize (false || big) = gR1 at *
  generalize lR1.length = nR1 at *
  go_wp2_with fail
  refine (Laws1_p wr.heap.size _ gR1 _ _ ys xs (satP ys) (satP xs) HF.out (HJ.out.mono HB4.out) (HI.out.mono HB4.out) HOY.out HOX.out).mono ?_
  unfold LO
  rintro e wR2 ⟨vR2, lR2, big, rfl, hi, hf, hok, hk, hb⟩
  obtain ⟨aR2, cR2, rfl, -⟩ := list_inv hi
  have HIR1 := Lib.hid (flag_alts HF.out hk HIR1.out)
  have HOR1 := Lib.hid (HOR1.out.up (big := big))
  have HOX := Lib.hid (HOX.out.up (big := big))
  have HOY := Lib.hid (HOY.out.up (big := big))
  have HOZ := Lib.hid (HOZ.out.up (big := big))
  have HB4 : Hid (Below w.heap.size w wR2) := HB4.out.trans (hb.mono HS0.out)
  have HF := Lib.hid hf
  have HIR2 := Lib.hid hi
  have HOR2 := Lib.hid hok
  clear hi hf hok hk hb
  generalize (gR1 || big) = gR2 at *
  generalize lR2.length = nR2 at *
  go_wp2_with fail
  refine (Laws3_p wr.heap.size _ gR2 _ _ lR1 lR2 HF.out HIR1.out HIR2.out (HOR1.out.same HOR2.out fun ts => by cases satP xs ts <;> cases satP ys ts <;> cases satP zs ts <;> rfl)).mono ?_
  rintro e wS3 ⟨rfl, hb⟩
  have HF : Hid (Flag wr.heap.size _ _) := Lib.hid (obj_below HF.out hb)
  have HB4 : Hid (Below w.heap.size w wS3) := HB4.out.trans (hb.mono HB4.out.size)
  clear hb HIR1 HOR1 HIR2 HOR2
  go_wp2_with fail
  refine (Laws2_p wr.heap.size _ gR2 _ _ xs ys (satP xs) (satP ys) HF.out (HI.out.mono HB4.out) (HJ.out.mono HB4.out) HOX.out HOY.out).mono ?_
  unfold LO
  rintro e wR4 ⟨vR4, lR4, big, rfl, hi, hf, hok, hk, hb⟩
  obtain ⟨aR4, cR4, rfl, -⟩ := list_inv hi
  have HOX := Lib.hid (HOX.out.up (big := big))
  have HOY := Lib.hid (HOY.out.up (big := big))
  have HOZ := Lib.hid (HOZ.out.up (big := big))
  have HB4 : Hid (Below w.heap.size w wR4) := HB4.out.trans (hb.mono HS0.out)
  have HF := Lib.hid hf
  have HIR4 := Lib.hid hi
  have HOR4 := Lib.hid hok
  clear hi hf hok hk hb
  generalize (gR2 || big) = gR4 at *
  generalize lR4.length = nR4 at *
  go_wp2_with fail
  refine (Laws2_p wr.heap.size _ gR4 _ _ ys xs (satP ys) (satP xs) HF.out (HJ.out.mono HB4.out) (HI.out.mono HB4.out) HOY.out HOX.out).mono ?_
  unfold LO
  rintro e wR5 ⟨vR5, lR5, big, rfl, hi, hf, hok, hk, hb⟩
  obtain ⟨aR5, cR5, rfl, -⟩ := list_inv hi
  have HIR4 := Lib.hid (flag_alts HF.out hk HIR4.out)
  have HOR4 := Lib.hid (HOR4.out.up (big := big))
  have HOX := Lib.hid (HOX.out.up (big := big))
  have HOY := Lib.hid (HOY.out.up (big := big))
  have HOZ := Lib.hid (HOZ.out.up (big := big))
  have HB4 : Hid (Below w.heap.size w wR5) := HB4.out.trans (hb.mono HS0.out)
  have HF := Lib.hid hf
  have HIR5 := Lib.hid hi
  have HOR5 := Lib.hid hok
  clear hi hf hok hk hb
  generalize (gR4 || big) = gR5 at *
  generalize lR5.length = nR5 at *
  go_wp2_with fail
  refine (Laws3_p wr.heap.size _ gR5 _ _ lR4 lR5 HF.out HIR4.out HIR5.out (HOR4.out.same HOR5.out fun ts => by cases satP xs ts <;> cases satP ys ts <;> cases satP zs ts <;> rfl)).mono ?_
  rintro e wS6 ⟨rfl, hb⟩
  have HF : Hid (Flag wr.heap.size _ _) := Lib.hid (obj_below HF.out hb)
  have HB4 : Hid (Below w.heap.size w wS6) := HB4.out.trans (hb.mono HB4.out.size)
  clear hb HIR4 HOR4 HIR5 HOR5
  go_wp2_with fail
  refine (Laws1_p wr.heap.size _ gR5 _ _ xs xs (satP xs) (satP xs) HF.out (HI.out.mono HB4.out) (HI.out.mono HB4.out) HOX.out HOX.out).mono ?_
  unfold LO
  rintro e wR7 ⟨vR7, lR7, big, rfl, hi, hf, hok, hk, hb⟩
  obtain ⟨aR7, cR7, rfl, -⟩ := list_inv hi
  have HOX := Lib.hid (HOX.out.up (big := big))
  have HOY := Lib.hid (HOY.out.up (big := big))
  have HOZ := Lib.hid (HOZ.out.up (big := big))
  have HB4 : Hid (Below w.heap.size w wR7) := HB4.out.trans (hb.mono HS0.out)
  have HF := Lib.hid hf
  have HIR7 := Lib.hid hi
  have HOR7 := Lib.hid hok
  clear hi hf hok hk hb
  generalize (gR5 || big) = gR7 at *
  generalize lR7.length = nR7 at *
  go_wp2_with fail
  refine (Laws3_p wr.heap.size _ gR7 _ _ lR7 xs HF.out HIR7.out (HI.out.mono HB4.out) (HOR7.out.same HOX.out fun ts => by cases satP xs ts <;> cases satP ys ts <;> cases satP zs ts <;> rfl)).mono ?_
  rintro e wS8 ⟨rfl, hb⟩
  have HF : Hid (Flag wr.heap.size _ _) := Lib.hid (obj_below HF.out hb)
  have HB4 : Hid (Below w.heap.size w wS8) := HB4.out.trans (hb.mono HB4.out.size)
  clear hb HIR7 HOR7
  go_wp2_with fail
  refine (Laws2_p wr.heap.size _ gR7 _ _ xs xs (satP xs) (satP xs) HF.out (HI.out.mono HB4.out) (HI.out.mono HB4.out) HOX.out HOX.out).mono ?_
  unfold LO
  rintro e wR9 ⟨vR9, lR9, big, rfl, hi, hf, hok, hk, hb⟩
  obtain ⟨aR9, cR9, rfl, -⟩ := list_inv hi
  have HOX := Lib.hid (HOX.out.up (big := big))
  have HOY := Lib.hid (HOY.out.up (big := big))
  have HOZ := Lib.hid (HOZ.out.up (big := big))
  have HB4 : Hid (Below w.heap.size w wR9) := HB4.out.trans (hb.mono HS0.out)
  have HF := Lib.hid hf
  have HIR9 := Lib.hid hi
  have HOR9 := Lib.hid hok
  clear hi hf hok hk hb
  generalize (gR7 || big) = gR9 at *
  generalize lR9.length = nR9 at *
  go_wp2_with fail
  refine (Laws3_p wr.heap.size _ gR9 _ _ lR9 xs HF.out HIR9.out (HI.out.mono HB4.out) (HOR9.out.same HOX.out fun ts => by cases satP xs ts <;> cases satP ys ts <;> cases satP zs ts <;> rfl)).mono ?_
  rintro e wS10 ⟨rfl, hb⟩
  have HF : Hid (Flag wr.heap.size _ _) := Lib.hid (obj_below HF.out hb)
  have HB4 : Hid (Below w.heap.size w wS10) := HB4.out.trans (hb.mono HB4.out.size)
  clear hb HIR9 HOR9
  go_wp2_with fail
  refine (Laws2_p wr.heap.size _ gR9 _ _ xs ys (satP xs) (satP ys) HF.out (HI.out.mono HB4.out) (HJ.out.mono HB4.out) HOX.out HOY.out).mono ?_
  unfold LO
  rintro e wR11 ⟨vR11, lR11, big, rfl, hi, hf, hok, hk, hb⟩
  obtain ⟨aR11, cR11, rfl, -⟩ := list_inv hi
  have HOX := Lib.hid (HOX.out.up (big := big))
  have HOY := Lib.hid (HOY.out.up (big := big))
  have HOZ := Lib.hid (HOZ.out.up (big := big))
  have HB4 : Hid (Below w.heap.size w wR11) := HB4.out.trans (hb.mono HS0.out)
  have HF := Lib.hid hf
  have HIR11 := Lib.hid hi
  have HOR11 := Lib.hid hok
  clear hi hf hok hk hb
  generalize (gR9 || big) = gR11 at *
  generalize lR11.length = nR11 at *
  go_wp2_with fail
  refine (Laws1_p wr.heap.size _ gR11 _ _ xs lR11 (satP xs) (fun ts => (satP xs) ts && (satP ys) ts) HF.out (HI.out.mono HB4.out) HIR11.out HOX.out HOR11.out).mono ?_
  unfold LO
  rintro e wR12 ⟨vR12, lR12, big, rfl, hi, hf, hok, hk, hb⟩
  obtain ⟨aR12, cR12, rfl, -⟩ := list_inv hi
  have HIR11 := Lib.hid (flag_alts HF.out hk HIR11.out)
  have HOR11 := Lib.hid (HOR11.out.up (big := big))
  have HOX := Lib.hid (HOX.out.up (big := big))
  have HOY := Lib.hid (HOY.out.up (big := big))
  have HOZ := Lib.hid (HOZ.out.up (big := big))
  have HB4 : Hid (Below w.heap.size w wR12) := HB4.out.trans (hb.mono HS0.out)
  have HF := Lib.hid hf
  have HIR12 := Lib.hid hi
  have HOR12 := Lib.hid hok
  clear hi hf hok hk hb
  generalize (gR11 || big) = gR12 at *
  generalize lR12.length = nR12 at *
  go_wp2_with fail
  refine (Laws3_p wr.heap.size _ gR12 _ _ lR12 xs HF.out HIR12.out (HI.out.mono HB4.out) (HOR12.out.same HOX.out fun ts => by cases satP xs ts <;> cases satP ys ts <;> cases satP zs ts <;> rfl)).mono ?_
  rintro e wS13 ⟨rfl, hb⟩
  have HF : Hid (Flag wr.heap.size _ _) := Lib.hid (obj_below HF.out hb)
  have HB4 : Hid (Below w.heap.size w wS13) := HB4.out.trans (hb.mono HB4.out.size)
  clear hb HIR11 HOR11 HIR12 HOR12
  go_wp2_with fail
  refine (Laws1_p wr.heap.size _ gR12 _ _ xs ys (satP xs) (satP ys) HF.out (HI.out.mono HB4.out) (HJ.out.mono HB4.out) HOX.out HOY.out).mono ?_
  unfold LO
  rintro e wR14 ⟨vR14, lR14, big, rfl, hi, hf, hok, hk, hb⟩
  obtain ⟨aR14, cR14, rfl, -⟩ := list_inv hi
  have HOX := Lib.hid (HOX.out.up (big := big))
  have HOY := Lib.hid (HOY.out.up (big := big))
  have HOZ := Lib.hid (HOZ.out.up (big := big))
  have HB4 : Hid (Below w.heap.size w wR14) := HB4.out.trans (hb.mono HS0.out)
  have HF := Lib.hid hf
  have HIR14 := Lib.hid hi
  have HOR14 := Lib.hid hok
  clear hi hf hok hk hb
  generalize (gR12 || big) = gR14 at *
  generalize lR14.length = nR14 at *
  go_wp2_with fail
  refine (Laws2_p wr.heap.size _ gR14 _ _ xs lR14 (satP xs) (fun ts => (satP xs) ts || (satP ys) ts) HF.out (HI.out.mono HB4.out) HIR14.out HOX.out HOR14.out).mono ?_
  unfold LO
  rintro e wR15 ⟨vR15, lR15, big, rfl, hi, hf, hok, hk, hb⟩
  obtain ⟨aR15, cR15, rfl, -⟩ := list_inv hi
  have HIR14 := Lib.hid (flag_alts HF.out hk HIR14.out)
  have HOR14 := Lib.hid (HOR14.out.up (big := big))
  have HOX := Lib.hid (HOX.out.up (big := big))
  have HOY := Lib.hid (HOY.out.up (big := big))
  have HOZ := Lib.hid (HOZ.out.up (big := big))
  have HB4 : Hid (Below w.heap.size w wR15) := HB4.out.trans (hb.mono HS0.out)
  have HF := Lib.hid hf
  have HIR15 := Lib.hid hi
  have HOR15 := Lib.hid hok
  clear hi hf hok hk hb
  generalize (gR14 || big) = gR15 at *
  generalize lR15.length = nR15 at *
  go_wp2_with fail
  refine (Laws3_p wr.heap.size _ gR15 _ _ lR15 xs HF.out HIR15.out (HI.out.mono HB4.out) (HOR15.out.same HOX.out fun ts => by cases satP xs ts <;> cases satP ys ts <;> cases satP zs ts <;> rfl)).mono ?_
  rintro e wS16 ⟨rfl, hb⟩
  have HF : Hid (Flag wr.heap.size _ _) := Lib.hid (obj_below HF.out hb)
  have HB4 : Hid (Below w.heap.size w wS16) := HB4.out.trans (hb.mono HB4.out.size)
  clear hb HIR14 HOR14 HIR15 HOR15
  go_wp2_with fail
  refine (Laws1_p wr.heap.size _ gR15 _ _ ys zs (satP ys) (satP zs) HF.out (HJ.out.mono HB4.out) (HL.out.mono HB4.out) HOY.out HOZ.out).mono ?_
  unfold LO
  rintro e wR17 ⟨vR17, lR17, big, rfl, hi, hf, hok, hk, hb⟩
  obtain ⟨aR17, cR17, rfl, -⟩ := list_inv hi
  have HOX := Lib.hid (HOX.out.up (big := big))
  have HOY := Lib.hid (HOY.out.up (big := big))
  have HOZ := Lib.hid (HOZ.out.up (big := big))
  have HB4 : Hid (Below w.heap.size w wR17) := HB4.out.trans (hb.mono HS0.out)
  have HF := Lib.hid hf
  have HIR17 := Lib.hid hi
  have HOR17 := Lib.hid hok
  clear hi hf hok hk hb
  generalize (gR15 || big) = gR17 at *
  generalize lR17.length = nR17 at *
  go_wp2_with fail
  refine (Laws1_p wr.heap.size _ gR17 _ _ xs lR17 (satP xs) (fun ts => (satP ys) ts || (satP zs) ts) HF.out (HI.out.mono HB4.out) HIR17.out HOX.out HOR17.out).mono ?_
  unfold LO
  rintro e wR18 ⟨vR18, lR18, big, rfl, hi, hf, hok, hk, hb⟩
  obtain ⟨aR18, cR18, rfl, -⟩ := list_inv hi
  have HIR17 := Lib.hid (flag_alts HF.out hk HIR17.out)
  have HOR17 := Lib.hid (HOR17.out.up (big := big))
  have HOX := Lib.hid (HOX.out.up (big := big))
  have HOY := Lib.hid (HOY.out.up (big := big))
  have HOZ := Lib.hid (HOZ.out.up (big := big))
  have HB4 : Hid (Below w.heap.size w wR18) := HB4.out.trans (hb.mono HS0.out)
  have HF := Lib.hid hf
  have HIR18 := Lib.hid hi
  have HOR18 := Lib.hid hok
  clear hi hf hok hk hb
  generalize (gR17 || big) = gR18 at *
  generalize lR18.length = nR18 at *
  go_wp2_with fail
  refine (Laws1_p wr.heap.size _ gR18 _ _ xs ys (satP xs) (satP ys) HF.out (HI.out.mono HB4.out) (HJ.out.mono HB4.out) HOX.out HOY.out).mono ?_
  unfold LO
  rintro e wR19 ⟨vR19, lR19, big, rfl, hi, hf, hok, hk, hb⟩
  obtain ⟨aR19, cR19, rfl, -⟩ := list_inv hi
  have HIR17 := Lib.hid (flag_alts HF.out hk HIR17.out)
  have HOR17 := Lib.hid (HOR17.out.up (big := big))
  have HIR18 := Lib.hid (flag_alts HF.out hk HIR18.out)
  have HOR18 := Lib.hid (HOR18.out.up (big := big))
  have HOX := Lib.hid (HOX.out.up (big := big))
  have HOY := Lib.hid (HOY.out.up (big := big))
  have HOZ := Lib.hid (HOZ.out.up (big := big))
  have HB4 : Hid (Below w.heap.size w wR19) := HB4.out.trans (hb.mono HS0.out)
  have HF := Lib.hid hf
  have HIR19 := Lib.hid hi
  have HOR19 := Lib.hid hok
  clear hi hf hok hk hb
  generalize (gR18 || big) = gR19 at *
  generalize lR19.length = nR19 at *
  go_wp2_with fail
  refine (Laws1_p wr.heap.size _ gR19 _ _ lR19 zs (fun ts => (satP xs) ts || (satP ys) ts) (satP zs) HF.out HIR19.out (HL.out.mono HB4.out) HOR19.out HOZ.out).mono ?_
  unfold LO
  rintro e wR20 ⟨vR20, lR20, big, rfl, hi, hf, hok, hk, hb⟩
  obtain ⟨aR20, cR20, rfl, -⟩ := list_inv hi
  have HIR17 := Lib.hid (flag_alts HF.out hk HIR17.out)
  have HOR17 := Lib.hid (HOR17.out.up (big := big))
  have HIR18 := Lib.hid (flag_alts HF.out hk HIR18.out)
  have HOR18 := Lib.hid (HOR18.out.up (big := big))
  have HIR19 := Lib.hid (flag_alts HF.out hk HIR19.out)
  have HOR19 := Lib.hid (HOR19.out.up (big := big))
  have HOX := Lib.hid (HOX.out.up (big := big))
  have HOY := Lib.hid (HOY.out.up (big := big))
  have HOZ := Lib.hid (HOZ.out.up (big := big))
  have HB4 : Hid (Below w.heap.size w wR20) := HB4.out.trans (hb.mono HS0.out)
  have HF := Lib.hid hf
  have HIR20 := Lib.hid hi
  have HOR20 := Lib.hid hok
  clear hi hf hok hk hb
  generalize (gR19 || big) = gR20 at *
  generalize lR20.length = nR20 at *
  go_wp2_with fail
  refine (Laws3_p wr.heap.size _ gR20 _ _ lR18 lR20 HF.out HIR18.out HIR20.out (HOR18.out.same HOR20.out fun ts => by cases satP xs ts <;> cases satP ys ts <;> cases satP zs ts <;> rfl)).mono ?_
  rintro e wS21 ⟨rfl, hb⟩
  have HF : Hid (Flag wr.heap.size _ _) := Lib.hid (obj_below HF.out hb)
  have HB4 : Hid (Below w.heap.size w wS21) := HB4.out.trans (hb.mono HB4.out.size)
  clear hb HIR17 HOR17 HIR18 HOR18 HIR19 HOR19 HIR20 HOR20
  go_wp2_with fail
  refine (Laws2_p wr.heap.size _ gR20 _ _ ys zs (satP ys) (satP zs) HF.out (HJ.out.mono HB4.out) (HL.out.mono HB4.out) HOY.out HOZ.out).mono ?_
  unfold LO
  rintro e wR22 ⟨vR22, lR22, big, rfl, hi, hf, hok, hk, hb⟩
  obtain ⟨aR22, cR22, rfl, -⟩ := list_inv hi
  have HOX := Lib.hid (HOX.out.up (big := big))
  have HOY := Lib.hid (HOY.out.up (big := big))
  have HOZ := Lib.hid (HOZ.out.up (big := big))
  have HB4 : Hid (Below w.heap.size w wR22) := HB4.out.trans (hb.mono HS0.out)
  have HF := Lib.hid hf
  have HIR22 := Lib.hid hi
  have HOR22 := Lib.hid hok
  clear hi hf hok hk hb
  generalize (gR20 || big) = gR22 at *
  generalize lR22.length = nR22 at *
  go_wp2_with fail
  refine (Laws2_p wr.heap.size _ gR22 _ _ xs lR22 (satP xs) (fun ts => (satP ys) ts && (satP zs) ts) HF.out (HI.out.mono HB4.out) HIR22.out HOX.out HOR22.out).mono ?_
  unfold LO
  rintro e wR23 ⟨vR23, lR23, big, rfl, hi, hf, hok, hk, hb⟩
  obtain ⟨aR23, cR23, rfl, -⟩ := list_inv hi
  have HIR22 := Lib.hid (flag_alts HF.out hk HIR22.out)
  have HOR22 := Lib.hid (HOR22.out.up (big := big))
  have HOX := Lib.hid (HOX.out.up (big := big))
  have HOY := Lib.hid (HOY.out.up (big := big))
  have HOZ := Lib.hid (HOZ.out.up (big := big))
  have HB4 : Hid (Below w.heap.size w wR23) := HB4.out.trans (hb.mono HS0.out)
  have HF := Lib.hid hf
  have HIR23 := Lib.hid hi
  have HOR23 := Lib.hid hok
  clear hi hf hok hk hb
  generalize (gR22 || big) = gR23 at *
  generalize lR23.length = nR23 at *
  go_wp2_with fail
  refine (Laws2_p wr.heap.size _ gR23 _ _ xs ys (satP xs) (satP ys) HF.out (HI.out.mono HB4.out) (HJ.out.mono HB4.out) HOX.out HOY.out).mono ?_
  unfold LO
  rintro e wR24 ⟨vR24, lR24, big, rfl, hi, hf, hok, hk, hb⟩
  obtain ⟨aR24, cR24, rfl, -⟩ := list_inv hi
  have HIR22 := Lib.hid (flag_alts HF.out hk HIR22.out)
  have HOR22 := Lib.hid (HOR22.out.up (big := big))
  have HIR23 := Lib.hid (flag_alts HF.out hk HIR23.out)
  have HOR23 := Lib.hid (HOR23.out.up (big := big))
  have HOX := Lib.hid (HOX.out.up (big := big))
  have HOY := Lib.hid (HOY.out.up (big := big))
  have HOZ := Lib.hid (HOZ.out.up (big := big))
  have HB4 : Hid (Below w.heap.size w wR24) := HB4.out.trans (hb.mono HS0.out)
  have HF := Lib.hid hf
  have HIR24 := Lib.hid hi
  have HOR24 := Lib.hid hok
  clear hi hf hok hk hb
  generalize (gR23 || big) = gR24 at *
  generalize lR24.length = nR24 at *
  go_wp2_with fail
  refine (Laws2_p wr.heap.size _ gR24 _ _ lR24 zs (fun ts => (satP xs) ts && (satP ys) ts) (satP zs) HF.out HIR24.out (HL.out.mono HB4.out) HOR24.out HOZ.out).mono ?_
  unfold LO
  rintro e wR25 ⟨vR25, lR25, big, rfl, hi, hf, hok, hk, hb⟩
  obtain ⟨aR25, cR25, rfl, -⟩ := list_inv hi
  have HIR22 := Lib.hid (flag_alts HF.out hk HIR22.out)
  have HOR22 := Lib.hid (HOR22.out.up (big := big))
  have HIR23 := Lib.hid (flag_alts HF.out hk HIR23.out)
  have HOR23 := Lib.hid (HOR23.out.up (big := big))
  have HIR24 := Lib.hid (flag_alts HF.out hk HIR24.out)
  have HOR24 := Lib.hid (HOR24.out.up (big := big))
  have HOX := Lib.hid (HOX.out.up (big := big))
  have HOY := Lib.hid (HOY.out.up (big := big))
  have HOZ := Lib.hid (HOZ.out.up (big := big))
  have HB4 : Hid (Below w.heap.size w wR25) := HB4.out.trans (hb.mono HS0.out)
  have HF := Lib.hid hf
  have HIR25 := Lib.hid hi
  have HOR25 := Lib.hid hok
  clear hi hf hok hk hb
  generalize (gR24 || big) = gR25 at *
  generalize lR25.length = nR25 at *
  go_wp2_with fail
  refine (Laws3_p wr.heap.size _ gR25 _ _ lR23 lR25 HF.out HIR23.out HIR25.out (HOR23.out.same HOR25.out fun ts => by cases satP xs ts <;> cases satP ys ts <;> cases satP zs ts <;> rfl)).mono ?_
  rintro e wS26 ⟨rfl, hb⟩
  have HF : Hid (Flag wr.heap.size _ _) := Lib.hid (obj_below HF.out hb)
  have HB4 : Hid (Below w.heap.size w wS26) := HB4.out.trans (hb.mono HB4.out.size)
  clear hb HIR22 HOR22 HIR23 HOR23 HIR24 HOR24 HIR25 HOR25
  go_wp2_with fail
  refine (Laws1_p wr.heap.size _ gR25 _ _ ys zs (satP ys) (satP zs) HF.out (HJ.out.mono HB4.out) (HL.out.mono HB4.out) HOY.out HOZ.out).mono ?_
  unfold LO
  rintro e wR27 ⟨vR27, lR27, big, rfl, hi, hf, hok, hk, hb⟩
  obtain ⟨aR27, cR27, rfl, -⟩ := list_inv hi
  have HOX := Lib.hid (HOX.out.up (big := big))
  have HOY := Lib.hid (HOY.out.up (big := big))
  have HOZ := Lib.hid (HOZ.out.up (big := big))
  have HB4 : Hid (Below w.heap.size w wR27) := HB4.out.trans (hb.mono HS0.out)
  have HF := Lib.hid hf
  have HIR27 := Lib.hid hi
  have HOR27 := Lib.hid hok
  clear hi hf hok hk hb
  generalize (gR25 || big) = gR27 at *
  generalize lR27.length = nR27 at *
  go_wp2_with fail
  refine (Laws2_p wr.heap.size _ gR27 _ _ xs lR27 (satP xs) (fun ts => (satP ys) ts || (satP zs) ts) HF.out (HI.out.mono HB4.out) HIR27.out HOX.out HOR27.out).mono ?_
  unfold LO
  rintro e wR28 ⟨vR28, lR28, big, rfl, hi, hf, hok, hk, hb⟩
  obtain ⟨aR28, cR28, rfl, -⟩ := list_inv hi
  have HIR27 := Lib.hid (flag_alts HF.out hk HIR27.out)
  have HOR27 := Lib.hid (HOR27.out.up (big := big))
  have HOX := Lib.hid (HOX.out.up (big := big))
  have HOY := Lib.hid (HOY.out.up (big := big))
  have HOZ := Lib.hid (HOZ.out.up (big := big))
  have HB4 : Hid (Below w.heap.size w wR28) := HB4.out.trans (hb.mono HS0.out)
  have HF := Lib.hid hf
  have HIR28 := Lib.hid hi
  have HOR28 := Lib.hid hok
  clear hi hf hok hk hb
  generalize (gR27 || big) = gR28 at *
  generalize lR28.length = nR28 at *
  go_wp2_with fail
  refine (Laws2_p wr.heap.size _ gR28 _ _ xs ys (satP xs) (satP ys) HF.out (HI.out.mono HB4.out) (HJ.out.mono HB4.out) HOX.out HOY.out).mono ?_
  unfold LO
  rintro e wR29 ⟨vR29, lR29, big, rfl, hi, hf, hok, hk, hb⟩
  obtain ⟨aR29, cR29, rfl, -⟩ := list_inv hi
  have HIR27 := Lib.hid (flag_alts HF.out hk HIR27.out)
  have HOR27 := Lib.hid (HOR27.out.up (big := big))
  have HIR28 := Lib.hid (flag_alts HF.out hk HIR28.out)
  have HOR28 := Lib.hid (HOR28.out.up (big := big))
  have HOX := Lib.hid (HOX.out.up (big := big))
  have HOY := Lib.hid (HOY.out.up (big := big))
  have HOZ := Lib.hid (HOZ.out.up (big := big))
  have HB4 : Hid (Below w.heap.size w wR29) := HB4.out.trans (hb.mono HS0.out)
  have HF := Lib.hid hf
  have HIR29 := Lib.hid hi
  have HOR29 := Lib.hid hok
  clear hi hf hok hk hb
  generalize (gR28 || big) = gR29 at *
  generalize lR29.length = nR29 at *
  go_wp2_with fail
  refine (Laws2_p wr.heap.size _ gR29 _ _ xs zs (satP xs) (satP zs) HF.out (HI.out.mono HB4.out) (HL.out.mono HB4.out) HOX.out HOZ.out).mono ?_
  unfold LO
  rintro e wR30 ⟨vR30, lR30, big, rfl, hi, hf, hok, hk, hb⟩
  obtain ⟨aR30, cR30, rfl, -⟩ := list_inv hi
  have HIR27 := Lib.hid (flag_alts HF.out hk HIR27.out)
  have HOR27 := Lib.hid (HOR27.out.up (big := big))
  have HIR28 := Lib.hid (flag_alts HF.out hk HIR28.out)
  have HOR28 := Lib.hid (HOR28.out.up (big := big))
  have HIR29 := Lib.hid (flag_alts HF.out hk HIR29.out)
  have HOR29 := Lib.hid (HOR29.out.up (big := big))
  have HOX := Lib.hid (HOX.out.up (big := big))
  have HOY := Lib.hid (HOY.out.up (big := big))
  have HOZ := Lib.hid (HOZ.out.up (big := big))
  have HB4 : Hid (Below w.heap.size w wR30) := HB4.out.trans (hb.mono HS0.out)
  have HF := Lib.hid hf
  have HIR30 := Lib.hid hi
  have HOR30 := Lib.hid hok
  clear hi hf hok hk hb
  generalize (gR29 || big) = gR30 at *
  generalize lR30.length = nR30 at *
  go_wp2_with fail
  refine (Laws1_p wr.heap.size _ gR30 _ _ lR29 lR30 (fun ts => (satP xs) ts && (satP ys) ts) (fun ts => (satP xs) ts && (satP zs) ts) HF.out HIR29.out HIR30.out HOR29.out HOR30.out).mono ?_
  unfold LO
  rintro e wR31 ⟨vR31, lR31, big, rfl, hi, hf, hok, hk, hb⟩
  obtain ⟨aR31, cR31, rfl, -⟩ := list_inv hi
  have HIR27 := Lib.hid (flag_alts HF.out hk HIR27.out)
  have HOR27 := Lib.hid (HOR27.out.up (big := big))
  have HIR28 := Lib.hid (flag_alts HF.out hk HIR28.out)
  have HOR28 := Lib.hid (HOR28.out.up (big := big))
  have HIR29 := Lib.hid (flag_alts HF.out hk HIR29.out)
  have HOR29 := Lib.hid (HOR29.out.up (big := big))
  have HIR30 := Lib.hid (flag_alts HF.out hk HIR30.out)
  have HOR30 := Lib.hid (HOR30.out.up (big := big))
  have HOX := Lib.hid (HOX.out.up (big := big))
  have HOY := Lib.hid (HOY.out.up (big := big))
  have HOZ := Lib.hid (HOZ.out.up (big := big))
  have HB4 : Hid (Below w.heap.size w wR31) := HB4.out.trans (hb.mono HS0.out)
  have HF := Lib.hid hf
  have HIR31 := Lib.hid hi
  have HOR31 := Lib.hid hok
  clear hi hf hok hk hb
  generalize (gR30 || big) = gR31 at *
  generalize lR31.length = nR31 at *
  go_wp2_with fail
  refine (Laws3_p wr.heap.size _ gR31 _ _ lR28 lR31 HF.out HIR28.out HIR31.out (HOR28.out.same HOR31.out fun ts => by cases satP xs ts <;> cases satP ys ts <;> cases satP zs ts <;> rfl)).mono ?_
  rintro e wS32 ⟨rfl, hb⟩
  have HF : Hid (Flag wr.heap.size _ _) := Lib.hid (obj_below HF.out hb)
  have HB4 : Hid (Below w.heap.size w wS32) := HB4.out.trans (hb.mono HB4.out.size)
  clear hb HIR27 HOR27 HIR28 HOR28 HIR29 HOR29 HIR30 HOR30 HIR31 HOR31
  go_wp2
  go_ret
  exact ⟨rfl, HB4.out⟩
end Go.Proofs.YtaaobpicaaeiiaaGreatDoor
