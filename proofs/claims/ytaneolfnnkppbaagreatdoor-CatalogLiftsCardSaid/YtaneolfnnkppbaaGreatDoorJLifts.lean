/- The statement of lifted duties: what its function computes. -/
import Derived.Test.YtaneolfnnkppbaaGreatDoorJLaw
import Derived.Test.YtaneolfnnkppbaaGreatDoorJAwake
import Derived.Test.YtaneolfnnkppbaaGreatDoorJFewU
import Derived.Test.YtaneolfnnkppbaaGreatDoorJSameU
import Derived.Test.YtaneolfnnkppbaaGreatDoorJLiftU
set_option linter.all false
namespace Go.Proofs.YtaneolfnnkppbaaGreatDoor
open Go Go.RowKit Go.ChangeShapes
theorem lic3_acc (c : Catalog) (x : License) : lic3 c x = acc3 (fun p q => clausesC c ⟨x.name, eS⟩ p q) 3 0 := by
  unfold lic3 acc3; simp
theorem acc_le {c : Catalog} (h : checkC c = 0) {k a b : Nat} {x : License} (hx : c.licenses[k]? = some x) (ha : a < 3) (hb : b < 3) :
    ((c.licenses.take k).flatMap (lic3 c) ++ acc3 (fun p q => clausesC c ⟨x.name, eS⟩ p q) a b).length + (clausesC c ⟨x.name, eS⟩ (a : Int) (b : Int)).length ≤ 128 := by
  have h1 := clauses_128 h
  rw [← all_clauses h] at h1
  have h2 : c.licenses = c.licenses.take k ++ x :: c.licenses.drop (k + 1) := by
    rw [← drop_at hx, List.take_append_drop]
  have h4 : (c.licenses.flatMap (lic3 c)).length = (((c.licenses.take k).flatMap (lic3 c)).length + ((lic3 c x).length + ((c.licenses.drop (k + 1)).flatMap (lic3 c)).length)) := by
    conv => lhs; rw [h2]
    rw [List.flatMap_append, List.flatMap_cons, List.length_append, List.length_append]
  rw [h4, lic3_acc] at h1
  have h3 := acc3_le (fun p q => clausesC c ⟨x.name, eS⟩ p q) ha hb
  rw [List.length_append]
  omega
theorem acc_next (c : Catalog) {k : Nat} {x : License} (hx : c.licenses[k]? = some x) :
    (c.licenses.take k).flatMap (lic3 c) ++ acc3 (fun p q => clausesC c ⟨x.name, eS⟩ p q) 3 0 = (c.licenses.take (k + 1)).flatMap (lic3 c) := by
  rw [take_at hx, List.flatMap_append, ← lic3_acc]; simp
theorem acc_zero (c : Catalog) (l : List Clause) (x : License) : l ++ acc3 (fun p q => clausesC c ⟨x.name, eS⟩ p q) 0 0 = l := by
  unfold acc3; simp
theorem clauses_lift {c : Catalog} (h : checkC c = 0) {x : Exc} (hx : x ∈ c.exceptions) (way rel : Int) :
    decide (clausesC c ⟨x.license, x.name⟩ way rel = (clausesC c ⟨x.license, eS⟩ way rel).filter fun y => !liftB x.lifts y) = true :=
  decide_eq_true (clauses_exc h hx way rel)
set_option maxRecDepth 100000 in
set_option maxHeartbeats 8000000 in
theorem CatalogLifts_p (w : World) (x0 : Value) (c : Catalog) (hg : Glob w) (h : Is w x0 c) :
    Calls Tryz.prog 9 #[x0] w fun e w' => e = .returned (.bool true) ∧ Below w.heap.size w w' := by
  obtain ⟨a0, c0, a1, c1, a2, c2, a3, c3, rfl, l0, m0, r0, l1, m1, r1, l2, m2, r2, l3, m3, r3⟩ := Catalog.inv h
  have HI := Lib.hid h
  have HG := Lib.hid hg
  have HR0 := Lib.hid r0
  have HR1 := Lib.hid r1
  have HR2 := Lib.hid r2
  have HR3 := Lib.hid r3
  have n0 : c.licenses.length ≤ 9223372036854775807 := by simp only [maxLen] at m0; omega
  have n1 : c.exceptions.length ≤ 9223372036854775807 := by simp only [maxLen] at m1; omega
  have n2 : c.clauses.length ≤ 9223372036854775807 := by simp only [maxLen] at m2; omega
  have n3 : c.apart.length ≤ 9223372036854775807 := by simp only [maxLen] at m3; omega
  have HL2 := Lib.hid (list_mk l2 m2 r2)
  clear h hg r0 r1 r2 r3 l0 l1 l2 l3 m0 m1 m2 m3
  generalize hL0 : c.licenses.length = N0 at *
  generalize hL1 : c.exceptions.length = N1 at *
  generalize hL2 : c.clauses.length = N2 at *
  generalize hL3 : c.apart.length = N3 at *
  have HL := Lib.hid (And.intro hL0 (And.intro hL1 (And.intro hL2 hL3)))
  clear hL0 hL1 hL2 hL3
  go_enter Tryz.func9, Tryz.ntmps9
  go_wp2_with fail
  have HB1 : Hid (Below w.heap.size w (w.alloc (.cells #[.slice a0 N0 c0, .slice a1 N1 c1, .slice a2 N2 c2, .slice a3 N3 c3] 28))) := by show Below _ _ _; exact (by first | ((repeat (first | exact Below.refl _ _ | assumption | refine Below.drewN ?_ _ | refine Below.drew ?_ | refine Below.alloc ?_ (by first | exact Nat.le_refl _ | (simp; done) | (simp; omega) | omega) _ | refine Below.setCell ?_ (by first | exact Nat.le_refl _ | (simp; done) | (simp; omega) | omega) _ | refine Below.trans ?_ (Below.mono (by assumption) (by first | exact Nat.le_refl _ | (simp; done) | (simp; omega) | omega)))); done) | fail)
  have d0 : (w.alloc (.cells #[.slice a0 N0 c0, .slice a1 N1 c1, .slice a2 N2 c2, .slice a3 N3 c3] 28)).cell? ⟨w.heap.size, 0, none⟩ = some (.slice a0 N0 c0) := by simp
  have d1 : (w.alloc (.cells #[.slice a0 N0 c0, .slice a1 N1 c1, .slice a2 N2 c2, .slice a3 N3 c3] 28)).cell? ⟨w.heap.size, 1, none⟩ = some (.slice a1 N1 c1) := by simp
  have d2 : (w.alloc (.cells #[.slice a0 N0 c0, .slice a1 N1 c1, .slice a2 N2 c2, .slice a3 N3 c3] 28)).cell? ⟨w.heap.size, 2, none⟩ = some (.slice a2 N2 c2) := by simp
  have d3 : (w.alloc (.cells #[.slice a0 N0 c0, .slice a1 N1 c1, .slice a2 N2 c2, .slice a3 N3 c3] 28)).cell? ⟨w.heap.size, 3, none⟩ = some (.slice a3 N3 c3) := by simp
  have HI1 := Lib.hid (HI.out.mono HB1.out)
  have HG1 := Lib.hid (HG.out.mono HB1.out)
  have HR0x1 := Lib.hid (HR0.out.mono HB1.out)
  have HR1x1 := Lib.hid (HR1.out.mono HB1.out)
  have HR2x1 := Lib.hid (HR2.out.mono HB1.out)
  generalize w.alloc (.cells #[.slice a0 N0 c0, .slice a1 N1 c1, .slice a2 N2 c2, .slice a3 N3 c3] 28) = w1 at *
  have z1 : w.heap.size < w1.heap.size := cell_lt d0
  clear HI HG HR0 HR1 HR2 HR3
  refine (awake_p w1 HG1.out).mono ?_
  rintro e w2 ⟨rfl, hb⟩
  have e0 := kept hb d0
  have e1 := kept hb d1
  have e2 := kept hb d2
  have e3 := kept hb d3
  have HI2 := Lib.hid (HI1.out.mono hb)
  have HG2 := Lib.hid (HG1.out.mono hb)
  have HR0x2 := Lib.hid (HR0x1.out.mono hb)
  have HR1x2 := Lib.hid (HR1x1.out.mono hb)
  have HR2x2 := Lib.hid (HR2x1.out.mono hb)
  have HB2 := Lib.hid (HB1.out.trans (hb.mono HB1.out.size))
  have z2 : w.heap.size < w2.heap.size := cell_lt e0
  clear d0 d1 d2 d3 hb HI1 HG1 HB1 z1 HR0x1 HR1x1 HR2x1
  go_wp2_with fail
  refine (Few_ref w2 _ c HI2.out).mono ?_
  rintro e w3 ⟨fb, rfl, hb⟩
  have d0 := kept hb e0
  have d1 := kept hb e1
  have d2 := kept hb e2
  have d3 := kept hb e3
  have HI3 := Lib.hid (HI2.out.mono hb)
  have HG3 := Lib.hid (HG2.out.mono hb)
  have HR0x3 := Lib.hid (HR0x2.out.mono hb)
  have HR1x3 := Lib.hid (HR1x2.out.mono hb)
  have HR2x3 := Lib.hid (HR2x2.out.mono hb)
  have HB3 := Lib.hid (HB2.out.trans (hb.mono HB2.out.size))
  have z3 : w.heap.size < w3.heap.size := cell_lt d0
  clear e0 e1 e2 e3 hb HI2 HG2 HB2 z2 HR0x2 HR1x2 HR2x2
  have HL2x3 := Lib.hid (HL2.out.mono HB3.out)
  clear HL2
  cases fb
  case false =>
    go_wp2
    go_ret
    exact ⟨rfl, HB3.out⟩
  go_wp2_with fail
  refine (Check_p w3 _ c HG3.out HI3.out).mono ?_
  rintro e w4 ⟨rfl, hb⟩
  have HL2x4 := Lib.hid (HL2x3.out.mono hb)
  clear HL2x3
  have e0 := kept hb d0
  have e1 := kept hb d1
  have e2 := kept hb d2
  have e3 := kept hb d3
  have HI4 := Lib.hid (HI3.out.mono hb)
  have HG4 := Lib.hid (HG3.out.mono hb)
  have HR0x4 := Lib.hid (HR0x3.out.mono hb)
  have HR1x4 := Lib.hid (HR1x3.out.mono hb)
  have HR2x4 := Lib.hid (HR2x3.out.mono hb)
  have HB4 := Lib.hid (HB3.out.trans (hb.mono HB3.out.size))
  have z4 : w.heap.size < w4.heap.size := cell_lt e0
  clear d0 d1 d2 d3 hb HI3 HG3 HB3 z3 HR0x3 HR1x3 HR2x3
  cases q2 : ((checkC c : Int) != 0)
  case true =>
    generalize checkC c = ck at *
    go_wp2
    go_ret
    exact ⟨rfl, HB4.out⟩
  have hck : checkC c = 0 := by simpa using q2
  have HCK := Lib.hid hck
  clear hck
  generalize checkC c = ck at q2 ⊢
  go_wp2
  clear q2
  go_loopw [3, 27] (fun v kv wr => ∃ k : Nat, k ≤ N0 ∧ kv = .int .i64 k ∧ Hid (Below w4.heap.size w4 wr) ∧ Hid (OwnL w4.heap.size (· = 65) 65 wr v ((c.licenses.take k).flatMap (lic3 c)))) (fun _ kv _ => N0 - (intOf kv).toNat)
  case atStart => exact ⟨0, by omega, rfl, Lib.hid (Below.refl _ _), Lib.hid (OwnL.nil _ _ _ _)⟩
  case round =>
    obtain ⟨k, hk, rfl, hbr, HO⟩ := hrel
    by_cases hki : k < N0
    · obtain ⟨x, hx⟩ := get_lt (xs := c.licenses) (k := k) (by rw [HL.out.1]; exact hki)
      have HX := Lib.hid hx
      obtain ⟨b9, off, rfl, hb9, y0, y1, y2, y3, s0, s1, s2, s3⟩ := License.at_row (HR0x4.out.mono hbr.out) hx
      have hs4 : w4.heap.size ≤ wr.heap.size := hbr.out.size
      clear hx s0 s1 s2 s3
      go_wp2
      have hbz : Hid (Below w4.heap.size w4 (wr.alloc (.cells #[.string x.name, .string x.family, .int .i64 x.version, .string x.text] 43))) := by have hq := hbr.out; show Below _ _ _; exact (by first | ((repeat (first | exact Below.refl _ _ | assumption | refine Below.drewN ?_ _ | refine Below.drew ?_ | refine Below.alloc ?_ (by first | exact Nat.le_refl _ | (simp; done) | (simp; omega) | omega) _ | refine Below.setCell ?_ (by first | exact Nat.le_refl _ | (simp; done) | (simp; omega) | omega) _ | refine Below.trans ?_ (Below.mono (by assumption) (by first | exact Nat.le_refl _ | (simp; done) | (simp; omega) | omega)))); done) | fail)
      have HO0 : Hid (OwnL w4.heap.size (· = 65) 65 (wr.alloc (.cells #[.string x.name, .string x.family, .int .i64 x.version, .string x.text] 43)) u3 ((c.licenses.take k).flatMap (lic3 c) ++ acc3 (fun p q => clausesC c ⟨x.name, eS⟩ p q) 0 0)) := by
        show OwnL _ _ _ _ _ _
        rw [acc_zero]
        exact HO.out.below (by first | ((repeat (first | exact Below.refl _ _ | assumption | refine Below.drewN ?_ _ | refine Below.drew ?_ | refine Below.alloc ?_ (by first | exact Nat.le_refl _ | (simp; done) | (simp; omega) | omega) _ | refine Below.setCell ?_ (by first | exact Nat.le_refl _ | (simp; done) | (simp; omega) | omega) _ | refine Below.trans ?_ (Below.mono (by assumption) (by first | exact Nat.le_refl _ | (simp; done) | (simp; omega) | omega)))); done) | fail)
      have HXB0 : Hid ((wr.alloc (.cells #[.string x.name, .string x.family, .int .i64 x.version, .string x.text] 43)).heap[wr.heap.size]? = some (.cells #[.string x.name, .string x.family, .int .i64 x.version, .string x.text] 43 (0, 0))) := by show (wr.heap.push _)[_]? = _; exact Array.getElem?_push_size
      clear hbr HO y0 y1 y2 y3 hb9
      generalize wr.alloc (.cells #[.string x.name, .string x.family, .int .i64 x.version, .string x.text] 43) = w5 at *
      generalize wr.heap.size = bx at *
      go_loopw [3, 31] (fun v kv wr => ∃ a : Nat, a ≤ 3 ∧ kv = .int .i64 a ∧ Hid (Below w4.heap.size w4 wr) ∧ Hid (OwnL w4.heap.size (· = 65) 65 wr v ((c.licenses.take k).flatMap (lic3 c) ++ acc3 (fun p q => clausesC c ⟨x.name, eS⟩ p q) a 0)) ∧ Hid (wr.heap[bx]? = some (.cells #[.string x.name, .string x.family, .int .i64 x.version, .string x.text] 43 (0, 0)))) (fun _ kv _ => 3 - (intOf kv).toNat)
      case atStart => exact ⟨0, by omega, rfl, hbz, HO0, HXB0⟩
      case round =>
        clear hbz HO0 HXB0
        obtain ⟨a, ha, rfl, hbr, HO, HXB⟩ := hrel
        by_cases hai : a < 3
        · have haz : (a : Int) < 3 := by omega
          go_wp2
          generalize wr = w6 at *
          go_loopw [3, 34] (fun v kv wr => ∃ b : Nat, b ≤ 3 ∧ kv = .int .i64 b ∧ Hid (Below w4.heap.size w4 wr) ∧ Hid (OwnL w4.heap.size (· = 65) 65 wr v ((c.licenses.take k).flatMap (lic3 c) ++ acc3 (fun p q => clausesC c ⟨x.name, eS⟩ p q) a b)) ∧ Hid (wr.heap[bx]? = some (.cells #[.string x.name, .string x.family, .int .i64 x.version, .string x.text] 43 (0, 0)))) (fun _ kv _ => 3 - (intOf kv).toNat)
          case atStart => exact ⟨0, by omega, rfl, hbr, HO, HXB⟩
          case round =>
            clear hbr HO HXB
            obtain ⟨b, hb3, rfl, hbr, HO, HXB⟩ := hrel
            by_cases hbi : b < 3
            · have hbz : (b : Int) < 3 := by omega
              have f0 := kept hbr.out e0
              have f1 := kept hbr.out e1
              have f2 := kept hbr.out e2
              have f3 := kept hbr.out e3
              have xn : wr.cell? ⟨bx, 0, none⟩ = some (.string x.name) := objcell HXB.out rfl
              have hsr : w4.heap.size ≤ wr.heap.size := hbr.out.size
              have z5 : w.heap.size < wr.heap.size := cell_lt f0
              have z6 : bx < wr.heap.size := cell_lt xn
              go_wp2_with fail
              refine (Clauses_o w4.heap.size wr _ c ⟨x.name, eS⟩ a b (HG4.out.mono hbr.out) (HI4.out.mono hbr.out) hsr).mono ?_
              unfold CO
              rintro e w7 ⟨s, rfl, ho, hb⟩
              have hb7 : Hid (Below w4.heap.size w4 w7) := hbr.out.trans (hb.mono hsr)
              have HO7 := Lib.hid (HO.out.below hb)
              have HS7 := Lib.hid ho
              have HXB7 := Lib.hid (below_blk hb HXB.out)
              have hs7 : w4.heap.size ≤ w7.heap.size := hb7.out.size
              have hle := acc_le HCK.out HX.out hai hbi
              clear f0 f1 f2 f3 xn ho hb hbr HO HXB
              go_wp2_with (at_builtin; go_loud (refine wp_appLL (bytes := 64) clRow rfl (by decide) Tryz.underlying25 cl_one rfl _ _ rfl w4.heap.size (· = 65) _ _ _ _ rfl rfl rfl HO7.out HS7.out ?c1 hs7 ?_))
              case c1 => omega
              intro v' w8 ho8 hb8 hA8
              have HO8 := Lib.hid ho8
              have HB8 := Lib.hid (hb7.out.trans hb8)
              have HXB8 := Lib.hid (agree_blk hA8 HXB7.out (by decide))
              clear ho8 hb8 hA8 HO7 HS7 HXB7 hb7 hle
              go_wp2
              go_roundw
              case rel =>
                refine ⟨b + 1, by omega, by go_num, HB8, ?_, HXB8⟩
                show OwnL _ _ _ _ _ _
                rw [acc3_step _ a hbi]
                exact HO8.out
              case measure => simp [intOf]; omega
            · obtain rfl : b = 3 := by omega
              go_wp2
              go_roundw
              case rel =>
                refine ⟨a + 1, by omega, by go_num, hbr, ?_, HXB⟩
                show OwnL _ _ _ _ _ _
                rw [← acc3_next _ hai]
                exact HO.out
              case measure => simp [intOf]; omega
        · obtain rfl : a = 3 := by omega
          go_wp2
          go_roundw
          case rel =>
            refine ⟨k + 1, by omega, by go_num, hbr, ?_⟩
            show OwnL _ _ _ _ _ _
            rw [← acc_next c HX.out]
            exact HO.out
          case measure => simp [intOf]; omega
    · obtain rfl : k = N0 := by omega
      have HALL : Hid ((c.licenses.take k).flatMap (lic3 c) = c.clauses) := by
        show _ = _
        rw [List.take_of_length_le (by rw [HL.out.1]; exact Nat.le_refl _), all_clauses HCK.out]
      have hsm := SameClauses_ref wr u3 _ _ _ HO.out.is (HL2x4.out.mono hbr.out)
      rw [HALL.out, decide_eq_true rfl] at hsm
      have f0 := kept hbr.out e0
      have f1 := kept hbr.out e1
      have f2 := kept hbr.out e2
      have f3 := kept hbr.out e3
      have z5 : w.heap.size < wr.heap.size := cell_lt f0
      go_wp2_with fail
      refine hsm.mono ?_
      rintro e w5 ⟨rfl, hb⟩
      have HB5 : Hid (Below w4.heap.size w4 w5) := hbr.out.trans (hb.mono hbr.out.size)
      clear f0 f1 f2 f3 z5 hb hbr HO HALL
      have f0 := kept HB5.out e0
      have f1 := kept HB5.out e1
      have f2 := kept HB5.out e2
      have f3 := kept HB5.out e3
      have z5 : w.heap.size < w5.heap.size := cell_lt f0
      go_wp2
      clear f0 f1 f2 f3 z5
      go_loopw [57] (fun kv wr => ∃ k : Nat, k ≤ N1 ∧ kv = .int .i64 k ∧ Hid (Below w4.heap.size w4 wr)) (fun kv _ => N1 - (intOf kv).toNat)
      case atStart => exact ⟨0, by omega, rfl, HB5⟩
      case round =>
        clear HB5
        obtain ⟨k1, hk1, rfl, hbr⟩ := hrel
        by_cases hki1 : k1 < N1
        · obtain ⟨x, hx⟩ := get_lt (xs := c.exceptions) (k := k1) (by rw [HL.out.2.1]; exact hki1)
          have HX := Lib.hid (List.mem_of_getElem? hx)
          obtain ⟨b9, off, rfl, hb9, la, lc, y0, y1, y2, s0, s1, l1', m1', r1'⟩ := Exc.at_row (HR1x4.out.mono hbr.out) hx
          have HLL := Lib.hid (list_mk l1' m1' r1')
          have hs4 : w4.heap.size ≤ wr.heap.size := hbr.out.size
          have f0 := kept hbr.out e0
          have f1 := kept hbr.out e1
          have f2 := kept hbr.out e2
          have f3 := kept hbr.out e3
          have z5 : w.heap.size < wr.heap.size := cell_lt f0
          clear hx s0 s1 l1' m1' r1'
          go_wp2_with fail
          have hbw : Hid (Below w4.heap.size w4 ((wr.alloc (.cells #[.string x.name, .string x.license, .slice la x.lifts.length lc] 62)).alloc (.cells #[.string x.license, .string x.name] 55))) := by have hq := hbr.out; show Below _ _ _; exact (by first | ((repeat (first | exact Below.refl _ _ | assumption | refine Below.drewN ?_ _ | refine Below.drew ?_ | refine Below.alloc ?_ (by first | exact Nat.le_refl _ | (simp; done) | (simp; omega) | omega) _ | refine Below.setCell ?_ (by first | exact Nat.le_refl _ | (simp; done) | (simp; omega) | omega) _ | refine Below.trans ?_ (Below.mono (by assumption) (by first | exact Nat.le_refl _ | (simp; done) | (simp; omega) | omega)))); done) | fail)
          have x1 : ((wr.alloc (.cells #[.string x.name, .string x.license, .slice la x.lifts.length lc] 62)).alloc (.cells #[.string x.license, .string x.name] 55)).cell? ⟨wr.heap.size, 1, none⟩ = some (.string x.license) := by simp
          have x2 : ((wr.alloc (.cells #[.string x.name, .string x.license, .slice la x.lifts.length lc] 62)).alloc (.cells #[.string x.license, .string x.name] 55)).cell? ⟨wr.heap.size, 2, none⟩ = some (.slice la x.lifts.length lc) := by simp
          have t0 : ((wr.alloc (.cells #[.string x.name, .string x.license, .slice la x.lifts.length lc] 62)).alloc (.cells #[.string x.license, .string x.name] 55)).cell? ⟨wr.heap.size + 1, 0, none⟩ = some (.string x.license) := by simp
          have t1 : ((wr.alloc (.cells #[.string x.name, .string x.license, .slice la x.lifts.length lc] 62)).alloc (.cells #[.string x.license, .string x.name] 55)).cell? ⟨wr.heap.size + 1, 1, none⟩ = some (.string x.name) := by simp
          have HLx := Lib.hid (HLL.out.mono (show Below wr.heap.size wr ((wr.alloc (.cells #[.string x.name, .string x.license, .slice la x.lifts.length lc] 62)).alloc (.cells #[.string x.license, .string x.name] 55)) from (by first | ((repeat (first | exact Below.refl _ _ | assumption | refine Below.drewN ?_ _ | refine Below.drew ?_ | refine Below.alloc ?_ (by first | exact Nat.le_refl _ | (simp; done) | (simp; omega) | omega) _ | refine Below.setCell ?_ (by first | exact Nat.le_refl _ | (simp; done) | (simp; omega) | omega) _ | refine Below.trans ?_ (Below.mono (by assumption) (by first | exact Nat.le_refl _ | (simp; done) | (simp; omega) | omega)))); done) | fail)))
          have hkn := Known_p ((wr.alloc (.cells #[.string x.name, .string x.license, .slice la x.lifts.length lc] 62)).alloc (.cells #[.string x.license, .string x.name] 55)) _ c ⟨x.license, x.name⟩ (HG4.out.mono hbw.out) (HI4.out.mono hbw.out)
          rw [lifts_exc HCK.out HX.out] at hkn
          clear hbr HLL y0 y1 y2 hb9 f0 f1 f2 f3 z5
          generalize (wr.alloc (.cells #[.string x.name, .string x.license, .slice la x.lifts.length lc] 62)).alloc (.cells #[.string x.license, .string x.name] 55) = w6 at *
          generalize wr.heap.size = bx at *
          refine hkn.mono ?_
          rintro e w7 ⟨rfl, hb⟩
          have HB7 : Hid (Below w4.heap.size w4 w7) := hbw.out.trans (hb.mono hbw.out.size)
          have x1' := kept hb x1
          have x2' := kept hb x2
          have t0' := kept hb t0
          have t1' := kept hb t1
          have HL7 := Lib.hid (HLx.out.mono hb)
          clear x1 x2 t0 t1 hb HLx hbw hkn
          have hs47 : w4.heap.size ≤ w7.heap.size := HB7.out.size
          go_wp2
          go_loopw [70] (fun kv wr => ∃ a : Nat, a ≤ 3 ∧ kv = .int .i64 a ∧ Hid (Below w7.heap.size w7 wr)) (fun kv _ => 3 - (intOf kv).toNat)
          case atStart => exact ⟨0, by omega, rfl, Lib.hid (Below.refl _ _)⟩
          case round =>
            obtain ⟨a, ha, rfl, hbr⟩ := hrel
            by_cases hai : a < 3
            · have haz : (a : Int) < 3 := by omega
              go_wp2
              generalize wr = w8 at *
              go_loopw [73] (fun kv wr => ∃ b : Nat, b ≤ 3 ∧ kv = .int .i64 b ∧ Hid (Below w7.heap.size w7 wr)) (fun kv _ => 3 - (intOf kv).toNat)
              case atStart => exact ⟨0, by omega, rfl, hbr⟩
              case round =>
                clear hbr
                obtain ⟨b, hb3, rfl, hbr⟩ := hrel
                by_cases hbi : b < 3
                · have hbz : (b : Int) < 3 := by omega
                  have hs7r : w7.heap.size ≤ wr.heap.size := hbr.out.size
                  have HBR : Hid (Below w4.heap.size w4 wr) := HB7.out.trans (hbr.out.mono hs47)
                  have f0 := kept HBR.out e0
                  have f1 := kept HBR.out e1
                  have f2 := kept HBR.out e2
                  have f3 := kept HBR.out e3
                  have x1 := kept hbr.out x1'
                  have x2 := kept hbr.out x2'
                  have t0 := kept hbr.out t0'
                  have t1 := kept hbr.out t1'
                  have HLr := Lib.hid (HL7.out.mono hbr.out)
                  have z5 : w.heap.size < wr.heap.size := cell_lt f0
                  have z6 : bx + 1 < wr.heap.size := cell_lt t0
                  go_wp2_with fail
                  refine (Clauses_o wr.heap.size wr _ c ⟨x.license, eS⟩ a b (HG4.out.mono HBR.out) (HI4.out.mono HBR.out) (Nat.le_refl _)).mono ?_
                  unfold CO
                  rintro e w9 ⟨s, rfl, ho, hb9⟩
                  go_wp2_with fail
                  refine (DeleteLift_p wr w9 s _ bx la lc x.lifts hb9 x2 HLr.out ho).mono ?_
                  unfold Del1
                  rintro e w10 ⟨dv, rfl, hod, hb10⟩
                  have hbx : Below wr.heap.size wr w10 := hb9.trans hb10
                  have HBX := Lib.hid hbx
                  have g0 := kept hbx f0
                  have g1 := kept hbx f1
                  have g2 := kept hbx f2
                  have g3 := kept hbx f3
                  have v0 := kept hbx t0
                  have v1 := kept hbx t1
                  have HBY : Hid (Below w4.heap.size w4 w10) := HBR.out.trans (hbx.mono (by omega))
                  have z10 : w.heap.size < w10.heap.size := cell_lt g0
                  have z11 : bx + 1 < w10.heap.size := cell_lt v0
                  have HD := Lib.hid hod
                  clear f0 f1 f2 f3 x1 x2 t0 t1 hb9 hb10 ho hod hbx z5 z6 HBR
                  go_wp2_with fail
                  refine (Clauses_o w10.heap.size w10 _ c ⟨x.license, x.name⟩ a b (HG4.out.mono HBY.out) (HI4.out.mono HBY.out) (Nat.le_refl _)).mono ?_
                  unfold CO
                  rintro e w11 ⟨s2, rfl, ho2, hb11⟩
                  have hsm2 := SameClauses_ref w11 s2 dv _ _ ho2.is (HD.out.below hb11).is
                  rw [clauses_lift HCK.out HX.out] at hsm2
                  have HB11 := Lib.hid hb11
                  clear ho2 HD hb11 g0 g1 g2 g3 v0 v1
                  go_wp2_with fail
                  refine hsm2.mono ?_
                  rintro e w12 ⟨rfl, hb12⟩
                  have HB12 : Hid (Below w7.heap.size w7 w12) := hbr.out.trans (((HBX.out.trans (HB11.out.mono HBX.out.size)).trans (hb12.mono (Nat.le_trans HBX.out.size HB11.out.size))).mono hs7r)
                  clear hb12 HB11 HBX HBY hsm2
                  go_wp2
                  go_roundw
                  case rel => exact ⟨b + 1, by omega, by go_num, HB12⟩
                  case measure => simp [intOf]; omega
                · obtain rfl : b = 3 := by omega
                  go_wp2
                  go_roundw
                  case rel => exact ⟨a + 1, by omega, by go_num, hbr⟩
                  case measure => simp [intOf]; omega
            · obtain rfl : a = 3 := by omega
              go_wp2
              go_roundw
              case rel => exact ⟨k1 + 1, by omega, by go_num, HB7.out.trans (hbr.out.mono hs47)⟩
              case measure => simp [intOf]; omega
        · go_wp2
          go_ret
          exact ⟨rfl, HB4.out.trans (hbr.out.mono (by omega))⟩
end Go.Proofs.YtaneolfnnkppbaaGreatDoor
