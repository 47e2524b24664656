/- The reference's Few: where it returns true, the catalog's bytes are few. -/
import Derived.IntWalk
import Derived.Test.YtaneolfnnkppbaaGreatDoorJCat
import Derived.Test.YtaneolfnnkppbaaGreatDoorJRefV
set_option linter.all false
namespace Go.Proofs.YtaneolfnnkppbaaGreatDoor
open Go Go.RowKit Go.ChangeShapes
def SmallB (c : Catalog) (w : World) (e : Ending) (w' : World) : Prop := ∃ b, e = .returned (.bool b) ∧ Below w.heap.size w w' ∧ (b = true → fewS c ≤ 6000)
theorem someB (c : Catalog) {w w' : World} {e : Ending} (b : Bool) (h : e = .returned (.bool b)) (hb : Below w.heap.size w w') (hf : b = true → fewS c ≤ 6000) : SmallB c w e w' := ⟨b, h, hb, hf⟩
def SmallC (c : Catalog) : Prop := (∀ x ∈ c.licenses, x.name.size ≤ 4096 ∧ x.family.size ≤ 4096 ∧ x.text.size ≤ 4096) ∧ (∀ x ∈ c.exceptions, x.name.size ≤ 4096 ∧ x.license.size ≤ 4096 ∧ x.lifts.length ≤ 4096) ∧
  (∀ x ∈ c.clauses, x.license.size ≤ 4096 ∧ x.list.length ≤ 4096 ∧ ∀ s ∈ x.list, s.size ≤ 4096) ∧ (∀ x ∈ c.apart, x.a.size ≤ 4096 ∧ x.b.size ≤ 4096)
theorem sum_take {α : Type} (f : α → Nat) {xs : List α} {k : Nat} {x : α} (h : xs[k]? = some x) : ((xs.take (k + 1)).map f).sum = ((xs.take k).map f).sum + f x := by
  rw [take_at h]; simp
theorem sum_all {α : Type} (f : α → Nat) {xs : List α} {k : Nat} (h : xs.length ≤ k) : ((xs.take k).map f).sum = (xs.map f).sum := by rw [List.take_of_length_le h]
theorem few_add {n s d : Nat} (h : n ≤ 6000 → n = s) : n + d ≤ 6000 → n + d = s + d := fun g => by rw [h (by omega)]
set_option maxRecDepth 100000 in
set_option maxHeartbeats 8000000 in
theorem Few_valid (w : World) (x0 : Value) (c : Catalog) (h : Is w x0 c) (hS : SmallC c) :
    Calls Tryz.prog 15 #[x0] w fun e w' => SmallB c w e w' := by
  obtain ⟨a0, c0, a1, c1, a2, c2, a3, c3, rfl, l0, m0, r0, l1, m1, r1, l2, m2, r2, l3, m3, r3⟩ := Catalog.inv h
  have HS := Lib.hid hS
  clear hS
  have R0 := Lib.hid r0
  have R1 := Lib.hid r1
  have R2 := Lib.hid r2
  have R3 := Lib.hid r3
  have n0 : c.licenses.length ≤ 9223372036854775807 := by simp only [maxLen] at m0; omega
  have n1 : c.exceptions.length ≤ 9223372036854775807 := by simp only [maxLen] at m1; omega
  have n2 : c.clauses.length ≤ 9223372036854775807 := by simp only [maxLen] at m2; omega
  have n3 : c.apart.length ≤ 9223372036854775807 := by simp only [maxLen] at m3; omega
  clear h r0 r1 r2 r3
  generalize hL0 : c.licenses.length = N0 at *
  generalize hL1 : c.exceptions.length = N1 at *
  generalize hL2 : c.clauses.length = N2 at *
  generalize hL3 : c.apart.length = N3 at *
  have HL := Lib.hid (And.intro hL0 (And.intro hL1 (And.intro hL2 hL3)))
  clear hL0 hL1 hL2 hL3
  cases q1 : decide ((40 : Int) < N0)
  case true =>
    go_enter Tryz.func15, Tryz.ntmps15
    go_wp2
    go_ret
    exact someB c _ rfl (by first | ((repeat (first | exact Below.refl _ _ | assumption | refine Below.drewN ?_ _ | refine Below.drew ?_ | refine Below.alloc ?_ (by first | exact Nat.le_refl _ | (simp; done) | (simp; omega) | omega) _ | refine Below.setCell ?_ (by first | exact Nat.le_refl _ | (simp; done) | (simp; omega) | omega) _ | refine Below.trans ?_ (Below.mono (by assumption) (by first | exact Nat.le_refl _ | (simp; done) | (simp; omega) | omega)))); done) | fail) (fun h => by cases h)
  cases q2 : decide ((40 : Int) < N1)
  case true =>
    go_enter Tryz.func15, Tryz.ntmps15
    go_wp2
    go_ret
    exact someB c _ rfl (by first | ((repeat (first | exact Below.refl _ _ | assumption | refine Below.drewN ?_ _ | refine Below.drew ?_ | refine Below.alloc ?_ (by first | exact Nat.le_refl _ | (simp; done) | (simp; omega) | omega) _ | refine Below.setCell ?_ (by first | exact Nat.le_refl _ | (simp; done) | (simp; omega) | omega) _ | refine Below.trans ?_ (Below.mono (by assumption) (by first | exact Nat.le_refl _ | (simp; done) | (simp; omega) | omega)))); done) | fail) (fun h => by cases h)
  cases q3 : decide ((40 : Int) < N2 ∧ (N2 : Int) ≤ 128)
  case true =>
    obtain ⟨p1, p2⟩ := of_decide_eq_true q3
    clear q3
    go_enter Tryz.func15, Tryz.ntmps15
    go_wp2
    go_ret
    exact someB c _ rfl (by first | ((repeat (first | exact Below.refl _ _ | assumption | refine Below.drewN ?_ _ | refine Below.drew ?_ | refine Below.alloc ?_ (by first | exact Nat.le_refl _ | (simp; done) | (simp; omega) | omega) _ | refine Below.setCell ?_ (by first | exact Nat.le_refl _ | (simp; done) | (simp; omega) | omega) _ | refine Below.trans ?_ (Below.mono (by assumption) (by first | exact Nat.le_refl _ | (simp; done) | (simp; omega) | omega)))); done) | fail) (fun h => by cases h)
  cases q5 : decide ((140 : Int) < N2)
  case true =>
    have p1 := of_decide_eq_true q5
    have p2 : (40 : Int) < (N2 : Int) := by omega
    have p3 : ¬ (N2 : Int) ≤ 128 := by omega
    clear q3 q5
    go_enter Tryz.func15, Tryz.ntmps15
    go_wp2
    go_ret
    exact someB c _ rfl (by first | ((repeat (first | exact Below.refl _ _ | assumption | refine Below.drewN ?_ _ | refine Below.drew ?_ | refine Below.alloc ?_ (by first | exact Nat.le_refl _ | (simp; done) | (simp; omega) | omega) _ | refine Below.setCell ?_ (by first | exact Nat.le_refl _ | (simp; done) | (simp; omega) | omega) _ | refine Below.trans ?_ (Below.mono (by assumption) (by first | exact Nat.le_refl _ | (simp; done) | (simp; omega) | omega)))); done) | fail) (fun h => by cases h)
  have p0 := of_decide_eq_false q3
  have p1 := of_decide_eq_false q5
  have p2 : ¬ (140 : Int) < (N2 : Int) := p1
  have p4 : (¬ (40 : Int) < (N2 : Int)) ∨ ((40 : Int) < (N2 : Int) ∧ ¬ (N2 : Int) ≤ 128) := by omega
  clear q3 q5 p0 p1
  cases q6 : decide ((80 : Int) < N3)
  case true =>
    rcases p4 with p4 | ⟨p4, p5⟩
    all_goals
      go_enter Tryz.func15, Tryz.ntmps15
      go_wp2
      go_ret
      exact someB c _ rfl (by first | ((repeat (first | exact Below.refl _ _ | assumption | refine Below.drewN ?_ _ | refine Below.drew ?_ | refine Below.alloc ?_ (by first | exact Nat.le_refl _ | (simp; done) | (simp; omega) | omega) _ | refine Below.setCell ?_ (by first | exact Nat.le_refl _ | (simp; done) | (simp; omega) | omega) _ | refine Below.trans ?_ (Below.mono (by assumption) (by first | exact Nat.le_refl _ | (simp; done) | (simp; omega) | omega)))); done) | fail) (fun h => by cases h)
  have b0 : N0 ≤ 40 := by have := of_decide_eq_false q1; omega
  have b1 : N1 ≤ 40 := by have := of_decide_eq_false q2; omega
  have b2 : N2 ≤ 140 := by omega
  have b3 : N3 ≤ 80 := by have := of_decide_eq_false q6; omega
  rcases p4 with p4 | ⟨p4, p5⟩
  case' inr =>
    go_enter Tryz.func15, Tryz.ntmps15
    go_wp2
    clear q1 q2 q6 p2 p4 p5
  case' inl =>
    go_enter Tryz.func15, Tryz.ntmps15
    go_wp2
    clear q1 q2 q6 p2 p4
  all_goals
    have D0 : (w.alloc (.cells #[.slice a0 N0 c0, .slice a1 N1 c1, .slice a2 N2 c2, .slice a3 N3 c3] 28)).cell? ⟨w.heap.size, 0, none⟩ = some (.slice a0 N0 c0) := by simp
    have D1 : (w.alloc (.cells #[.slice a0 N0 c0, .slice a1 N1 c1, .slice a2 N2 c2, .slice a3 N3 c3] 28)).cell? ⟨w.heap.size, 1, none⟩ = some (.slice a1 N1 c1) := by simp
    have D2 : (w.alloc (.cells #[.slice a0 N0 c0, .slice a1 N1 c1, .slice a2 N2 c2, .slice a3 N3 c3] 28)).cell? ⟨w.heap.size, 2, none⟩ = some (.slice a2 N2 c2) := by simp
    have D3 : (w.alloc (.cells #[.slice a0 N0 c0, .slice a1 N1 c1, .slice a2 N2 c2, .slice a3 N3 c3] 28)).cell? ⟨w.heap.size, 3, none⟩ = some (.slice a3 N3 c3) := by simp
    have HB0 : Hid (Below w.heap.size w (w.alloc (.cells #[.slice a0 N0 c0, .slice a1 N1 c1, .slice a2 N2 c2, .slice a3 N3 c3] 28))) := (by first | ((repeat (first | exact Below.refl _ _ | assumption | refine Below.drewN ?_ _ | refine Below.drew ?_ | refine Below.alloc ?_ (by first | exact Nat.le_refl _ | (simp; done) | (simp; omega) | omega) _ | refine Below.setCell ?_ (by first | exact Nat.le_refl _ | (simp; done) | (simp; omega) | omega) _ | refine Below.trans ?_ (Below.mono (by assumption) (by first | exact Nat.le_refl _ | (simp; done) | (simp; omega) | omega)))); done) | fail)
    generalize w.alloc (.cells #[.slice a0 N0 c0, .slice a1 N1 c1, .slice a2 N2 c2, .slice a3 N3 c3] 28) = v0 at *
    go_loopw [3, 4] (fun nv kv wr => ∃ (n k : Nat), nv = .int .i64 n ∧ kv = .int .i64 k ∧ k ≤ N0 ∧ n ≤ 0 + k * 20000 ∧ Hid (n ≤ 6000 → n = ((c.licenses.take k).map (fun x => x.name.size + x.family.size + x.text.size)).sum) ∧ Hid (Below v0.heap.size v0 wr)) (fun _ kv _ => N0 - (intOf kv).toNat)
    case atStart => exact ⟨0, 0, rfl, rfl, by omega, by omega, Lib.hid (fun _ => by simp), Lib.hid (Below.refl _ _)⟩
    case round =>
      obtain ⟨n, k, rfl, rfl, hk, hn, hs, hbr⟩ := hrel
      have E0 := kept hbr.out D0
      have E1 := kept hbr.out D1
      have E2 := kept hbr.out D2
      have E3 := kept hbr.out D3
      by_cases hki : k < N0
      · obtain ⟨x, hx⟩ := get_lt (xs := c.licenses) (k := k) (by rw [HL.out.1]; exact hki)
        obtain ⟨b, off, rfl, hb, y0, y1, y2, y3, -⟩ := License.at_row (R0.out.mono (HB0.out.trans (hbr.out.mono HB0.out.size))) hx
        have HX := Lib.hid (sum_take (fun x : License => x.name.size + x.family.size + x.text.size) hx)
        obtain ⟨g0, g1, g3⟩ := HS.out.1 x (List.mem_of_getElem? hx)
        clear hx
        go_wp2
        go_quiet (fail)
        go_wp2
        go_roundw
        case rel =>
          refine ⟨n + (x.name.size + x.family.size + x.text.size), k + 1, ?_, by go_num, by omega, by omega, Lib.hid (fun h => ?_), Lib.hid (hbr.out.drewN _)⟩
          · congr 1 <;> first | rfl | (simp only [IntKind.wrap_i64]; omega) | omega
          · have h2 := few_add hs.out h
            rw [h2, HX.out]; try first | rfl | omega
        case measure => simp [intOf]; omega
      · go_wp2
        go_loopw [3, 5] (fun nv kv wr => ∃ (n k : Nat), nv = .int .i64 n ∧ kv = .int .i64 k ∧ k ≤ N1 ∧ n ≤ 820000 + k * 20000 ∧ Hid (n ≤ 6000 → n = fewL c.licenses + ((c.exceptions.take k).map (fun x => x.name.size + x.license.size + x.lifts.length)).sum) ∧ Hid (Below v0.heap.size v0 wr)) (fun _ kv _ => N1 - (intOf kv).toNat)
        case atStart => exact ⟨n, 0, rfl, rfl, by omega, by omega, Lib.hid (fun h => by have h2 := hs.out h; rw [sum_all _ (show c.licenses.length ≤ k by rw [HL.out.1]; omega)] at h2; simpa [fewL] using h2), hbr⟩
        case round =>
          clear hbr hki hk hs hn
          obtain ⟨n, k, rfl, rfl, hk, hn, hs, hbr⟩ := hrel
          have E0 := kept hbr.out D0
          have E1 := kept hbr.out D1
          have E2 := kept hbr.out D2
          have E3 := kept hbr.out D3
          by_cases hki : k < N1
          · obtain ⟨x, hx⟩ := get_lt (xs := c.exceptions) (k := k) (by rw [HL.out.2.1]; exact hki)
            obtain ⟨b, off, rfl, hb, b2, c4, y0, y1, y2, -⟩ := Exc.at_row (R1.out.mono (HB0.out.trans (hbr.out.mono HB0.out.size))) hx
            have HX := Lib.hid (sum_take (fun x : Exc => x.name.size + x.license.size + x.lifts.length) hx)
            obtain ⟨g0, g1, g3⟩ := HS.out.2.1 x (List.mem_of_getElem? hx)
            clear hx
            go_wp2
            go_quiet (fail)
            go_wp2
            go_roundw
            case rel =>
              refine ⟨n + (x.name.size + x.license.size + x.lifts.length), k + 1, ?_, by go_num, by omega, by omega, Lib.hid (fun h => ?_), Lib.hid (hbr.out.drewN _)⟩
              · congr 1 <;> first | rfl | (simp only [IntKind.wrap_i64]; omega) | omega
              · have h2 := few_add hs.out h
                rw [h2, HX.out]; try first | rfl | omega
            case measure => simp [intOf]; omega
          · go_wp2
            go_loopw [3, 6] (fun nv kv wr => ∃ (n k : Nat), nv = .int .i64 n ∧ kv = .int .i64 k ∧ k ≤ N2 ∧ n ≤ 1640000 + k * 40000 ∧ Hid (n ≤ 6000 → n = fewL c.licenses + fewE c.exceptions + ((c.clauses.take k).map fewK).sum) ∧ Hid (Below v0.heap.size v0 wr)) (fun _ kv _ => N2 - (intOf kv).toNat)
            case atStart => exact ⟨n, 0, rfl, rfl, by omega, by omega, Lib.hid (fun h => by have h2 := hs.out h; rw [sum_all _ (show c.exceptions.length ≤ k by rw [HL.out.2.1]; omega)] at h2; simpa [fewE] using h2), hbr⟩
            case round =>
              clear hbr hki hk hs hn
              obtain ⟨n, k, rfl, rfl, hk, hn, hs, hbr⟩ := hrel
              have E0 := kept hbr.out D0
              have E1 := kept hbr.out D1
              have E2 := kept hbr.out D2
              have E3 := kept hbr.out D3
              by_cases hki : k < N2
              · obtain ⟨x, hx⟩ := get_lt (xs := c.clauses) (k := k) (by rw [HL.out.2.2.1]; exact hki)
                obtain ⟨b, off, rfl, hb, b2, c4, y0, y1, y2, y3, y4, s0, s1, s2, s3, hyl, hyc, hyr⟩ := Clause.at_row (R2.out.mono (HB0.out.trans (hbr.out.mono HB0.out.size))) hx
                have HX := Lib.hid (sum_take fewK hx)
                obtain ⟨g0, g1, g3⟩ := HS.out.2.2.1 x (List.mem_of_getElem? hx)
                clear hx
                have HY := Lib.hid hyr
                have HG3 := Lib.hid g3
                clear hyr s0 s1 s2 s3 g3
                generalize hM : x.list.length = M at *
                have HM := Lib.hid hM
                clear hM
                go_wp2
                go_quiet (fail)
                go_wp2
                have HB4 : Hid (Below wr.heap.size wr (wr.drewN nq)) := Lib.hid (by first | ((repeat (first | exact Below.refl _ _ | assumption | refine Below.drewN ?_ _ | refine Below.drew ?_ | refine Below.alloc ?_ (by first | exact Nat.le_refl _ | (simp; done) | (simp; omega) | omega) _ | refine Below.setCell ?_ (by first | exact Nat.le_refl _ | (simp; done) | (simp; omega) | omega) _ | refine Below.trans ?_ (Below.mono (by assumption) (by first | exact Nat.le_refl _ | (simp; done) | (simp; omega) | omega)))); done) | fail)
                have F0 := kept HB4.out E0
                have F1 := kept HB4.out E1
                have F2 := kept HB4.out E2
                have F3 := kept HB4.out E3
                have z4 := kept HB4.out y4
                have HBv : Hid (Below v0.heap.size v0 (wr.drewN nq)) := Lib.hid (hbr.out.drewN _)
                have hyr2 := Lib.hid (HY.out.mono HB4.out)
                clear E0 E1 E2 E3 y0 y1 y2 y3 y4 HY HB4 hbr
                generalize wr.drewN nq = w4 at *
                go_loopw [3, 7] (fun nv kv wr => ∃ (m j : Nat), nv = .int .i64 m ∧ kv = .int .i64 j ∧ j ≤ M ∧ m ≤ n + 20000 ∧ Hid (m ≤ 6000 → m = n + (x.license.size + M) + ((x.list.take j).map ByteArray.size).sum) ∧ wr = w4) (fun _ kv _ => M - (intOf kv).toNat)
                case atStart =>
                  refine ⟨n + (x.license.size + M), 0, ?_, rfl, by omega, by omega, Lib.hid (fun _ => by simp), rfl⟩
                  congr 1 <;> first | rfl | (simp only [IntKind.wrap_i64]; omega) | omega
                case round =>
                  obtain ⟨m, j, rfl, rfl, hj, hm, hms, rfl⟩ := hrel
                  by_cases hji : j < M
                  · obtain ⟨y, hy⟩ := get_lt (xs := x.list) (k := j) (by rw [HM.out]; exact hji)
                    obtain ⟨by', offy, rfl, hby, u0, uz⟩ := str_at hyr2.out hy
                    have hz4 := HG3.out y (List.mem_of_getElem? hy)
                    have HYS := Lib.hid (sum_take ByteArray.size hy)
                    clear hy
                    by_cases h6 : m ≤ 6000
                    · go_wp2
                      go_roundw
                      case rel =>
                        refine ⟨m + y.size, j + 1, ?_, by go_num, by omega, by omega, Lib.hid (fun h => ?_), by first | rfl | trivial⟩
                        · congr 1 <;> first | rfl | (simp only [IntKind.wrap_i64]; omega) | omega
                        · rw [few_add hms.out h, HYS.out]; try omega
                      case measure => simp [intOf]; omega
                    · go_wp2
                      go_roundw
                      case rel => exact ⟨m, k + 1, rfl, by go_num, by omega, by omega, Lib.hid (fun h => absurd h h6), HBv⟩
                      case measure => simp [intOf]; omega
                  · go_wp2
                    go_roundw
                    case rel =>
                      refine ⟨m, k + 1, rfl, by go_num, by omega, by omega, Lib.hid (fun h => ?_), HBv⟩
                      have h2 := hms.out h
                      rw [sum_all _ (show x.list.length ≤ j by rw [HM.out]; omega)] at h2
                      rw [HX.out, h2, hs.out (by omega)]
                      unfold fewK
                      rw [HM.out]; omega
                    case measure => simp [intOf]; omega
              · go_wp2
                go_loopw [3, 8] (fun nv kv wr => ∃ (n k : Nat), nv = .int .i64 n ∧ kv = .int .i64 k ∧ k ≤ N3 ∧ n ≤ 7280000 + k * 20000 ∧ Hid (n ≤ 6000 → n = fewL c.licenses + fewE c.exceptions + fewC c.clauses + ((c.apart.take k).map (fun x => x.a.size + x.b.size)).sum) ∧ Hid (Below v0.heap.size v0 wr)) (fun _ kv _ => N3 - (intOf kv).toNat)
                case atStart => exact ⟨n, 0, rfl, rfl, by omega, by omega, Lib.hid (fun h => by have h2 := hs.out h; rw [sum_all _ (show c.clauses.length ≤ k by rw [HL.out.2.2.1]; omega)] at h2; simpa [fewC] using h2), hbr⟩
                case round =>
                  clear hbr hki hk hs hn
                  obtain ⟨n, k, rfl, rfl, hk, hn, hs, hbr⟩ := hrel
                  have E0 := kept hbr.out D0
                  have E1 := kept hbr.out D1
                  have E2 := kept hbr.out D2
                  have E3 := kept hbr.out D3
                  by_cases hki : k < N3
                  · obtain ⟨x, hx⟩ := get_lt (xs := c.apart) (k := k) (by rw [HL.out.2.2.2]; exact hki)
                    obtain ⟨b, off, rfl, hb, y0, y1, -⟩ := Pair.at_row (R3.out.mono (HB0.out.trans (hbr.out.mono HB0.out.size))) hx
                    have HX := Lib.hid (sum_take (fun x : Pair => x.a.size + x.b.size) hx)
                    obtain ⟨g0, g1⟩ := HS.out.2.2.2 x (List.mem_of_getElem? hx)
                    clear hx
                    go_wp2
                    go_quiet (fail)
                    go_wp2
                    go_roundw
                    case rel =>
                      refine ⟨n + (x.a.size + x.b.size), k + 1, ?_, by go_num, by omega, by omega, Lib.hid (fun h => ?_), Lib.hid (hbr.out.drewN _)⟩
                      · congr 1 <;> first | rfl | (simp only [IntKind.wrap_i64]; omega) | omega
                      · have h2 := few_add hs.out h
                        rw [h2, HX.out]; try first | rfl | omega
                    case measure => simp [intOf]; omega
                  · have hz : Hid ((decide ((n : Int) ≤ 6000)) = true → fewS c ≤ 6000) := by
                      intro h
                      have h1 : n ≤ 6000 := by have := of_decide_eq_true h; omega
                      have h2 := hs.out h1
                      rw [sum_all _ (show c.apart.length ≤ k by rw [HL.out.2.2.2]; omega)] at h2
                      have h3 : n = fewS c := h2
                      omega
                    have HF := Lib.hid (HB0.out.trans (hbr.out.mono HB0.out.size))
                    clear hs
                    cases q9 : decide ((n : Int) ≤ 6000)
                    case false =>
                      go_wp2
                      go_ret
                      exact someB c _ rfl HF.out (fun h => by cases h)
                    case true =>
                      go_wp2
                      go_ret
                      exact someB c _ rfl HF.out (fun _ => hz.out q9)
end Go.Proofs.YtaneolfnnkppbaaGreatDoor
namespace Go.Proofs.YtaneolfnnkppbaaGreatDoor
open Go Go.RowKit Go.ChangeShapes
def SomeB (w : World) (e : Ending) (w' : World) : Prop := ∃ b, e = .returned (.bool b) ∧ Below w.heap.size w w'
set_option maxRecDepth 100000 in
set_option maxHeartbeats 8000000 in
theorem Few_ref (w : World) (x0 : Value) (c : Catalog) (h : Is w x0 c) :
    Calls Tryz.prog 15 #[x0] w fun e w' => SomeB w e w' := by
  obtain ⟨a0, c0, a1, c1, a2, c2, a3, c3, rfl, l0, m0, r0, l1, m1, r1, l2, m2, r2, l3, m3, r3⟩ := Catalog.inv h
  have R0 := Lib.hid r0
  have R1 := Lib.hid r1
  have R2 := Lib.hid r2
  have R3 := Lib.hid r3
  have n0 : c.licenses.length ≤ 9223372036854775807 := by simp only [maxLen] at m0; omega
  have n1 : c.exceptions.length ≤ 9223372036854775807 := by simp only [maxLen] at m1; omega
  have n2 : c.clauses.length ≤ 9223372036854775807 := by simp only [maxLen] at m2; omega
  have n3 : c.apart.length ≤ 9223372036854775807 := by simp only [maxLen] at m3; omega
  clear h r0 r1 r2 r3
  generalize hL0 : c.licenses.length = N0 at *
  generalize hL1 : c.exceptions.length = N1 at *
  generalize hL2 : c.clauses.length = N2 at *
  generalize hL3 : c.apart.length = N3 at *
  have HL := Lib.hid (And.intro hL0 (And.intro hL1 (And.intro hL2 hL3)))
  clear hL0 hL1 hL2 hL3
  cases q1 : decide ((40 : Int) < N0)
  case true =>
    go_enter Tryz.func15, Tryz.ntmps15
    go_wp2
    go_ret
    exact ⟨_, rfl, (by first | ((repeat (first | exact Below.refl _ _ | assumption | refine Below.drewN ?_ _ | refine Below.drew ?_ | refine Below.alloc ?_ (by first | exact Nat.le_refl _ | (simp; done) | (simp; omega) | omega) _ | refine Below.setCell ?_ (by first | exact Nat.le_refl _ | (simp; done) | (simp; omega) | omega) _ | refine Below.trans ?_ (Below.mono (by assumption) (by first | exact Nat.le_refl _ | (simp; done) | (simp; omega) | omega)))); done) | fail)⟩
  cases q2 : decide ((40 : Int) < N1)
  case true =>
    go_enter Tryz.func15, Tryz.ntmps15
    go_wp2
    go_ret
    exact ⟨_, rfl, (by first | ((repeat (first | exact Below.refl _ _ | assumption | refine Below.drewN ?_ _ | refine Below.drew ?_ | refine Below.alloc ?_ (by first | exact Nat.le_refl _ | (simp; done) | (simp; omega) | omega) _ | refine Below.setCell ?_ (by first | exact Nat.le_refl _ | (simp; done) | (simp; omega) | omega) _ | refine Below.trans ?_ (Below.mono (by assumption) (by first | exact Nat.le_refl _ | (simp; done) | (simp; omega) | omega)))); done) | fail)⟩
  cases q3 : decide ((40 : Int) < N2 ∧ (N2 : Int) ≤ 128)
  case true =>
    obtain ⟨p1, p2⟩ := of_decide_eq_true q3
    clear q3
    go_enter Tryz.func15, Tryz.ntmps15
    go_wp2
    go_ret
    exact ⟨_, rfl, (by first | ((repeat (first | exact Below.refl _ _ | assumption | refine Below.drewN ?_ _ | refine Below.drew ?_ | refine Below.alloc ?_ (by first | exact Nat.le_refl _ | (simp; done) | (simp; omega) | omega) _ | refine Below.setCell ?_ (by first | exact Nat.le_refl _ | (simp; done) | (simp; omega) | omega) _ | refine Below.trans ?_ (Below.mono (by assumption) (by first | exact Nat.le_refl _ | (simp; done) | (simp; omega) | omega)))); done) | fail)⟩
  cases q5 : decide ((140 : Int) < N2)
  case true =>
    have p1 := of_decide_eq_true q5
    have p2 : (40 : Int) < (N2 : Int) := by omega
    have p3 : ¬ (N2 : Int) ≤ 128 := by omega
    clear q3 q5
    go_enter Tryz.func15, Tryz.ntmps15
    go_wp2
    go_ret
    exact ⟨_, rfl, (by first | ((repeat (first | exact Below.refl _ _ | assumption | refine Below.drewN ?_ _ | refine Below.drew ?_ | refine Below.alloc ?_ (by first | exact Nat.le_refl _ | (simp; done) | (simp; omega) | omega) _ | refine Below.setCell ?_ (by first | exact Nat.le_refl _ | (simp; done) | (simp; omega) | omega) _ | refine Below.trans ?_ (Below.mono (by assumption) (by first | exact Nat.le_refl _ | (simp; done) | (simp; omega) | omega)))); done) | fail)⟩
  have p0 := of_decide_eq_false q3
  have p1 := of_decide_eq_false q5
  have p2 : ¬ (140 : Int) < (N2 : Int) := p1
  have p4 : (¬ (40 : Int) < (N2 : Int)) ∨ ((40 : Int) < (N2 : Int) ∧ ¬ (N2 : Int) ≤ 128) := by omega
  clear q3 q5 p0 p1
  cases q6 : decide ((80 : Int) < N3)
  case true =>
    rcases p4 with p4 | ⟨p4, p5⟩
    all_goals
      go_enter Tryz.func15, Tryz.ntmps15
      go_wp2
      go_ret
      exact ⟨_, rfl, (by first | ((repeat (first | exact Below.refl _ _ | assumption | refine Below.drewN ?_ _ | refine Below.drew ?_ | refine Below.alloc ?_ (by first | exact Nat.le_refl _ | (simp; done) | (simp; omega) | omega) _ | refine Below.setCell ?_ (by first | exact Nat.le_refl _ | (simp; done) | (simp; omega) | omega) _ | refine Below.trans ?_ (Below.mono (by assumption) (by first | exact Nat.le_refl _ | (simp; done) | (simp; omega) | omega)))); done) | fail)⟩
  rcases p4 with p4 | ⟨p4, p5⟩
  case' inr =>
    go_enter Tryz.func15, Tryz.ntmps15
    go_wp2
    clear q1 q2 q6 p2 p4 p5
  case' inl =>
    go_enter Tryz.func15, Tryz.ntmps15
    go_wp2
    clear q1 q2 q6 p2 p4
  all_goals
    have D0 : (w.alloc (.cells #[.slice a0 N0 c0, .slice a1 N1 c1, .slice a2 N2 c2, .slice a3 N3 c3] 28)).cell? ⟨w.heap.size, 0, none⟩ = some (.slice a0 N0 c0) := by simp
    have D1 : (w.alloc (.cells #[.slice a0 N0 c0, .slice a1 N1 c1, .slice a2 N2 c2, .slice a3 N3 c3] 28)).cell? ⟨w.heap.size, 1, none⟩ = some (.slice a1 N1 c1) := by simp
    have D2 : (w.alloc (.cells #[.slice a0 N0 c0, .slice a1 N1 c1, .slice a2 N2 c2, .slice a3 N3 c3] 28)).cell? ⟨w.heap.size, 2, none⟩ = some (.slice a2 N2 c2) := by simp
    have D3 : (w.alloc (.cells #[.slice a0 N0 c0, .slice a1 N1 c1, .slice a2 N2 c2, .slice a3 N3 c3] 28)).cell? ⟨w.heap.size, 3, none⟩ = some (.slice a3 N3 c3) := by simp
    have HB0 : Hid (Below w.heap.size w (w.alloc (.cells #[.slice a0 N0 c0, .slice a1 N1 c1, .slice a2 N2 c2, .slice a3 N3 c3] 28))) := (by first | ((repeat (first | exact Below.refl _ _ | assumption | refine Below.drewN ?_ _ | refine Below.drew ?_ | refine Below.alloc ?_ (by first | exact Nat.le_refl _ | (simp; done) | (simp; omega) | omega) _ | refine Below.setCell ?_ (by first | exact Nat.le_refl _ | (simp; done) | (simp; omega) | omega) _ | refine Below.trans ?_ (Below.mono (by assumption) (by first | exact Nat.le_refl _ | (simp; done) | (simp; omega) | omega)))); done) | fail)
    generalize w.alloc (.cells #[.slice a0 N0 c0, .slice a1 N1 c1, .slice a2 N2 c2, .slice a3 N3 c3] 28) = v0 at *
    go_loopw [3, 4] (fun nv kv wr => ∃ (n : Int) (k : Nat), nv = .int .i64 n ∧ kv = .int .i64 k ∧ k ≤ N0 ∧ Hid (Below v0.heap.size v0 wr)) (fun _ kv _ => N0 - (intOf kv).toNat)
    case atStart => exact ⟨0, 0, rfl, rfl, by omega, Lib.hid (Below.refl _ _)⟩
    case round =>
      obtain ⟨n, k, rfl, rfl, hk, hbr⟩ := hrel
      have E0 := kept hbr.out D0
      have E1 := kept hbr.out D1
      have E2 := kept hbr.out D2
      have E3 := kept hbr.out D3
      by_cases hki : k < N0
      · obtain ⟨x, hx⟩ := get_lt (xs := c.licenses) (k := k) (by rw [HL.out.1]; exact hki)
        obtain ⟨b, off, rfl, hb, y0, y1, y2, y3, -⟩ := License.at_row (R0.out.mono (HB0.out.trans (hbr.out.mono HB0.out.size))) hx
        clear hx
        go_wp2
        go_quiet (fail)
        go_wp2
        go_roundw
        case rel => exact ⟨_, k + 1, rfl, by go_num, by omega, Lib.hid (hbr.out.drewN _)⟩
        case measure => simp [intOf]; omega
      · go_wp2
        go_loopw [3, 5] (fun nv kv wr => ∃ (n : Int) (k : Nat), nv = .int .i64 n ∧ kv = .int .i64 k ∧ k ≤ N1 ∧ Hid (Below v0.heap.size v0 wr)) (fun _ kv _ => N1 - (intOf kv).toNat)
        case atStart => exact ⟨n, 0, rfl, rfl, by omega, hbr⟩
        case round =>
          clear hbr hki hk
          obtain ⟨n, k, rfl, rfl, hk, hbr⟩ := hrel
          have E0 := kept hbr.out D0
          have E1 := kept hbr.out D1
          have E2 := kept hbr.out D2
          have E3 := kept hbr.out D3
          by_cases hki : k < N1
          · obtain ⟨x, hx⟩ := get_lt (xs := c.exceptions) (k := k) (by rw [HL.out.2.1]; exact hki)
            obtain ⟨b, off, rfl, hb, b2, c4, y0, y1, y2, -⟩ := Exc.at_row (R1.out.mono (HB0.out.trans (hbr.out.mono HB0.out.size))) hx
            clear hx
            go_wp2
            go_quiet (fail)
            go_wp2
            go_roundw
            case rel => exact ⟨_, k + 1, rfl, by go_num, by omega, Lib.hid (hbr.out.drewN _)⟩
            case measure => simp [intOf]; omega
          · go_wp2
            go_loopw [3, 6] (fun nv kv wr => ∃ (n : Int) (k : Nat), nv = .int .i64 n ∧ kv = .int .i64 k ∧ k ≤ N2 ∧ Hid (Below v0.heap.size v0 wr)) (fun _ kv _ => N2 - (intOf kv).toNat)
            case atStart => exact ⟨n, 0, rfl, rfl, by omega, hbr⟩
            case round =>
              clear hbr hki hk
              obtain ⟨n, k, rfl, rfl, hk, hbr⟩ := hrel
              have E0 := kept hbr.out D0
              have E1 := kept hbr.out D1
              have E2 := kept hbr.out D2
              have E3 := kept hbr.out D3
              by_cases hki : k < N2
              · obtain ⟨x, hx⟩ := get_lt (xs := c.clauses) (k := k) (by rw [HL.out.2.2.1]; exact hki)
                obtain ⟨b, off, rfl, hb, b2, c4, y0, y1, y2, y3, y4, s0, s1, s2, s3, hyl, hyc, hyr⟩ := Clause.at_row (R2.out.mono (HB0.out.trans (hbr.out.mono HB0.out.size))) hx
                clear hx
                have HY := Lib.hid hyr
                have hxn : x.list.length ≤ 9223372036854775807 := by simp only [maxLen] at hyc; omega
                clear hyr s0 s1 s2 s3
                generalize hM : x.list.length = M at *
                have HM := Lib.hid hM
                clear hM
                go_wp2
                go_quiet (fail)
                go_wp2
                have HB4 : Hid (Below wr.heap.size wr (wr.drewN nq)) := Lib.hid (by first | ((repeat (first | exact Below.refl _ _ | assumption | refine Below.drewN ?_ _ | refine Below.drew ?_ | refine Below.alloc ?_ (by first | exact Nat.le_refl _ | (simp; done) | (simp; omega) | omega) _ | refine Below.setCell ?_ (by first | exact Nat.le_refl _ | (simp; done) | (simp; omega) | omega) _ | refine Below.trans ?_ (Below.mono (by assumption) (by first | exact Nat.le_refl _ | (simp; done) | (simp; omega) | omega)))); done) | fail)
                have F0 := kept HB4.out E0
                have F1 := kept HB4.out E1
                have F2 := kept HB4.out E2
                have F3 := kept HB4.out E3
                have z4 := kept HB4.out y4
                have HBv : Hid (Below v0.heap.size v0 (wr.drewN nq)) := Lib.hid (hbr.out.drewN _)
                have hyr2 := Lib.hid (HY.out.mono HB4.out)
                clear E0 E1 E2 E3 y0 y1 y2 y3 y4 HY HB4 hbr
                generalize wr.drewN nq = w4 at *
                go_loopw [3, 7] (fun nv kv wr => ∃ (n : Int) (j : Nat), nv = .int .i64 n ∧ kv = .int .i64 j ∧ j ≤ M ∧ wr = w4) (fun _ kv _ => M - (intOf kv).toNat)
                case atStart => exact ⟨_, 0, rfl, rfl, by omega, rfl⟩
                case round =>
                  obtain ⟨n5, j, rfl, rfl, hj, rfl⟩ := hrel
                  by_cases hji : j < M
                  · obtain ⟨y, hy⟩ := get_lt (xs := x.list) (k := j) (by rw [HM.out]; exact hji)
                    obtain ⟨by', offy, rfl, hby, u0, uz⟩ := str_at hyr2.out hy
                    clear hy
                    by_cases h6 : n5 ≤ 6000
                    · go_wp2
                      go_roundw
                      case rel => exact ⟨_, j + 1, rfl, by go_num, by omega, by first | rfl | trivial⟩
                      case measure => simp [intOf]; omega
                    · go_wp2
                      go_roundw
                      case rel => exact ⟨n5, k + 1, rfl, by go_num, by omega, HBv⟩
                      case measure => simp [intOf]; omega
                  · go_wp2
                    go_roundw
                    case rel => exact ⟨n5, k + 1, rfl, by go_num, by omega, HBv⟩
                    case measure => simp [intOf]; omega
              · go_wp2
                go_loopw [3, 8] (fun nv kv wr => ∃ (n : Int) (k : Nat), nv = .int .i64 n ∧ kv = .int .i64 k ∧ k ≤ N3 ∧ Hid (Below v0.heap.size v0 wr)) (fun _ kv _ => N3 - (intOf kv).toNat)
                case atStart => exact ⟨n, 0, rfl, rfl, by omega, hbr⟩
                case round =>
                  clear hbr hki hk
                  obtain ⟨n, k, rfl, rfl, hk, hbr⟩ := hrel
                  have E0 := kept hbr.out D0
                  have E1 := kept hbr.out D1
                  have E2 := kept hbr.out D2
                  have E3 := kept hbr.out D3
                  by_cases hki : k < N3
                  · obtain ⟨x, hx⟩ := get_lt (xs := c.apart) (k := k) (by rw [HL.out.2.2.2]; exact hki)
                    obtain ⟨b, off, rfl, hb, y0, y1, -⟩ := Pair.at_row (R3.out.mono (HB0.out.trans (hbr.out.mono HB0.out.size))) hx
                    clear hx
                    go_wp2
                    go_quiet (fail)
                    go_wp2
                    go_roundw
                    case rel => exact ⟨_, k + 1, rfl, by go_num, by omega, Lib.hid (hbr.out.drewN _)⟩
                    case measure => simp [intOf]; omega
                  · go_wp2
                    go_ret
                    have HF := HB0.out.trans (hbr.out.mono HB0.out.size)
                    first | exact ⟨_, rfl, HF⟩ | exact ⟨true, trivial, HF⟩ | exact ⟨⟨true, trivial⟩, HF⟩ | exact ⟨HF, true, trivial⟩ | trace_state
end Go.Proofs.YtaneolfnnkppbaaGreatDoor
