/- The reference's numerals and words. -/
import Derived.Test.YtaneolfnnkppbaaGreatDoorJLawV
set_option linter.all false
namespace Go.Proofs.YtaneolfnnkppbaaGreatDoor
open Go Go.RowKit Go.ChangeShapes
set_option maxRecDepth 100000 in
set_option maxHeartbeats 1000000 in
theorem dutiesR (w : World) : Calls Tryz.prog 64 #[] w fun e w' => e = .returned (.slice (some ⟨w.heap.size, 0, none⟩) 6 6) ∧ ∃ T, T ≠ 5 ∧ w' = w.alloc (.cells dutyA T) := by
  go_enter Tryz.func64, Tryz.ntmps64
  go_wp2
  go_ret
  exact ⟨rfl, _, by decide, rfl⟩
set_option maxRecDepth 100000 in
set_option maxHeartbeats 1000000 in
theorem waysR (w : World) : Calls Tryz.prog 65 #[] w fun e w' => e = .returned (.slice (some ⟨w.heap.size, 0, none⟩) 3 3) ∧ ∃ T, T ≠ 5 ∧ w' = w.alloc (.cells wayA T) := by
  go_enter Tryz.func65, Tryz.ntmps65
  go_wp2
  go_ret
  exact ⟨rfl, _, by decide, rfl⟩
set_option maxRecDepth 100000 in
set_option maxHeartbeats 1000000 in
theorem relsR (w : World) : Calls Tryz.prog 66 #[] w fun e w' => e = .returned (.slice (some ⟨w.heap.size, 0, none⟩) 3 3) ∧ ∃ T, T ≠ 5 ∧ w' = w.alloc (.cells relA T) := by
  go_enter Tryz.func66, Tryz.ntmps66
  go_wp2
  go_ret
  exact ⟨rfl, _, by decide, rfl⟩
theorem conv1 (n : Nat) (hn : n < 10) (w : World) : (Go.convert 68 9 (.slice (some ⟨w.heap.size, 0, none⟩) 1 1)).run Tryz.prog (w.alloc (.cells #[.int .u8 (48 + (n : Int))] 5)) = .ok (.string (mkS (d3 n))) (w.alloc (.cells #[.int .u8 (48 + (n : Int))] 5)) := by
  have h := run_convert_bytes_back (P := Tryz.prog) (w.alloc (.cells #[.int .u8 (48 + (n : Int))] 5)) 68 9 5 ⟨w.heap.size, 0, none⟩ 1 [UInt8.ofNat (48 + n)] Tryz.underlying68 Tryz.underlying5 Tryz.underlying9 (fun j hj => by
    have hj0 : j = 0 := by simp at hj; omega
    subst hj0
    show (w.alloc (.cells #[.int .u8 (48 + (n : Int))] 5)).cell? ⟨w.heap.size, 0, none⟩ = _
    rw [World.cell?_alloc_at _ _ _ _ rfl]
    simp
    omega)
  have e : d3 n = [UInt8.ofNat (48 + n)] := by unfold d3; rw [if_pos hn]
  rw [e]
  exact h
set_option maxRecDepth 100000 in
set_option maxHeartbeats 1000000 in
theorem dec1 (n : Nat) (hn : n < 10) (w : World) : Calls Tryz.prog 63 #[.int .i64 n] w fun e w' => e = .returned (.string (mkS (d3 n))) ∧ Below w.heap.size w w' := by
  have hc := conv1 n hn w
  go_enter Tryz.func63, Tryz.ntmps63
  go_wp2
  go_ret
  exact ⟨rfl, (by first | ((repeat (first | exact Below.refl _ _ | assumption | refine Below.drewN ?_ _ | refine Below.drew ?_ | refine Below.alloc ?_ (by first | exact Nat.le_refl _ | (simp; done) | (simp; omega) | omega) _ | refine Below.setCell ?_ (by first | exact Nat.le_refl _ | (simp; done) | (simp; omega) | omega) _ | refine Below.trans ?_ (Below.mono (by assumption) (by first | exact Nat.le_refl _ | (simp; done) | (simp; omega) | omega)))); done) | fail)⟩
theorem d3_cat (n : Nat) (h : ¬ n < 10) (h2 : n ≤ 999) : mkS (d3 (n / 10)) ++ mkS (d3 (n % 10)) = mkS (d3 n) := by
  have e : d3 (n / 10) ++ d3 (n % 10) = d3 n := by
    unfold d3
    rw [if_neg h, if_pos (show n % 10 < 10 by omega)]
    by_cases h3 : n < 100
    · rw [if_pos h3, if_pos (show n / 10 < 10 by omega)]; rfl
    · rw [if_neg h3, if_neg (show ¬ n / 10 < 10 by omega), if_pos (show n / 10 < 100 by omega), Nat.div_div_eq_div_mul]; rfl
  rw [← e]
  refine WideShapes.bytes_inj ?_
  simp [mkS]
set_option maxRecDepth 100000 in
set_option maxHeartbeats 1000000 in
theorem decS (n : Nat) (hn : ¬ n < 10) (h9 : n ≤ 999) (w : World) (ih : ∀ W : World, Calls Tryz.prog 63 #[.int .i64 ((n / 10 : Nat) : Int)] W fun e w' => e = .returned (.string (mkS (d3 (n / 10)))) ∧ Below W.heap.size W w') :
    Calls Tryz.prog 63 #[.int .i64 n] w fun e w' => e = .returned (.string (mkS (d3 n))) ∧ Below w.heap.size w w' := by
  have HC := Lib.hid (d3_cat n hn h9)
  have IH := Lib.hid ih
  clear ih
  have l1 : (mkS (d3 (n / 10))).size ≤ 3 := by rw [mkS_size]; exact (d3_at (by omega)).2.2
  have l2 : (mkS (d3 (n % 10))).size ≤ 3 := by rw [mkS_size]; exact (d3_at (by omega)).2.2
  have hz : ¬ (n : Int) < 10 := by omega
  go_enter Tryz.func63, Tryz.ntmps63
  go_wp2_with fail
  refine (IH.out _).mono ?_
  rintro e w1 ⟨rfl, hb1⟩
  have HB1 := Lib.hid hb1
  clear hb1
  go_wp2_with fail
  refine (dec1 (n % 10) (by omega) _).mono ?_
  rintro e w2 ⟨rfl, hb2⟩
  have HB2 := Lib.hid (HB1.out.trans (hb2.mono HB1.out.size))
  clear hb2
  go_wp2
  go_ret
  exact ⟨ret_s HC.out, HB2.out⟩
theorem Decimal_ref (n : Nat) (h9 : n ≤ 999) (w : World) : Calls Tryz.prog 63 #[.int .i64 n] w fun e w' => e = .returned (.string (mkS (d3 n))) ∧ Below w.heap.size w w' := by
  by_cases h1 : n < 10
  · exact dec1 n h1 w
  · by_cases h2 : n < 100
    · exact decS n h1 h9 w fun W => dec1 (n / 10) (by omega) W
    · exact decS n h1 h9 w fun W => decS (n / 10) (by omega) (by omega) W fun V => dec1 (n / 10 / 10) (by omega) V
end Go.Proofs.YtaneolfnnkppbaaGreatDoor
