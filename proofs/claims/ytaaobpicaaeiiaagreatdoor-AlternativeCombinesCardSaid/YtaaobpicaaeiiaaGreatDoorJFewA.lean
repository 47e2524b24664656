/- Layer 34: are lists small; is a list satisfied. -/
import Derived.Test.YtaaobpicaaeiiaaGreatDoorJIdxF
import Derived.Test.YtaaobpicaaeiiaaGreatDoorJCmpU
set_option linter.all false
namespace Go.Proofs.YtaaobpicaaeiiaaGreatDoor
open Go Go.RowKit Go.ChangeShapes Go.Sort Go.Lib

set_option maxRecDepth 100000 in
set_option maxHeartbeats 1000000 in
theorem Satisfied1_p (w : World) (g : Nat) (v1 v2 : Value) (xs ys : List Term) (hc : w.cell? ⟨g, 0, none⟩ = some v1) (h1 : Is w v1 xs) (h2 : Is w v2 ys) :
  Calls Tryz.prog 67 #[v2, .pointer (some ⟨g, 0, none⟩)] w fun e w' => e = .returned (.bool (conA xs ys)) ∧ Below w.heap.size w w' := by
 have hg := cell_lt hc
 have HF := Contains_p w v1 v2 xs ys h1 h2
 obtain ⟨a, c, rfl, -⟩ := list_inv h1
 obtain ⟨b, d, rfl, -⟩ := list_inv h2
 clear h1 h2
 generalize conA xs ys = r at *
 generalize xs.length = N at *
 generalize ys.length = M at *
 go_enter Tryz.func67, Tryz.ntmps67
 go_wp2_with fail
 refine HF.mono ?_
 rintro e w1 ⟨rfl, hb⟩
 go_wp2
 go_ret
 exact ⟨rfl, hb⟩
set_option maxRecDepth 100000 in
set_option maxHeartbeats 1000000 in
theorem Satisfied_p (w : World) (v u : Value) (xs : List (List Term)) (ts : List Term) (h : Is w v xs) (k : Is w u ts) :
  Calls Tryz.prog 21 #[v, u] w fun e w' => e = .returned (.bool (satP xs ts)) ∧ Below w.heap.size w w' := by
 have HF : Hid (satP xs ts = xs.any (conA ts)) := rfl
 obtain ⟨a, c, rfl, -⟩ := list_inv k
 have hba : Below w.heap.size w (w.alloc (.cells #[.slice a ts.length c] 38)) := (by repeat (first | exact zR _ _ | assumption | refine zN ?_ _ | refine zD ?_ | refine zA ?_ ?_ _ | refine zS ?_ ?_ _ | refine zT ?_ (zM (by assumption) ?_) | exact Nat.le_refl _ | (simp <;> omega) | omega))
 have e0 : (w.alloc (.cells #[.slice a ts.length c] 38)).cell? ⟨w.heap.size, 0, none⟩ = some (.slice a ts.length c) := by simp
 have eg : ∀ args w, (callFunc 67 args).run Tryz.prog w = .ok (.enter 67 args) w := enters_of Tryz.func67 (by kernel_rfl) rfl
 have hcall := ContainsFuncAlt (w.alloc (.cells #[.slice a ts.length c] 38)) v xs (conA ts) 67 #[.pointer (some ⟨w.heap.size, 0, none⟩)] eg (h.mono hba) (fun i y _ W v hb hv =>
  Satisfied1_p W w.heap.size (.slice a ts.length c) v ts y (kept hb e0) ((k.mono hba).mono hb) hv)
 obtain ⟨b, d, rfl, -⟩ := list_inv h
 have HBA := Lib.hid hba
 clear h k hba e0 eg
 generalize xs.any (conA ts) = bb at *
 generalize xs.length = N at *
 generalize ts.length = M at *
 go_enter Tryz.func21, Tryz.ntmps21
 go_wp2_with fail
 refine hcall.mono ?_
 rintro e w2 ⟨rfl, hb2⟩
 have HB2 : Hid (Below w.heap.size w w2) := HBA.out.trans (hb2.mono (by simp))
 clear hcall hb2
 go_wp2
 go_ret
 exact ⟨ret_b HF.out.symm, HB2.out⟩
def FewO (xs : List (List Term)) (w : World) (e : Ending) (w' : World) : Prop := ∃ b, e = .returned (.bool b) ∧ Below w.heap.size w w' ∧ (b = true → xs.length ≤ 70 ∧ ∀ x ∈ xs, x.length ≤ 65)
set_option maxRecDepth 100000 in
set_option maxHeartbeats 4000000 in
theorem FewA_ref (w : World) (v : Value) (xs : List (List Term)) (h : Is w v xs) :
  Calls Tryz.prog 16 #[v] w fun e w' => FewO xs w e w' := by
 obtain ⟨a, c, rfl, hnc, hcm, hr⟩ := list_inv h
 simp only [maxLen] at hcm
 have HR := Lib.hid hr
 clear hr h
 generalize hN : xs.length = N at *
 have HN := Lib.hid hN
 clear hN
 by_cases q : (30 < N ∧ N ≤ 64) ∨ 70 < N
 ·have q2 : ((30 : Int) < (N : Int) ∧ (N : Int) ≤ 64) ∨ ((30 : Int) < (N : Int) ∧ ¬ (N : Int) ≤ 64 ∧ (70 : Int) < (N : Int)) := by omega
  clear q
  rcases q2 with ⟨q1, q2⟩ | ⟨q1, q2, q3⟩
  all_goals
   go_enter Tryz.func16, Tryz.ntmps16
   go_wp2
   go_ret
   exact ⟨false, rfl, Below.refl _ _, by intro h; cases h⟩
 have HQ : Hid (N ≤ 70) := by show _ ≤ _; omega
 have q2 : (¬ (30 : Int) < (N : Int) ∧ ¬ (70 : Int) < (N : Int)) ∨ ((30 : Int) < (N : Int) ∧ ¬ (N : Int) ≤ 64 ∧ ¬ (70 : Int) < (N : Int)) := by omega
 clear q
 rcases q2 with ⟨q1, q2⟩ | ⟨q1, q2, q3⟩
 case' inl =>
  go_enter Tryz.func16, Tryz.ntmps16
  go_wp2
  clear q1 q2
 case' inr =>
  go_enter Tryz.func16, Tryz.ntmps16
  go_wp2
  clear q1 q2 q3
 all_goals
  go_loopw [3, 4] (fun nv kv wr => ∃ (n : Int) (k : Nat), nv = .int .i64 n ∧ kv = .int .i64 k ∧ k ≤ N ∧ Hid (Below w.heap.size w wr) ∧ Hid (∀ x ∈ xs.take k, x.length ≤ 65)) (fun _ kv _ => N - (intOf kv).toNat)
  case atStart => exact ⟨0, 0, rfl, rfl, by omega, Lib.hid (Below.refl _ _), by intro x hx; simp at hx⟩
  case round =>
   obtain ⟨n, k, rfl, rfl, hk, HB, HS⟩ := hrel
   by_cases hki : k < N
   ·have hkz : (k : Int) < (N : Int) := by omega
    have hk0 : (0 : Int) ≤ (k : Int) := by omega
    obtain ⟨x, hx⟩ := get_lt (xs := xs) (k := k) (by rw [HN.out]; exact hki)
    have HT := Lib.hid (take_at hx)
    obtain ⟨bx, ox, rfl, hbx, ax, cx, x0', hx1, hx2, hx3⟩ := list_at HR.out hx
    have x0 := kept HB.out x0'
    have hsx := cell_lt x0
    have HX3 := Lib.hid hx3
    simp only [maxLen] at hx2
    generalize hM : x.length = M at *
    have HM := Lib.hid hM
    clear hx x0' hx3 hM
    by_cases q : 12 < M ∧ M ≠ 65
    ·have q1 : (12 : Int) < (M : Int) := by omega
     have q2 : ((M : Int) != 65) = true := by simp; omega
     clear q
     go_wp2
     go_ret
     exact ⟨false, rfl, HB.out, by intro h; cases h⟩
    have HX : Hid (∀ y ∈ xs.take (k + 1), y.length ≤ 65) := by
     intro y hy
     rw [HT.out] at hy
     rcases List.mem_append.1 hy with hy | hy
     ·exact HS.out y hy
     ·simp at hy; subst hy; rw [HM.out]; omega
    have q1 : ¬ (12 : Int) < (M : Int) ∨ ((12 : Int) < (M : Int) ∧ ((M : Int) != 65) = false) := by
     by_cases h : 12 < M
     ·right; refine ⟨by omega, ?_⟩; simp; omega
     ·left; omega
    clear q
    rcases q1 with q1 | ⟨q1, q2⟩
    case' inl =>
     go_wp2
     clear q1
    case' inr =>
     go_wp2
     clear q1 q2
    all_goals
     generalize wr = w5 at *
     go_loopw [3, 5] (fun nv jv wr => ∃ (n : Int) (j : Nat), nv = .int .i64 n ∧ jv = .int .i64 j ∧ j ≤ M ∧ ∃ m, wr = w5.drewN m) (fun _ jv _ => M - (intOf jv).toNat)
     case atStart => exact ⟨n, 0, rfl, rfl, by omega, 0, rfl⟩
     case round =>
      obtain ⟨n, j, rfl, rfl, hj, m, rfl⟩ := hrel
      by_cases hji : j < M
      ·have hjz : (j : Int) < (M : Int) := by omega
       have hj0 : (0 : Int) ≤ (j : Int) := by omega
       obtain ⟨y, hy⟩ := get_lt (xs := x) (k := j) (by rw [HM.out]; exact hji)
       obtain ⟨by', oy, rfl, hby, y0', y1', s0, s1⟩ := Term.at_row HX3.out hy
       have y0 := kept HB.out y0'
       have y1 := kept HB.out y1'
       simp only [maxLen] at s0 s1
       clear hy y0' y1'
       go_wp2
       go_quiet (fail)
       go_wp2
       go_roundw
       case rel => exact ⟨_, j + 1, rfl, by go_num, by omega, _, rfl⟩
       case measure => simp [intOf]; omega
      ·have hjz : ¬ (j : Int) < (M : Int) := by omega
       go_wp2
       go_roundw
       case rel => exact ⟨n, k + 1, rfl, by go_num, by omega, Lib.hid (HB.out.trans (by repeat (first | exact zR _ _ | assumption | refine zN ?_ _ | refine zD ?_ | refine zA ?_ ?_ _ | refine zS ?_ ?_ _ | refine zT ?_ (zM (by assumption) ?_) | exact Nat.le_refl _ | (simp <;> omega) | omega))), HX⟩
       case measure => simp [intOf]; omega
   ·have hkz : ¬ (k : Int) < (N : Int) := by omega
    go_wp2
    go_ret
    refine ⟨_, rfl, HB.out, fun _ => ⟨by rw [HN.out]; exact HQ.out, ?_⟩⟩
    have := HS.out
    rw [List.take_of_length_le (by rw [HN.out]; omega)] at this
    exact this
end Go.Proofs.YtaaobpicaaeiiaaGreatDoor
