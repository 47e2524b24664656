/- Rows of terms that a law builds: append, contains. -/
import Derived.Test.YtoemmpfcnpdblaaGreatDoorJShelfD
import Derived.Test.YtoemmpfcnpdblaaGreatDoorJCmpU
import Derived.Test.YtoemmpfcnpdblaaGreatDoorJEntU
import Derived.Test.YtoemmpfcnpdblaaGreatDoorJLawE
set_option linter.all false
namespace Go.Proofs.YtoemmpfcnpdblaaGreatDoor
open Go Go.RowKit Go.ChangeShapes Go.Sort Go.Lib

set_option maxRecDepth 100000 in
set_option maxHeartbeats 1000000 in
theorem IndexTermS_nil (a : Option Addr) (c : Nat) (x : Term) (w : World) : Calls Tryz.prog 77 #[.slice a 0 c, .agg #[.string x.license, .string x.exception]] w fun e w' => e = .returned (.int .i64 (-1)) ∧ Below w.heap.size w w' := by
 go_enter Tryz.func77, Tryz.ntmps77
 go_wp2
 refine wp_loop_rounds 1 ?_
 rw [rounds_succ]
 go_wp2
 go_ret
 exact ⟨rfl, (by first | ((repeat (first | exact Below.refl _ _ | assumption | refine Below.drewN ?_ _ | refine Below.drew ?_ | refine Below.alloc ?_ (by first | exact Nat.le_refl _ | (simp; done) | (simp; omega) | omega) _ | refine Below.setCell ?_ (by first | exact Nat.le_refl _ | (simp; done) | (simp; omega) | omega) _ | refine Below.trans ?_ (Below.mono (by assumption) (by first | exact Nat.le_refl _ | (simp; done) | (simp; omega) | omega)))); done) | fail)⟩
set_option maxRecDepth 100000 in
set_option maxHeartbeats 1000000 in
theorem ContainsTermS_p (w : World) (v : Value) (xs : List Term) (x : Term) (h : Is w v xs) :
  Calls Tryz.prog 36 #[v, .agg #[.string x.license, .string x.exception]] w fun e w' => e = .returned (.bool (hasT xs x)) ∧ Below w.heap.size w w' := by
 obtain ⟨a, c, rfl, hnc, hc, hr⟩ := list_inv h
 simp only [maxLen] at hc
 by_cases h0 : xs.length = 0
 ·obtain rfl : xs = [] := List.length_eq_zero_iff.1 h0
  clear hr h
  go_enter Tryz.func36, Tryz.ntmps36
  go_wp2_with fail
  refine (IndexTermS_nil _ _ x _).mono ?_
  rintro e w1 ⟨rfl, hb⟩
  go_wp2
  go_ret
  have hbs := hb.size
  exact ⟨rfl, (by first | ((repeat (first | exact Below.refl _ _ | assumption | refine Below.drewN ?_ _ | refine Below.drew ?_ | refine Below.alloc ?_ (by first | exact Nat.le_refl _ | (simp; done) | (simp; omega) | omega) _ | refine Below.setCell ?_ (by first | exact Nat.le_refl _ | (simp; done) | (simp; omega) | omega) _ | refine Below.trans ?_ (Below.mono (by assumption) (by first | exact Nat.le_refl _ | (simp; done) | (simp; omega) | omega)))); done) | fail)⟩
 ·obtain ⟨x0, hx⟩ := get_lt (xs := xs) (k := 0) (by omega)
  obtain ⟨b, off, rfl, -⟩ := Term.at_row hr hx
  have := AnyQ.slices_Contains Tryz.containsTermS 2 Tryz.isAgg67 Tryz.sizeOf67 encT (fun _ => rfl) _ eqTerm b off xs.length c xs x w (Nat.le_refl _) (by omega) (by
   intro j hj i v hv
   obtain ⟨b', off', he, -, h0, h1, -⟩ := Term.at_row hr (bang_at hj)
   cases he
   match i, hv with
   | 0, hv => simp [encT] at hv; subst hv; simpa using h0
   | 1, hv => simp [encT] at hv; subst hv; simpa using h1)
  rw [List.take_length, any_teq] at this
  exact this
theorem rowT_nil (B : Nat) (w : World) : RowT B w (.slice none 0 0) [] := ⟨⟨by simp, .inl ⟨rfl, rfl⟩⟩, fun x hx => by simp at hx⟩
theorem RowT.snoc {B : Nat} {w' : World} {v' : Value} {xs : List Term} {t : Term} (h : w'.ownsRow B 67 2 v' (xs.length + 1) ((xs.map encT).flatten ++ [.string t.license, .string t.exception]))
  (hs : ∀ x ∈ xs, x.license.size ≤ maxLen ∧ x.exception.size ≤ maxLen) (h1 : t.license.size ≤ maxLen) (h2 : t.exception.size ≤ maxLen) : RowT B w' v' (xs ++ [t]) := by
 refine ⟨?_, fun x hx => ?_⟩
 ·rw [List.length_append, List.map_append, List.flatten_append]
  exact h
 ·rcases List.mem_append.1 hx with hx | hx
  ·exact hs x hx
  ·simp at hx; subst hx; exact ⟨h1, h2⟩
theorem app_term {ops : Array Oper} {rest : List Oper} {o : Oper} {a : Act} {Q : Exit → Act → World → Prop} {w : World} (hgd : o.guard = none) (s x : Operand)
  (ho : o.op = .call { callee := .builtin .append, args := #[s, x], argTypes := #[23, 23] })
  (B : Nat) (v : Value) (xs : List Term) (hs : a.eval s = v) (hown : RowT B w v xs) (t : Term) (hx : a.eval x = .slice (some ⟨w.heap.size, 0, none⟩) 1 1)
  (h1 : t.license.size ≤ maxLen) (h2 : t.exception.size ≤ maxLen) (hb : xs.length ≤ 1000000000) (hB : B ≤ w.heap.size)
  (h : ∀ v' w', RowT B w' v' (xs ++ [t]) → Below B w w' → wpList Tryz.prog ops Q rest (a.put o.dst v') w') :
  wpList Tryz.prog ops Q (o :: rest) a (w.alloc (.cells #[.string t.license, .string t.exception] 67)) := by
 refine wp_app infoTerm rfl (by decide) Tryz.underlying23 hgd s x ho B v xs.length _ hs hown.1 #[.string t.license, .string t.exception] hx rfl (by intro q hq; simp at hq; rcases hq with rfl | rfl <;> rfl) (by omega) hB fun v' w' k2 k3 _ => ?_
 exact h v' w' (RowT.snoc k2 hown.2 h1 h2) (((Below.refl _ _).alloc (by omega) _).app k3 (by simp; omega) hown.1)
theorem bit_test (b i : Nat) : (((b >>> i) &&& 1 : Nat) == 1) = b.testBit i := by
 rw [Nat.testBit_eq_decide_div_mod_eq, Nat.shiftRight_eq_div_pow, Nat.and_one_is_mod]
 rfl
theorem shl_small {n : Nat} (h : ¬ (8 : Int) < (n : Int)) : wrap64 (2 ^ n) = ((2 ^ n : Nat) : Int) ∧ 2 ^ n ≤ 256 := by
 have h1 : n ≤ 8 := by omega
 match n, h1 with
 | 0, _ => exact ⟨IntWalk.wrap64_in _ (by decide), by decide⟩
 | 1, _ => exact ⟨IntWalk.wrap64_in _ (by decide), by decide⟩
 | 2, _ => exact ⟨IntWalk.wrap64_in _ (by decide), by decide⟩
 | 3, _ => exact ⟨IntWalk.wrap64_in _ (by decide), by decide⟩
 | 4, _ => exact ⟨IntWalk.wrap64_in _ (by decide), by decide⟩
 | 5, _ => exact ⟨IntWalk.wrap64_in _ (by decide), by decide⟩
 | 6, _ => exact ⟨IntWalk.wrap64_in _ (by decide), by decide⟩
 | 7, _ => exact ⟨IntWalk.wrap64_in _ (by decide), by decide⟩
 | 8, _ => exact ⟨IntWalk.wrap64_in _ (by decide), by decide⟩
theorem bit_fin : ∀ k : Fin 256, ∀ i : Fin 8, (bits BinOp.and IntKind.i64 (((k.1 : Nat) : Int) / 2 ^ min i.1 64) 1 == 1) = k.1.testBit i.1 := by decide +kernel
theorem bit_int {k i : Nat} (hk : k < 256) (hi : i < 8) : (bits BinOp.and IntKind.i64 ((k : Int) / 2 ^ min i 64) 1 == 1) = k.testBit i := bit_fin ⟨k, hk⟩ ⟨i, hi⟩
theorem pickT_len {b k : Nat} {l : List Term} : (pickT b l k).length ≤ k := by
 have := List.length_filterMap_le (fun i => if b.testBit i then l[i]? else none) (List.range k)
 rw [List.length_range] at this
 exact this
end Go.Proofs.YtoemmpfcnpdblaaGreatDoor
