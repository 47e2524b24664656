/- Rows of terms that a law builds: append, contains. -/
import Derived.Test.YtaaobpicaaeiiaaGreatDoorJShelfD
import Derived.Test.YtaaobpicaaeiiaaGreatDoorJCmpU
import Derived.Test.YtaaobpicaaeiiaaGreatDoorJEntU
import Derived.Test.YtaaobpicaaeiiaaGreatDoorJOwnU
import Derived.Test.YtaaobpicaaeiiaaGreatDoorJLiftU
import Derived.Test.YtaaobpicaaeiiaaGreatDoorJCompU
import Derived.Test.YtaaobpicaaeiiaaGreatDoorJMeanU
import Derived.Test.YtaaobpicaaeiiaaGreatDoorJPairU
import Derived.Test.YtaaobpicaaeiiaaGreatDoorJR33U
import Derived.Test.YtaaobpicaaeiiaaGreatDoorJLawE
import Derived.Test.YtaaobpicaaeiiaaGreatDoorJDecU
import Derived.Test.YtaaobpicaaeiiaaGreatDoorJLookV
set_option linter.all false
namespace Go.Proofs.YtaaobpicaaeiiaaGreatDoor
open Go Go.RowKit Go.ChangeShapes Go.Sort Go.Lib

set_option maxRecDepth 100000 in
set_option maxHeartbeats 1000000 in
theorem IndexTermS_nil (a : Option Addr) (c : Nat) (x : Term) (w : World) : Calls Tryz.prog 143 #[.slice a 0 c, .agg #[.string x.license, .string x.exception]] w fun e w' => e = .returned (.int .i64 (-1)) ∧ Below w.heap.size w w' := by
 go_enter Tryz.func143, Tryz.ntmps143
 go_wp2
 refine wp_loop_rounds 1 ?_
 rw [rounds_succ]
 go_wp2
 go_ret
 exact ⟨rfl, (by repeat (first | exact zR _ _ | assumption | refine zN ?_ _ | refine zD ?_ | refine zA ?_ ?_ _ | refine zS ?_ ?_ _ | refine zT ?_ (zM (by assumption) ?_) | exact Nat.le_refl _ | (simp <;> omega) | omega))⟩
set_option maxRecDepth 100000 in
set_option maxHeartbeats 1000000 in
theorem ContainsTermS_p (w : World) (v : Value) (xs : List Term) (x : Term) (h : Is w v xs) :
  Calls Tryz.prog 92 #[v, .agg #[.string x.license, .string x.exception]] w fun e w' => e = .returned (.bool (hasT xs x)) ∧ Below w.heap.size w w' := by
 obtain ⟨a, c, rfl, hnc, hc, hr⟩ := list_inv h
 simp only [maxLen] at hc
 by_cases h0 : xs.length = 0
 ·obtain rfl : xs = [] := List.length_eq_zero_iff.1 h0
  clear hr h
  go_enter Tryz.func92, Tryz.ntmps92
  go_wp2_with fail
  refine (IndexTermS_nil _ _ x _).mono ?_
  rintro e w1 ⟨rfl, hb⟩
  go_wp2
  go_ret
  have hbs := hb.size
  exact ⟨rfl, (by repeat (first | exact zR _ _ | assumption | refine zN ?_ _ | refine zD ?_ | refine zA ?_ ?_ _ | refine zS ?_ ?_ _ | refine zT ?_ (zM (by assumption) ?_) | exact Nat.le_refl _ | (simp <;> omega) | omega))⟩
 ·obtain ⟨x0, hx⟩ := get_lt (xs := xs) (k := 0) (by omega)
  obtain ⟨b, off, rfl, -⟩ := Term.at_row hr hx
  have := AnyQ.slices_Contains Tryz.containsTermS 2 Tryz.isAgg60 Tryz.sizeOf60 encT (fun _ => rfl) _ eqTerm b off xs.length c xs x w (Nat.le_refl _) (by omega) (by
   intro j hj i v hv
   obtain ⟨b', off', he, -, h0, h1, -⟩ := Term.at_row hr (bang_at hj)
   cases he
   match i, hv with
   | 0, hv => simp [encT] at hv; subst hv; simpa using h0
   | 1, hv => simp [encT] at hv; subst hv; simpa using h1)
  rw [List.take_length, any_teq] at this
  exact this
theorem rowT_nil (B : Nat) (w : World) : RowT B w (.slice none 0 0) [] := ⟨⟨by simp, .inl ⟨rfl, rfl⟩⟩, fun x hx => by simp at hx⟩
theorem RowT.snoc {B : Nat} {w' : World} {v' : Value} {xs : List Term} {t : Term} (h : w'.ownsRow B 60 2 v' (xs.length + 1) ((xs.map encT).flatten ++ [.string t.license, .string t.exception]))
  (hs : ∀ x ∈ xs, x.license.size ≤ maxLen ∧ x.exception.size ≤ maxLen) (h1 : t.license.size ≤ maxLen) (h2 : t.exception.size ≤ maxLen) : RowT B w' v' (xs ++ [t]) := by
 refine ⟨?_, fun x hx => ?_⟩
 ·rw [List.length_append, List.map_append, List.flatten_append]
  exact h
 ·rcases List.mem_append.1 hx with hx | hx
  ·exact hs x hx
  ·simp at hx; subst hx; exact ⟨h1, h2⟩
theorem app_term {ops : Array Oper} {rest : List Oper} {o : Oper} {a : Act} {Q : Exit → Act → World → Prop} {w : World} (hgd : o.guard = none) (s x : Operand)
  (ho : o.op = .call { callee := .builtin .append, args := #[s, x], argTypes := #[38, 38] })
  (B : Nat) (v : Value) (xs : List Term) (hs : a.eval s = v) (hown : RowT B w v xs) (t : Term) (hx : a.eval x = .slice (some ⟨w.heap.size, 0, none⟩) 1 1)
  (h1 : t.license.size ≤ maxLen) (h2 : t.exception.size ≤ maxLen) (hb : xs.length ≤ 1000000000) (hB : B ≤ w.heap.size)
  (h : ∀ v' w', RowT B w' v' (xs ++ [t]) → Below B w w' → wpList Tryz.prog ops Q rest (a.put o.dst v') w') :
  wpList Tryz.prog ops Q (o :: rest) a (w.alloc (.cells #[.string t.license, .string t.exception] 60)) := by
 refine wp_app infoTerm rfl (by decide) Tryz.underlying38 hgd s x ho B v xs.length _ hs hown.1 #[.string t.license, .string t.exception] hx rfl (by intro q hq; simp at hq; rcases hq with rfl | rfl <;> rfl) (by omega) hB fun v' w' k2 k3 _ => ?_
 exact h v' w' (RowT.snoc k2 hown.2 h1 h2) (((Below.refl _ _).alloc (by omega) _).app k3 (by simp; omega) hown.1)
end Go.Proofs.YtaaobpicaaeiiaaGreatDoor
namespace Go.Proofs.YtaaobpicaaeiiaaGreatDoor
open Go Go.RowKit Go.ChangeShapes Go.Lib

theorem RowT.weaken {B B' : Nat} {w : World} {v : Value} {xs : List Term} (h : RowT B w v xs) (hB : B' ≤ B) : RowT B' w v xs := ⟨ownsRow_weaken h.1 hB, h.2⟩
end Go.Proofs.YtaaobpicaaeiiaaGreatDoor
namespace Go.Proofs.YtaaobpicaaeiiaaGreatDoor
open Go

section
variable {α : Type} {S : List α} {x y : α} {k : Nat}
end
end Go.Proofs.YtaaobpicaaeiiaaGreatDoor
namespace Go.Proofs.YtaaobpicaaeiiaaGreatDoor
open Go Go.RowKit Go.ChangeShapes Go.Sort Go.Lib

end Go.Proofs.YtaaobpicaaeiiaaGreatDoor
namespace Go.Proofs.YtaaobpicaaeiiaaGreatDoor
open Go Go.RowKit Go.ChangeShapes Go.Sort Go.Lib

theorem RowF.nil (B : Nat) (w0 w : World) : RowF B w0 w (.slice none 0 0) [] := ⟨[], rfl, ⟨by simp, .inl ⟨rfl, rfl⟩⟩, fun i u x h _ => by simp at h⟩
end Go.Proofs.YtaaobpicaaeiiaaGreatDoor
