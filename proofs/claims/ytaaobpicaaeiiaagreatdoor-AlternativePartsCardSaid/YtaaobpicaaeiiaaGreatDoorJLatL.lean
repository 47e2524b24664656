/- Plain laws of Either and Both: a distributive lattice of minimal lists, as far as no result is too large; and what minimizing does. -/
import Derived.Test.YtaaobpicaaeiiaaGreatDoorJAltG
set_option linter.all false
namespace Go.Proofs.YtaaobpicaaeiiaaGreatDoor
open Go

theorem limited_ok {l : List (List Term)} (hm : MinL l) (h : (limitedP l).2 = 0) : (limitedP l).1 = l ∧ checkA l = 0 := by
 have hb : bigA l = false ∧ (limitedP l).1 = l := by
  unfold limitedP sizedP at *
  unfold bigA
  cases q : l.any (fun a => decide ((64 : Int) < a.length))
  ·simp only [q, Bool.false_eq_true, if_false] at h ⊢
   cases q2 : decide ((64 : Int) < l.length)
   ·simp [q2]
   ·simp [q2] at h
  ·simp [q] at h
 exact ⟨hb.2, checkA_ok.2 ⟨hm, hb.1⟩⟩
theorem badP_no {a b : List (List Term)} (ha : checkA a = 0) (hb : checkA b = 0) : badP a b = false := by unfold badP; rw [ha, hb]; rfl
theorem eitherL_ok {a b : List (List Term)} (ha : checkA a = 0) (hb : checkA b = 0) (h : (eitherP a b).2 = 0) :
  checkA (eitherP a b).1 = 0 ∧ MinL (eitherP a b).1 ∧ ∀ ts, satP (eitherP a b).1 ts = (satP a ts || satP b ts) := by
 unfold eitherP at *
 rw [badP_no ha hb] at *
 simp only [Bool.false_eq_true, if_false] at *
 obtain ⟨h1, h2⟩ := limited_ok (minimal_min _) h
 rw [h1]
 exact ⟨h2, minimal_min _, fun ts => by rw [minimal_sat, satP_append]⟩
theorem bothL_ok {a b : List (List Term)} (ha : checkA a = 0) (hb : checkA b = 0) (h : (bothP a b).2 = 0) :
  checkA (bothP a b).1 = 0 ∧ MinL (bothP a b).1 ∧ ∀ ts, satP (bothP a b).1 ts = (satP a ts && satP b ts) := by
 unfold bothP at *
 rw [badP_no ha hb] at *
 simp only [Bool.false_eq_true, if_false] at *
 obtain ⟨h1, h2⟩ := limited_ok (minimal_min _) h
 rw [h1]
 exact ⟨h2, minimal_min _, fun ts => by rw [minimal_sat, satP_pairs]⟩
structure OkL (large : Bool) (l : List (List Term)) (f : List Term → Bool) : Prop where
 ok : large = false → checkA l = 0 ∧ MinL l ∧ ∀ ts, satP l ts = f ts
theorem OkL.of {large : Bool} {l : List (List Term)} (h : checkA l = 0) : OkL large l (satP l) := ⟨fun _ => ⟨h, (checkA_ok.1 h).1, fun _ => rfl⟩⟩
theorem OkL.up {large big : Bool} {l : List (List Term)} {f : List Term → Bool} (h : OkL large l f) : OkL (large || big) l f := ⟨fun e => h.ok (by simp at e; exact e.1)⟩
theorem OkL.either {large : Bool} {a b : List (List Term)} {f g : List Term → Bool} (ha : OkL large a f) (hb : OkL large b g) : OkL (large || !((eitherP a b).2 == 0)) (eitherP a b).1 (fun ts => f ts || g ts) := by
 refine ⟨fun e => ?_⟩
 simp only [Bool.or_eq_false_iff, Bool.not_eq_false', beq_iff_eq] at e
 obtain ⟨a1, -, a3⟩ := ha.ok e.1
 obtain ⟨b1, -, b3⟩ := hb.ok e.1
 obtain ⟨h1, h2, h3⟩ := eitherL_ok a1 b1 e.2
 exact ⟨h1, h2, fun ts => by rw [h3, a3, b3]⟩
theorem OkL.both {large : Bool} {a b : List (List Term)} {f g : List Term → Bool} (ha : OkL large a f) (hb : OkL large b g) : OkL (large || !((bothP a b).2 == 0)) (bothP a b).1 (fun ts => f ts && g ts) := by
 refine ⟨fun e => ?_⟩
 simp only [Bool.or_eq_false_iff, Bool.not_eq_false', beq_iff_eq] at e
 obtain ⟨a1, -, a3⟩ := ha.ok e.1
 obtain ⟨b1, -, b3⟩ := hb.ok e.1
 obtain ⟨h1, h2, h3⟩ := bothL_ok a1 b1 e.2
 exact ⟨h1, h2, fun ts => by rw [h3, a3, b3]⟩
theorem OkL.same {large : Bool} {a b : List (List Term)} {f g : List Term → Bool} (ha : OkL large a f) (hb : OkL large b g) (h : ∀ ts, f ts = g ts) : large = true ∨ a = b := by
 cases large
 ·obtain ⟨-, a2, a3⟩ := ha.ok rfl
  obtain ⟨-, b2, b3⟩ := hb.ok rfl
  exact .inr (min_unique a2 b2 fun ts => by rw [a3, b3, h])
 ·exact .inl rfl
end Go.Proofs.YtaaobpicaaeiiaaGreatDoor
