/- Plain laws of Either and Both: a distributive lattice of minimal lists, as far as no result is too large; and what minimizing does. -/
import Derived.Test.YtaaobpicaaeiiaaGreatDoorJAltG
set_option linter.all false
namespace Go.Proofs.YtaaobpicaaeiiaaGreatDoor
open Go

theorem badP_no {a b : List (List Term)} (ha : checkA a = 0) (hb : checkA b = 0) : badP a b = false := by unfold badP; rw [ha, hb]; rfl
structure OkL (large : Bool) (l : List (List Term)) (f : List Term → Bool) : Prop where
 ok : large = false → checkA l = 0 ∧ MinL l ∧ ∀ ts, satP l ts = f ts
theorem OkL.of {large : Bool} {l : List (List Term)} (h : checkA l = 0) : OkL large l (satP l) := ⟨fun _ => ⟨h, (checkA_ok.1 h).1, fun _ => rfl⟩⟩
theorem OkL.same {large : Bool} {a b : List (List Term)} {f g : List Term → Bool} (ha : OkL large a f) (hb : OkL large b g) (h : ∀ ts, f ts = g ts) : large = true ∨ a = b := by
 cases large
 ·obtain ⟨-, a2, a3⟩ := ha.ok rfl
  obtain ⟨-, b2, b3⟩ := hb.ok rfl
  exact .inr (min_unique a2 b2 fun ts => by rw [a3, b3, h])
 ·exact .inl rfl
theorem check_minimal (l : List (List Term)) : checkA (minimalP l) = 0 ∨ checkA (minimalP l) = 10 := by
 rw [checkA_min (minimal_min l)]
 split
 ·exact .inr rfl
 ·exact .inl rfl
theorem conA_norm_l (ts a : List Term) : conA (normT a) ts = conA a ts := by
 rw [Bool.eq_iff_iff, conA_iff, conA_iff]
 exact ⟨fun h t ht => normT_mem.1 (h t ht), fun h t ht => normT_mem.2 (h t ht)⟩
theorem minimal_there (l : List (List Term)) : ∀ x ∈ minimalP l, (l.any fun y => conA x y && conA y x) = true := by
 intro x hx
 obtain ⟨y, hy, rfl⟩ := minimal_mem hx
 rw [List.any_eq_true]
 exact ⟨y, hy, by rw [conA_norm_l, conA_norm, conA_refl]; rfl⟩
theorem minimal_cover (l : List (List Term)) : ∀ y ∈ l, ((minimalP l).any fun x => conA y x) = true := by
 intro y hy
 have h : satP l y = true := satP_iff.2 ⟨y, hy, conA_refl y⟩
 rw [← minimal_sat] at h
 exact h
end Go.Proofs.YtaaobpicaaeiiaaGreatDoor
