/- Plain laws of expressions that are parts of others. -/
import Derived.Test.YtoemmpfcnpdblaaGreatDoorJMeanU
import Derived.Test.YtoemmpfcnpdblaaGreatDoorJLaw
set_option linter.all false
namespace Go.Proofs.YtoemmpfcnpdblaaGreatDoor
open Go

theorem ofP_ok {c : Catalog} {e : LExpr} (h : (ofP c e).2 = 0) : checkE c e = 0 ∧ ofP c e = meanP c e := by
 unfold ofP at *
 by_cases q : checkE c e = 0
 ·rw [q]; exact ⟨rfl, rfl⟩
 ·rw [if_pos (by simpa using q)] at h; exact absurd h q
theorem rel_ok {c : Catalog} {e f : LExpr} (h : (relateP c e f).2 = 0) : (ofP c e).2 = 0 ∧ (ofP c f).2 = 0 ∧ (relateP c e f).1 = relP (ofP c e).1 (ofP c f).1 := by
 unfold relateP at *
 by_cases q : (ofP c e).2 = 0
 ·by_cases q2 : (ofP c f).2 = 0
  ·rw [q, q2]; exact ⟨rfl, rfl, rfl⟩
  ·rw [q] at h
   rw [if_neg (by decide), if_pos (by simpa using q2)] at h; exact absurd h q2
 ·rw [if_pos (by simpa using q)] at h; exact absurd h q
theorem sized_zero {l : List (List Term)} (h : (sizedP l).2 = 0) : (sizedP l).1 = l := by
 unfold sizedP at *
 split at h
 ·simp at h
 ·rename_i q; rw [if_neg q]
theorem rel_left {a b : List (List Term)} (h : ∀ ts, satP a ts = true → satP b ts = true) : relP a b = 1 ∨ relP a b = 3 := by
 unfold relP
 rw [if_pos (ent_iff.2 h)]
 split
 ·exact .inr rfl
 ·exact .inl rfl
theorem rel_right {a b : List (List Term)} (h : ∀ ts, satP b ts = true → satP a ts = true) : relP a b = 2 ∨ relP a b = 3 := by
 unfold relP
 rw [ent_iff.2 h]
 cases (sepP a b).isNone
 ·exact .inl rfl
 ·exact .inr rfl
theorem parts_and {c : Catalog} {e f : LExpr} {n x : ByteArray} (h : (relateP c e (.mk 2 n x [e, f])).2 = 0) : (relateP c e (.mk 2 n x [e, f])).1 = 2 ∨ (relateP c e (.mk 2 n x [e, f])).1 = 3 := by
 obtain ⟨h1, h2, h3⟩ := rel_ok h
 rw [h3]
 obtain ⟨-, e1⟩ := ofP_ok h1
 obtain ⟨-, e2⟩ := ofP_ok h2
 rw [e1] at h1 ⊢
 rw [e2] at h2 ⊢
 refine rel_right fun ts => ?_
 have k1 : meanP c (.mk 2 n x [e, f]) = meanKs c 2 true [] [e, f] := by rw [meanP]; rfl
 have k2 : meanKs c 2 true [] [e, f] = meanKs c 2 false (meanP c e).1 [f] := by rw [meanKs, h1]; rfl
 rw [k1, k2, meanKs] at h2 ⊢
 by_cases q : (meanP c f).2 = 0
 ·simp only [q] at h2 ⊢
  by_cases q2 : (sizedP (minimalP (pairsA (meanP c e).1 (meanP c f).1))).2 = 0
  ·simp only [q2] at h2 ⊢
   simp only [meanKs] at h2 ⊢
   simp (config := {decide := true}) only [if_false, Bool.not_true, beq_self_eq_true] at h2 ⊢
   rw [sized_zero h2, sized_zero q2, minimal_sat, minimal_sat, satP_pairs, Bool.and_eq_true]
   exact fun h => h.1
  ·simp [q2] at h2
 ·simp [q] at h2
theorem parts_or {c : Catalog} {e f : LExpr} {n x : ByteArray} (h : (relateP c e (.mk 3 n x [e, f])).2 = 0) : (relateP c e (.mk 3 n x [e, f])).1 = 1 ∨ (relateP c e (.mk 3 n x [e, f])).1 = 3 := by
 obtain ⟨h1, h2, h3⟩ := rel_ok h
 rw [h3]
 obtain ⟨-, e1⟩ := ofP_ok h1
 obtain ⟨-, e2⟩ := ofP_ok h2
 rw [e1] at h1 ⊢
 rw [e2] at h2 ⊢
 refine rel_left fun ts => ?_
 have k1 : meanP c (.mk 3 n x [e, f]) = meanKs c 3 true [] [e, f] := by rw [meanP]; rfl
 have k2 : meanKs c 3 true [] [e, f] = meanKs c 3 false ([] ++ (meanP c e).1) [f] := by rw [meanKs, h1]; rfl
 rw [k1, k2, meanKs] at h2 ⊢
 by_cases q : (meanP c f).2 = 0
 ·simp only [q] at h2 ⊢
  simp only [meanKs] at h2 ⊢
  simp (config := {decide := true}) only [if_false, if_true, Bool.not_true, beq_self_eq_true] at h2 ⊢
  rw [sized_zero h2, minimal_sat, satP_append, satP_append]
  intro h; rw [h]; simp
 ·simp [q] at h2
theorem parts_later {c : Catalog} {x : License} {z z' : ByteArray} (hx : x ∈ c.licenses) (hz : z = ByteArray.empty) (h : (relateP c (.mk 0 x.name z []) (.mk 1 x.name z' [])).2 = 0) :
  (relateP c (.mk 0 x.name z []) (.mk 1 x.name z' [])).1 = 1 ∨ (relateP c (.mk 0 x.name z []) (.mk 1 x.name z' [])).1 = 3 := by
 subst hz
 obtain ⟨h1, h2, h3⟩ := rel_ok h
 rw [h3]
 obtain ⟨c1, e1⟩ := ofP_ok h1
 obtain ⟨-, e2⟩ := ofP_ok h2
 have hc : checkC c = 0 := by
  unfold checkE at c1
  by_cases q : checkC c = 0
  ·exact q
  ·rw [if_pos (by simpa using q)] at c1; simp at c1
 rw [e1]
 rw [e2] at h2 ⊢
 refine rel_left fun ts => ?_
 have k1 : meanP c (.mk 0 x.name ByteArray.empty []) = ([[⟨x.name, ByteArray.empty⟩]], 0) := by rw [meanP]; rfl
 have k2 : meanP c (.mk 1 x.name z' []) = sizedP (minimalP (((laterC c x.name).getD []).map fun s => [⟨s, ByteArray.empty⟩])) := by rw [meanP]; rfl
 rw [k2] at h2 ⊢
 rw [k1, sized_zero h2, minimal_sat, (later_find hc hx).1, satP_iff, satP_iff]
 rintro ⟨a, ha, hs⟩
 refine ⟨a, ?_, hs⟩
 have ha : a = [⟨x.name, ByteArray.empty⟩] := by simpa using ha
 subst ha
 simp only [Option.getD_some, List.map_map, List.mem_map]
 exact ⟨x, later_mem.2 ⟨hx, rfl, Int.le_refl _⟩, rfl⟩
end Go.Proofs.YtoemmpfcnpdblaaGreatDoor
