/- The clauses of a term: a row of the call's own. -/
import Derived.Deep.Upon
import Derived.Deep.AppendLies
import Derived.Test.YtaaobpicaaeiiaaGreatDoorJProY
import Derived.Test.YtaaobpicaaeiiaaGreatDoorJOwnU
set_option linter.all false
namespace Go.Proofs.YtaaobpicaaeiiaaGreatDoor
open Go Go.RowKit Go.ChangeShapes
theorem ownsRow_weaken {w : World} {B B' sz n : Nat} {e : TypeId} {v : Value} {xs : List Value} (h : w.ownsRow B e sz v n xs) (hB : B' ≤ B) : w.ownsRow B' e sz v n xs := by
 refine ⟨h.1, h.2.imp id ?_⟩
 rintro ⟨g, cap, cur, a, b, c⟩
 exact ⟨g, cap, cur, a, Nat.le_trans hB b, c⟩
end Go.Proofs.YtaaobpicaaeiiaaGreatDoor
namespace Go.Proofs.YtaaobpicaaeiiaaGreatDoor
open Go Go.RowKit Go.ChangeShapes
theorem run_clear_k {P : Program} (w : World) (t e ty : TypeId) (z : Value) (ht : P.underlying t = some (.slice e)) (hv : ∀ w, (zeroValue e).run P w = .ok z w) (ys : List Value) (b o n c : Nat) (hn : 0 < n) (hys : (Builtin.zeroCells z.cells n).toList = ys)
  (h1 : ∀ v ∈ ys, v.oneCell' = true) (hc : ∀ j, j < ys.length → (w.cell? ⟨b, o + j, none⟩).isSome = true) (hf : ∀ j, j < ys.length → w.frozen? ⟨b, o + j, none⟩ = false) :
  (Builtin.clear_ #[t] ty #[.slice (some ⟨b, o, none⟩) n c]).run P w = .ok (.tuple #[]) (w.setCells b o ys) := by
 have hst := run_storeCells_cells (P := P) b o ys 0 w (by simpa using hc) (by simpa using hf) h1
 simp only [Nat.add_zero] at hst
 obtain ⟨m, rfl⟩ : ∃ m, n = m + 1 := ⟨n - 1, by omega⟩
 simp [Builtin.clear_, run_underlying ht, hv, hys, hst]
theorem zeroCells_mem {z : Array Value} (hz : 0 < z.size) (h : ∀ v ∈ z.toList, v.oneCell' = true) {n : Nat} {v : Value} (hv : v ∈ (Builtin.zeroCells z n).toList) : v.oneCell' = true := by
 simp only [Builtin.zeroCells, Array.toList_map, List.mem_map] at hv
 obtain ⟨i, -, rfl⟩ := hv
 have hi : i % z.size < z.size := Nat.mod_lt _ hz
 rw [getElem!_pos z (i % z.size) hi]
 exact h _ (by simp)
theorem zeroCells_len (z : Array Value) (n : Nat) : (Builtin.zeroCells z n).toList.length = n * z.size := by simp [Builtin.zeroCells]
end Go.Proofs.YtaaobpicaaeiiaaGreatDoor
namespace Go.Proofs.YtaaobpicaaeiiaaGreatDoor
open Go Go.RowKit Go.ChangeShapes
end Go.Proofs.YtaaobpicaaeiiaaGreatDoor
namespace Go.Proofs.YtaaobpicaaeiiaaGreatDoor
open Go Go.RowKit Go.ChangeShapes
theorem OwnL.join {α : Type} [Lay α] {B : Nat} {E : TypeId → Prop} {e : TypeId} (hE : E e) {w w' : World} {v v' u : Value} {xs ys : List α} (h : OwnL B E e w v xs) (k : OwnL B E e w u ys) (hg : w.grownBy w' v.ownBlock)
  (ho : ∀ cs ds, w.ownsRow B e (Lay.n α) v xs.length cs → w.ownsRow B e (Lay.n α) u ys.length ds → w'.ownsRow B e (Lay.n α) v' (xs.length + ys.length) (cs ++ ds)) :
  OwnL B E e w' v' (xs ++ ys) := by
 obtain ⟨zs, h1, h2, h3⟩ := h
 obtain ⟨us, k1, k2, k3⟩ := k
 have hag : Agree B E w w' := Agree.app hE h2 hg
 refine ⟨zs ++ us, by simp [h1, k1], ?_, ?_⟩
 ·simpa using ho _ _ h2 k2
 ·intro i y z hy hz
  by_cases hi : i < xs.length
  ·rw [List.getElem?_append_left (by omega)] at hy
   rw [List.getElem?_append_left hi] at hz
   obtain ⟨a, b⟩ := h3 i y z hy hz
   exact ⟨a, fun w'' hw => b w'' (hag.trans hw)⟩
  ·rw [List.getElem?_append_right (by omega), h1] at hy
   rw [List.getElem?_append_right (by omega)] at hz
   obtain ⟨a, b⟩ := k3 _ y z hy hz
   exact ⟨a, fun w'' hw => b w'' (hag.trans hw)⟩
end Go.Proofs.YtaaobpicaaeiiaaGreatDoor
