/- Rows over alternatives: what the inputs read as. -/
import Derived.Test.YtoemmpfcnpdblaaGreatDoorJFrame
import Derived.Test.YtoemmpfcnpdblaaGreatDoorJExpG
set_option linter.all false
namespace Go.Proofs.YtoemmpfcnpdblaaGreatDoor
open Go Go.RowKit Go.ChangeShapes Go.WideShapes Go.ChangeAt
set_option maxRecDepth 100000 in
theorem open_list {α : Type} [Lay α] {t e : TypeId} (ht : Tryz.prog.underlying t = some (.slice e)) (ho : Opens (List α) t)
  {H : Type} {enc : TypeId × Value → H} {w : World} {spare : Nat → Bool} {held : Bool} {v : Value} {d : DataW H} {ps : List MemPlace} {r : Reach} {base : Nat}
  (hv : Value.okWide Tryz.prog w r base t v) (h : DataW.Trod enc Tryz.prog w 0 spare held t v d ps) : ∃ x : List α, Is w v x := by
 have hs := WideShapes.okWide_slice (P := Tryz.prog) (w := w) (r := r) (base := base) (t := t) (v := v) (e := e) ht hv
 obtain ⟨a, n, c, hq⟩ := hs
 subst hq
 obtain ⟨fuel, h⟩ := h
 have h0 : DataW.trod enc Tryz.prog w 0 spare held fuel t [Value.slice a n c] = some (d, ps) := h
 obtain ⟨-, x, h2⟩ := ho h0
 exact ⟨x, #[.slice a n c], rfl, rfl, Lay.congr (fun j _ => by simp) h2⟩

theorem opens_alt : Opens (List Term) 24 := opens_list Tryz.underlying24 (by kernel_rfl) (by decide) opens_Term
theorem opens_alts : Opens (List (List Term)) 22 := opens_list Tryz.underlying22 (by kernel_rfl) (by decide) opens_alt
end Go.Proofs.YtoemmpfcnpdblaaGreatDoor
