/- The frame of the statement of lines: its list of bytes, and the table of spaces. -/
import Derived.Lib.Space
import Derived.Test.YtaneolfnnkppbaaGreatDoorJFrame
import Derived.Test.YtaneolfnnkppbaaGreatDoorJLinU
set_option linter.all false
namespace Go.Proofs.YtaneolfnnkppbaaGreatDoor
open Go Go.RowKit Go.ChangeShapes Go.WideShapes Go.ChangeAt
set_option maxRecDepth 100000 in
theorem open_list {α : Type} [Lay α] {t e : TypeId} (ht : Tryz.prog.underlying t = some (.slice e)) (ho : Opens (List α) t)
    {H : Type} {enc : TypeId × Value → H} {w : World} {spare : Nat → Bool} {held : Bool} {v : Value} {d : DataW H} {ps : List MemPlace} {r : Reach} {base : Nat}
    (hv : Value.okWide Tryz.prog w r base t v) (h : DataW.Trod enc Tryz.prog w 0 spare held t v d ps) : ∃ x : List α, Is w v x := by
  have hs := WideShapes.okWide_slice (P := Tryz.prog) (w := w) (r := r) (base := base) (t := t) (v := v) (e := e) ht hv
  obtain ⟨a, n, c, hq⟩ := hs
  subst hq
  obtain ⟨fuel, h⟩ := h
  have h0 : DataW.trod enc Tryz.prog w 0 spare held fuel t [Value.slice a n c] = some (d, ps) := h
  obtain ⟨-, x, h2⟩ := ho h0
  exact ⟨x, #[.slice a n c], rfl, rfl, Lay.congr (fun j _ => by simp) h2⟩
set_option maxRecDepth 100000 in
theorem sp_of {W : World} {l : List (String × DataW Unit)} (h : laidMet Tryz.prog l W) (hm : ("strings.asciiSpace", Rows.laid_strings_asciiSpace) ∈ l) : SpTab W := by
  obtain ⟨g', t', cs, fuel, p, hg', ht', hvar, hd⟩ := Lib.laidMet.reads h hm
  have hg : Tryz.prog.globalNamed "strings.asciiSpace" = some 0 := by kernel_rfl
  have hty : (Tryz.prog.globals[0]?).map (·.type) = some 143 := by kernel_rfl
  obtain rfl := Option.some.inj (hg.symm.trans hg')
  obtain rfl := Option.some.inj (hty.symm.trans ht')
  unfold SpTab Lib.TabIs
  rw [hvar, ← Lib.cells_of_tab (k := .u8) (zs := Lib.asciiSpaceTab) Tryz.underlying143 Tryz.underlying5 (by kernel_rfl) (by kernel_rfl) hd]
end Go.Proofs.YtaneolfnnkppbaaGreatDoor
