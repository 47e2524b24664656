/- The frame of the statements' rows: what the listed variables give the walks. -/
import Derived.Test.YtoemmpfcnpdblaaGreatDoorRows
import Derived.Test.YtoemmpfcnpdblaaGreatDoorTie
import Derived.Test.YtoemmpfcnpdblaaGreatDoorCards
import Derived.Lay
import Derived.ShutString
import Derived.SizedLaws
import Derived.Shelf.Vars
import Derived.Lib.LaidTab
import Derived.Lib.LaidU8
import Derived.Test.YtoemmpfcnpdblaaGreatDoorJOpen
import Derived.Test.YtoemmpfcnpdblaaGreatDoorJProV
import Derived.Test.YtoemmpfcnpdblaaGreatDoorJExpG
set_option linter.all false
namespace Go.Proofs.YtoemmpfcnpdblaaGreatDoor
open Go Go.RowKit Go.ChangeShapes Go.WideShapes Go.ChangeAt
theorem own : ownKnob Tryz.prog.godebug = none := by kernel_rfl
theorem laidOut : laidOutB Tryz.prog = true := by kernel_rfl
theorem glob_of {W : World} {l : List (String × DataW Unit)} (h : laidMet Tryz.prog l W) (hm : ("internal/strconv.uint64pow10", Rows.laid_internal_strconv_uint64pow10) ∈ l) (hs : W.ShapedOpen Tryz.prog) : Glob W := by
 refine ⟨cell_of_shapedOpen_int (zero := #[.int .i64 0]) (t := 3) hs (of_decide_eq_true (by kernel_rfl)) (by kernel_rfl) rfl (by kernel_rfl) (by kernel_rfl) Tryz.underlying3, ?_⟩
 obtain ⟨g', t', cs, fuel, p, hg', ht', hvar, hd⟩ := Lib.laidMet.reads h hm
 have hg : Tryz.prog.globalNamed "internal/strconv.uint64pow10" = some 5 := by kernel_rfl
 have hty : (Tryz.prog.globals[5]?).map (·.type) = some 317 := by kernel_rfl
 obtain rfl := Option.some.inj (hg.symm.trans hg')
 obtain rfl := Option.some.inj (hty.symm.trans ht')
 unfold Lib.TabIs
 rw [hvar, ← Lib.cells_of_tab (k := .u64) (zs := Lib.pow10Tab) Tryz.underlying317 Tryz.underlying238 (by kernel_rfl) (by kernel_rfl) hd]
end Go.Proofs.YtoemmpfcnpdblaaGreatDoor
namespace Go.Proofs.YtoemmpfcnpdblaaGreatDoor
open Go Go.RowKit Go.ChangeShapes Go.WideShapes Go.ChangeAt
end Go.Proofs.YtoemmpfcnpdblaaGreatDoor
