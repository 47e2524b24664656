/- Plain laws: the expression of a meaning has this meaning. -/
import Derived.Test.YtaaobpicaaeiiaaGreatDoorJAEU
import Derived.Test.YtaaobpicaaeiiaaGreatDoorJLaw
import Derived.Test.YtaaobpicaaeiiaaGreatDoorJRfE
import Derived.Test.YtaaobpicaaeiiaaGreatDoorJMeaY
set_option linter.all false
namespace Go.Proofs.YtaaobpicaaeiiaaGreatDoor
open Go

theorem name_emp {n : ByteArray} (h : nameB n = true) : emp n = false := by
 cases q : emp n
 ·rfl
 ·exfalso
  unfold emp at q
  rw [List.isEmpty_iff] at q
  have : n.data.toList = [] := by rw [← ByteArray.toList_eq]; exact q
  unfold nameB at h
  rw [this] at h
  cases h
end Go.Proofs.YtaaobpicaaeiiaaGreatDoor
