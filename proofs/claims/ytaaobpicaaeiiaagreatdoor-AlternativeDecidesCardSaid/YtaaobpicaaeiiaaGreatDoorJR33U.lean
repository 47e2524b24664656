/- Plain laws of alternatives: what the reference computes is what the program computes. -/
import Derived.Deep.RegionHeld3
import Derived.Laws.StructEq
import Derived.Test.YtaaobpicaaeiiaaGreatDoorJAltG
import Derived.Test.YtaaobpicaaeiiaaGreatDoorJExpG
import Derived.Test.YtaaobpicaaeiiaaGreatDoorJRefV
import Derived.Test.YtaaobpicaaeiiaaGreatDoorJEntU
import Derived.Test.YtaaobpicaaeiiaaGreatDoorJLexU
set_option linter.all false
namespace Go.Proofs.YtaaobpicaaeiiaaGreatDoor
open Go

end Go.Proofs.YtaaobpicaaeiiaaGreatDoor
namespace Go.Proofs.YtaaobpicaaeiiaaGreatDoor
open Go Go.RowKit Go.ChangeShapes Go.Lib

theorem tkS : (∀ (α : Type) (l : List α) (i : Nat) (h : i < l.toArray.size), l.toArray[i] = l[i]'(by simpa using h)) ∧ (∀ (α : Type) (a : α) (l : List α) (h : 0 < (a :: l).length), (a :: l)[0] = a) ∧
  (∀ (α : Type) (a : α) (l : List α) (i : Nat) (h : i + 1 < (a :: l).length), (a :: l)[i + 1] = l[i]'(by simpa using h)) ∧ (∀ (α : Type) (l : List α) (i : Nat) (a : α), l.toArray.setIfInBounds i a = (l.set i a).toArray) ∧
  (∀ (α : Type) (a b : α) (l : List α), (a :: l).set 0 b = b :: l) ∧ (∀ (α : Type) (a b : α) (l : List α) (i : Nat), (a :: l).set (i + 1) b = a :: l.set i b) :=
 ⟨fun _ _ _ _ => List.getElem_toArray _, fun _ _ _ _ => rfl, fun _ _ _ _ _ => rfl, fun _ _ _ _ => List.setIfInBounds_toArray .., fun _ _ _ _ => rfl, fun _ _ _ _ _ => rfl⟩
end Go.Proofs.YtaaobpicaaeiiaaGreatDoor
namespace Go.Proofs.YtaaobpicaaeiiaaGreatDoor
open Go Go.RowKit Go.ChangeShapes Go.Lib

theorem wp_region_quietC {P : Program} {id : Nat} {Q : Exit → Act → World → Prop} {a : Act} {w : World} {l : List Oper} {C : World → Prop} (hm : P.follows .mixedOrders = true) (hB : Region.lexB .any l.toArray = true) (hC : C { w with drawn := w.drawn + 1 })
  (h : wpQuiet P l.toArray C (fun a' => ∀ w', C w' → Q .normal a' w') l a) : (Code.region id l.toArray true).wp P Q a w :=
 wp_region_quiet (C := C) hm hB hC (by simpa using h)
theorem quiet_no {P : Program} {ops : Array Oper} {C : World → Prop} {Q : Act → Prop} {a : Act} {o : Oper} {rest : List Oper} (hw : Region.wanted o (yielded ops a.tmps) = false) (h : wpQuiet P ops C Q rest (a.put o.dst undef)) : wpQuiet P ops C Q (o :: rest) a := by
 unfold wpQuiet; rw [hw]; exact h
theorem quiet_yes {P : Program} {ops : Array Oper} {C : World → Prop} {Q : Act → Prop} {a : Act} {o : Oper} {rest : List Oper} {v : Value} (hw : Region.wanted o (yielded ops a.tmps) = true) (h1 : ∀ w, C w → o.quietAt P a C w v) (h : wpQuiet P ops C Q rest (a.put o.dst v)) : wpQuiet P ops C Q (o :: rest) a := by
 unfold wpQuiet; rw [hw, if_pos rfl]; exact ⟨v, h1, h⟩
theorem box2 (w : World) (p q : Array Value) (t s : TypeId) : Below w.heap.size w ((w.alloc (.cells p t)).alloc (.cells q s)) ∧ (∀ (j : Nat) (v : Value), p[j]? = some v → ((w.alloc (.cells p t)).alloc (.cells q s)).cell? ⟨w.heap.size, j, none⟩ = some v) ∧
  ∀ (j : Nat) (v : Value), q[j]? = some v → ((w.alloc (.cells p t)).alloc (.cells q s)).cell? ⟨w.heap.size + 1, j, none⟩ = some v := by
 have h1 := World.alloc_heap_new w (.cells p t)
 have h2 := World.alloc_heap_new (w.alloc (.cells p t)) (.cells q s)
 have hb : Below (w.alloc (.cells p t)).heap.size (w.alloc (.cells p t)) ((w.alloc (.cells p t)).alloc (.cells q s)) := (Below.refl _ _).alloc (Nat.le_refl _) _
 rw [World.size_alloc] at h2
 exact ⟨((Below.refl _ _).alloc (Nat.le_refl _) _).trans (hb.mono (by simp)), fun j v h => kept hb (objcell2 h1 h), fun j v h => objcell2 h2 h⟩
theorem box3 (w : World) (p q r : Array Value) (t s u : TypeId) : Below w.heap.size w (((w.alloc (.cells p t)).alloc (.cells q s)).alloc (.cells r u)) ∧ (∀ (j : Nat) (v : Value), p[j]? = some v → (((w.alloc (.cells p t)).alloc (.cells q s)).alloc (.cells r u)).cell? ⟨w.heap.size, j, none⟩ = some v) ∧
  (∀ (j : Nat) (v : Value), q[j]? = some v → (((w.alloc (.cells p t)).alloc (.cells q s)).alloc (.cells r u)).cell? ⟨w.heap.size + 1, j, none⟩ = some v) ∧ ∀ (j : Nat) (v : Value), r[j]? = some v → (((w.alloc (.cells p t)).alloc (.cells q s)).alloc (.cells r u)).cell? ⟨w.heap.size + 1 + 1, j, none⟩ = some v := by
 obtain ⟨h1, h2, h3⟩ := box2 w p q t s
 have h4 := World.alloc_heap_new ((w.alloc (.cells p t)).alloc (.cells q s)) (.cells r u)
 have hb : Below ((w.alloc (.cells p t)).alloc (.cells q s)).heap.size ((w.alloc (.cells p t)).alloc (.cells q s)) (((w.alloc (.cells p t)).alloc (.cells q s)).alloc (.cells r u)) := (Below.refl _ _).alloc (Nat.le_refl _) _
 rw [World.size_alloc, World.size_alloc] at h4
 exact ⟨h1.trans (hb.mono h1.size), fun j v h => kept hb (h2 j v h), fun j v h => kept hb (h3 j v h), fun j v h => objcell2 h4 h⟩
end Go.Proofs.YtaaobpicaaeiiaaGreatDoor
namespace Go.Proofs.YtaaobpicaaeiiaaGreatDoor
open Go Go.RowKit Go.ChangeShapes Go.Lib

end Go.Proofs.YtaaobpicaaeiiaaGreatDoor
