/- Format of the program. -/
import Derived.Test.YtaneolfnnkppbaaGreatDoorJFmtU
set_option linter.all false
namespace Go.Proofs.YtaneolfnnkppbaaGreatDoor
open Go Go.RowKit Go.ChangeShapes

def formatC (c : Catalog) : ByteArray := if checkC c != 0 then ⟨#[]⟩ else mkS (formatL Lib.itoa c)
theorem name_32 {s : ByteArray} (h : nameB s = true) : s.size ≤ 32 := by
 rw [← by_len]
 unfold nameB nameL at h
 split at h
 ·cases h
 ·rename_i c r he
  rw [he]
  simp only [Bool.and_eq_true, decide_eq_true_eq] at h
  have := h.1.1.1.1.1
  simp; omega
theorem lines_size {t s : ByteArray} (h : s ∈ linesB t) : s.size ≤ t.size := by
 unfold linesB linesL at h
 split at h
 ·simp at h
 ·have := splitAt_size 10 t.data.toList [] s h
  rw [by_len] at this; simpa using this
structure LicOK (x : License) : Prop where
 name : x.name.size ≤ 32
 family : x.family.size ≤ 32
 version : 0 ≤ x.version ∧ x.version ≤ 999
 text : x.text.size ≤ 4096
 lines : (linesB x.text).length ≤ 999
theorem lic_ok {pre : List License} {x : License} (h : licErr pre x = 0) : LicOK x := by
 unfold licErr at h
 repeat' split at h
 all_goals try (cases h; done)
 rename_i h1 h2 h3 h4 h5 h6
 simp only [Bool.or_eq_true, Bool.not_eq_true', not_or, Bool.not_eq_false, decide_eq_true_eq, Int.not_lt] at h1 h2 h3
 exact ⟨name_32 h1.1, name_32 h1.2, ⟨h2.1, h2.2⟩, by omega, by omega⟩
theorem lics_ok {c : Catalog} (h : checkC c = 0) : ∀ x ∈ c.licenses, LicOK x := by
 intro x hx
 obtain ⟨pre, hp⟩ := firstErr_all (check_parts h).1 x hx
 exact lic_ok hp
theorem obj_kb {w w' : World} {b g : Nat} {cs : Array Value} {e : TypeId} {fr : Nat × Nat} (h : w.heap[g]? = some (.cells cs e fr)) (hk : KB b w w') (hg : b < g) (he : e ≠ 5) : w'.heap[g]? = some (.cells cs e fr) :=
 hk.2 g _ h (fun e => by cases e; omega) (fun c fz hc => by cases hc; exact he rfl)
theorem lic_mk {w : World} {g : Nat} {v0 v1 v2 v3 : Value} {e : TypeId} (h : w.heap[g]? = some (.cells #[v0, v1, v2, v3] e (0, 0))) : w.cell? ⟨g, 0, none⟩ = some v0 ∧ w.cell? ⟨g, 1, none⟩ = some v1 ∧ w.cell? ⟨g, 2, none⟩ = some v2 ∧ w.heap[g]? = some (.cells #[v0, v1, v2, v3] e (0, 0)) :=
 ⟨obj_cell h rfl, obj_cell h rfl, obj_cell h rfl, h⟩
theorem drew_size (w : World) : w.drew.heap.size = w.heap.size := rfl
theorem drewN_size (w : World) (n : Nat) : (w.drewN n).heap.size = w.heap.size := rfl
theorem incr_len : ∀ (l : List Int) (a : Int), incr ilt (a :: l) = true → (∀ n ∈ a :: l, n ≤ 5) → (l.length : Int) ≤ 5 - a
 | [], a, _, h => by have := h a (by simp); simp; omega
 | c :: r, a, h, hm => by
  simp only [incr, Bool.and_eq_true, ilt, decide_eq_true_eq] at h
  have h2 := incr_len r c h.2 (fun n hn => hm n (by simp at hn ⊢; exact .inr hn))
  simp only [List.length_cons]; omega
theorem lifts_ok {ls : List License} {pre : List Exc} {x : Exc} (h : excErr ls pre x = 0) : x.lifts.length ≤ 6 ∧ ∀ n ∈ x.lifts, 0 ≤ n ∧ n ≤ 5 := by
 unfold excErr at h
 repeat' split at h
 all_goals try (cases h; done)
 rename_i h1 h2 h3 h4 h5
 have h3' : x.lifts.all dutyOK = true := by simpa using h3
 have h5' : incr ilt x.lifts = true := by simpa using h5
 have hall : ∀ n ∈ x.lifts, 0 ≤ n ∧ n ≤ 5 := fun n hn => by
  have := List.all_eq_true.1 h3' n hn
  simp only [dutyOK, Bool.and_eq_true, decide_eq_true_eq] at this; exact this
 refine ⟨?_, hall⟩
 cases hl : x.lifts with
 | nil => simp
 | cons a r =>
  rw [hl] at h5' hall
  have := incr_len r a h5' (fun n hn => (hall n hn).2)
  have h0 := (hall a (by simp)).1
  simp only [List.length_cons]; omega
theorem clauses_ok {c : Catalog} (h : checkC c = 0) : ∀ x ∈ c.clauses, x.list.length ≤ 32 ∧ (0 ≤ x.way ∧ x.way ≤ 2) ∧ (0 ≤ x.relation ∧ x.relation ≤ 2) ∧ (0 ≤ x.duty ∧ x.duty ≤ 5) := by
 intro x hx
 refine ⟨lists_32 h x hx, ?_⟩
 obtain ⟨pre, hp⟩ := firstErr_all (check_parts h).2.2.1 x hx
 unfold clauseErr at hp
 repeat' split at hp
 all_goals try (cases hp; done)
 rename_i h1 h2 h3 h4 h5 h6
 simp only [Bool.or_eq_true, decide_eq_true_eq, not_or, Int.not_lt] at h2
 omega
theorem cells5 {w : World} {g : Nat} {v0 v1 v2 v3 v4 : Value} {e : TypeId} (h : w.heap[g]? = some (.cells #[v0, v1, v2, v3, v4] e (0, 0))) : w.cell? ⟨g, 0, none⟩ = some v0 ∧ w.cell? ⟨g, 1, none⟩ = some v1 ∧ w.cell? ⟨g, 2, none⟩ = some v2 ∧ w.cell? ⟨g, 3, none⟩ = some v3 ∧ w.cell? ⟨g, 4, none⟩ = some v4 :=
 ⟨obj_cell h rfl, obj_cell h rfl, obj_cell h rfl, obj_cell h rfl, obj_cell h rfl⟩
theorem obj_grown {w w' : World} {g : Nat} {o : Obj} {row : Option Nat} (h : w.heap[g]? = some o) (hg : w.grownBy w' row) (hne : some g ≠ row) : w'.heap[g]? = some o := by rw [hg.block g (obj_lt h) hne]; exact h
theorem excs_ok {c : Catalog} (h : checkC c = 0) : ∀ x ∈ c.exceptions, x.lifts.length ≤ 6 ∧ ∀ n ∈ x.lifts, 0 ≤ n ∧ n ≤ 5 := by
 intro x hx
 obtain ⟨pre, hp⟩ := firstErr_all (check_parts h).2.1 x hx
 exact lifts_ok hp
theorem joinB_mem {d : List UInt8} : ∀ {ws : List ByteArray} {s : ByteArray}, s ∈ ws → s.size ≤ (joinB d ws).length
 | [a], s, h => by simp at h; subst h; simp [joinB]
 | a :: b :: r, s, h => by
  rw [joinB]
  ·rcases List.mem_cons.1 h with rfl | h
   ·simp; try omega
   ·have := joinB_mem (d := d) h; simp; omega
  ·simp
theorem putL_sizes {l : List UInt8} {ws : List ByteArray} (h : l.length + (putL ws).length ≤ 140737488355328) : ∀ s ∈ ws, s.size ≤ maxLen := by
 intro s hs
 have := joinB_mem (d := [32]) hs
 unfold putL at h
 simp at h
 unfold maxLen; omega
theorem wpAnyH_mono {P : Program} {md : Region.Mode} {ops : Array Oper} {Q : Exit → Act → World → Prop} {S0 S : World → Prop} (hs : ∀ w, S w → S0 w) : ∀ {fuel : Nat} {listed : Array Bool} {a : Act} {w : World}, wpAnyH P md ops Q S fuel listed a w → wpAnyH P md ops Q S0 fuel listed a w
 | 0, _, _, _, h => h
 | _ + 1, _, _, _, h => ⟨h.1, fun i hi => wpOp_mono (fun _ _ h' => ⟨hs _ h'.1, wpAnyH_mono hs h'.2⟩) (h.2 i hi)⟩
set_option maxRecDepth 100000 in
set_option maxHeartbeats 1000000 in
theorem way_y (w : World) : Calls Tryz.prog 60 #[] w fun e w' => e = .returned (.slice (some ⟨w.heap.size, 0, none⟩) 3 3) ∧ ∃ T, T ≠ 5 ∧ w' = w.alloc (.cells wayA T) := by
 go_enter Tryz.func60, Tryz.ntmps60
 go_wp2
 go_ret
 exact ⟨rfl, _, by decide, rfl⟩
set_option maxRecDepth 100000 in
set_option maxHeartbeats 1000000 in
theorem rel_y (w : World) : Calls Tryz.prog 61 #[] w fun e w' => e = .returned (.slice (some ⟨w.heap.size, 0, none⟩) 3 3) ∧ ∃ T, T ≠ 5 ∧ w' = w.alloc (.cells relA T) := by
 go_enter Tryz.func61, Tryz.ntmps61
 go_wp2
 go_ret
 exact ⟨rfl, _, by decide, rfl⟩
set_option maxRecDepth 100000 in
set_option maxHeartbeats 1000000 in
theorem duty_y (w : World) : Calls Tryz.prog 59 #[] w fun e w' => e = .returned (.slice (some ⟨w.heap.size, 0, none⟩) 6 6) ∧ ∃ T, T ≠ 5 ∧ w' = w.alloc (.cells dutyA T) := by
 go_enter Tryz.func59, Tryz.ntmps59
 go_wp2
 go_ret
 exact ⟨rfl, _, by decide, rfl⟩
theorem keep0 {w W : World} {a1 a2 a3 a4 a5 : Addr} {v1 v2 v3 v4 v5 : Value} (h : w.cell? a1 = some v1 ∧ w.cell? a2 = some v2 ∧ w.cell? a3 = some v3 ∧ w.cell? a4 = some v4 ∧ w.cell? a5 = some v5) (hb : Below w.heap.size w W) : W.cell? a1 = some v1 ∧ W.cell? a2 = some v2 ∧ W.cell? a3 = some v3 ∧ W.cell? a4 = some v4 ∧ W.cell? a5 = some v5 := ⟨kept hb h.1, kept hb h.2.1, kept hb h.2.2.1, kept hb h.2.2.2.1, kept hb h.2.2.2.2⟩
theorem sub0 {w : World} {a1 a2 a3 a4 a5 : Addr} {v1 v2 v3 v4 v5 : Value} {g1 : Nat} {o1 : Obj} (h : w.cell? a1 = some v1 ∧ w.cell? a2 = some v2 ∧ w.cell? a3 = some v3 ∧ w.cell? a4 = some v4 ∧ w.cell? a5 = some v5 ∧ w.heap[g1]? = some o1) : w.cell? a1 = some v1 ∧ w.cell? a2 = some v2 ∧ w.cell? a3 = some v3 ∧ w.cell? a4 = some v4 ∧ w.cell? a5 = some v5 := ⟨h.1, h.2.1, h.2.2.1, h.2.2.2.1, h.2.2.2.2.1⟩
theorem add0 {w : World} {a1 a2 a3 a4 a5 : Addr} {v1 v2 v3 v4 v5 : Value} {g1 : Nat} {o1 : Obj} (h : w.cell? a1 = some v1 ∧ w.cell? a2 = some v2 ∧ w.cell? a3 = some v3 ∧ w.cell? a4 = some v4 ∧ w.cell? a5 = some v5) (k : w.heap[g1]? = some o1) : w.cell? a1 = some v1 ∧ w.cell? a2 = some v2 ∧ w.cell? a3 = some v3 ∧ w.cell? a4 = some v4 ∧ w.cell? a5 = some v5 ∧ w.heap[g1]? = some o1 := ⟨h.1, h.2.1, h.2.2.1, h.2.2.2.1, h.2.2.2.2, k⟩
theorem keep1 {w W : World} {a1 a2 a3 a4 a5 : Addr} {v1 v2 v3 v4 v5 : Value} {g1 : Nat} {o1 : Obj} (h : w.cell? a1 = some v1 ∧ w.cell? a2 = some v2 ∧ w.cell? a3 = some v3 ∧ w.cell? a4 = some v4 ∧ w.cell? a5 = some v5 ∧ w.heap[g1]? = some o1) (hb : Below w.heap.size w W) : W.cell? a1 = some v1 ∧ W.cell? a2 = some v2 ∧ W.cell? a3 = some v3 ∧ W.cell? a4 = some v4 ∧ W.cell? a5 = some v5 ∧ W.heap[g1]? = some o1 := ⟨kept hb h.1, kept hb h.2.1, kept hb h.2.2.1, kept hb h.2.2.2.1, kept hb h.2.2.2.2.1, obj_below h.2.2.2.2.2 hb⟩
theorem sub1 {w : World} {a1 a2 a3 a4 a5 : Addr} {v1 v2 v3 v4 v5 : Value} {g1 g2 : Nat} {o1 o2 : Obj} (h : w.cell? a1 = some v1 ∧ w.cell? a2 = some v2 ∧ w.cell? a3 = some v3 ∧ w.cell? a4 = some v4 ∧ w.cell? a5 = some v5 ∧ w.heap[g1]? = some o1 ∧ w.heap[g2]? = some o2) : w.cell? a1 = some v1 ∧ w.cell? a2 = some v2 ∧ w.cell? a3 = some v3 ∧ w.cell? a4 = some v4 ∧ w.cell? a5 = some v5 ∧ w.heap[g1]? = some o1 := ⟨h.1, h.2.1, h.2.2.1, h.2.2.2.1, h.2.2.2.2.1, h.2.2.2.2.2.1⟩
theorem add1 {w : World} {a1 a2 a3 a4 a5 : Addr} {v1 v2 v3 v4 v5 : Value} {g1 g2 : Nat} {o1 o2 : Obj} (h : w.cell? a1 = some v1 ∧ w.cell? a2 = some v2 ∧ w.cell? a3 = some v3 ∧ w.cell? a4 = some v4 ∧ w.cell? a5 = some v5 ∧ w.heap[g1]? = some o1) (k : w.heap[g2]? = some o2) : w.cell? a1 = some v1 ∧ w.cell? a2 = some v2 ∧ w.cell? a3 = some v3 ∧ w.cell? a4 = some v4 ∧ w.cell? a5 = some v5 ∧ w.heap[g1]? = some o1 ∧ w.heap[g2]? = some o2 := ⟨h.1, h.2.1, h.2.2.1, h.2.2.2.1, h.2.2.2.2.1, h.2.2.2.2.2, k⟩
theorem keep2 {w W : World} {a1 a2 a3 a4 a5 : Addr} {v1 v2 v3 v4 v5 : Value} {g1 g2 : Nat} {o1 o2 : Obj} (h : w.cell? a1 = some v1 ∧ w.cell? a2 = some v2 ∧ w.cell? a3 = some v3 ∧ w.cell? a4 = some v4 ∧ w.cell? a5 = some v5 ∧ w.heap[g1]? = some o1 ∧ w.heap[g2]? = some o2) (hb : Below w.heap.size w W) : W.cell? a1 = some v1 ∧ W.cell? a2 = some v2 ∧ W.cell? a3 = some v3 ∧ W.cell? a4 = some v4 ∧ W.cell? a5 = some v5 ∧ W.heap[g1]? = some o1 ∧ W.heap[g2]? = some o2 := ⟨kept hb h.1, kept hb h.2.1, kept hb h.2.2.1, kept hb h.2.2.2.1, kept hb h.2.2.2.2.1, obj_below h.2.2.2.2.2.1 hb, obj_below h.2.2.2.2.2.2 hb⟩
theorem sub2 {w : World} {a1 a2 a3 a4 a5 : Addr} {v1 v2 v3 v4 v5 : Value} {g1 g2 g3 : Nat} {o1 o2 o3 : Obj} (h : w.cell? a1 = some v1 ∧ w.cell? a2 = some v2 ∧ w.cell? a3 = some v3 ∧ w.cell? a4 = some v4 ∧ w.cell? a5 = some v5 ∧ w.heap[g1]? = some o1 ∧ w.heap[g2]? = some o2 ∧ w.heap[g3]? = some o3) : w.cell? a1 = some v1 ∧ w.cell? a2 = some v2 ∧ w.cell? a3 = some v3 ∧ w.cell? a4 = some v4 ∧ w.cell? a5 = some v5 ∧ w.heap[g1]? = some o1 ∧ w.heap[g2]? = some o2 := ⟨h.1, h.2.1, h.2.2.1, h.2.2.2.1, h.2.2.2.2.1, h.2.2.2.2.2.1, h.2.2.2.2.2.2.1⟩
theorem add2 {w : World} {a1 a2 a3 a4 a5 : Addr} {v1 v2 v3 v4 v5 : Value} {g1 g2 g3 : Nat} {o1 o2 o3 : Obj} (h : w.cell? a1 = some v1 ∧ w.cell? a2 = some v2 ∧ w.cell? a3 = some v3 ∧ w.cell? a4 = some v4 ∧ w.cell? a5 = some v5 ∧ w.heap[g1]? = some o1 ∧ w.heap[g2]? = some o2) (k : w.heap[g3]? = some o3) : w.cell? a1 = some v1 ∧ w.cell? a2 = some v2 ∧ w.cell? a3 = some v3 ∧ w.cell? a4 = some v4 ∧ w.cell? a5 = some v5 ∧ w.heap[g1]? = some o1 ∧ w.heap[g2]? = some o2 ∧ w.heap[g3]? = some o3 := ⟨h.1, h.2.1, h.2.2.1, h.2.2.2.1, h.2.2.2.2.1, h.2.2.2.2.2.1, h.2.2.2.2.2.2, k⟩
theorem keep3 {w W : World} {a1 a2 a3 a4 a5 : Addr} {v1 v2 v3 v4 v5 : Value} {g1 g2 g3 : Nat} {o1 o2 o3 : Obj} (h : w.cell? a1 = some v1 ∧ w.cell? a2 = some v2 ∧ w.cell? a3 = some v3 ∧ w.cell? a4 = some v4 ∧ w.cell? a5 = some v5 ∧ w.heap[g1]? = some o1 ∧ w.heap[g2]? = some o2 ∧ w.heap[g3]? = some o3) (hb : Below w.heap.size w W) : W.cell? a1 = some v1 ∧ W.cell? a2 = some v2 ∧ W.cell? a3 = some v3 ∧ W.cell? a4 = some v4 ∧ W.cell? a5 = some v5 ∧ W.heap[g1]? = some o1 ∧ W.heap[g2]? = some o2 ∧ W.heap[g3]? = some o3 := ⟨kept hb h.1, kept hb h.2.1, kept hb h.2.2.1, kept hb h.2.2.2.1, kept hb h.2.2.2.2.1, obj_below h.2.2.2.2.2.1 hb, obj_below h.2.2.2.2.2.2.1 hb, obj_below h.2.2.2.2.2.2.2 hb⟩
theorem keep3g {w W : World} {a1 a2 a3 a4 a5 : Addr} {v1 v2 v3 v4 v5 : Value} {g1 g2 g3 : Nat} {o1 o2 o3 : Obj} {row : Option Nat} (h : w.cell? a1 = some v1 ∧ w.cell? a2 = some v2 ∧ w.cell? a3 = some v3 ∧ w.cell? a4 = some v4 ∧ w.cell? a5 = some v5 ∧ w.heap[g1]? = some o1 ∧ w.heap[g2]? = some o2 ∧ w.heap[g3]? = some o3) (hg : w.grownBy W row) (n1 : some a1.block ≠ row) (n2 : some a2.block ≠ row) (n3 : some a3.block ≠ row) (n4 : some a4.block ≠ row) (n5 : some a5.block ≠ row) (k1 : some g1 ≠ row) (k2 : some g2 ≠ row) (k3 : some g3 ≠ row) : W.cell? a1 = some v1 ∧ W.cell? a2 = some v2 ∧ W.cell? a3 = some v3 ∧ W.cell? a4 = some v4 ∧ W.cell? a5 = some v5 ∧ W.heap[g1]? = some o1 ∧ W.heap[g2]? = some o2 ∧ W.heap[g3]? = some o3 := ⟨hg.cell h.1 n1, hg.cell h.2.1 n2, hg.cell h.2.2.1 n3, hg.cell h.2.2.2.1 n4, hg.cell h.2.2.2.2.1 n5, obj_grown h.2.2.2.2.2.1 hg k1, obj_grown h.2.2.2.2.2.2.1 hg k2, obj_grown h.2.2.2.2.2.2.2 hg k3⟩
set_option maxRecDepth 100000 in
set_option maxHeartbeats 40000000 in
theorem Format_p (w : World) (x0 : Value) (c : Catalog) (hg : Glob w) (h : Is w x0 c) (hlen : checkC c = 0 → (formatL Lib.itoa c).length ≤ 140737488355328) :
  Calls Tryz.prog 16 #[x0] w fun e w' => e = .returned (.tuple #[.string (formatC c), .int .i64 (checkC c)]) ∧ Below w.heap.size w w' := by
 have HI := Lib.hid h
 obtain ⟨a0, c0, a1, c1, a2, c2, a3, c3, rfl, l0, m0, r0, l1, m1, r1, l2, m2, r2, l3, m3, r3⟩ := Catalog.inv h
 have R0 := Lib.hid r0
 have R1 := Lib.hid r1
 have R2 := Lib.hid r2
 have R3 := Lib.hid r3
 clear h r0 r1 r2 r3 m0 m1 m2 m3 l1 l2 l3 l0
 go_enter Tryz.func16, Tryz.ntmps16
 go_wp2_with fail
 refine (Check_p _ _ c (hg.mono (by first | ((repeat (first | exact Below.refl _ _ | assumption | refine Below.drewN ?_ _ | refine Below.drew ?_ | refine Below.alloc ?_ (by first | exact Nat.le_refl _ | (simp; done) | (simp; omega) | omega) _ | refine Below.setCell ?_ (by first | exact Nat.le_refl _ | (simp; done) | (simp; omega) | omega) _ | refine Below.trans ?_ (Below.mono (by assumption) (by first | exact Nat.le_refl _ | (simp; done) | (simp; omega) | omega)))); done) | fail)) (HI.out.mono (by first | ((repeat (first | exact Below.refl _ _ | assumption | refine Below.drewN ?_ _ | refine Below.drew ?_ | refine Below.alloc ?_ (by first | exact Nat.le_refl _ | (simp; done) | (simp; omega) | omega) _ | refine Below.setCell ?_ (by first | exact Nat.le_refl _ | (simp; done) | (simp; omega) | omega) _ | refine Below.trans ?_ (Below.mono (by assumption) (by first | exact Nat.le_refl _ | (simp; done) | (simp; omega) | omega)))); done) | fail))).mono ?_
 rintro e w1 ⟨rfl, hb1⟩
 have d0 := kept hb1 (a := ⟨w.heap.size, 0, none⟩) (v := .slice a0 c.licenses.length c0) (by simp)
 have d1 := kept hb1 (a := ⟨w.heap.size, 1, none⟩) (v := .slice a1 c.exceptions.length c1) (by simp)
 have d2 := kept hb1 (a := ⟨w.heap.size, 2, none⟩) (v := .slice a2 c.clauses.length c2) (by simp)
 have d3 := kept hb1 (a := ⟨w.heap.size, 3, none⟩) (v := .slice a3 c.apart.length c3) (by simp)
 have hbw : Below w.heap.size w w1 := (by first | ((repeat (first | exact Below.refl _ _ | assumption | refine Below.drewN ?_ _ | refine Below.drew ?_ | refine Below.alloc ?_ (by first | exact Nat.le_refl _ | (simp; done) | (simp; omega) | omega) _ | refine Below.setCell ?_ (by first | exact Nat.le_refl _ | (simp; done) | (simp; omega) | omega) _ | refine Below.trans ?_ (Below.mono (by assumption) (by first | exact Nat.le_refl _ | (simp; done) | (simp; omega) | omega)))); done) | fail)
 have HB1 := Lib.hid hbw
 have hz1 : w.heap.size < w1.heap.size := cell_lt d0
 clear hb1 hbw
 cases q1 : (checkC c != 0)
 case true =>
  have HF : Hid (formatC c = ⟨#[]⟩) := by show _ = _; unfold formatC; rw [q1]; rfl
  go_wp2
  refine bodyPost_ret (v := .tuple #[.string ⟨#[]⟩, .int .i64 (checkC c)]) (by simp [results, Tryz.results16, go_sem]) rfl ⟨by rw [HF.out], by have hq := HB1.out; have hqs := hq.size; exact (by first | ((repeat (first | exact Below.refl _ _ | assumption | refine Below.drewN ?_ _ | refine Below.drew ?_ | refine Below.alloc ?_ (by first | exact Nat.le_refl _ | (simp; done) | (simp; omega) | omega) _ | refine Below.setCell ?_ (by first | exact Nat.le_refl _ | (simp; done) | (simp; omega) | omega) _ | refine Below.trans ?_ (Below.mono (by assumption) (by first | exact Nat.le_refl _ | (simp; done) | (simp; omega) | omega)))); done) | fail)⟩
 have hck : checkC c = 0 := by simpa using q1
 obtain ⟨FL, hFL⟩ : ∃ FL, FL = formatL Lib.itoa c := ⟨_, rfl⟩
 have HF : Hid (formatC c = mkS FL) := by show _ = _; unfold formatC; rw [q1, hFL]; rfl
 have HLEN : Hid (FL.length ≤ 140737488355328) := by rw [hFL]; exact hlen hck
 have HCK := Lib.hid hck
 have h32 := (check_parts hck).2.2.2.2.1
 have h16 := (check_parts hck).2.2.2.2.2.1
 have h128 := (check_parts hck).2.2.2.2.2.2.1
 have h64 := (check_parts hck).2.2.2.2.2.2.2
 have HOK := Lib.hid (lics_ok hck)
 have HOE := Lib.hid (excs_ok hck)
 have HOC := Lib.hid (clauses_ok hck)
 rw [hck]
 have HS0 : Hid (FL = [] ++ ((c.licenses.drop 0).map (fmtLic Lib.itoa)).flatten ++ ((c.exceptions.map fmtExc).flatten ++ ((c.clauses.map fmtClause).flatten ++ (c.apart.map fmtPair).flatten))) := by show _ = _; rw [hFL]; rfl
 clear q1 hck hFL hlen
 go_wp2
 have hbb : BW w1.heap.size [] (w1.alloc (.cells #[.pointer none, .slice none 0 0] 92)) := Lib.IsBuilderF.of (Lib.fresh_isBuilder _ _ _)
 have HBB := Lib.hid hbb
 have hbA : Below w1.heap.size w1 (w1.alloc (.cells #[.pointer none, .slice none 0 0] 92)) := (by first | ((repeat (first | exact Below.refl _ _ | assumption | refine Below.drewN ?_ _ | refine Below.drew ?_ | refine Below.alloc ?_ (by first | exact Nat.le_refl _ | (simp; done) | (simp; omega) | omega) _ | refine Below.setCell ?_ (by first | exact Nat.le_refl _ | (simp; done) | (simp; omega) | omega) _ | refine Below.trans ?_ (Below.mono (by assumption) (by first | exact Nat.le_refl _ | (simp; done) | (simp; omega) | omega)))); done) | fail)
 have d0' := kept hbA d0
 have d1' := kept hbA d1
 have d2' := kept hbA d2
 have d3' := kept hbA d3
 have hbw2 : Below w.heap.size w (w1.alloc (.cells #[.pointer none, .slice none 0 0] 92)) := by have hq := HB1.out; have hqs := hq.size; exact (by first | ((repeat (first | exact Below.refl _ _ | assumption | refine Below.drewN ?_ _ | refine Below.drew ?_ | refine Below.alloc ?_ (by first | exact Nat.le_refl _ | (simp; done) | (simp; omega) | omega) _ | refine Below.setCell ?_ (by first | exact Nat.le_refl _ | (simp; done) | (simp; omega) | omega) _ | refine Below.trans ?_ (Below.mono (by assumption) (by first | exact Nat.le_refl _ | (simp; done) | (simp; omega) | omega)))); done) | fail)
 have HB2 := Lib.hid hbw2
 clear hbA hbw2 d0 d1 d2 d3 hbb
 generalize w1.alloc (.cells #[.pointer none, .slice none 0 0] 92) = w2 at *
 have hz2 : w1.heap.size < w2.heap.size := HBB.out.lt
 generalize w1.heap.size = b at *
 go_loopw [30] (fun kv wr => ∃ (k : Nat) (l : List UInt8), k ≤ c.licenses.length ∧ kv = .int .i64 k ∧ Hid (KB b w2 wr) ∧ Hid (BW b l wr) ∧ Hid (FL = l ++ ((c.licenses.drop k).map (fmtLic Lib.itoa)).flatten ++ ((c.exceptions.map fmtExc).flatten ++ ((c.clauses.map fmtClause).flatten ++ (c.apart.map fmtPair).flatten)))) (fun kv _ => c.licenses.length - (intOf kv).toNat)
 case atStart => exact ⟨0, [], by omega, rfl, KB.refl _ _, HBB.out, HS0.out⟩
 case round =>
  obtain ⟨k, l, hk, rfl, hkb, hbw, hf⟩ := hrel
  have hwr : b < wr.heap.size := hbw.out.lt
  have HW := Lib.hid (HB2.out.trans (hkb.out.1.mono (Nat.le_of_lt hz1)))
  by_cases hki : k < c.licenses.length
  ·obtain ⟨x, hx⟩ := get_lt hki
   have hd := Lib.hid (drop_at hx)
   have hok := HOK.out x (List.mem_of_getElem? hx)
   obtain ⟨bx, off, rfl, hb, y0', y1', y2', y3', ys0, ys1, ys2, ys3⟩ := License.at_row R0.out hx
   have y0 := kept HW.out y0'
   have y1 := kept HW.out y1'
   have y2 := kept HW.out y2'
   have y3 := kept HW.out y3'
   have HS := Lib.hid (And.intro ys0 (And.intro ys1 (And.intro ys2 ys3)))
   have hs3 : bx < wr.heap.size := cell_lt y0
   have hs4 : w.heap.size < wr.heap.size := by omega
   clear hx y0' y1' y2' y3' ys0 ys1 ys2 ys3
   have htx := hok.text
   have hln := hok.lines
   have HOKx := Lib.hid hok
   clear hok
   go_wp2_with fail
   refine (lines_q x.text _ (hg.mono (by have hq := HW.out; exact (by first | ((repeat (first | exact Below.refl _ _ | assumption | refine Below.drewN ?_ _ | refine Below.drew ?_ | refine Below.alloc ?_ (by first | exact Nat.le_refl _ | (simp; done) | (simp; omega) | omega) _ | refine Below.setCell ?_ (by first | exact Nat.le_refl _ | (simp; done) | (simp; omega) | omega) _ | refine Below.trans ?_ (Below.mono (by assumption) (by first | exact Nat.le_refl _ | (simp; done) | (simp; omega) | omega)))); done) | fail))) (by omega)).mono ?_
   rintro e w3 ⟨la, lc, rfl, hos, hb3⟩
   have z0 := kept hb3 (a := ⟨wr.heap.size, 0, none⟩) (v := .string x.name) (by simp)
   have z1 := kept hb3 (a := ⟨wr.heap.size, 1, none⟩) (v := .string x.family) (by simp)
   have z2 := kept hb3 (a := ⟨wr.heap.size, 2, none⟩) (v := .int .i64 x.version) (by simp)
   have hbr3 : Below wr.heap.size wr w3 := (by first | ((repeat (first | exact Below.refl _ _ | assumption | refine Below.drewN ?_ _ | refine Below.drew ?_ | refine Below.alloc ?_ (by first | exact Nat.le_refl _ | (simp; done) | (simp; omega) | omega) _ | refine Below.setCell ?_ (by first | exact Nat.le_refl _ | (simp; done) | (simp; omega) | omega) _ | refine Below.trans ?_ (Below.mono (by assumption) (by first | exact Nat.le_refl _ | (simp; done) | (simp; omega) | omega)))); done) | fail)
   have ob3 := obj_below (obj_new wr (.cells #[.string x.name, .string x.family, .int .i64 x.version, .string x.text] 43)) hb3
   have hz3 : wr.heap.size < w3.heap.size := cell_lt z0
   have HB3 := Lib.hid hbr3
   have HOS := Lib.hid hos
   have HBW2 := Lib.hid ((hbw.out).below hbr3)
   have HKB2 := Lib.hid (hkb.out.trans (KB.of_below hbr3 (Nat.le_of_lt hwr)))
   clear hb3 hos hbr3 y0 y1 y2 y3
   have HX : Hid (FL = (l ++ putL [mkS wLicense, x.name, x.family, numB x.version, numB ((linesB x.text).length : Int)]) ++ (((linesB x.text).drop 0).map fun s => putL [s]).flatten ++ (((c.licenses.drop (k + 1)).map (fmtLic Lib.itoa)).flatten ++ ((c.exceptions.map fmtExc).flatten ++ ((c.clauses.map fmtClause).flatten ++ (c.apart.map fmtPair).flatten)))) := by
    show _ = _
    rw [hf.out, hd.out]; simp [fmtLic, numB]
   have hPL : l.length + (putL [mkS wLicense, x.name, x.family, numB x.version, numB ((linesB x.text).length : Int)]).length ≤ 140737488355328 := by
    have h1 := HLEN.out
    rw [HX.out] at h1
    simp only [List.length_append] at h1
    omega
   have HPL := Lib.hid hPL
   clear hPL
   have v1 : inI64 x.version := by have := HOKx.out.version; unfold inI64; omega
   have v2 : inI64 ((linesB x.text).length : Int) := by unfold inI64; omega
   go_wp2
   go_region_held3 (fun w' => w'.cell? ⟨wr.heap.size, 0, none⟩ = some (.string x.name) ∧ w'.cell? ⟨wr.heap.size, 1, none⟩ = some (.string x.family) ∧ w'.cell? ⟨wr.heap.size, 2, none⟩ = some (.int .i64 x.version) ∧ w'.heap[wr.heap.size]? = some (.cells #[.string x.name, .string x.family, .int .i64 x.version, .string x.text] 43 (0, 0))) (first | (go_keep; done) | exact lic_mk ob3 | exact lic_mk (obj_below ob3 (by assumption)) | exact lic_mk (obj_below (And.right (And.right (And.right (by assumption)))) (by assumption)) | exact lic_mk (obj_kb (obj_below (And.right (And.right (And.right (by assumption)))) (by first | ((repeat (first | exact Below.refl _ _ | assumption | refine Below.drewN ?_ _ | refine Below.drew ?_ | refine Below.alloc ?_ (by first | exact Nat.le_refl _ | (simp; done) | (simp; omega) | omega) _ | refine Below.setCell ?_ (by first | exact Nat.le_refl _ | (simp; done) | (simp; omega) | omega) _ | refine Below.trans ?_ (Below.mono (by assumption) (by first | exact Nat.le_refl _ | (simp; done) | (simp; omega) | omega)))); done) | fail)) (by assumption) hwr (by decide)) | exact lic_mk (obj_below (And.right (And.right (And.right (by assumption)))) (by first | ((repeat (first | exact Below.refl _ _ | assumption | refine Below.drewN ?_ _ | refine Below.drew ?_ | refine Below.alloc ?_ (by first | exact Nat.le_refl _ | (simp; done) | (simp; omega) | omega) _ | refine Below.setCell ?_ (by first | exact Nat.le_refl _ | (simp; done) | (simp; omega) | omega) _ | refine Below.trans ?_ (Below.mono (by assumption) (by first | exact Nat.le_refl _ | (simp; done) | (simp; omega) | omega)))); done) | fail))) (first | (go_at_call 58; refine (Itoa_p _ _ (hg.mono (by have hq := HW.out; have hq3 := HB3.out; exact (by first | ((repeat (first | exact Below.refl _ _ | assumption | refine Below.drewN ?_ _ | refine Below.drew ?_ | refine Below.alloc ?_ (by first | exact Nat.le_refl _ | (simp; done) | (simp; omega) | omega) _ | refine Below.setCell ?_ (by first | exact Nat.le_refl _ | (simp; done) | (simp; omega) | omega) _ | refine Below.trans ?_ (Below.mono (by assumption) (by first | exact Nat.le_refl _ | (simp; done) | (simp; omega) | omega)))); done) | fail))) (by first | exact v1 | exact v2)).mono ?_; rintro e w4 ⟨rfl, hb4⟩; have hb4s := hb4.size; try simp only [drew_size, drewN_size] at hb4s) | (go_at_call 54; refine (put_p _ b l _ [mkS wLicense, x.name, x.family, numB x.version, numB ((linesB x.text).length : Int)] (HBW2.out.below (by first | ((repeat (first | exact Below.refl _ _ | assumption | refine Below.drewN ?_ _ | refine Below.drew ?_ | refine Below.alloc ?_ (by first | exact Nat.le_refl _ | (simp; done) | (simp; omega) | omega) _ | refine Below.setCell ?_ (by first | exact Nat.le_refl _ | (simp; done) | (simp; omega) | omega) _ | refine Below.trans ?_ (Below.mono (by assumption) (by first | exact Nat.le_refl _ | (simp; done) | (simp; omega) | omega)))); done) | fail)) ((strs_box _ [mkS wLicense, x.name, x.family, numB x.version, numB ((linesB x.text).length : Int)] _ (putL_sizes HPL.out) (Nat.le_of_ble_eq_true rfl) (by rfl) rfl).mono (by first | ((repeat (first | exact Below.refl _ _ | assumption | refine Below.drewN ?_ _ | refine Below.drew ?_ | refine Below.alloc ?_ (by first | exact Nat.le_refl _ | (simp; done) | (simp; omega) | omega) _ | refine Below.setCell ?_ (by first | exact Nat.le_refl _ | (simp; done) | (simp; omega) | omega) _ | refine Below.trans ?_ (Below.mono (by assumption) (by first | exact Nat.le_refl _ | (simp; done) | (simp; omega) | omega)))); done) | fail)) (by simp) HPL.out).mono ?_; rintro e w5 ⟨rfl, hbw5, hkb5⟩))
   have HKB5 := Lib.hid (HKB2.out.trans (KB.trans (KB.of_below (w := w3) (by first | ((repeat (first | exact Below.refl _ _ | assumption | refine Below.drewN ?_ _ | refine Below.drew ?_ | refine Below.alloc ?_ (by first | exact Nat.le_refl _ | (simp; done) | (simp; omega) | omega) _ | refine Below.setCell ?_ (by first | exact Nat.le_refl _ | (simp; done) | (simp; omega) | omega) _ | refine Below.trans ?_ (Below.mono (by assumption) (by first | exact Nat.le_refl _ | (simp; done) | (simp; omega) | omega)))); done) | fail) (by omega)) hkb5))
   have HOS5 := Lib.hid (OwnV.kb (OwnV.below (HOS.out.weaken (B' := b + 1) (by simp; omega)) (by first | ((repeat (first | exact Below.refl _ _ | assumption | refine Below.drewN ?_ _ | refine Below.drew ?_ | refine Below.alloc ?_ (by first | exact Nat.le_refl _ | (simp; done) | (simp; omega) | omega) _ | refine Below.setCell ?_ (by first | exact Nat.le_refl _ | (simp; done) | (simp; omega) | omega) _ | refine Below.trans ?_ (Below.mono (by assumption) (by first | exact Nat.le_refl _ | (simp; done) | (simp; omega) | omega)))); done) | fail)) hkb5 (by omega) (by decide))
   have HBW5 := Lib.hid hbw5
   clear hbw5 hkb5 v1 v2
   obtain ⟨wo, rfl⟩ : ∃ u : World, u = wr := ⟨_, rfl⟩
   go_wp2
   go_loopw [52] (fun kv wr => ∃ (j : Nat) (m : List UInt8), j ≤ (linesB x.text).length ∧ kv = .int .i64 j ∧ Hid (KB b w5 wr) ∧ Hid (BW b m wr) ∧ Hid (FL = m ++ (((linesB x.text).drop j).map fun s => putL [s]).flatten ++ (((c.licenses.drop (k + 1)).map (fmtLic Lib.itoa)).flatten ++ ((c.exceptions.map fmtExc).flatten ++ ((c.clauses.map fmtClause).flatten ++ (c.apart.map fmtPair).flatten))))) (fun kv _ => (linesB x.text).length - (intOf kv).toNat)
   case atStart => exact ⟨0, _, by omega, rfl, KB.refl _ _, HBW5.out, HX.out⟩
   case round =>
    obtain ⟨j, m, hj, rfl, hkb6, hbw6, hf6⟩ := hrel
    have hwr : b < wr.heap.size := hbw6.out.lt
    by_cases hji : j < (linesB x.text).length
    ·obtain ⟨y, hy⟩ := get_lt hji
     have hd6 := Lib.hid (drop_at hy)
     obtain ⟨a', c', he, hl1, hl2, hl3⟩ := list_inv ((HOS5.out.kb hkb6.out (by omega) (by decide)).strs (fun s hs => by have := lines_size hs; unfold maxLen; omega))
     obtain ⟨rfl, rfl⟩ : la = a' ∧ lc = c' := by simpa using he
     obtain ⟨by_, offy, rfl, hby, hyc, hysz⟩ := str_at hl3 hy
     have hX6 : Hid (FL = (m ++ putL [y]) ++ (((linesB x.text).drop (j + 1)).map fun s => putL [s]).flatten ++ (((c.licenses.drop (k + 1)).map (fmtLic Lib.itoa)).flatten ++ ((c.exceptions.map fmtExc).flatten ++ ((c.clauses.map fmtClause).flatten ++ (c.apart.map fmtPair).flatten)))) := by
      show _ = _
      rw [hf6.out, hd6.out]; simp
     have hPL6 : m.length + (putL [y]).length ≤ 140737488355328 := by
      have h1 := HLEN.out
      rw [hX6.out] at h1
      simp only [List.length_append] at h1
      omega
     have HPL6 := Lib.hid hPL6
     clear hy he hl1 hl2 hl3 hPL6
     go_wp2_with fail
     refine (put_p _ b m _ [y] (hbw6.out.below (by first | ((repeat (first | exact Below.refl _ _ | assumption | refine Below.drewN ?_ _ | refine Below.drew ?_ | refine Below.alloc ?_ (by first | exact Nat.le_refl _ | (simp; done) | (simp; omega) | omega) _ | refine Below.setCell ?_ (by first | exact Nat.le_refl _ | (simp; done) | (simp; omega) | omega) _ | refine Below.trans ?_ (Below.mono (by assumption) (by first | exact Nat.le_refl _ | (simp; done) | (simp; omega) | omega)))); done) | fail)) ((strs_box _ [y] _ (putL_sizes HPL6.out) (Nat.le_of_ble_eq_true rfl) (by rfl) rfl).mono (by first | ((repeat (first | exact Below.refl _ _ | assumption | refine Below.drewN ?_ _ | refine Below.drew ?_ | refine Below.alloc ?_ (by first | exact Nat.le_refl _ | (simp; done) | (simp; omega) | omega) _ | refine Below.setCell ?_ (by first | exact Nat.le_refl _ | (simp; done) | (simp; omega) | omega) _ | refine Below.trans ?_ (Below.mono (by assumption) (by first | exact Nat.le_refl _ | (simp; done) | (simp; omega) | omega)))); done) | fail)) (by simp) HPL6.out).mono ?_
     rintro e w7 ⟨rfl, hbw7, hkb7⟩
     have HBW7 := Lib.hid hbw7
     have HKB7 := Lib.hid (hkb6.out.trans (KB.trans (KB.of_below (w := wr) (by first | ((repeat (first | exact Below.refl _ _ | assumption | refine Below.drewN ?_ _ | refine Below.drew ?_ | refine Below.alloc ?_ (by first | exact Nat.le_refl _ | (simp; done) | (simp; omega) | omega) _ | refine Below.setCell ?_ (by first | exact Nat.le_refl _ | (simp; done) | (simp; omega) | omega) _ | refine Below.trans ?_ (Below.mono (by assumption) (by first | exact Nat.le_refl _ | (simp; done) | (simp; omega) | omega)))); done) | fail) (by omega)) hkb7))
     clear hbw7 hkb7
     go_wp2
     go_roundw
     case rel => exact ⟨j + 1, _, by omega, by go_num, HKB7.out, HBW7.out, hX6.out⟩
     case measure => simp [intOf]; omega
    ·have hX7 : Hid (FL = m ++ ((c.licenses.drop (k + 1)).map (fmtLic Lib.itoa)).flatten ++ ((c.exceptions.map fmtExc).flatten ++ ((c.clauses.map fmtClause).flatten ++ (c.apart.map fmtPair).flatten))) := by
      show _ = _
      rw [hf6.out, List.drop_eq_nil_of_le (by omega)]; simp
     have HKB8 := Lib.hid (HKB5.out.trans hkb6.out)
     go_wp2
     go_roundw
     case rel => exact ⟨k + 1, m, by omega, by go_num, HKB8.out, hbw6.out, hX7.out⟩
     case measure => simp [intOf]; omega
  have HS1 : Hid (FL = l ++ ((c.exceptions.drop 0).map fmtExc).flatten ++ ((c.clauses.map fmtClause).flatten ++ (c.apart.map fmtPair).flatten)) := by
   show _ = _
   rw [hf.out, List.drop_eq_nil_of_le (by omega)]; simp
  have D1 := kept_in hkb.out.1 (by show w.heap.size < b; omega) d1'
  have D2 := kept_in hkb.out.1 (by show w.heap.size < b; omega) d2'
  have D3 := kept_in hkb.out.1 (by show w.heap.size < b; omega) d3'
  clear hf
  obtain ⟨wa, rfl⟩ : ∃ u : World, u = wr := ⟨_, rfl⟩
  go_wp2
  go_loopw [65] (fun kv wr => ∃ (k : Nat) (l : List UInt8), k ≤ c.exceptions.length ∧ kv = .int .i64 k ∧ Hid (KB b w2 wr) ∧ Hid (BW b l wr) ∧ Hid (FL = l ++ ((c.exceptions.drop k).map fmtExc).flatten ++ ((c.clauses.map fmtClause).flatten ++ (c.apart.map fmtPair).flatten))) (fun kv _ => c.exceptions.length - (intOf kv).toNat)
  case atStart => exact ⟨0, l, by omega, rfl, hkb.out, hbw.out, HS1.out⟩
  case round =>
   clear hkb hbw HS1 HW D1 D2 D3 hwr hki hk
   obtain ⟨k, l, hk, rfl, hkb, hbw, hf⟩ := hrel
   have hwr : b < wr.heap.size := hbw.out.lt
   have HW := Lib.hid (HB2.out.trans (hkb.out.1.mono (Nat.le_of_lt hz1)))
   obtain ⟨wo, rfl⟩ : ∃ u : World, u = wr := ⟨_, rfl⟩
   by_cases hki : k < c.exceptions.length
   ·obtain ⟨x, hx⟩ := get_lt hki
    have hd := Lib.hid (drop_at hx)
    obtain ⟨hx6, hxm⟩ := HOE.out x (List.mem_of_getElem? hx)
    have HXM := Lib.hid hxm
    obtain ⟨bx, off, rfl, hb, ya, yc, y0', y1', y2', ys0, ys1, hyl, hyc, hyr⟩ := Exc.at_row R1.out hx
    have y0 := kept HW.out y0'
    have y1 := kept HW.out y1'
    have y2 := kept HW.out y2'
    have HR := Lib.hid hyr
    have hs3 : bx < wo.heap.size := cell_lt y0
    have hs4 : w.heap.size < wo.heap.size := by omega
    have HX : Hid (FL = (l ++ putL ([mkS wException, x.name, x.license] ++ x.lifts.map dutyB)) ++ (((c.exceptions.drop (k + 1)).map fmtExc).flatten ++ ((c.clauses.map fmtClause).flatten ++ (c.apart.map fmtPair).flatten))) := by
     show _ = _
     rw [hf.out, hd.out]; simp [fmtExc]
    have hPL : l.length + (putL ([mkS wException, x.name, x.license] ++ x.lifts.map dutyB)).length ≤ 140737488355328 := by
     have h1 := HLEN.out
     rw [HX.out] at h1
     simp only [List.length_append] at h1
     omega
    have HPL := Lib.hid hPL
    clear hx y0' y1' y2' ys0 ys1 hyl hyc hyr hxm hPL
    go_wp2
    have hown : OwnV Value.string wo.heap.size 9 ((wo.alloc (.cells #[.string x.name, .string x.license, .slice ya x.lifts.length yc] 62)).alloc (.cells #[.string (mkS wException), .string x.name, .string x.license] 9)) (.slice (some ⟨wo.heap.size + 1, 0, none⟩) 3 3) [mkS wException, x.name, x.license] :=
     ⟨rfl, .inr ⟨wo.heap.size + 1, 3, #[.string (mkS wException), .string x.name, .string x.license], rfl, Nat.le_succ _, by have := obj_new (wo.alloc (.cells #[.string x.name, .string x.license, .slice ya x.lifts.length yc] 62)) (.cells #[.string (mkS wException), .string x.name, .string x.license] 9); simpa using this, Nat.le_refl _, Nat.le_of_ble_eq_true rfl, rfl, rfl⟩⟩
    have hbA : Below wo.heap.size wo ((wo.alloc (.cells #[.string x.name, .string x.license, .slice ya x.lifts.length yc] 62)).alloc (.cells #[.string (mkS wException), .string x.name, .string x.license] 9)) := (by first | ((repeat (first | exact Below.refl _ _ | assumption | refine Below.drewN ?_ _ | refine Below.drew ?_ | refine Below.alloc ?_ (by first | exact Nat.le_refl _ | (simp; done) | (simp; omega) | omega) _ | refine Below.setCell ?_ (by first | exact Nat.le_refl _ | (simp; done) | (simp; omega) | omega) _ | refine Below.trans ?_ (Below.mono (by assumption) (by first | exact Nat.le_refl _ | (simp; done) | (simp; omega) | omega)))); done) | fail)
    have HBA := Lib.hid hbA
    have HOWN := Lib.hid hown
    clear hown hbA y0 y1 y2
    go_loopw [14, 77] (fun vo kv wr => ∃ j : Nat, j ≤ x.lifts.length ∧ kv = .int .i64 j ∧ Hid (Below wo.heap.size wo wr) ∧ Hid (OwnV Value.string wo.heap.size 9 wr vo ([mkS wException, x.name, x.license] ++ (x.lifts.map dutyB).take j))) (fun _ kv _ => x.lifts.length - (intOf kv).toNat)
    case atStart => exact ⟨0, by omega, rfl, HBA.out, by show OwnV _ _ _ _ _ _; rw [show ([mkS wException, x.name, x.license] ++ (x.lifts.map dutyB).take 0) = [mkS wException, x.name, x.license] from by simp]; exact HOWN.out⟩
    case round =>
     clear HBA HOWN
     obtain ⟨j, hj, rfl, hb6, HO⟩ := hrel
     have hwr6 : wo.heap.size ≤ wr.heap.size := hb6.out.size
     by_cases hji : j < x.lifts.length
     ·obtain ⟨y, hy⟩ := get_lt hji
      obtain ⟨m, rfl⟩ : ∃ m : Nat, y = m := ⟨y.toNat, by have := HXM.out y (List.mem_of_getElem? hy); omega⟩
      have hm6 : m < 6 := by have := HXM.out m (List.mem_of_getElem? hy); omega
      have HT : Hid ((x.lifts.map dutyB).take (j + 1) = (x.lifts.map dutyB).take j ++ [dutyB m]) := by show _ = _; exact take_at (by simp [hy])
      have hlen : ([mkS wException, x.name, x.license] ++ (x.lifts.map dutyB).take j).length = 3 + j := by simp; omega
      obtain ⟨b6, o6, rfl, hb6', hc6, -⟩ := int_at HR.out hy
      have hc7 := kept hb6.out (kept HW.out hc6)
      have hs6 : b6 < wr.heap.size := cell_lt hc7
      clear hy hc6
      go_wp2_with fail
      refine (duty_at m hm6 _).mono ?_
      rintro e w7 ⟨g7, rfl, hcg, hg7, hb7⟩
      have HO7 := Lib.hid (OwnV.below HO.out hb7)
      have hb67 : Below wo.heap.size wo w7 := by have hq := hb6.out; exact (by first | ((repeat (first | exact Below.refl _ _ | assumption | refine Below.drewN ?_ _ | refine Below.drew ?_ | refine Below.alloc ?_ (by first | exact Nat.le_refl _ | (simp; done) | (simp; omega) | omega) _ | refine Below.setCell ?_ (by first | exact Nat.le_refl _ | (simp; done) | (simp; omega) | omega) _ | refine Below.trans ?_ (Below.mono (by assumption) (by first | exact Nat.le_refl _ | (simp; done) | (simp; omega) | omega)))); done) | fail)
      have HB67 := Lib.hid hb67
      have hw7 : wo.heap.size ≤ w7.heap.size := hb67.size
      clear hb7 hb67
      go_wp2_with (at_builtin; go_loud (refine app_ow rfl _ _ rfl wo.heap.size _ _ rfl HO7.out (dutyB m) ?e0 ?e1 ?e2 ?_))
      case e0 => rfl
      case e1 => omega
      case e2 => omega
      intro v' w8 ho hb8 hsz8
      have HB8 := Lib.hid (HB67.out.trans hb8)
      have HO8 : Hid (OwnV Value.string wo.heap.size 9 w8 v' ([mkS wException, x.name, x.license] ++ (x.lifts.map dutyB).take (j + 1))) := by
       show OwnV _ _ _ _ _ _
       rw [HT.out, ← List.append_assoc]
       exact ho
      clear ho hb8 hsz8
      go_wp2
      go_roundw
      case rel => exact ⟨j + 1, by omega, by go_num, HB8.out, HO8.out⟩
      case measure => simp [intOf]; omega
     ·have hj' : (x.lifts.map dutyB).take j = x.lifts.map dutyB := List.take_of_length_le (by simp; omega)
      rw [hj'] at HO
      clear hj'
      go_wp2_with fail
      refine (put_p _ b l _ ([mkS wException, x.name, x.license] ++ x.lifts.map dutyB) (hbw.out.below hb6.out) (OwnV.strs HO.out (putL_sizes HPL.out)) (by simp) HPL.out).mono ?_
      rintro e w7 ⟨rfl, hbw7, hkb7⟩
      have HBW7 := Lib.hid hbw7
      have HKB7 := Lib.hid (hkb.out.trans (KB.trans (KB.of_below hb6.out (by omega)) hkb7))
      have HX7 : Hid (FL = (l ++ putL ([mkS wException, x.name, x.license] ++ x.lifts.map dutyB)) ++ ((c.exceptions.drop (k + 1)).map fmtExc).flatten ++ ((c.clauses.map fmtClause).flatten ++ (c.apart.map fmtPair).flatten)) := by show _ = _; rw [HX.out]; simp only [List.append_assoc]
      clear hbw7 hkb7
      go_wp2
      go_roundw
      case rel => exact ⟨k + 1, _, by omega, by go_num, HKB7.out, HBW7.out, HX7.out⟩
      case measure => simp [intOf]; omega
   have HS2 : Hid (FL = l ++ ((c.clauses.drop 0).map fmtClause).flatten ++ (c.apart.map fmtPair).flatten) := by
    show _ = _
    rw [hf.out, List.drop_eq_nil_of_le (by omega)]; simp
   have D2 := kept_in hkb.out.1 (by show w.heap.size < b; omega) d2'
   have D3 := kept_in hkb.out.1 (by show w.heap.size < b; omega) d3'
   clear hf
   go_wp2
   go_loopw [96] (fun kv wr => ∃ (k : Nat) (l : List UInt8), k ≤ c.clauses.length ∧ kv = .int .i64 k ∧ Hid (KB b w2 wr) ∧ Hid (BW b l wr) ∧ Hid (FL = l ++ ((c.clauses.drop k).map fmtClause).flatten ++ (c.apart.map fmtPair).flatten)) (fun kv _ => c.clauses.length - (intOf kv).toNat)
   case atStart => exact ⟨0, l, by omega, rfl, hkb.out, hbw.out, HS2.out⟩
   case round =>
    clear hkb hbw HS2 HW D2 D3 hwr hki hk
    obtain ⟨k, l, hk, rfl, hkb, hbw, hf⟩ := hrel
    have hwr : b < wr.heap.size := hbw.out.lt
    have HW := Lib.hid (HB2.out.trans (hkb.out.1.mono (Nat.le_of_lt hz1)))
    obtain ⟨wo, rfl⟩ : ∃ u : World, u = wr := ⟨_, rfl⟩
    by_cases hki : k < c.clauses.length
    ·obtain ⟨x, hx⟩ := get_lt hki
     have hd := Lib.hid (drop_at hx)
     obtain ⟨hx6, ⟨hw0, hw1⟩, ⟨hr0, hr1⟩, hu0, hu1⟩ := HOC.out x (List.mem_of_getElem? hx)
     obtain ⟨lic, way, rel, dut, lst⟩ := x
     dsimp only at *
     obtain ⟨way, rfl⟩ : ∃ m : Nat, way = m := ⟨way.toNat, by omega⟩
     obtain ⟨rel, rfl⟩ : ∃ m : Nat, rel = m := ⟨rel.toNat, by omega⟩
     obtain ⟨dut, rfl⟩ : ∃ m : Nat, dut = m := ⟨dut.toNat, by omega⟩
     have hm1 : way < 3 := by omega
     have hm2 : rel < 3 := by omega
     have hm3 : dut < 6 := by omega
     obtain ⟨bx, off, rfl, hb, ya, yc, y0', y1', y2', y3', y4', ys0, ys1, ys2, ys3, hyl, hyc, hyr⟩ := Clause.at_row R2.out hx
     dsimp only at *
     have y0 := kept HW.out y0'
     have y1 := kept HW.out y1'
     have y2 := kept HW.out y2'
     have y3 := kept HW.out y3'
     have y4 := kept HW.out y4'
     have HLI := Lib.hid ((list_mk hyl hyc hyr).mono HW.out)
     have hs3 : bx < wo.heap.size := cell_lt y0
     have hs4 : w.heap.size < wo.heap.size := by omega
     have HX : Hid (FL = (l ++ putL ([mkS wClause, lic, wayB way, relB rel, dutyB dut] ++ lst)) ++ (((c.clauses.drop (k + 1)).map fmtClause).flatten ++ (c.apart.map fmtPair).flatten)) := by
      show _ = _
      rw [hf.out, hd.out]; simp [fmtClause]
     have hPL : l.length + (putL ([mkS wClause, lic, wayB way, relB rel, dutyB dut] ++ lst)).length ≤ 140737488355328 := by
      have h1 := HLEN.out
      rw [HX.out] at h1
      simp only [List.length_append] at h1
      omega
     have HPL := Lib.hid hPL
     clear hx y0' y1' y2' y3' y4' ys0 ys1 ys2 ys3 hyl hyc hyr hPL hw0 hw1 hr0 hr1 hu0 hu1 hd
     go_wp2
     have ob3 := obj_new wo (.cells #[.string lic, .int .i64 way, .int .i64 rel, .int .i64 dut, .slice ya lst.length yc] 65)
     have i1 : (0 : Int) ≤ (way : Int) := Int.natCast_nonneg _
     have i2 : (0 : Int) ≤ (rel : Int) := Int.natCast_nonneg _
     have i3 : (0 : Int) ≤ (dut : Int) := Int.natCast_nonneg _
     have j1 : (way : Int) < 3 := by omega
     have j2 : (rel : Int) < 3 := by omega
     have j3 : (dut : Int) < 6 := by omega
     have hA1 := wayA_at hm1
     have hA2 := relA_at hm2
     have hA3 := dutyA_at hm3
     have hc0 := obj_cell ob3 (j := 0) rfl
     have hc1 := obj_cell ob3 (j := 1) rfl
     have hc2 := obj_cell ob3 (j := 2) rfl
     have hc3 := obj_cell ob3 (j := 3) rfl
     have hc4 := obj_cell ob3 (j := 4) rfl
     have hbx : Below wo.heap.size wo (wo.alloc (.cells #[.string lic, .int .i64 way, .int .i64 rel, .int .i64 dut, .slice ya lst.length yc] 65)) := (by first | ((repeat (first | exact Below.refl _ _ | assumption | refine Below.drewN ?_ _ | refine Below.drew ?_ | refine Below.alloc ?_ (by first | exact Nat.le_refl _ | (simp; done) | (simp; omega) | omega) _ | refine Below.setCell ?_ (by first | exact Nat.le_refl _ | (simp; done) | (simp; omega) | omega) _ | refine Below.trans ?_ (Below.mono (by assumption) (by first | exact Nat.le_refl _ | (simp; done) | (simp; omega) | omega)))); done) | fail)
     have hsx : (wo.alloc (.cells #[.string lic, .int .i64 way, .int .i64 rel, .int .i64 dut, .slice ya lst.length yc] 65)).heap.size = wo.heap.size + 1 := by simp
     have HBX := Lib.hid hbx
     have OB3 := Lib.hid ob3
     clear hbx ob3
     generalize wo.alloc (.cells #[.string lic, .int .i64 way, .int .i64 rel, .int .i64 dut, .slice ya lst.length yc] 65) = wx at *
     have hl0 : wo.heap.size < wx.heap.size := by omega
     refine wp_region_held_drew (S := (fun w' : World => w'.cell? ⟨wo.heap.size, 0, none⟩ = some (.string lic) ∧ w'.cell? ⟨wo.heap.size, 1, none⟩ = some (.int .i64 way) ∧ w'.cell? ⟨wo.heap.size, 2, none⟩ = some (.int .i64 rel) ∧ w'.cell? ⟨wo.heap.size, 3, none⟩ = some (.int .i64 dut) ∧ w'.cell? ⟨wo.heap.size, 4, none⟩ = some (.slice ya lst.length yc))) (by kernel_rfl) (by exact ⟨hc0, hc1, hc2, hc3, hc4⟩) (fun hH0 => ?_)
     refine wpAnyH_take (i := 0) (oi := _) (v := ?_) rfl (by kernel_rfl) (by kernel_rfl) (by kernel_rfl) (fun _ _ _ h => h) (Or.inl ⟨by rfl, ?_⟩) hH0 ?_
     rotate_left
     ·intro w hSw; (try dsimp only at hSw); go_simp
      all_goals with_reducible rfl
     (try simp only [Act.put, List.setIfInBounds_toArray, List.set_cons_zero, List.set_cons_succ])
     refine wpAnyH_take (i := 1) (oi := _) (v := ?_) rfl (by kernel_rfl) (by kernel_rfl) (by kernel_rfl) (fun _ _ _ h => h) (Or.inl ⟨by rfl, ?_⟩) hH0 ?_
     rotate_left
     ·intro w hSw; (try dsimp only at hSw); go_simp
      all_goals with_reducible rfl
     (try simp only [Act.put, List.setIfInBounds_toArray, List.set_cons_zero, List.set_cons_succ])
     refine wpAnyH_take (i := 2) (oi := _) (v := ?_) rfl (by kernel_rfl) (by kernel_rfl) (by kernel_rfl) (fun _ _ _ h => h) (Or.inl ⟨by rfl, ?_⟩) hH0 ?_
     rotate_left
     ·intro w hSw; (try dsimp only at hSw); go_simp
      all_goals with_reducible rfl
     (try simp only [Act.put, List.setIfInBounds_toArray, List.set_cons_zero, List.set_cons_succ])
     refine wpAnyH_take (i := 4) (oi := _) (v := ?_) rfl (by kernel_rfl) (by kernel_rfl) (by kernel_rfl) (fun _ _ _ h => h) (Or.inl ⟨by rfl, ?_⟩) hH0 ?_
     rotate_left
     ·intro w hSw; (try dsimp only at hSw); go_simp
      all_goals with_reducible rfl
     (try simp only [Act.put, List.setIfInBounds_toArray, List.set_cons_zero, List.set_cons_succ])
     refine wpAnyH_take (i := 5) (oi := _) (v := ?_) rfl (by kernel_rfl) (by kernel_rfl) (by kernel_rfl) (fun _ _ _ h => h) (Or.inl ⟨by rfl, ?_⟩) hH0 ?_
     rotate_left
     ·intro w hSw; (try dsimp only at hSw); go_simp
      all_goals with_reducible rfl
     (try simp only [Act.put, List.setIfInBounds_toArray, List.set_cons_zero, List.set_cons_succ])
     refine wpAnyH_take (i := 9) (oi := _) (v := ?_) rfl (by kernel_rfl) (by kernel_rfl) (by kernel_rfl) (fun _ _ _ h => h) (Or.inl ⟨by rfl, ?_⟩) hH0 ?_
     rotate_left
     ·intro w hSw; (try dsimp only at hSw); go_simp
      all_goals with_reducible rfl
     (try simp only [Act.put, List.setIfInBounds_toArray, List.set_cons_zero, List.set_cons_succ])
     refine wpAnyH_take (i := 10) (oi := _) (v := ?_) rfl (by kernel_rfl) (by kernel_rfl) (by kernel_rfl) (fun _ _ _ h => h) (Or.inl ⟨by rfl, ?_⟩) hH0 ?_
     rotate_left
     ·intro w hSw; (try dsimp only at hSw); go_simp
      all_goals with_reducible rfl
     (try simp only [Act.put, List.setIfInBounds_toArray, List.set_cons_zero, List.set_cons_succ])
     refine wpAnyH_take (i := 14) (oi := _) (v := ?_) rfl (by kernel_rfl) (by kernel_rfl) (by kernel_rfl) (fun _ _ _ h => h) (Or.inl ⟨by rfl, ?_⟩) hH0 ?_
     rotate_left
     ·intro w hSw; (try dsimp only at hSw); go_simp
      all_goals with_reducible rfl
     (try simp only [Act.put, List.setIfInBounds_toArray, List.set_cons_zero, List.set_cons_succ])
     refine wpAnyH_take (i := 15) (oi := _) (v := ?_) rfl (by kernel_rfl) (by kernel_rfl) (by kernel_rfl) (fun _ _ _ h => h) (Or.inl ⟨by rfl, ?_⟩) hH0 ?_
     rotate_left
     ·intro w hSw; (try dsimp only at hSw); go_simp
      all_goals with_reducible rfl
     (try simp only [Act.put, List.setIfInBounds_toArray, List.set_cons_zero, List.set_cons_succ])
     refine wpAnyH_take (i := 19) (oi := _) (v := ?_) rfl (by kernel_rfl) (by kernel_rfl) (by kernel_rfl) (fun _ _ _ h => h) (Or.inl ⟨by rfl, ?_⟩) hH0 ?_
     rotate_left
     ·intro w hSw; (try dsimp only at hSw); go_simp
      all_goals with_reducible rfl
     (try simp only [Act.put, List.setIfInBounds_toArray, List.set_cons_zero, List.set_cons_succ])
     refine wpAnyH_take (i := 20) (oi := _) (v := ?_) rfl (by kernel_rfl) (by kernel_rfl) (by kernel_rfl) (fun _ _ _ h => h) (Or.inl ⟨by rfl, ?_⟩) hH0 ?_
     rotate_left
     ·intro w hSw; (try dsimp only at hSw); go_simp
      all_goals with_reducible rfl
     (try simp only [Act.put, List.setIfInBounds_toArray, List.set_cons_zero, List.set_cons_succ])
     refine wpAnyH_ready (rs := [3]) (by kernel_rfl) (by simp) ?_
     refine AllReadyH.cons (o := _) rfl (fun K hK => ?_) AllReadyH.nil
     go_simp
     go_at_call 60
     refine (way_y _).mono ?_
     rintro e w4 ⟨rfl, T4, nT4, rfl⟩
     go_wp2_with fail
     refine hK.out _ _ ?_ (fun hHn => ?_)
     ·exact keep0 (w := wx) hH0 (by first | ((repeat (first | exact Below.refl _ _ | assumption | refine Below.drewN ?_ _ | refine Below.drew ?_ | refine Below.alloc ?_ (by first | exact Nat.le_refl _ | (simp; done) | (simp; omega) | omega) _ | refine Below.setCell ?_ (by first | exact Nat.le_refl _ | (simp; done) | (simp; omega) | omega) _ | refine Below.trans ?_ (Below.mono (by assumption) (by first | exact Nat.le_refl _ | (simp; done) | (simp; omega) | omega)))); done) | fail)
     (try simp only [Act.put, List.setIfInBounds_toArray, List.set_cons_zero, List.set_cons_succ])
     clear hK K
     refine wpAnyH_mono (S := (fun w' : World => w'.cell? ⟨wo.heap.size, 0, none⟩ = some (.string lic) ∧ w'.cell? ⟨wo.heap.size, 1, none⟩ = some (.int .i64 way) ∧ w'.cell? ⟨wo.heap.size, 2, none⟩ = some (.int .i64 rel) ∧ w'.cell? ⟨wo.heap.size, 3, none⟩ = some (.int .i64 dut) ∧ w'.cell? ⟨wo.heap.size, 4, none⟩ = some (.slice ya lst.length yc) ∧ w'.heap[wo.heap.size + 1]? = some (.cells wayA T4 (0, 0)))) (fun w h => sub0 h) ?_
     have hH1 := add0 (w := (wx.alloc (.cells wayA T4))) hHn (by have h := obj_new wx (.cells wayA T4); rw [hsx] at h; exact h)
     clear hHn hH0
     refine wpAnyH_take (i := 6) (oi := _) (v := ?_) rfl (by kernel_rfl) (by kernel_rfl) (by kernel_rfl) (fun _ _ _ h => h) (Or.inl ⟨by rfl, ?_⟩) hH1 ?_
     rotate_left
     ·intro w hSw; (try dsimp only at hSw); go_simp
      all_goals with_reducible rfl
     (try simp only [Act.put, List.setIfInBounds_toArray, List.set_cons_zero, List.set_cons_succ])
     refine wpAnyH_take (i := 7) (oi := _) (v := ?_) rfl (by kernel_rfl) (by kernel_rfl) (by kernel_rfl) (fun _ _ _ h => h) (Or.inl ⟨by rfl, ?_⟩) hH1 ?_
     rotate_left
     ·intro w hSw; (try dsimp only at hSw); have hx := obj_cell hSw.2.2.2.2.2 hA1; go_simp
      all_goals with_reducible rfl
     (try simp only [Act.put, List.setIfInBounds_toArray, List.set_cons_zero, List.set_cons_succ])
     refine wpAnyH_ready (rs := [8]) (by kernel_rfl) (by simp) ?_
     refine AllReadyH.cons (o := _) rfl (fun K hK => ?_) AllReadyH.nil
     go_simp
     go_at_call 61
     refine (rel_y _).mono ?_
     rintro e w4 ⟨rfl, T5, nT5, rfl⟩
     go_wp2_with fail
     refine hK.out _ _ ?_ (fun hHn => ?_)
     ·exact keep1 (w := (wx.alloc (.cells wayA T4))) hH1 (by first | ((repeat (first | exact Below.refl _ _ | assumption | refine Below.drewN ?_ _ | refine Below.drew ?_ | refine Below.alloc ?_ (by first | exact Nat.le_refl _ | (simp; done) | (simp; omega) | omega) _ | refine Below.setCell ?_ (by first | exact Nat.le_refl _ | (simp; done) | (simp; omega) | omega) _ | refine Below.trans ?_ (Below.mono (by assumption) (by first | exact Nat.le_refl _ | (simp; done) | (simp; omega) | omega)))); done) | fail)
     (try simp only [Act.put, List.setIfInBounds_toArray, List.set_cons_zero, List.set_cons_succ])
     clear hK K
     refine wpAnyH_mono (S := (fun w' : World => w'.cell? ⟨wo.heap.size, 0, none⟩ = some (.string lic) ∧ w'.cell? ⟨wo.heap.size, 1, none⟩ = some (.int .i64 way) ∧ w'.cell? ⟨wo.heap.size, 2, none⟩ = some (.int .i64 rel) ∧ w'.cell? ⟨wo.heap.size, 3, none⟩ = some (.int .i64 dut) ∧ w'.cell? ⟨wo.heap.size, 4, none⟩ = some (.slice ya lst.length yc) ∧ w'.heap[wo.heap.size + 1]? = some (.cells wayA T4 (0, 0)) ∧ w'.heap[wo.heap.size + 1 + 1]? = some (.cells relA T5 (0, 0)))) (fun w h => sub1 h) ?_
     have hH2 := add1 (w := ((wx.alloc (.cells wayA T4)).alloc (.cells relA T5))) hHn (by have h := obj_new (wx.alloc (.cells wayA T4)) (.cells relA T5); rw [World.size_alloc, hsx] at h; exact h)
     clear hHn hH1
     refine wpAnyH_take (i := 11) (oi := _) (v := ?_) rfl (by kernel_rfl) (by kernel_rfl) (by kernel_rfl) (fun _ _ _ h => h) (Or.inl ⟨by rfl, ?_⟩) hH2 ?_
     rotate_left
     ·intro w hSw; (try dsimp only at hSw); go_simp
      all_goals with_reducible rfl
     (try simp only [Act.put, List.setIfInBounds_toArray, List.set_cons_zero, List.set_cons_succ])
     refine wpAnyH_take (i := 12) (oi := _) (v := ?_) rfl (by kernel_rfl) (by kernel_rfl) (by kernel_rfl) (fun _ _ _ h => h) (Or.inl ⟨by rfl, ?_⟩) hH2 ?_
     rotate_left
     ·intro w hSw; (try dsimp only at hSw); have hx := obj_cell hSw.2.2.2.2.2.2 hA2; go_simp
      all_goals with_reducible rfl
     (try simp only [Act.put, List.setIfInBounds_toArray, List.set_cons_zero, List.set_cons_succ])
     refine wpAnyH_ready (rs := [13]) (by kernel_rfl) (by simp) ?_
     refine AllReadyH.cons (o := _) rfl (fun K hK => ?_) AllReadyH.nil
     go_simp
     go_at_call 59
     refine (duty_y _).mono ?_
     rintro e w4 ⟨rfl, T6, nT6, rfl⟩
     go_wp2_with fail
     refine hK.out _ _ ?_ (fun hHn => ?_)
     ·exact keep2 (w := ((wx.alloc (.cells wayA T4)).alloc (.cells relA T5))) hH2 (by first | ((repeat (first | exact Below.refl _ _ | assumption | refine Below.drewN ?_ _ | refine Below.drew ?_ | refine Below.alloc ?_ (by first | exact Nat.le_refl _ | (simp; done) | (simp; omega) | omega) _ | refine Below.setCell ?_ (by first | exact Nat.le_refl _ | (simp; done) | (simp; omega) | omega) _ | refine Below.trans ?_ (Below.mono (by assumption) (by first | exact Nat.le_refl _ | (simp; done) | (simp; omega) | omega)))); done) | fail)
     (try simp only [Act.put, List.setIfInBounds_toArray, List.set_cons_zero, List.set_cons_succ])
     clear hK K
     refine wpAnyH_mono (S := (fun w' : World => w'.cell? ⟨wo.heap.size, 0, none⟩ = some (.string lic) ∧ w'.cell? ⟨wo.heap.size, 1, none⟩ = some (.int .i64 way) ∧ w'.cell? ⟨wo.heap.size, 2, none⟩ = some (.int .i64 rel) ∧ w'.cell? ⟨wo.heap.size, 3, none⟩ = some (.int .i64 dut) ∧ w'.cell? ⟨wo.heap.size, 4, none⟩ = some (.slice ya lst.length yc) ∧ w'.heap[wo.heap.size + 1]? = some (.cells wayA T4 (0, 0)) ∧ w'.heap[wo.heap.size + 1 + 1]? = some (.cells relA T5 (0, 0)) ∧ w'.heap[wo.heap.size + 1 + 1 + 1]? = some (.cells dutyA T6 (0, 0)))) (fun w h => sub2 h) ?_
     have hH3 := add2 (w := (((wx.alloc (.cells wayA T4)).alloc (.cells relA T5)).alloc (.cells dutyA T6))) hHn (by have h := obj_new ((wx.alloc (.cells wayA T4)).alloc (.cells relA T5)) (.cells dutyA T6); rw [World.size_alloc, World.size_alloc, hsx] at h; exact h)
     clear hHn hH2
     refine wpAnyH_take (i := 16) (oi := _) (v := ?_) rfl (by kernel_rfl) (by kernel_rfl) (by kernel_rfl) (fun _ _ _ h => h) (Or.inl ⟨by rfl, ?_⟩) hH3 ?_
     rotate_left
     ·intro w hSw; (try dsimp only at hSw); go_simp
      all_goals with_reducible rfl
     (try simp only [Act.put, List.setIfInBounds_toArray, List.set_cons_zero, List.set_cons_succ])
     refine wpAnyH_take (i := 17) (oi := _) (v := ?_) rfl (by kernel_rfl) (by kernel_rfl) (by kernel_rfl) (fun _ _ _ h => h) (Or.inl ⟨by rfl, ?_⟩) hH3 ?_
     rotate_left
     ·intro w hSw; (try dsimp only at hSw); have hx := obj_cell hSw.2.2.2.2.2.2.2 hA3; go_simp
      all_goals with_reducible rfl
     (try simp only [Act.put, List.setIfInBounds_toArray, List.set_cons_zero, List.set_cons_succ])
     refine wpAnyH_ready (rs := [18]) (by kernel_rfl) (by simp) ?_
     refine AllReadyH.cons (o := _) rfl (fun K hK => ?_) AllReadyH.nil
     go_simp
     refine hK.out _ _ ?_ (fun hHn => ?_)
     ·exact keep3 (w := (((wx.alloc (.cells wayA T4)).alloc (.cells relA T5)).alloc (.cells dutyA T6))) hH3 (by first | ((repeat (first | exact Below.refl _ _ | assumption | refine Below.drewN ?_ _ | refine Below.drew ?_ | refine Below.alloc ?_ (by first | exact Nat.le_refl _ | (simp; done) | (simp; omega) | omega) _ | refine Below.setCell ?_ (by first | exact Nat.le_refl _ | (simp; done) | (simp; omega) | omega) _ | refine Below.trans ?_ (Below.mono (by assumption) (by first | exact Nat.le_refl _ | (simp; done) | (simp; omega) | omega)))); done) | fail)
     (try simp only [Act.put, List.setIfInBounds_toArray, List.set_cons_zero, List.set_cons_succ])
     clear hK K hH3
     refine wpAnyH_ready (rs := [21]) (by kernel_rfl) (by simp) ?_
     refine AllReadyH.cons (o := _) rfl (fun K hK => ?_) AllReadyH.nil
     refine step_app_strs (by rfl) _ _ (by rfl) (wo.heap.size + 1) (.slice (some ⟨wo.heap.size + 1 + 1 + 1 + 1, 0, none⟩) 5 5) [mkS wClause, lic, wayB way, relB rel, dutyB dut] (by rfl) (by have h := ownV_new (((wx.alloc (.cells wayA T4)).alloc (.cells relA T5)).alloc (.cells dutyA T6)) [mkS wClause, lic, wayB way, relB rel, dutyB dut] 9 (Nat.le_of_ble_eq_true rfl); have h2 := h.weaken (B' := wo.heap.size + 1) (by simp; omega); simp only [World.size_alloc, hsx] at h2; exact h2) (.slice ya lst.length yc) lst (by rfl) (HLI.out.mono (by have hq := HBX.out; exact (by first | ((repeat (first | exact Below.refl _ _ | assumption | refine Below.drewN ?_ _ | refine Below.drew ?_ | refine Below.alloc ?_ (by first | exact Nat.le_refl _ | (simp; done) | (simp; omega) | omega) _ | refine Below.setCell ?_ (by first | exact Nat.le_refl _ | (simp; done) | (simp; omega) | omega) _ | refine Below.trans ?_ (Below.mono (by assumption) (by first | exact Nat.le_refl _ | (simp; done) | (simp; omega) | omega)))); done) | fail))) (by simp; omega) (by simp; omega) ?_
     intro v' w9 ho9 hg9
     have hb9 : Below wo.heap.size wo w9 := Below.grown (B := wo.heap.size) (by have hq := HBX.out; exact (by first | ((repeat (first | exact Below.refl _ _ | assumption | refine Below.drewN ?_ _ | refine Below.drew ?_ | refine Below.alloc ?_ (by first | exact Nat.le_refl _ | (simp; done) | (simp; omega) | omega) _ | refine Below.setCell ?_ (by first | exact Nat.le_refl _ | (simp; done) | (simp; omega) | omega) _ | refine Below.trans ?_ (Below.mono (by assumption) (by first | exact Nat.le_refl _ | (simp; done) | (simp; omega) | omega)))); done) | fail)) hg9 (by simp; omega) (by intro k hk; simp [Value.ownBlock] at hk; omega)
     have hH5 := keep3g hHn hg9 (by first | (simp [Value.ownBlock]; done) | (simp [Value.ownBlock]; omega)) (by first | (simp [Value.ownBlock]; done) | (simp [Value.ownBlock]; omega)) (by first | (simp [Value.ownBlock]; done) | (simp [Value.ownBlock]; omega)) (by first | (simp [Value.ownBlock]; done) | (simp [Value.ownBlock]; omega)) (by first | (simp [Value.ownBlock]; done) | (simp [Value.ownBlock]; omega)) (by first | (simp [Value.ownBlock]; done) | (simp [Value.ownBlock]; omega)) (by first | (simp [Value.ownBlock]; done) | (simp [Value.ownBlock]; omega)) (by first | (simp [Value.ownBlock]; done) | (simp [Value.ownBlock]; omega))
     refine hK.out _ _ ?_ (fun hHm => ?_)
     ·exact hH5
     (try simp only [Act.put, List.setIfInBounds_toArray, List.set_cons_zero, List.set_cons_succ])
     clear hK K hHn hHm
     refine wpAnyH_ready (rs := [22]) (by kernel_rfl) (by simp) ?_
     refine AllReadyH.cons (o := _) rfl (fun K hK => ?_) AllReadyH.nil
     go_simp
     go_at_call 54
     refine (put_p _ b l _ ([mkS wClause, lic, wayB way, relB rel, dutyB dut] ++ lst) (hbw.out.below (by first | ((repeat (first | exact Below.refl _ _ | assumption | refine Below.drewN ?_ _ | refine Below.drew ?_ | refine Below.alloc ?_ (by first | exact Nat.le_refl _ | (simp; done) | (simp; omega) | omega) _ | refine Below.setCell ?_ (by first | exact Nat.le_refl _ | (simp; done) | (simp; omega) | omega) _ | refine Below.trans ?_ (Below.mono (by assumption) (by first | exact Nat.le_refl _ | (simp; done) | (simp; omega) | omega)))); done) | fail)) (OwnV.strs (OwnV.below ho9 (by first | ((repeat (first | exact Below.refl _ _ | assumption | refine Below.drewN ?_ _ | refine Below.drew ?_ | refine Below.alloc ?_ (by first | exact Nat.le_refl _ | (simp; done) | (simp; omega) | omega) _ | refine Below.setCell ?_ (by first | exact Nat.le_refl _ | (simp; done) | (simp; omega) | omega) _ | refine Below.trans ?_ (Below.mono (by assumption) (by first | exact Nat.le_refl _ | (simp; done) | (simp; omega) | omega)))); done) | fail)) (putL_sizes HPL.out)) (by simp) HPL.out).mono ?_
     rintro e w10 ⟨rfl, hbw10, hkb10⟩
     go_wp2_with fail
     refine hK.out _ _ ?_ (fun hHm => ?_)
     ·have h0 := cells5 (obj_kb (obj_grown (obj_below OB3.out (by first | ((repeat (first | exact Below.refl _ _ | assumption | refine Below.drewN ?_ _ | refine Below.drew ?_ | refine Below.alloc ?_ (by first | exact Nat.le_refl _ | (simp; done) | (simp; omega) | omega) _ | refine Below.setCell ?_ (by first | exact Nat.le_refl _ | (simp; done) | (simp; omega) | omega) _ | refine Below.trans ?_ (Below.mono (by assumption) (by first | exact Nat.le_refl _ | (simp; done) | (simp; omega) | omega)))); done) | fail)) hg9 (by first | (simp [Value.ownBlock]; done) | (simp [Value.ownBlock]; omega))) hkb10 hwr (by decide))
      exact ⟨h0.1, h0.2.1, h0.2.2.1, h0.2.2.2.1, h0.2.2.2.2, obj_kb hH5.2.2.2.2.2.1 hkb10 (by omega) nT4, obj_kb hH5.2.2.2.2.2.2.1 hkb10 (by omega) nT5, obj_kb hH5.2.2.2.2.2.2.2 hkb10 (by omega) nT6⟩
     (try simp only [Act.put, List.setIfInBounds_toArray, List.set_cons_zero, List.set_cons_succ])
     clear hK K hH5 hHm
     refine wpAnyH_done (by kernel_rfl) ?_ _
     all_goals
      have HBW10 := Lib.hid hbw10
      have HKB10 := Lib.hid (hkb.out.trans (KB.trans (KB.of_below hb9 (by omega)) hkb10))
      have HX7 : Hid (FL = (l ++ putL ([mkS wClause, lic, wayB way, relB rel, dutyB dut] ++ lst)) ++ ((c.clauses.drop (k + 1)).map fmtClause).flatten ++ (c.apart.map fmtPair).flatten) := by show _ = _; rw [HX.out]; simp only [List.append_assoc]
      clear hbw10 hkb10 ho9 hg9 hb9
      go_wp2
      go_roundw
      case rel => exact ⟨k + 1, _, by omega, by go_num, HKB10.out, HBW10.out, HX7.out⟩
      case measure => simp [intOf]; omega
    have HS3 : Hid (FL = l ++ ((c.apart.drop 0).map fmtPair).flatten ++ []) := by
     show _ = _
     rw [hf.out, List.drop_eq_nil_of_le (by omega)]; simp
    have D3 := kept_in hkb.out.1 (by show w.heap.size < b; omega) d3'
    clear hf
    go_wp2
    go_loopw [127] (fun kv wr => ∃ (k : Nat) (l : List UInt8), k ≤ c.apart.length ∧ kv = .int .i64 k ∧ Hid (KB b w2 wr) ∧ Hid (BW b l wr) ∧ Hid (FL = l ++ ((c.apart.drop k).map fmtPair).flatten ++ [])) (fun kv _ => c.apart.length - (intOf kv).toNat)
    case atStart => exact ⟨0, l, by omega, rfl, hkb.out, hbw.out, HS3.out⟩
    case round =>
     clear hkb hbw HS3 HW D3 hwr hki hk
     obtain ⟨k, l, hk, rfl, hkb, hbw, hf⟩ := hrel
     have hwr : b < wr.heap.size := hbw.out.lt
     have HW := Lib.hid (HB2.out.trans (hkb.out.1.mono (Nat.le_of_lt hz1)))
     obtain ⟨wo, rfl⟩ : ∃ u : World, u = wr := ⟨_, rfl⟩
     by_cases hki : k < c.apart.length
     ·obtain ⟨x, hx⟩ := get_lt hki
      have hd := Lib.hid (drop_at hx)
      obtain ⟨bx, off, rfl, hb, y0', y1', ys0, ys1⟩ := Pair.at_row R3.out hx
      have y0 := kept HW.out y0'
      have y1 := kept HW.out y1'
      have hs3 : bx < wo.heap.size := cell_lt y0
      have hs4 : w.heap.size < wo.heap.size := by omega
      have HX : Hid (FL = (l ++ putL [mkS wApart, x.a, x.b]) ++ ((c.apart.drop (k + 1)).map fmtPair).flatten ++ []) := by
       show _ = _
       rw [hf.out, hd.out]; simp [fmtPair]
      have hPL : l.length + (putL [mkS wApart, x.a, x.b]).length ≤ 140737488355328 := by
       have h1 := HLEN.out
       rw [HX.out] at h1
       simp only [List.length_append] at h1
       omega
      have HPL := Lib.hid hPL
      clear hx y0' y1' ys0 ys1 hPL
      go_wp2_with fail
      refine (put_p _ b l _ [mkS wApart, x.a, x.b] (hbw.out.below (by first | ((repeat (first | exact Below.refl _ _ | assumption | refine Below.drewN ?_ _ | refine Below.drew ?_ | refine Below.alloc ?_ (by first | exact Nat.le_refl _ | (simp; done) | (simp; omega) | omega) _ | refine Below.setCell ?_ (by first | exact Nat.le_refl _ | (simp; done) | (simp; omega) | omega) _ | refine Below.trans ?_ (Below.mono (by assumption) (by first | exact Nat.le_refl _ | (simp; done) | (simp; omega) | omega)))); done) | fail)) ((strs_box (wo.alloc (.cells #[.string x.a, .string x.b] 52)) [mkS wApart, x.a, x.b] _ (putL_sizes HPL.out) (Nat.le_of_ble_eq_true rfl) (by rfl) (by simp)).mono (by first | ((repeat (first | exact Below.refl _ _ | assumption | refine Below.drewN ?_ _ | refine Below.drew ?_ | refine Below.alloc ?_ (by first | exact Nat.le_refl _ | (simp; done) | (simp; omega) | omega) _ | refine Below.setCell ?_ (by first | exact Nat.le_refl _ | (simp; done) | (simp; omega) | omega) _ | refine Below.trans ?_ (Below.mono (by assumption) (by first | exact Nat.le_refl _ | (simp; done) | (simp; omega) | omega)))); done) | fail)) (by simp) HPL.out).mono ?_
      rintro e w7 ⟨rfl, hbw7, hkb7⟩
      have HBW7 := Lib.hid hbw7
      have HKB7 := Lib.hid (hkb.out.trans (KB.trans (KB.of_below (w := wo) (by first | ((repeat (first | exact Below.refl _ _ | assumption | refine Below.drewN ?_ _ | refine Below.drew ?_ | refine Below.alloc ?_ (by first | exact Nat.le_refl _ | (simp; done) | (simp; omega) | omega) _ | refine Below.setCell ?_ (by first | exact Nat.le_refl _ | (simp; done) | (simp; omega) | omega) _ | refine Below.trans ?_ (Below.mono (by assumption) (by first | exact Nat.le_refl _ | (simp; done) | (simp; omega) | omega)))); done) | fail) (by omega)) hkb7))
      clear hbw7 hkb7
      go_wp2
      go_roundw
      case rel => exact ⟨k + 1, _, by omega, by go_num, HKB7.out, HBW7.out, HX.out⟩
      case measure => simp [intOf]; omega
     ·have HE : Hid (FL = l) := by
       show _ = _
       rw [hf.out, List.drop_eq_nil_of_le (by omega)]; simp
      go_wp2_with fail
      refine (Tryz.Builder_String_any_k b b l _ hbw.out (by omega)).mono ?_
      rintro e w8 ⟨rfl, -, hb8, -⟩
      have HB8 := Lib.hid hb8
      clear hb8
      go_wp2
      refine bodyPost_ret (v := .tuple #[.string ⟨l.toArray⟩, .int .i64 0]) (by simp [results, Tryz.results16, go_sem]) rfl ⟨by rw [HF.out, HE.out, HCK.out]; rfl, HW.out.trans (HB8.out.mono (Nat.le_of_lt hz1))⟩
end Go.Proofs.YtaneolfnnkppbaaGreatDoor
