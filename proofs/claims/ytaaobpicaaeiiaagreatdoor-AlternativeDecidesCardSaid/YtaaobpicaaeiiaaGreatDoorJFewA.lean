/- Layer 34: are lists small; is a list satisfied. -/
import Derived.Test.YtaaobpicaaeiiaaGreatDoorJIdxF
import Derived.Test.YtaaobpicaaeiiaaGreatDoorJCmpU
set_option linter.all false
namespace Go.Proofs.YtaaobpicaaeiiaaGreatDoor
open Go Go.RowKit Go.ChangeShapes Go.Sort Go.Lib

set_option maxRecDepth 100000 in
set_option maxHeartbeats 1000000 in
theorem Satisfied1_p (w : World) (g : Nat) (v1 v2 : Value) (xs ys : List Term) (hc : w.cell? ⟨g, 0, none⟩ = some v1) (h1 : Is w v1 xs) (h2 : Is w v2 ys) :
  Calls Tryz.prog 67 #[v2, .pointer (some ⟨g, 0, none⟩)] w fun e w' => e = .returned (.bool (conA xs ys)) ∧ Below w.heap.size w w' := by
 have hg := cell_lt hc
 have HF := Contains_p w v1 v2 xs ys h1 h2
 obtain ⟨a, c, rfl, -⟩ := list_inv h1
 obtain ⟨b, d, rfl, -⟩ := list_inv h2
 clear h1 h2
 generalize conA xs ys = r at *
 generalize xs.length = N at *
 generalize ys.length = M at *
 go_enter Tryz.func67, Tryz.ntmps67
 go_wp2_with fail
 refine HF.mono ?_
 rintro e w1 ⟨rfl, hb⟩
 go_wp2
 go_ret
 exact ⟨rfl, hb⟩
set_option maxRecDepth 100000 in
set_option maxHeartbeats 1000000 in
theorem Satisfied_p (w : World) (v u : Value) (xs : List (List Term)) (ts : List Term) (h : Is w v xs) (k : Is w u ts) :
  Calls Tryz.prog 21 #[v, u] w fun e w' => e = .returned (.bool (satP xs ts)) ∧ Below w.heap.size w w' := by
 have HF : Hid (satP xs ts = xs.any (conA ts)) := rfl
 obtain ⟨a, c, rfl, -⟩ := list_inv k
 have hba : Below w.heap.size w (w.alloc (.cells #[.slice a ts.length c] 38)) := (by repeat (first | exact zR _ _ | assumption | refine zN ?_ _ | refine zD ?_ | refine zA ?_ ?_ _ | refine zS ?_ ?_ _ | refine zT ?_ (zM (by assumption) ?_) | exact Nat.le_refl _ | (simp <;> omega) | omega))
 have e0 : (w.alloc (.cells #[.slice a ts.length c] 38)).cell? ⟨w.heap.size, 0, none⟩ = some (.slice a ts.length c) := by simp
 have eg : ∀ args w, (callFunc 67 args).run Tryz.prog w = .ok (.enter 67 args) w := enters_of Tryz.func67 (by kernel_rfl) rfl
 have hcall := ContainsFuncAlt (w.alloc (.cells #[.slice a ts.length c] 38)) v xs (conA ts) 67 #[.pointer (some ⟨w.heap.size, 0, none⟩)] eg (h.mono hba) (fun i y _ W v hb hv =>
  Satisfied1_p W w.heap.size (.slice a ts.length c) v ts y (kept hb e0) ((k.mono hba).mono hb) hv)
 obtain ⟨b, d, rfl, -⟩ := list_inv h
 have HBA := Lib.hid hba
 clear h k hba e0 eg
 generalize xs.any (conA ts) = bb at *
 generalize xs.length = N at *
 generalize ts.length = M at *
 go_enter Tryz.func21, Tryz.ntmps21
 go_wp2_with fail
 refine hcall.mono ?_
 rintro e w2 ⟨rfl, hb2⟩
 have HB2 : Hid (Below w.heap.size w w2) := HBA.out.trans (hb2.mono (by simp))
 clear hcall hb2
 go_wp2
 go_ret
 exact ⟨ret_b HF.out.symm, HB2.out⟩
end Go.Proofs.YtaaobpicaaeiiaaGreatDoor
