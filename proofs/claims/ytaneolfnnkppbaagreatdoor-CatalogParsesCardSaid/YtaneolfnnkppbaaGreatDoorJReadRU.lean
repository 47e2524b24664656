/- The reference's reader of a line: what it has read, and what it gives. -/
import Derived.Test.YtaneolfnnkppbaaGreatDoorJReadU
import Derived.Test.YtaneolfnnkppbaaGreatDoorJReadC
import Derived.Test.YtaneolfnnkppbaaGreatDoorJReadV
import Derived.Test.YtaneolfnnkppbaaGreatDoorJLawN
set_option linter.all false
namespace Go.Proofs.YtaneolfnnkppbaaGreatDoor
open Go Go.RowKit Go.ChangeShapes
def E6 (e : TypeId) : Prop := e = 28 ∨ e = 43 ∨ e = 62 ∨ e = 65 ∨ e = 52 ∨ e = 33
instance (e : TypeId) : Decidable (E6 e) := by unfold E6; infer_instance
structure RC (B : Nat) (w : World) (v0 v1 v2 v3 : Value) (c : Catalog) : Prop where
 lic : OwnL B E6 43 w v0 c.licenses
 exc : OwnL B E6 62 w v1 c.exceptions
 cla : OwnL B E6 65 w v2 c.clauses
 prs : OwnL B E6 52 w v3 c.apart
theorem RC.below {B : Nat} {w w' : World} {v0 v1 v2 v3 : Value} {c : Catalog} (h : RC B w v0 v1 v2 v3 c) (hb : Below w.heap.size w w') : RC B w' v0 v1 v2 v3 c :=
 ⟨h.lic.below hb, h.exc.below hb, h.cla.below hb, h.prs.below hb⟩
theorem RC.box {B : Nat} {w : World} {g j : Nat} {u v0 v1 v2 v3 : Value} {c : Catalog} {cs : Array Value} {fr : Nat × Nat} (h : RC B w v0 v1 v2 v3 c) (hB : B ≤ g) (ho : w.heap[g]? = some (.cells cs 28 fr)) : RC B (w.setCell ⟨g, j, none⟩ u) v0 v1 v2 v3 c := by
 have hR := agree_setCell (j := j) (u := u) hB ho
 exact ⟨h.lic.other hR (fun x hx => hx ▸ Or.inl rfl) (by decide), h.exc.other hR (fun x hx => hx ▸ Or.inl rfl) (by decide), h.cla.other hR (fun x hx => hx ▸ Or.inl rfl) (by decide), h.prs.other hR (fun x hx => hx ▸ Or.inl rfl) (by decide)⟩
theorem Agree.obj {B : Nat} {e t : TypeId} {w w' : World} {k : Nat} {cs : Array Value} {fr : Nat × Nat} (h : Agree B (· = e) w w') (hk : w.heap[k]? = some (.cells cs t fr)) (hne : t ≠ e) : w'.heap[k]? = some (.cells cs t fr) := by
 rw [h.2 k (obj_lt hk) (.inr fun ⟨cs', e', fr', he, hh⟩ => by rw [hk] at hh; cases hh; exact hne he), hk]
theorem RC.set_lic {B : Nat} {w W w1 : World} {v0 v1 v2 v3 u : Value} {c : Catalog} {xs : List License} (h : RC B w v0 v1 v2 v3 c) (hb : Below w.heap.size w W) (hA : Agree B (· = 43) W w1) (hu : OwnL B E6 43 w1 u xs) :
  RC B w1 u v1 v2 v3 { c with licenses := xs } :=
 ⟨hu, (h.exc.below hb).other hA (fun x hx => hx ▸ (by decide)) (by decide), (h.cla.below hb).other hA (fun x hx => hx ▸ (by decide)) (by decide), (h.prs.below hb).other hA (fun x hx => hx ▸ (by decide)) (by decide)⟩
theorem RC.set_exc {B : Nat} {w W w1 : World} {v0 v1 v2 v3 u : Value} {c : Catalog} {xs : List Exc} (h : RC B w v0 v1 v2 v3 c) (hb : Below w.heap.size w W) (hA : Agree B (· = 62) W w1) (hu : OwnL B E6 62 w1 u xs) :
  RC B w1 v0 u v2 v3 { c with exceptions := xs } :=
 ⟨(h.lic.below hb).other hA (fun x hx => hx ▸ (by decide)) (by decide), hu, (h.cla.below hb).other hA (fun x hx => hx ▸ (by decide)) (by decide), (h.prs.below hb).other hA (fun x hx => hx ▸ (by decide)) (by decide)⟩
theorem RC.set_cla {B : Nat} {w W w1 : World} {v0 v1 v2 v3 u : Value} {c : Catalog} {xs : List Clause} (h : RC B w v0 v1 v2 v3 c) (hb : Below w.heap.size w W) (hA : Agree B (· = 65) W w1) (hu : OwnL B E6 65 w1 u xs) :
  RC B w1 v0 v1 u v3 { c with clauses := xs } :=
 ⟨(h.lic.below hb).other hA (fun x hx => hx ▸ (by decide)) (by decide), (h.exc.below hb).other hA (fun x hx => hx ▸ (by decide)) (by decide), hu, (h.prs.below hb).other hA (fun x hx => hx ▸ (by decide)) (by decide)⟩
theorem RC.set_prs {B : Nat} {w W w1 : World} {v0 v1 v2 v3 u : Value} {c : Catalog} {xs : List Pair} (h : RC B w v0 v1 v2 v3 c) (hb : Below w.heap.size w W) (hA : Agree B (· = 52) W w1) (hu : OwnL B E6 52 w1 u xs) :
  RC B w1 v0 v1 v2 u { c with apart := xs } :=
 ⟨(h.lic.below hb).other hA (fun x hx => hx ▸ (by decide)) (by decide), (h.exc.below hb).other hA (fun x hx => hx ▸ (by decide)) (by decide), (h.cla.below hb).other hA (fun x hx => hx ▸ (by decide)) (by decide), hu⟩
def E4 (e : TypeId) : Prop := e = 43 ∨ e = 62 ∨ e = 65 ∨ e = 52
instance (e : TypeId) : Decidable (E4 e) := by unfold E4; infer_instance
def KeepBox (w w' : World) : Prop := ∀ (k : Nat) (cs : Array Value) (t : TypeId) (fr : Nat × Nat), ¬ E4 t → w.heap[k]? = some (.cells cs t fr) → w'.heap[k]? = some (.cells cs t fr)
theorem KeepBox.of {B : Nat} {e : TypeId} {w wq W w1 : World} (h0 : Below w.heap.size w wq) (h1 : Below wq.heap.size wq W) (hA : Agree B (· = e) W w1) (he : E4 e) : KeepBox w w1 :=
 fun _ _ _ _ ht hk => hA.obj (obj_below (obj_below hk h0) h1) (fun h => ht (h ▸ he))
theorem KeepBox.fin {w w1 : World} {g2 g4 j : Nat} {u x0 x1 x2 x3 : Value} (h : KeepBox w w1) (h2 : w.heap.size ≤ g2) (h4 : w.heap.size ≤ g4) :
  KeepBox w (((((w1.setCell ⟨g2, j, none⟩ u).setCell ⟨g4, 0, none⟩ x0).setCell ⟨g4, 1, none⟩ x1).setCell ⟨g4, 2, none⟩ x2).setCell ⟨g4, 3, none⟩ x3) := by
 intro k cs t fr ht hk
 have hl := obj_lt hk
 rw [blk_set_other _ _ _ _ (by show k ≠ g4; omega), blk_set_other _ _ _ _ (by show k ≠ g4; omega), blk_set_other _ _ _ _ (by show k ≠ g4; omega), blk_set_other _ _ _ _ (by show k ≠ g4; omega), blk_set_other _ _ _ _ (by show k ≠ g2; omega)]
 exact h k cs t fr ht hk
def ROutR (B : Nat) (res : Option (Catalog × Nat)) (w : World) (e : Ending) (w' : World) : Prop :=
 match res with
 | none => ∃ p0 n0 m0 p1 n1 m1 p2 n2 m2 p3 n3 m3, e = .returned (.tuple #[.agg #[.slice p0 n0 m0, .slice p1 n1 m1, .slice p2 n2 m2, .slice p3 n3 m3], .int .i64 (-1)]) ∧ Below w.heap.size w w'
 | some (c, n) => ∃ a0 a1 a2 a3, e = .returned (.tuple #[.agg #[a0, a1, a2, a3], .int .i64 n]) ∧ Below B w w' ∧ RC B w' a0 a1 a2 a3 c ∧ KeepBox w w'
theorem ROutR.ok {B : Nat} {res : Option (Catalog × Nat)} {c : Catalog} {n : Nat} {w w' : World} {e : Ending} (hr : res = some (c, n)) (h : ∃ a0 a1 a2 a3, e = .returned (.tuple #[.agg #[a0, a1, a2, a3], .int .i64 n]) ∧ Below B w w' ∧ RC B w' a0 a1 a2 a3 c ∧ KeepBox w w') : ROutR B res w e w' := by rw [hr]; exact h
theorem ROutR.bad {B : Nat} {res : Option (Catalog × Nat)} {w w' : World} {e : Ending} (hr : res = none) (h : ∃ p0 n0 m0 p1 n1 m1 p2 n2 m2 p3 n3 m3, e = .returned (.tuple #[.agg #[.slice p0 n0 m0, .slice p1 n1 m1, .slice p2 n2 m2, .slice p3 n3 m3], .int .i64 (-1)]) ∧ Below w.heap.size w w') : ROutR B res w e w' := by rw [hr]; exact h
theorem RC.agree {B : Nat} {w w' : World} {v0 v1 v2 v3 : Value} {c : Catalog} (h : RC B w v0 v1 v2 v3 c) (hR : Agree B (· = 28) w w') : RC B w' v0 v1 v2 v3 c :=
 ⟨h.lic.other hR (fun x hx => hx ▸ Or.inl rfl) (by decide), h.exc.other hR (fun x hx => hx ▸ Or.inl rfl) (by decide), h.cla.other hR (fun x hx => hx ▸ Or.inl rfl) (by decide), h.prs.other hR (fun x hx => hx ▸ Or.inl rfl) (by decide)⟩
def IsBox (w : World) (g : Nat) : Prop := ∃ cs fr, w.heap[g]? = some (Obj.cells cs 28 fr)
theorem agree_box {B : Nat} {w w1 : World} {g j : Nat} {u : Value} (hA : Agree B (· = 28) w w1) (hB : B ≤ g) (ho : IsBox w1 g) : Agree B (· = 28) w (w1.setCell ⟨g, j, none⟩ u) ∧ ∀ k : Nat, IsBox w1 k → IsBox (w1.setCell ⟨g, j, none⟩ u) k := by
 obtain ⟨cs, fr, ho⟩ := ho
 refine ⟨hA.trans (agree_setCell hB ho), fun k hk => ?_⟩
 by_cases e : k = g
 ·subst e; exact ⟨_, _, setCell_obj w1 k j u ho⟩
 ·unfold IsBox; rw [blk_set_other w1 ⟨g, j, none⟩ u k e]; exact hk
theorem agree_end {B : Nat} {w1 : World} {g2 g4 j : Nat} {u x0 x1 x2 x3 : Value} (h2 : B ≤ g2) (h4 : B ≤ g4) (o2 : IsBox w1 g2) (o4 : IsBox w1 g4) :
  Agree B (· = 28) w1 (((((w1.setCell ⟨g2, j, none⟩ u).setCell ⟨g4, 0, none⟩ x0).setCell ⟨g4, 1, none⟩ x1).setCell ⟨g4, 2, none⟩ x2).setCell ⟨g4, 3, none⟩ x3) := by
 have a1 := agree_box (u := u) (j := j) (Agree.refl B _ w1) h2 o2
 have a2 := agree_box (u := x0) (j := 0) a1.1 h4 (a1.2 _ o4)
 have a3 := agree_box (u := x1) (j := 1) a2.1 h4 (a2.2 _ (a1.2 _ o4))
 have a4 := agree_box (u := x2) (j := 2) a3.1 h4 (a3.2 _ (a2.2 _ (a1.2 _ o4)))
 exact (agree_box (u := x3) (j := 3) a4.1 h4 (a4.2 _ (a3.2 _ (a2.2 _ (a1.2 _ o4))))).1
theorem below_end {B : Nat} {w w1 : World} {g2 g4 j : Nat} {u x0 x1 x2 x3 : Value} (h2 : B ≤ g2) (h4 : B ≤ g4) (h : Below B w w1) :
  Below B w (((((w1.setCell ⟨g2, j, none⟩ u).setCell ⟨g4, 0, none⟩ x0).setCell ⟨g4, 1, none⟩ x1).setCell ⟨g4, 2, none⟩ x2).setCell ⟨g4, 3, none⟩ x3) :=
 ((((h.setCell h2 _).setCell h4 _).setCell h4 _).setCell h4 _).setCell h4 _
set_option maxRecDepth 100000 in
set_option maxHeartbeats 4000000 in
theorem apart_r (B : Nat) (w : World) (v0 v1 v2 v3 : Value) (c : Catalog) (wv : Value) (x y : ByteArray) (h : RC B w v0 v1 v2 v3 c) (hB : B ≤ w.heap.size) (hn : c.apart.length ≤ 100000000) (hw : Is w wv [mkS wApart, x, y]) :
  Calls Tryz.prog 51 #[.agg #[v0, v1, v2, v3], wv] w fun e w' => ROutR B (some ({ c with apart := c.apart ++ [⟨x, y⟩] }, 0)) w e w' := by
 obtain ⟨p0, m0, rfl⟩ := h.lic.shape
 obtain ⟨p1, m1, rfl⟩ := h.exc.shape
 obtain ⟨p2, m2, rfl⟩ := h.cla.shape
 obtain ⟨p3, m3, rfl⟩ := h.prs.shape
 obtain ⟨wa, wc, rfl, hwl, hwc, hwr⟩ := list_inv hw
 simp only [maxLen] at hwc
 obtain ⟨gw, ow, rfl, hgw, k0, ksz0⟩ := str_at (i := 0) hwr rfl
 obtain ⟨gw', ow', he, -, k1, ksz1⟩ := str_at (i := 1) hwr rfl
 cases he
 obtain ⟨gw', ow', he, -, k2, ksz2⟩ := str_at (i := 2) hwr rfl
 cases he
 have k0' : w.cell? ⟨gw, ow, none⟩ = some (.string (mkS wApart)) := by simpa using k0
 have HR := Lib.hid h
 generalize hL0 : c.licenses.length = N0 at *
 generalize hL1 : c.exceptions.length = N1 at *
 generalize hL2 : c.clauses.length = N2 at *
 generalize hL3 : c.apart.length = N3 at *
 have HL := Lib.hid (And.intro hL0 (And.intro hL1 (And.intro hL2 hL3)))
 clear hL0 hL1 hL2 hL3
 simp only [List.length_cons, List.length_nil, Nat.zero_add] at hwl ⊢
 have b3 : (3 : Int) ≤ (wc : Int) := by omega
 clear k0 hwr hw h
 obtain ⟨hd, HH⟩ : ∃ hd, Hid (hd = mkS wApart) := ⟨_, rfl⟩
 rw [← HH.out] at k0'
 have r0 : ¬ hd.toList = [108,105,99,101,110,115,101] := by rw [HH.out, ByteArray.toList_eq]; decide
 have r1 : ¬ hd.toList = [101,120,99,101,112,116,105,111,110] := by rw [HH.out, ByteArray.toList_eq]; decide
 have r2 : ¬ hd.toList = [99,108,97,117,115,101] := by rw [HH.out, ByteArray.toList_eq]; decide
 have r3 : hd.toList = [97,112,97,114,116] := by rw [HH.out, ByteArray.toList_eq]; decide
 go_enter Tryz.func51, Tryz.ntmps51
 go_wp2
 have hb0 : Below w.heap.size w ((w.alloc (.cells #[.slice p0 N0 m0, .slice p1 N1 m1, .slice p2 N2 m2, .slice p3 N3 m3] 28)).alloc (.cells #[.slice none 0 0, .slice none 0 0, .slice none 0 0, .slice none 0 0] 28)) := (by first | ((repeat (first | exact Below.refl _ _ | assumption | refine Below.drewN ?_ _ | refine Below.drew ?_ | refine Below.alloc ?_ (by first | exact Nat.le_refl _ | (simp; done) | (simp; omega) | omega) _ | refine Below.setCell ?_ (by first | exact Nat.le_refl _ | (simp; done) | (simp; omega) | omega) _ | refine Below.trans ?_ (Below.mono (by assumption) (by first | exact Nat.le_refl _ | (simp; done) | (simp; omega) | omega)))); done) | fail)
 have ob2 : ((w.alloc (.cells #[.slice p0 N0 m0, .slice p1 N1 m1, .slice p2 N2 m2, .slice p3 N3 m3] 28)).alloc (.cells #[.slice none 0 0, .slice none 0 0, .slice none 0 0, .slice none 0 0] 28)).heap[w.heap.size]? = some (.cells #[.slice p0 N0 m0, .slice p1 N1 m1, .slice p2 N2 m2, .slice p3 N3 m3] 28 (0, 0)) := obj_below (obj_new w _) ((Below.refl _ _).alloc (Nat.le_refl _) _)
 have ob4 : ((w.alloc (.cells #[.slice p0 N0 m0, .slice p1 N1 m1, .slice p2 N2 m2, .slice p3 N3 m3] 28)).alloc (.cells #[.slice none 0 0, .slice none 0 0, .slice none 0 0, .slice none 0 0] 28)).heap[w.heap.size + 1]? = some (.cells #[.slice none 0 0, .slice none 0 0, .slice none 0 0, .slice none 0 0] 28 (0, 0)) := by
  have := obj_new (w.alloc (.cells #[.slice p0 N0 m0, .slice p1 N1 m1, .slice p2 N2 m2, .slice p3 N3 m3] 28)) (.cells #[.slice none 0 0, .slice none 0 0, .slice none 0 0, .slice none 0 0] 28)
  simpa using this
 have HR0 := Lib.hid (HR.out.below hb0)
 have j1 := kept hb0 k1
 have j2 := kept hb0 k2
 clear k1 k2 k0'
 have HB0 := Lib.hid hb0
 clear hb0
 generalize (w.alloc (.cells #[.slice p0 N0 m0, .slice p1 N1 m1, .slice p2 N2 m2, .slice p3 N3 m3] 28)).alloc (.cells #[.slice none 0 0, .slice none 0 0, .slice none 0 0, .slice none 0 0] 28) = wq at *
 have z3 := objcell ob2 (j := 3) rfl
 have zf := objfrozen ob2 (j := 3)
 have hq0 : w.heap.size < wq.heap.size := cell_lt z3
 have hq1 : w.heap.size + 1 < wq.heap.size := obj_lt ob4
 have hgq : gw < wq.heap.size := cell_lt j1
 have hne2 := own_ne HR0.out.prs ob2 (by decide)
 have OB2 := Lib.hid ob2
 have OB4 := Lib.hid ob4
 clear ob2 ob4
 go_region_law ((refine step_appL apRow rfl (by decide) Tryz.underlying26 (by rfl) _ _ (by rfl) B E6 (.slice p3 N3 m3) c.apart (by rfl) (by decide) (HR0.out.prs.below (by first | ((repeat (first | exact Below.refl _ _ | assumption | refine Below.drewN ?_ _ | refine Below.drew ?_ | refine Below.alloc ?_ (by first | exact Nat.le_refl _ | (simp; done) | (simp; omega) | omega) _ | refine Below.setCell ?_ (by first | exact Nat.le_refl _ | (simp; done) | (simp; omega) | omega) _ | refine Below.trans ?_ (Below.mono (by assumption) (by first | exact Nat.le_refl _ | (simp; done) | (simp; omega) | omega)))); done) | fail)) ⟨wq.heap.size, 0, none⟩ [.string x, .string y] ⟨x, y⟩ (by rfl) rfl (World.news_of_block (cs := #[.string x, .string y]) (t := 52) (fr := (0, 0)) (heap_alloc_new wq _)) (by simp [Value.oneCell']) (fun w'' _ => Pair.is_iff.2 ⟨rfl, rfl, ksz1, ksz2⟩) (by rw [HL.out.2.2.2]; omega) (by simp; omega) ?_; rw [HL.out.2.2.2]; intro a' c' w1 ho1 hg1; have hr6 := keep_g z3 (by first | ((repeat (first | exact Below.refl _ _ | assumption | refine Below.drewN ?_ _ | refine Below.drew ?_ | refine Below.alloc ?_ (by first | exact Nat.le_refl _ | (simp; done) | (simp; omega) | omega) _ | refine Below.setCell ?_ (by first | exact Nat.le_refl _ | (simp; done) | (simp; omega) | omega) _ | refine Below.trans ?_ (Below.mono (by assumption) (by first | exact Nat.le_refl _ | (simp; done) | (simp; omega) | omega)))); done) | fail) hg1 hne2; have hf6 := (hg1.frozen_far ⟨w.heap.size, 3, none⟩ (by simp; omega) hne2).trans (keptF (a := ⟨w.heap.size, 3, none⟩) (by first | ((repeat (first | exact Below.refl _ _ | assumption | refine Below.drewN ?_ _ | refine Below.drew ?_ | refine Below.alloc ?_ (by first | exact Nat.le_refl _ | (simp; done) | (simp; omega) | omega) _ | refine Below.setCell ?_ (by first | exact Nat.le_refl _ | (simp; done) | (simp; omega) | omega) _ | refine Below.trans ?_ (Below.mono (by assumption) (by first | exact Nat.le_refl _ | (simp; done) | (simp; omega) | omega)))); done) | fail) z3 zf)))
 all_goals
  have hgr1 := OwnL.grown (HR0.out.prs.below (by first | ((repeat (first | exact Below.refl _ _ | assumption | refine Below.drewN ?_ _ | refine Below.drew ?_ | refine Below.alloc ?_ (by first | exact Nat.le_refl _ | (simp; done) | (simp; omega) | omega) _ | refine Below.setCell ?_ (by first | exact Nat.le_refl _ | (simp; done) | (simp; omega) | omega) _ | refine Below.trans ?_ (Below.mono (by assumption) (by first | exact Nat.le_refl _ | (simp; done) | (simp; omega) | omega)))); done) | fail)) hg1 (by simp; omega)
  have HR1 := Lib.hid (HR0.out.set_prs (by first | ((repeat (first | exact Below.refl _ _ | assumption | refine Below.drewN ?_ _ | refine Below.drew ?_ | refine Below.alloc ?_ (by first | exact Nat.le_refl _ | (simp; done) | (simp; omega) | omega) _ | refine Below.setCell ?_ (by first | exact Nat.le_refl _ | (simp; done) | (simp; omega) | omega) _ | refine Below.trans ?_ (Below.mono (by assumption) (by first | exact Nat.le_refl _ | (simp; done) | (simp; omega) | omega)))); done) | fail) hgr1.2 ho1)
  have ob2 := hgr1.2.obj (obj_below OB2.out (by first | ((repeat (first | exact Below.refl _ _ | assumption | refine Below.drewN ?_ _ | refine Below.drew ?_ | refine Below.alloc ?_ (by first | exact Nat.le_refl _ | (simp; done) | (simp; omega) | omega) _ | refine Below.setCell ?_ (by first | exact Nat.le_refl _ | (simp; done) | (simp; omega) | omega) _ | refine Below.trans ?_ (Below.mono (by assumption) (by first | exact Nat.le_refl _ | (simp; done) | (simp; omega) | omega)))); done) | fail)) (by decide)
  have ob4 := hgr1.2.obj (obj_below OB4.out (by first | ((repeat (first | exact Below.refl _ _ | assumption | refine Below.drewN ?_ _ | refine Below.drew ?_ | refine Below.alloc ?_ (by first | exact Nat.le_refl _ | (simp; done) | (simp; omega) | omega) _ | refine Below.setCell ?_ (by first | exact Nat.le_refl _ | (simp; done) | (simp; omega) | omega) _ | refine Below.trans ?_ (Below.mono (by assumption) (by first | exact Nat.le_refl _ | (simp; done) | (simp; omega) | omega)))); done) | fail)) (by decide)
  have hq := hgr1.1
  have HK1 := Lib.hid (KeepBox.of HB0.out (by first | ((repeat (first | exact Below.refl _ _ | assumption | refine Below.drewN ?_ _ | refine Below.drew ?_ | refine Below.alloc ?_ (by first | exact Nat.le_refl _ | (simp; done) | (simp; omega) | omega) _ | refine Below.setCell ?_ (by first | exact Nat.le_refl _ | (simp; done) | (simp; omega) | omega) _ | refine Below.trans ?_ (Below.mono (by assumption) (by first | exact Nat.le_refl _ | (simp; done) | (simp; omega) | omega)))); done) | fail) hgr1.2 (by decide))
  have HB1 : Hid (Below B w w1) := (HB0.out.mono hB).trans (Below.trans (by first | ((repeat (first | exact Below.refl _ _ | assumption | refine Below.drewN ?_ _ | refine Below.drew ?_ | refine Below.alloc ?_ (by first | exact Nat.le_refl _ | (simp; done) | (simp; omega) | omega) _ | refine Below.setCell ?_ (by first | exact Nat.le_refl _ | (simp; done) | (simp; omega) | omega) _ | refine Below.trans ?_ (Below.mono (by assumption) (by first | exact Nat.le_refl _ | (simp; done) | (simp; omega) | omega)))); done) | fail) hq)
  have c0 := objcell ob2 (j := 0) rfl
  have c1 := objcell ob2 (j := 1) rfl
  have c2 := objcell ob2 (j := 2) rfl
  have c3 := objcell ob2 (j := 3) rfl
  have d0 := objcell ob4 (j := 0) rfl
  have d1 := objcell ob4 (j := 1) rfl
  have d2 := objcell ob4 (j := 2) rfl
  have d3 := objcell ob4 (j := 3) rfl
  have f0 := objfrozen ob4 (j := 0)
  have f1 := objfrozen ob4 (j := 1)
  have f2 := objfrozen ob4 (j := 2)
  have f3 := objfrozen ob4 (j := 3)
  have g2 : w.heap.size < w1.heap.size := obj_lt ob2
  have g4 : w.heap.size + 1 < w1.heap.size := obj_lt ob4
  have OC2 := Lib.hid ob2
  have OC4 := Lib.hid ob4
  clear hgr1 ob2 ob4 hq ho1 hg1 hr6 hf6 z3 zf j1 j2
  go_wp2
  refine bodyPost_ret (v := .tuple #[.agg #[.slice p0 N0 m0, .slice p1 N1 m1, .slice p2 N2 m2, .slice a' (N3 + 1) c'], .int .i64 0]) (by simp [results, Tryz.results51, go_sem, c0, c1, c2, d0, d1, d2, d3]) rfl ?_
  exact ROutR.ok rfl ⟨_, _, _, _, rfl, below_end hB (by omega) HB1.out, HR1.out.agree (agree_end hB (by omega) ⟨_, _, OC2.out⟩ ⟨_, _, OC4.out⟩), HK1.out.fin (Nat.le_refl _) (by omega)⟩
end Go.Proofs.YtaneolfnnkppbaaGreatDoor
namespace Go.Proofs.YtaneolfnnkppbaaGreatDoor
open Go Go.RowKit Go.ChangeShapes
theorem Number_val (s : ByteArray) (w : World) (hs : s.size ≤ maxLen) {v : Int} (hv : (numC s).getD (-1) = v) : Calls Tryz.prog 92 #[.string s] w fun e w' => e = .returned (.int .i64 v) ∧ w' = w :=
 (Number_ref s w hs).mono fun e w' ⟨h1, h2⟩ => ⟨by rw [h1]; unfold numR; rw [hv], h2.symm⟩
theorem below_bad {B : Nat} {w w1 : World} {g4 : Nat} {x0 x1 x2 x3 : Value} (h4 : B ≤ g4) (h : Below B w w1) :
  Below B w ((((w1.setCell ⟨g4, 0, none⟩ x0).setCell ⟨g4, 1, none⟩ x1).setCell ⟨g4, 2, none⟩ x2).setCell ⟨g4, 3, none⟩ x3) :=
 (((h.setCell h4 _).setCell h4 _).setCell h4 _).setCell h4 _
set_option maxRecDepth 100000 in
set_option maxHeartbeats 4000000 in
theorem lic_r (B : Nat) (w : World) (v0 v1 v2 v3 : Value) (c : Catalog) (wv : Value) (a b v n : ByteArray) (i k : Int) (h : RC B w v0 v1 v2 v3 c) (hB : B ≤ w.heap.size) (hi : (numC v).getD (-1) = i) (hk : (numC n).getD (-1) = k) (hi0 : 0 ≤ i) (hi1 : inI64 i) (hk0 : 0 ≤ k) (hn : c.licenses.length ≤ 100000000) (hw : Is w wv (mkS wLicense :: a :: b :: v :: n :: [])) :
  Calls Tryz.prog 51 #[.agg #[v0, v1, v2, v3], wv] w fun e w' => ROutR B (some ({ c with licenses := c.licenses ++ [⟨a, b, i, ⟨#[]⟩⟩] }, k.toNat)) w e w' := by
 obtain ⟨p0, m0, rfl⟩ := h.lic.shape
 obtain ⟨p1, m1, rfl⟩ := h.exc.shape
 obtain ⟨p2, m2, rfl⟩ := h.cla.shape
 obtain ⟨p3, m3, rfl⟩ := h.prs.shape
 obtain ⟨wa, wc, rfl, hwl, hwc, hwr⟩ := list_inv hw
 simp only [maxLen] at hwc
 obtain ⟨gw, ow, rfl, hgw, k0, ksz0⟩ := str_at (i := 0) hwr rfl
 obtain ⟨gw', ow', he, -, k1, ksz1⟩ := str_at (i := 1) hwr rfl
 cases he
 obtain ⟨gw', ow', he, -, k2, ksz2⟩ := str_at (i := 2) hwr rfl
 cases he
 obtain ⟨gw', ow', he, -, k3, ksz3⟩ := str_at (i := 3) hwr rfl
 cases he
 obtain ⟨gw', ow', he, -, k4, ksz4⟩ := str_at (i := 4) hwr rfl
 cases he
 have k0' : w.cell? ⟨gw, ow, none⟩ = some (.string (mkS wLicense)) := by simpa using k0
 have HR := Lib.hid h
 have HWR := Lib.hid hwr
 generalize hL0 : c.licenses.length = N0 at *
 generalize hL1 : c.exceptions.length = N1 at *
 generalize hL2 : c.clauses.length = N2 at *
 generalize hL3 : c.apart.length = N3 at *
 have HL := Lib.hid (And.intro hL0 (And.intro hL1 (And.intro hL2 hL3)))
 clear hL0 hL1 hL2 hL3
 simp only [List.length_cons, List.length_nil, Nat.zero_add] at hwl ⊢
 have b3 : (5 : Int) ≤ (wc : Int) := by omega
 clear k0 hwr hw h
 obtain ⟨hd, HH⟩ : ∃ hd, Hid (hd = mkS wLicense) := ⟨_, rfl⟩
 rw [← HH.out] at k0'
 have r0 : hd.toList = [108,105,99,101,110,115,101] := by rw [HH.out, ByteArray.toList_eq]; decide
 have r1 : ¬ hd.toList = [101,120,99,101,112,116,105,111,110] := by rw [HH.out, ByteArray.toList_eq]; decide
 have r2 : ¬ hd.toList = [99,108,97,117,115,101] := by rw [HH.out, ByteArray.toList_eq]; decide
 have r3 : ¬ hd.toList = [97,112,97,114,116] := by rw [HH.out, ByteArray.toList_eq]; decide
 have hn1 := fun w => Number_val v w ksz3 hi
 have hn2 := fun w => Number_val n w ksz4 hk
 clear hi hk
 obtain ⟨k, rfl⟩ : ∃ m : Nat, k = (m : Int) := ⟨k.toNat, by omega⟩
 rw [Int.toNat_natCast]
 have q1 : decide (i < 0) = false := decide_eq_false (by omega)
 have q2 : decide ((k : Int) < 0) = false := decide_eq_false (by omega)
 go_enter Tryz.func51, Tryz.ntmps51
 go_wp2
 have hb0 : Below w.heap.size w ((w.alloc (.cells #[.slice p0 N0 m0, .slice p1 N1 m1, .slice p2 N2 m2, .slice p3 N3 m3] 28)).alloc (.cells #[.slice none 0 0, .slice none 0 0, .slice none 0 0, .slice none 0 0] 28)) := (by first | ((repeat (first | exact Below.refl _ _ | assumption | refine Below.drewN ?_ _ | refine Below.drew ?_ | refine Below.alloc ?_ (by first | exact Nat.le_refl _ | (simp; done) | (simp; omega) | omega) _ | refine Below.setCell ?_ (by first | exact Nat.le_refl _ | (simp; done) | (simp; omega) | omega) _ | refine Below.trans ?_ (Below.mono (by assumption) (by first | exact Nat.le_refl _ | (simp; done) | (simp; omega) | omega)))); done) | fail)
 have ob2 : ((w.alloc (.cells #[.slice p0 N0 m0, .slice p1 N1 m1, .slice p2 N2 m2, .slice p3 N3 m3] 28)).alloc (.cells #[.slice none 0 0, .slice none 0 0, .slice none 0 0, .slice none 0 0] 28)).heap[w.heap.size]? = some (.cells #[.slice p0 N0 m0, .slice p1 N1 m1, .slice p2 N2 m2, .slice p3 N3 m3] 28 (0, 0)) := obj_below (obj_new w _) ((Below.refl _ _).alloc (Nat.le_refl _) _)
 have ob4 : ((w.alloc (.cells #[.slice p0 N0 m0, .slice p1 N1 m1, .slice p2 N2 m2, .slice p3 N3 m3] 28)).alloc (.cells #[.slice none 0 0, .slice none 0 0, .slice none 0 0, .slice none 0 0] 28)).heap[w.heap.size + 1]? = some (.cells #[.slice none 0 0, .slice none 0 0, .slice none 0 0, .slice none 0 0] 28 (0, 0)) := by
  have := obj_new (w.alloc (.cells #[.slice p0 N0 m0, .slice p1 N1 m1, .slice p2 N2 m2, .slice p3 N3 m3] 28)) (.cells #[.slice none 0 0, .slice none 0 0, .slice none 0 0, .slice none 0 0] 28)
  simpa using this
 have HR0 := Lib.hid (HR.out.below hb0)
 have j1 := kept hb0 k1
 have j2 := kept hb0 k2
 have j3 := kept hb0 k3
 have j4 := kept hb0 k4
 clear k1 k2 k3 k4 k0'
 have HB0 := Lib.hid hb0
 clear hb0
 generalize (w.alloc (.cells #[.slice p0 N0 m0, .slice p1 N1 m1, .slice p2 N2 m2, .slice p3 N3 m3] 28)).alloc (.cells #[.slice none 0 0, .slice none 0 0, .slice none 0 0, .slice none 0 0] 28) = wq at *
 have OB2 := Lib.hid ob2
 have OB4 := Lib.hid ob4
 have hq0 : w.heap.size < wq.heap.size := obj_lt ob2
 have hq1 : w.heap.size + 1 < wq.heap.size := obj_lt ob4
 have hgq : gw < wq.heap.size := cell_lt j1
 go_quiet ((go_at_call 92; first | (with_reducible exact Calls.quiet_of_same (hn1 _)) | (with_reducible exact Calls.quiet_of_same (hn2 _))))
 go_wp2
 have hbd : Below wq.heap.size wq (wq.drewN nq) := (by first | ((repeat (first | exact Below.refl _ _ | assumption | refine Below.drewN ?_ _ | refine Below.drew ?_ | refine Below.alloc ?_ (by first | exact Nat.le_refl _ | (simp; done) | (simp; omega) | omega) _ | refine Below.setCell ?_ (by first | exact Nat.le_refl _ | (simp; done) | (simp; omega) | omega) _ | refine Below.trans ?_ (Below.mono (by assumption) (by first | exact Nat.le_refl _ | (simp; done) | (simp; omega) | omega)))); done) | fail)
 have HR0 := Lib.hid (HR0.out.below hbd)
 have j1 := kept hbd j1
 have j2 := kept hbd j2
 have OB2 := Lib.hid (obj_below OB2.out hbd)
 have OB4 := Lib.hid (obj_below OB4.out hbd)
 have HB0 := Lib.hid (HB0.out.trans (hbd.mono (Nat.le_of_lt hq0)))
 clear hbd
 generalize wq.drewN nq = wy at *
 have hq0 : w.heap.size < wy.heap.size := obj_lt OB2.out
 have hq1 : w.heap.size + 1 < wy.heap.size := obj_lt OB4.out
 have hgq : gw < wy.heap.size := cell_lt j1
 have z3 := objcell OB2.out (j := 0) rfl
 have zf := objfrozen OB2.out (j := 0)
 have hne2 := own_ne HR0.out.lic OB2.out (by decide)
 clear ob2 ob4
 go_region_law ((refine step_appL licRow rfl (by decide) Tryz.underlying23 (by rfl) _ _ (by rfl) B E6 (.slice p0 N0 m0) c.licenses (by rfl) (by decide) (HR0.out.lic.below (by first | ((repeat (first | exact Below.refl _ _ | assumption | refine Below.drewN ?_ _ | refine Below.drew ?_ | refine Below.alloc ?_ (by first | exact Nat.le_refl _ | (simp; done) | (simp; omega) | omega) _ | refine Below.setCell ?_ (by first | exact Nat.le_refl _ | (simp; done) | (simp; omega) | omega) _ | refine Below.trans ?_ (Below.mono (by assumption) (by first | exact Nat.le_refl _ | (simp; done) | (simp; omega) | omega)))); done) | fail)) ⟨wy.heap.size, 0, none⟩ [.string a, .string b, .int .i64 i, .string ⟨#[]⟩] ⟨a, b, i, ⟨#[]⟩⟩ (by rfl) rfl (World.news_of_block (cs := #[.string a, .string b, .int .i64 i, .string ⟨#[]⟩]) (t := 43) (fr := (0, 0)) (heap_alloc_new wy _)) (by simp [Value.oneCell']) (fun w'' hA => License.is_iff.2 ⟨rfl, rfl, rfl, rfl, ksz1, ksz2, hi1, Nat.zero_le _⟩) (by rw [HL.out.1]; omega) (by simp; omega) ?_; rw [HL.out.1]; intro a' c' w1 ho1 hg1; have hr6 := keep_g z3 (by first | ((repeat (first | exact Below.refl _ _ | assumption | refine Below.drewN ?_ _ | refine Below.drew ?_ | refine Below.alloc ?_ (by first | exact Nat.le_refl _ | (simp; done) | (simp; omega) | omega) _ | refine Below.setCell ?_ (by first | exact Nat.le_refl _ | (simp; done) | (simp; omega) | omega) _ | refine Below.trans ?_ (Below.mono (by assumption) (by first | exact Nat.le_refl _ | (simp; done) | (simp; omega) | omega)))); done) | fail) hg1 hne2; have hf6 := (hg1.frozen_far ⟨w.heap.size, 0, none⟩ (by simp; omega) hne2).trans (keptF (a := ⟨w.heap.size, 0, none⟩) (by first | ((repeat (first | exact Below.refl _ _ | assumption | refine Below.drewN ?_ _ | refine Below.drew ?_ | refine Below.alloc ?_ (by first | exact Nat.le_refl _ | (simp; done) | (simp; omega) | omega) _ | refine Below.setCell ?_ (by first | exact Nat.le_refl _ | (simp; done) | (simp; omega) | omega) _ | refine Below.trans ?_ (Below.mono (by assumption) (by first | exact Nat.le_refl _ | (simp; done) | (simp; omega) | omega)))); done) | fail) z3 zf)))
 all_goals
  have hgr1 := OwnL.grown (HR0.out.lic.below (by first | ((repeat (first | exact Below.refl _ _ | assumption | refine Below.drewN ?_ _ | refine Below.drew ?_ | refine Below.alloc ?_ (by first | exact Nat.le_refl _ | (simp; done) | (simp; omega) | omega) _ | refine Below.setCell ?_ (by first | exact Nat.le_refl _ | (simp; done) | (simp; omega) | omega) _ | refine Below.trans ?_ (Below.mono (by assumption) (by first | exact Nat.le_refl _ | (simp; done) | (simp; omega) | omega)))); done) | fail)) hg1 (by simp; omega)
  have HR1 := Lib.hid (HR0.out.set_lic (by first | ((repeat (first | exact Below.refl _ _ | assumption | refine Below.drewN ?_ _ | refine Below.drew ?_ | refine Below.alloc ?_ (by first | exact Nat.le_refl _ | (simp; done) | (simp; omega) | omega) _ | refine Below.setCell ?_ (by first | exact Nat.le_refl _ | (simp; done) | (simp; omega) | omega) _ | refine Below.trans ?_ (Below.mono (by assumption) (by first | exact Nat.le_refl _ | (simp; done) | (simp; omega) | omega)))); done) | fail) hgr1.2 ho1)
  have ob2 := hgr1.2.obj (obj_below OB2.out (by first | ((repeat (first | exact Below.refl _ _ | assumption | refine Below.drewN ?_ _ | refine Below.drew ?_ | refine Below.alloc ?_ (by first | exact Nat.le_refl _ | (simp; done) | (simp; omega) | omega) _ | refine Below.setCell ?_ (by first | exact Nat.le_refl _ | (simp; done) | (simp; omega) | omega) _ | refine Below.trans ?_ (Below.mono (by assumption) (by first | exact Nat.le_refl _ | (simp; done) | (simp; omega) | omega)))); done) | fail)) (by decide)
  have ob4 := hgr1.2.obj (obj_below OB4.out (by first | ((repeat (first | exact Below.refl _ _ | assumption | refine Below.drewN ?_ _ | refine Below.drew ?_ | refine Below.alloc ?_ (by first | exact Nat.le_refl _ | (simp; done) | (simp; omega) | omega) _ | refine Below.setCell ?_ (by first | exact Nat.le_refl _ | (simp; done) | (simp; omega) | omega) _ | refine Below.trans ?_ (Below.mono (by assumption) (by first | exact Nat.le_refl _ | (simp; done) | (simp; omega) | omega)))); done) | fail)) (by decide)
  have hq := hgr1.1
  have HK1 := Lib.hid (KeepBox.of HB0.out (by first | ((repeat (first | exact Below.refl _ _ | assumption | refine Below.drewN ?_ _ | refine Below.drew ?_ | refine Below.alloc ?_ (by first | exact Nat.le_refl _ | (simp; done) | (simp; omega) | omega) _ | refine Below.setCell ?_ (by first | exact Nat.le_refl _ | (simp; done) | (simp; omega) | omega) _ | refine Below.trans ?_ (Below.mono (by assumption) (by first | exact Nat.le_refl _ | (simp; done) | (simp; omega) | omega)))); done) | fail) hgr1.2 (by decide))
  have HB1 : Hid (Below B w w1) := (HB0.out.mono hB).trans (Below.trans (by first | ((repeat (first | exact Below.refl _ _ | assumption | refine Below.drewN ?_ _ | refine Below.drew ?_ | refine Below.alloc ?_ (by first | exact Nat.le_refl _ | (simp; done) | (simp; omega) | omega) _ | refine Below.setCell ?_ (by first | exact Nat.le_refl _ | (simp; done) | (simp; omega) | omega) _ | refine Below.trans ?_ (Below.mono (by assumption) (by first | exact Nat.le_refl _ | (simp; done) | (simp; omega) | omega)))); done) | fail) hq)
  have c0 := objcell ob2 (j := 0) rfl
  have c1 := objcell ob2 (j := 1) rfl
  have c2 := objcell ob2 (j := 2) rfl
  have c3 := objcell ob2 (j := 3) rfl
  have d0 := objcell ob4 (j := 0) rfl
  have d1 := objcell ob4 (j := 1) rfl
  have d2 := objcell ob4 (j := 2) rfl
  have d3 := objcell ob4 (j := 3) rfl
  have f0 := objfrozen ob4 (j := 0)
  have f1 := objfrozen ob4 (j := 1)
  have f2 := objfrozen ob4 (j := 2)
  have f3 := objfrozen ob4 (j := 3)
  have g2 : w.heap.size < w1.heap.size := obj_lt ob2
  have g4 : w.heap.size + 1 < w1.heap.size := obj_lt ob4
  have OC2 := Lib.hid ob2
  have OC4 := Lib.hid ob4
  clear hgr1 ob2 ob4 hq ho1 hg1 hr6 hf6 z3 zf j1 j2
  go_wp2
  refine bodyPost_ret (v := .tuple #[.agg #[.slice a' (N0 + 1) c', .slice p1 N1 m1, .slice p2 N2 m2, .slice p3 N3 m3], .int .i64 k]) (by simp [results, Tryz.results51, go_sem, d0, d1, d2, d3]) rfl ?_
  exact ROutR.ok rfl ⟨_, _, _, _, rfl, below_end hB (by omega) HB1.out, HR1.out.agree (agree_end hB (by omega) ⟨_, _, OC2.out⟩ ⟨_, _, OC4.out⟩), HK1.out.fin (Nat.le_refl _) (by omega)⟩
set_option maxRecDepth 100000 in
set_option maxHeartbeats 4000000 in
theorem lic_bad (B : Nat) (w : World) (v0 v1 v2 v3 : Value) (c : Catalog) (wv : Value) (a b v n : ByteArray) (i k : Int) (h : RC B w v0 v1 v2 v3 c) (hB : B ≤ w.heap.size) (hi : (numC v).getD (-1) = i) (hk : (numC n).getD (-1) = k) (hb : i < 0 ∨ k < 0) (hw : Is w wv (mkS wLicense :: a :: b :: v :: n :: [])) :
  Calls Tryz.prog 51 #[.agg #[v0, v1, v2, v3], wv] w fun e w' => ROutR B (none) w e w' := by
 obtain ⟨p0, m0, rfl⟩ := h.lic.shape
 obtain ⟨p1, m1, rfl⟩ := h.exc.shape
 obtain ⟨p2, m2, rfl⟩ := h.cla.shape
 obtain ⟨p3, m3, rfl⟩ := h.prs.shape
 obtain ⟨wa, wc, rfl, hwl, hwc, hwr⟩ := list_inv hw
 simp only [maxLen] at hwc
 obtain ⟨gw, ow, rfl, hgw, k0, ksz0⟩ := str_at (i := 0) hwr rfl
 obtain ⟨gw', ow', he, -, k1, ksz1⟩ := str_at (i := 1) hwr rfl
 cases he
 obtain ⟨gw', ow', he, -, k2, ksz2⟩ := str_at (i := 2) hwr rfl
 cases he
 obtain ⟨gw', ow', he, -, k3, ksz3⟩ := str_at (i := 3) hwr rfl
 cases he
 obtain ⟨gw', ow', he, -, k4, ksz4⟩ := str_at (i := 4) hwr rfl
 cases he
 have k0' : w.cell? ⟨gw, ow, none⟩ = some (.string (mkS wLicense)) := by simpa using k0
 have HR := Lib.hid h
 have HWR := Lib.hid hwr
 generalize hL0 : c.licenses.length = N0 at *
 generalize hL1 : c.exceptions.length = N1 at *
 generalize hL2 : c.clauses.length = N2 at *
 generalize hL3 : c.apart.length = N3 at *
 have HL := Lib.hid (And.intro hL0 (And.intro hL1 (And.intro hL2 hL3)))
 clear hL0 hL1 hL2 hL3
 simp only [List.length_cons, List.length_nil, Nat.zero_add] at hwl ⊢
 have b3 : (5 : Int) ≤ (wc : Int) := by omega
 clear k0 hwr hw h
 obtain ⟨hd, HH⟩ : ∃ hd, Hid (hd = mkS wLicense) := ⟨_, rfl⟩
 rw [← HH.out] at k0'
 have r0 : hd.toList = [108,105,99,101,110,115,101] := by rw [HH.out, ByteArray.toList_eq]; decide
 have r1 : ¬ hd.toList = [101,120,99,101,112,116,105,111,110] := by rw [HH.out, ByteArray.toList_eq]; decide
 have r2 : ¬ hd.toList = [99,108,97,117,115,101] := by rw [HH.out, ByteArray.toList_eq]; decide
 have r3 : ¬ hd.toList = [97,112,97,114,116] := by rw [HH.out, ByteArray.toList_eq]; decide
 have hn1 := fun w => Number_val v w ksz3 hi
 have hn2 := fun w => Number_val n w ksz4 hk
 clear hi hk
 go_enter Tryz.func51, Tryz.ntmps51
 go_wp2
 have hb0 : Below w.heap.size w ((w.alloc (.cells #[.slice p0 N0 m0, .slice p1 N1 m1, .slice p2 N2 m2, .slice p3 N3 m3] 28)).alloc (.cells #[.slice none 0 0, .slice none 0 0, .slice none 0 0, .slice none 0 0] 28)) := (by first | ((repeat (first | exact Below.refl _ _ | assumption | refine Below.drewN ?_ _ | refine Below.drew ?_ | refine Below.alloc ?_ (by first | exact Nat.le_refl _ | (simp; done) | (simp; omega) | omega) _ | refine Below.setCell ?_ (by first | exact Nat.le_refl _ | (simp; done) | (simp; omega) | omega) _ | refine Below.trans ?_ (Below.mono (by assumption) (by first | exact Nat.le_refl _ | (simp; done) | (simp; omega) | omega)))); done) | fail)
 have ob2 : ((w.alloc (.cells #[.slice p0 N0 m0, .slice p1 N1 m1, .slice p2 N2 m2, .slice p3 N3 m3] 28)).alloc (.cells #[.slice none 0 0, .slice none 0 0, .slice none 0 0, .slice none 0 0] 28)).heap[w.heap.size]? = some (.cells #[.slice p0 N0 m0, .slice p1 N1 m1, .slice p2 N2 m2, .slice p3 N3 m3] 28 (0, 0)) := obj_below (obj_new w _) ((Below.refl _ _).alloc (Nat.le_refl _) _)
 have ob4 : ((w.alloc (.cells #[.slice p0 N0 m0, .slice p1 N1 m1, .slice p2 N2 m2, .slice p3 N3 m3] 28)).alloc (.cells #[.slice none 0 0, .slice none 0 0, .slice none 0 0, .slice none 0 0] 28)).heap[w.heap.size + 1]? = some (.cells #[.slice none 0 0, .slice none 0 0, .slice none 0 0, .slice none 0 0] 28 (0, 0)) := by
  have := obj_new (w.alloc (.cells #[.slice p0 N0 m0, .slice p1 N1 m1, .slice p2 N2 m2, .slice p3 N3 m3] 28)) (.cells #[.slice none 0 0, .slice none 0 0, .slice none 0 0, .slice none 0 0] 28)
  simpa using this
 have HR0 := Lib.hid (HR.out.below hb0)
 have j1 := kept hb0 k1
 have j2 := kept hb0 k2
 have j3 := kept hb0 k3
 have j4 := kept hb0 k4
 clear k1 k2 k3 k4 k0'
 have HB0 := Lib.hid hb0
 clear hb0
 generalize (w.alloc (.cells #[.slice p0 N0 m0, .slice p1 N1 m1, .slice p2 N2 m2, .slice p3 N3 m3] 28)).alloc (.cells #[.slice none 0 0, .slice none 0 0, .slice none 0 0, .slice none 0 0] 28) = wq at *
 have OB2 := Lib.hid ob2
 have OB4 := Lib.hid ob4
 have hq0 : w.heap.size < wq.heap.size := obj_lt ob2
 have hq1 : w.heap.size + 1 < wq.heap.size := obj_lt ob4
 have hgq : gw < wq.heap.size := cell_lt j1
 go_quiet ((go_at_call 92; first | (with_reducible exact Calls.quiet_of_same (hn1 _)) | (with_reducible exact Calls.quiet_of_same (hn2 _))))
 have hbd : Below wq.heap.size wq (wq.drewN nq) := (by first | ((repeat (first | exact Below.refl _ _ | assumption | refine Below.drewN ?_ _ | refine Below.drew ?_ | refine Below.alloc ?_ (by first | exact Nat.le_refl _ | (simp; done) | (simp; omega) | omega) _ | refine Below.setCell ?_ (by first | exact Nat.le_refl _ | (simp; done) | (simp; omega) | omega) _ | refine Below.trans ?_ (Below.mono (by assumption) (by first | exact Nat.le_refl _ | (simp; done) | (simp; omega) | omega)))); done) | fail)
 have ob2 := obj_below OB2.out hbd
 have ob4 := obj_below OB4.out hbd
 have HBz := Lib.hid (HB0.out.trans (hbd.mono (Nat.le_of_lt hq0)))
 clear hbd
 generalize (wq.drewN nq) = wy at *
 have c0 := objcell ob2 (j := 0) rfl
 have c1 := objcell ob2 (j := 1) rfl
 have c2 := objcell ob2 (j := 2) rfl
 have c3 := objcell ob2 (j := 3) rfl
 have d0 := objcell ob4 (j := 0) rfl
 have d1 := objcell ob4 (j := 1) rfl
 have d2 := objcell ob4 (j := 2) rfl
 have d3 := objcell ob4 (j := 3) rfl
 have f0 := objfrozen ob4 (j := 0)
 have f1 := objfrozen ob4 (j := 1)
 have f2 := objfrozen ob4 (j := 2)
 have f3 := objfrozen ob4 (j := 3)
 have g2 : w.heap.size < wy.heap.size := obj_lt ob2
 have g4 : w.heap.size + 1 < wy.heap.size := obj_lt ob4
 clear ob2 ob4
 cases q1 : decide (i < 0)
 case true =>
  go_wp2
  refine bodyPost_ret (v := .tuple #[.agg #[.slice p0 N0 m0, .slice p1 N1 m1, .slice p2 N2 m2, .slice p3 N3 m3], .int .i64 (-1)]) (by simp [results, Tryz.results51, go_sem, d0, d1, d2, d3]) rfl ?_
  exact ROutR.bad rfl ⟨_, _, _, _, _, _, _, _, _, _, _, _, rfl, below_bad (by omega) HBz.out⟩
 case false =>
  have q2 : decide (k < 0) = true := decide_eq_true (by have := of_decide_eq_false q1; omega)
  go_wp2
  refine bodyPost_ret (v := .tuple #[.agg #[.slice p0 N0 m0, .slice p1 N1 m1, .slice p2 N2 m2, .slice p3 N3 m3], .int .i64 (-1)]) (by simp [results, Tryz.results51, go_sem, d0, d1, d2, d3]) rfl ?_
  exact ROutR.bad rfl ⟨_, _, _, _, _, _, _, _, _, _, _, _, rfl, below_bad (by omega) HBz.out⟩

end Go.Proofs.YtaneolfnnkppbaaGreatDoor
namespace Go.Proofs.YtaneolfnnkppbaaGreatDoor
open Go Go.RowKit Go.ChangeShapes
set_option maxRecDepth 100000 in
set_option maxHeartbeats 4000000 in
theorem none_r0 (B : Nat) (w : World) (v0 v1 v2 v3 : Value) (c : Catalog) (wv : Value) (hd : ByteArray) (ws : List ByteArray) (h : RC B w v0 v1 v2 v3 c) (hB : B ≤ w.heap.size) (r0 : hd.toList = [108,105,99,101,110,115,101]) (r1 : ¬ hd.toList = [101,120,99,101,112,116,105,111,110]) (r2 : ¬ hd.toList = [99,108,97,117,115,101]) (r3 : ¬ hd.toList = [97,112,97,114,116]) (hm : ¬ (ws.length + 1) = 5) (hw : Is w wv (hd :: ws)) :
  Calls Tryz.prog 51 #[.agg #[v0, v1, v2, v3], wv] w fun e w' => ROutR B none w e w' := by
 obtain ⟨p0, m0, rfl⟩ := h.lic.shape
 obtain ⟨p1, m1, rfl⟩ := h.exc.shape
 obtain ⟨p2, m2, rfl⟩ := h.cla.shape
 obtain ⟨p3, m3, rfl⟩ := h.prs.shape
 obtain ⟨wa, wc, rfl, hwl, hwc, hwr⟩ := list_inv hw
 simp only [maxLen] at hwc
 obtain ⟨gw, ow, rfl, hgw, k1, ksz0⟩ := str_at (i := 0) hwr rfl
 have k0' : w.cell? ⟨gw, ow, none⟩ = some (.string hd) := by simpa using k1
 have HR := Lib.hid h
 generalize hL0 : c.licenses.length = N0 at *
 generalize hL1 : c.exceptions.length = N1 at *
 generalize hL2 : c.clauses.length = N2 at *
 generalize hL3 : c.apart.length = N3 at *
 clear hL0 hL1 hL2 hL3
 simp only [List.length_cons] at hwl ⊢
 generalize hm0 : ws.length + 1 = m at *
 have b4 : (0 : Int) < (m : Int) := by omega
 have b5 : 0 < m := by omega
 have q1 : ((m : Int) == 5) = false := by simp; omega
 clear hwr hw h hm0
 go_enter Tryz.func51, Tryz.ntmps51
 go_wp2_with fail
 refine bodyPost_ret (v := .tuple #[.agg #[.slice p0 N0 m0, .slice p1 N1 m1, .slice p2 N2 m2, .slice p3 N3 m3], .int .i64 (-1)]) (by simp [results, Tryz.results51, go_sem]) rfl ?_
 exact ROutR.bad rfl ⟨_, _, _, _, _, _, _, _, _, _, _, _, rfl, (by first | ((repeat (first | exact Below.refl _ _ | assumption | refine Below.drewN ?_ _ | refine Below.drew ?_ | refine Below.alloc ?_ (by first | exact Nat.le_refl _ | (simp; done) | (simp; omega) | omega) _ | refine Below.setCell ?_ (by first | exact Nat.le_refl _ | (simp; done) | (simp; omega) | omega) _ | refine Below.trans ?_ (Below.mono (by assumption) (by first | exact Nat.le_refl _ | (simp; done) | (simp; omega) | omega)))); done) | fail)⟩
set_option maxRecDepth 100000 in
set_option maxHeartbeats 4000000 in
theorem none_r1 (B : Nat) (w : World) (v0 v1 v2 v3 : Value) (c : Catalog) (wv : Value) (hd : ByteArray) (ws : List ByteArray) (h : RC B w v0 v1 v2 v3 c) (hB : B ≤ w.heap.size) (r0 : ¬ hd.toList = [108,105,99,101,110,115,101]) (r1 : hd.toList = [101,120,99,101,112,116,105,111,110]) (r2 : ¬ hd.toList = [99,108,97,117,115,101]) (r3 : ¬ hd.toList = [97,112,97,114,116]) (hm : ¬ 3 ≤ (ws.length + 1)) (hw : Is w wv (hd :: ws)) :
  Calls Tryz.prog 51 #[.agg #[v0, v1, v2, v3], wv] w fun e w' => ROutR B none w e w' := by
 obtain ⟨p0, m0, rfl⟩ := h.lic.shape
 obtain ⟨p1, m1, rfl⟩ := h.exc.shape
 obtain ⟨p2, m2, rfl⟩ := h.cla.shape
 obtain ⟨p3, m3, rfl⟩ := h.prs.shape
 obtain ⟨wa, wc, rfl, hwl, hwc, hwr⟩ := list_inv hw
 simp only [maxLen] at hwc
 obtain ⟨gw, ow, rfl, hgw, k1, ksz0⟩ := str_at (i := 0) hwr rfl
 have k0' : w.cell? ⟨gw, ow, none⟩ = some (.string hd) := by simpa using k1
 have HR := Lib.hid h
 generalize hL0 : c.licenses.length = N0 at *
 generalize hL1 : c.exceptions.length = N1 at *
 generalize hL2 : c.clauses.length = N2 at *
 generalize hL3 : c.apart.length = N3 at *
 clear hL0 hL1 hL2 hL3
 simp only [List.length_cons] at hwl ⊢
 generalize hm0 : ws.length + 1 = m at *
 have b4 : (0 : Int) < (m : Int) := by omega
 have b5 : 0 < m := by omega
 have q1 : decide (3 ≤ (m : Int)) = false := by simp; omega
 have q2 : decide ((m : Int) < 3) = true := by simp; omega
 have q3 : ¬ ((3 : Int) ≤ (m : Int)) := by omega
 clear hwr hw h hm0
 go_enter Tryz.func51, Tryz.ntmps51
 go_wp2_with fail
 refine bodyPost_ret (v := .tuple #[.agg #[.slice p0 N0 m0, .slice p1 N1 m1, .slice p2 N2 m2, .slice p3 N3 m3], .int .i64 (-1)]) (by simp [results, Tryz.results51, go_sem]) rfl ?_
 exact ROutR.bad rfl ⟨_, _, _, _, _, _, _, _, _, _, _, _, rfl, (by first | ((repeat (first | exact Below.refl _ _ | assumption | refine Below.drewN ?_ _ | refine Below.drew ?_ | refine Below.alloc ?_ (by first | exact Nat.le_refl _ | (simp; done) | (simp; omega) | omega) _ | refine Below.setCell ?_ (by first | exact Nat.le_refl _ | (simp; done) | (simp; omega) | omega) _ | refine Below.trans ?_ (Below.mono (by assumption) (by first | exact Nat.le_refl _ | (simp; done) | (simp; omega) | omega)))); done) | fail)⟩
set_option maxRecDepth 100000 in
set_option maxHeartbeats 4000000 in
theorem none_r2 (B : Nat) (w : World) (v0 v1 v2 v3 : Value) (c : Catalog) (wv : Value) (hd : ByteArray) (ws : List ByteArray) (h : RC B w v0 v1 v2 v3 c) (hB : B ≤ w.heap.size) (r0 : ¬ hd.toList = [108,105,99,101,110,115,101]) (r1 : ¬ hd.toList = [101,120,99,101,112,116,105,111,110]) (r2 : hd.toList = [99,108,97,117,115,101]) (r3 : ¬ hd.toList = [97,112,97,114,116]) (hm : ¬ 5 ≤ (ws.length + 1)) (hw : Is w wv (hd :: ws)) :
  Calls Tryz.prog 51 #[.agg #[v0, v1, v2, v3], wv] w fun e w' => ROutR B none w e w' := by
 obtain ⟨p0, m0, rfl⟩ := h.lic.shape
 obtain ⟨p1, m1, rfl⟩ := h.exc.shape
 obtain ⟨p2, m2, rfl⟩ := h.cla.shape
 obtain ⟨p3, m3, rfl⟩ := h.prs.shape
 obtain ⟨wa, wc, rfl, hwl, hwc, hwr⟩ := list_inv hw
 simp only [maxLen] at hwc
 obtain ⟨gw, ow, rfl, hgw, k1, ksz0⟩ := str_at (i := 0) hwr rfl
 have k0' : w.cell? ⟨gw, ow, none⟩ = some (.string hd) := by simpa using k1
 have HR := Lib.hid h
 generalize hL0 : c.licenses.length = N0 at *
 generalize hL1 : c.exceptions.length = N1 at *
 generalize hL2 : c.clauses.length = N2 at *
 generalize hL3 : c.apart.length = N3 at *
 clear hL0 hL1 hL2 hL3
 simp only [List.length_cons] at hwl ⊢
 generalize hm0 : ws.length + 1 = m at *
 have b4 : (0 : Int) < (m : Int) := by omega
 have b5 : 0 < m := by omega
 have q1 : decide (5 ≤ (m : Int)) = false := by simp; omega
 have q2 : decide ((m : Int) < 5) = true := by simp; omega
 have q3 : ¬ ((5 : Int) ≤ (m : Int)) := by omega
 clear hwr hw h hm0
 go_enter Tryz.func51, Tryz.ntmps51
 go_wp2_with fail
 refine bodyPost_ret (v := .tuple #[.agg #[.slice p0 N0 m0, .slice p1 N1 m1, .slice p2 N2 m2, .slice p3 N3 m3], .int .i64 (-1)]) (by simp [results, Tryz.results51, go_sem]) rfl ?_
 exact ROutR.bad rfl ⟨_, _, _, _, _, _, _, _, _, _, _, _, rfl, (by first | ((repeat (first | exact Below.refl _ _ | assumption | refine Below.drewN ?_ _ | refine Below.drew ?_ | refine Below.alloc ?_ (by first | exact Nat.le_refl _ | (simp; done) | (simp; omega) | omega) _ | refine Below.setCell ?_ (by first | exact Nat.le_refl _ | (simp; done) | (simp; omega) | omega) _ | refine Below.trans ?_ (Below.mono (by assumption) (by first | exact Nat.le_refl _ | (simp; done) | (simp; omega) | omega)))); done) | fail)⟩
set_option maxRecDepth 100000 in
set_option maxHeartbeats 4000000 in
theorem none_r3 (B : Nat) (w : World) (v0 v1 v2 v3 : Value) (c : Catalog) (wv : Value) (hd : ByteArray) (ws : List ByteArray) (h : RC B w v0 v1 v2 v3 c) (hB : B ≤ w.heap.size) (r0 : ¬ hd.toList = [108,105,99,101,110,115,101]) (r1 : ¬ hd.toList = [101,120,99,101,112,116,105,111,110]) (r2 : ¬ hd.toList = [99,108,97,117,115,101]) (r3 : hd.toList = [97,112,97,114,116]) (hm : ¬ (ws.length + 1) = 3) (hw : Is w wv (hd :: ws)) :
  Calls Tryz.prog 51 #[.agg #[v0, v1, v2, v3], wv] w fun e w' => ROutR B none w e w' := by
 obtain ⟨p0, m0, rfl⟩ := h.lic.shape
 obtain ⟨p1, m1, rfl⟩ := h.exc.shape
 obtain ⟨p2, m2, rfl⟩ := h.cla.shape
 obtain ⟨p3, m3, rfl⟩ := h.prs.shape
 obtain ⟨wa, wc, rfl, hwl, hwc, hwr⟩ := list_inv hw
 simp only [maxLen] at hwc
 obtain ⟨gw, ow, rfl, hgw, k1, ksz0⟩ := str_at (i := 0) hwr rfl
 have k0' : w.cell? ⟨gw, ow, none⟩ = some (.string hd) := by simpa using k1
 have HR := Lib.hid h
 generalize hL0 : c.licenses.length = N0 at *
 generalize hL1 : c.exceptions.length = N1 at *
 generalize hL2 : c.clauses.length = N2 at *
 generalize hL3 : c.apart.length = N3 at *
 clear hL0 hL1 hL2 hL3
 simp only [List.length_cons] at hwl ⊢
 generalize hm0 : ws.length + 1 = m at *
 have b4 : (0 : Int) < (m : Int) := by omega
 have b5 : 0 < m := by omega
 have q1 : ((m : Int) == 3) = false := by simp; omega
 clear hwr hw h hm0
 go_enter Tryz.func51, Tryz.ntmps51
 go_wp2_with fail
 refine bodyPost_ret (v := .tuple #[.agg #[.slice p0 N0 m0, .slice p1 N1 m1, .slice p2 N2 m2, .slice p3 N3 m3], .int .i64 (-1)]) (by simp [results, Tryz.results51, go_sem]) rfl ?_
 exact ROutR.bad rfl ⟨_, _, _, _, _, _, _, _, _, _, _, _, rfl, (by first | ((repeat (first | exact Below.refl _ _ | assumption | refine Below.drewN ?_ _ | refine Below.drew ?_ | refine Below.alloc ?_ (by first | exact Nat.le_refl _ | (simp; done) | (simp; omega) | omega) _ | refine Below.setCell ?_ (by first | exact Nat.le_refl _ | (simp; done) | (simp; omega) | omega) _ | refine Below.trans ?_ (Below.mono (by assumption) (by first | exact Nat.le_refl _ | (simp; done) | (simp; omega) | omega)))); done) | fail)⟩
set_option maxRecDepth 100000 in
set_option maxHeartbeats 4000000 in
theorem none_r4 (B : Nat) (w : World) (v0 v1 v2 v3 : Value) (c : Catalog) (wv : Value) (hd : ByteArray) (ws : List ByteArray) (h : RC B w v0 v1 v2 v3 c) (hB : B ≤ w.heap.size) (r0 : ¬ hd.toList = [108,105,99,101,110,115,101]) (r1 : ¬ hd.toList = [101,120,99,101,112,116,105,111,110]) (r2 : ¬ hd.toList = [99,108,97,117,115,101]) (r3 : ¬ hd.toList = [97,112,97,114,116]) (hw : Is w wv (hd :: ws)) :
  Calls Tryz.prog 51 #[.agg #[v0, v1, v2, v3], wv] w fun e w' => ROutR B none w e w' := by
 obtain ⟨p0, m0, rfl⟩ := h.lic.shape
 obtain ⟨p1, m1, rfl⟩ := h.exc.shape
 obtain ⟨p2, m2, rfl⟩ := h.cla.shape
 obtain ⟨p3, m3, rfl⟩ := h.prs.shape
 obtain ⟨wa, wc, rfl, hwl, hwc, hwr⟩ := list_inv hw
 simp only [maxLen] at hwc
 obtain ⟨gw, ow, rfl, hgw, k1, ksz0⟩ := str_at (i := 0) hwr rfl
 have k0' : w.cell? ⟨gw, ow, none⟩ = some (.string hd) := by simpa using k1
 have HR := Lib.hid h
 generalize hL0 : c.licenses.length = N0 at *
 generalize hL1 : c.exceptions.length = N1 at *
 generalize hL2 : c.clauses.length = N2 at *
 generalize hL3 : c.apart.length = N3 at *
 clear hL0 hL1 hL2 hL3
 simp only [List.length_cons] at hwl ⊢
 generalize hm0 : ws.length + 1 = m at *
 have b4 : (0 : Int) < (m : Int) := by omega
 have b5 : 0 < m := by omega
 clear hwr hw h hm0
 go_enter Tryz.func51, Tryz.ntmps51
 go_wp2_with fail
 refine bodyPost_ret (v := .tuple #[.agg #[.slice p0 N0 m0, .slice p1 N1 m1, .slice p2 N2 m2, .slice p3 N3 m3], .int .i64 (-1)]) (by simp [results, Tryz.results51, go_sem]) rfl ?_
 exact ROutR.bad rfl ⟨_, _, _, _, _, _, _, _, _, _, _, _, rfl, (by first | ((repeat (first | exact Below.refl _ _ | assumption | refine Below.drewN ?_ _ | refine Below.drew ?_ | refine Below.alloc ?_ (by first | exact Nat.le_refl _ | (simp; done) | (simp; omega) | omega) _ | refine Below.setCell ?_ (by first | exact Nat.le_refl _ | (simp; done) | (simp; omega) | omega) _ | refine Below.trans ?_ (Below.mono (by assumption) (by first | exact Nat.le_refl _ | (simp; done) | (simp; omega) | omega)))); done) | fail)⟩
end Go.Proofs.YtaneolfnnkppbaaGreatDoor
namespace Go.Proofs.YtaneolfnnkppbaaGreatDoor
open Go Go.RowKit Go.ChangeShapes
theorem isW_mk (l : List UInt8) (s : ByteArray) : (mkS l = s) ↔ isW s l = true := by
 simp only [isW, decide_eq_true_eq]
 constructor
 ·rintro rfl; simp [mkS]
 ·intro h; rw [← h]; exact mkS_self s
theorem idxFrom_word (s : ByteArray) : ∀ (wl : List (List UInt8)) (i : Int), idxFrom s (wl.map mkS) i = match wl.findIdx? (isW s) with | none => -1 | some k => i + (k : Int)
 | [], i => rfl
 | l :: r, i => by
  rw [List.map_cons, idxFrom, List.findIdx?_cons]
  by_cases h : mkS l = s
  ·rw [if_pos h, if_pos ((isW_mk l s).1 h)]; simp
  ·rw [if_neg h, if_neg (fun e => h ((isW_mk l s).2 e)), idxFrom_word s r (i + 1)]
   cases r.findIdx? (isW s) with
   | none => rfl
   | some k => show i + 1 + (k : Int) = i + ((k + 1 : Nat) : Int); omega
theorem idx_y (W : World) (g n : Nat) (s : ByteArray) (A : Array Value) (T : TypeId) (wl : List (List UInt8)) (hb : W.heap[g]? = some (.cells A T)) (hw : IsWords A n wl) (hs : ∀ l ∈ wl, l.length ≤ 100) :
  Calls Tryz.prog 106 #[.slice (some ⟨g, 0, none⟩) n n, .string s] W fun e w' => e = .returned (.int .i64 (wordIx wl s)) ∧ w' = W := by
 obtain ⟨h1, h6, h2⟩ := hw
 have hi : Is W (.slice (some ⟨g, 0, none⟩) (wl.map mkS).length n) (wl.map mkS) := by
  refine list_mk (by simp; omega) (by unfold maxLen; omega) fun j x hx => ⟨g, 0, rfl, obj_lt hb, ?_, ?_⟩
  ·have hj : j < n := by have := lt_get hx; simp at this; omega
   have e : 0 + j * Lay.n ByteArray = j := by simp [Lay.n]
   show W.cell? ⟨g, 0 + j * Lay.n ByteArray + 0, none⟩ = _
   rw [e]
   refine objcell hb ?_
   rw [Nat.add_zero, h2 j hj, List.getD_eq_getElem?_getD, hx]; rfl
  ·obtain ⟨l, hl, rfl⟩ := List.mem_map.1 (List.mem_of_getElem? hx)
   have := hs l hl
   show (mkS l).size ≤ maxLen
   have e : (mkS l).size = l.length := by simp [mkS, ByteArray.size]
   rw [e]; unfold maxLen; omega
 have h := index_ref W _ s (wl.map mkS) hi
 rw [show (wl.map mkS).length = n by simp [h1], idxFrom_word] at h
 refine h.mono fun e w' ⟨a, b⟩ => ⟨?_, b.symm⟩
 rw [a]; unfold wordIx
 cases wl.findIdx? (isW s) with
 | none => rfl
 | some k => simp
theorem dn_exc {B' B : Nat} {w w' : World} {x y : ByteArray} {la : Option Addr} {lc : Nat} {dn : List Int} (h0 : x.size ≤ maxLen) (h1 : y.size ≤ maxLen) (h2 : OwnV (Value.int .i64) B' 3 w (.slice la dn.length lc) dn) (h3 : ∀ n ∈ dn, inI64 n) (hA : Agree B E6 w w') :
  Lay.is w' (fun j => [Value.string x, .string y, .slice la dn.length lc][j]?) (⟨x, y, dn⟩ : Exc) := by
 obtain ⟨a', c', he, k1, k2, k3⟩ := list_inv ((h2.agree hA (by decide)).ints h3)
 cases he
 exact Exc.is_iff.2 ⟨la, lc, rfl, rfl, rfl, h0, h1, k1, k2, k3⟩
def excRes (c : Catalog) (x y : ByteArray) (ds : List ByteArray) : Option (Catalog × Nat) := match dutyIxs ds with
 | none => none
 | some l => some ({ c with exceptions := c.exceptions ++ [⟨x, y, l⟩] }, 0)
set_option maxRecDepth 100000 in
set_option maxHeartbeats 4000000 in
theorem exc_r (B : Nat) (w : World) (v0 v1 v2 v3 : Value) (c : Catalog) (wv : Value) (x y : ByteArray) (ds : List ByteArray) (h : RC B w v0 v1 v2 v3 c) (hB : B ≤ w.heap.size) (hn : c.exceptions.length ≤ 100000000) (hdn : ds.length ≤ 100000000) (hw : Is w wv (mkS wException :: x :: y :: ds)) :
  Calls Tryz.prog 51 #[.agg #[v0, v1, v2, v3], wv] w fun e w' => ROutR B (excRes c x y ds) w e w' := by
 obtain ⟨p0, m0, rfl⟩ := h.lic.shape
 obtain ⟨p1, m1, rfl⟩ := h.exc.shape
 obtain ⟨p2, m2, rfl⟩ := h.cla.shape
 obtain ⟨p3, m3, rfl⟩ := h.prs.shape
 obtain ⟨wa, wc, rfl, hwl, hwc, hwr⟩ := list_inv hw
 simp only [maxLen] at hwc
 obtain ⟨gw, ow, rfl, hgw, k0, ksz0⟩ := str_at (i := 0) hwr rfl
 obtain ⟨gw', ow', he, -, k1, ksz1⟩ := str_at (i := 1) hwr rfl
 cases he
 obtain ⟨gw', ow', he, -, k2, ksz2⟩ := str_at (i := 2) hwr rfl
 cases he
 have k0' : w.cell? ⟨gw, ow, none⟩ = some (.string (mkS wException)) := by simpa using k0
 have HR := Lib.hid h
 have HWR := Lib.hid hwr
 generalize hL0 : c.licenses.length = N0 at *
 generalize hL1 : c.exceptions.length = N1 at *
 generalize hL2 : c.clauses.length = N2 at *
 generalize hL3 : c.apart.length = N3 at *
 have HL := Lib.hid (And.intro hL0 (And.intro hL1 (And.intro hL2 hL3)))
 clear hL0 hL1 hL2 hL3
 clear k0 hwr hw h
 obtain ⟨hd, HH⟩ : ∃ hd, Hid (hd = mkS wException) := ⟨_, rfl⟩
 rw [← HH.out] at k0'
 have r0 : ¬ hd.toList = [108,105,99,101,110,115,101] := by rw [HH.out, ByteArray.toList_eq]; decide
 have r1 : hd.toList = [101,120,99,101,112,116,105,111,110] := by rw [HH.out, ByteArray.toList_eq]; decide
 have r2 : ¬ hd.toList = [99,108,97,117,115,101] := by rw [HH.out, ByteArray.toList_eq]; decide
 have r3 : ¬ hd.toList = [97,112,97,114,116] := by rw [HH.out, ByteArray.toList_eq]; decide
 simp only [List.length_cons] at hwl ⊢
 generalize hm : ds.length + 1 + 1 + 1 = m at *
 have hm3 : m = ds.length + 3 := by omega
 have b3 : (m : Int) ≤ (wc : Int) := by omega
 have b4 : (0 : Int) < (m : Int) := by omega
 have b5 : (1 : Int) < (m : Int) := by omega
 have b6 : (2 : Int) < (m : Int) := by omega
 have b7 : (3 : Int) ≤ (m : Int) := by omega
 have b8 : 0 < m := by omega
 have HM3 := Lib.hid hm3
 clear hm hm3
 go_enter Tryz.func51, Tryz.ntmps51
 go_wp2
 have hb0 : Below w.heap.size w ((w.alloc (.cells #[.slice p0 N0 m0, .slice p1 N1 m1, .slice p2 N2 m2, .slice p3 N3 m3] 28)).alloc (.cells #[.slice none 0 0, .slice none 0 0, .slice none 0 0, .slice none 0 0] 28)) := (by first | ((repeat (first | exact Below.refl _ _ | assumption | refine Below.drewN ?_ _ | refine Below.drew ?_ | refine Below.alloc ?_ (by first | exact Nat.le_refl _ | (simp; done) | (simp; omega) | omega) _ | refine Below.setCell ?_ (by first | exact Nat.le_refl _ | (simp; done) | (simp; omega) | omega) _ | refine Below.trans ?_ (Below.mono (by assumption) (by first | exact Nat.le_refl _ | (simp; done) | (simp; omega) | omega)))); done) | fail)
 have ob2 : ((w.alloc (.cells #[.slice p0 N0 m0, .slice p1 N1 m1, .slice p2 N2 m2, .slice p3 N3 m3] 28)).alloc (.cells #[.slice none 0 0, .slice none 0 0, .slice none 0 0, .slice none 0 0] 28)).heap[w.heap.size]? = some (.cells #[.slice p0 N0 m0, .slice p1 N1 m1, .slice p2 N2 m2, .slice p3 N3 m3] 28 (0, 0)) := obj_below (obj_new w _) ((Below.refl _ _).alloc (Nat.le_refl _) _)
 have ob4 : ((w.alloc (.cells #[.slice p0 N0 m0, .slice p1 N1 m1, .slice p2 N2 m2, .slice p3 N3 m3] 28)).alloc (.cells #[.slice none 0 0, .slice none 0 0, .slice none 0 0, .slice none 0 0] 28)).heap[w.heap.size + 1]? = some (.cells #[.slice none 0 0, .slice none 0 0, .slice none 0 0, .slice none 0 0] 28 (0, 0)) := by
  have := obj_new (w.alloc (.cells #[.slice p0 N0 m0, .slice p1 N1 m1, .slice p2 N2 m2, .slice p3 N3 m3] 28)) (.cells #[.slice none 0 0, .slice none 0 0, .slice none 0 0, .slice none 0 0] 28)
  simpa using this
 have HR0 := Lib.hid (HR.out.below hb0)
 have j1 := kept hb0 k1
 have j2 := kept hb0 k2
 clear k1 k2 k0'
 have HB0 := Lib.hid hb0
 clear hb0
 generalize (w.alloc (.cells #[.slice p0 N0 m0, .slice p1 N1 m1, .slice p2 N2 m2, .slice p3 N3 m3] 28)).alloc (.cells #[.slice none 0 0, .slice none 0 0, .slice none 0 0, .slice none 0 0] 28) = wq at *
 have OB2 := Lib.hid ob2
 have OB4 := Lib.hid ob4
 have hq0 : w.heap.size < wq.heap.size := obj_lt ob2
 have hq1 : w.heap.size + 1 < wq.heap.size := obj_lt ob4
 have hgq : gw < wq.heap.size := cell_lt j1
 clear ob2 ob4
 go_region_held3 (fun w' => w'.cell? ⟨gw, ow + 1, none⟩ = some (.string x) ∧ w'.cell? ⟨gw, ow + 2, none⟩ = some (.string y)) (go_keep) (fail)
 go_wp2
 have HBA : Hid (Below wq.heap.size wq (wq.alloc (.cells #[.string x, .string y, .slice none 0 0] 62)).drew) := (by first | ((repeat (first | exact Below.refl _ _ | assumption | refine Below.drewN ?_ _ | refine Below.drew ?_ | refine Below.alloc ?_ (by first | exact Nat.le_refl _ | (simp; done) | (simp; omega) | omega) _ | refine Below.setCell ?_ (by first | exact Nat.le_refl _ | (simp; done) | (simp; omega) | omega) _ | refine Below.trans ?_ (Below.mono (by assumption) (by first | exact Nat.le_refl _ | (simp; done) | (simp; omega) | omega)))); done) | fail)
 have HOXA : Hid ((wq.alloc (.cells #[.string x, .string y, .slice none 0 0] 62)).drew.heap[wq.heap.size]? = some (.cells #[.string x, .string y, .slice none 0 0] 62 (0, 0))) := obj_new _ _
 generalize (wq.alloc (.cells #[.string x, .string y, .slice none 0 0] 62)).drew = wz at *
 go_loopw [9] (fun kv wr => ∃ (i j : Nat) (dn : List Int) (la : Option Addr) (lc : Nat), Hid (i = j + 3) ∧ 3 ≤ i ∧ i ≤ m ∧ kv = .int .i64 i ∧ Hid (dn.length = j) ∧ Hid (Below wq.heap.size wq wr) ∧ Hid (wr.heap[wq.heap.size]? = some (.cells #[.string x, .string y, .slice la dn.length lc] 62 (0, 0))) ∧ Hid (OwnV (Value.int .i64) (wq.heap.size + 1) 3 wr (.slice la dn.length lc) dn) ∧ Hid (∀ n ∈ dn, inI64 n) ∧ Hid (dutyIxs ds = match dutyIxs (ds.drop j) with | none => none | some l => some (dn ++ l))) (fun kv _ => m - (intOf kv).toNat)
 case atStart =>
  refine ⟨3, 0, [], none, 0, rfl, by omega, by omega, by go_num, rfl, HBA.out, HOXA.out, OwnV.nil _ _ _ _, by intro n hn; simp at hn, ?_⟩
  show _ = _
  rw [List.drop_zero]
  cases dutyIxs ds with
  | none => rfl
  | some l => rfl
 case round =>
  obtain ⟨i, j, dn, la, lc, HIJ, hi3, him, rfl, hdn, HBq, HOX, HOV, HIN, hf⟩ := hrel
  by_cases hji : i < m
  ·obtain ⟨s, hs⟩ := get_lt (xs := ds) (k := j) (by have := HIJ.out; have := HM3.out; omega)
   have hd' := Lib.hid (drop_at hs)
   obtain ⟨gw2, ow2, he, -, c0', csz⟩ := str_at (i := i) HWR.out (by rw [HIJ.out]; simpa using hs)
   cases he
   have c0 := kept (HB0.out.trans (HBq.out.mono (Nat.le_of_lt hq0))) c0'
   have hjz : (i : Int) < (m : Int) := by omega
   have hgr : gw < wr.heap.size := cell_lt c0
   have hxw : wq.heap.size < wr.heap.size := obj_lt HOX.out
   clear c0' hs
   go_wp2
   go_region_held3 (fun w' => w'.cell? ⟨gw, ow + i, none⟩ = some (.string s)) (first | (go_keep; done) | exact kept (by first | ((repeat (first | exact Below.refl _ _ | assumption | refine Below.drewN ?_ _ | refine Below.drew ?_ | refine Below.alloc ?_ (by first | exact Nat.le_refl _ | (simp; done) | (simp; omega) | omega) _ | refine Below.setCell ?_ (by first | exact Nat.le_refl _ | (simp; done) | (simp; omega) | omega) _ | refine Below.trans ?_ (Below.mono (by assumption) (by first | exact Nat.le_refl _ | (simp; done) | (simp; omega) | omega)))); done) | fail) c0)
    (first
     | (go_at_call 64; refine (dutiesR _).mono ?_; rintro e w4 ⟨rfl, T4, -, rfl⟩)
     | (go_at_call 106; refine (idx_y _ _ _ _ _ _ _ (by rw [drew_get]; exact obj_new _ _) isDuty (by decide)).mono ?_; rintro e w5 ⟨rfl, rfl⟩)
     | fail)
   all_goals
    generalize hW : World.drew _ = wd
    have hbd : Below wr.heap.size wr wd := by
     rw [← hW]
     exact (by first | ((repeat (first | exact Below.refl _ _ | assumption | refine Below.drewN ?_ _ | refine Below.drew ?_ | refine Below.alloc ?_ (by first | exact Nat.le_refl _ | (simp; done) | (simp; omega) | omega) _ | refine Below.setCell ?_ (by first | exact Nat.le_refl _ | (simp; done) | (simp; omega) | omega) _ | refine Below.trans ?_ (Below.mono (by assumption) (by first | exact Nat.le_refl _ | (simp; done) | (simp; omega) | omega)))); done) | fail)
    clear hW c0
    have hwd : wr.heap.size ≤ wd.heap.size := hbd.size
    have HBD : Hid (Below wq.heap.size wq wd) := HBq.out.trans (hbd.mono HBq.out.size)
    have OXD := Lib.hid (objbelow HOX.out hbd)
    have OVD := Lib.hid (HOV.out.below hbd)
    have OBD2 := Lib.hid (obj_below OB2.out HBD.out)
    have OBD4 := Lib.hid (obj_below OB4.out HBD.out)
    clear hbd
    cases q2 : decide (wordIx dutyW s < 0)
    case true =>
     have hE : Hid (excRes c x y ds = none) := by
      show _ = _
      have : dutyIxs ds = none := by
       rw [hf.out, hd'.out, dutyIxs_cons, if_pos (of_decide_eq_true q2)]
      unfold excRes
      simp only [this]
     have ob2 := OBD2.out
     have ob4 := OBD4.out
     have HBz : Hid (Below w.heap.size w wd) := HB0.out.trans (HBD.out.mono (Nat.le_of_lt hq0))
     have c0 := objcell ob2 (j := 0) rfl
     have c1 := objcell ob2 (j := 1) rfl
     have c2 := objcell ob2 (j := 2) rfl
     have c3 := objcell ob2 (j := 3) rfl
     have d0 := objcell ob4 (j := 0) rfl
     have d1 := objcell ob4 (j := 1) rfl
     have d2 := objcell ob4 (j := 2) rfl
     have d3 := objcell ob4 (j := 3) rfl
     have f0 := objfrozen ob4 (j := 0)
     have f1 := objfrozen ob4 (j := 1)
     have f2 := objfrozen ob4 (j := 2)
     have f3 := objfrozen ob4 (j := 3)
     have g2 : w.heap.size < wd.heap.size := obj_lt ob2
     have g4 : w.heap.size + 1 < wd.heap.size := obj_lt ob4
     clear ob2 ob4
     go_wp2
     refine bodyPost_ret (v := .tuple #[.agg #[.slice p0 N0 m0, .slice p1 N1 m1, .slice p2 N2 m2, .slice p3 N3 m3], .int .i64 (-1)]) (by simp [results, Tryz.results51, go_sem, d0, d1, d2, d3]) rfl ?_
     exact ROutR.bad hE.out ⟨_, _, _, _, _, _, _, _, _, _, _, _, rfl, below_bad (by omega) HBz.out⟩
    case false =>
     have hneg := of_decide_eq_false q2
     have x2 := objcell OXD.out (j := 2) rfl
     have hxd : wq.heap.size < wd.heap.size := by omega
     go_wp2_with (at_builtin; go_loud (refine app_int rfl _ _ rfl (wq.heap.size + 1) _ _ rfl OVD.out (wordIx dutyW s) (by first | rfl | simp) (by have := hdn.out; have := HIJ.out; have := HM3.out; omega) (by omega) ?_))
     intro a' c' w7 ho7 hg7
     have hbw7 : Below wq.heap.size wq w7 := Below.grown (B := wq.heap.size) (Below.alloc HBD.out (by omega) _) hg7 (by simp; omega) (fun k hk => Nat.le_of_succ_le (own_block OVD.out k hk))
     have hne7 : some wq.heap.size ≠ (Value.slice la dn.length lc).ownBlock := fun e => by have := own_block OVD.out _ e.symm; omega
     have ob7 : w7.heap[wq.heap.size]? = some (.cells #[.string x, .string y, .slice la dn.length lc] 62 (0, 0)) := by
      rw [hg7.block wq.heap.size (by simp; omega) hne7]
      exact objbelow OXD.out ((Below.refl wd.heap.size wd).alloc (Nat.le_refl _) _)
     have x7 := objcell ob7 (j := 2) rfl
     have f7 := objfrozen ob7 (j := 2)
     have HB7 := Lib.hid hbw7
     have HO7 := Lib.hid ho7
     have OB7 := Lib.hid ob7
     have hw7 : wq.heap.size < w7.heap.size := obj_lt ob7
     clear hbw7 ho7 ob7 hne7 hg7
     go_wp2
     go_roundw
     case rel =>
      refine ⟨i + 1, j + 1, dn ++ [wordIx dutyW s], a', c', ?_, by omega, by omega, by go_num, by show _ = _; have := hdn.out; simp [this], ?_, ?_, ?_, ?_, ?_⟩
      ·show _ = _
       have := HIJ.out; omega
      ·exact Below.setCell HB7.out (Nat.le_refl _) _
      ·show _ = _
       rw [setCell_obj w7 wq.heap.size 2 _ OB7.out]
       simp
      ·show OwnV _ _ _ _ _ _
       simp only [List.length_append, List.length_cons, List.length_nil, Nat.zero_add]
       exact HO7.out.setCell (by show wq.heap.size < _; omega)
      ·intro n hn
       rcases List.mem_append.1 hn with hn | hn
       ·exact HIN.out n hn
       ·simp only [List.mem_singleton] at hn
        subst hn
        have := wordIx_lt (ws := dutyW) (s := s)
        have h6 : (dutyW.length : Int) = 6 := rfl
        unfold inI64; omega
      ·show _ = _
       rw [hf.out, hd'.out, dutyIxs_cons, if_neg (show ¬ wordIx dutyW s < 0 by omega)]
       cases dutyIxs (ds.drop (j + 1)) with
       | none => rfl
       | some l => simp
     case measure => simp [intOf]; omega
  ·obtain rfl : i = m := by omega
   have hjd : j = ds.length := by have := HIJ.out; have := HM3.out; omega
   have hE : Hid (excRes c x y ds = some ({ c with exceptions := c.exceptions ++ [⟨x, y, dn⟩] }, 0)) := by
    show _ = _
    have hds : dutyIxs ds = some dn := by
     rw [hf.out, List.drop_eq_nil_of_le (by omega)]; simp [dutyIxs]
    unfold excRes
    simp only [hds]
   have OBR2 := Lib.hid (obj_below OB2.out HBq.out)
   have OBR4 := Lib.hid (obj_below OB4.out HBq.out)
   have HRR := Lib.hid (HR0.out.below HBq.out)
   have y1 := objcell OBR2.out (j := 1) rfl
   have x0 := objcell HOX.out (j := 0) rfl
   have x1 := objcell HOX.out (j := 1) rfl
   have x2 := objcell HOX.out (j := 2) rfl
   have g2 : w.heap.size < wr.heap.size := obj_lt OBR2.out
   have g3 : wq.heap.size < wr.heap.size := obj_lt HOX.out
   clear hjd
   go_wp2_with (at_builtin; go_loud (refine wp_appL excRow rfl (by decide) Tryz.underlying24 rfl _ _ rfl B E6 (.slice p1 N1 m1) c.exceptions rfl (by decide) HRR.out.exc #[.string x, .string y, .slice la dn.length lc] ⟨x, y, dn⟩ (by first | rfl | simp) rfl (by simp [Value.oneCell']) (fun w'' hA => dn_exc ksz1 ksz2 (HOV.out.below (by first | ((repeat (first | exact Below.refl _ _ | assumption | refine Below.drewN ?_ _ | refine Below.drew ?_ | refine Below.alloc ?_ (by first | exact Nat.le_refl _ | (simp; done) | (simp; omega) | omega) _ | refine Below.setCell ?_ (by first | exact Nat.le_refl _ | (simp; done) | (simp; omega) | omega) _ | refine Below.trans ?_ (Below.mono (by assumption) (by first | exact Nat.le_refl _ | (simp; done) | (simp; omega) | omega)))); done) | fail)) HIN.out hA) (by rw [HL.out.2.1]; omega) (by omega) ?_))
   intro v' w9 ho9 hb9 hA9 hsz
   obtain ⟨a', c', rfl⟩ := ho9.shape
   have hlx : (c.exceptions ++ [(⟨x, y, dn⟩ : Exc)]).length = N1 + 1 := by rw [List.length_append, HL.out.2.1]; rfl
   rw [hlx] at ho9 ⊢
   have HR1 := Lib.hid (HRR.out.set_exc (Below.refl _ _) hA9 ho9)
   have HK1 := Lib.hid (KeepBox.of (HB0.out.trans (HBq.out.mono (Nat.le_of_lt hq0))) (Below.refl _ _) hA9 (by decide))
   have ob2 := hA9.obj OBR2.out (by decide)
   have ob4 := hA9.obj OBR4.out (by decide)
   have zf := objfrozen ob2 (j := 1)
   have HB1 : Hid (Below B w w9) := ((HB0.out.trans (HBq.out.mono (Nat.le_of_lt hq0))).mono hB).trans (hb9.mono (Nat.le_refl _))
   have c0 := objcell ob2 (j := 0) rfl
   have c1 := objcell ob2 (j := 1) rfl
   have c2 := objcell ob2 (j := 2) rfl
   have c3 := objcell ob2 (j := 3) rfl
   have d0 := objcell ob4 (j := 0) rfl
   have d1 := objcell ob4 (j := 1) rfl
   have d2 := objcell ob4 (j := 2) rfl
   have d3 := objcell ob4 (j := 3) rfl
   have f0 := objfrozen ob4 (j := 0)
   have f1 := objfrozen ob4 (j := 1)
   have f2 := objfrozen ob4 (j := 2)
   have f3 := objfrozen ob4 (j := 3)
   have g2 : w.heap.size < w9.heap.size := obj_lt ob2
   have g4 : w.heap.size + 1 < w9.heap.size := obj_lt ob4
   have OC2 := Lib.hid ob2
   have OC4 := Lib.hid ob4
   clear ob2 ob4 ho9 hb9 hA9 hsz hlx x0 x1 x2 y1
   go_wp2
   refine bodyPost_ret (v := .tuple #[.agg #[.slice p0 N0 m0, .slice a' (N1 + 1) c', .slice p2 N2 m2, .slice p3 N3 m3], .int .i64 0]) (by simp [results, Tryz.results51, go_sem, d0, d1, d2, d3]) rfl ?_
   exact ROutR.ok hE.out ⟨_, _, _, _, rfl, below_end hB (by omega) HB1.out, HR1.out.agree (agree_end hB (by omega) ⟨_, _, OC2.out⟩ ⟨_, _, OC4.out⟩), HK1.out.fin (Nat.le_refl _) (by omega)⟩
end Go.Proofs.YtaneolfnnkppbaaGreatDoor
