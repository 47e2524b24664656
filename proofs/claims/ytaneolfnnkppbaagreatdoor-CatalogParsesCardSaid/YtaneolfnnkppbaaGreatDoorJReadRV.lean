/- The reference's reader of a line: clauses. -/
import Derived.Test.YtaneolfnnkppbaaGreatDoorJReadRU
set_option linter.all false
namespace Go.Proofs.YtaneolfnnkppbaaGreatDoor
open Go Go.RowKit Go.ChangeShapes
theorem cl_is6 {B' B : Nat} {w w' : World} {x : ByteArray} {a b c : Int} {la : Option Addr} {lc : Nat} {dn : List ByteArray} (h0 : x.size ≤ maxLen) (ha : inI64 a) (hb : inI64 b) (hc : inI64 c) (h2 : OwnV Value.string B' 9 w (.slice la dn.length lc) dn) (h3 : ∀ n ∈ dn, n.size ≤ maxLen) (hA : Agree B E6 w w') :
    Lay.is w' (fun j => [Value.string x, .int .i64 a, .int .i64 b, .int .i64 c, .slice la dn.length lc][j]?) (⟨x, a, b, c, dn⟩ : Clause) := by
  obtain ⟨a', c', he, k1, k2, k3⟩ := list_inv ((h2.agree hA (by decide)).strs h3)
  cases he
  exact Clause.is_iff.2 ⟨la, lc, rfl, rfl, rfl, rfl, rfl, h0, ha, hb, hc, k1, k2, k3⟩
def claRes (c : Catalog) (x y1 y2 y3 : ByteArray) (ds : List ByteArray) : Option (Catalog × Nat) :=
  if decide (wordIx wayW y1 < 0) || decide (wordIx relW y2 < 0) || decide (wordIx dutyW y3 < 0) then none
  else some ({ c with clauses := c.clauses ++ [⟨x, wordIx wayW y1, wordIx relW y2, wordIx dutyW y3, ds⟩] }, 0)
set_option maxRecDepth 100000 in
set_option maxHeartbeats 400000000 in
theorem cla_r (B : Nat) (w : World) (v0 v1 v2 v3 : Value) (c : Catalog) (wv : Value) (x y1 y2 y3 : ByteArray) (ds : List ByteArray) (h : RC B w v0 v1 v2 v3 c) (hB : B ≤ w.heap.size) (hn : c.clauses.length ≤ 100000000) (hdn : ds.length ≤ 100000000) (hw : Is w wv (mkS wClause :: x :: y1 :: y2 :: y3 :: ds)) :
    Calls Tryz.prog 51 #[.agg #[v0, v1, v2, v3], wv] w fun e w' => ROutR B (claRes c x y1 y2 y3 ds) w e w' := by
  obtain ⟨p0, m0, rfl⟩ := h.lic.shape
  obtain ⟨p1, m1, rfl⟩ := h.exc.shape
  obtain ⟨p2, m2, rfl⟩ := h.cla.shape
  obtain ⟨p3, m3, rfl⟩ := h.prs.shape
  obtain ⟨wa, wc, rfl, hwl, hwc, hwr⟩ := list_inv hw
  simp only [maxLen] at hwc
  obtain ⟨gw, ow, rfl, hgw, k0, ksz0⟩ := str_at (i := 0) hwr rfl
  obtain ⟨gw', ow', he, -, k1, ksz1⟩ := str_at (i := 1) hwr rfl
  cases he
  obtain ⟨gw', ow', he, -, k2, ksz2⟩ := str_at (i := 2) hwr rfl
  cases he
  obtain ⟨gw', ow', he, -, k3, ksz3⟩ := str_at (i := 3) hwr rfl
  cases he
  obtain ⟨gw', ow', he, -, k4, ksz4⟩ := str_at (i := 4) hwr rfl
  cases he
  have k0' : w.cell? ⟨gw, ow, none⟩ = some (.string (mkS wClause)) := by simpa using k0
  have HR := Lib.hid h
  have HWR := Lib.hid hwr
  generalize hL0 : c.licenses.length = N0 at *
  generalize hL1 : c.exceptions.length = N1 at *
  generalize hL2 : c.clauses.length = N2 at *
  generalize hL3 : c.apart.length = N3 at *
  have HL := Lib.hid (And.intro hL0 (And.intro hL1 (And.intro hL2 hL3)))
  clear hL0 hL1 hL2 hL3
  clear k0 hwr hw h
  obtain ⟨hd, HH⟩ : ∃ hd, Hid (hd = mkS wClause) := ⟨_, rfl⟩
  rw [← HH.out] at k0'
  have r0 : ¬ hd.toList = [108,105,99,101,110,115,101] := by rw [HH.out, ByteArray.toList_eq]; decide
  have r1 : ¬ hd.toList = [101,120,99,101,112,116,105,111,110] := by rw [HH.out, ByteArray.toList_eq]; decide
  have r2 : hd.toList = [99,108,97,117,115,101] := by rw [HH.out, ByteArray.toList_eq]; decide
  have r3 : ¬ hd.toList = [97,112,97,114,116] := by rw [HH.out, ByteArray.toList_eq]; decide
  simp only [List.length_cons] at hwl ⊢
  generalize hm : ds.length + 1 + 1 + 1 + 1 + 1 = m at *
  have hm3 : m = ds.length + 5 := by omega
  have b1 : (5 : Int) ≤ (wc : Int) := by omega
  have b2 : (5 : Int) ≤ (m : Int) := by omega
  have b3 : (m : Int) ≤ (wc : Int) := by omega
  have b4 : (0 : Int) < (m : Int) := by omega
  have b5 : (1 : Int) < (m : Int) := by omega
  have b6 : (2 : Int) < (m : Int) := by omega
  have b7 : (3 : Int) < (m : Int) := by omega
  have b9 : (4 : Int) < (m : Int) := by omega
  have b8 : 0 < m := by omega
  have HM3 := Lib.hid hm3
  clear hm hm3
  go_enter Tryz.func51, Tryz.ntmps51
  go_wp2
  have hb0 : Below w.heap.size w ((w.alloc (.cells #[.slice p0 N0 m0, .slice p1 N1 m1, .slice p2 N2 m2, .slice p3 N3 m3] 28)).alloc (.cells #[.slice none 0 0, .slice none 0 0, .slice none 0 0, .slice none 0 0] 28)) := (by first | ((repeat (first | exact Below.refl _ _ | assumption | refine Below.drewN ?_ _ | refine Below.drew ?_ | refine Below.alloc ?_ (by first | exact Nat.le_refl _ | (simp; done) | (simp; omega) | omega) _ | refine Below.setCell ?_ (by first | exact Nat.le_refl _ | (simp; done) | (simp; omega) | omega) _ | refine Below.trans ?_ (Below.mono (by assumption) (by first | exact Nat.le_refl _ | (simp; done) | (simp; omega) | omega)))); done) | fail)
  have ob2 : ((w.alloc (.cells #[.slice p0 N0 m0, .slice p1 N1 m1, .slice p2 N2 m2, .slice p3 N3 m3] 28)).alloc (.cells #[.slice none 0 0, .slice none 0 0, .slice none 0 0, .slice none 0 0] 28)).heap[w.heap.size]? = some (.cells #[.slice p0 N0 m0, .slice p1 N1 m1, .slice p2 N2 m2, .slice p3 N3 m3] 28 (0, 0)) := obj_below (obj_new w _) ((Below.refl _ _).alloc (Nat.le_refl _) _)
  have ob4 : ((w.alloc (.cells #[.slice p0 N0 m0, .slice p1 N1 m1, .slice p2 N2 m2, .slice p3 N3 m3] 28)).alloc (.cells #[.slice none 0 0, .slice none 0 0, .slice none 0 0, .slice none 0 0] 28)).heap[w.heap.size + 1]? = some (.cells #[.slice none 0 0, .slice none 0 0, .slice none 0 0, .slice none 0 0] 28 (0, 0)) := by
    have := obj_new (w.alloc (.cells #[.slice p0 N0 m0, .slice p1 N1 m1, .slice p2 N2 m2, .slice p3 N3 m3] 28)) (.cells #[.slice none 0 0, .slice none 0 0, .slice none 0 0, .slice none 0 0] 28)
    simpa using this
  have HR0 := Lib.hid (HR.out.below hb0)
  have j1 := kept hb0 k1
  have j2 := kept hb0 k2
  have j3 := kept hb0 k3
  have j4 := kept hb0 k4
  clear k1 k2 k3 k4 k0'
  have HB0 := Lib.hid hb0
  clear hb0
  generalize (w.alloc (.cells #[.slice p0 N0 m0, .slice p1 N1 m1, .slice p2 N2 m2, .slice p3 N3 m3] 28)).alloc (.cells #[.slice none 0 0, .slice none 0 0, .slice none 0 0, .slice none 0 0] 28) = wq at *
  have OB2 := Lib.hid ob2
  have OB4 := Lib.hid ob4
  have hq0 : w.heap.size < wq.heap.size := obj_lt ob2
  have hq1 : w.heap.size + 1 < wq.heap.size := obj_lt ob4
  have hgq : gw < wq.heap.size := cell_lt j1
  clear ob2 ob4
  go_region_held3 (fun w' => w'.cell? ⟨gw, ow + 1, none⟩ = some (.string x) ∧ w'.cell? ⟨gw, ow + 2, none⟩ = some (.string y1) ∧ w'.cell? ⟨gw, ow + 3, none⟩ = some (.string y2) ∧ w'.cell? ⟨gw, ow + 4, none⟩ = some (.string y3))
    (first | (go_keep; done) | exact ⟨kept (by first | ((repeat (first | exact Below.refl _ _ | assumption | refine Below.drewN ?_ _ | refine Below.drew ?_ | refine Below.alloc ?_ (by first | exact Nat.le_refl _ | (simp; done) | (simp; omega) | omega) _ | refine Below.setCell ?_ (by first | exact Nat.le_refl _ | (simp; done) | (simp; omega) | omega) _ | refine Below.trans ?_ (Below.mono (by assumption) (by first | exact Nat.le_refl _ | (simp; done) | (simp; omega) | omega)))); done) | fail) j1, kept (by first | ((repeat (first | exact Below.refl _ _ | assumption | refine Below.drewN ?_ _ | refine Below.drew ?_ | refine Below.alloc ?_ (by first | exact Nat.le_refl _ | (simp; done) | (simp; omega) | omega) _ | refine Below.setCell ?_ (by first | exact Nat.le_refl _ | (simp; done) | (simp; omega) | omega) _ | refine Below.trans ?_ (Below.mono (by assumption) (by first | exact Nat.le_refl _ | (simp; done) | (simp; omega) | omega)))); done) | fail) j2, kept (by first | ((repeat (first | exact Below.refl _ _ | assumption | refine Below.drewN ?_ _ | refine Below.drew ?_ | refine Below.alloc ?_ (by first | exact Nat.le_refl _ | (simp; done) | (simp; omega) | omega) _ | refine Below.setCell ?_ (by first | exact Nat.le_refl _ | (simp; done) | (simp; omega) | omega) _ | refine Below.trans ?_ (Below.mono (by assumption) (by first | exact Nat.le_refl _ | (simp; done) | (simp; omega) | omega)))); done) | fail) j3, kept (by first | ((repeat (first | exact Below.refl _ _ | assumption | refine Below.drewN ?_ _ | refine Below.drew ?_ | refine Below.alloc ?_ (by first | exact Nat.le_refl _ | (simp; done) | (simp; omega) | omega) _ | refine Below.setCell ?_ (by first | exact Nat.le_refl _ | (simp; done) | (simp; omega) | omega) _ | refine Below.trans ?_ (Below.mono (by assumption) (by first | exact Nat.le_refl _ | (simp; done) | (simp; omega) | omega)))); done) | fail) j4⟩)
    (first
      | (go_at_call 65; refine (waysR _).mono ?_; rintro e w4 ⟨rfl, T4, -, rfl⟩)
      | (go_at_call 66; refine (relsR _).mono ?_; rintro e w5 ⟨rfl, T5, -, rfl⟩)
      | (go_at_call 64; refine (dutiesR _).mono ?_; rintro e w6 ⟨rfl, T6, -, rfl⟩)
      | (go_at_call 106; refine (idx_y _ _ _ _ _ _ _ (by simp only [alloc_get, drew_get, World.size_alloc]; simp; exact ⟨rfl, rfl⟩) (by first | exact isWay | exact isRel | exact isDuty) (by decide)).mono ?_; rintro e w7 ⟨rfl, rfl⟩)
      | (go_at_call 106; refine (idx_y _ _ _ _ _ _ _ (by rw [drew_get]; exact obj_new _ _) (by first | exact isWay | exact isRel | exact isDuty) (by decide)).mono ?_; rintro e w7 ⟨rfl, rfl⟩)
      | fail)
  all_goals
    generalize hW : World.drew _ = wp
    have hbq : Below wq.heap.size wq wp := by
      rw [← hW]
      exact (by first | ((repeat (first | exact Below.refl _ _ | assumption | refine Below.drewN ?_ _ | refine Below.drew ?_ | refine Below.alloc ?_ (by first | exact Nat.le_refl _ | (simp; done) | (simp; omega) | omega) _ | refine Below.setCell ?_ (by first | exact Nat.le_refl _ | (simp; done) | (simp; omega) | omega) _ | refine Below.trans ?_ (Below.mono (by assumption) (by first | exact Nat.le_refl _ | (simp; done) | (simp; omega) | omega)))); done) | fail)
    first
    | (have ob0 : wp.heap[wq.heap.size]? = some (.cells #[.string x, .int .i64 (wordIx wayW y1), .int .i64 (wordIx relW y2), .int .i64 (wordIx dutyW y3), .slice none 0 0] 65 (0, 0)) := by rw [← hW]; exact get4_1 wq _ _ _ _
       generalize hxb : wq.heap.size = xb at ob0 ⊢)
    | (have ob0 : wp.heap[wq.heap.size + 1]? = some (.cells #[.string x, .int .i64 (wordIx wayW y1), .int .i64 (wordIx relW y2), .int .i64 (wordIx dutyW y3), .slice none 0 0] 65 (0, 0)) := by rw [← hW]; exact get4_2 wq _ _ _ _
       generalize hxb : wq.heap.size + 1 = xb at ob0 ⊢)
    | (have ob0 : wp.heap[wq.heap.size + 1 + 1]? = some (.cells #[.string x, .int .i64 (wordIx wayW y1), .int .i64 (wordIx relW y2), .int .i64 (wordIx dutyW y3), .slice none 0 0] 65 (0, 0)) := by rw [← hW]; exact get4_3 wq _ _ _ _
       generalize hxb : wq.heap.size + 1 + 1 = xb at ob0 ⊢)
    | (have ob0 : wp.heap[wq.heap.size + 1 + 1 + 1]? = some (.cells #[.string x, .int .i64 (wordIx wayW y1), .int .i64 (wordIx relW y2), .int .i64 (wordIx dutyW y3), .slice none 0 0] 65 (0, 0)) := by rw [← hW]; exact get4_4 wq _ _ _ _
       generalize hxb : wq.heap.size + 1 + 1 + 1 = xb at ob0 ⊢)
    have hxlt : xb < wp.heap.size := obj_lt ob0
    have hxw : wq.heap.size ≤ xb := by omega
    have HBq := Lib.hid hbq
    have OB0 := Lib.hid ob0
    have x0 := objcell ob0 (j := 0) rfl
    have x1 := objcell ob0 (j := 1) rfl
    have x2 := objcell ob0 (j := 2) rfl
    have x3 := objcell ob0 (j := 3) rfl
    have x4 := objcell ob0 (j := 4) rfl
    have hwq : wq.heap.size ≤ wp.heap.size := hbq.size
    have OBP2 := Lib.hid (obj_below OB2.out hbq)
    have OBP4 := Lib.hid (obj_below OB4.out hbq)
    have hgp : gw < wp.heap.size := by omega
    clear hW hbq ob0 hxb j1 j2 j3 j4
    cases pw : decide (wordIx wayW y1 < 0)
    case true =>
      have hE : Hid (claRes c x y1 y2 y3 ds = none) := by show _ = _; unfold claRes; simp only [pw, Bool.true_or, Bool.or_true, if_true]
      have ob4 := OBP4.out
      have d0 := objcell ob4 (j := 0) rfl
      have d1 := objcell ob4 (j := 1) rfl
      have d2 := objcell ob4 (j := 2) rfl
      have d3 := objcell ob4 (j := 3) rfl
      have f0 := objfrozen ob4 (j := 0)
      have f1 := objfrozen ob4 (j := 1)
      have f2 := objfrozen ob4 (j := 2)
      have f3 := objfrozen ob4 (j := 3)
      have ob2 := OBP2.out
      have c0 := objcell ob2 (j := 0) rfl
      have c1 := objcell ob2 (j := 1) rfl
      have c2 := objcell ob2 (j := 2) rfl
      have c3 := objcell ob2 (j := 3) rfl
      have g2 : w.heap.size < wp.heap.size := obj_lt ob2
      have g4 : w.heap.size + 1 < wp.heap.size := obj_lt ob4
      clear ob2 ob4
      go_wp2
      refine bodyPost_ret (v := .tuple #[.agg #[.slice p0 N0 m0, .slice p1 N1 m1, .slice p2 N2 m2, .slice p3 N3 m3], .int .i64 (-1)]) (by simp [results, Tryz.results51, go_sem, d0, d1, d2, d3]) rfl ?_
      exact ROutR.bad hE.out ⟨_, _, _, _, _, _, _, _, _, _, _, _, rfl, below_bad (by omega) (HB0.out.trans (HBq.out.mono (Nat.le_of_lt hq0)))⟩
    cases pr : decide (wordIx relW y2 < 0)
    case true =>
      have hE : Hid (claRes c x y1 y2 y3 ds = none) := by show _ = _; unfold claRes; simp only [pr, Bool.true_or, Bool.or_true, if_true]
      have ob4 := OBP4.out
      have d0 := objcell ob4 (j := 0) rfl
      have d1 := objcell ob4 (j := 1) rfl
      have d2 := objcell ob4 (j := 2) rfl
      have d3 := objcell ob4 (j := 3) rfl
      have f0 := objfrozen ob4 (j := 0)
      have f1 := objfrozen ob4 (j := 1)
      have f2 := objfrozen ob4 (j := 2)
      have f3 := objfrozen ob4 (j := 3)
      have ob2 := OBP2.out
      have c0 := objcell ob2 (j := 0) rfl
      have c1 := objcell ob2 (j := 1) rfl
      have c2 := objcell ob2 (j := 2) rfl
      have c3 := objcell ob2 (j := 3) rfl
      have g2 : w.heap.size < wp.heap.size := obj_lt ob2
      have g4 : w.heap.size + 1 < wp.heap.size := obj_lt ob4
      clear ob2 ob4
      go_wp2
      refine bodyPost_ret (v := .tuple #[.agg #[.slice p0 N0 m0, .slice p1 N1 m1, .slice p2 N2 m2, .slice p3 N3 m3], .int .i64 (-1)]) (by simp [results, Tryz.results51, go_sem, d0, d1, d2, d3]) rfl ?_
      exact ROutR.bad hE.out ⟨_, _, _, _, _, _, _, _, _, _, _, _, rfl, below_bad (by omega) (HB0.out.trans (HBq.out.mono (Nat.le_of_lt hq0)))⟩
    cases pd : decide (wordIx dutyW y3 < 0)
    case true =>
      have hE : Hid (claRes c x y1 y2 y3 ds = none) := by show _ = _; unfold claRes; simp only [pd, Bool.true_or, Bool.or_true, if_true]
      have ob4 := OBP4.out
      have d0 := objcell ob4 (j := 0) rfl
      have d1 := objcell ob4 (j := 1) rfl
      have d2 := objcell ob4 (j := 2) rfl
      have d3 := objcell ob4 (j := 3) rfl
      have f0 := objfrozen ob4 (j := 0)
      have f1 := objfrozen ob4 (j := 1)
      have f2 := objfrozen ob4 (j := 2)
      have f3 := objfrozen ob4 (j := 3)
      have ob2 := OBP2.out
      have c0 := objcell ob2 (j := 0) rfl
      have c1 := objcell ob2 (j := 1) rfl
      have c2 := objcell ob2 (j := 2) rfl
      have c3 := objcell ob2 (j := 3) rfl
      have g2 : w.heap.size < wp.heap.size := obj_lt ob2
      have g4 : w.heap.size + 1 < wp.heap.size := obj_lt ob4
      clear ob2 ob4
      go_wp2
      refine bodyPost_ret (v := .tuple #[.agg #[.slice p0 N0 m0, .slice p1 N1 m1, .slice p2 N2 m2, .slice p3 N3 m3], .int .i64 (-1)]) (by simp [results, Tryz.results51, go_sem, d0, d1, d2, d3]) rfl ?_
      exact ROutR.bad hE.out ⟨_, _, _, _, _, _, _, _, _, _, _, _, rfl, below_bad (by omega) (HB0.out.trans (HBq.out.mono (Nat.le_of_lt hq0)))⟩
    have hE : Hid (claRes c x y1 y2 y3 ds = some ({ c with clauses := c.clauses ++ [⟨x, wordIx wayW y1, wordIx relW y2, wordIx dutyW y3, ds⟩] }, 0)) := by
      show _ = _
      unfold claRes
      simp only [pw, pr, pd, Bool.or_self, Bool.false_eq_true, if_false]
    have hdm : m - 5 = ds.length := by have := HM3.out; omega
    by_cases hc5 : wc = 5
    · have hd0 : Hid (ds = []) := List.length_eq_zero_iff.1 (by have := HM3.out; omega)
      have HU : Hid (Is wp (.slice (some ⟨gw, ow, none⟩) ds.length 0) ds) := by
        show Is _ _ _
        exact list_mk (by rw [hd0.out]; simp) (by decide) (fun i z hz => by rw [hd0.out] at hz; simp at hz)
      go_wp2
      go_region_law ((refine step_app_strs (by rfl) _ _ (by rfl) wp.heap.size (.slice none 0 0) [] (by rfl) (OwnV.nil _ _ _ _) (.slice (some ⟨gw, ow, none⟩) ds.length 0) ds (by rfl) (HU.out.mono (by first | ((repeat (first | exact Below.refl _ _ | assumption | refine Below.drewN ?_ _ | refine Below.drew ?_ | refine Below.alloc ?_ (by first | exact Nat.le_refl _ | (simp; done) | (simp; omega) | omega) _ | refine Below.setCell ?_ (by first | exact Nat.le_refl _ | (simp; done) | (simp; omega) | omega) _ | refine Below.trans ?_ (Below.mono (by assumption) (by first | exact Nat.le_refl _ | (simp; done) | (simp; omega) | omega)))); done) | fail)) (by simp; omega) (by simp) ?_; intro v' w9 ho9 hg9; simp only [List.nil_append] at ho9; obtain ⟨a9, c9, rfl, -⟩ := ho9.shape; have hb9 : Below wp.heap.size wp w9 := Below.grown (B := wp.heap.size) (by first | ((repeat (first | exact Below.refl _ _ | assumption | refine Below.drewN ?_ _ | refine Below.drew ?_ | refine Below.alloc ?_ (by first | exact Nat.le_refl _ | (simp; done) | (simp; omega) | omega) _ | refine Below.setCell ?_ (by first | exact Nat.le_refl _ | (simp; done) | (simp; omega) | omega) _ | refine Below.trans ?_ (Below.mono (by assumption) (by first | exact Nat.le_refl _ | (simp; done) | (simp; omega) | omega)))); done) | fail) hg9 (by simp) (by intro k hk; cases hk); have ob9 := obj_below OB0.out hb9; have x9 := objcell ob9 (j := 4) rfl; have f9 := objfrozen ob9 (j := 4)))
      have h10 := setCell_obj w9 xb 4 (.slice a9 ds.length c9) ob9
      have HO9 := Lib.hid (ho9.setCell (a := ⟨xb, 4, none⟩) (u := .slice a9 ds.length c9) (by show xb < _; omega))
      have hb10 : Below wq.heap.size wq (w9.setCell ⟨xb, 4, none⟩ (.slice a9 ds.length c9)) := Below.setCell (HBq.out.trans (hb9.mono hwq)) hxw _
      clear x0 x1 x2 x3 x4 x9 f9 hb9 ho9 hg9
      generalize w9.setCell ⟨xb, 4, none⟩ (.slice a9 ds.length c9) = w10 at *
      have ob10 : w10.heap[xb]? = some (.cells #[.string x, .int .i64 (wordIx wayW y1), .int .i64 (wordIx relW y2), .int .i64 (wordIx dutyW y3), .slice a9 ds.length c9] 65 (0, 0)) := by simpa using h10
      have OBT2 := Lib.hid (obj_below OB2.out hb10)
      have OBT4 := Lib.hid (obj_below OB4.out hb10)
      have HRT := Lib.hid (HR0.out.below hb10)
      have HB10 := Lib.hid hb10
      have y2' := objcell OBT2.out (j := 2) rfl
      have x0 := objcell ob10 (j := 0) rfl
      have x1 := objcell ob10 (j := 1) rfl
      have x2 := objcell ob10 (j := 2) rfl
      have x3 := objcell ob10 (j := 3) rfl
      have x4 := objcell ob10 (j := 4) rfl
      have hx10 : xb < w10.heap.size := obj_lt ob10
      have g2 : w.heap.size < w10.heap.size := obj_lt OBT2.out
      have hws : wq.heap.size ≤ w10.heap.size := hb10.size
      have HSZ : Hid (∀ s ∈ ds, s.size ≤ maxLen) := fun s hs => row_size HWR.out s (by simp [hs])
      clear h10 ob10 hb10
      go_wp2_with (at_builtin; go_loud (refine wp_appL clRow rfl (by decide) Tryz.underlying25 rfl _ _ rfl B E6 (.slice p2 N2 m2) c.clauses rfl (by decide) HRT.out.cla #[.string x, .int .i64 (wordIx wayW y1), .int .i64 (wordIx relW y2), .int .i64 (wordIx dutyW y3), .slice a9 ds.length c9] ⟨x, wordIx wayW y1, wordIx relW y2, wordIx dutyW y3, ds⟩ (by first | rfl | simp) rfl (by simp [Value.oneCell']) (fun w'' hA => cl_is6 ksz1 (wordIx_in _ _ (by decide)) (wordIx_in _ _ (by decide)) (wordIx_in _ _ (by decide)) (HO9.out.below (by first | ((repeat (first | exact Below.refl _ _ | assumption | refine Below.drewN ?_ _ | refine Below.drew ?_ | refine Below.alloc ?_ (by first | exact Nat.le_refl _ | (simp; done) | (simp; omega) | omega) _ | refine Below.setCell ?_ (by first | exact Nat.le_refl _ | (simp; done) | (simp; omega) | omega) _ | refine Below.trans ?_ (Below.mono (by assumption) (by first | exact Nat.le_refl _ | (simp; done) | (simp; omega) | omega)))); done) | fail)) HSZ.out hA) (by rw [HL.out.2.2.1]; omega) (by omega) ?_))
      intro v' w11 ho11 hb11 hA11 hsz
      obtain ⟨a', c', rfl⟩ := ho11.shape
      have hlx : (c.clauses ++ [(⟨x, wordIx wayW y1, wordIx relW y2, wordIx dutyW y3, ds⟩ : Clause)]).length = N2 + 1 := by rw [List.length_append, HL.out.2.2.1]; rfl
      rw [hlx] at ho11 ⊢
      have HR1 := Lib.hid (HRT.out.set_cla (Below.refl _ _) hA11 ho11)
      have HK1 := Lib.hid (KeepBox.of (HB0.out.trans (HB10.out.mono (Nat.le_of_lt hq0))) (Below.refl _ _) hA11 (by decide))
      have ob2 := hA11.obj OBT2.out (by decide)
      have ob4 := hA11.obj OBT4.out (by decide)
      have zf := objfrozen ob2 (j := 2)
      have HB1 : Hid (Below B w w11) := ((HB0.out.trans (HB10.out.mono (Nat.le_of_lt hq0))).mono hB).trans hb11
      have c0 := objcell ob2 (j := 0) rfl
      have c1 := objcell ob2 (j := 1) rfl
      have c2 := objcell ob2 (j := 2) rfl
      have c3 := objcell ob2 (j := 3) rfl
      have d0 := objcell ob4 (j := 0) rfl
      have d1 := objcell ob4 (j := 1) rfl
      have d2 := objcell ob4 (j := 2) rfl
      have d3 := objcell ob4 (j := 3) rfl
      have f0 := objfrozen ob4 (j := 0)
      have f1 := objfrozen ob4 (j := 1)
      have f2 := objfrozen ob4 (j := 2)
      have f3 := objfrozen ob4 (j := 3)
      have g2 : w.heap.size < w11.heap.size := obj_lt ob2
      have g4 : w.heap.size + 1 < w11.heap.size := obj_lt ob4
      have OC2 := Lib.hid ob2
      have OC4 := Lib.hid ob4
      clear ob2 ob4 ho11 hb11 hA11 hsz hlx x0 x1 x2 x3 x4 y2'
      go_wp2
      refine bodyPost_ret (v := .tuple #[.agg #[.slice p0 N0 m0, .slice p1 N1 m1, .slice a' (N2 + 1) c', .slice p3 N3 m3], .int .i64 0]) (by simp [results, Tryz.results51, go_sem, d0, d1, d2, d3]) rfl ?_
      exact ROutR.ok hE.out ⟨_, _, _, _, rfl, below_end hB (by omega) HB1.out, HR1.out.agree (agree_end hB (by omega) ⟨_, _, OC2.out⟩ ⟨_, _, OC4.out⟩), HK1.out.fin (Nat.le_refl _) (by omega)⟩
    · have HU : Hid (Is wp (.slice (some ⟨gw, ow + 5, none⟩) ds.length (wc - 5)) ds) := by
        show Is _ _ _
        have h1 := row_sub0 (i := 5) HWR.out
        exact (list_mk (xs := ds) (by have := HM3.out; omega) (by unfold maxLen; omega) h1).mono (HB0.out.trans (HBq.out.mono (Nat.le_of_lt hq0)))
      go_wp2
      go_region_law ((refine step_app_strs (by rfl) _ _ (by rfl) wp.heap.size (.slice none 0 0) [] (by rfl) (OwnV.nil _ _ _ _) (.slice (some ⟨gw, ow + 5, none⟩) ds.length (wc - 5)) ds (by rfl) (HU.out.mono (by first | ((repeat (first | exact Below.refl _ _ | assumption | refine Below.drewN ?_ _ | refine Below.drew ?_ | refine Below.alloc ?_ (by first | exact Nat.le_refl _ | (simp; done) | (simp; omega) | omega) _ | refine Below.setCell ?_ (by first | exact Nat.le_refl _ | (simp; done) | (simp; omega) | omega) _ | refine Below.trans ?_ (Below.mono (by assumption) (by first | exact Nat.le_refl _ | (simp; done) | (simp; omega) | omega)))); done) | fail)) (by simp; omega) (by simp) ?_; intro v' w9 ho9 hg9; simp only [List.nil_append] at ho9; obtain ⟨a9, c9, rfl, -⟩ := ho9.shape; have hb9 : Below wp.heap.size wp w9 := Below.grown (B := wp.heap.size) (by first | ((repeat (first | exact Below.refl _ _ | assumption | refine Below.drewN ?_ _ | refine Below.drew ?_ | refine Below.alloc ?_ (by first | exact Nat.le_refl _ | (simp; done) | (simp; omega) | omega) _ | refine Below.setCell ?_ (by first | exact Nat.le_refl _ | (simp; done) | (simp; omega) | omega) _ | refine Below.trans ?_ (Below.mono (by assumption) (by first | exact Nat.le_refl _ | (simp; done) | (simp; omega) | omega)))); done) | fail) hg9 (by simp) (by intro k hk; cases hk); have ob9 := obj_below OB0.out hb9; have x9 := objcell ob9 (j := 4) rfl; have f9 := objfrozen ob9 (j := 4)))
      have h10 := setCell_obj w9 xb 4 (.slice a9 ds.length c9) ob9
      have HO9 := Lib.hid (ho9.setCell (a := ⟨xb, 4, none⟩) (u := .slice a9 ds.length c9) (by show xb < _; omega))
      have hb10 : Below wq.heap.size wq (w9.setCell ⟨xb, 4, none⟩ (.slice a9 ds.length c9)) := Below.setCell (HBq.out.trans (hb9.mono hwq)) hxw _
      clear x0 x1 x2 x3 x4 x9 f9 hb9 ho9 hg9
      generalize w9.setCell ⟨xb, 4, none⟩ (.slice a9 ds.length c9) = w10 at *
      have ob10 : w10.heap[xb]? = some (.cells #[.string x, .int .i64 (wordIx wayW y1), .int .i64 (wordIx relW y2), .int .i64 (wordIx dutyW y3), .slice a9 ds.length c9] 65 (0, 0)) := by simpa using h10
      have OBT2 := Lib.hid (obj_below OB2.out hb10)
      have OBT4 := Lib.hid (obj_below OB4.out hb10)
      have HRT := Lib.hid (HR0.out.below hb10)
      have HB10 := Lib.hid hb10
      have y2' := objcell OBT2.out (j := 2) rfl
      have x0 := objcell ob10 (j := 0) rfl
      have x1 := objcell ob10 (j := 1) rfl
      have x2 := objcell ob10 (j := 2) rfl
      have x3 := objcell ob10 (j := 3) rfl
      have x4 := objcell ob10 (j := 4) rfl
      have hx10 : xb < w10.heap.size := obj_lt ob10
      have g2 : w.heap.size < w10.heap.size := obj_lt OBT2.out
      have hws : wq.heap.size ≤ w10.heap.size := hb10.size
      have HSZ : Hid (∀ s ∈ ds, s.size ≤ maxLen) := fun s hs => row_size HWR.out s (by simp [hs])
      clear h10 ob10 hb10
      go_wp2_with (at_builtin; go_loud (refine wp_appL clRow rfl (by decide) Tryz.underlying25 rfl _ _ rfl B E6 (.slice p2 N2 m2) c.clauses rfl (by decide) HRT.out.cla #[.string x, .int .i64 (wordIx wayW y1), .int .i64 (wordIx relW y2), .int .i64 (wordIx dutyW y3), .slice a9 ds.length c9] ⟨x, wordIx wayW y1, wordIx relW y2, wordIx dutyW y3, ds⟩ (by first | rfl | simp) rfl (by simp [Value.oneCell']) (fun w'' hA => cl_is6 ksz1 (wordIx_in _ _ (by decide)) (wordIx_in _ _ (by decide)) (wordIx_in _ _ (by decide)) (HO9.out.below (by first | ((repeat (first | exact Below.refl _ _ | assumption | refine Below.drewN ?_ _ | refine Below.drew ?_ | refine Below.alloc ?_ (by first | exact Nat.le_refl _ | (simp; done) | (simp; omega) | omega) _ | refine Below.setCell ?_ (by first | exact Nat.le_refl _ | (simp; done) | (simp; omega) | omega) _ | refine Below.trans ?_ (Below.mono (by assumption) (by first | exact Nat.le_refl _ | (simp; done) | (simp; omega) | omega)))); done) | fail)) HSZ.out hA) (by rw [HL.out.2.2.1]; omega) (by omega) ?_))
      intro v' w11 ho11 hb11 hA11 hsz
      obtain ⟨a', c', rfl⟩ := ho11.shape
      have hlx : (c.clauses ++ [(⟨x, wordIx wayW y1, wordIx relW y2, wordIx dutyW y3, ds⟩ : Clause)]).length = N2 + 1 := by rw [List.length_append, HL.out.2.2.1]; rfl
      rw [hlx] at ho11 ⊢
      have HR1 := Lib.hid (HRT.out.set_cla (Below.refl _ _) hA11 ho11)
      have HK1 := Lib.hid (KeepBox.of (HB0.out.trans (HB10.out.mono (Nat.le_of_lt hq0))) (Below.refl _ _) hA11 (by decide))
      have ob2 := hA11.obj OBT2.out (by decide)
      have ob4 := hA11.obj OBT4.out (by decide)
      have zf := objfrozen ob2 (j := 2)
      have HB1 : Hid (Below B w w11) := ((HB0.out.trans (HB10.out.mono (Nat.le_of_lt hq0))).mono hB).trans hb11
      have c0 := objcell ob2 (j := 0) rfl
      have c1 := objcell ob2 (j := 1) rfl
      have c2 := objcell ob2 (j := 2) rfl
      have c3 := objcell ob2 (j := 3) rfl
      have d0 := objcell ob4 (j := 0) rfl
      have d1 := objcell ob4 (j := 1) rfl
      have d2 := objcell ob4 (j := 2) rfl
      have d3 := objcell ob4 (j := 3) rfl
      have f0 := objfrozen ob4 (j := 0)
      have f1 := objfrozen ob4 (j := 1)
      have f2 := objfrozen ob4 (j := 2)
      have f3 := objfrozen ob4 (j := 3)
      have g2 : w.heap.size < w11.heap.size := obj_lt ob2
      have g4 : w.heap.size + 1 < w11.heap.size := obj_lt ob4
      have OC2 := Lib.hid ob2
      have OC4 := Lib.hid ob4
      clear ob2 ob4 ho11 hb11 hA11 hsz hlx x0 x1 x2 x3 x4 y2'
      go_wp2
      refine bodyPost_ret (v := .tuple #[.agg #[.slice p0 N0 m0, .slice p1 N1 m1, .slice a' (N2 + 1) c', .slice p3 N3 m3], .int .i64 0]) (by simp [results, Tryz.results51, go_sem, d0, d1, d2, d3]) rfl ?_
      exact ROutR.ok hE.out ⟨_, _, _, _, rfl, below_end hB (by omega) HB1.out, HR1.out.agree (agree_end hB (by omega) ⟨_, _, OC2.out⟩ ⟨_, _, OC4.out⟩), HK1.out.fin (Nat.le_refl _) (by omega)⟩
end Go.Proofs.YtaneolfnnkppbaaGreatDoor
namespace Go.Proofs.YtaneolfnnkppbaaGreatDoor
open Go Go.RowKit Go.ChangeShapes
theorem isW_lst {h : ByteArray} {l : List UInt8} (hf : isW h l = false) : ¬ h.toList = l := by
  rw [ByteArray.toList_eq]; simpa [isW] using hf
theorem isW_lstT {h : ByteArray} {l : List UInt8} (hf : isW h l = true) : h.toList = l := by
  rw [ByteArray.toList_eq]; simpa [isW] using hf
theorem read_ref (B : Nat) (w : World) (v0 v1 v2 v3 : Value) (c : Catalog) (wv : Value) (hd : ByteArray) (ws : List ByteArray) (h : RC B w v0 v1 v2 v3 c) (hB : B ≤ w.heap.size) (n0 : c.licenses.length ≤ 100000000) (n1 : c.exceptions.length ≤ 100000000) (n2 : c.clauses.length ≤ 100000000) (n3 : c.apart.length ≤ 100000000) (hdn : ws.length ≤ 100000000) (hw : Is w wv (hd :: ws)) :
    Calls Tryz.prog 51 #[.agg #[v0, v1, v2, v3], wv] w fun e w' => ROutR B (readR c (hd :: ws)) w e w' := by
  by_cases k0 : isW hd wLicense = true
  · have k1 := isW_inj k0 (b := wException) (by decide)
    have k2 := isW_inj k0 (b := wClause) (by decide)
    have k3 := isW_inj k0 (b := wApart) (by decide)
    by_cases hl : ws.length = 4
    · obtain rfl := (isW_mk wLicense hd).2 k0
      match ws, hl with
      | [a, b, v, n], _ =>
        have hr : readR c [mkS wLicense, a, b, v, n] = match numC v, numC n with
          | some v, some n => some ({ c with licenses := c.licenses ++ [⟨a, b, v, mkS []⟩] }, n.toNat)
          | _, _ => none := by
          unfold readR
          simp only [k0, List.length_cons, List.length_nil, decide_true, Bool.and_self, if_true]
          cases numC v with
          | none => rfl
          | some _ => cases numC n <;> rfl
        rw [hr]
        cases q1 : numC v with
        | none => exact lic_bad B w v0 v1 v2 v3 c wv a b v n (-1) _ h hB (by rw [q1]; rfl) rfl (.inl (by decide)) hw
        | some i =>
          obtain ⟨vm, rfl, hvm⟩ := num_nat q1
          cases q2 : numC n with
          | none => exact lic_bad B w v0 v1 v2 v3 c wv a b v n _ (-1) h hB rfl (by rw [q2]; rfl) (.inr (by decide)) hw
          | some k =>
            obtain ⟨nm, rfl, hnm⟩ := num_nat q2
            exact lic_r B w v0 v1 v2 v3 c wv a b v n (vm : Int) (nm : Int) h hB (by rw [q1]; rfl) (by rw [q2]; rfl) (by omega) (by unfold inI64; omega) (by omega) n0 hw
    · have hr : readR c (hd :: ws) = none := by
        unfold readR
        simp only [k0, k1, k2, k3, hl, decide_false, Bool.and_false, Bool.false_and, Bool.false_eq_true, if_false]
      rw [hr]
      exact none_r0 B w v0 v1 v2 v3 c wv hd ws h hB (isW_lstT k0) (isW_lst k1) (isW_lst k2) (isW_lst k3) (by omega) hw
  have k0 : isW hd wLicense = false := by simpa using k0
  by_cases k1 : isW hd wException = true
  · have k2 := isW_inj k1 (b := wClause) (by decide)
    have k3 := isW_inj k1 (b := wApart) (by decide)
    by_cases hl : 2 ≤ ws.length
    · obtain rfl := (isW_mk wException hd).2 k1
      match ws, hl with
      | a :: b :: r, hl =>
        have hr : readR c (mkS wException :: a :: b :: r) = excRes c a b r := by
          unfold readR excRes
          have e : decide (2 ≤ (a :: b :: r).length) = true := decide_eq_true hl
          simp only [k0, k1, e, Bool.false_and, Bool.and_self, Bool.false_eq_true, if_false, if_true]
          cases dutyIxs r <;> rfl
        rw [hr]
        exact exc_r B w v0 v1 v2 v3 c wv a b r h hB n1 (by simp at hdn; omega) hw
    · have hr : readR c (hd :: ws) = none := by
        unfold readR
        simp only [k0, k1, k2, k3, hl, decide_false, Bool.and_false, Bool.false_and, Bool.false_eq_true, if_false]
      rw [hr]
      exact none_r1 B w v0 v1 v2 v3 c wv hd ws h hB (isW_lst k0) (isW_lstT k1) (isW_lst k2) (isW_lst k3) (by omega) hw
  have k1 : isW hd wException = false := by simpa using k1
  by_cases k2 : isW hd wClause = true
  · have k3 := isW_inj k2 (b := wApart) (by decide)
    by_cases hl : 4 ≤ ws.length
    · obtain rfl := (isW_mk wClause hd).2 k2
      match ws, hl with
      | a :: y1 :: y2 :: y3 :: r, hl =>
        have hr : readR c (mkS wClause :: a :: y1 :: y2 :: y3 :: r) = claRes c a y1 y2 y3 r := by
          unfold readR claRes
          have e : decide (4 ≤ (a :: y1 :: y2 :: y3 :: r).length) = true := decide_eq_true hl
          simp only [k0, k1, k2, e, Bool.false_and, Bool.and_self, Bool.false_eq_true, if_false, if_true]
        rw [hr]
        exact cla_r B w v0 v1 v2 v3 c wv a y1 y2 y3 r h hB n2 (by simp at hdn; omega) hw
    · have hr : readR c (hd :: ws) = none := by
        unfold readR
        simp only [k0, k1, k2, k3, hl, decide_false, Bool.and_false, Bool.false_and, Bool.false_eq_true, if_false]
      rw [hr]
      exact none_r2 B w v0 v1 v2 v3 c wv hd ws h hB (isW_lst k0) (isW_lst k1) (isW_lstT k2) (isW_lst k3) (by omega) hw
  have k2 : isW hd wClause = false := by simpa using k2
  by_cases k3 : isW hd wApart = true
  · by_cases hl : ws.length = 2
    · obtain rfl := (isW_mk wApart hd).2 k3
      match ws, hl with
      | [a, b], _ =>
        have hr : readR c [mkS wApart, a, b] = some ({ c with apart := c.apart ++ [⟨a, b⟩] }, 0) := by
          unfold readR
          simp only [k0, k1, k2, k3, List.length_cons, List.length_nil, decide_true, Bool.false_and, Bool.and_self, Bool.false_eq_true, if_false, if_true]
        rw [hr]
        exact apart_r B w v0 v1 v2 v3 c wv a b h hB n3 hw
    · have hr : readR c (hd :: ws) = none := by
        unfold readR
        simp only [k0, k1, k2, k3, hl, decide_false, Bool.and_false, Bool.false_and, Bool.false_eq_true, if_false]
      rw [hr]
      exact none_r3 B w v0 v1 v2 v3 c wv hd ws h hB (isW_lst k0) (isW_lst k1) (isW_lst k2) (isW_lstT k3) (by omega) hw
  have k3 : isW hd wApart = false := by simpa using k3
  have hr : readR c (hd :: ws) = none := by
    unfold readR
    simp only [k0, k1, k2, k3, Bool.false_and, Bool.false_eq_true, if_false]
  rw [hr]
  exact none_r4 B w v0 v1 v2 v3 c wv hd ws h hB (isW_lst k0) (isW_lst k1) (isW_lst k2) (isW_lst k3) hw
end Go.Proofs.YtaneolfnnkppbaaGreatDoor
