/- The reader's method for a line. -/
import Derived.Test.YtoemmpfcnpdblaaGreatDoorJReadU
import Derived.Test.YtoemmpfcnpdblaaGreatDoorJReadC
import Derived.Test.YtoemmpfcnpdblaaGreatDoorJReadV
set_option linter.all false
namespace Go.Proofs.YtoemmpfcnpdblaaGreatDoor
open Go Go.RowKit Go.ChangeShapes

theorem ROut.trans {B r : Nat} {lv : Value} {ls : List ByteArray} {nx : Nat} {res : LineRes} {e : Ending} {w u w' : World} (h : ROut B r lv ls nx res e u w') (hb : Below B w u) : ROut B r lv ls nx res e w w' := by
 unfold ROut at *
 cases res with
 | err k => exact ⟨h.1, hb.trans h.2⟩
 | ok c n => exact ⟨h.1, hb.trans h.2.1, h.2.2⟩
theorem ROut.ret {B r : Nat} {lv : Value} {ls : List ByteArray} {nx : Nat} {res : LineRes} {e : Ending} {w w' : World} (h : ROut B r lv ls nx res e w w') : ∃ k : Int, e = .returned (.int .i64 k) := by
 unfold ROut at h
 cases res with
 | err k => exact ⟨k, h.1⟩
 | ok c n => exact ⟨0, h.1⟩
set_option maxRecDepth 100000 in
set_option maxHeartbeats 40000000 in
theorem line_p (B r : Nat) (w : World) (lv : Value) (ls : List ByteArray) (nx : Nat) (v0 v1 v2 v3 : Value) (c : Catalog) (h : RD B r w lv ls nx v0 v1 v2 v3 c) (hB : B ≤ w.heap.size) (hn0 : c.licenses.length ≤ 100000000) (hn1 : c.exceptions.length ≤ 100000000) (hn2 : c.clauses.length ≤ 100000000) (hn3 : c.apart.length ≤ 100000000)
  (hnx : nx ≤ ls.length) (hls : 0 < ls.length) (hll : ls.length ≤ 100000000) (hlsz : Hid (∀ s ∈ ls, s.size ≤ maxLen)) (hj : Hid (Lean1 ls)) (s : ByteArray) (hg : Glob w) (hs : s.size ≤ 1000000) :
  Calls Tryz.prog 91 #[.pointer (some ⟨r, 0, none⟩), .string s] w fun e w' => ROut B r lv ls nx (readLine c s (ls.drop nx)) e w w' := by
 have HR := Lib.hid h
 have hcount : (splitAt 32 [] s.data.toList).length ≤ 1000001 := by
  rw [splitAt_len]
  have : s.data.toList.count 32 ≤ s.data.toList.length := List.count_le_length
  rw [by_len] at this; omega
 have hpsz : Hid (∀ p ∈ splitAt 32 [] s.data.toList, p.size ≤ maxLen) := by
  intro p hp
  have := splitAt_size 32 s.data.toList [] p hp
  rw [by_len] at this
  simp at this
  unfold maxLen; omega
 have hRL : Hid (readLine c s (ls.drop nx) = match (splitAt 32 [] s.data.toList).filter (fun x => !isW x []) with
  | [] => .ok c 0
  | h :: ws => if h.data.toList.head? = some 35 then .ok c 0 else if isW h wLicense then readLic c ws (ls.drop nx) else if isW h wException then readExc c ws else if isW h wClause then readClause c ws else if isW h wApart then readApart c ws else .err 4) := by
  show _ = _
  unfold readLine wordsB
  rfl
 have hw0 : ∀ p ∈ (splitAt 32 [] s.data.toList).filter (fun x => !isW x []), 0 < p.size := by
  intro p hp
  have h1 := (List.mem_filter.1 hp).2
  rcases Nat.eq_zero_or_pos p.size with h0 | h0
  ·have h2 : p.data.toList = [] := by rw [← List.length_eq_zero_iff, by_len]; exact h0
   simp [isW, h2] at h1
  ·exact h0
 have HW0 := Lib.hid hw0
 clear hw0
 go_enter Tryz.func91, Tryz.ntmps91
 go_wp2_with fail
 refine (Split_one s 32 w hg (by omega)).mono ?_
 rintro e w1 ⟨rfl, rfl⟩
 go_wp2_with fail
 refine (delete_p w _ (by omega) hpsz.out).mono ?_
 rintro e w2 ⟨rfl, hwd, hb2⟩
 have HB2 := Lib.hid hb2
 generalize (splitAt 32 [] s.data.toList).length = cp at *
 generalize (splitAt 32 [] s.data.toList).filter (fun x => !isW x []) = fl at *
 cases fl with
 | nil =>
  simp only [List.length_nil]
  go_wp2
  go_ret
  rw [hRL.out]
  exact ⟨rfl, HB2.out.mono hB, v0, v1, v2, v3, HR.out.below HB2.out⟩
 | cons x ds =>
 have hx0 : 0 < x.size := HW0.out x (by simp)
 obtain ⟨wa, wc, he, hwl, hwc, hwr⟩ := list_inv hwd.1
 cases he
 obtain ⟨csw, frw, hob⟩ := hwd.2 _ _ _ _ rfl
 obtain ⟨gw', ow', he1, hgw, k0, ksz0⟩ := str_at (i := 0) hwr rfl
 cases he1
 have HWR2 := Lib.hid hwr
 simp only [List.length_cons] at hwl ⊢
 generalize hm : ds.length + 1 = m at *
 have HM := Lib.hid hm
 have b4 : (0 : Int) < (m : Int) := by omega
 have b8 : 0 < m := by omega
 have b9 : (1 : Int) ≤ (m : Int) := by omega
 have b10 : (m : Int) ≤ (cp : Int) := by omega
 have b11 : (1 : Int) ≤ (cp : Int) := by omega
 have hdm : m - 1 = ds.length := by omega
 have hdl : ds.length ≤ 100000000 := by omega
 have hm0 : ((m : Int) == 0) = false := by simp; omega
 have k0' : w2.cell? ⟨w.heap.size, 0, none⟩ = some (.string x) := by simpa using k0
 have hhd : x.data.toList.head? = some x[0] := by
  have := by_at x 0 hx0
  rw [List.drop_zero] at this
  rw [this]; rfl
 have HOB2 := Lib.hid hob
 clear hwr hwd hm k0 hob hb2
 cases q0 : ((x[0].toNat : Int) == 35)
 case true =>
  go_wp2
  go_ret
  rw [hRL.out]
  simp only [hhd, u8_t 35 q0, if_true]
  exact ⟨rfl, HB2.out.mono hB, v0, v1, v2, v3, HR.out.below HB2.out⟩
 have HRL : Hid (readLine c s (ls.drop nx) = if isW x wLicense then readLic c ds (ls.drop nx) else if isW x wException then readExc c ds else if isW x wClause then readClause c ds else if isW x wApart then readApart c ds else .err 4) := by
  show _ = _
  rw [hRL.out]
  have : ¬ x.data.toList.head? = some 35 := by rw [hhd]; intro e; exact u8_f 35 q0 (Option.some.inj e)
  simp only [if_neg this]
 have hmm := @run_makeMap Tryz.prog
 obtain ⟨u0, hu0, fm0, gr0⟩ := update_FM (P := Tryz.prog) (T := 177) Tryz.underlying9 Tryz.underlying177 (FM.new w2) ⟨#[108, 105, 99, 101, 110, 115, 101]⟩ (.func (.func 160) #[.pointer (some ⟨r, 0, none⟩)] #[]) (by rfl)
 obtain ⟨u1, hu1, fm1, gr1⟩ := update_FM (P := Tryz.prog) (T := 177) Tryz.underlying9 Tryz.underlying177 (fm0) ⟨#[101, 120, 99, 101, 112, 116, 105, 111, 110]⟩ (.func (.func 161) #[.pointer (some ⟨r, 0, none⟩)] #[]) (by rfl)
 obtain ⟨u2, hu2, fm2, gr2⟩ := update_FM (P := Tryz.prog) (T := 177) Tryz.underlying9 Tryz.underlying177 (fm1) ⟨#[99, 108, 97, 117, 115, 101]⟩ (.func (.func 162) #[.pointer (some ⟨r, 0, none⟩)] #[]) (by rfl)
 obtain ⟨u3, hu3, fm3, gr3⟩ := update_FM (P := Tryz.prog) (T := 177) Tryz.underlying9 Tryz.underlying177 (fm2) ⟨#[97, 112, 97, 114, 116]⟩ (.func (.func 163) #[.pointer (some ⟨r, 0, none⟩)] #[]) (by rfl)
 have hl := run_lookup_FM (P := Tryz.prog) (T := 177) Tryz.underlying9 Tryz.underlying177 (z := .nilFunc) (by intro w; kernel_rfl) fm3 x
 have hb3 : Below w2.heap.size w2 u3 := by
  have h0 := Below.grown (B := w2.heap.size) (Below.alloc (Below.refl w2.heap.size w2) (Nat.le_refl _) (.map #[] 0)) gr0 (by simp) (by intro k hk; cases hk; exact Nat.le_refl _)
  have h1 := Below.grown (B := w2.heap.size) h0 gr1 h0.size (by intro k hk; cases hk; exact Nat.le_refl _)
  have h2 := Below.grown (B := w2.heap.size) h1 gr2 h1.size (by intro k hk; cases hk; exact Nat.le_refl _)
  exact Below.grown (B := w2.heap.size) h2 gr3 h2.size (by intro k hk; cases hk; exact Nat.le_refl _)
 have k3 := kept hb3 k0'
 have HBu := Lib.hid (HB2.out.trans (hb3.mono HB2.out.size))
 have hg3 : w.heap.size < u3.heap.size := cell_lt k3
 have hob3 := Lib.hid (objbelow HOB2.out hb3)
 have HWR := Lib.hid (HWR2.out.mono hb3)
 clear gr0 gr1 gr2 gr3 fm0 fm1 fm2 fm3 hb3
 by_cases p0 : (⟨#[108, 105, 99, 101, 110, 115, 101]⟩ : ByteArray) = x
 ·have y0 : isW x wLicense = true := by rw [← p0]; rfl
  have hlv : lookV x ([] ++ [(⟨#[108, 105, 99, 101, 110, 115, 101]⟩, .func (.func 160) #[.pointer (some ⟨r, 0, none⟩)] #[])] ++ [(⟨#[101, 120, 99, 101, 112, 116, 105, 111, 110]⟩, .func (.func 161) #[.pointer (some ⟨r, 0, none⟩)] #[])] ++ [(⟨#[99, 108, 97, 117, 115, 101]⟩, .func (.func 162) #[.pointer (some ⟨r, 0, none⟩)] #[])] ++ [(⟨#[97, 112, 97, 114, 116]⟩, .func (.func 163) #[.pointer (some ⟨r, 0, none⟩)] #[])]) 0 = some (0, .func (.func 160) #[.pointer (some ⟨r, 0, none⟩)] #[]) := by
   simp only [List.nil_append, List.cons_append, lookV]
   rw [if_pos p0]
  rw [hlv] at hl
  simp only [Option.map_some, Option.getD_some] at hl
  clear hlv
  clear p0
  have hq0 : ∀ w, (binOp .eql 176 (.func (.func 160) #[.pointer (some ⟨r, 0, none⟩)] #[]) .nilFunc).run Tryz.prog w = .ok (.bool false) w := fun w => rfl
  have hE : Hid (readLine c s (ls.drop nx) = readLic c ds (ls.drop nx)) := by
   show _ = _
   rw [HRL.out]
   simp only [y0, if_true, Bool.false_eq_true, if_false]
  go_wp2_with fail
  ·have HWD : WD u3 (.slice (some ⟨w.heap.size, 0, none⟩) ds.length 0) ds := by
    have hmm1 := HM.out
    refine ⟨list_mk (by omega) (by decide) (fun i z hz => by have := lt_get hz; omega), ?_⟩
    intro g o nn cc hv
    cases hv
    exact ⟨_, _, objbelow hob3.out (Below.refl _ _)⟩
   refine (license_p B r u3 lv ls nx v0 v1 v2 v3 c _ ds (HR.out.below HBu.out) (Nat.le_trans hB HBu.out.size) hn0 hnx hls hll hlsz.out hj.out HWD).mono ?_
   rintro e w5 hro
   obtain ⟨k, rfl⟩ := hro.ret
   have HRO := Lib.hid (hro.trans (HBu.out.mono hB))
   clear hro HWD
   go_wp2
   go_ret
   rw [hE.out]
   exact HRO.out
  ·have HWD : WD u3 (.slice (some ⟨w.heap.size, 1, none⟩) ds.length (cp - 1)) ds := by
    have hmm1 := HM.out
    refine ⟨list_mk (xs := ds) (by omega) (by unfold maxLen; omega) ((row_sub0 (i := 1) HWR.out)), ?_⟩
    intro g o nn cc hv
    cases hv
    exact ⟨_, _, objbelow hob3.out (Below.refl _ _)⟩
   refine (license_p B r u3 lv ls nx v0 v1 v2 v3 c _ ds (HR.out.below HBu.out) (Nat.le_trans hB HBu.out.size) hn0 hnx hls hll hlsz.out hj.out HWD).mono ?_
   rintro e w5 hro
   obtain ⟨k, rfl⟩ := hro.ret
   have HRO := Lib.hid (hro.trans (HBu.out.mono hB))
   clear hro HWD
   go_wp2
   go_ret
   rw [hE.out]
   exact HRO.out
 have ww0 : isW x wLicense = false := by unfold isW; exact decide_eq_false (fun e => p0 (by rw [← mkS_self x, e]; rfl))
 by_cases p1 : (⟨#[101, 120, 99, 101, 112, 116, 105, 111, 110]⟩ : ByteArray) = x
 ·have y1 : isW x wException = true := by rw [← p1]; rfl
  have hlv : lookV x ([] ++ [(⟨#[108, 105, 99, 101, 110, 115, 101]⟩, .func (.func 160) #[.pointer (some ⟨r, 0, none⟩)] #[])] ++ [(⟨#[101, 120, 99, 101, 112, 116, 105, 111, 110]⟩, .func (.func 161) #[.pointer (some ⟨r, 0, none⟩)] #[])] ++ [(⟨#[99, 108, 97, 117, 115, 101]⟩, .func (.func 162) #[.pointer (some ⟨r, 0, none⟩)] #[])] ++ [(⟨#[97, 112, 97, 114, 116]⟩, .func (.func 163) #[.pointer (some ⟨r, 0, none⟩)] #[])]) 0 = some (1, .func (.func 161) #[.pointer (some ⟨r, 0, none⟩)] #[]) := by
   simp only [List.nil_append, List.cons_append, lookV, if_neg p0]
   rw [if_pos p1]
  rw [hlv] at hl
  simp only [Option.map_some, Option.getD_some] at hl
  clear hlv
  clear p1
  have hq0 : ∀ w, (binOp .eql 176 (.func (.func 161) #[.pointer (some ⟨r, 0, none⟩)] #[]) .nilFunc).run Tryz.prog w = .ok (.bool false) w := fun w => rfl
  have hE : Hid (readLine c s (ls.drop nx) = readExc c ds ) := by
   show _ = _
   rw [HRL.out]
   simp only [ww0, y1, if_true, Bool.false_eq_true, if_false]
  go_wp2_with fail
  ·have HWD : WD u3 (.slice (some ⟨w.heap.size, 0, none⟩) ds.length 0) ds := by
    have hmm1 := HM.out
    refine ⟨list_mk (by omega) (by decide) (fun i z hz => by have := lt_get hz; omega), ?_⟩
    intro g o nn cc hv
    cases hv
    exact ⟨_, _, objbelow hob3.out (Below.refl _ _)⟩
   refine (exception_p B r u3 lv ls nx v0 v1 v2 v3 c _ ds (HR.out.below HBu.out) (Nat.le_trans hB HBu.out.size) hn1 hdl HWD).mono ?_
   rintro e w5 hro
   obtain ⟨k, rfl⟩ := hro.ret
   have HRO := Lib.hid (hro.trans (HBu.out.mono hB))
   clear hro HWD
   go_wp2
   go_ret
   rw [hE.out]
   exact HRO.out
  ·have HWD : WD u3 (.slice (some ⟨w.heap.size, 1, none⟩) ds.length (cp - 1)) ds := by
    have hmm1 := HM.out
    refine ⟨list_mk (xs := ds) (by omega) (by unfold maxLen; omega) ((row_sub0 (i := 1) HWR.out)), ?_⟩
    intro g o nn cc hv
    cases hv
    exact ⟨_, _, objbelow hob3.out (Below.refl _ _)⟩
   refine (exception_p B r u3 lv ls nx v0 v1 v2 v3 c _ ds (HR.out.below HBu.out) (Nat.le_trans hB HBu.out.size) hn1 hdl HWD).mono ?_
   rintro e w5 hro
   obtain ⟨k, rfl⟩ := hro.ret
   have HRO := Lib.hid (hro.trans (HBu.out.mono hB))
   clear hro HWD
   go_wp2
   go_ret
   rw [hE.out]
   exact HRO.out
 have ww1 : isW x wException = false := by unfold isW; exact decide_eq_false (fun e => p1 (by rw [← mkS_self x, e]; rfl))
 by_cases p2 : (⟨#[99, 108, 97, 117, 115, 101]⟩ : ByteArray) = x
 ·have y2 : isW x wClause = true := by rw [← p2]; rfl
  have hlv : lookV x ([] ++ [(⟨#[108, 105, 99, 101, 110, 115, 101]⟩, .func (.func 160) #[.pointer (some ⟨r, 0, none⟩)] #[])] ++ [(⟨#[101, 120, 99, 101, 112, 116, 105, 111, 110]⟩, .func (.func 161) #[.pointer (some ⟨r, 0, none⟩)] #[])] ++ [(⟨#[99, 108, 97, 117, 115, 101]⟩, .func (.func 162) #[.pointer (some ⟨r, 0, none⟩)] #[])] ++ [(⟨#[97, 112, 97, 114, 116]⟩, .func (.func 163) #[.pointer (some ⟨r, 0, none⟩)] #[])]) 0 = some (2, .func (.func 162) #[.pointer (some ⟨r, 0, none⟩)] #[]) := by
   simp only [List.nil_append, List.cons_append, lookV, if_neg p0, if_neg p1]
   rw [if_pos p2]
  rw [hlv] at hl
  simp only [Option.map_some, Option.getD_some] at hl
  clear hlv
  clear p2
  have hq0 : ∀ w, (binOp .eql 176 (.func (.func 162) #[.pointer (some ⟨r, 0, none⟩)] #[]) .nilFunc).run Tryz.prog w = .ok (.bool false) w := fun w => rfl
  have hE : Hid (readLine c s (ls.drop nx) = readClause c ds ) := by
   show _ = _
   rw [HRL.out]
   simp only [ww0, ww1, y2, if_true, Bool.false_eq_true, if_false]
  go_wp2_with fail
  ·have HWD : WD u3 (.slice (some ⟨w.heap.size, 0, none⟩) ds.length 0) ds := by
    have hmm1 := HM.out
    refine ⟨list_mk (by omega) (by decide) (fun i z hz => by have := lt_get hz; omega), ?_⟩
    intro g o nn cc hv
    cases hv
    exact ⟨_, _, objbelow hob3.out (Below.refl _ _)⟩
   refine (clause_p B r u3 lv ls nx v0 v1 v2 v3 c _ ds (HR.out.below HBu.out) (Nat.le_trans hB HBu.out.size) hn2 hdl HWD).mono ?_
   rintro e w5 hro
   obtain ⟨k, rfl⟩ := hro.ret
   have HRO := Lib.hid (hro.trans (HBu.out.mono hB))
   clear hro HWD
   go_wp2
   go_ret
   rw [hE.out]
   exact HRO.out
  ·have HWD : WD u3 (.slice (some ⟨w.heap.size, 1, none⟩) ds.length (cp - 1)) ds := by
    have hmm1 := HM.out
    refine ⟨list_mk (xs := ds) (by omega) (by unfold maxLen; omega) ((row_sub0 (i := 1) HWR.out)), ?_⟩
    intro g o nn cc hv
    cases hv
    exact ⟨_, _, objbelow hob3.out (Below.refl _ _)⟩
   refine (clause_p B r u3 lv ls nx v0 v1 v2 v3 c _ ds (HR.out.below HBu.out) (Nat.le_trans hB HBu.out.size) hn2 hdl HWD).mono ?_
   rintro e w5 hro
   obtain ⟨k, rfl⟩ := hro.ret
   have HRO := Lib.hid (hro.trans (HBu.out.mono hB))
   clear hro HWD
   go_wp2
   go_ret
   rw [hE.out]
   exact HRO.out
 have ww2 : isW x wClause = false := by unfold isW; exact decide_eq_false (fun e => p2 (by rw [← mkS_self x, e]; rfl))
 by_cases p3 : (⟨#[97, 112, 97, 114, 116]⟩ : ByteArray) = x
 ·have y3 : isW x wApart = true := by rw [← p3]; rfl
  have hlv : lookV x ([] ++ [(⟨#[108, 105, 99, 101, 110, 115, 101]⟩, .func (.func 160) #[.pointer (some ⟨r, 0, none⟩)] #[])] ++ [(⟨#[101, 120, 99, 101, 112, 116, 105, 111, 110]⟩, .func (.func 161) #[.pointer (some ⟨r, 0, none⟩)] #[])] ++ [(⟨#[99, 108, 97, 117, 115, 101]⟩, .func (.func 162) #[.pointer (some ⟨r, 0, none⟩)] #[])] ++ [(⟨#[97, 112, 97, 114, 116]⟩, .func (.func 163) #[.pointer (some ⟨r, 0, none⟩)] #[])]) 0 = some (3, .func (.func 163) #[.pointer (some ⟨r, 0, none⟩)] #[]) := by
   simp only [List.nil_append, List.cons_append, lookV, if_neg p0, if_neg p1, if_neg p2]
   rw [if_pos p3]
  rw [hlv] at hl
  simp only [Option.map_some, Option.getD_some] at hl
  clear hlv
  clear p3
  have hq0 : ∀ w, (binOp .eql 176 (.func (.func 163) #[.pointer (some ⟨r, 0, none⟩)] #[]) .nilFunc).run Tryz.prog w = .ok (.bool false) w := fun w => rfl
  have hE : Hid (readLine c s (ls.drop nx) = readApart c ds ) := by
   show _ = _
   rw [HRL.out]
   simp only [ww0, ww1, ww2, y3, if_true, Bool.false_eq_true, if_false]
  go_wp2_with fail
  ·have HWD : WD u3 (.slice (some ⟨w.heap.size, 0, none⟩) ds.length 0) ds := by
    have hmm1 := HM.out
    refine ⟨list_mk (by omega) (by decide) (fun i z hz => by have := lt_get hz; omega), ?_⟩
    intro g o nn cc hv
    cases hv
    exact ⟨_, _, objbelow hob3.out (Below.refl _ _)⟩
   refine (apart_p B r u3 lv ls nx v0 v1 v2 v3 c _ ds (HR.out.below HBu.out) (Nat.le_trans hB HBu.out.size) hn3 HWD).mono ?_
   rintro e w5 hro
   obtain ⟨k, rfl⟩ := hro.ret
   have HRO := Lib.hid (hro.trans (HBu.out.mono hB))
   clear hro HWD
   go_wp2
   go_ret
   rw [hE.out]
   exact HRO.out
  ·have HWD : WD u3 (.slice (some ⟨w.heap.size, 1, none⟩) ds.length (cp - 1)) ds := by
    have hmm1 := HM.out
    refine ⟨list_mk (xs := ds) (by omega) (by unfold maxLen; omega) ((row_sub0 (i := 1) HWR.out)), ?_⟩
    intro g o nn cc hv
    cases hv
    exact ⟨_, _, objbelow hob3.out (Below.refl _ _)⟩
   refine (apart_p B r u3 lv ls nx v0 v1 v2 v3 c _ ds (HR.out.below HBu.out) (Nat.le_trans hB HBu.out.size) hn3 HWD).mono ?_
   rintro e w5 hro
   obtain ⟨k, rfl⟩ := hro.ret
   have HRO := Lib.hid (hro.trans (HBu.out.mono hB))
   clear hro HWD
   go_wp2
   go_ret
   rw [hE.out]
   exact HRO.out
 have ww3 : isW x wApart = false := by unfold isW; exact decide_eq_false (fun e => p3 (by rw [← mkS_self x, e]; rfl))
 have hlv : lookV x ([] ++ [(⟨#[108, 105, 99, 101, 110, 115, 101]⟩, .func (.func 160) #[.pointer (some ⟨r, 0, none⟩)] #[])] ++ [(⟨#[101, 120, 99, 101, 112, 116, 105, 111, 110]⟩, .func (.func 161) #[.pointer (some ⟨r, 0, none⟩)] #[])] ++ [(⟨#[99, 108, 97, 117, 115, 101]⟩, .func (.func 162) #[.pointer (some ⟨r, 0, none⟩)] #[])] ++ [(⟨#[97, 112, 97, 114, 116]⟩, .func (.func 163) #[.pointer (some ⟨r, 0, none⟩)] #[])]) 0 = none := by
  simp only [List.nil_append, List.cons_append, lookV, if_neg p0, if_neg p1, if_neg p2, if_neg p3]
 rw [hlv] at hl
 simp only [Option.map_none, Option.getD_none] at hl
 clear hlv
 have hq0 : ∀ w, (binOp .eql 176 .nilFunc .nilFunc).run Tryz.prog w = .ok (.bool true) w := fun w => rfl
 have hE : Hid (readLine c s (ls.drop nx) = .err 4) := by
  show _ = _
  rw [HRL.out]
  simp only [ww0, ww1, ww2, ww3, Bool.false_eq_true, if_false]
 go_wp2
 go_ret
 rw [hE.out]
 exact ⟨rfl, HBu.out.mono hB⟩
end Go.Proofs.YtoemmpfcnpdblaaGreatDoor
namespace Go.Proofs.YtoemmpfcnpdblaaGreatDoor
open Go

theorem readLines_skip : ∀ (n : Nat) (a : Int) (c : Catalog) (rest : List ByteArray), readLines a n c rest = readLines (a + n) 0 c (rest.drop n)
 | 0, a, c, rest => by simp
 | n + 1, a, c, [] => by simp [readLines]
 | n + 1, a, c, x :: rest => by
  have h := readLines_skip n (a + 1) c rest
  simp only [readLines, List.drop_succ_cons]
  rw [h]
  congr 1
  omega
def Upto (k : Nat) (c : Catalog) : Prop := c.licenses.length ≤ k ∧ c.exceptions.length ≤ k ∧ c.clauses.length ≤ k ∧ c.apart.length ≤ k
theorem readLine_upto {c c' : Catalog} {s : ByteArray} {rest : List ByteArray} {n k : Nat} (h : readLine c s rest = .ok c' n) (hk : Upto k c) : Upto (k + 1) c' ∧ n ≤ rest.length := by
 obtain ⟨h1, h2, h3, h4⟩ := hk
 unfold readLine at h
 split at h
 ·cases h; exact ⟨⟨by omega, by omega, by omega, by omega⟩, Nat.zero_le _⟩
 ·split at h
  ·cases h; exact ⟨⟨by omega, by omega, by omega, by omega⟩, Nat.zero_le _⟩
  ·split at h
   ·unfold readLic at h
    split at h
    ·split at h
     ·rename_i q1 q2
      split at h
      ·cases h
      ·rename_i hd
       cases h
       obtain ⟨m, hm, -⟩ := num_nat q2
       subst hm
       simp only [decide_eq_true_eq, Int.not_lt] at hd
       exact ⟨⟨by simp; omega, by show c.exceptions.length ≤ _; omega, by show c.clauses.length ≤ _; omega, by show c.apart.length ≤ _; omega⟩, by simp; omega⟩
     ·cases h
    ·cases h
   ·split at h
    ·unfold readExc at h
     split at h
     ·split at h
      ·cases h
      ·cases h; exact ⟨⟨by show c.licenses.length ≤ _; omega, by simp; omega, by show c.clauses.length ≤ _; omega, by show c.apart.length ≤ _; omega⟩, Nat.zero_le _⟩
     ·cases h
    ·split at h
     ·unfold readClause at h
      split at h
      ·split at h
       ·cases h
       ·cases h; exact ⟨⟨by show c.licenses.length ≤ _; omega, by show c.exceptions.length ≤ _; omega, by simp; omega, by show c.apart.length ≤ _; omega⟩, Nat.zero_le _⟩
      ·cases h
     ·split at h
      ·unfold readApart at h
       split at h
       ·cases h; exact ⟨⟨by show c.licenses.length ≤ _; omega, by show c.exceptions.length ≤ _; omega, by show c.clauses.length ≤ _; omega, by simp; omega⟩, Nat.zero_le _⟩
       ·cases h
      ·cases h
theorem readLines_step {L : List ByteArray} {nx : Nat} {c : Catalog} {s : ByteArray} (hs : L[nx]? = some s) :
  readLines nx 0 c (L.drop nx) = match readLine c s (L.drop (nx + 1)) with
   | .err e => ((nx : Int), e, ⟨[], [], [], []⟩)
   | .ok c' n => readLines ((nx + 1 + n : Nat) : Int) 0 c' (L.drop (nx + 1 + n)) := by
 rw [drop_at hs, readLines]
 cases h : readLine c s (L.drop (nx + 1)) with
 | err e => rfl
 | ok c' n =>
  show readLines _ _ _ _ = _
  rw [readLines_skip, List.drop_drop]
  congr 1
end Go.Proofs.YtoemmpfcnpdblaaGreatDoor
namespace Go.Proofs.YtoemmpfcnpdblaaGreatDoor
open Go Go.RowKit Go.ChangeShapes
theorem split_snoc (s : ByteArray) : ∃ fr la, splitAt 10 [] s.data.toList = fr ++ [la] ∧ textLines s = if isW la [] then fr else fr ++ [la] := by
 have hne : splitAt 10 [] s.data.toList ≠ [] := by
  intro e
  have h1 := splitAt_len 10 s.data.toList []
  rw [e] at h1
  simp at h1
 have hd := List.dropLast_concat_getLast hne
 refine ⟨(splitAt 10 [] s.data.toList).dropLast, (splitAt 10 [] s.data.toList).getLast hne, hd.symm, ?_⟩
 unfold textLines
 simp only [List.getLast?_eq_some_getLast hne]
 split
 ·rfl
 ·exact hd.symm
def sizes (l : List ByteArray) : Nat := (l.map ByteArray.size).sum
theorem split_sizes (d : UInt8) : ∀ (l cur : List UInt8), sizes (splitAt d cur l) ≤ cur.length + l.length
 | [], cur => by simp [splitAt, sizes, mkS_size]
 | c :: r, cur => by
  unfold splitAt
  split
  ·have := split_sizes d r []
   simp only [sizes, List.map_cons, List.sum_cons, mkS_size, List.length_cons, List.length_nil] at *
   omega
  ·have := split_sizes d r (cur ++ [c])
   simp only [List.length_append, List.length_cons, List.length_nil] at *
   omega
theorem join_sizes (d : List UInt8) : ∀ (l : List ByteArray), (joinB d l).length ≤ sizes l + d.length * l.length
 | [] => by simp [joinB]
 | [a] => by simp [joinB, sizes]
 | a :: b :: r => by
  have h := join_sizes d (b :: r)
  have e : (joinB d (a :: b :: r)) = a.data.toList ++ d ++ joinB d (b :: r) := rfl
  rw [e]
  simp only [sizes, List.map_cons, List.sum_cons, List.length_append, List.length_cons, by_len, Nat.mul_add, Nat.mul_one] at *
  omega
theorem sizes_sub {l m : List ByteArray} (h : l.Sublist m) : sizes l ≤ sizes m := by
 induction h with
 | slnil => exact Nat.le_refl _
 | cons a _ ih => simp only [sizes, List.map_cons, List.sum_cons] at *; omega
 | cons_cons a _ ih => simp only [sizes, List.map_cons, List.sum_cons] at *; omega
theorem lines_sub (s : ByteArray) : (textLines s).Sublist (splitAt 10 [] s.data.toList) := by
 obtain ⟨fr, la, h1, h2⟩ := split_snoc s
 rw [h1, h2]
 split
 ·exact List.sublist_append_left _ _
 ·exact List.Sublist.refl _
theorem lines_small {s : ByteArray} (hs : ¬ 65536 < s.size) : (textLines s).length ≤ 65537 ∧ (∀ x ∈ textLines s, x.size ≤ 65536) ∧ Lean1 (textLines s) := by
 have hsub := lines_sub s
 have hc : (splitAt 10 [] s.data.toList).length ≤ 65537 := by
  rw [splitAt_len]
  have : s.data.toList.count 10 ≤ s.data.toList.length := List.count_le_length
  rw [by_len] at this; omega
 have hz := split_sizes 10 s.data.toList []
 rw [by_len] at hz
 have hl := hsub.length_le
 refine ⟨by omega, fun x hx => ?_, fun a b => ?_⟩
 ·have := splitAt_size 10 s.data.toList [] x (hsub.subset hx)
  rw [by_len] at this
  simp at this; omega
 ·have h1 := join_sizes [10] (((textLines s).drop a).take b)
  have h2 := sizes_sub (((List.take_sublist b _).trans (List.drop_sublist a _)).trans hsub)
  have h3 := ((List.take_sublist b ((textLines s).drop a)).trans (List.drop_sublist a _)).length_le
  simp only [List.length_cons, List.length_nil] at *
  omega
theorem readLine_ne {c : Catalog} {s : ByteArray} {rest : List ByteArray} {k : Int} (h : readLine c s rest = .err k) : k ≠ 0 := by
 unfold readLine at h
 repeat' split at h
 all_goals try (cases h; done)
 ·unfold readLic at h; repeat' split at h
  all_goals (cases h; try decide)
 ·unfold readExc at h; repeat' split at h
  all_goals (cases h; try decide)
 ·unfold readClause at h; repeat' split at h
  all_goals (cases h; try decide)
 ·unfold readApart at h; repeat' split at h
  all_goals (cases h; try decide)
 ·cases h; decide
section
variable {B r : Nat} {w w1 : World} {lv : Value} {ls : List ByteArray} {nx : Nat} {v0 v1 v2 v3 : Value} {c : Catalog}
theorem RD.kept {E : TypeId → Prop} (h : RD B r w lv ls nx v0 v1 v2 v3 c) (hA : Agree B E w w1) (hR : ¬ E 127) : w1.heap[r]? = some (.cells #[lv, .int .i64 nx, v0, v1, v2, v3] 127 (0, 0)) := by
 rw [hA.2 r h.lt (.inr fun ⟨cs, e, fr, he, hh⟩ => by rw [h.obj] at hh; cases hh; exact hR he)]; exact h.obj
theorem RD.sort_lic {xs : List License} (h : RD B r w lv ls nx v0 v1 v2 v3 c) (hA : Agree B (· = 60) w w1) (hu : OwnL B E5 60 w1 v0 xs) : RD B r w1 lv ls nx v0 v1 v2 v3 { c with licenses := xs } :=
 ⟨h.hB, h.kept hA (by decide), h.lines.agree hA (by decide), hu, h.exc.other hA (fun x hx => hx ▸ (by decide)) (by decide), h.cla.other hA (fun x hx => hx ▸ (by decide)) (by decide), h.prs.other hA (fun x hx => hx ▸ (by decide)) (by decide)⟩
theorem RD.sort_exc {xs : List Exc} (h : RD B r w lv ls nx v0 v1 v2 v3 c) (hA : Agree B (· = 65) w w1) (hu : OwnL B E5 65 w1 v1 xs) : RD B r w1 lv ls nx v0 v1 v2 v3 { c with exceptions := xs } :=
 ⟨h.hB, h.kept hA (by decide), h.lines.agree hA (by decide), h.lic.other hA (fun x hx => hx ▸ (by decide)) (by decide), hu, h.cla.other hA (fun x hx => hx ▸ (by decide)) (by decide), h.prs.other hA (fun x hx => hx ▸ (by decide)) (by decide)⟩
theorem RD.sort_cla {xs : List Clause} (h : RD B r w lv ls nx v0 v1 v2 v3 c) (hA : Agree B (· = 86) w w1) (hu : OwnL B E5 86 w1 v2 xs) : RD B r w1 lv ls nx v0 v1 v2 v3 { c with clauses := xs } :=
 ⟨h.hB, h.kept hA (by decide), h.lines.agree hA (by decide), h.lic.other hA (fun x hx => hx ▸ (by decide)) (by decide), h.exc.other hA (fun x hx => hx ▸ (by decide)) (by decide), hu, h.prs.other hA (fun x hx => hx ▸ (by decide)) (by decide)⟩
theorem RD.sort_prs {xs : List Pair} (h : RD B r w lv ls nx v0 v1 v2 v3 c) (hA : Agree B (· = 88) w w1) (hu : OwnL B E5 88 w1 v3 xs) : RD B r w1 lv ls nx v0 v1 v2 v3 { c with apart := xs } :=
 ⟨h.hB, h.kept hA (by decide), h.lines.agree hA (by decide), h.lic.other hA (fun x hx => hx ▸ (by decide)) (by decide), h.exc.other hA (fun x hx => hx ▸ (by decide)) (by decide), h.cla.other hA (fun x hx => hx ▸ (by decide)) (by decide), hu⟩
theorem RD.cat (h : RD B r w lv ls nx v0 v1 v2 v3 c) : Is w (.agg #[v0, v1, v2, v3]) c := by
 obtain ⟨a0, c0, rfl, p0⟩ := list_inv h.lic.is
 obtain ⟨a1, c1, rfl, p1⟩ := list_inv h.exc.is
 obtain ⟨a2, c2, rfl, p2⟩ := list_inv h.cla.is
 obtain ⟨a3, c3, rfl, p3⟩ := list_inv h.prs.is
 exact Catalog.mk' ⟨p0.1, p0.2.1, p0.2.2, p1.1, p1.2.1, p1.2.2, p2.1, p2.2.1, p2.2.2, p3.1, p3.2.1, p3.2.2⟩
end
def nxOf (r : Nat) (w : World) : Nat := match w.cell? ⟨r, 1, none⟩ with
 | some (.int _ n) => n.toNat
 | _ => 0
def POut (s : ByteArray) (w : World) (e : Ending) (w' : World) : Prop :=
 ∃ v, e = .returned (.tuple #[v, .int .i64 (parseC s).1, .int .i64 (parseC s).2.1]) ∧ Is w' v (parseC s).2.2 ∧ Below w.heap.size w w'
theorem nil4 (w : World) : Is w (.agg #[.slice none 0 0, .slice none 0 0, .slice none 0 0, .slice none 0 0]) emptyC :=
 Catalog.mk' (x := emptyC) ⟨Nat.le_refl _, by decide, fun i x h => by simp [emptyC] at h, Nat.le_refl _, by decide, fun i x h => by simp [emptyC] at h, Nat.le_refl _, by decide, fun i x h => by simp [emptyC] at h, Nat.le_refl _, by decide, fun i x h => by simp [emptyC] at h⟩
end Go.Proofs.YtoemmpfcnpdblaaGreatDoor
