/- Plain laws of catalogs: what the reference looks up. -/
import Derived.Deep.RegionHeld3
import Derived.Test.YtoemmpfcnpdblaaGreatDoorJRefV
import Derived.Test.YtoemmpfcnpdblaaGreatDoorJSort
import Derived.Test.YtoemmpfcnpdblaaGreatDoorJFmtU
import Derived.Test.YtoemmpfcnpdblaaGreatDoorJLaw
set_option linter.all false
namespace Go.Proofs.YtoemmpfcnpdblaaGreatDoor
open Go Go.Sort

end Go.Proofs.YtoemmpfcnpdblaaGreatDoor
namespace Go.Proofs.YtoemmpfcnpdblaaGreatDoor
open Go Go.Sort
theorem find_look {nm : ByteArray} : ∀ {ls : List License} {i : Int}, 0 ≤ i → (findFrom nm ls i < 0 ∧ lookL nm ls = none) ∨ (∃ (j : Nat) (x : License), findFrom nm ls i = i + j ∧ ls[j]? = some x ∧ lookL nm ls = some x)
 | [], i, _ => Or.inl ⟨by show (-1 : Int) < 0; decide, rfl⟩
 | x :: r, i, hi => by
  unfold findFrom lookL
  by_cases e : x.name = nm
  ·rw [if_pos e, if_pos e]
   exact Or.inr ⟨0, x, by omega, rfl, rfl⟩
  ·rw [if_neg e, if_neg e]
   rcases find_look (nm := nm) (ls := r) (i := i + 1) (by omega) with h | ⟨j, y, h1, h2, h3⟩
   ·exact Or.inl h
   ·exact Or.inr ⟨j + 1, y, by omega, h2, h3⟩
def liftsR (c : Catalog) (t : Term) : Option (List Int) := if t.exception.toList.isEmpty then some [] else liftsL t c.exceptions
theorem known_eq (c : Catalog) (t : Term) (h : checkC c = 0) (hf : ¬ findFrom t.license c.licenses 0 < 0) : liftsC c t = liftsR c t := by
 unfold liftsC liftsR findC
 rw [h]
 rcases find_look (nm := t.license) (ls := c.licenses) (i := 0) (by omega) with ⟨h1, -⟩ | ⟨j, x, h1, h2, h3⟩
 ·exact absurd h1 hf
 ·simp [h3]
theorem find_none {c : Catalog} {nm : ByteArray} (h : ¬ checkC c = 0 ∨ findFrom nm c.licenses 0 < 0) : findC c nm = none := by
 unfold findC
 rcases h with h | h
 ·rw [if_pos (by simpa using h)]
 ·split
  ·rfl
  ·rcases find_look (nm := nm) (ls := c.licenses) (i := 0) (by omega) with ⟨-, h3⟩ | ⟨j, x, h3, -, -⟩
   ·exact h3
   ·omega
theorem known_none {c : Catalog} {t : Term} (h : findC c t.license = none) : liftsC c t = none := by
 unfold liftsC
 rw [h]
 rfl
theorem known_check (c : Catalog) (t : Term) (h : ¬ checkC c = 0) : liftsC c t = none := known_none (find_none (Or.inl h))
theorem known_find (c : Catalog) (t : Term) (hf : findFrom t.license c.licenses 0 < 0) : liftsC c t = none := known_none (find_none (Or.inr hf))
theorem clauses_due {c : Catalog} {t : Term} {l : List Int} (h : liftsC c t = some l) (way rel : Int) : clausesC c t way rel = c.clauses.filter (clauseIs t way rel ((liftsR c t).getD [])) := by
 have hc := lifts_check h
 have hf : ¬ findFrom t.license c.licenses 0 < 0 := fun hf => by rw [known_find c t hf] at h; cases h
 have he := known_eq c t hc hf
 unfold clausesC
 rw [← he, h]
 rfl
theorem clauses_none {c : Catalog} {t : Term} (h : liftsC c t = none) (way rel : Int) : clausesC c t way rel = [] := by unfold clausesC; rw [h]
end Go.Proofs.YtoemmpfcnpdblaaGreatDoor
namespace Go.Proofs.YtoemmpfcnpdblaaGreatDoor
open Go Go.RowKit Go.ChangeShapes
end Go.Proofs.YtoemmpfcnpdblaaGreatDoor
namespace Go.Proofs.YtoemmpfcnpdblaaGreatDoor
open Go Go.RowKit Go.ChangeShapes
def LOut (o : Option (List Int)) (w : World) (e : Ending) (w' : World) : Prop := ∃ s, e = .returned (.tuple #[s, .bool o.isSome]) ∧ Is w' s (o.getD []) ∧ Below w.heap.size w w'
set_option maxRecDepth 100000 in
set_option maxHeartbeats 4000000 in
theorem lifts_ref (w : World) (x0 : Value) (c : Catalog) (t : Term) (h : Is w x0 c) :
  Calls Tryz.prog 134 #[x0, .agg #[.string t.license, .string t.exception]] w fun e w' => LOut (liftsR c t) w e w' := by
 obtain ⟨a0, c0, a1, c1, a2, c2, a3, c3, rfl, l0, m0, r0, l1, m1, r1, l2, m2, r2, l3, m3, r3⟩ := Catalog.inv h
 have R1 := Lib.hid r1
 have n1 : c.exceptions.length ≤ 9223372036854775807 := by simp only [maxLen] at m1; omega
 clear h r0 r1 r2 r3 m0 m1 m2 m3 l1 l2 l3 l0
 generalize hN : c.exceptions.length = N1 at *
 have HN := Lib.hid hN
 clear hN
 generalize c.licenses.length = N0 at *
 generalize c.clauses.length = N2 at *
 generalize c.apart.length = N3 at *
 cases q0 : t.exception.toList.isEmpty
 case true =>
  have HF : Hid (liftsR c t = some []) := by show _ = _; unfold liftsR; rw [q0]; rfl
  go_enter Tryz.func134, Tryz.ntmps134
  go_wp2
  refine bodyPost_ret (v := .tuple #[.slice none 0 0, .bool true]) (by simp [results, Tryz.results134, go_sem]) rfl ?_
  unfold LOut
  exact ⟨.slice none 0 0, by rw [HF.out]; rfl, by rw [HF.out]; exact nil_mk _, (by first | ((repeat (first | exact Below.refl _ _ | assumption | refine Below.drewN ?_ _ | refine Below.drew ?_ | refine Below.alloc ?_ (by first | exact Nat.le_refl _ | (simp; done) | (simp; omega) | omega) _ | refine Below.setCell ?_ (by first | exact Nat.le_refl _ | (simp; done) | (simp; omega) | omega) _ | refine Below.trans ?_ (Below.mono (by assumption) (by first | exact Nat.le_refl _ | (simp; done) | (simp; omega) | omega)))); done) | fail)⟩
 have HF : Hid (liftsR c t = liftsL t c.exceptions) := by show _ = _; unfold liftsR; rw [q0]; rfl
 go_enter Tryz.func134, Tryz.ntmps134
 go_wp2
 have hbw2 : Below w.heap.size w ((w.alloc (.cells #[.slice a0 N0 c0, .slice a1 N1 c1, .slice a2 N2 c2, .slice a3 N3 c3] 42)).alloc (.cells #[.string t.license, .string t.exception] 67)) := (by first | ((repeat (first | exact Below.refl _ _ | assumption | refine Below.drewN ?_ _ | refine Below.drew ?_ | refine Below.alloc ?_ (by first | exact Nat.le_refl _ | (simp; done) | (simp; omega) | omega) _ | refine Below.setCell ?_ (by first | exact Nat.le_refl _ | (simp; done) | (simp; omega) | omega) _ | refine Below.trans ?_ (Below.mono (by assumption) (by first | exact Nat.le_refl _ | (simp; done) | (simp; omega) | omega)))); done) | fail)
 have HB2 := Lib.hid hbw2
 have d1' : ((w.alloc (.cells #[.slice a0 N0 c0, .slice a1 N1 c1, .slice a2 N2 c2, .slice a3 N3 c3] 42)).alloc (.cells #[.string t.license, .string t.exception] 67)).cell? ⟨w.heap.size, 1, none⟩ = some (.slice a1 N1 c1) := by simp
 have e0' : ((w.alloc (.cells #[.slice a0 N0 c0, .slice a1 N1 c1, .slice a2 N2 c2, .slice a3 N3 c3] 42)).alloc (.cells #[.string t.license, .string t.exception] 67)).cell? ⟨w.heap.size + 1, 0, none⟩ = some (.string t.license) := by simp
 have e1' : ((w.alloc (.cells #[.slice a0 N0 c0, .slice a1 N1 c1, .slice a2 N2 c2, .slice a3 N3 c3] 42)).alloc (.cells #[.string t.license, .string t.exception] 67)).cell? ⟨w.heap.size + 1, 1, none⟩ = some (.string t.exception) := by simp
 clear hbw2
 generalize (w.alloc (.cells #[.slice a0 N0 c0, .slice a1 N1 c1, .slice a2 N2 c2, .slice a3 N3 c3] 42)).alloc (.cells #[.string t.license, .string t.exception] 67) = w2 at *
 have hy1 : w.heap.size < w2.heap.size := cell_lt d1'
 have hy2 : w.heap.size + 1 < w2.heap.size := cell_lt e1'
 go_loopw [6] (fun kv wr => ∃ k : Nat, 0 ≤ k ∧ k ≤ N1 + 0 ∧ kv = .int .i64 k ∧ Below (w2).heap.size (w2) wr ∧ Hid (liftsL t c.exceptions = liftsL t (c.exceptions.drop k))) (fun kv _ => N1 - (intOf kv).toNat)
 case atStart => exact ⟨0, by omega, by omega, rfl, (by first | ((repeat (first | exact Below.refl _ _ | assumption | refine Below.drewN ?_ _ | refine Below.drew ?_ | refine Below.alloc ?_ (by first | exact Nat.le_refl _ | (simp; done) | (simp; omega) | omega) _ | refine Below.setCell ?_ (by first | exact Nat.le_refl _ | (simp; done) | (simp; omega) | omega) _ | refine Below.trans ?_ (Below.mono (by assumption) (by first | exact Nat.le_refl _ | (simp; done) | (simp; omega) | omega)))); done) | fail), rfl⟩
 case round =>
  obtain ⟨k, hlo, hk, rfl, hbr0, hf⟩ := hrel
  have hbr := Lib.hid hbr0
  clear hbr0
  have g1 := kept hbr.out d1'
  have g2 := kept hbr.out e0'
  have g3 := kept hbr.out e1'
  by_cases hki : k < N1
  ·obtain ⟨x, hx⟩ := get_lt (xs := c.exceptions) (k := k) (by rw [HN.out]; exact hki)
   have hd := Lib.hid (drop_at hx)
   obtain ⟨b, off, rfl, hb, ya, yc, y0', y1', y2', _, _, hyl, hyc, hyr⟩ := Exc.at_row (R1.out.mono HB2.out) hx
   have y0 := kept hbr.out y0'
   have y1 := kept hbr.out y1'
   have y2 := kept hbr.out y2'
   have HY := Lib.hid (list_mk hyl hyc hyr)
   have hs3 : b < wr.heap.size := cell_lt y0
   clear hx hyr y0' y1' y2' hyl hyc
   cases q1 : (x.name.toList == t.exception.toList)
   case true =>
    cases q2 : (x.license.toList == t.license.toList)
    case true =>
     have HQ : Hid (liftsR c t = some x.lifts) := by
      show _ = _
      rw [HF.out, hf.out, hd.out, liftsL_cons]; simp [excIs, q1, q2]
     generalize x.lifts.length = NX at *
     go_wp2
     go_quiet (fail)
     go_wp2
     refine bodyPost_ret (v := .tuple #[.slice ya NX yc, .bool true]) (by simp [results, Tryz.results134, go_sem]) rfl ?_
     unfold LOut
     exact ⟨.slice ya NX yc, by rw [HQ.out]; rfl, by rw [HQ.out]; exact HY.out.mono (by have hq := hbr.out; have hqs := hq.size; exact (by first | ((repeat (first | exact Below.refl _ _ | assumption | refine Below.drewN ?_ _ | refine Below.drew ?_ | refine Below.alloc ?_ (by first | exact Nat.le_refl _ | (simp; done) | (simp; omega) | omega) _ | refine Below.setCell ?_ (by first | exact Nat.le_refl _ | (simp; done) | (simp; omega) | omega) _ | refine Below.trans ?_ (Below.mono (by assumption) (by first | exact Nat.le_refl _ | (simp; done) | (simp; omega) | omega)))); done) | fail)), by have hq := HB2.out; have hqs := hq.size; have hr := hbr.out; have hrs := hr.size; exact (by first | ((repeat (first | exact Below.refl _ _ | assumption | refine Below.drewN ?_ _ | refine Below.drew ?_ | refine Below.alloc ?_ (by first | exact Nat.le_refl _ | (simp; done) | (simp; omega) | omega) _ | refine Below.setCell ?_ (by first | exact Nat.le_refl _ | (simp; done) | (simp; omega) | omega) _ | refine Below.trans ?_ (Below.mono (by assumption) (by first | exact Nat.le_refl _ | (simp; done) | (simp; omega) | omega)))); done) | fail)⟩
    go_wp2
    go_quiet (fail)
    go_wp2
    go_roundw
    case rel => exact ⟨k + 1, by omega, by omega, by go_num, (by have hr := hbr.out; have hrs := hr.size; exact (by first | ((repeat (first | exact Below.refl _ _ | assumption | refine Below.drewN ?_ _ | refine Below.drew ?_ | refine Below.alloc ?_ (by first | exact Nat.le_refl _ | (simp; done) | (simp; omega) | omega) _ | refine Below.setCell ?_ (by first | exact Nat.le_refl _ | (simp; done) | (simp; omega) | omega) _ | refine Below.trans ?_ (Below.mono (by assumption) (by first | exact Nat.le_refl _ | (simp; done) | (simp; omega) | omega)))); done) | fail)), by show _ = _; rw [hf.out, hd.out, liftsL_cons]; simp [excIs, q1, q2]⟩
    case measure => simp [intOf]; omega
   go_wp2
   go_quiet (fail)
   go_wp2
   go_roundw
   case rel => exact ⟨k + 1, by omega, by omega, by go_num, (by have hr := hbr.out; have hrs := hr.size; exact (by first | ((repeat (first | exact Below.refl _ _ | assumption | refine Below.drewN ?_ _ | refine Below.drew ?_ | refine Below.alloc ?_ (by first | exact Nat.le_refl _ | (simp; done) | (simp; omega) | omega) _ | refine Below.setCell ?_ (by first | exact Nat.le_refl _ | (simp; done) | (simp; omega) | omega) _ | refine Below.trans ?_ (Below.mono (by assumption) (by first | exact Nat.le_refl _ | (simp; done) | (simp; omega) | omega)))); done) | fail)), by show _ = _; rw [hf.out, hd.out, liftsL_cons]; simp [excIs, q1]⟩
   case measure => simp [intOf]; omega
  ·have HQ : Hid (liftsR c t = none) := by
    show _ = _
    rw [HF.out, hf.out, List.drop_eq_nil_of_le (by rw [HN.out]; omega)]; rfl
   go_wp2
   refine bodyPost_ret (v := .tuple #[.slice none 0 0, .bool false]) (by simp [results, Tryz.results134, go_sem]) rfl ?_
   unfold LOut
   exact ⟨.slice none 0 0, by rw [HQ.out]; rfl, by rw [HQ.out]; exact nil_mk _, by have hq := HB2.out; have hqs := hq.size; have hr := hbr.out; have hrs := hr.size; exact (by first | ((repeat (first | exact Below.refl _ _ | assumption | refine Below.drewN ?_ _ | refine Below.drew ?_ | refine Below.alloc ?_ (by first | exact Nat.le_refl _ | (simp; done) | (simp; omega) | omega) _ | refine Below.setCell ?_ (by first | exact Nat.le_refl _ | (simp; done) | (simp; omega) | omega) _ | refine Below.trans ?_ (Below.mono (by assumption) (by first | exact Nat.le_refl _ | (simp; done) | (simp; omega) | omega)))); done) | fail)⟩
end Go.Proofs.YtoemmpfcnpdblaaGreatDoor
namespace Go.Proofs.YtoemmpfcnpdblaaGreatDoor
open Go Go.RowKit Go.ChangeShapes
theorem row_str_agree {E : TypeId → Prop} {w w1 w2 : World} {a : Option Addr} {xs : List ByteArray} (h : Row w a xs) (hb : Below w.heap.size w w1) (hA : Agree w.heap.size E w1 w2) : Row w2 a xs := by
 intro i x hx
 obtain ⟨b, off, ha, hlt, hi⟩ := h i x hx
 have e : w2.heap[b]? = w.heap[b]? := by rw [hA.2 b (Nat.lt_of_lt_of_le hlt hb.size) (.inl hlt), hb.block b hlt]
 refine ⟨b, off, ha, Nat.lt_of_lt_of_le hlt (Nat.le_trans hb.size hA.1), ?_⟩
 refine Lay.congr (fun j _ => ?_) (show Lay.is w2 (fun j => w.cell? ⟨b, off + i * Lay.n ByteArray + j, none⟩) x from hi)
 simp only [World.cell?, e]
end Go.Proofs.YtoemmpfcnpdblaaGreatDoor
namespace Go.Proofs.YtoemmpfcnpdblaaGreatDoor
open Go Go.RowKit Go.ChangeShapes
set_option maxRecDepth 100000 in
set_option maxHeartbeats 4000000 in
theorem Known_ref (w : World) (x0 : Value) (c : Catalog) (t : Term) (h : Is w x0 c) :
  Calls Tryz.prog 68 #[x0, .agg #[.string t.license, .string t.exception]] w fun e w' => e = .returned (.bool (liftsC c t).isSome) ∧ Below w.heap.size w w' := by
 have HI := Lib.hid h
 obtain ⟨a0, c0, a1, c1, a2, c2, a3, c3, rfl, l0, m0, r0, l1, m1, r1, l2, m2, r2, l3, m3, r3⟩ := Catalog.inv h
 have L0 := Lib.hid (list_mk l0 m0 r0)
 clear h r0 r1 r2 r3 m0 m1 m2 m3 l1 l2 l3 l0
 generalize c.licenses.length = N0 at *
 generalize c.exceptions.length = N1 at *
 generalize c.clauses.length = N2 at *
 generalize c.apart.length = N3 at *
 go_enter Tryz.func68, Tryz.ntmps68
 go_wp2_with fail
 refine (Check_ref _ _ c (HI.out.mono (by first | ((repeat (first | exact Below.refl _ _ | assumption | refine Below.drewN ?_ _ | refine Below.drew ?_ | refine Below.alloc ?_ (by first | exact Nat.le_refl _ | (simp; done) | (simp; omega) | omega) _ | refine Below.setCell ?_ (by first | exact Nat.le_refl _ | (simp; done) | (simp; omega) | omega) _ | refine Below.trans ?_ (Below.mono (by assumption) (by first | exact Nat.le_refl _ | (simp; done) | (simp; omega) | omega)))); done) | fail))).mono ?_
 rintro e w1 ⟨rfl, hb1⟩
 have d0 := kept hb1 (a := ⟨w.heap.size, 0, none⟩) (v := .slice a0 N0 c0) (by simp)
 have d1 := kept hb1 (a := ⟨w.heap.size, 1, none⟩) (v := .slice a1 N1 c1) (by simp)
 have d2 := kept hb1 (a := ⟨w.heap.size, 2, none⟩) (v := .slice a2 N2 c2) (by simp)
 have d3 := kept hb1 (a := ⟨w.heap.size, 3, none⟩) (v := .slice a3 N3 c3) (by simp)
 have e0 := kept hb1 (a := ⟨w.heap.size + 1, 0, none⟩) (v := .string t.license) (by simp)
 have e1 := kept hb1 (a := ⟨w.heap.size + 1, 1, none⟩) (v := .string t.exception) (by simp)
 have hbw : Below w.heap.size w w1 := (by first | ((repeat (first | exact Below.refl _ _ | assumption | refine Below.drewN ?_ _ | refine Below.drew ?_ | refine Below.alloc ?_ (by first | exact Nat.le_refl _ | (simp; done) | (simp; omega) | omega) _ | refine Below.setCell ?_ (by first | exact Nat.le_refl _ | (simp; done) | (simp; omega) | omega) _ | refine Below.trans ?_ (Below.mono (by assumption) (by first | exact Nat.le_refl _ | (simp; done) | (simp; omega) | omega)))); done) | fail)
 have HB1 := Lib.hid hbw
 have hz1 : w.heap.size + 1 < w1.heap.size := cell_lt e0
 clear hb1 hbw
 cases q1 : (checkC c != 0)
 case true =>
  have HF : Hid (liftsC c t = none) := known_check c t (by simpa using q1)
  go_wp2
  go_ret
  exact ⟨ret_b (by rw [HF.out]; rfl), by have hq := HB1.out; exact (by first | ((repeat (first | exact Below.refl _ _ | assumption | refine Below.drewN ?_ _ | refine Below.drew ?_ | refine Below.alloc ?_ (by first | exact Nat.le_refl _ | (simp; done) | (simp; omega) | omega) _ | refine Below.setCell ?_ (by first | exact Nat.le_refl _ | (simp; done) | (simp; omega) | omega) _ | refine Below.trans ?_ (Below.mono (by assumption) (by first | exact Nat.le_refl _ | (simp; done) | (simp; omega) | omega)))); done) | fail)⟩
 have HQ := Lib.hid q1
 go_wp2_with fail
 refine (find_ref _ _ _ _ _ t.license c.licenses (L0.out.mono HB1.out)).mono ?_
 rintro e w2 ⟨rfl, hb2⟩
 have d0' := kept hb2 d0
 have d1' := kept hb2 d1
 have d2' := kept hb2 d2
 have d3' := kept hb2 d3
 have e0' := kept hb2 e0
 have e1' := kept hb2 e1
 have HB2 := Lib.hid (HB1.out.trans (hb2.mono HB1.out.size))
 have hz2 : w.heap.size + 1 < w2.heap.size := cell_lt e0'
 clear d0 d1 d2 d3 e0 e1 hb2 HB1 hz1
 cases q2 : decide (findFrom t.license c.licenses 0 < 0)
 case true =>
  have HF : Hid (liftsC c t = none) := known_find c t (by simpa using q2)
  go_wp2
  go_ret
  exact ⟨ret_b (by rw [HF.out]; rfl), by have hq := HB2.out; exact (by first | ((repeat (first | exact Below.refl _ _ | assumption | refine Below.drewN ?_ _ | refine Below.drew ?_ | refine Below.alloc ?_ (by first | exact Nat.le_refl _ | (simp; done) | (simp; omega) | omega) _ | refine Below.setCell ?_ (by first | exact Nat.le_refl _ | (simp; done) | (simp; omega) | omega) _ | refine Below.trans ?_ (Below.mono (by assumption) (by first | exact Nat.le_refl _ | (simp; done) | (simp; omega) | omega)))); done) | fail)⟩
 have HF : Hid (liftsC c t = liftsR c t) := known_eq c t (by simpa using HQ.out) (by simpa using q2)
 generalize findFrom t.license c.licenses 0 = ff at *
 generalize checkC c = ck at *
 go_wp2_with fail
 refine (lifts_ref _ _ c t (HI.out.mono HB2.out)).mono ?_
 unfold LOut
 rintro e w3 ⟨s, rfl, hs, hb3⟩
 rw [← HF.out]
 have HB3 := Lib.hid (HB2.out.trans (hb3.mono HB2.out.size))
 clear hs hb3
 obtain ⟨sm, hsm⟩ : ∃ sm, sm = (liftsC c t).isSome := ⟨_, rfl⟩
 rw [← hsm]
 have HSM := Lib.hid hsm
 clear hsm
 go_wp2
 go_ret
 exact ⟨ret_b HSM.out, HB3.out⟩
end Go.Proofs.YtoemmpfcnpdblaaGreatDoor
namespace Go.Proofs.YtoemmpfcnpdblaaGreatDoor
open Go Go.RowKit Go.ChangeShapes
end Go.Proofs.YtoemmpfcnpdblaaGreatDoor
