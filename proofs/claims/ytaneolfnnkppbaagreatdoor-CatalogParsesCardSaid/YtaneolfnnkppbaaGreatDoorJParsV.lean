/- The reference's parse. -/
import Derived.Deep.DeepCutAuto
import Derived.Test.YtaneolfnnkppbaaGreatDoorJReadW
import Derived.Test.YtaneolfnnkppbaaGreatDoorJAwake
import Derived.Test.YtaneolfnnkppbaaGreatDoorJSameU
import Derived.Test.YtaneolfnnkppbaaGreatDoorJLawN
import Derived.Test.YtaneolfnnkppbaaGreatDoorJParsU
import Derived.Test.YtaneolfnnkppbaaGreatDoorJSrtC
import Derived.Test.YtaneolfnnkppbaaGreatDoorJReadRV
set_option linter.all false
namespace Go.Proofs.YtaneolfnnkppbaaGreatDoor
open Go Go.RowKit Go.ChangeShapes
def PRes (s : ByteArray) (w : World) (e : Ending) (w' : World) : Prop := ∃ v0 v1 v2 v3, e = .returned (.agg #[v0, v1, v2, v3, .int .i64 (parseC s).1, .int .i64 (parseC s).2.1]) ∧ Is w' (.agg #[v0, v1, v2, v3]) (parseC s).2.2 ∧ Below w.heap.size w w'
theorem PRes.bad {s : ByteArray} {w w' : World} {a k : Int} {v : Value} (hv : v = .agg #[.slice none 0 0, .slice none 0 0, .slice none 0 0, .slice none 0 0, .int .i64 a, .int .i64 k]) (h : parseC s = (a, k, emptyC)) (hb : Below w.heap.size w w') : PRes s w (.returned v) w' := by
 subst hv
 refine ⟨.slice none 0 0, .slice none 0 0, .slice none 0 0, .slice none 0 0, by rw [h], ?_, hb⟩
 rw [h]
 refine Catalog.mk' (x := emptyC) ⟨Nat.le_refl _, Nat.zero_le _, ?_, Nat.le_refl _, Nat.zero_le _, ?_, Nat.le_refl _, Nat.zero_le _, ?_, Nat.le_refl _, Nat.zero_le _, ?_⟩
 all_goals
  intro i x hx
  simp [emptyC] at hx
theorem PRes.good {s : ByteArray} {w w' : World} {c : Catalog} {v v0 v1 v2 v3 : Value} (hv : v = .agg #[v0, v1, v2, v3, .int .i64 0, .int .i64 0]) (hc : Is w' (.agg #[v0, v1, v2, v3]) c) (h : parseC s = (0, 0, c)) (hb : Below w.heap.size w w') : PRes s w (.returned v) w' := by
 subst hv
 exact ⟨v0, v1, v2, v3, by rw [h], by rw [h]; exact hc, hb⟩
set_option maxRecDepth 100000 in
set_option maxHeartbeats 4000000 in
theorem Parse_ref_big (w : World) (s : ByteArray) (hs : 65536 < s.size) : Calls Tryz.prog 13 #[.string s] w fun e w' => PRes s w e w' := by
 have q1 : decide ((65536 : Int) < (s.size : Int)) = true := by simp; omega
 go_enter Tryz.func13, Tryz.ntmps13
 go_wp2
 refine bodyPost_ret (v := .agg #[.slice none 0 0, .slice none 0 0, .slice none 0 0, .slice none 0 0, .int .i64 0, .int .i64 10]) (by simp [results, Tryz.results13, go_sem]) rfl ?_
 refine PRes.bad rfl ?_ (by first | ((repeat (first | exact Below.refl _ _ | assumption | refine Below.drewN ?_ _ | refine Below.drew ?_ | refine Below.alloc ?_ (by first | exact Nat.le_refl _ | (simp; done) | (simp; omega) | omega) _ | refine Below.setCell ?_ (by first | exact Nat.le_refl _ | (simp; done) | (simp; omega) | omega) _ | refine Below.trans ?_ (Below.mono (by assumption) (by first | exact Nat.le_refl _ | (simp; done) | (simp; omega) | omega)))); done) | fail)
 unfold parseC
 rw [if_pos (by simpa using hs)]
set_option maxRecDepth 100000 in
set_option maxHeartbeats 4000000 in
theorem Parse_ref (w : World) (s : ByteArray) (hs : ¬ 65536 < s.size) : Calls Tryz.prog 13 #[.string s] w fun e w' => PRes s w e w' := by
 have q1 : decide ((65536 : Int) < (s.size : Int)) = false := by simp; omega
 go_enter Tryz.func13, Tryz.ntmps13
 go_upto_region 3 with (fail)
 have HB : Hid (Below w.heap.size w (w.alloc (.cells #[.slice none 0 0, .slice none 0 0, .slice none 0 0, .slice none 0 0, .int .i64 0, .int .i64 0] 33))) := (by first | ((repeat (first | exact Below.refl _ _ | assumption | refine Below.drewN ?_ _ | refine Below.drew ?_ | refine Below.alloc ?_ (by first | exact Nat.le_refl _ | (simp; done) | (simp; omega) | omega) _ | refine Below.setCell ?_ (by first | exact Nat.le_refl _ | (simp; done) | (simp; omega) | omega) _ | refine Below.trans ?_ (Below.mono (by assumption) (by first | exact Nat.le_refl _ | (simp; done) | (simp; omega) | omega)))); done) | fail)
 have HO : Hid ((w.alloc (.cells #[.slice none 0 0, .slice none 0 0, .slice none 0 0, .slice none 0 0, .int .i64 0, .int .i64 0] 33)).heap[w.heap.size]? = some (.cells #[.slice none 0 0, .slice none 0 0, .slice none 0 0, .slice none 0 0, .int .i64 0, .int .i64 0] 33 (0, 0))) := obj_new w _
 generalize w.alloc (.cells #[.slice none 0 0, .slice none 0 0, .slice none 0 0, .slice none 0 0, .int .i64 0, .int .i64 0] 33) = wa at *
 go_cut [25] (fun v25 wc => v25 = .bool (decide (s.data.toList.getLast? = some 10)) ∧ wc = wa)
 case first =>
  rcases Nat.eq_zero_or_pos s.size with h0 | h0
  ·have e1 : s.data.toList = [] := by rw [← List.length_eq_zero_iff, by_len]; exact h0
   have h0z : (s.size : Int) = 0 := by omega
   go_wp2
   go_meet
   case rel => exact ⟨by rw [e1]; rfl, rfl⟩
  ·have h0z : (0 : Int) < (s.size : Int) := by omega
   have hlt : s.size - 1 < s.size := by omega
   have hc : s.data.toList[s.size - 1]? = some s[s.size - 1] := by simp [hlt]; rfl
   have hgl : s.data.toList.getLast? = some s[s.size - 1] := by rw [List.getLast?_eq_getElem?, by_len]; exact hc
   go_wp2
   go_meet
   case rel =>
    refine ⟨?_, rfl⟩
    rw [hgl]
    cases h10 : ((s[s.size - 1].toNat : Int) == 10)
    ·rw [decide_eq_false (fun e => u8_f 10 h10 (Option.some.inj e))]
    ·rw [decide_eq_true (congrArg some (u8_t 10 h10))]
 case rest =>
  obtain ⟨rfl, rfl⟩ := hcut
  go_upto_if 25 with (fail)
  go_cut [0] (fun v0 w9 => v0 = .string (strip s) ∧ w9 = wc)
  case first =>
   cases hq : decide (s.data.toList.getLast? = some 10)
   case false =>
    go_wp2
    go_meet
    case rel =>
     refine ⟨?_, rfl⟩
     unfold strip
     rw [if_neg (of_decide_eq_false hq)]
   case true =>
    have h0 : 0 < s.size := by
     rcases Nat.eq_zero_or_pos s.size with h0 | h0
     ·have e1 : s.data.toList = [] := by rw [← List.length_eq_zero_iff, by_len]; exact h0
      rw [e1] at hq; simp at hq
     ·exact h0
    have h0z : (0 : Int) < (s.size : Int) := by omega
    have hlt : s.size - 1 < s.size := by omega
    have HQ := Lib.hid hq
    clear hq
    go_wp2
    go_meet
    case rel =>
     refine ⟨?_, rfl⟩
     unfold strip
     rw [if_pos (of_decide_eq_true HQ.out), extract_mkS]
     simp [List.dropLast_eq_take]
  case rest =>
   obtain ⟨rfl, rfl⟩ := hcut
   rename World => wa
   have hsz : (strip s).size ≤ 65536 := by have := strip_size s; omega
   have HPO : Hid (∀ (a e : Int) (c : Catalog), readLines 0 0 emptyC (linesB (strip s)) = (a, e, c) → parseC s = if e != 0 then (a, e, emptyC) else if checkC (sortC c) != 0 then (-1, checkC (sortC c), emptyC) else (0, 0, sortC c)) := fun a e c h => parse_of hs h
   go_wp2_with fail
   refine (lines_own (strip s) _ (by omega)).mono ?_
   rintro e w1 ⟨lv, rfl, hlo, hb1⟩
   obtain ⟨la, lc, rfl, hll, hlc⟩ := hlo.shape
   have hnl : (linesB (strip s)).length ≤ 65537 := by have := lines_len (strip s); omega
   have HSZ : Hid (∀ x ∈ linesB (strip s), x.size ≤ 65536) := fun x hx => by have := mem_lines hx; omega
   generalize hls : linesB (strip s) = ls at *
   generalize hN : ls.length = N at *
   have HN := Lib.hid hN
   have hSa : w.heap.size < wa.heap.size := obj_lt HO.out
   have HO1 : Hid (OwnV Value.string w.heap.size 9 w1 (.slice la N lc) ls) := hlo.weaken (Nat.le_of_lt hSa)
   have HB1 : Hid (Below w.heap.size w w1) := HB.out.trans (hb1.mono (Nat.le_of_lt hSa))
   have HR1 := Lib.hid (obj_below HO.out hb1)
   have hS1 : w.heap.size < w1.heap.size := obj_lt HR1.out
   clear hls hN hlo hb1 HB HO hSa
   clear wa
   simp only [maxLen] at hlc
   go_wp2
   have HP0 : Hid (PS w.heap.size w1.heap.size w (w1.alloc (.cells #[.slice none 0 0, .slice none 0 0, .slice none 0 0, .slice none 0 0] 28)) (.slice la N lc) ls (.slice none 0 0) (.slice none 0 0) (.slice none 0 0) (.slice none 0 0) emptyC) :=
    ⟨hS1, HB1.out.alloc (by omega) _, obj_below HR1.out ((Below.refl _ _).alloc (Nat.le_refl _) _), HO1.out.below ((Below.refl _ _).alloc (Nat.le_refl _) _), obj_new _ _, ⟨OwnL.nil _ _ _ _, OwnL.nil _ _ _ _, OwnL.nil _ _ _ _, OwnL.nil _ _ _ _⟩⟩
   generalize w1.alloc (.cells #[.slice none 0 0, .slice none 0 0, .slice none 0 0, .slice none 0 0] 28) = wq at *
   clear HO1 HB1 HR1
   generalize w1.heap.size = g at *
   clear w1
   generalize hS : w.heap.size = S at *
   have mixed : Tryz.prog.follows .mixedOrders = true := by kernel_rfl
   go_loopw [5] (fun iv wr => ∃ (nx : Nat) (u0 u1 u2 u3 : Value) (cc : Catalog), nx ≤ N ∧ iv = .int .i64 nx ∧ Hid (readLines 0 0 emptyC ls = readLines nx 0 cc (ls.drop nx)) ∧ Hid (Upto nx cc) ∧ Hid (PS S g w wr (.slice la N lc) ls u0 u1 u2 u3 cc)) (fun iv _ => N - (intOf iv).toNat)
   case atStart => exact ⟨0, _, _, _, _, emptyC, Nat.zero_le _, by go_num, rfl, ⟨Nat.le_refl _, Nat.le_refl _, Nat.le_refl _, Nat.le_refl _⟩, HP0⟩
   case round =>
    clear HP0
    obtain ⟨nx, u0, u1, u2, u3, cc, hnx, rfl, HRL, HUP, HP⟩ := hrel
    by_cases hlt : nx < N
    ·obtain ⟨l, hl⟩ := get_lt (xs := ls) (k := nx) (by rw [HN.out]; exact hlt)
     have hlz : (nx : Int) < (N : Int) := by omega
     have HIL := HP.out.lin.strs (fun x hx => by have := HSZ.out x hx; unfold maxLen; omega)
     obtain ⟨la', lc', he, -, -, hrow⟩ := list_inv HIL
     rw [HN.out] at he
     cases he
     obtain ⟨gl, ol, rfl, hgl, c0, csz⟩ := str_at hrow hl
     have hls : l.size ≤ 1000000 := by have := HSZ.out l (List.mem_of_getElem? hl); omega
     have HL := Lib.hid hl
     clear HIL hrow hl
     go_wp2_with fail
     refine (Words_ref l _ hls).mono ?_
     rintro e w2 ⟨wv, rfl, how, hb2⟩
     have HW2 : Hid (Is w2 wv (wordsB l)) := how.strs (fun x hx => by have := mem_words hx; unfold maxLen; omega)
     obtain ⟨wa, wc, rfl, -, -⟩ := how.shape
     have hwlen : (wordsB l).length ≤ 1000001 := by have := words_len l; omega
     have HMW : Hid (∀ x ∈ wordsB l, 0 < x.size) := fun x hx => (mem_words hx).2
     have HP2 := Lib.hid (HP.out.below hb2)
     clear how hb2 c0 HP csz hgl
     clear wr
     generalize hws : wordsB l = wl at *
     have HWS := Lib.hid hws
     clear hws
     cases wl with
     | nil =>
      simp only [List.length_nil] at hwlen ⊢
      go_wp2
      go_roundw
      case rel => exact ⟨nx + 1, _, _, _, _, cc, by omega, by go_num, by rw [HRL.out]; exact step_skip HL.out (.inl HWS.out), ⟨by have := HUP.out.1; omega, by have := HUP.out.2.1; omega, by have := HUP.out.2.2.1; omega, by have := HUP.out.2.2.2; omega⟩, HP2⟩
      case measure => simp [intOf]; omega
     | cons h ws =>
      simp only [List.length_cons] at hwlen ⊢
      obtain ⟨wa', wc', he, -, -, hwr⟩ := list_inv HW2.out
      cases he
      obtain ⟨gw, ow, rfl, hgw, k0, ksz⟩ := str_at (i := 0) hwr rfl
      have k0' : w2.cell? ⟨gw, ow, none⟩ = some (.string h) := by simpa using k0
      have hh0 : 0 < h.size := HMW.out h (by simp)
      have hh1 : h.data.toList.head? = some h[0] := by
       have hc : h.data.toList[0]? = some h[0] := by simp [hh0]; rfl
       rw [List.head?_eq_getElem?]; exact hc
      have HH1 := Lib.hid hh1
      clear k0 hwr hh1
      cases q5 : ((h[0].toNat : Int) == 35)
      case true =>
       go_wp2
       go_roundw
       case rel => exact ⟨nx + 1, _, _, _, _, cc, by omega, by go_num, by rw [HRL.out]; exact step_skip HL.out (.inr ⟨_, _, HWS.out, by rw [HH1.out, u8_t 35 q5]⟩), ⟨by have := HUP.out.1; omega, by have := HUP.out.2.1; omega, by have := HUP.out.2.2.1; omega, by have := HUP.out.2.2.2; omega⟩, HP2⟩
       case measure => simp [intOf]; omega
      case false =>
       have H35 : Hid (h.data.toList.head? ≠ some 35) := by
        show _ ≠ _
        rw [HH1.out]; intro e; exact u8_f 35 q5 (Option.some.inj e)
       have z0 := objcell HP2.out.box (j := 0) rfl
       have z1 := objcell HP2.out.box (j := 1) rfl
       have z2 := objcell HP2.out.box (j := 2) rfl
       have z3 := objcell HP2.out.box (j := 3) rfl
       have hS2 : S < w2.heap.size := obj_lt HP2.out.res
       have hg2 : g < w2.heap.size := obj_lt HP2.out.box
       go_wp2_with fail
       refine (read_ref S _ u0 u1 u2 u3 cc _ h ws HP2.out.rc (by omega) (by have := HUP.out.1; omega) (by have := HUP.out.2.1; omega) (by have := HUP.out.2.2.1; omega) (by have := HUP.out.2.2.2; omega) (by omega) HW2.out).mono ?_
       rintro e w3 hout
       clear z0 z1 z2 z3 k0'
       cases hr : readR cc (h :: ws) with
       | none =>
        rw [hr] at hout
        obtain ⟨p0, n0, m0, p1, n1, m1, p2, n2, m2, p3, n3, m3, rfl, hb3⟩ := hout
        have HP3 := Lib.hid (HP2.out.below hb3)
        have HPC : Hid (parseC s = ((nx : Int), 4, emptyC)) := (HPO.out _ 4 emptyC (HRL.out.trans (step_bad HL.out HWS.out H35.out hr))).trans (if_pos (by decide))
        have hbl := HP3.out.bel
        have hne1 : S ≠ g := Nat.ne_of_lt HP3.out.lt
        have hne2 : g ≠ S := fun e => hne1 e.symm
        have hlt2 := HP3.out.lt
        have x0 := objcell HP3.out.box (j := 0) rfl
        have x1 := objcell HP3.out.box (j := 1) rfl
        have x2 := objcell HP3.out.box (j := 2) rfl
        have x3 := objcell HP3.out.box (j := 3) rfl
        have y0 := objfrozen HP3.out.box (j := 0)
        have y1 := objfrozen HP3.out.box (j := 1)
        have y2 := objfrozen HP3.out.box (j := 2)
        have y3 := objfrozen HP3.out.box (j := 3)
        have d0 := objcell HP3.out.res (j := 0) rfl
        have d1 := objcell HP3.out.res (j := 1) rfl
        have d2 := objcell HP3.out.res (j := 2) rfl
        have d3 := objcell HP3.out.res (j := 3) rfl
        have d4 := objcell HP3.out.res (j := 4) rfl
        have d5 := objcell HP3.out.res (j := 5) rfl
        have f0 := objfrozen HP3.out.res (j := 0)
        have f1 := objfrozen HP3.out.res (j := 1)
        have f2 := objfrozen HP3.out.res (j := 2)
        have f3 := objfrozen HP3.out.res (j := 3)
        have f4 := objfrozen HP3.out.res (j := 4)
        have f5 := objfrozen HP3.out.res (j := 5)
        have hg3 : g < w3.heap.size := obj_lt HP3.out.box
        have hS3 : S < w3.heap.size := obj_lt HP3.out.res
        clear hb3
        go_wp2
        refine bodyPost_ret (v := .agg #[.slice none 0 0, .slice none 0 0, .slice none 0 0, .slice none 0 0, .int .i64 nx, .int .i64 4]) (by simp [results, Tryz.results13, go_sem, d0, d1, d2, d3, d4, d5]) rfl ?_
        exact PRes.bad rfl HPC.out (by rw [hS]; exact below_6 (Nat.le_refl _) (below_4' (Nat.le_of_lt hlt2) hbl))
       | some r =>
        obtain ⟨c', n⟩ := r
        rw [hr] at hout
        obtain ⟨a0, a1, a2, a3, rfl, hb3, hrc, hkb⟩ := hout
        obtain ⟨hu1, hn1, htx⟩ := readR_upto hr HUP.out
        obtain ⟨pa0, pm0, rfl⟩ := hrc.lic.shape
        obtain ⟨pa1, pm1, rfl⟩ := hrc.exc.shape
        obtain ⟨pa2, pm2, rfl⟩ := hrc.cla.shape
        obtain ⟨pa3, pm3, rfl⟩ := hrc.prs.shape
        have HU1 := Lib.hid hu1
        have HTX := Lib.hid htx
        have HRR := Lib.hid hr
        clear hu1 htx hr
        have hM := Lib.hid (rfl : c'.licenses.length = c'.licenses.length)
        generalize hM0 : c'.licenses.length = M0 at *
        generalize c'.exceptions.length = M1 at *
        generalize c'.clauses.length = M2 at *
        generalize c'.apart.length = M3 at *
        have HM0 := Lib.hid hM0
        clear hM0 hM
        have xb := hkb g _ _ _ (by decide) HP2.out.box
        have HP3 := Lib.hid (HP2.out.read hb3 hkb hrc)
        have hne1 : S ≠ g := Nat.ne_of_lt HP3.out.lt
        have hne2 : g ≠ S := fun e => hne1 e.symm
        have hlt2 := HP3.out.lt
        have x0 := objcell xb (j := 0) rfl
        have x1 := objcell xb (j := 1) rfl
        have x2 := objcell xb (j := 2) rfl
        have x3 := objcell xb (j := 3) rfl
        have y0 := objfrozen xb (j := 0)
        have y1 := objfrozen xb (j := 1)
        have y2 := objfrozen xb (j := 2)
        have y3 := objfrozen xb (j := 3)
        have hn0 : ¬ ((n : Int) < 0) := by omega
        have hwn : IntKind.i64.wrap ((nx : Int) + (n : Int)) = (nx : Int) + (n : Int) := by rw [IntKind.wrap_i64]; omega
        have hg3 : g < w3.heap.size := obj_lt xb
        clear xb hb3 hkb hrc
        by_cases hsh : N ≤ nx + n
        ·have hshz : (N : Int) ≤ (nx : Int) + (n : Int) := by omega
         have HPC : Hid (parseC s = ((nx : Int), 13, emptyC)) := (HPO.out _ 13 emptyC (HRL.out.trans (step_short HL.out HWS.out H35.out HRR.out (by rw [HN.out]; exact hsh)))).trans (if_pos (by decide))
         go_upto_if 70 with (fail)
         generalize (((w3.setCell ⟨g, 0, none⟩ (.slice pa0 M0 pm0)).setCell ⟨g, 1, none⟩ (.slice pa1 M1 pm1)).setCell ⟨g, 2, none⟩ (.slice pa2 M2 pm2)).setCell ⟨g, 3, none⟩ (.slice pa3 M3 pm3) = w4 at HP3 ⊢
         have hbl := HP3.out.bel
         have d0 := objcell HP3.out.res (j := 0) rfl
         have d1 := objcell HP3.out.res (j := 1) rfl
         have d2 := objcell HP3.out.res (j := 2) rfl
         have d3 := objcell HP3.out.res (j := 3) rfl
         have d4 := objcell HP3.out.res (j := 4) rfl
         have d5 := objcell HP3.out.res (j := 5) rfl
         have f0 := objfrozen HP3.out.res (j := 0)
         have f1 := objfrozen HP3.out.res (j := 1)
         have f2 := objfrozen HP3.out.res (j := 2)
         have f3 := objfrozen HP3.out.res (j := 3)
         have f4 := objfrozen HP3.out.res (j := 4)
         have f5 := objfrozen HP3.out.res (j := 5)
         have hS3 : S < w4.heap.size := obj_lt HP3.out.res
         go_wp2
         refine bodyPost_ret (v := .agg #[.slice none 0 0, .slice none 0 0, .slice none 0 0, .slice none 0 0, .int .i64 nx, .int .i64 13]) (by simp [results, Tryz.results13, go_sem, d0, d1, d2, d3, d4, d5]) rfl ?_
         exact PRes.bad rfl HPC.out (by rw [hS]; exact below_6 (Nat.le_refl _) hbl)
        ·have hshz : ¬ (N : Int) ≤ (nx : Int) + (n : Int) := by omega
         go_wp2
         generalize (((w3.setCell ⟨g, 0, none⟩ (.slice pa0 M0 pm0)).setCell ⟨g, 1, none⟩ (.slice pa1 M1 pm1)).setCell ⟨g, 2, none⟩ (.slice pa2 M2 pm2)).setCell ⟨g, 3, none⟩ (.slice pa3 M3 pm3) = w4 at HP3 ⊢
         clear x0 x1 x2 x3 y0 y1 y2 y3 hg3 HP2 HW2 hS2 hg2
         go_loopw [8] (fun kv wr => ∃ (j : Nat), j ≤ n ∧ kv = .int .i64 ((j : Int) + 1) ∧ Hid (PS S g w wr (.slice (some ⟨gl, ol, none⟩) N lc) ls (.slice pa0 M0 pm0) (.slice pa1 M1 pm1) (.slice pa2 M2 pm2) (.slice pa3 M3 pm3) (txtC c' (ls.drop (nx + 1)) j))) (fun kv _ => n + 1 - (intOf kv).toNat)
         case atStart => exact ⟨0, Nat.zero_le _, by go_num, HP3⟩
         case round =>
          clear HP3
          obtain ⟨j, hj, rfl, HT⟩ := hrel
          by_cases hjn : j < n
          ·have htx : ∃ pre x, c'.licenses = pre ++ [x] ∧ x.text = mkS [] := by
            rcases HTX.out with h | ⟨x, h1, h2⟩
            ·omega
            ·exact ⟨_, x, h1, h2⟩
           obtain ⟨pre, x, hx, hxt⟩ := htx
           obtain ⟨t, Ht⟩ : ∃ t : ByteArray, Hid (t.data.toList = joinB [10] ((ls.drop (nx + 1)).take j)) := ⟨mkS _, mkS_toList _⟩
           have HT1 : Hid (PS S g w wr (.slice (some ⟨gl, ol, none⟩) N lc) ls (.slice pa0 M0 pm0) (.slice pa1 M1 pm1) (.slice pa2 M2 pm2) (.slice pa3 M3 pm3) { c' with licenses := pre ++ [{ x with text := t }] }) := by
            have h := HT.out
            rw [txtC_at hx hxt Ht.out] at h
            exact h
           have hMp : M0 = pre.length + 1 := by rw [← HM0.out, hx]; simp
           have htz : t.size ≤ 4295098369 := by
            have h1 := joinB_len10 (M := 65536) ((ls.drop (nx + 1)).take j) (fun s hs => HSZ.out s (List.mem_of_mem_drop (List.mem_of_mem_take hs)))
            rw [← Ht.out, by_len, List.length_take] at h1
            have h2 : min j (ls.drop (nx + 1)).length * (65536 + 1) ≤ 65537 * 65537 := Nat.mul_le_mul (by omega) (Nat.le_refl _)
            omega
           obtain ⟨l2, hl2⟩ := get_lt (xs := ls) (k := nx + 1 + j) (by rw [HN.out]; omega)
           have Hl2 : Hid ((ls.drop (nx + 1))[j]? = some l2) := by show _ = _; rw [List.getElem?_drop]; exact hl2
           have hlz2 : l2.size ≤ 65536 := HSZ.out l2 (List.mem_of_getElem? hl2)
           have HIL := HT1.out.lin.strs (fun x hx => by have := HSZ.out x hx; unfold maxLen; omega)
           obtain ⟨la', lc', he, -, -, hrow⟩ := list_inv HIL
           rw [HN.out] at he
           cases he
           obtain ⟨gl', ol', he, hgl, c0, -⟩ := str_at hrow hl2
           cases he
           have HX := Lib.hid hx
           have HXT := Lib.hid hxt
           clear HIL hrow hl2 HT hx hxt
           subst hMp
           have hpb : pre.length ≤ 65537 := by have := HU1.out.1; rw [HM0.out] at this; omega
           have hwp : IntKind.i64.wrap (pre.length : Int) = (pre.length : Int) := by rw [IntKind.wrap_i64]; omega
           obtain ⟨q, y, rfl, -, hqB, hql, hyl, fy, sy, -⟩ := HT1.out.rc.lic.elem (at_last pre _)
           obtain ⟨hd1, rfl⟩ := ofLic _ y _ hyl (sy _ (Agree.refl _ _ _))
           have e3 : wr.cell? ⟨q, pre.length * 4 + 3, none⟩ = some (.string t) := (fy 3 _ rfl).1
           have ef : wr.frozen? ⟨q, pre.length * 4 + 3, none⟩ = false := (fy 3 _ rfl).2
           have b0 := objcell HT1.out.box (j := 0) rfl
           have hgw2 : g < wr.heap.size := obj_lt HT1.out.box
           have hidx : ((nx : Int) + ((j : Int) + 1)).toNat = nx + 1 + j := by omega
           have hwi : IntKind.i64.wrap ((nx : Int) + ((j : Int) + 1)) = (nx : Int) + ((j : Int) + 1) := by rw [IntKind.wrap_i64]; omega
           have hi0 : (0 : Int) ≤ (nx : Int) + ((j : Int) + 1) := by omega
           have hi1 : (nx : Int) + ((j : Int) + 1) < (N : Int) := by omega
           have hk1 : (j : Int) + 1 ≤ (n : Int) := by omega
           clear fy sy hyl
           rcases Nat.eq_zero_or_pos j with hj0 | hj0
           ·have hjz : ¬ (1 : Int) < (j : Int) + 1 := by omega
            have HJ0 := Lib.hid hj0
            clear hj0
            obtain ⟨S2, Sr2, Se2, Sz2⟩ := str_sum2 t l2 (by omega)
            go_wp2
            have HT9 : Hid (PS S g w ((wr.setCell ⟨q, pre.length * 4 + 3, none⟩ (.string S2)).drew) (.slice (some ⟨gl, ol, none⟩) N lc) ls (.slice (some ⟨q, 0, none⟩) (pre.length + 1) pm0) (.slice pa1 M1 pm1) (.slice pa2 M2 pm2) (.slice pa3 M3 pm3) { c' with licenses := pre ++ [{ x with text := S2 }] }) := (HT1.out.text (t := S2) (by unfold maxLen; omega)).below (by first | ((repeat (first | exact Below.refl _ _ | assumption | refine Below.drewN ?_ _ | refine Below.drew ?_ | refine Below.alloc ?_ (by first | exact Nat.le_refl _ | (simp; done) | (simp; omega) | omega) _ | refine Below.setCell ?_ (by first | exact Nat.le_refl _ | (simp; done) | (simp; omega) | omega) _ | refine Below.trans ?_ (Below.mono (by assumption) (by first | exact Nat.le_refl _ | (simp; done) | (simp; omega) | omega)))); done) | fail)
            go_big_region_o
            generalize (wr.setCell ⟨q, pre.length * 4 + 3, none⟩ (.string S2)).drew = w9 at HT9 ⊢
            have HJ : Hid (S2.data.toList = joinB [10] ((ls.drop (nx + 1)).take (j + 1))) := by
             show _ = _
             rw [text_next Hl2.out, Se2.out]
             rw [if_pos HJ0.out, Ht.out, HJ0.out]
             rfl
            clear Sr2 Se2 e3 ef b0 c0
            go_wp2
            go_roundw
            case rel => exact ⟨j + 1, by omega, by go_num, by rw [txtC_at HX.out HXT.out HJ.out]; exact HT9.out⟩
            case measure => simp [intOf]; omega
           ·have hjz : (1 : Int) < (j : Int) + 1 := by omega
            obtain ⟨S1, Sr1, Se1, Sz1⟩ := str_sum2 t (⟨#[10]⟩ : ByteArray) (by show t.size + 1 ≤ _; omega)
            have Sz1 : S1.size ≤ t.size + 1 := Sz1
            obtain ⟨S2, Sr2, Se2, Sz2⟩ := str_sum2 S1 l2 (by omega)
            have HT5 : Hid (PS S g w ((wr.setCell ⟨q, pre.length * 4 + 3, none⟩ (.string S1)).drew) (.slice (some ⟨gl, ol, none⟩) N lc) ls (.slice (some ⟨q, 0, none⟩) (pre.length + 1) pm0) (.slice pa1 M1 pm1) (.slice pa2 M2 pm2) (.slice pa3 M3 pm3) { c' with licenses := pre ++ [{ x with text := S1 }] }) := (HT1.out.text (t := S1) (by unfold maxLen; omega)).below (by first | ((repeat (first | exact Below.refl _ _ | assumption | refine Below.drewN ?_ _ | refine Below.drew ?_ | refine Below.alloc ?_ (by first | exact Nat.le_refl _ | (simp; done) | (simp; omega) | omega) _ | refine Below.setCell ?_ (by first | exact Nat.le_refl _ | (simp; done) | (simp; omega) | omega) _ | refine Below.trans ?_ (Below.mono (by assumption) (by first | exact Nat.le_refl _ | (simp; done) | (simp; omega) | omega)))); done) | fail)
            go_wp2
            go_big_region_o
            generalize (wr.setCell ⟨q, pre.length * 4 + 3, none⟩ (.string S1)).drew = w5 at HT5 ⊢
            obtain ⟨q', y', he, -, -, hql5, hyl, fy, sy, -⟩ := HT5.out.rc.lic.elem (at_last pre _)
            cases he
            obtain ⟨hd2, rfl⟩ := ofLic _ y' _ hyl (sy _ (Agree.refl _ _ _))
            have e3' : w5.cell? ⟨q, pre.length * 4 + 3, none⟩ = some (.string S1) := (fy 3 _ rfl).1
            have ef' : w5.frozen? ⟨q, pre.length * 4 + 3, none⟩ = false := (fy 3 _ rfl).2
            have b0' := objcell HT5.out.box (j := 0) rfl
            have hgw5 : g < w5.heap.size := obj_lt HT5.out.box
            have HIL := HT5.out.lin.strs (fun x hx => by have := HSZ.out x hx; unfold maxLen; omega)
            obtain ⟨la', lc', he, -, -, hrow⟩ := list_inv HIL
            rw [HN.out] at he
            cases he
            obtain ⟨gl', ol', he, hgl5, c0', -⟩ := str_at hrow (i := nx + 1 + j) (x := l2) (by have h := Hl2.out; rw [List.getElem?_drop] at h; exact h)
            cases he
            clear fy sy hyl HIL hrow e3 ef b0 c0 Sr1 hql hgl hgw2
            clear HT1
            clear wr
            go_wp2
            have HT9 : Hid (PS S g w ((w5.setCell ⟨q, pre.length * 4 + 3, none⟩ (.string S2)).drew) (.slice (some ⟨gl, ol, none⟩) N lc) ls (.slice (some ⟨q, 0, none⟩) (pre.length + 1) pm0) (.slice pa1 M1 pm1) (.slice pa2 M2 pm2) (.slice pa3 M3 pm3) { c' with licenses := pre ++ [{ x with text := S2 }] }) := (HT5.out.text (t := S2) (by unfold maxLen; omega)).below (by first | ((repeat (first | exact Below.refl _ _ | assumption | refine Below.drewN ?_ _ | refine Below.drew ?_ | refine Below.alloc ?_ (by first | exact Nat.le_refl _ | (simp; done) | (simp; omega) | omega) _ | refine Below.setCell ?_ (by first | exact Nat.le_refl _ | (simp; done) | (simp; omega) | omega) _ | refine Below.trans ?_ (Below.mono (by assumption) (by first | exact Nat.le_refl _ | (simp; done) | (simp; omega) | omega)))); done) | fail)
            go_big_region_o
            generalize (w5.setCell ⟨q, pre.length * 4 + 3, none⟩ (.string S2)).drew = w9 at HT9 ⊢
            have HJ : Hid (S2.data.toList = joinB [10] ((ls.drop (nx + 1)).take (j + 1))) := by
             show _ = _
             rw [text_next Hl2.out, Se2.out]
             rw [if_neg (by omega), Se1.out, Ht.out]
            clear Sr2 Se2 e3' ef' b0' c0'
            go_wp2
            go_roundw
            case rel => exact ⟨j + 1, by omega, by go_num, by rw [txtC_at HX.out HXT.out HJ.out]; exact HT9.out⟩
            case measure => simp [intOf]; omega
          ·have hjn2 : j = n := by omega
           subst hjn2
           have hk1 : ¬ (j : Int) + 1 ≤ (j : Int) := by omega
           have HRN : Hid (readLines 0 0 emptyC ls = readLines ((nx + 1 + j : Nat) : Int) 0 (txtC c' (ls.drop (nx + 1)) j) (ls.drop (nx + 1 + j))) := HRL.out.trans (step_ok HL.out HWS.out H35.out HRR.out (by rw [HN.out]; omega))
           have HUN : Hid (Upto (nx + 1 + j) (txtC c' (ls.drop (nx + 1)) j)) := by
            have h := txtC_upto (ls := ls.drop (nx + 1)) (k := j) HU1.out
            exact ⟨by have := h.1; omega, by have := h.2.1; omega, by have := h.2.2.1; omega, by have := h.2.2.2; omega⟩
           go_wp2
           go_roundw
           case rel => exact ⟨nx + 1 + j, _, _, _, _, _, by omega, by go_num, HRN, HUN, HT⟩
           case measure => simp [intOf]; omega
    ·have hnN : nx = N := by omega
     subst hnN
     have hnlz : ¬ (nx : Int) < (nx : Int) := by omega
     have HPC : Hid (parseC s = if checkC (sortC cc) != 0 then (-1, checkC (sortC cc), emptyC) else (0, 0, sortC cc)) := HPO.out 0 0 cc (HRL.out.trans (by rw [List.drop_eq_nil_of_le (by rw [HN.out]; exact Nat.le_refl _)]; rfl))
     have hS2 : S < wr.heap.size := obj_lt HP.out.res
     have hg2 : g < wr.heap.size := obj_lt HP.out.box
     have z0 := objcell HP.out.box (j := 0) rfl
     have z1 := objcell HP.out.box (j := 1) rfl
     have z2 := objcell HP.out.box (j := 2) rfl
     have z3 := objcell HP.out.box (j := 3) rfl
     go_wp2_with fail
     refine (Sorted_ref S _ u0 u1 u2 u3 cc HP.out.rc (by omega) (by have := HUP.out.1; omega) (by have := HUP.out.2.1; omega) (by have := HUP.out.2.2.1; omega) (by have := HUP.out.2.2.2; omega)).mono ?_
     rintro e w2 ⟨a0, a1, a2, a3, rfl, hb2, hrc⟩
     obtain ⟨pa0, pm0, rfl⟩ := hrc.lic.shape
     obtain ⟨pa1, pm1, rfl⟩ := hrc.exc.shape
     obtain ⟨pa2, pm2, rfl⟩ := hrc.cla.shape
     obtain ⟨pa3, pm3, rfl⟩ := hrc.prs.shape
     have HP3 := Lib.hid (HP.out.read (hb2.mono (Nat.le_of_lt hS2)) (KeepBox.below hb2) hrc)
     have xb := obj_below HP.out.box hb2
     clear z0 z1 z2 z3 HP
     have x0 := objcell xb (j := 0) rfl
     have x1 := objcell xb (j := 1) rfl
     have x2 := objcell xb (j := 2) rfl
     have x3 := objcell xb (j := 3) rfl
     have y0 := objfrozen xb (j := 0)
     have y1 := objfrozen xb (j := 1)
     have y2 := objfrozen xb (j := 2)
     have y3 := objfrozen xb (j := 3)
     have hg3 : g < w2.heap.size := obj_lt xb
     have HRC := Lib.hid hrc
     clear xb hb2 hrc hS2 hg2
     generalize hM0 : (sortC cc).licenses.length = M0 at *
     generalize hM1 : (sortC cc).exceptions.length = M1 at *
     generalize hM2 : (sortC cc).clauses.length = M2 at *
     generalize hM3 : (sortC cc).apart.length = M3 at *
     clear HRC hM0 hM1 hM2 hM3
     go_upto_region 27 with (fail)
     generalize (((w2.setCell ⟨g, 0, none⟩ (.slice pa0 M0 pm0)).setCell ⟨g, 1, none⟩ (.slice pa1 M1 pm1)).setCell ⟨g, 2, none⟩ (.slice pa2 M2 pm2)).setCell ⟨g, 3, none⟩ (.slice pa3 M3 pm3) = w4 at HP3 ⊢
     clear x0 x1 x2 x3 y0 y1 y2 y3 hg3
     clear w2
     have z0 := objcell HP3.out.box (j := 0) rfl
     have z1 := objcell HP3.out.box (j := 1) rfl
     have z2 := objcell HP3.out.box (j := 2) rfl
     have z3 := objcell HP3.out.box (j := 3) rfl
     have hg4 : g < w4.heap.size := obj_lt HP3.out.box
     go_wp2_with fail
     refine (Check_ref _ _ (sortC cc) HP3.out.rc.isC).mono ?_
     rintro e w5 ⟨rfl, hb5⟩
     have HP5 := Lib.hid (HP3.out.below hb5)
     clear hb5 z0 z1 z2 z3 hg4 HP3
     clear w4
     have hbl := HP5.out.bel
     have hlt2 := HP5.out.lt
     have z0 := objcell HP5.out.box (j := 0) rfl
     have z1 := objcell HP5.out.box (j := 1) rfl
     have z2 := objcell HP5.out.box (j := 2) rfl
     have z3 := objcell HP5.out.box (j := 3) rfl
     have d0 := objcell HP5.out.res (j := 0) rfl
     have d1 := objcell HP5.out.res (j := 1) rfl
     have d2 := objcell HP5.out.res (j := 2) rfl
     have d3 := objcell HP5.out.res (j := 3) rfl
     have d4 := objcell HP5.out.res (j := 4) rfl
     have d5 := objcell HP5.out.res (j := 5) rfl
     have f0 := objfrozen HP5.out.res (j := 0)
     have f1 := objfrozen HP5.out.res (j := 1)
     have f2 := objfrozen HP5.out.res (j := 2)
     have f3 := objfrozen HP5.out.res (j := 3)
     have f4 := objfrozen HP5.out.res (j := 4)
     have f5 := objfrozen HP5.out.res (j := 5)
     have hS5 : S < w5.heap.size := obj_lt HP5.out.res
     have hg5 : g < w5.heap.size := obj_lt HP5.out.box
     cases q9 : (checkC (sortC cc) != 0)
     case true =>
      go_wp2
      refine bodyPost_ret (v := .agg #[.slice none 0 0, .slice none 0 0, .slice none 0 0, .slice none 0 0, .int .i64 (-1), .int .i64 (checkC (sortC cc))]) (by simp [results, Tryz.results13, go_sem, d0, d1, d2, d3, d4, d5]) rfl ?_
      exact PRes.bad rfl (HPC.out.trans (if_pos q9)) (by rw [hS]; exact below_6 (Nat.le_refl _) hbl)
     case false =>
      have HRS := Lib.hid (HP5.out.rc.res6 (x0 := .slice pa0 M0 pm0) (x1 := .slice pa1 M1 pm1) (x2 := .slice pa2 M2 pm2) (x3 := .slice pa3 M3 pm3) (x4 := .int .i64 0) (x5 := .int .i64 0) (Nat.le_refl _) HP5.out.res)
      go_wp2
      refine bodyPost_ret (v := .agg #[.slice pa0 M0 pm0, .slice pa1 M1 pm1, .slice pa2 M2 pm2, .slice pa3 M3 pm3, .int .i64 0, .int .i64 0]) (by simp [results, Tryz.results13, go_sem, d0, d1, d2, d3, d4, d5]) rfl ?_
      exact PRes.good rfl HRS.out.isC (HPC.out.trans (if_neg (by rw [q9]; decide))) (by rw [hS]; exact below_6 (Nat.le_refl _) hbl)
end Go.Proofs.YtaneolfnnkppbaaGreatDoor
namespace Go.Proofs.YtaneolfnnkppbaaGreatDoor
open Go Go.RowKit Go.ChangeShapes
theorem Parse_progAny (w : World) (s : ByteArray) (hg : Glob w) : Calls Tryz.prog 12 #[.string s] w fun e w' => POut s w e w' := by
 by_cases hs : 65536 < s.size
 ·exact Parse_big w s hs
 ·exact Parse_p w s hg hs
theorem Parse_refAny (w : World) (s : ByteArray) : Calls Tryz.prog 13 #[.string s] w fun e w' => PRes s w e w' := by
 by_cases hs : 65536 < s.size
 ·exact Parse_ref_big w s hs
 ·exact Parse_ref w s hs
set_option maxRecDepth 100000 in
set_option maxHeartbeats 8000000 in
theorem CatalogParses_p (w : World) (s : ByteArray) (hg : Glob w) (hs : s.size ≤ maxLen) :
  Calls Tryz.prog 3 #[.string s] w fun e w' => e = .returned (.bool true) ∧ Below w.heap.size w w' := by
 have HG := Lib.hid hg
 unfold maxLen at hs
 clear hg
 go_enter Tryz.func3, Tryz.ntmps3
 go_wp2_with fail
 refine (awake_p w HG.out).mono ?_
 rintro e w2 ⟨rfl, hb⟩
 have HG2 := Lib.hid (HG.out.mono hb)
 have HB2 := Lib.hid hb
 clear hb HG
 go_upto_region 3 with (fail)
 go_cut [21] (fun v21 w9 => (v21 = .bool true ∨ v21 = .bool false) ∧ w9 = w2)
 case first =>
  cases q1 : decide ((4000 : Int) < (s.size : Int))
  case false =>
   cases q3 : decide ((65576 : Int) < (s.size : Int))
   case false => go_wp2; go_meet; case rel => exact ⟨.inr rfl, rfl⟩
   case true => go_wp2; go_meet; case rel => exact ⟨.inl rfl, rfl⟩
  case true =>
   cases q2 : decide ((s.size : Int) ≤ 65536)
   case false =>
    cases q3 : decide ((65576 : Int) < (s.size : Int))
    case false => go_wp2; go_meet; case rel => exact ⟨.inr rfl, rfl⟩
    case true => go_wp2; go_meet; case rel => exact ⟨.inl rfl, rfl⟩
   case true => go_wp2; go_meet; case rel => exact ⟨.inl rfl, rfl⟩
 case rest =>
  obtain ⟨rfl | rfl, rfl⟩ := hcut
  ·go_wp2
   go_ret
   exact ⟨rfl, HB2.out⟩
  ·rename World => w2
   go_wp2_with fail
   refine (Parse_progAny _ s HG2.out).mono ?_
   unfold POut
   rintro e u1 ⟨v, rfl, hi, hb⟩
   obtain ⟨pa0, pc0, pa1, pc1, pa2, pc2, pa3, pc3, rfl, -⟩ := Catalog.inv hi
   have HPR := Lib.hid (fun w => Parse_refAny w s)
   unfold PRes at HPR
   generalize (parseC s).2.2 = C at *
   generalize (parseC s).2.1 = er at *
   generalize (parseC s).1 = ln at *
   have PI := Lib.hid hi
   have BU1 := Lib.hid (HB2.out.trans (hb.mono HB2.out.size))
   clear hi hb HG2 HB2
   clear w2
   generalize C.licenses.length = M0 at *
   generalize C.exceptions.length = M1 at *
   generalize C.clauses.length = M2 at *
   generalize C.apart.length = M3 at *
   go_wp2_with fail
   have hba : Below u1.heap.size u1 (u1.alloc (.cells #[.slice pa0 M0 pc0, .slice pa1 M1 pc1, .slice pa2 M2 pc2, .slice pa3 M3 pc3] 28)) := (by first | ((repeat (first | exact Below.refl _ _ | assumption | refine Below.drewN ?_ _ | refine Below.drew ?_ | refine Below.alloc ?_ (by first | exact Nat.le_refl _ | (simp; done) | (simp; omega) | omega) _ | refine Below.setCell ?_ (by first | exact Nat.le_refl _ | (simp; done) | (simp; omega) | omega) _ | refine Below.trans ?_ (Below.mono (by assumption) (by first | exact Nat.le_refl _ | (simp; done) | (simp; omega) | omega)))); done) | fail)
   have PI2 := Lib.hid (PI.out.mono hba)
   have BU2 : Hid (Below w.heap.size w (u1.alloc (.cells #[.slice pa0 M0 pc0, .slice pa1 M1 pc1, .slice pa2 M2 pc2, .slice pa3 M3 pc3] 28))) := BU1.out.trans (hba.mono BU1.out.size)
   have ob := obj_new u1 (.cells #[.slice pa0 M0 pc0, .slice pa1 M1 pc1, .slice pa2 M2 pc2, .slice pa3 M3 pc3] 28)
   generalize u1.alloc (.cells #[.slice pa0 M0 pc0, .slice pa1 M1 pc1, .slice pa2 M2 pc2, .slice pa3 M3 pc3] 28) = u2 at *
   clear hba PI BU1
   generalize u1.heap.size = g1 at *
   clear u1
   refine (HPR.out u2).mono ?_
   rintro e u3 ⟨v0, v1, v2, v3, rfl, hi3, hb3⟩
   obtain ⟨qa0, qc0, qa1, qc1, qa2, qc2, qa3, qc3, he, -⟩ := Catalog.inv hi3
   simp only [Value.agg.injEq] at he
   cases he
   have ob3 := obj_below ob hb3
   have PI3 := Lib.hid (PI2.out.mono hb3)
   have QI3 := Lib.hid hi3
   have BU3 := Lib.hid (BU2.out.trans (hb3.mono BU2.out.size))
   clear hi3 hb3 ob PI2 BU2 HPR
   clear u2
   generalize C.licenses.length = K0 at *
   generalize C.exceptions.length = K1 at *
   generalize C.clauses.length = K2 at *
   generalize C.apart.length = K3 at *
   have x0 := objcell ob3 (j := 0) rfl
   have x1 := objcell ob3 (j := 1) rfl
   have x2 := objcell ob3 (j := 2) rfl
   have x3 := objcell ob3 (j := 3) rfl
   have hg1 : g1 < u3.heap.size := obj_lt ob3
   clear ob3
   go_wp2_with fail
   refine (Same_ref _ _ _ C C (PI3.out.mono (by first | ((repeat (first | exact Below.refl _ _ | assumption | refine Below.drewN ?_ _ | refine Below.drew ?_ | refine Below.alloc ?_ (by first | exact Nat.le_refl _ | (simp; done) | (simp; omega) | omega) _ | refine Below.setCell ?_ (by first | exact Nat.le_refl _ | (simp; done) | (simp; omega) | omega) _ | refine Below.trans ?_ (Below.mono (by assumption) (by first | exact Nat.le_refl _ | (simp; done) | (simp; omega) | omega)))); done) | fail)) (QI3.out.mono (by first | ((repeat (first | exact Below.refl _ _ | assumption | refine Below.drewN ?_ _ | refine Below.drew ?_ | refine Below.alloc ?_ (by first | exact Nat.le_refl _ | (simp; done) | (simp; omega) | omega) _ | refine Below.setCell ?_ (by first | exact Nat.le_refl _ | (simp; done) | (simp; omega) | omega) _ | refine Below.trans ?_ (Below.mono (by assumption) (by first | exact Nat.le_refl _ | (simp; done) | (simp; omega) | omega)))); done) | fail))).mono ?_
   rintro e u4 ⟨rfl, hb4⟩
   rw [decide_eq_true rfl]
   have y4 := kept hb4 (a := ⟨u3.heap.size, 4, none⟩) (v := .int .i64 ln) (by simp)
   have y5 := kept hb4 (a := ⟨u3.heap.size, 5, none⟩) (v := .int .i64 er) (by simp)
   have BU4 : Hid (Below w.heap.size w u4) := (BU3.out.alloc BU3.out.size _).trans (hb4.mono (by have := BU3.out.size; simp; omega))
   clear hb4 x0 x1 x2 x3 hg1
   go_wp2
   go_ret
   exact ⟨ret_b (by simp), BU4.out⟩
end Go.Proofs.YtaneolfnnkppbaaGreatDoor
