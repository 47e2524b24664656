/- The law: the meaning of a node follows from those of its kids (printed by gen/law33.py). -/
import Derived.Test.YtaaobpicaaeiiaaGreatDoorJMeanU
import Derived.Test.YtaaobpicaaeiiaaGreatDoorJR33U
import Derived.Test.YtaaobpicaaeiiaaGreatDoorJAwG
import Derived.Test.YtaaobpicaaeiiaaGreatDoorJSmal
import Derived.Test.YtaaobpicaaeiiaaGreatDoorJMeaY
import Derived.Test.YtaaobpicaaeiiaaGreatDoorJBothP
set_option linter.all false
namespace Go.Proofs.YtaaobpicaaeiiaaGreatDoor
open Go Go.RowKit Go.ChangeShapes Go.Sort Go.Lib

set_option maxRecDepth 100000 in
set_option maxHeartbeats 8000000 in
theorem AlternativeParts_p (w : World) (vc v : Value) (c : Catalog) (y : LExpr) (hg : Glob w) (hc : Is w vc c) (h : Is w v y) (oy : okE y) : Calls Tryz.prog 7 #[vc, v] w fun e w' => e = .returned (.bool true) ∧ Below w.heap.size w w' := by
 obtain ⟨k0, n0, x0, ks⟩ := y
 obtain ⟨a, k, rfl, -, -, -, hnk, hmk, hrk⟩ := LExpr.inv h
 simp only [maxLen] at hmk
 have HRK := Lib.hid hrk
 have HPM := Lib.hid (fun h hk => parts_mean (c := c) (k := k0) (n := n0) (x := x0) (ks := ks) h hk)
 have HER := Lib.hid (ofP_err (c := c) (e := .mk k0 n0 x0 ks))
 clear hrk
 generalize hK : ks.length = K at *
 have HK := Lib.hid hK
 clear hK
 obtain ⟨a0, N0, c0, a1, N1, c1, a2, N2, c2, a3, N3, c3, rfl⟩ := catBox hc
 obtain ⟨hb0, hd, he⟩ := box2 w #[.slice a0 N0 c0, .slice a1 N1 c1, .slice a2 N2 c2, .slice a3 N3 c3] #[.int .i64 k0, .string n0, .string x0, .slice a K k] 27 30
 have HG := Lib.hid (hg.mono hb0)
 have HC := Lib.hid (hc.mono hb0)
 have HI := Lib.hid (h.mono hb0)
 have HW := Lib.hid hb0
 have OY := Lib.hid oy
 have d0 := hd 0 _ rfl
 have d1 := hd 1 _ rfl
 have d2 := hd 2 _ rfl
 have d3 := hd 3 _ rfl
 have e0 := he 0 _ rfl
 have e1 := he 1 _ rfl
 have e2 := he 2 _ rfl
 have e3 := he 3 _ rfl
 clear hd he hb0 hc h oy hg
 go_enter Tryz.func7, Tryz.ntmps7
 go_wp2_with fail
 generalize ((w.alloc (.cells #[.slice a0 N0 c0, .slice a1 N1 c1, .slice a2 N2 c2, .slice a3 N3 c3] 27)).alloc (.cells #[.int .i64 k0, .string n0, .string x0, .slice a K k] 30)) = w0 at *
 have D0 := Lib.hid d0
 have D1 := Lib.hid d1
 have D2 := Lib.hid d2
 have D3 := Lib.hid d3
 have E0 := Lib.hid e0
 have E1 := Lib.hid e1
 have E2 := Lib.hid e2
 have E3 := Lib.hid e3
 clear d0 d1 d2 d3 e0 e1 e2 e3
 refine (awakeG_p _ HG.out).mono ?_
 rintro e w1 ⟨rfl, hb1⟩
 have HB1 := Lib.hid hb1
 clear hb1
 have d0 := kept HB1.out D0.out
 have d1 := kept HB1.out D1.out
 have d2 := kept HB1.out D2.out
 have d3 := kept HB1.out D3.out
 have e0 := kept HB1.out E0.out
 have e1 := kept HB1.out E1.out
 have e2 := kept HB1.out E2.out
 have e3 := kept HB1.out E3.out
 have s0 := cell_lt e0
 have s1 := cell_lt d0
 go_wp2_with fail
 refine (small_p w1 _ _ c (.mk k0 n0 x0 ks) (HC.out.mono HB1.out) (HI.out.mono HB1.out) OY.out).mono ?_
 unfold SmO
 rintro e w2 ⟨fs, rfl, few, hb2⟩
 have HB2 : Hid (Below w0.heap.size w0 w2) := HB1.out.trans (hb2.mono HB1.out.size)
 clear hb2 d0 d1 d2 d3 e0 e1 e2 e3 s0 s1
 cases fs
 case false =>
  clear few
  go_wp2
  go_ret
  exact ⟨rfl, HW.out.trans (HB2.out.mono HW.out.size)⟩
 have HFE := Lib.hid (few rfl)
 clear few
 have d0 := kept HB2.out D0.out
 have d1 := kept HB2.out D1.out
 have d2 := kept HB2.out D2.out
 have d3 := kept HB2.out D3.out
 have e0 := kept HB2.out E0.out
 have e1 := kept HB2.out E1.out
 have e2 := kept HB2.out E2.out
 have e3 := kept HB2.out E3.out
 have s0 := cell_lt e0
 have s1 := cell_lt d0
 cases q0 : ((K : Int) == 0)
 case true =>
  go_wp2
  go_ret
  exact ⟨rfl, HW.out.trans (HB2.out.mono HW.out.size)⟩
 have hks : ks ≠ [] := by rintro rfl; have := HK.out; simp at this q0; omega
 have hKs : K ≤ 120 := by
  have h5 : ∀ l : List LExpr, l.length ≤ sizeKs l := by
   intro l
   induction l with
   | nil => simp
   | cons a r ih => have := size_pos a; simp only [List.length_cons, sizeKs]; omega
  have := h5 ks
  have h6 := HFE.out
  rw [sizeE] at h6
  rw [HK.out] at this; omega
 have hp := Of_p c (.mk k0 n0 x0 ks) (.inl pairsC) (by have := HFE.out; omega) w2 _ _ (HG.out.mono HB2.out) (HC.out.mono HB2.out) (HI.out.mono HB2.out)
 generalize ofP c (.mk k0 n0 x0 ks) = pp at *
 obtain ⟨l, f⟩ := pp
 unfold MeO at hp
 go_wp2_with fail
 refine hp.mono ?_
 rintro e w3 ⟨v3, rfl, ho3, hb3⟩
 have HB3 : Hid (Below w0.heap.size w0 w3) := HB2.out.trans (hb3.mono HB2.out.size)
 have I3 : Hid (Is w3 v3 l) := Lib.hid ho3.is
 clear hp hb3 ho3 d0 d1 d2 d3 e0 e1 e2 e3 s0 s1
 by_cases q : f = 0
 case neg =>
  obtain rfl : l = [] := HER.out q
  obtain ⟨a3', c3', rfl, -⟩ := list_inv I3.out
  have q1 : (f != 0) = true := by simpa using q
  clear q HPM HER
  go_wp2
  go_ret
  exact ⟨ret_b (by simp), HW.out.trans (HB3.out.mono HW.out.size)⟩
 obtain ⟨a3', c3', rfl, -⟩ := list_inv I3.out
 subst q
 obtain ⟨fin, hpf, hmin⟩ := HPM.out rfl hks
 have HMIN : Hid (minimalP fin = l) := hmin
 have HPF : Hid (partsF c k0 true [] ks = some fin) := hpf
 clear hpf hmin HPM HER
 generalize hL : l.length = L at *
 have HL := Lib.hid hL
 clear hL
 have d0 := kept HB3.out D0.out
 have d1 := kept HB3.out D1.out
 have d2 := kept HB3.out D2.out
 have d3 := kept HB3.out D3.out
 have e0 := kept HB3.out E0.out
 have e1 := kept HB3.out E1.out
 have e2 := kept HB3.out E2.out
 have e3 := kept HB3.out E3.out
 have s0 := cell_lt e0
 have s1 := cell_lt d0
 have hs3 : w0.heap.size ≤ w3.heap.size := HB3.out.size
 go_wp2_with fail
 go_loopw [7, 38] (fun rv iv wr => ∃ (i : Nat) (out : List (List Term)), i ≤ K ∧ iv = .int .i64 i ∧ Hid (Below w3.heap.size w3 wr) ∧ Hid (OwnZ w3.heap.size 44 wr rv out) ∧ Hid (partsF c k0 (i == 0) out (ks.drop i) = some fin) ∧ Hid (out.length ≤ 64 * i) ∧ Hid (∀ a ∈ out, a.length ≤ 64)) (fun _ iv _ => K - (intOf iv).toNat)
 case atStart => exact ⟨0, [], by omega, rfl, Lib.hid (Below.refl _ _), Lib.hid (OwnZ.nil _ _ _), HPF, Nat.zero_le _, by intro a ha; simp at ha⟩
 case round =>
  obtain ⟨i, out, hi, rfl, HB, HO, HP, HLN, HLA⟩ := hrel
  have HBw : Hid (Below w0.heap.size w0 wr) := HB3.out.trans (HB.out.mono hs3)
  have hsr : w3.heap.size ≤ wr.heap.size := HB.out.size
  clear d0 d1 d2 d3 e0 e1 e2 e3 s0 s1
  have d0 := kept HBw.out D0.out
  have d1 := kept HBw.out D1.out
  have d2 := kept HBw.out D2.out
  have d3 := kept HBw.out D3.out
  have e0 := kept HBw.out E0.out
  have e1 := kept HBw.out E1.out
  have e2 := kept HBw.out E2.out
  have e3 := kept HBw.out E3.out
  have s0 := cell_lt e0
  have s1 := cell_lt d0
  by_cases hki : i < K
  case neg =>
   have hkz : ¬ (i : Int) < (K : Int) := by omega
   have hfin : out = fin := by
    have h1 := HP.out
    rw [List.drop_eq_nil_of_le (by rw [HK.out]; omega), partsF] at h1
    exact Option.some.inj h1
   subst hfin
   have hcall := Minimal_p wr _ out HO.out.is (fun x hx => by have := HLA.out x hx; omega) (by have := HLN.out; omega)
   rw [HMIN.out] at hcall
   have I4 := Lib.hid (I3.out.mono HB.out)
   obtain ⟨ao, co, rfl, -⟩ := list_inv HO.out.is
   clear HO d0 d1 d2 d3 e0 e1 e2 e3 s0 s1
   generalize out.length = N6 at *
   go_wp2_with fail
   refine hcall.mono ?_
   unfold MO
   rintro e w5 ⟨v5, rfl, ho5, hb5⟩
   have HB5 : Hid (Below w0.heap.size w0 w5) := HBw.out.trans (hb5.mono HBw.out.size)
   have hsame := SameA_ref w5 _ _ l l ho5.is (I4.out.mono hb5)
   rw [decide_eq_true rfl] at hsame
   obtain ⟨a6, c6, rfl, -⟩ := list_inv ho5.is
   clear hcall hb5 ho5
   rw [HL.out] at hsame ⊢
   go_wp2_with fail
   refine hsame.mono ?_
   rintro e w7 ⟨rfl, hb7⟩
   have HB7 : Hid (Below w0.heap.size w0 w7) := HB5.out.trans (hb7.mono HB5.out.size)
   clear hsame hb7
   go_wp2
   go_ret
   exact ⟨rfl, HW.out.trans (HB7.out.mono HW.out.size)⟩
  have hkz : (i : Int) < (K : Int) := by omega
  obtain ⟨y, hy⟩ := get_lt (xs := ks) (k := i) (by rw [HK.out]; exact hki)
  have hmem := List.mem_of_getElem? hy
  have hsz : sizeE y ≤ 1000000 := by
   have h1 := size_mem hmem
   have h2 := HFE.out
   rw [sizeE] at h2; omega
  have hpo := HP.out
  rw [drop_at hy] at hpo
  obtain ⟨p1, p2, p3, p4⟩ := partsF_ok hpo
  obtain ⟨m1, m2⟩ := ofE_len p1
  have HM1 := Lib.hid m1
  have HM2 := Lib.hid m2
  have HP2 := Lib.hid p2
  have HP3 := Lib.hid p3
  have HP4 : Hid (k0 ≠ 3 → (i == 0) = false → (bothP out (ofP c y).1).2 = 0 ∧ partsF c k0 false (bothP out (ofP c y).1).1 (ks.drop (i + 1)) = some fin ∧ (bothP out (ofP c y).1).1.length ≤ 64 ∧ ∀ x ∈ (bothP out (ofP c y).1).1, x.length ≤ 64) := fun h3 hf => ⟨(p4 h3 hf).1, (p4 h3 hf).2, both_len (p4 h3 hf).1⟩
  obtain ⟨k1, n1, x1, ks1⟩ := y
  obtain ⟨b, off, rfl, hb, a5, c5, y0', y1', y2', y3', i0, z1, z2, l3, m3, r3⟩ := LExpr.at_row HRK.out hy
  have hbw : Below w.heap.size w wr := HW.out.trans (HBw.out.mono HW.out.size)
  have y0 := kept hbw y0'
  have y1 := kept hbw y1'
  have y2 := kept hbw y2'
  have y3 := kept hbw y3'
  have hsy := cell_lt y0
  have hba : Below wr.heap.size wr (wr.alloc (.cells #[.int .i64 k1, .string n1, .string x1, .slice a5 ks1.length c5] 30)) := (by repeat (first | exact zR _ _ | assumption | refine zN ?_ _ | refine zD ?_ | refine zA ?_ ?_ _ | refine zS ?_ ?_ _ | refine zT ?_ (zM (by assumption) ?_) | exact Nat.le_refl _ | (simp <;> omega) | omega))
  have HB5 : Hid (Below w0.heap.size w0 (wr.alloc (.cells #[.int .i64 k1, .string n1, .string x1, .slice a5 ks1.length c5] 30))) := HBw.out.trans (hba.mono HBw.out.size)
  have hcall := Of_p c (.mk k1 n1 x1 ks1) (.inl pairsC) hsz (wr.alloc (.cells #[.int .i64 k1, .string n1, .string x1, .slice a5 ks1.length c5] 30)) _ _ (HG.out.mono HB5.out) (HC.out.mono HB5.out) ((LExpr.mk' i0 z1 z2 l3 m3 (r3.mono hbw)).mono hba)
  have HBA := Lib.hid hba
  have HK0 := Lib.hid (kept HBw.out E0.out)
  clear hy y0' y1' y2' y3' i0 z1 z2 l3 m3 r3 hb hba hmem hpo p2 p3 p4 m1 m2 HP
  generalize hY : LExpr.mk k1 n1 x1 ks1 = Y at *
  clear hY
  generalize ks1.length = K1 at *
  generalize ofP c Y = pk at *
  obtain ⟨m, g⟩ := pk
  obtain rfl : g = 0 := p1
  unfold MeO at hcall
  go_wp2_with fail
  refine hcall.mono ?_
  rintro e w6 ⟨v6, rfl, ho6, hb6⟩
  have HB6 : Hid (Below wr.heap.size wr w6) := HBA.out.trans (hb6.mono (by simp))
  have HO6 : Hid (OwnZ w3.heap.size 44 w6 v6 m) := Lib.hid (ho6.weaken (by simp; omega))
  have HOB := Lib.hid (HO.out.below HB6.out)
  have HB36 : Hid (Below w3.heap.size w3 w6) := HB.out.trans (HB6.out.mono hsr)
  have hs6 := HB36.out.size
  clear hcall ho6 hb6 d0 d1 d2 d3 e0 e1 e2 e3 s0 s1 y0 y1 y2 y3 hsy
  have e0 := kept HB6.out HK0.out
  have s0 := cell_lt e0
  have HLM : Hid ((out ++ m).length ≤ 64 * (i + 1)) := by
   show _ ≤ _
   have h1 := HLN.out; have h2 : m.length ≤ 64 := HM1.out; rw [List.length_append]; omega
  have HAM : Hid (∀ a ∈ out ++ m, a.length ≤ 64) := by
   intro a ha
   rcases List.mem_append.1 ha with ha | ha
   ·exact HLA.out a ha
   ·exact HM2.out a ha
  have hln : (out.length + m.length) * 25 ≤ 140737488355328 := by have h1 := HLN.out; have h2 : m.length ≤ 64 := HM1.out; omega
  have hli : m.length ≤ 64 := HM1.out
  cases q3 : (k0 == 3)
  case true =>
   have hq3 : k0 = 3 := by simpa using q3
   have HPN := Lib.hid (HP2.out hq3)
   clear HP2 HP3 HP4 hq3
   obtain ⟨ao, co, rfl, -⟩ := list_inv HO.out.is
   obtain ⟨al, cl, rfl, -⟩ := list_inv HO6.out.is
   clear HO
   go_wp2_with (at_builtin; go_loud (refine wp_appZ rfl _ _ rfl w3.heap.size _ _ _ _ rfl rfl HOB.out HO6.out ?c1 ?c2 ?_))
   case c1 => exact hln
   case c2 => exact hs6
   intro v7 w7 ho7 hb7
   have HB7 : Hid (Below w3.heap.size w3 w7) := HB36.out.trans hb7
   have HO7 := Lib.hid ho7
   clear ho7 hb7 e0 s0
   go_wp2
   go_roundw
   case rel => exact ⟨i + 1, _, by omega, by go_num, HB7, HO7, Lib.hid (by have h := HPN.out; simpa using h), HLM, HAM⟩
   case measure => simp [intOf]; omega
  case false =>
   have hq3 : ¬ k0 = 3 := by simpa using q3
   by_cases hi0 : i = 0
   ·subst hi0
    have hPN := HP3.out hq3 rfl
    have HPN := Lib.hid hPN
    clear HP2 HP3 HP4 hPN
    obtain ⟨al, cl, rfl, -⟩ := list_inv HO6.out.is
    go_wp2
    go_roundw
    case rel => exact ⟨1, m, by omega, by go_num, HB36, HO6, Lib.hid (by have h := HPN.out; simpa using h), by show _ ≤ _; omega, HM2⟩
    case measure => simp [intOf]; omega
   ·have hP4 := HP4.out hq3 (by simpa using hi0)
    have hgt : (0 : Int) < (i : Int) := by omega
    have hcall := Both_p w6 _ _ out m HOB.out.is HO6.out.is
    have HP5 := Lib.hid hP4
    clear HP2 HP3 HP4 hP4
    generalize bothP out m = bp at *
    obtain ⟨bl, be⟩ := bp
    obtain rfl : be = 0 := HP5.out.1
    unfold BO at hcall
    obtain ⟨ao, co, rfl, -⟩ := list_inv HO.out.is
    obtain ⟨al, cl, rfl, -⟩ := list_inv HO6.out.is
    clear HO
    go_wp2_with fail
    refine hcall.mono ?_
    rintro e w7 ⟨v7, rfl, ho7, hb7⟩
    have HB7 : Hid (Below w3.heap.size w3 w7) := HB36.out.trans (hb7.mono hs6)
    have HO7 : Hid (OwnZ w3.heap.size 44 w7 v7 bl) := Lib.hid (ho7.weaken hs6)
    obtain ⟨a7, c7, rfl, -⟩ := list_inv HO7.out.is
    clear hcall ho7 hb7 e0 s0
    go_wp2
    go_roundw
    case rel => exact ⟨i + 1, bl, by omega, by go_num, HB7, HO7, Lib.hid (by have h := HP5.out.2.1; simpa using h), by have h : bl.length ≤ 64 := HP5.out.2.2.1; show _ ≤ _; omega, HP5.out.2.2.2⟩
    case measure => simp [intOf]; omega
end Go.Proofs.YtaaobpicaaeiiaaGreatDoor
