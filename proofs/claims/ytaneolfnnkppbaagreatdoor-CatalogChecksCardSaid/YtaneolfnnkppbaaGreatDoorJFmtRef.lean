/- The reference's Format. -/
import Derived.Deep.RegionHeld3
import Derived.Test.YtaneolfnnkppbaaGreatDoorJFmt
import Derived.Test.YtaneolfnnkppbaaGreatDoorJRefN
set_option linter.all false
namespace Go.Proofs.YtaneolfnnkppbaaGreatDoor
open Go Go.RowKit Go.ChangeShapes
theorem ba_list {a b : ByteArray} (h : a.data.toList = b.data.toList) : a = b := WideShapes.bytes_inj h
theorem pre_le {L a b : List UInt8} (h : L = a ++ b) {n : Nat} (hn : L.length ≤ n) : a.length ≤ n := by
  have := congrArg List.length h
  simp at this; omega
theorem size_of_list {a : ByteArray} {l : List UInt8} (h : a.data.toList = l) : a.size = l.length := by rw [← by_len, h]
theorem joinB_words (a : ByteArray) : ∀ (r : List ByteArray), joinB [32] (a :: r) = a.data.toList ++ (r.map fun s => 32 :: s.data.toList).flatten
  | [] => by simp [joinB]
  | b :: r => by
    rw [joinB_cons, joinB_words b r]
    simp
theorem fmtExc_eq (x : Exc) : fmtExc x = wException ++ 32 :: x.name.data.toList ++ 32 :: x.license.data.toList ++ ((x.lifts.map fun n => 32 :: (dutyB n).data.toList).flatten ++ [10]) := by
  unfold fmtExc putL
  rw [List.cons_append, joinB_words]
  simp [mkS_toList, Function.comp_def]
theorem fmtClause_eq (x : Clause) : fmtClause x = wClause ++ 32 :: x.license.data.toList ++ 32 :: (wayB x.way).data.toList ++ 32 :: (relB x.relation).data.toList ++ 32 :: (dutyB x.duty).data.toList ++ ((x.list.map fun s => 32 :: s.data.toList).flatten ++ [10]) := by
  unfold fmtClause putL
  rw [List.cons_append, joinB_words]
  simp [mkS_toList]
theorem str_step (A t : ByteArray) (h : A.size + t.size ≤ 4611686018427387904) : ∃ S : ByteArray, (∀ W : World, (Op.stringOp .add A t).run Tryz.prog W = .ok (.string S) W) ∧ Hid (S.data.toList = A.data.toList ++ t.data.toList) ∧ S.size ≤ A.size + t.size :=
  ⟨A ++ t, fun W => run_string_add_sum W A t (by omega), by show _ = _; simp, by simp⟩
set_option maxRecDepth 100000 in
set_option maxHeartbeats 40000000 in
theorem Format_ref (w : World) (x0 : Value) (c : Catalog) (h : Is w x0 c) (hlen : checkC c = 0 → (formatL Lib.itoa c).length ≤ 65536) :
    Calls Tryz.prog 17 #[x0] w fun e w' => e = .returned (.tuple #[.string (formatC c), .int .i64 (checkC c)]) ∧ Below w.heap.size w w' := by
  have HI := Lib.hid h
  obtain ⟨a0, c0, a1, c1, a2, c2, a3, c3, rfl, l0, m0, r0, l1, m1, r1, l2, m2, r2, l3, m3, r3⟩ := Catalog.inv h
  have R0 := Lib.hid r0
  have R1 := Lib.hid r1
  have R2 := Lib.hid r2
  have R3 := Lib.hid r3
  clear h r0 r1 r2 r3 m0 m1 m2 m3 l1 l2 l3 l0
  generalize hN0 : c.licenses.length = N0 at *
  generalize hN1 : c.exceptions.length = N1 at *
  generalize hN2 : c.clauses.length = N2 at *
  generalize hN3 : c.apart.length = N3 at *
  have HN := Lib.hid (And.intro hN0 (And.intro hN1 (And.intro hN2 hN3)))
  clear hN0 hN1 hN2 hN3
  have HLEN := Lib.hid hlen
  clear hlen
  go_enter Tryz.func17, Tryz.ntmps17
  go_wp2_with fail
  refine (Check_ref _ _ c (HI.out.mono (by first | ((repeat (first | exact Below.refl _ _ | assumption | refine Below.drewN ?_ _ | refine Below.drew ?_ | refine Below.alloc ?_ (by first | exact Nat.le_refl _ | (simp; done) | (simp; omega) | omega) _ | refine Below.setCell ?_ (by first | exact Nat.le_refl _ | (simp; done) | (simp; omega) | omega) _ | refine Below.trans ?_ (Below.mono (by assumption) (by first | exact Nat.le_refl _ | (simp; done) | (simp; omega) | omega)))); done) | fail))).mono ?_
  rintro e w1 ⟨rfl, hb1⟩
  have cc0 := kept hb1 (a := ⟨w.heap.size, 0, none⟩) (v := .slice a0 N0 c0) (by simp)
  have cc1 := kept hb1 (a := ⟨w.heap.size, 1, none⟩) (v := .slice a1 N1 c1) (by simp)
  have cc2 := kept hb1 (a := ⟨w.heap.size, 2, none⟩) (v := .slice a2 N2 c2) (by simp)
  have cc3 := kept hb1 (a := ⟨w.heap.size, 3, none⟩) (v := .slice a3 N3 c3) (by simp)
  have hbw : Below w.heap.size w w1 := (by first | ((repeat (first | exact Below.refl _ _ | assumption | refine Below.drewN ?_ _ | refine Below.drew ?_ | refine Below.alloc ?_ (by first | exact Nat.le_refl _ | (simp; done) | (simp; omega) | omega) _ | refine Below.setCell ?_ (by first | exact Nat.le_refl _ | (simp; done) | (simp; omega) | omega) _ | refine Below.trans ?_ (Below.mono (by assumption) (by first | exact Nat.le_refl _ | (simp; done) | (simp; omega) | omega)))); done) | fail)
  have HB1 := Lib.hid hbw
  have hz1 : w.heap.size < w1.heap.size := cell_lt cc0
  clear hb1 hbw
  cases q1 : (checkC c != 0)
  case true =>
    have HF : Hid (formatC c = ⟨#[]⟩) := by show _ = _; unfold formatC; rw [q1]; rfl
    go_wp2
    refine bodyPost_ret (v := .tuple #[.string ⟨#[]⟩, .int .i64 (checkC c)]) (by simp [results, Tryz.results17, go_sem]) rfl ⟨by rw [HF.out], HB1.out⟩
  have hck : checkC c = 0 := by simpa using q1
  have HCK := Lib.hid hck
  obtain ⟨FL, hFL⟩ : ∃ FL, FL = formatL Lib.itoa c := ⟨_, rfl⟩
  have HL6 : Hid (FL.length ≤ 65536) := by show _ ≤ _; rw [hFL]; exact HLEN.out hck
  have HF : Hid (formatC c = mkS FL) := by show _ = _; unfold formatC; rw [q1, hFL]; rfl
  have HOL := Lib.hid (lics_ok hck)
  have HOE := Lib.hid (excs_ok hck)
  have HOC := Lib.hid (clauses_ok hck)
  have HOS := Lib.hid (small_valid hck)
  obtain ⟨k1, k2, k3, k4, n0, n1, n2, n3⟩ := check_parts hck
  have b0 : N0 ≤ 32 := by rw [← HN.out.1]; exact n0
  have b1 : N1 ≤ 16 := by rw [← HN.out.2.1]; exact n1
  have b2 : N2 ≤ 128 := by rw [← HN.out.2.2.1]; exact n2
  have b3 : N3 ≤ 64 := by rw [← HN.out.2.2.2]; exact n3
  have HS0 : Hid (FL = [] ++ ((c.licenses.drop 0).map (fmtLic Lib.itoa)).flatten ++ ((c.exceptions.map fmtExc).flatten ++ ((c.clauses.map fmtClause).flatten ++ (c.apart.map fmtPair).flatten))) := by
    show _ = _
    rw [hFL]; rfl
  clear hck hFL k1 k2 k3 k4 n0 n1 n2 n3 HLEN
  rw [HCK.out]
  have q1 : ((0 : Int) != 0) = false := rfl
  go_wp2
  go_loopw [5, 6] (fun sv kv wr => ∃ (k : Nat) (A : ByteArray), sv = .string A ∧ k ≤ N0 ∧ kv = .int .i64 k ∧ A.size ≤ 65536 ∧ Hid (FL = A.data.toList ++ ((c.licenses.drop k).map (fmtLic Lib.itoa)).flatten ++ ((c.exceptions.map fmtExc).flatten ++ ((c.clauses.map fmtClause).flatten ++ (c.apart.map fmtPair).flatten))) ∧ Hid (Below w1.heap.size w1 wr)) (fun _ kv _ => N0 - (intOf kv).toNat)
  case atStart => exact ⟨0, ⟨#[]⟩, rfl, by omega, rfl, by decide, HS0, Lib.hid (Below.refl _ _)⟩
  case round =>
    obtain ⟨k, A, rfl, hk, rfl, hA, hf, hbr⟩ := hrel
    have D0 := kept hbr.out cc0
    have D1 := kept hbr.out cc1
    have D2 := kept hbr.out cc2
    have D3 := kept hbr.out cc3
    have hwr : w1.heap.size ≤ wr.heap.size := hbr.out.size
    by_cases hki : k < N0
    · obtain ⟨x, hx⟩ := get_lt (xs := c.licenses) (k := k) (by rw [HN.out.1]; exact hki)
      have hd := Lib.hid (drop_at hx)
      have HX : Hid (FL = (A.data.toList ++ (fmtLic Lib.itoa) x) ++ (((c.licenses.drop (k + 1)).map (fmtLic Lib.itoa)).flatten ++ ((c.exceptions.map fmtExc).flatten ++ ((c.clauses.map fmtClause).flatten ++ (c.apart.map fmtPair).flatten)))) := by
        show _ = _
        rw [hf.out, hd.out]; simp
      have hok := HOL.out x (List.mem_of_getElem? hx)
      obtain ⟨b, off, rfl, hb, y0', y1', y2', y3', -⟩ := License.at_row (R0.out.mono (HB1.out.trans (hbr.out.mono HB1.out.size))) hx
      obtain ⟨V, hV⟩ : ∃ V : Nat, x.version = (V : Int) := ⟨x.version.toNat, by have := hok.version; omega⟩
      have hV9 : V ≤ 999 := by have := hok.version; omega
      have HV := Lib.hid hV
      rw [hV] at y2'
      have z0 := hok.name
      have z1 := hok.family
      have z3 := hok.text
      have HLN := Lib.hid hok.lines
      clear hx hok hV
      go_wp2_with fail
      have hbx : Below wr.heap.size wr (wr.alloc (.cells #[.string x.name, .string x.family, .int .i64 (V : Int), .string x.text] 43)) := (by first | ((repeat (first | exact Below.refl _ _ | assumption | refine Below.drewN ?_ _ | refine Below.drew ?_ | refine Below.alloc ?_ (by first | exact Nat.le_refl _ | (simp; done) | (simp; omega) | omega) _ | refine Below.setCell ?_ (by first | exact Nat.le_refl _ | (simp; done) | (simp; omega) | omega) _ | refine Below.trans ?_ (Below.mono (by assumption) (by first | exact Nat.le_refl _ | (simp; done) | (simp; omega) | omega)))); done) | fail)
      have g0 : (wr.alloc (.cells #[.string x.name, .string x.family, .int .i64 (V : Int), .string x.text] 43)).cell? ⟨wr.heap.size, 0, none⟩ = some (.string x.name) := by simp
      have g1 : (wr.alloc (.cells #[.string x.name, .string x.family, .int .i64 (V : Int), .string x.text] 43)).cell? ⟨wr.heap.size, 1, none⟩ = some (.string x.family) := by simp
      have g2 : (wr.alloc (.cells #[.string x.name, .string x.family, .int .i64 (V : Int), .string x.text] 43)).cell? ⟨wr.heap.size, 2, none⟩ = some (.int .i64 (V : Int)) := by simp
      have g3 : (wr.alloc (.cells #[.string x.name, .string x.family, .int .i64 (V : Int), .string x.text] 43)).cell? ⟨wr.heap.size, 3, none⟩ = some (.string x.text) := by simp
      have HBX := Lib.hid (hbr.out.trans (hbx.mono hbr.out.size))
      have E0 := kept hbx D0
      clear hbx y0' y1' y2' y3' D0 D1 D2 D3
      generalize (wr.alloc (.cells #[.string x.name, .string x.family, .int .i64 (V : Int), .string x.text] 43)) = w2 at *
      have hz2 : wr.heap.size < w2.heap.size := cell_lt g0
      refine (lines_ref x.text _ (by omega)).mono ?_
      rintro e w3 ⟨lv, rfl, hlv, hb3⟩
      obtain ⟨la, lc, rfl, hl1, hl2, hl3⟩ := list_inv hlv
      have LR := Lib.hid hl3
      have hlc : lc ≤ 9223372036854775807 := by simp only [maxLen] at hl2; exact hl2
      have G0 := kept hb3 g0
      have G1 := kept hb3 g1
      have G2 := kept hb3 g2
      have G3 := kept hb3 g3
      have HB3 := Lib.hid (HBX.out.trans (hb3.mono HBX.out.size))
      obtain ⟨LL, hLL⟩ : ∃ LL, LL = linesB x.text := ⟨_, rfl⟩
      rw [← hLL] at LR hl1 ⊢
      have HLL := Lib.hid hLL
      obtain ⟨NL, hNL⟩ : ∃ NL, NL = LL.length := ⟨_, rfl⟩
      rw [← hNL] at hl1 ⊢
      have HNL := Lib.hid hNL
      have hNL9 : NL ≤ 999 := by rw [hNL, hLL]; exact HLN.out
      clear hb3 hlv hl2 hl3 g0 g1 g2 g3 hLL hNL HBX E0
      have hz3 : wr.heap.size < w3.heap.size := cell_lt G0
      have t1 : (mkS (d3 V)).size ≤ 3 := by rw [mkS_size]; exact (d3_at hV9).2.2
      have t2 : (mkS (d3 NL)).size ≤ 3 := by rw [mkS_size]; exact (d3_at hNL9).2.2
      have HFX : Hid (fmtLic Lib.itoa x = putL [mkS wLicense, x.name, x.family, mkS (d3 V), mkS (d3 NL)] ++ (LL.map fun s => putL [s]).flatten) := by
        show _ = _
        unfold fmtLic
        rw [HV.out, num_itoa V (by omega) (by omega), ← HLL.out, ← HNL.out, num_itoa NL (by omega) (by omega), Int.toNat_natCast, Int.toNat_natCast]
      have sz0 : (⟨#[108, 105, 99, 101, 110, 115, 101, 32]⟩ : ByteArray).size ≤ 8 := by decide
      have sz1 : (⟨#[32]⟩ : ByteArray).size ≤ 1 := by decide
      have sz2 : (⟨#[10]⟩ : ByteArray).size ≤ 1 := by decide
      obtain ⟨S1, Sr1, Se1, Sz1⟩ := str_step A (⟨#[108, 105, 99, 101, 110, 115, 101, 32]⟩ : ByteArray) (by omega)
      obtain ⟨S2, Sr2, Se2, Sz2⟩ := str_step S1 x.name (by omega)
      obtain ⟨S3, Sr3, Se3, Sz3⟩ := str_step S2 (⟨#[32]⟩ : ByteArray) (by omega)
      obtain ⟨S4, Sr4, Se4, Sz4⟩ := str_step S3 x.family (by omega)
      obtain ⟨S5, Sr5, Se5, Sz5⟩ := str_step S4 (⟨#[32]⟩ : ByteArray) (by omega)
      obtain ⟨S6, Sr6, Se6, Sz6⟩ := str_step S5 (mkS (d3 V)) (by omega)
      obtain ⟨S7, Sr7, Se7, Sz7⟩ := str_step S6 (⟨#[32]⟩ : ByteArray) (by omega)
      obtain ⟨S8, Sr8, Se8, Sz8⟩ := str_step S7 (mkS (d3 NL)) (by omega)
      obtain ⟨S9, Sr9, Se9, Sz9⟩ := str_step S8 (⟨#[10]⟩ : ByteArray) (by omega)
      go_wp2_with fail
      go_region_held3 (fun w' => w'.cell? ⟨wr.heap.size, 0, none⟩ = some (.string x.name) ∧ w'.cell? ⟨wr.heap.size, 1, none⟩ = some (.string x.family) ∧ w'.cell? ⟨wr.heap.size, 2, none⟩ = some (.int .i64 (V : Int)))
        (first | exact ⟨kept (W := w3) (by first | ((repeat (first | exact Below.refl _ _ | assumption | refine Below.drewN ?_ _ | refine Below.drew ?_ | refine Below.alloc ?_ (by first | exact Nat.le_refl _ | (simp; done) | (simp; omega) | omega) _ | refine Below.setCell ?_ (by first | exact Nat.le_refl _ | (simp; done) | (simp; omega) | omega) _ | refine Below.trans ?_ (Below.mono (by assumption) (by first | exact Nat.le_refl _ | (simp; done) | (simp; omega) | omega)))); done) | fail) G0, kept (W := w3) (by first | ((repeat (first | exact Below.refl _ _ | assumption | refine Below.drewN ?_ _ | refine Below.drew ?_ | refine Below.alloc ?_ (by first | exact Nat.le_refl _ | (simp; done) | (simp; omega) | omega) _ | refine Below.setCell ?_ (by first | exact Nat.le_refl _ | (simp; done) | (simp; omega) | omega) _ | refine Below.trans ?_ (Below.mono (by assumption) (by first | exact Nat.le_refl _ | (simp; done) | (simp; omega) | omega)))); done) | fail) G1, kept (W := w3) (by first | ((repeat (first | exact Below.refl _ _ | assumption | refine Below.drewN ?_ _ | refine Below.drew ?_ | refine Below.alloc ?_ (by first | exact Nat.le_refl _ | (simp; done) | (simp; omega) | omega) _ | refine Below.setCell ?_ (by first | exact Nat.le_refl _ | (simp; done) | (simp; omega) | omega) _ | refine Below.trans ?_ (Below.mono (by assumption) (by first | exact Nat.le_refl _ | (simp; done) | (simp; omega) | omega)))); done) | fail) G2⟩ | (go_keep; done))
        (first
          | (go_at_call 63; (with_reducible refine (Decimal_ref V hV9 _).mono ?_); rintro e w4 ⟨rfl, hb4⟩; have s4 : w3.heap.size ≤ w4.heap.size := hb4.size)
          | (go_at_call 63; (with_reducible refine (Decimal_ref NL hNL9 _).mono ?_); rintro e w5 ⟨rfl, hb5⟩; have s5 : w3.heap.size ≤ w5.heap.size := Nat.le_trans s4 hb5.size))
      have hB35 : Below w3.heap.size w3 w5 := (by first | ((repeat (first | exact Below.refl _ _ | assumption | refine Below.drewN ?_ _ | refine Below.drew ?_ | refine Below.alloc ?_ (by first | exact Nat.le_refl _ | (simp; done) | (simp; omega) | omega) _ | refine Below.setCell ?_ (by first | exact Nat.le_refl _ | (simp; done) | (simp; omega) | omega) _ | refine Below.trans ?_ (Below.mono (by assumption) (by first | exact Nat.le_refl _ | (simp; done) | (simp; omega) | omega)))); done) | fail)
      have HB5 : Hid (Below w1.heap.size w1 w5) := Lib.hid (HB3.out.trans (hB35.mono HB3.out.size))
      have HJ : Hid (FL = S9.data.toList ++ ((LL.drop 0).map (fun s => putL [s])).flatten ++ (((c.licenses.drop (k + 1)).map (fmtLic Lib.itoa)).flatten ++ ((c.exceptions.map fmtExc).flatten ++ ((c.clauses.map fmtClause).flatten ++ (c.apart.map fmtPair).flatten)))) := by
        show _ = _
        rw [HX.out, HFX.out, Se9.out, Se8.out, Se7.out, Se6.out, Se5.out, Se4.out, Se3.out, Se2.out, Se1.out]
        simp [putL, joinB, mkS, wLicense]
      have hS9 : S9.size ≤ 65536 := by rw [size_of_list rfl]; exact pre_le (by have := HJ.out; rw [List.append_assoc] at this; exact this) HL6.out
      have L5 := Lib.hid (LR.out.mono hB35)
      have HS : Hid (∀ s ∈ LL, s.size ≤ 4096) := fun s hs => by rw [HLL.out] at hs; exact Nat.le_trans (lines_size hs) z3
      clear hB35 hb4 hb5 s4 s5 G0 G1 G2 G3 HB3 LR HFX HX hf hA hbr Sr1 Se1 Sz1 Sr2 Se2 Sz2 Sr3 Se3 Sz3 Sr4 Se4 Sz4 Sr5 Se5 Sz5 Sr6 Se6 Sz6 Sr7 Se7 Sz7 Sr8 Se8 Sz8 Sr9 Se9 Sz9 hwr hd t1 t2 z0 z1 z3
      go_wp2
      go_loopw [5, 9] (fun sv jv wr => ∃ (j : Nat) (B : ByteArray), sv = .string B ∧ j ≤ NL ∧ jv = .int .i64 j ∧ B.size ≤ 65536 ∧ Hid (FL = B.data.toList ++ ((LL.drop j).map (fun s => putL [s])).flatten ++ (((c.licenses.drop (k + 1)).map (fmtLic Lib.itoa)).flatten ++ ((c.exceptions.map fmtExc).flatten ++ ((c.clauses.map fmtClause).flatten ++ (c.apart.map fmtPair).flatten)))) ∧ wr = w5) (fun _ jv _ => NL - (intOf jv).toNat)
      case atStart => exact ⟨0, S9, rfl, by omega, rfl, hS9, HJ, rfl⟩
      case round =>
        clear HJ hS9
        obtain ⟨j, B, rfl, hj, rfl, hB, hJ, rfl⟩ := hrel
        by_cases hji : j < NL
        · obtain ⟨y, hy⟩ := get_lt (xs := LL) (k := j) (by rw [← HNL.out]; exact hji)
          obtain ⟨by', offy, rfl, hby, u0, uz⟩ := str_at L5.out hy
          have hy4 := HS.out y (List.mem_of_getElem? hy)
          have hdj := Lib.hid (drop_at hy)
          have hj0 : (0 : Int) ≤ (j : Int) := by omega
          have hj1 : (j : Int) < (NL : Int) := by omega
          clear hy uz
          have sz0 : (⟨#[10]⟩ : ByteArray).size ≤ 1 := by decide
          obtain ⟨T1, Tr1, Te1, Tz1⟩ := str_step B y (by omega)
          obtain ⟨T2, Tr2, Te2, Tz2⟩ := str_step T1 (⟨#[10]⟩ : ByteArray) (by omega)
          have HJ2 : Hid (FL = T2.data.toList ++ ((LL.drop (j + 1)).map (fun s => putL [s])).flatten ++ (((c.licenses.drop (k + 1)).map (fmtLic Lib.itoa)).flatten ++ ((c.exceptions.map fmtExc).flatten ++ ((c.clauses.map fmtClause).flatten ++ (c.apart.map fmtPair).flatten)))) := by
            show _ = _
            rw [hJ.out, hdj.out, Te2.out, Te1.out]
            simp [putL, joinB]
          have hT2 : T2.size ≤ 65536 := by rw [size_of_list rfl]; exact pre_le (by have := HJ2.out; rw [List.append_assoc] at this; exact this) HL6.out
          go_wp2
          go_roundw
          case rel => exact ⟨j + 1, T2, rfl, by omega, by go_num, hT2, HJ2, by first | rfl | trivial⟩
          case measure => simp [intOf]; omega
        · have HJ2 : Hid (FL = B.data.toList ++ ((c.licenses.drop (k + 1)).map (fmtLic Lib.itoa)).flatten ++ ((c.exceptions.map fmtExc).flatten ++ ((c.clauses.map fmtClause).flatten ++ (c.apart.map fmtPair).flatten))) := by
            show _ = _
            rw [hJ.out, List.drop_eq_nil_of_le (by rw [← HNL.out]; omega)]
            simp
          clear hJ
          go_wp2
          go_roundw
          case rel => exact ⟨k + 1, B, rfl, by omega, by go_num, hB, HJ2, HB5⟩
          case measure => simp [intOf]; omega
    · have HS1 : Hid (FL = A.data.toList ++ ((c.exceptions.drop 0).map fmtExc).flatten ++ ((c.clauses.map fmtClause).flatten ++ (c.apart.map fmtPair).flatten)) := by
        show _ = _
        rw [hf.out, List.drop_eq_nil_of_le (by rw [HN.out.1]; omega)]; simp
      go_wp2
      go_loopw [5, 10] (fun sv kv wr => ∃ (k : Nat) (A : ByteArray), sv = .string A ∧ k ≤ N1 ∧ kv = .int .i64 k ∧ A.size ≤ 65536 ∧ Hid (FL = A.data.toList ++ ((c.exceptions.drop k).map fmtExc).flatten ++ ((c.clauses.map fmtClause).flatten ++ (c.apart.map fmtPair).flatten)) ∧ Hid (Below w1.heap.size w1 wr)) (fun _ kv _ => N1 - (intOf kv).toNat)
      case atStart => exact ⟨0, A, rfl, by omega, rfl, hA, HS1, hbr⟩
      case round =>
        clear hbr hf hk hki HS1 hA D0 D1 D2 D3 hwr
        obtain ⟨k, A, rfl, hk, rfl, hA, hf, hbr⟩ := hrel
        have D0 := kept hbr.out cc0
        have D1 := kept hbr.out cc1
        have D2 := kept hbr.out cc2
        have D3 := kept hbr.out cc3
        have hwr : w1.heap.size ≤ wr.heap.size := hbr.out.size
        by_cases hki : k < N1
        · obtain ⟨x, hx⟩ := get_lt (xs := c.exceptions) (k := k) (by rw [HN.out.2.1]; exact hki)
          have hd := Lib.hid (drop_at hx)
          have HX : Hid (FL = (A.data.toList ++ fmtExc x) ++ (((c.exceptions.drop (k + 1)).map fmtExc).flatten ++ ((c.clauses.map fmtClause).flatten ++ (c.apart.map fmtPair).flatten))) := by
            show _ = _
            rw [hf.out, hd.out]; simp
          obtain ⟨hx6, hx5⟩ := HOE.out x (List.mem_of_getElem? hx)
          obtain ⟨z0, z1, -⟩ := HOS.out.2.1 x (List.mem_of_getElem? hx)
          have HXD := Lib.hid hx5
          obtain ⟨b, off, rfl, hb, ya, yc, y0', y1', y2', s0, s1, yl, ym, yr⟩ := Exc.at_row (R1.out.mono (HB1.out.trans (hbr.out.mono HB1.out.size))) hx
          have YR := Lib.hid yr
          obtain ⟨NX, hNX⟩ : ∃ NX, NX = x.lifts.length := ⟨_, rfl⟩
          rw [← hNX] at y2' hx6 yl
          have HNX := Lib.hid hNX
          simp only [maxLen] at ym
          clear hx hx5 s0 s1 yr hNX
          have sz0 : (⟨#[101, 120, 99, 101, 112, 116, 105, 111, 110, 32]⟩ : ByteArray).size ≤ 10 := by decide
          have sz1 : (⟨#[32]⟩ : ByteArray).size ≤ 1 := by decide
          obtain ⟨S1, Sr1, Se1, Sz1⟩ := str_step A (⟨#[101, 120, 99, 101, 112, 116, 105, 111, 110, 32]⟩ : ByteArray) (by omega)
          obtain ⟨S2, Sr2, Se2, Sz2⟩ := str_step S1 x.name (by omega)
          obtain ⟨S3, Sr3, Se3, Sz3⟩ := str_step S2 (⟨#[32]⟩ : ByteArray) (by omega)
          obtain ⟨S4, Sr4, Se4, Sz4⟩ := str_step S3 x.license (by omega)
          have HJ : Hid (FL = S4.data.toList ++ (((x.lifts.drop 0).map fun n => 32 :: (dutyB n).data.toList).flatten ++ [10]) ++ (((c.exceptions.drop (k + 1)).map fmtExc).flatten ++ ((c.clauses.map fmtClause).flatten ++ (c.apart.map fmtPair).flatten))) := by
            show _ = _
            rw [HX.out, Se4.out, Se3.out, Se2.out, Se1.out, fmtExc_eq]
            simp [wException]
          have hS4 : S4.size ≤ 65536 := by rw [size_of_list rfl]; exact pre_le (by have := HJ.out; rw [List.append_assoc] at this; exact this) HL6.out
          have hbx : Below wr.heap.size wr (wr.alloc (.cells #[.string x.name, .string x.license, .slice ya NX yc] 62)) := (by first | ((repeat (first | exact Below.refl _ _ | assumption | refine Below.drewN ?_ _ | refine Below.drew ?_ | refine Below.alloc ?_ (by first | exact Nat.le_refl _ | (simp; done) | (simp; omega) | omega) _ | refine Below.setCell ?_ (by first | exact Nat.le_refl _ | (simp; done) | (simp; omega) | omega) _ | refine Below.trans ?_ (Below.mono (by assumption) (by first | exact Nat.le_refl _ | (simp; done) | (simp; omega) | omega)))); done) | fail)
          have g0 : (wr.alloc (.cells #[.string x.name, .string x.license, .slice ya NX yc] 62)).cell? ⟨wr.heap.size, 0, none⟩ = some (.string x.name) := by simp
          have g1 : (wr.alloc (.cells #[.string x.name, .string x.license, .slice ya NX yc] 62)).cell? ⟨wr.heap.size, 1, none⟩ = some (.string x.license) := by simp
          have g2 : (wr.alloc (.cells #[.string x.name, .string x.license, .slice ya NX yc] 62)).cell? ⟨wr.heap.size, 2, none⟩ = some (.slice ya NX yc) := by simp
          have HBX := Lib.hid (hbr.out.trans (hbx.mono hbr.out.size))
          have YR2 := Lib.hid (YR.out.mono hbx)
          obtain ⟨w2, hw2⟩ : ∃ w2, w2 = (wr.alloc (.cells #[.string x.name, .string x.license, .slice ya NX yc] 62)) := ⟨_, rfl⟩
          rw [← hw2] at g0 g1 g2 HBX YR2
          obtain ⟨gx, hgx⟩ : ∃ gx, gx = wr.heap.size := ⟨_, rfl⟩
          rw [← hgx] at g0 g1 g2
          have hz2 : gx < w2.heap.size := cell_lt g0
          clear hbx HX hf hA hd YR
          go_wp2
          rw [← hw2, ← hgx]
          clear hw2 hgx y0' y1' y2' D0 D1 D2 D3 hwr hbr Sr1 Se1 Sz1 Sr2 Se2 Sz2 Sr3 Se3 Sz3 Sr4 Se4 Sz4 z0 z1
          go_loopw [5, 12] (fun sv jv wr => ∃ (j : Nat) (B : ByteArray), sv = .string B ∧ j ≤ NX ∧ jv = .int .i64 j ∧ B.size ≤ 65536 ∧ Hid (FL = B.data.toList ++ (((x.lifts.drop j).map fun n => 32 :: (dutyB n).data.toList).flatten ++ [10]) ++ (((c.exceptions.drop (k + 1)).map fmtExc).flatten ++ ((c.clauses.map fmtClause).flatten ++ (c.apart.map fmtPair).flatten))) ∧ Hid (Below w2.heap.size w2 wr)) (fun _ jv _ => NX - (intOf jv).toNat)
          case atStart => exact ⟨0, S4, rfl, by omega, rfl, hS4, HJ, Lib.hid (Below.refl _ _)⟩
          case round =>
            clear HJ hS4
            obtain ⟨j, B, rfl, hj, rfl, hB, hJ, hbr⟩ := hrel
            have G2 := kept hbr.out g2
            have hwr : w2.heap.size ≤ wr.heap.size := hbr.out.size
            by_cases hji : j < NX
            · obtain ⟨y, hy⟩ := get_lt (xs := x.lifts) (k := j) (by rw [← HNX.out]; exact hji)
              obtain ⟨m, rfl⟩ : ∃ m : Nat, y = m := ⟨y.toNat, by have := HXD.out y (List.mem_of_getElem? hy); omega⟩
              have hm6 : m < 6 := by have := HXD.out m (List.mem_of_getElem? hy); omega
              obtain ⟨b6, o6, rfl, hb6, u0', -⟩ := int_at YR2.out hy
              have u0 := kept hbr.out u0'
              have hdj := Lib.hid (drop_at hy)
              have hdz := (dutyR_at (n := (m : Int)) (by omega) (by omega)).2.2
              have hj0 : (0 : Int) ≤ (j : Int) := by omega
              have hj1 : (j : Int) < (NX : Int) := by omega
              have i3 : (0 : Int) ≤ (m : Int) := by omega
              have j3 : (m : Int) < 6 := by omega
              have hA3 := dutyA_at hm6
              clear hy u0'
              have sz0 : (⟨#[32]⟩ : ByteArray).size ≤ 1 := by decide
              obtain ⟨T1, Tr1, Te1, Tz1⟩ := str_step B (⟨#[32]⟩ : ByteArray) (by omega)
              obtain ⟨T2, Tr2, Te2, Tz2⟩ := str_step T1 (dutyB m) (by omega)
              have HJ2 : Hid (FL = T2.data.toList ++ (((x.lifts.drop (j + 1)).map fun n => 32 :: (dutyB n).data.toList).flatten ++ [10]) ++ (((c.exceptions.drop (k + 1)).map fmtExc).flatten ++ ((c.clauses.map fmtClause).flatten ++ (c.apart.map fmtPair).flatten))) := by
                show _ = _
                rw [hJ.out, hdj.out, Te2.out, Te1.out]
                simp
              have hT2 : T2.size ≤ 65536 := by rw [size_of_list rfl]; exact pre_le (by have := HJ2.out; rw [List.append_assoc] at this; exact this) HL6.out
              go_wp2_with fail
              refine wp_region_held_drew (S := (fun w' : World => w'.cell? ⟨gx, 2, none⟩ = some (.slice (some ⟨b6, o6, none⟩) NX yc) ∧ w'.cell? ⟨b6, o6 + j, none⟩ = some (.int .i64 (m : Int)))) (by kernel_rfl) (by exact ⟨G2, u0⟩) (fun hH0 => ?_)
              refine wpAnyH_take (i := 0) (oi := _) (v := ?_) rfl (by kernel_rfl) (by kernel_rfl) (by kernel_rfl) (fun _ _ _ h => h) (Or.inl ⟨by rfl, ?_⟩) hH0 ?_
              rotate_left
              · intro w hSw; (try dsimp only at hSw); go_simp
                all_goals with_reducible rfl
              (try simp only [Act.put, List.setIfInBounds_toArray, List.set_cons_zero, List.set_cons_succ])
              refine wpAnyH_take (i := 1) (oi := _) (v := ?_) rfl (by kernel_rfl) (by kernel_rfl) (by kernel_rfl) (fun _ _ _ h => h) (Or.inl ⟨by rfl, ?_⟩) hH0 ?_
              rotate_left
              · intro w hSw; (try dsimp only at hSw); go_simp
                all_goals with_reducible rfl
              (try simp only [Act.put, List.setIfInBounds_toArray, List.set_cons_zero, List.set_cons_succ])
              refine wpAnyH_take (i := 3) (oi := _) (v := ?_) rfl (by kernel_rfl) (by kernel_rfl) (by kernel_rfl) (fun _ _ _ h => h) (Or.inl ⟨by rfl, ?_⟩) hH0 ?_
              rotate_left
              · intro w hSw; (try dsimp only at hSw); go_simp
                all_goals with_reducible rfl
              (try simp only [Act.put, List.setIfInBounds_toArray, List.set_cons_zero, List.set_cons_succ])
              refine wpAnyH_take (i := 4) (oi := _) (v := ?_) rfl (by kernel_rfl) (by kernel_rfl) (by kernel_rfl) (fun _ _ _ h => h) (Or.inl ⟨by rfl, ?_⟩) hH0 ?_
              rotate_left
              · intro w hSw; (try dsimp only at hSw); go_simp
                all_goals with_reducible rfl
              (try simp only [Act.put, List.setIfInBounds_toArray, List.set_cons_zero, List.set_cons_succ])
              refine wpAnyH_take (i := 5) (oi := _) (v := ?_) rfl (by kernel_rfl) (by kernel_rfl) (by kernel_rfl) (fun _ _ _ h => h) (Or.inl ⟨by rfl, ?_⟩) hH0 ?_
              rotate_left
              · intro w hSw; (try dsimp only at hSw); go_simp
                all_goals with_reducible rfl
              (try simp only [Act.put, List.setIfInBounds_toArray, List.set_cons_zero, List.set_cons_succ])
              refine wpAnyH_take (i := 6) (oi := _) (v := ?_) rfl (by kernel_rfl) (by kernel_rfl) (by kernel_rfl) (fun _ _ _ h => h) (Or.inl ⟨by rfl, ?_⟩) hH0 ?_
              rotate_left
              · intro w hSw; (try dsimp only at hSw); go_simp
                all_goals with_reducible rfl
              (try simp only [Act.put, List.setIfInBounds_toArray, List.set_cons_zero, List.set_cons_succ])
              refine wpAnyH_take (i := 7) (oi := _) (v := ?_) rfl (by kernel_rfl) (by kernel_rfl) (by kernel_rfl) (fun _ _ _ h => h) (Or.inl ⟨by rfl, ?_⟩) hH0 ?_
              rotate_left
              · intro w hSw; (try dsimp only at hSw); go_simp
                all_goals with_reducible rfl
              (try simp only [Act.put, List.setIfInBounds_toArray, List.set_cons_zero, List.set_cons_succ])
              refine wpAnyH_ready (rs := [2]) (by kernel_rfl) (by simp) ?_
              refine AllReadyH.cons (o := _) rfl (fun K hK => ?_) AllReadyH.nil
              go_simp
              go_at_call 64
              refine (dutiesR _).mono ?_
              rintro e w4 ⟨rfl, T, nT, rfl⟩
              go_wp2_with fail
              refine hK.out _ _ ?_ (fun hHn => ?_)
              · exact ⟨kept (W := wr) (by first | ((repeat (first | exact Below.refl _ _ | assumption | refine Below.drewN ?_ _ | refine Below.drew ?_ | refine Below.alloc ?_ (by first | exact Nat.le_refl _ | (simp; done) | (simp; omega) | omega) _ | refine Below.setCell ?_ (by first | exact Nat.le_refl _ | (simp; done) | (simp; omega) | omega) _ | refine Below.trans ?_ (Below.mono (by assumption) (by first | exact Nat.le_refl _ | (simp; done) | (simp; omega) | omega)))); done) | fail) hH0.1, kept (W := wr) (by first | ((repeat (first | exact Below.refl _ _ | assumption | refine Below.drewN ?_ _ | refine Below.drew ?_ | refine Below.alloc ?_ (by first | exact Nat.le_refl _ | (simp; done) | (simp; omega) | omega) _ | refine Below.setCell ?_ (by first | exact Nat.le_refl _ | (simp; done) | (simp; omega) | omega) _ | refine Below.trans ?_ (Below.mono (by assumption) (by first | exact Nat.le_refl _ | (simp; done) | (simp; omega) | omega)))); done) | fail) hH0.2⟩
              (try simp only [Act.put, List.setIfInBounds_toArray, List.set_cons_zero, List.set_cons_succ])
              clear hK K
              refine wpAnyH_mono (S := (fun w' : World => (w'.cell? ⟨gx, 2, none⟩ = some (.slice (some ⟨b6, o6, none⟩) NX yc) ∧ w'.cell? ⟨b6, o6 + j, none⟩ = some (.int .i64 (m : Int))) ∧ w'.heap[wr.heap.size]? = some (.cells dutyA T (0, 0)))) (fun w h => h.1) ?_
              have hH1 := And.intro hHn (show (wr.alloc (.cells dutyA T)).heap[wr.heap.size]? = some (.cells dutyA T (0, 0)) from obj_new wr (.cells dutyA T))
              clear hHn hH0
              refine wpAnyH_take (i := 8) (oi := _) (v := ?_) rfl (by kernel_rfl) (by kernel_rfl) (by kernel_rfl) (fun _ _ _ h => h) (Or.inl ⟨by rfl, ?_⟩) hH1 ?_
              rotate_left
              · intro w hSw; (try dsimp only at hSw); go_simp
                all_goals with_reducible rfl
              (try simp only [Act.put, List.setIfInBounds_toArray, List.set_cons_zero, List.set_cons_succ])
              refine wpAnyH_take (i := 9) (oi := _) (v := ?_) rfl (by kernel_rfl) (by kernel_rfl) (by kernel_rfl) (fun _ _ _ h => h) (Or.inl ⟨by rfl, ?_⟩) hH1 ?_
              rotate_left
              · intro w hSw; (try dsimp only at hSw); have hx := obj_cell hSw.2 hA3; go_simp
                all_goals with_reducible rfl
              (try simp only [Act.put, List.setIfInBounds_toArray, List.set_cons_zero, List.set_cons_succ])
              refine wpAnyH_take (i := 10) (oi := _) (v := ?_) rfl (by kernel_rfl) (by kernel_rfl) (by kernel_rfl) (fun _ _ _ h => h) (Or.inl ⟨by rfl, ?_⟩) hH1 ?_
              rotate_left
              · intro w hSw; (try dsimp only at hSw); go_simp
                all_goals with_reducible rfl
              (try simp only [Act.put, List.setIfInBounds_toArray, List.set_cons_zero, List.set_cons_succ])
              refine wpAnyH_take (i := 11) (oi := _) (v := ?_) rfl (by kernel_rfl) (by kernel_rfl) (by kernel_rfl) (fun _ _ _ h => h) (Or.inl ⟨by rfl, ?_⟩) hH1 ?_
              rotate_left
              · intro w hSw; (try dsimp only at hSw); go_simp
                all_goals with_reducible rfl
              (try simp only [Act.put, List.setIfInBounds_toArray, List.set_cons_zero, List.set_cons_succ])
              refine wpAnyH_done (by kernel_rfl) ?_ _
              go_wp2
              go_roundw
              case rel => exact ⟨j + 1, T2, rfl, by omega, by go_num, hT2, HJ2, by show Below _ _ _; have hq := hbr.out; have hqs := hq.size; exact (by first | ((repeat (first | exact Below.refl _ _ | assumption | refine Below.drewN ?_ _ | refine Below.drew ?_ | refine Below.alloc ?_ (by first | exact Nat.le_refl _ | (simp; done) | (simp; omega) | omega) _ | refine Below.setCell ?_ (by first | exact Nat.le_refl _ | (simp; done) | (simp; omega) | omega) _ | refine Below.trans ?_ (Below.mono (by assumption) (by first | exact Nat.le_refl _ | (simp; done) | (simp; omega) | omega)))); done) | fail)⟩
              case measure => simp [intOf]; omega
            · have sz0 : (⟨#[10]⟩ : ByteArray).size ≤ 1 := by decide
              obtain ⟨U1, Ur1, Ue1, Uz1⟩ := str_step B (⟨#[10]⟩ : ByteArray) (by omega)
              have HJ3 : Hid (FL = U1.data.toList ++ ((c.exceptions.drop (k + 1)).map fmtExc).flatten ++ ((c.clauses.map fmtClause).flatten ++ (c.apart.map fmtPair).flatten)) := by
                show _ = _
                rw [hJ.out, Ue1.out, List.drop_eq_nil_of_le (by rw [← HNX.out]; omega)]
                simp
              have hU1 : U1.size ≤ 65536 := by rw [size_of_list rfl]; exact pre_le (by have := HJ3.out; rw [List.append_assoc] at this; exact this) HL6.out
              have HB9 := Lib.hid (HBX.out.trans (hbr.out.mono HBX.out.size))
              clear hJ
              go_wp2
              go_roundw
              case rel => exact ⟨k + 1, U1, rfl, by omega, by go_num, hU1, HJ3, HB9⟩
              case measure => simp [intOf]; omega
        · have HS2 : Hid (FL = A.data.toList ++ ((c.clauses.drop 0).map fmtClause).flatten ++ (c.apart.map fmtPair).flatten) := by
            show _ = _
            rw [hf.out, List.drop_eq_nil_of_le (by rw [HN.out.2.1]; omega)]; simp
          go_wp2
          go_loopw [5, 13] (fun sv kv wr => ∃ (k : Nat) (A : ByteArray), sv = .string A ∧ k ≤ N2 ∧ kv = .int .i64 k ∧ A.size ≤ 65536 ∧ Hid (FL = A.data.toList ++ ((c.clauses.drop k).map fmtClause).flatten ++ (c.apart.map fmtPair).flatten) ∧ Hid (Below w1.heap.size w1 wr)) (fun _ kv _ => N2 - (intOf kv).toNat)
          case atStart => exact ⟨0, A, rfl, by omega, rfl, hA, HS2, hbr⟩
          case round =>
            clear hbr hf hk hki HS2 hA D0 D1 D2 D3 hwr
            obtain ⟨k, A, rfl, hk, rfl, hA, hf, hbr⟩ := hrel
            have D0 := kept hbr.out cc0
            have D1 := kept hbr.out cc1
            have D2 := kept hbr.out cc2
            have D3 := kept hbr.out cc3
            have hwr : w1.heap.size ≤ wr.heap.size := hbr.out.size
            by_cases hki : k < N2
            · obtain ⟨x, hx⟩ := get_lt (xs := c.clauses) (k := k) (by rw [HN.out.2.2.1]; exact hki)
              have hd := Lib.hid (drop_at hx)
              have HX : Hid (FL = (A.data.toList ++ fmtClause x) ++ (((c.clauses.drop (k + 1)).map fmtClause).flatten ++ (c.apart.map fmtPair).flatten)) := by
                show _ = _
                rw [hf.out, hd.out]; simp
              obtain ⟨hx6, ⟨hw0, hw1⟩, ⟨hr0, hr1⟩, hu0, hu1⟩ := HOC.out x (List.mem_of_getElem? hx)
              obtain ⟨z0, -, hz5⟩ := HOS.out.2.2.1 x (List.mem_of_getElem? hx)
              obtain ⟨lic, way, rel, dut, lst⟩ := x
              dsimp only at *
              have HS5 := Lib.hid hz5
              obtain ⟨way, rfl⟩ : ∃ m : Nat, way = m := ⟨way.toNat, by omega⟩
              obtain ⟨rel, rfl⟩ : ∃ m : Nat, rel = m := ⟨rel.toNat, by omega⟩
              obtain ⟨dut, rfl⟩ : ∃ m : Nat, dut = m := ⟨dut.toNat, by omega⟩
              have hm1 : way < 3 := by omega
              have hm2 : rel < 3 := by omega
              have hm3 : dut < 6 := by omega
              obtain ⟨b, off, rfl, hb, ya, yc, y0', y1', y2', y3', y4', ys0, ys1, ys2, ys3, yl, ym, yr⟩ := Clause.at_row (R2.out.mono (HB1.out.trans (hbr.out.mono HB1.out.size))) hx
              dsimp only at *
              have YR := Lib.hid yr
              obtain ⟨NX, hNX⟩ : ∃ NX, NX = lst.length := ⟨_, rfl⟩
              rw [← hNX] at y4' hx6 yl
              have HNX := Lib.hid hNX
              simp only [maxLen] at ym
              have v1 := (wayR_at (n := (way : Int)) (by omega) (by omega)).2.2
              have v2 := (relR_at (n := (rel : Int)) (by omega) (by omega)).2.2
              have v3 := (dutyR_at (n := (dut : Int)) (by omega) (by omega)).2.2
              clear hx hz5 ys0 ys1 ys2 ys3 yr hNX hw0 hw1 hr0 hr1 hu0 hu1
              have sz0 : (⟨#[99, 108, 97, 117, 115, 101, 32]⟩ : ByteArray).size ≤ 7 := by decide
              have sz1 : (⟨#[32]⟩ : ByteArray).size ≤ 1 := by decide
              obtain ⟨S1, Sr1, Se1, Sz1⟩ := str_step A (⟨#[99, 108, 97, 117, 115, 101, 32]⟩ : ByteArray) (by omega)
              obtain ⟨S2, Sr2, Se2, Sz2⟩ := str_step S1 lic (by omega)
              obtain ⟨S3, Sr3, Se3, Sz3⟩ := str_step S2 (⟨#[32]⟩ : ByteArray) (by omega)
              obtain ⟨S4, Sr4, Se4, Sz4⟩ := str_step S3 (wayB way) (by omega)
              obtain ⟨S5, Sr5, Se5, Sz5⟩ := str_step S4 (⟨#[32]⟩ : ByteArray) (by omega)
              obtain ⟨S6, Sr6, Se6, Sz6⟩ := str_step S5 (relB rel) (by omega)
              obtain ⟨S7, Sr7, Se7, Sz7⟩ := str_step S6 (⟨#[32]⟩ : ByteArray) (by omega)
              obtain ⟨S8, Sr8, Se8, Sz8⟩ := str_step S7 (dutyB dut) (by omega)
              have HJ : Hid (FL = S8.data.toList ++ (((lst.drop 0).map fun s => 32 :: s.data.toList).flatten ++ [10]) ++ (((c.clauses.drop (k + 1)).map fmtClause).flatten ++ (c.apart.map fmtPair).flatten)) := by
                show _ = _
                rw [HX.out, Se8.out, Se7.out, Se6.out, Se5.out, Se4.out, Se3.out, Se2.out, Se1.out, fmtClause_eq]
                simp [wClause]
              have hS8 : S8.size ≤ 65536 := by rw [size_of_list rfl]; exact pre_le (by have := HJ.out; rw [List.append_assoc] at this; exact this) HL6.out
              have hbx : Below wr.heap.size wr (wr.alloc (.cells #[.string lic, .int .i64 (way : Int), .int .i64 (rel : Int), .int .i64 (dut : Int), .slice ya NX yc] 65)) := (by first | ((repeat (first | exact Below.refl _ _ | assumption | refine Below.drewN ?_ _ | refine Below.drew ?_ | refine Below.alloc ?_ (by first | exact Nat.le_refl _ | (simp; done) | (simp; omega) | omega) _ | refine Below.setCell ?_ (by first | exact Nat.le_refl _ | (simp; done) | (simp; omega) | omega) _ | refine Below.trans ?_ (Below.mono (by assumption) (by first | exact Nat.le_refl _ | (simp; done) | (simp; omega) | omega)))); done) | fail)
              have g0 : (wr.alloc (.cells #[.string lic, .int .i64 (way : Int), .int .i64 (rel : Int), .int .i64 (dut : Int), .slice ya NX yc] 65)).cell? ⟨wr.heap.size, 0, none⟩ = some (.string lic) := by simp
              have g1 : (wr.alloc (.cells #[.string lic, .int .i64 (way : Int), .int .i64 (rel : Int), .int .i64 (dut : Int), .slice ya NX yc] 65)).cell? ⟨wr.heap.size, 1, none⟩ = some (.int .i64 (way : Int)) := by simp
              have g2 : (wr.alloc (.cells #[.string lic, .int .i64 (way : Int), .int .i64 (rel : Int), .int .i64 (dut : Int), .slice ya NX yc] 65)).cell? ⟨wr.heap.size, 2, none⟩ = some (.int .i64 (rel : Int)) := by simp
              have g3 : (wr.alloc (.cells #[.string lic, .int .i64 (way : Int), .int .i64 (rel : Int), .int .i64 (dut : Int), .slice ya NX yc] 65)).cell? ⟨wr.heap.size, 3, none⟩ = some (.int .i64 (dut : Int)) := by simp
              have g4 : (wr.alloc (.cells #[.string lic, .int .i64 (way : Int), .int .i64 (rel : Int), .int .i64 (dut : Int), .slice ya NX yc] 65)).cell? ⟨wr.heap.size, 4, none⟩ = some (.slice ya NX yc) := by simp
              have HBX := Lib.hid (hbr.out.trans (hbx.mono hbr.out.size))
              have YR2 := Lib.hid (YR.out.mono hbx)
              obtain ⟨w2, hw2⟩ : ∃ w2, w2 = (wr.alloc (.cells #[.string lic, .int .i64 (way : Int), .int .i64 (rel : Int), .int .i64 (dut : Int), .slice ya NX yc] 65)) := ⟨_, rfl⟩
              rw [← hw2] at g0 g1 g2 g3 g4 HBX YR2
              obtain ⟨gx, hgx⟩ : ∃ gx, gx = wr.heap.size := ⟨_, rfl⟩
              rw [← hgx] at g0 g1 g2 g3 g4
              have hz2 : gx < w2.heap.size := cell_lt g0
              have i1 : (0 : Int) ≤ (way : Int) := by omega
              have i2 : (0 : Int) ≤ (rel : Int) := by omega
              have i3 : (0 : Int) ≤ (dut : Int) := by omega
              have j1 : (way : Int) < 3 := by omega
              have j2 : (rel : Int) < 3 := by omega
              have j3 : (dut : Int) < 6 := by omega
              have hA1 := wayA_at hm1
              have hA2 := relA_at hm2
              have hA3 := dutyA_at hm3
              clear hbx HX hf hA hd YR z0
              go_wp2_with fail
              rw [← hw2, ← hgx]
              clear hw2 hgx y0' y1' y2' y3' y4' D0 D1 D2 D3 hwr hbr Se1 Sz1 Se2 Sz2 Se3 Sz3 Se4 Sz4 Se5 Sz5 Se6 Sz6 Se7 Sz7 Se8 Sz8 v1 v2 v3
              refine wp_region_held_drew (S := (fun w' : World => w'.cell? ⟨gx, 0, none⟩ = some (.string lic) ∧ w'.cell? ⟨gx, 1, none⟩ = some (.int .i64 (way : Int)) ∧ w'.cell? ⟨gx, 2, none⟩ = some (.int .i64 (rel : Int)) ∧ w'.cell? ⟨gx, 3, none⟩ = some (.int .i64 (dut : Int)) ∧ w'.cell? ⟨gx, 4, none⟩ = some (.slice ya NX yc))) (by kernel_rfl) (by exact ⟨g0, g1, g2, g3, g4⟩) (fun hH0 => ?_)
              refine wpAnyH_take (i := 0) (oi := _) (v := ?_) rfl (by kernel_rfl) (by kernel_rfl) (by kernel_rfl) (fun _ _ _ h => h) (Or.inl ⟨by rfl, ?_⟩) hH0 ?_
              rotate_left
              · intro w hSw; (try dsimp only at hSw); go_simp
                all_goals with_reducible rfl
              (try simp only [Act.put, List.setIfInBounds_toArray, List.set_cons_zero, List.set_cons_succ])
              refine wpAnyH_take (i := 1) (oi := _) (v := ?_) rfl (by kernel_rfl) (by kernel_rfl) (by kernel_rfl) (fun _ _ _ h => h) (Or.inl ⟨by rfl, ?_⟩) hH0 ?_
              rotate_left
              · intro w hSw; (try dsimp only at hSw); go_simp
                all_goals with_reducible rfl
              (try simp only [Act.put, List.setIfInBounds_toArray, List.set_cons_zero, List.set_cons_succ])
              refine wpAnyH_take (i := 2) (oi := _) (v := ?_) rfl (by kernel_rfl) (by kernel_rfl) (by kernel_rfl) (fun _ _ _ h => h) (Or.inl ⟨by rfl, ?_⟩) hH0 ?_
              rotate_left
              · intro w hSw; (try dsimp only at hSw); go_simp
                all_goals with_reducible rfl
              (try simp only [Act.put, List.setIfInBounds_toArray, List.set_cons_zero, List.set_cons_succ])
              refine wpAnyH_take (i := 3) (oi := _) (v := ?_) rfl (by kernel_rfl) (by kernel_rfl) (by kernel_rfl) (fun _ _ _ h => h) (Or.inl ⟨by rfl, ?_⟩) hH0 ?_
              rotate_left
              · intro w hSw; (try dsimp only at hSw); go_simp
                all_goals with_reducible rfl
              (try simp only [Act.put, List.setIfInBounds_toArray, List.set_cons_zero, List.set_cons_succ])
              refine wpAnyH_take (i := 4) (oi := _) (v := ?_) rfl (by kernel_rfl) (by kernel_rfl) (by kernel_rfl) (fun _ _ _ h => h) (Or.inl ⟨by rfl, ?_⟩) hH0 ?_
              rotate_left
              · intro w hSw; (try dsimp only at hSw); go_simp
                all_goals with_reducible rfl
              (try simp only [Act.put, List.setIfInBounds_toArray, List.set_cons_zero, List.set_cons_succ])
              refine wpAnyH_take (i := 5) (oi := _) (v := ?_) rfl (by kernel_rfl) (by kernel_rfl) (by kernel_rfl) (fun _ _ _ h => h) (Or.inl ⟨by rfl, ?_⟩) hH0 ?_
              rotate_left
              · intro w hSw; (try dsimp only at hSw); go_simp
                all_goals with_reducible rfl
              (try simp only [Act.put, List.setIfInBounds_toArray, List.set_cons_zero, List.set_cons_succ])
              refine wpAnyH_take (i := 7) (oi := _) (v := ?_) rfl (by kernel_rfl) (by kernel_rfl) (by kernel_rfl) (fun _ _ _ h => h) (Or.inl ⟨by rfl, ?_⟩) hH0 ?_
              rotate_left
              · intro w hSw; (try dsimp only at hSw); go_simp
                all_goals with_reducible rfl
              (try simp only [Act.put, List.setIfInBounds_toArray, List.set_cons_zero, List.set_cons_succ])
              refine wpAnyH_take (i := 8) (oi := _) (v := ?_) rfl (by kernel_rfl) (by kernel_rfl) (by kernel_rfl) (fun _ _ _ h => h) (Or.inl ⟨by rfl, ?_⟩) hH0 ?_
              rotate_left
              · intro w hSw; (try dsimp only at hSw); go_simp
                all_goals with_reducible rfl
              (try simp only [Act.put, List.setIfInBounds_toArray, List.set_cons_zero, List.set_cons_succ])
              refine wpAnyH_take (i := 14) (oi := _) (v := ?_) rfl (by kernel_rfl) (by kernel_rfl) (by kernel_rfl) (fun _ _ _ h => h) (Or.inl ⟨by rfl, ?_⟩) hH0 ?_
              rotate_left
              · intro w hSw; (try dsimp only at hSw); go_simp
                all_goals with_reducible rfl
              (try simp only [Act.put, List.setIfInBounds_toArray, List.set_cons_zero, List.set_cons_succ])
              refine wpAnyH_take (i := 15) (oi := _) (v := ?_) rfl (by kernel_rfl) (by kernel_rfl) (by kernel_rfl) (fun _ _ _ h => h) (Or.inl ⟨by rfl, ?_⟩) hH0 ?_
              rotate_left
              · intro w hSw; (try dsimp only at hSw); go_simp
                all_goals with_reducible rfl
              (try simp only [Act.put, List.setIfInBounds_toArray, List.set_cons_zero, List.set_cons_succ])
              refine wpAnyH_take (i := 21) (oi := _) (v := ?_) rfl (by kernel_rfl) (by kernel_rfl) (by kernel_rfl) (fun _ _ _ h => h) (Or.inl ⟨by rfl, ?_⟩) hH0 ?_
              rotate_left
              · intro w hSw; (try dsimp only at hSw); go_simp
                all_goals with_reducible rfl
              (try simp only [Act.put, List.setIfInBounds_toArray, List.set_cons_zero, List.set_cons_succ])
              refine wpAnyH_take (i := 22) (oi := _) (v := ?_) rfl (by kernel_rfl) (by kernel_rfl) (by kernel_rfl) (fun _ _ _ h => h) (Or.inl ⟨by rfl, ?_⟩) hH0 ?_
              rotate_left
              · intro w hSw; (try dsimp only at hSw); go_simp
                all_goals with_reducible rfl
              (try simp only [Act.put, List.setIfInBounds_toArray, List.set_cons_zero, List.set_cons_succ])
              refine wpAnyH_ready (rs := [6]) (by kernel_rfl) (by simp) ?_
              refine AllReadyH.cons (o := _) rfl (fun K hK => ?_) AllReadyH.nil
              go_simp
              go_at_call 65
              refine (waysR _).mono ?_
              rintro e w4 ⟨rfl, T4, nT4, rfl⟩
              go_wp2_with fail
              refine hK.out _ _ ?_ (fun hHn => ?_)
              · exact keep0 (w := w2) hH0 (by first | ((repeat (first | exact Below.refl _ _ | assumption | refine Below.drewN ?_ _ | refine Below.drew ?_ | refine Below.alloc ?_ (by first | exact Nat.le_refl _ | (simp; done) | (simp; omega) | omega) _ | refine Below.setCell ?_ (by first | exact Nat.le_refl _ | (simp; done) | (simp; omega) | omega) _ | refine Below.trans ?_ (Below.mono (by assumption) (by first | exact Nat.le_refl _ | (simp; done) | (simp; omega) | omega)))); done) | fail)
              (try simp only [Act.put, List.setIfInBounds_toArray, List.set_cons_zero, List.set_cons_succ])
              clear hK K
              refine wpAnyH_mono (S := (fun w' : World => w'.cell? ⟨gx, 0, none⟩ = some (.string lic) ∧ w'.cell? ⟨gx, 1, none⟩ = some (.int .i64 (way : Int)) ∧ w'.cell? ⟨gx, 2, none⟩ = some (.int .i64 (rel : Int)) ∧ w'.cell? ⟨gx, 3, none⟩ = some (.int .i64 (dut : Int)) ∧ w'.cell? ⟨gx, 4, none⟩ = some (.slice ya NX yc) ∧ w'.heap[w2.heap.size]? = some (.cells wayA T4 (0, 0)))) (fun w h => sub0 h) ?_
              have hH1 := add0 (w := (w2.alloc (.cells wayA T4))) hHn (by have h := obj_new w2 (.cells wayA T4); exact h)
              clear hHn hH0
              refine wpAnyH_take (i := 9) (oi := _) (v := ?_) rfl (by kernel_rfl) (by kernel_rfl) (by kernel_rfl) (fun _ _ _ h => h) (Or.inl ⟨by rfl, ?_⟩) hH1 ?_
              rotate_left
              · intro w hSw; (try dsimp only at hSw); go_simp
                all_goals with_reducible rfl
              (try simp only [Act.put, List.setIfInBounds_toArray, List.set_cons_zero, List.set_cons_succ])
              refine wpAnyH_take (i := 10) (oi := _) (v := ?_) rfl (by kernel_rfl) (by kernel_rfl) (by kernel_rfl) (fun _ _ _ h => h) (Or.inl ⟨by rfl, ?_⟩) hH1 ?_
              rotate_left
              · intro w hSw; (try dsimp only at hSw); have hx := obj_cell hSw.2.2.2.2.2 hA1; go_simp
                all_goals with_reducible rfl
              (try simp only [Act.put, List.setIfInBounds_toArray, List.set_cons_zero, List.set_cons_succ])
              refine wpAnyH_take (i := 11) (oi := _) (v := ?_) rfl (by kernel_rfl) (by kernel_rfl) (by kernel_rfl) (fun _ _ _ h => h) (Or.inl ⟨by rfl, ?_⟩) hH1 ?_
              rotate_left
              · intro w hSw; (try dsimp only at hSw); go_simp
                all_goals with_reducible rfl
              (try simp only [Act.put, List.setIfInBounds_toArray, List.set_cons_zero, List.set_cons_succ])
              refine wpAnyH_take (i := 12) (oi := _) (v := ?_) rfl (by kernel_rfl) (by kernel_rfl) (by kernel_rfl) (fun _ _ _ h => h) (Or.inl ⟨by rfl, ?_⟩) hH1 ?_
              rotate_left
              · intro w hSw; (try dsimp only at hSw); go_simp
                all_goals with_reducible rfl
              (try simp only [Act.put, List.setIfInBounds_toArray, List.set_cons_zero, List.set_cons_succ])
              refine wpAnyH_ready (rs := [13]) (by kernel_rfl) (by simp) ?_
              refine AllReadyH.cons (o := _) rfl (fun K hK => ?_) AllReadyH.nil
              go_simp
              go_at_call 66
              refine (relsR _).mono ?_
              rintro e w4 ⟨rfl, T5, nT5, rfl⟩
              go_wp2_with fail
              refine hK.out _ _ ?_ (fun hHn => ?_)
              · exact keep1 (w := (w2.alloc (.cells wayA T4))) hH1 (by first | ((repeat (first | exact Below.refl _ _ | assumption | refine Below.drewN ?_ _ | refine Below.drew ?_ | refine Below.alloc ?_ (by first | exact Nat.le_refl _ | (simp; done) | (simp; omega) | omega) _ | refine Below.setCell ?_ (by first | exact Nat.le_refl _ | (simp; done) | (simp; omega) | omega) _ | refine Below.trans ?_ (Below.mono (by assumption) (by first | exact Nat.le_refl _ | (simp; done) | (simp; omega) | omega)))); done) | fail)
              (try simp only [Act.put, List.setIfInBounds_toArray, List.set_cons_zero, List.set_cons_succ])
              clear hK K
              refine wpAnyH_mono (S := (fun w' : World => w'.cell? ⟨gx, 0, none⟩ = some (.string lic) ∧ w'.cell? ⟨gx, 1, none⟩ = some (.int .i64 (way : Int)) ∧ w'.cell? ⟨gx, 2, none⟩ = some (.int .i64 (rel : Int)) ∧ w'.cell? ⟨gx, 3, none⟩ = some (.int .i64 (dut : Int)) ∧ w'.cell? ⟨gx, 4, none⟩ = some (.slice ya NX yc) ∧ w'.heap[w2.heap.size]? = some (.cells wayA T4 (0, 0)) ∧ w'.heap[w2.heap.size + 1]? = some (.cells relA T5 (0, 0)))) (fun w h => sub1 h) ?_
              have hH2 := add1 (w := ((w2.alloc (.cells wayA T4)).alloc (.cells relA T5))) hHn (by have h := obj_new (w2.alloc (.cells wayA T4)) (.cells relA T5); rw [World.size_alloc] at h; exact h)
              clear hHn hH1
              refine wpAnyH_take (i := 16) (oi := _) (v := ?_) rfl (by kernel_rfl) (by kernel_rfl) (by kernel_rfl) (fun _ _ _ h => h) (Or.inl ⟨by rfl, ?_⟩) hH2 ?_
              rotate_left
              · intro w hSw; (try dsimp only at hSw); go_simp
                all_goals with_reducible rfl
              (try simp only [Act.put, List.setIfInBounds_toArray, List.set_cons_zero, List.set_cons_succ])
              refine wpAnyH_take (i := 17) (oi := _) (v := ?_) rfl (by kernel_rfl) (by kernel_rfl) (by kernel_rfl) (fun _ _ _ h => h) (Or.inl ⟨by rfl, ?_⟩) hH2 ?_
              rotate_left
              · intro w hSw; (try dsimp only at hSw); have hx := obj_cell hSw.2.2.2.2.2.2 hA2; go_simp
                all_goals with_reducible rfl
              (try simp only [Act.put, List.setIfInBounds_toArray, List.set_cons_zero, List.set_cons_succ])
              refine wpAnyH_take (i := 18) (oi := _) (v := ?_) rfl (by kernel_rfl) (by kernel_rfl) (by kernel_rfl) (fun _ _ _ h => h) (Or.inl ⟨by rfl, ?_⟩) hH2 ?_
              rotate_left
              · intro w hSw; (try dsimp only at hSw); go_simp
                all_goals with_reducible rfl
              (try simp only [Act.put, List.setIfInBounds_toArray, List.set_cons_zero, List.set_cons_succ])
              refine wpAnyH_take (i := 19) (oi := _) (v := ?_) rfl (by kernel_rfl) (by kernel_rfl) (by kernel_rfl) (fun _ _ _ h => h) (Or.inl ⟨by rfl, ?_⟩) hH2 ?_
              rotate_left
              · intro w hSw; (try dsimp only at hSw); go_simp
                all_goals with_reducible rfl
              (try simp only [Act.put, List.setIfInBounds_toArray, List.set_cons_zero, List.set_cons_succ])
              refine wpAnyH_ready (rs := [20]) (by kernel_rfl) (by simp) ?_
              refine AllReadyH.cons (o := _) rfl (fun K hK => ?_) AllReadyH.nil
              go_simp
              go_at_call 64
              refine (dutiesR _).mono ?_
              rintro e w4 ⟨rfl, T6, nT6, rfl⟩
              go_wp2_with fail
              refine hK.out _ _ ?_ (fun hHn => ?_)
              · exact keep2 (w := ((w2.alloc (.cells wayA T4)).alloc (.cells relA T5))) hH2 (by first | ((repeat (first | exact Below.refl _ _ | assumption | refine Below.drewN ?_ _ | refine Below.drew ?_ | refine Below.alloc ?_ (by first | exact Nat.le_refl _ | (simp; done) | (simp; omega) | omega) _ | refine Below.setCell ?_ (by first | exact Nat.le_refl _ | (simp; done) | (simp; omega) | omega) _ | refine Below.trans ?_ (Below.mono (by assumption) (by first | exact Nat.le_refl _ | (simp; done) | (simp; omega) | omega)))); done) | fail)
              (try simp only [Act.put, List.setIfInBounds_toArray, List.set_cons_zero, List.set_cons_succ])
              clear hK K
              refine wpAnyH_mono (S := (fun w' : World => w'.cell? ⟨gx, 0, none⟩ = some (.string lic) ∧ w'.cell? ⟨gx, 1, none⟩ = some (.int .i64 (way : Int)) ∧ w'.cell? ⟨gx, 2, none⟩ = some (.int .i64 (rel : Int)) ∧ w'.cell? ⟨gx, 3, none⟩ = some (.int .i64 (dut : Int)) ∧ w'.cell? ⟨gx, 4, none⟩ = some (.slice ya NX yc) ∧ w'.heap[w2.heap.size]? = some (.cells wayA T4 (0, 0)) ∧ w'.heap[w2.heap.size + 1]? = some (.cells relA T5 (0, 0)) ∧ w'.heap[w2.heap.size + 1 + 1]? = some (.cells dutyA T6 (0, 0)))) (fun w h => sub2 h) ?_
              have hH3 := add2 (w := (((w2.alloc (.cells wayA T4)).alloc (.cells relA T5)).alloc (.cells dutyA T6))) hHn (by have h := obj_new ((w2.alloc (.cells wayA T4)).alloc (.cells relA T5)) (.cells dutyA T6); rw [World.size_alloc, World.size_alloc] at h; exact h)
              clear hHn hH2
              refine wpAnyH_take (i := 23) (oi := _) (v := ?_) rfl (by kernel_rfl) (by kernel_rfl) (by kernel_rfl) (fun _ _ _ h => h) (Or.inl ⟨by rfl, ?_⟩) hH3 ?_
              rotate_left
              · intro w hSw; (try dsimp only at hSw); go_simp
                all_goals with_reducible rfl
              (try simp only [Act.put, List.setIfInBounds_toArray, List.set_cons_zero, List.set_cons_succ])
              refine wpAnyH_take (i := 24) (oi := _) (v := ?_) rfl (by kernel_rfl) (by kernel_rfl) (by kernel_rfl) (fun _ _ _ h => h) (Or.inl ⟨by rfl, ?_⟩) hH3 ?_
              rotate_left
              · intro w hSw; (try dsimp only at hSw); have hx := obj_cell hSw.2.2.2.2.2.2.2 hA3; go_simp
                all_goals with_reducible rfl
              (try simp only [Act.put, List.setIfInBounds_toArray, List.set_cons_zero, List.set_cons_succ])
              refine wpAnyH_take (i := 25) (oi := _) (v := ?_) rfl (by kernel_rfl) (by kernel_rfl) (by kernel_rfl) (fun _ _ _ h => h) (Or.inl ⟨by rfl, ?_⟩) hH3 ?_
              rotate_left
              · intro w hSw; (try dsimp only at hSw); go_simp
                all_goals with_reducible rfl
              (try simp only [Act.put, List.setIfInBounds_toArray, List.set_cons_zero, List.set_cons_succ])
              refine wpAnyH_take (i := 26) (oi := _) (v := ?_) rfl (by kernel_rfl) (by kernel_rfl) (by kernel_rfl) (fun _ _ _ h => h) (Or.inl ⟨by rfl, ?_⟩) hH3 ?_
              rotate_left
              · intro w hSw; (try dsimp only at hSw); go_simp
                all_goals with_reducible rfl
              (try simp only [Act.put, List.setIfInBounds_toArray, List.set_cons_zero, List.set_cons_succ])
              refine wpAnyH_done (by kernel_rfl) ?_ _
              have hb25 : Below w2.heap.size w2 (((w2.alloc (.cells wayA T4)).alloc (.cells relA T5)).alloc (.cells dutyA T6)) := (by first | ((repeat (first | exact Below.refl _ _ | assumption | refine Below.drewN ?_ _ | refine Below.drew ?_ | refine Below.alloc ?_ (by first | exact Nat.le_refl _ | (simp; done) | (simp; omega) | omega) _ | refine Below.setCell ?_ (by first | exact Nat.le_refl _ | (simp; done) | (simp; omega) | omega) _ | refine Below.trans ?_ (Below.mono (by assumption) (by first | exact Nat.le_refl _ | (simp; done) | (simp; omega) | omega)))); done) | fail)
              have HBY := Lib.hid (HBX.out.trans (hb25.mono HBX.out.size))
              have YR5 := Lib.hid (YR2.out.mono hb25)
              have G4 := kept hb25 g4
              clear hb25 hH3 g0 g1 g2 g3 g4 HBX YR2 hA1 hA2 hA3 i1 i2 i3 j1 j2 j3 Sr1 Sr2 Sr3 Sr4 Sr5 Sr6 Sr7 Sr8
              generalize (((w2.alloc (.cells wayA T4)).alloc (.cells relA T5)).alloc (.cells dutyA T6)) = w5 at *
              have hz5 : gx < w5.heap.size := cell_lt G4
              go_wp2
              go_loopw [5, 15] (fun sv jv wr => ∃ (j : Nat) (B : ByteArray), sv = .string B ∧ j ≤ NX ∧ jv = .int .i64 j ∧ B.size ≤ 65536 ∧ Hid (FL = B.data.toList ++ (((lst.drop j).map fun s => 32 :: s.data.toList).flatten ++ [10]) ++ (((c.clauses.drop (k + 1)).map fmtClause).flatten ++ (c.apart.map fmtPair).flatten)) ∧ wr = w5.drew) (fun _ jv _ => NX - (intOf jv).toNat)
              case atStart => exact ⟨0, S8, rfl, by omega, rfl, hS8, HJ, by first | rfl | trivial⟩
              case round =>
                clear HJ hS8
                obtain ⟨j, B, rfl, hj, rfl, hB, hJ, rfl⟩ := hrel
                by_cases hji : j < NX
                · obtain ⟨y, hy⟩ := get_lt (xs := lst) (k := j) (by rw [← HNX.out]; exact hji)
                  obtain ⟨b6, o6, rfl, hb6, u0, -⟩ := str_at YR5.out hy
                  have hy4 := HS5.out y (List.mem_of_getElem? hy)
                  have hdj := Lib.hid (drop_at hy)
                  have hj0 : (0 : Int) ≤ (j : Int) := by omega
                  have hj1 : (j : Int) < (NX : Int) := by omega
                  clear hy
                  have sz0 : (⟨#[32]⟩ : ByteArray).size ≤ 1 := by decide
                  obtain ⟨T1, Tr1, Te1, Tz1⟩ := str_step B (⟨#[32]⟩ : ByteArray) (by omega)
                  obtain ⟨T2, Tr2, Te2, Tz2⟩ := str_step T1 y (by omega)
                  have HJ2 : Hid (FL = T2.data.toList ++ (((lst.drop (j + 1)).map fun s => 32 :: s.data.toList).flatten ++ [10]) ++ (((c.clauses.drop (k + 1)).map fmtClause).flatten ++ (c.apart.map fmtPair).flatten)) := by
                    show _ = _
                    rw [hJ.out, hdj.out, Te2.out, Te1.out]
                    simp
                  have hT2 : T2.size ≤ 65536 := by rw [size_of_list rfl]; exact pre_le (by have := HJ2.out; rw [List.append_assoc] at this; exact this) HL6.out
                  go_wp2
                  go_roundw
                  case rel => exact ⟨j + 1, T2, rfl, by omega, by go_num, hT2, HJ2, by first | rfl | trivial⟩
                  case measure => simp [intOf]; omega
                · have sz0 : (⟨#[10]⟩ : ByteArray).size ≤ 1 := by decide
                  obtain ⟨U1, Ur1, Ue1, Uz1⟩ := str_step B (⟨#[10]⟩ : ByteArray) (by omega)
                  have HJ3 : Hid (FL = U1.data.toList ++ ((c.clauses.drop (k + 1)).map fmtClause).flatten ++ (c.apart.map fmtPair).flatten) := by
                    show _ = _
                    rw [hJ.out, Ue1.out, List.drop_eq_nil_of_le (by rw [← HNX.out]; omega)]
                    simp
                  have hU1 : U1.size ≤ 65536 := by rw [size_of_list rfl]; exact pre_le (by have := HJ3.out; rw [List.append_assoc] at this; exact this) HL6.out
                  clear hJ
                  go_wp2
                  go_roundw
                  case rel => exact ⟨k + 1, U1, rfl, by omega, by go_num, hU1, HJ3, Lib.hid HBY.out.drew⟩
                  case measure => simp [intOf]; omega
            · have HS3 : Hid (FL = A.data.toList ++ ((c.apart.drop 0).map fmtPair).flatten ++ []) := by
                show _ = _
                rw [hf.out, List.drop_eq_nil_of_le (by rw [HN.out.2.2.1]; omega)]; simp
              go_wp2
              go_loopw [5, 16] (fun sv kv wr => ∃ (k : Nat) (A : ByteArray), sv = .string A ∧ k ≤ N3 ∧ kv = .int .i64 k ∧ A.size ≤ 65536 ∧ Hid (FL = A.data.toList ++ ((c.apart.drop k).map fmtPair).flatten ++ []) ∧ Hid (Below w1.heap.size w1 wr)) (fun _ kv _ => N3 - (intOf kv).toNat)
              case atStart => exact ⟨0, A, rfl, by omega, rfl, hA, HS3, hbr⟩
              case round =>
                clear hbr hf hk hki HS3 hA D0 D1 D2 D3 hwr
                obtain ⟨k, A, rfl, hk, rfl, hA, hf, hbr⟩ := hrel
                have D0 := kept hbr.out cc0
                have D1 := kept hbr.out cc1
                have D2 := kept hbr.out cc2
                have D3 := kept hbr.out cc3
                have hwr : w1.heap.size ≤ wr.heap.size := hbr.out.size
                by_cases hki : k < N3
                · obtain ⟨x, hx⟩ := get_lt (xs := c.apart) (k := k) (by rw [HN.out.2.2.2]; exact hki)
                  have hd := Lib.hid (drop_at hx)
                  have HX : Hid (FL = (A.data.toList ++ fmtPair x) ++ (((c.apart.drop (k + 1)).map fmtPair).flatten ++ [])) := by
                    show _ = _
                    rw [hf.out, hd.out]; simp
                  obtain ⟨z0, z1⟩ := HOS.out.2.2.2 x (List.mem_of_getElem? hx)
                  obtain ⟨b, off, rfl, hb, y0, y1, -⟩ := Pair.at_row (R3.out.mono (HB1.out.trans (hbr.out.mono HB1.out.size))) hx
                  have hk0 : (0 : Int) ≤ (k : Int) := by omega
                  have hk1 : (k : Int) < (N3 : Int) := by omega
                  clear hx
                  have sz0 : (⟨#[97, 112, 97, 114, 116, 32]⟩ : ByteArray).size ≤ 6 := by decide
                  have sz1 : (⟨#[32]⟩ : ByteArray).size ≤ 1 := by decide
                  have sz2 : (⟨#[10]⟩ : ByteArray).size ≤ 1 := by decide
                  obtain ⟨S1, Sr1, Se1, Sz1⟩ := str_step A (⟨#[97, 112, 97, 114, 116, 32]⟩ : ByteArray) (by omega)
                  obtain ⟨S2, Sr2, Se2, Sz2⟩ := str_step S1 x.a (by omega)
                  obtain ⟨S3, Sr3, Se3, Sz3⟩ := str_step S2 (⟨#[32]⟩ : ByteArray) (by omega)
                  obtain ⟨S4, Sr4, Se4, Sz4⟩ := str_step S3 x.b (by omega)
                  obtain ⟨S5, Sr5, Se5, Sz5⟩ := str_step S4 (⟨#[10]⟩ : ByteArray) (by omega)
                  have HJ : Hid (FL = S5.data.toList ++ ((c.apart.drop (k + 1)).map fmtPair).flatten ++ []) := by
                    show _ = _
                    rw [HX.out, Se5.out, Se4.out, Se3.out, Se2.out, Se1.out]
                    simp [fmtPair, putL, joinB, mkS, wApart]
                  have hS5 : S5.size ≤ 65536 := by rw [size_of_list rfl]; exact pre_le (by have := HJ.out; rw [List.append_assoc] at this; exact this) HL6.out
                  clear HX hf hA hd z0 z1
                  go_wp2
                  go_quiet (fail)
                  go_wp2
                  go_roundw
                  case rel => exact ⟨k + 1, S5, rfl, by omega, by go_num, hS5, HJ, Lib.hid (hbr.out.drewN _)⟩
                  case measure => simp [intOf]; omega
                · have HZ : Hid (A = formatC c) := by
                    show _ = _
                    rw [HF.out]
                    refine ba_list ?_
                    rw [mkS_toList, hf.out, List.drop_eq_nil_of_le (by rw [HN.out.2.2.2]; omega)]; simp
                  have HBZ := Lib.hid (HB1.out.trans (hbr.out.mono HB1.out.size))
                  clear hf
                  go_wp2
                  refine bodyPost_ret (v := .tuple #[.string A, .int .i64 0]) (by simp [results, Tryz.results17, go_sem]) rfl ⟨by rw [HZ.out, HCK.out], ?_⟩
                  exact HBZ.out
end Go.Proofs.YtaneolfnnkppbaaGreatDoor
