/- The statement of lines in any order: what its function computes. -/
import Derived.Test.YtaneolfnnkppbaaGreatDoorJAwake
import Derived.Test.YtaneolfnnkppbaaGreatDoorJLawV
import Derived.Test.YtaneolfnnkppbaaGreatDoorJSameU
import Derived.Test.YtaneolfnnkppbaaGreatDoorJLinU
set_option linter.all false
namespace Go.Proofs.YtaneolfnnkppbaaGreatDoor
open Go Go.RowKit Go.ChangeShapes
def gapB (n : Nat) : ByteArray := mkS (gapS n)
theorem gapB_size {n : Nat} (h : n < 4) : (gapB n).size ≤ 12 := by
  match n, h with
  | 0, _ => decide +kernel
  | 1, _ => decide +kernel
  | 2, _ => decide +kernel
  | 3, _ => decide +kernel
structure LS (c : Catalog) (bs rs : List TBlk) (T : List UInt8) : Prop where
  text : T = unl (linesOf bs)
  ok : ∀ b ∈ bs, b.OK
  perm : (bs.filter (fun b => !b.isGap) ++ rs).Perm (blksOf c)
theorem LS.gap {c : Catalog} {bs rs : List TBlk} {T : List UInt8} (h : LS c bs rs T) (n : Nat) : LS c (bs ++ gapT n) rs (T ++ gapS n) := by
  refine ⟨?_, fun b hb => ?_, ?_⟩
  · rw [h.text, linesOf_append, unl_append]
    congr 1
    exact (gap_unl n).symm
  · rcases List.mem_append.1 hb with hb | hb
    · exact h.ok b hb
    · exact (gap_ok n).1 b hb
  · rw [List.filter_append, (gap_ok n).2, List.append_nil]; exact h.perm
theorem LS.part {c : Catalog} (hc : checkC c = 0) {bs rs : List TBlk} {T : List UInt8} (h : LS c bs rs T) {k : Nat} {b : TBlk} (hb : rs[k]? = some b) : LS c (bs ++ [b]) (rs.eraseIdx k) (T ++ b.bytes.data.toList) := by
  have hm : b ∈ blksOf c := (h.perm.mem_iff).1 (List.mem_append.2 (Or.inr (List.mem_of_getElem? hb)))
  have hcut := cuts hc b hm
  refine ⟨?_, fun d hd => ?_, ?_⟩
  · rw [h.text, linesOf_append, unl_append, linesOf_cons]
    congr 1
    unfold TBlk.bytes
    rw [mkS_toList]
    simp [linesOf]
  · rcases List.mem_append.1 hd with hd | hd
    · exact h.ok d hd
    · rw [List.mem_singleton.1 hd]; exact hcut.ok
  · have h2 : [b].filter (fun b => !b.isGap) = [b] := by simp [List.filter_cons, hcut.gap]
    rw [List.filter_append, h2, List.append_assoc]
    refine List.Perm.trans (List.Perm.append_left _ ?_) h.perm
    rw [List.singleton_append]
    have hk := lt_get hb
    have e : rs = rs.take k ++ b :: rs.drop (k + 1) := by rw [← drop_at hb, List.take_append_drop]
    rw [List.eraseIdx_eq_take_drop_succ]
    conv => rhs; rw [e]
    exact List.perm_middle.symm
theorem map_erase (rs : List TBlk) (k : Nat) : (rs.map TBlk.bytes).eraseIdx k = (rs.eraseIdx k).map TBlk.bytes := by
  rw [List.eraseIdx_eq_take_drop_succ, List.eraseIdx_eq_take_drop_succ, List.map_append, List.map_take, List.map_drop]
theorem Delete_map (g c k : Nat) (xs : List ByteArray) {n : Nat} (w : World) (hk : k < xs.length) (hc : xs.length ≤ c) (hm : c ≤ maxLen) (h : SR g w xs) (B : Nat) (hB : B ≤ g) (hn : n = xs.length) :
    Calls Tryz.prog 37 #[.slice (some ⟨g, 0, none⟩) n c, .int .i64 (k : Int), .int .i64 ((k + 1 : Nat) : Int)] w fun e w' => e = .returned (.slice (some ⟨g, 0, none⟩) (n - 1) c) ∧ SR g w' (xs.eraseIdx k) ∧ Below B w w' := by
  subst hn
  exact Delete_one g c k xs w hk hc hm h B hB
theorem blks_len {c : Catalog} (h : checkC c = 0) : (blksOf c).length ≤ 240 := by
  obtain ⟨-, -, -, -, n0, n1, n2, n3⟩ := check_parts h
  unfold blksOf
  simp only [List.length_append, List.length_map]
  omega
set_option maxRecDepth 100000 in
set_option maxHeartbeats 8000000 in
theorem CatalogLines_p (w : World) (x0 x1 : Value) (c : Catalog) (ord : List UInt8) (hg : Glob w) (h : Is w x0 c) (h1 : Is w x1 ord) (hT : SpTab w) :
    Calls Tryz.prog 10 #[x0, x1] w fun e w' => e = .returned (.bool true) ∧ Below w.heap.size w w' := by
  obtain ⟨a0, c0, a1, c1, a2, c2, a3, c3, rfl, l0, m0, r0, l1, m1, r1, l2, m2, r2, l3, m3, r3⟩ := Catalog.inv h
  have HI := Lib.hid h
  have HG := Lib.hid hg
  have n0 : c.licenses.length ≤ 9223372036854775807 := by simp only [maxLen] at m0; omega
  have n1 : c.exceptions.length ≤ 9223372036854775807 := by simp only [maxLen] at m1; omega
  have n2 : c.clauses.length ≤ 9223372036854775807 := by simp only [maxLen] at m2; omega
  have n3 : c.apart.length ≤ 9223372036854775807 := by simp only [maxLen] at m3; omega
  obtain ⟨oa, oc, rfl, ol, om, hor⟩ := list_inv h1
  simp only [maxLen] at om
  have HOR := Lib.hid hor
  have HT := Lib.hid hT
  obtain ⟨NO, hNO⟩ : ∃ NO, NO = ord.length := ⟨_, rfl⟩
  rw [← hNO] at ol ⊢
  have HNO := Lib.hid hNO
  clear hor h1 hT hNO
  clear h hg r0 r1 r2 r3 l0 l1 l2 l3 m0 m1 m2 m3
  generalize hL0 : c.licenses.length = N0 at *
  generalize hL1 : c.exceptions.length = N1 at *
  generalize hL2 : c.clauses.length = N2 at *
  generalize hL3 : c.apart.length = N3 at *
  have HL := Lib.hid (And.intro hL0 (And.intro hL1 (And.intro hL2 hL3)))
  clear hL0 hL1 hL2 hL3
  go_enter Tryz.func10, Tryz.ntmps10
  go_wp2_with fail
  have HB1 : Hid (Below w.heap.size w (w.alloc (.cells #[.slice a0 N0 c0, .slice a1 N1 c1, .slice a2 N2 c2, .slice a3 N3 c3] 28))) := by show Below _ _ _; exact (by first | ((repeat (first | exact Below.refl _ _ | assumption | refine Below.drewN ?_ _ | refine Below.drew ?_ | refine Below.alloc ?_ (by first | exact Nat.le_refl _ | (simp; done) | (simp; omega) | omega) _ | refine Below.setCell ?_ (by first | exact Nat.le_refl _ | (simp; done) | (simp; omega) | omega) _ | refine Below.trans ?_ (Below.mono (by assumption) (by first | exact Nat.le_refl _ | (simp; done) | (simp; omega) | omega)))); done) | fail)
  have d0 : (w.alloc (.cells #[.slice a0 N0 c0, .slice a1 N1 c1, .slice a2 N2 c2, .slice a3 N3 c3] 28)).cell? ⟨w.heap.size, 0, none⟩ = some (.slice a0 N0 c0) := by simp
  have d1 : (w.alloc (.cells #[.slice a0 N0 c0, .slice a1 N1 c1, .slice a2 N2 c2, .slice a3 N3 c3] 28)).cell? ⟨w.heap.size, 1, none⟩ = some (.slice a1 N1 c1) := by simp
  have d2 : (w.alloc (.cells #[.slice a0 N0 c0, .slice a1 N1 c1, .slice a2 N2 c2, .slice a3 N3 c3] 28)).cell? ⟨w.heap.size, 2, none⟩ = some (.slice a2 N2 c2) := by simp
  have d3 : (w.alloc (.cells #[.slice a0 N0 c0, .slice a1 N1 c1, .slice a2 N2 c2, .slice a3 N3 c3] 28)).cell? ⟨w.heap.size, 3, none⟩ = some (.slice a3 N3 c3) := by simp
  have HI1 := Lib.hid (HI.out.mono HB1.out)
  have HG1 := Lib.hid (HG.out.mono HB1.out)
  generalize w.alloc (.cells #[.slice a0 N0 c0, .slice a1 N1 c1, .slice a2 N2 c2, .slice a3 N3 c3] 28) = w1 at *
  have z1 : w.heap.size < w1.heap.size := cell_lt d0
  clear HI HG
  refine (awake_p w1 HG1.out).mono ?_
  rintro e w2 ⟨rfl, hb⟩
  have e0 := kept hb d0
  have e1 := kept hb d1
  have e2 := kept hb d2
  have e3 := kept hb d3
  have HI2 := Lib.hid (HI1.out.mono hb)
  have HG2 := Lib.hid (HG1.out.mono hb)
  have HB2 := Lib.hid (HB1.out.trans (hb.mono HB1.out.size))
  have z2 : w.heap.size < w2.heap.size := cell_lt e0
  clear d0 d1 d2 d3 hb HI1 HG1 HB1 z1 
  go_wp2_with fail
  refine (Few_any w2 _ c HI2.out).mono ?_
  unfold FewB
  rintro e w3 ⟨fb, rfl, hb, hfew⟩
  have HFEW := Lib.hid hfew
  clear hfew
  have d0 := kept hb e0
  have d1 := kept hb e1
  have d2 := kept hb e2
  have d3 := kept hb e3
  have HI3 := Lib.hid (HI2.out.mono hb)
  have HG3 := Lib.hid (HG2.out.mono hb)
  have HB3 := Lib.hid (HB2.out.trans (hb.mono HB2.out.size))
  have z3 : w.heap.size < w3.heap.size := cell_lt d0
  clear e0 e1 e2 e3 hb HI2 HG2 HB2 z2 
  cases fb
  case false =>
    go_wp2
    go_ret
    exact ⟨rfl, HB3.out⟩
  cases q1 : decide ((200 : Int) < (NO : Int))
  case true =>
    go_wp2
    go_ret
    exact ⟨rfl, HB3.out⟩
  have HFL := Lib.hid (HFEW.out rfl)
  have hno : NO ≤ 200 := by have := of_decide_eq_false q1; omega
  clear HFEW
  go_wp2_with fail
  refine (Format_p w3 _ c HG3.out HI3.out (fun h => Nat.le_trans (HFL.out h) (by decide))).mono ?_
  rintro e w4 ⟨rfl, hb⟩
  have e0 := kept hb d0
  have e1 := kept hb d1
  have e2 := kept hb d2
  have e3 := kept hb d3
  have HI4 := Lib.hid (HI3.out.mono hb)
  have HG4 := Lib.hid (HG3.out.mono hb)
  have HB4 := Lib.hid (HB3.out.trans (hb.mono HB3.out.size))
  have z4 : w.heap.size < w4.heap.size := cell_lt e0
  clear d0 d1 d2 d3 hb HI3 HG3 HB3 z3 
  clear q1
  cases q3 : ((checkC c : Int) != 0)
  case true =>
    have HF : Hid (formatC c = ⟨#[]⟩) := by show _ = _; unfold formatC; rw [q3]; rfl
    rw [HF.out]
    generalize checkC c = ck at *
    go_wp2
    go_ret
    exact ⟨rfl, HB4.out⟩
  have hv : checkC c = 0 := by simpa using q3
  have HV := Lib.hid hv
  have HLEN := Lib.hid (HFL.out hv)
  have HFC : Hid (formatC c = mkS (unl (linesOf (blksOf c)))) := by
    show _ = _
    unfold formatC
    rw [q3, if_neg (by simp), format_unl]
    rfl
  have HCUT := Lib.hid (cuts hv)
  have HBL := Lib.hid (blks_len hv)
  have HUL2 : Hid ((unl (linesOf (blksOf c))).length ≤ 65536) := by
    show _ ≤ _
    have := HLEN.out
    rw [format_unl] at this
    exact this
  have HULEN : Hid ((unl (linesOf (blksOf c))).length ≤ 65536) := by
    show _ ≤ _
    have := HLEN.out
    rw [format_unl] at this
    exact this
  clear hv HFL
  rw [HV.out]
  have q3 : ((0 : Int) != 0) = false := rfl
  rw [HFC.out]
  obtain ⟨X, hX⟩ : ∃ X, X = mkS (unl (linesOf (blksOf c))) := ⟨_, rfl⟩
  have HBLK := Lib.hid (fun W hg hT => blocks_l W (blksOf c) HCUT.out HULEN.out hg hT)
  rw [← hX] at HBLK ⊢
  clear hX
  have HT4 := Lib.hid (HT.out.mono HB4.out)
  go_wp2_with fail
  refine (HBLK.out w4 HG4.out HT4.out).mono ?_
  unfold BOut
  rintro e w5 ⟨bv, rfl, hbo, hb⟩
  obtain ⟨ra, rc, rfl, hrs⟩ := hbo.sr
  have HB45 := Lib.hid hb
  have HRS0 := Lib.hid hrs
  have HOR4 := Lib.hid (HOR.out.mono HB4.out)
  clear hrs hbo HBLK HFC HULEN HLEN HT4 hb HT HOR
  rw [List.length_map]
  obtain ⟨NB, hNB⟩ : ∃ NB, NB = (blksOf c).length := ⟨_, rfl⟩
  rw [← hNB]
  have hnb : NB ≤ 240 := by rw [hNB]; exact HBL.out
  have HNB := Lib.hid hNB
  have HSB : Hid (∀ b ∈ blksOf c, b.bytes.size ≤ 65536) := fun b hb => by
    have h1 := HUL2.out
    unfold TBlk.bytes
    rw [mkS_size]
    refine Nat.le_trans ?_ h1
    obtain ⟨l1, l2, hl⟩ := List.append_of_mem hb
    rw [hl, linesOf_append, linesOf_cons, unl_append, unl_append]
    simp only [List.length_append]
    omega
  clear hNB
  go_wp2
  go_loopw [7, 8, 9] (fun rv tv iv wr => ∃ (i : Nat) (T : ByteArray) (bs rs : List TBlk) (ra : Option Addr) (rc n : Nat), rv = .slice ra n rc ∧ tv = .string T ∧ iv = .int .i64 i ∧ i + n = NB ∧ T.size ≤ i * 70000 ∧ Hid (n = rs.length) ∧ Hid (LS c bs rs T.data.toList) ∧ Hid (∀ b ∈ rs, b ∈ blksOf c) ∧ Hid (rs ≠ [] → ∃ g, ra = some ⟨g, 0, none⟩ ∧ w4.heap.size ≤ g ∧ rs.length ≤ rc ∧ rc ≤ maxLen ∧ SR g wr (rs.map TBlk.bytes)) ∧ Hid (Below w4.heap.size w4 wr)) (fun _ _ iv _ => NB - (intOf iv).toNat)
  case atStart =>
    refine ⟨0, ⟨#[]⟩, [], blksOf c, ra, rc, NB, rfl, rfl, rfl, by omega, by decide, HNB, Lib.hid ⟨rfl, fun b hb => by simp at hb, by simp⟩, Lib.hid (fun b hb => hb), ?_, HB45⟩
    show _ → _
    intro hne
    have := HRS0.out (by simpa using hne)
    simpa using this
  case round =>
    clear HRS0 HB45
    obtain ⟨i, T, bs, rs, ra, rc, n, rfl, rfl, rfl, hin, hTz, HN, HLS, HRM, HRS, hbr⟩ := hrel
    have E0 := kept hbr.out e0
    have E1 := kept hbr.out e1
    have E2 := kept hbr.out e2
    have E3 := kept hbr.out e3
    have hwr : w4.heap.size ≤ wr.heap.size := hbr.out.size
    by_cases hn : 0 < n
    · have hrne : rs ≠ [] := fun e => by have := HN.out; rw [e] at this; simp at this; omega
      obtain ⟨g, rfl, hg, hrl, hrm, hsr⟩ := HRS.out hrne
      have HSR := Lib.hid hsr
      have hrl2 : n ≤ rc := by rw [HN.out]; exact hrl
      have HRC := Lib.hid hrm
      simp only [maxLen] at hrm
      have hn0 : (0 : Int) < (n : Int) := by omega
      have hi9 : i ≤ 240 := by omega
      have hTz9 : T.size ≤ 240 * 70000 := Nat.le_trans hTz (Nat.mul_le_mul_right _ hi9)
      clear hsr hrl hrne HRS
      by_cases hio : i < NO
      · have hio0 : (0 : Int) ≤ (i : Int) := by omega
        have hio1 : (i : Int) < (NO : Int) := by omega
        obtain ⟨y, hy⟩ := get_lt (xs := ord) (k := i) (by rw [← HNO.out]; exact hio)
        obtain ⟨bo, oo, rfl, hbo, hyc'⟩ := u8_at HOR4.out hy
        have hyc := kept hbr.out hyc'
        have hbo2 : bo < wr.heap.size := cell_lt hyc
        have hy8 : y.toNat < 256 := y.toNat_lt
        obtain ⟨Y, hY⟩ : ∃ Y, Y = y.toNat := ⟨_, rfl⟩
        rw [← hY] at hyc hy8
        obtain ⟨k, hk⟩ : ∃ k, k = Y % n := ⟨_, rfl⟩
        have hkn : k < n := by rw [hk]; exact Nat.mod_lt _ hn
        have hk1 : ((Y : Int) % (n : Int)) = (k : Int) := by rw [hk]; rfl
        have hk2 : ((Y : Int).tmod (n : Int)) = (k : Int) := by rw [hk]; rfl
        have hkz : (0 : Int) ≤ (k : Int) := by omega
        have hkz1 : (k : Int) < (n : Int) := by omega
        have hqq : Y % 4 = 0 ∨ Y % 4 = 1 ∨ Y % 4 = 2 ∨ Y % 4 = 3 := by omega
        clear hy hyc' hY hk
        rcases hqq with hqq | hqq | hqq | hqq
        · have hq1 : ((Y : Int) % 4) = 0 := by omega
          have hq2 : ((Y : Int).tmod 4) = 0 := by rw [Int.tmod_eq_emod_of_nonneg (by omega)]; exact hq1
          clear hqq
          have hgl : (⟨#[]⟩ : ByteArray).size ≤ 12 := by decide
          obtain ⟨S1, Sr1, Se1, Sz1⟩ := str_sum T (⟨#[]⟩ : ByteArray) (by omega)
          have HLS1 : Hid (LS c (bs ++ gapT 0) rs S1.data.toList) := by
            show LS _ _ _ _
            rw [Se1.out]
            exact HLS.out.gap 0
          clear Se1
          obtain ⟨b, hbk⟩ := get_lt (xs := rs) (k := k) (by rw [← HN.out]; omega)
          have hcell := (HSR.out k b.bytes (by rw [List.getElem?_map, hbk]; rfl)).1
          have hg2 : g < wr.heap.size := cell_lt hcell
          have hbz := HSB.out b (HRM.out b (List.mem_of_getElem? hbk))
          obtain ⟨Y2, hY2⟩ : ∃ Y2, Y2 = b.bytes := ⟨_, rfl⟩
          have HY2 := Lib.hid hY2
          rw [← hY2] at hcell hbz
          clear hY2
          obtain ⟨S2, Sr2, Se2, Sz2⟩ := str_sum S1 Y2 (by omega)
          have HLS2 : Hid (LS c ((bs ++ gapT 0) ++ [b]) (rs.eraseIdx k) S2.data.toList) := by
            show LS _ _ _ _
            rw [Se2.out, HY2.out]
            exact LS.part HV.out HLS1.out hbk
          have HN2 : Hid (n - 1 = (rs.eraseIdx k).length) := by show _ = _; rw [List.length_eraseIdx, if_pos (lt_get hbk), HN.out]
          have HRM2 : Hid (∀ b ∈ rs.eraseIdx k, b ∈ blksOf c) := fun b hb => HRM.out b (List.mem_of_mem_eraseIdx hb)
          clear hbk Se2
          go_wp2_with fail
          rw [show ((k : Int) + 1) = ((k + 1 : Nat) : Int) from rfl]
          have HBX : Hid (Below wr.heap.size wr (wr.alloc (.cells #[.string ⟨#[]⟩, .string ⟨#[10]⟩, .string ⟨#[32, 32, 35, 32, 99, 111, 109, 109, 101, 110, 116, 10]⟩, .string ⟨#[32, 32, 32, 10]⟩] 9))) := by show Below _ _ _; exact (by first | ((repeat (first | exact Below.refl _ _ | assumption | refine Below.drewN ?_ _ | refine Below.drew ?_ | refine Below.alloc ?_ (by first | exact Nat.le_refl _ | (simp; done) | (simp; omega) | omega) _ | refine Below.setCell ?_ (by first | exact Nat.le_refl _ | (simp; done) | (simp; omega) | omega) _ | refine Below.trans ?_ (Below.mono (by assumption) (by first | exact Nat.le_refl _ | (simp; done) | (simp; omega) | omega)))); done) | fail)
          refine (Delete_map g rc k (rs.map TBlk.bytes) _ (by rw [List.length_map, ← HN.out]; omega) (by rw [List.length_map, ← HN.out]; omega) HRC.out (HSR.out.below HBX.out) w4.heap.size hg (by rw [List.length_map]; exact HN.out)).mono ?_
          rintro e w8 ⟨rfl, hsr8, hb8⟩
          have HSR8 : Hid (SR g w8 ((rs.eraseIdx k).map TBlk.bytes)) := by show SR _ _ _; rw [← map_erase]; exact hsr8
          clear hsr8
          have HB8 := Lib.hid (hbr.out.trans ((HBX.out.mono hwr).trans hb8))
          clear hb8
          go_wp2
          go_roundw
          case rel =>
            refine ⟨i + 1, S2, (bs ++ gapT 0) ++ [b], rs.eraseIdx k, some ⟨g, 0, none⟩, rc, n - 1, rfl, rfl, by go_num, by omega, by omega, HN2, HLS2, HRM2, ?_, HB8⟩
            show _ → _
            intro _
            exact ⟨g, rfl, hg, by rw [← HN2.out]; omega, HRC.out, HSR8.out⟩
          case measure => simp [intOf]; omega
        · have hq1 : ((Y : Int) % 4) = 1 := by omega
          have hq2 : ((Y : Int).tmod 4) = 1 := by rw [Int.tmod_eq_emod_of_nonneg (by omega)]; exact hq1
          clear hqq
          have hgl : (⟨#[10]⟩ : ByteArray).size ≤ 12 := by decide
          obtain ⟨S1, Sr1, Se1, Sz1⟩ := str_sum T (⟨#[10]⟩ : ByteArray) (by omega)
          have HLS1 : Hid (LS c (bs ++ gapT 1) rs S1.data.toList) := by
            show LS _ _ _ _
            rw [Se1.out]
            exact HLS.out.gap 1
          clear Se1
          obtain ⟨b, hbk⟩ := get_lt (xs := rs) (k := k) (by rw [← HN.out]; omega)
          have hcell := (HSR.out k b.bytes (by rw [List.getElem?_map, hbk]; rfl)).1
          have hg2 : g < wr.heap.size := cell_lt hcell
          have hbz := HSB.out b (HRM.out b (List.mem_of_getElem? hbk))
          obtain ⟨Y2, hY2⟩ : ∃ Y2, Y2 = b.bytes := ⟨_, rfl⟩
          have HY2 := Lib.hid hY2
          rw [← hY2] at hcell hbz
          clear hY2
          obtain ⟨S2, Sr2, Se2, Sz2⟩ := str_sum S1 Y2 (by omega)
          have HLS2 : Hid (LS c ((bs ++ gapT 1) ++ [b]) (rs.eraseIdx k) S2.data.toList) := by
            show LS _ _ _ _
            rw [Se2.out, HY2.out]
            exact LS.part HV.out HLS1.out hbk
          have HN2 : Hid (n - 1 = (rs.eraseIdx k).length) := by show _ = _; rw [List.length_eraseIdx, if_pos (lt_get hbk), HN.out]
          have HRM2 : Hid (∀ b ∈ rs.eraseIdx k, b ∈ blksOf c) := fun b hb => HRM.out b (List.mem_of_mem_eraseIdx hb)
          clear hbk Se2
          go_wp2_with fail
          rw [show ((k : Int) + 1) = ((k + 1 : Nat) : Int) from rfl]
          have HBX : Hid (Below wr.heap.size wr (wr.alloc (.cells #[.string ⟨#[]⟩, .string ⟨#[10]⟩, .string ⟨#[32, 32, 35, 32, 99, 111, 109, 109, 101, 110, 116, 10]⟩, .string ⟨#[32, 32, 32, 10]⟩] 9))) := by show Below _ _ _; exact (by first | ((repeat (first | exact Below.refl _ _ | assumption | refine Below.drewN ?_ _ | refine Below.drew ?_ | refine Below.alloc ?_ (by first | exact Nat.le_refl _ | (simp; done) | (simp; omega) | omega) _ | refine Below.setCell ?_ (by first | exact Nat.le_refl _ | (simp; done) | (simp; omega) | omega) _ | refine Below.trans ?_ (Below.mono (by assumption) (by first | exact Nat.le_refl _ | (simp; done) | (simp; omega) | omega)))); done) | fail)
          refine (Delete_map g rc k (rs.map TBlk.bytes) _ (by rw [List.length_map, ← HN.out]; omega) (by rw [List.length_map, ← HN.out]; omega) HRC.out (HSR.out.below HBX.out) w4.heap.size hg (by rw [List.length_map]; exact HN.out)).mono ?_
          rintro e w8 ⟨rfl, hsr8, hb8⟩
          have HSR8 : Hid (SR g w8 ((rs.eraseIdx k).map TBlk.bytes)) := by show SR _ _ _; rw [← map_erase]; exact hsr8
          clear hsr8
          have HB8 := Lib.hid (hbr.out.trans ((HBX.out.mono hwr).trans hb8))
          clear hb8
          go_wp2
          go_roundw
          case rel =>
            refine ⟨i + 1, S2, (bs ++ gapT 1) ++ [b], rs.eraseIdx k, some ⟨g, 0, none⟩, rc, n - 1, rfl, rfl, by go_num, by omega, by omega, HN2, HLS2, HRM2, ?_, HB8⟩
            show _ → _
            intro _
            exact ⟨g, rfl, hg, by rw [← HN2.out]; omega, HRC.out, HSR8.out⟩
          case measure => simp [intOf]; omega
        · have hq1 : ((Y : Int) % 4) = 2 := by omega
          have hq2 : ((Y : Int).tmod 4) = 2 := by rw [Int.tmod_eq_emod_of_nonneg (by omega)]; exact hq1
          clear hqq
          have hgl : (⟨#[32, 32, 35, 32, 99, 111, 109, 109, 101, 110, 116, 10]⟩ : ByteArray).size ≤ 12 := by decide
          obtain ⟨S1, Sr1, Se1, Sz1⟩ := str_sum T (⟨#[32, 32, 35, 32, 99, 111, 109, 109, 101, 110, 116, 10]⟩ : ByteArray) (by omega)
          have HLS1 : Hid (LS c (bs ++ gapT 2) rs S1.data.toList) := by
            show LS _ _ _ _
            rw [Se1.out]
            exact HLS.out.gap 2
          clear Se1
          obtain ⟨b, hbk⟩ := get_lt (xs := rs) (k := k) (by rw [← HN.out]; omega)
          have hcell := (HSR.out k b.bytes (by rw [List.getElem?_map, hbk]; rfl)).1
          have hg2 : g < wr.heap.size := cell_lt hcell
          have hbz := HSB.out b (HRM.out b (List.mem_of_getElem? hbk))
          obtain ⟨Y2, hY2⟩ : ∃ Y2, Y2 = b.bytes := ⟨_, rfl⟩
          have HY2 := Lib.hid hY2
          rw [← hY2] at hcell hbz
          clear hY2
          obtain ⟨S2, Sr2, Se2, Sz2⟩ := str_sum S1 Y2 (by omega)
          have HLS2 : Hid (LS c ((bs ++ gapT 2) ++ [b]) (rs.eraseIdx k) S2.data.toList) := by
            show LS _ _ _ _
            rw [Se2.out, HY2.out]
            exact LS.part HV.out HLS1.out hbk
          have HN2 : Hid (n - 1 = (rs.eraseIdx k).length) := by show _ = _; rw [List.length_eraseIdx, if_pos (lt_get hbk), HN.out]
          have HRM2 : Hid (∀ b ∈ rs.eraseIdx k, b ∈ blksOf c) := fun b hb => HRM.out b (List.mem_of_mem_eraseIdx hb)
          clear hbk Se2
          go_wp2_with fail
          rw [show ((k : Int) + 1) = ((k + 1 : Nat) : Int) from rfl]
          have HBX : Hid (Below wr.heap.size wr (wr.alloc (.cells #[.string ⟨#[]⟩, .string ⟨#[10]⟩, .string ⟨#[32, 32, 35, 32, 99, 111, 109, 109, 101, 110, 116, 10]⟩, .string ⟨#[32, 32, 32, 10]⟩] 9))) := by show Below _ _ _; exact (by first | ((repeat (first | exact Below.refl _ _ | assumption | refine Below.drewN ?_ _ | refine Below.drew ?_ | refine Below.alloc ?_ (by first | exact Nat.le_refl _ | (simp; done) | (simp; omega) | omega) _ | refine Below.setCell ?_ (by first | exact Nat.le_refl _ | (simp; done) | (simp; omega) | omega) _ | refine Below.trans ?_ (Below.mono (by assumption) (by first | exact Nat.le_refl _ | (simp; done) | (simp; omega) | omega)))); done) | fail)
          refine (Delete_map g rc k (rs.map TBlk.bytes) _ (by rw [List.length_map, ← HN.out]; omega) (by rw [List.length_map, ← HN.out]; omega) HRC.out (HSR.out.below HBX.out) w4.heap.size hg (by rw [List.length_map]; exact HN.out)).mono ?_
          rintro e w8 ⟨rfl, hsr8, hb8⟩
          have HSR8 : Hid (SR g w8 ((rs.eraseIdx k).map TBlk.bytes)) := by show SR _ _ _; rw [← map_erase]; exact hsr8
          clear hsr8
          have HB8 := Lib.hid (hbr.out.trans ((HBX.out.mono hwr).trans hb8))
          clear hb8
          go_wp2
          go_roundw
          case rel =>
            refine ⟨i + 1, S2, (bs ++ gapT 2) ++ [b], rs.eraseIdx k, some ⟨g, 0, none⟩, rc, n - 1, rfl, rfl, by go_num, by omega, by omega, HN2, HLS2, HRM2, ?_, HB8⟩
            show _ → _
            intro _
            exact ⟨g, rfl, hg, by rw [← HN2.out]; omega, HRC.out, HSR8.out⟩
          case measure => simp [intOf]; omega
        · have hq1 : ((Y : Int) % 4) = 3 := by omega
          have hq2 : ((Y : Int).tmod 4) = 3 := by rw [Int.tmod_eq_emod_of_nonneg (by omega)]; exact hq1
          clear hqq
          have hgl : (⟨#[32, 32, 32, 10]⟩ : ByteArray).size ≤ 12 := by decide
          obtain ⟨S1, Sr1, Se1, Sz1⟩ := str_sum T (⟨#[32, 32, 32, 10]⟩ : ByteArray) (by omega)
          have HLS1 : Hid (LS c (bs ++ gapT 3) rs S1.data.toList) := by
            show LS _ _ _ _
            rw [Se1.out]
            exact HLS.out.gap 3
          clear Se1
          obtain ⟨b, hbk⟩ := get_lt (xs := rs) (k := k) (by rw [← HN.out]; omega)
          have hcell := (HSR.out k b.bytes (by rw [List.getElem?_map, hbk]; rfl)).1
          have hg2 : g < wr.heap.size := cell_lt hcell
          have hbz := HSB.out b (HRM.out b (List.mem_of_getElem? hbk))
          obtain ⟨Y2, hY2⟩ : ∃ Y2, Y2 = b.bytes := ⟨_, rfl⟩
          have HY2 := Lib.hid hY2
          rw [← hY2] at hcell hbz
          clear hY2
          obtain ⟨S2, Sr2, Se2, Sz2⟩ := str_sum S1 Y2 (by omega)
          have HLS2 : Hid (LS c ((bs ++ gapT 3) ++ [b]) (rs.eraseIdx k) S2.data.toList) := by
            show LS _ _ _ _
            rw [Se2.out, HY2.out]
            exact LS.part HV.out HLS1.out hbk
          have HN2 : Hid (n - 1 = (rs.eraseIdx k).length) := by show _ = _; rw [List.length_eraseIdx, if_pos (lt_get hbk), HN.out]
          have HRM2 : Hid (∀ b ∈ rs.eraseIdx k, b ∈ blksOf c) := fun b hb => HRM.out b (List.mem_of_mem_eraseIdx hb)
          clear hbk Se2
          go_wp2_with fail
          rw [show ((k : Int) + 1) = ((k + 1 : Nat) : Int) from rfl]
          have HBX : Hid (Below wr.heap.size wr (wr.alloc (.cells #[.string ⟨#[]⟩, .string ⟨#[10]⟩, .string ⟨#[32, 32, 35, 32, 99, 111, 109, 109, 101, 110, 116, 10]⟩, .string ⟨#[32, 32, 32, 10]⟩] 9))) := by show Below _ _ _; exact (by first | ((repeat (first | exact Below.refl _ _ | assumption | refine Below.drewN ?_ _ | refine Below.drew ?_ | refine Below.alloc ?_ (by first | exact Nat.le_refl _ | (simp; done) | (simp; omega) | omega) _ | refine Below.setCell ?_ (by first | exact Nat.le_refl _ | (simp; done) | (simp; omega) | omega) _ | refine Below.trans ?_ (Below.mono (by assumption) (by first | exact Nat.le_refl _ | (simp; done) | (simp; omega) | omega)))); done) | fail)
          refine (Delete_map g rc k (rs.map TBlk.bytes) _ (by rw [List.length_map, ← HN.out]; omega) (by rw [List.length_map, ← HN.out]; omega) HRC.out (HSR.out.below HBX.out) w4.heap.size hg (by rw [List.length_map]; exact HN.out)).mono ?_
          rintro e w8 ⟨rfl, hsr8, hb8⟩
          have HSR8 : Hid (SR g w8 ((rs.eraseIdx k).map TBlk.bytes)) := by show SR _ _ _; rw [← map_erase]; exact hsr8
          clear hsr8
          have HB8 := Lib.hid (hbr.out.trans ((HBX.out.mono hwr).trans hb8))
          clear hb8
          go_wp2
          go_roundw
          case rel =>
            refine ⟨i + 1, S2, (bs ++ gapT 3) ++ [b], rs.eraseIdx k, some ⟨g, 0, none⟩, rc, n - 1, rfl, rfl, by go_num, by omega, by omega, HN2, HLS2, HRM2, ?_, HB8⟩
            show _ → _
            intro _
            exact ⟨g, rfl, hg, by rw [← HN2.out]; omega, HRC.out, HSR8.out⟩
          case measure => simp [intOf]; omega
      · have hio1 : ¬ (i : Int) < (NO : Int) := by omega
        obtain ⟨b, hbk⟩ := get_lt (xs := rs) (k := 0) (by rw [← HN.out]; omega)
        have hcell := (HSR.out 0 b.bytes (by rw [List.getElem?_map, hbk]; rfl)).1
        have hg2 : g < wr.heap.size := cell_lt hcell
        have hbz := HSB.out b (HRM.out b (List.mem_of_getElem? hbk))
        obtain ⟨Y2, hY2⟩ : ∃ Y2, Y2 = b.bytes := ⟨_, rfl⟩
        have HY2 := Lib.hid hY2
        rw [← hY2] at hcell hbz
        clear hY2
        obtain ⟨S2, Sr2, Se2, Sz2⟩ := str_sum T Y2 (by omega)
        have HLS2 : Hid (LS c (bs ++ [b]) (rs.eraseIdx 0) S2.data.toList) := by
          show LS _ _ _ _
          rw [Se2.out, HY2.out]
          exact LS.part HV.out HLS.out hbk
        have HN2 : Hid (n - 1 = (rs.eraseIdx 0).length) := by show _ = _; rw [List.length_eraseIdx, if_pos (lt_get hbk), HN.out]
        have HRM2 : Hid (∀ b ∈ rs.eraseIdx 0, b ∈ blksOf c) := fun b hb => HRM.out b (List.mem_of_mem_eraseIdx hb)
        clear hbk Se2
        go_wp2_with fail
        refine (Delete_map g rc 0 (rs.map TBlk.bytes) _ (by rw [List.length_map, ← HN.out]; omega) (by rw [List.length_map, ← HN.out]; omega) HRC.out (HSR.out) w4.heap.size hg (by rw [List.length_map]; exact HN.out)).mono ?_
        rintro e w8 ⟨rfl, hsr8, hb8⟩
        have HSR8 : Hid (SR g w8 ((rs.eraseIdx 0).map TBlk.bytes)) := by show SR _ _ _; rw [← map_erase]; exact hsr8
        clear hsr8
        have HB8 := Lib.hid (hbr.out.trans hb8)
        clear hb8
        go_wp2
        go_roundw
        case rel =>
          refine ⟨i + 1, S2, bs ++ [b], rs.eraseIdx 0, some ⟨g, 0, none⟩, rc, n - 1, rfl, rfl, by go_num, by omega, by omega, HN2, HLS2, HRM2, ?_, HB8⟩
          show _ → _
          intro _
          exact ⟨g, rfl, hg, by rw [← HN2.out]; omega, HRC.out, HSR8.out⟩
        case measure => simp [intOf]; omega
    · have hn0 : n = 0 := by omega
      subst hn0
      have hnn : ¬ (0 : Int) < ((0 : Nat) : Int) := by omega
      have HRN : Hid (rs = []) := List.length_eq_zero_iff.1 HN.out.symm
      have HPC : Hid (T.size ≤ 65536 → parseC T = (0, 0, c)) := fun hT => by
        have hL := HLS.out
        have hp := hL.perm
        rw [HRN.out, List.append_nil] at hp
        have e : T = mkS (unl (bs.flatMap (TBlk.lines Lib.itoa))) := by rw [← mkS_self T, hL.text]; rfl
        rw [e]
        refine parse_blks num_itoa HV.out hL.ok hp ?_
        have : T.size = (unl (bs.flatMap (TBlk.lines Lib.itoa))).length := by rw [e, mkS_size]
        omega
      have HIr := Lib.hid (HI4.out.mono hbr.out)
      have HGr := Lib.hid (HG4.out.mono hbr.out)
      have HBr := Lib.hid (HB4.out.trans (hbr.out.mono HB4.out.size))
      have zr : w.heap.size < wr.heap.size := cell_lt E0
      clear HLS HRS HRM HRN HN hn hbr
      cases q9 : decide ((65536 : Int) < (T.size : Int))
      case true =>
        go_wp2
        go_ret
        exact ⟨rfl, HBr.out⟩
      have HP := Lib.hid (HPC.out (by have := of_decide_eq_false q9; omega))
      go_wp2_with fail
      refine (Parse_any _ T HGr.out).mono ?_
      unfold POut
      rw [HP.out]
      rintro e w9 ⟨v, rfl, hi, hb⟩
      obtain ⟨qa0, qc0, qa1, qc1, qa2, qc2, qa3, qc3, rfl, -⟩ := Catalog.inv hi
      have QI := Lib.hid hi
      have F0 := kept hb E0
      have F1 := kept hb E1
      have F2 := kept hb E2
      have F3 := kept hb E3
      have HI9 := Lib.hid (HIr.out.mono hb)
      have HB9 := Lib.hid (HBr.out.trans (hb.mono HBr.out.size))
      have z9 : w.heap.size < w9.heap.size := cell_lt F0
      clear hi hb E0 E1 E2 E3 HIr HGr HBr zr
      generalize c.licenses.length = K0 at *
      generalize c.exceptions.length = K1 at *
      generalize c.clauses.length = K2 at *
      generalize c.apart.length = K3 at *
      go_wp2_with fail
      refine (Same_ref _ _ _ c c (HI9.out.mono (by first | ((repeat (first | exact Below.refl _ _ | assumption | refine Below.drewN ?_ _ | refine Below.drew ?_ | refine Below.alloc ?_ (by first | exact Nat.le_refl _ | (simp; done) | (simp; omega) | omega) _ | refine Below.setCell ?_ (by first | exact Nat.le_refl _ | (simp; done) | (simp; omega) | omega) _ | refine Below.trans ?_ (Below.mono (by assumption) (by first | exact Nat.le_refl _ | (simp; done) | (simp; omega) | omega)))); done) | fail)) (QI.out.mono (by first | ((repeat (first | exact Below.refl _ _ | assumption | refine Below.drewN ?_ _ | refine Below.drew ?_ | refine Below.alloc ?_ (by first | exact Nat.le_refl _ | (simp; done) | (simp; omega) | omega) _ | refine Below.setCell ?_ (by first | exact Nat.le_refl _ | (simp; done) | (simp; omega) | omega) _ | refine Below.trans ?_ (Below.mono (by assumption) (by first | exact Nat.le_refl _ | (simp; done) | (simp; omega) | omega)))); done) | fail))).mono ?_
      rintro e w10 ⟨rfl, hb10⟩
      rw [decide_eq_true rfl]
      have hq := HB9.out
      have hqs := hq.size
      have HB10 : Hid (Below w.heap.size w w10) := Lib.hid (Below.trans (by exact (by first | ((repeat (first | exact Below.refl _ _ | assumption | refine Below.drewN ?_ _ | refine Below.drew ?_ | refine Below.alloc ?_ (by first | exact Nat.le_refl _ | (simp; done) | (simp; omega) | omega) _ | refine Below.setCell ?_ (by first | exact Nat.le_refl _ | (simp; done) | (simp; omega) | omega) _ | refine Below.trans ?_ (Below.mono (by assumption) (by first | exact Nat.le_refl _ | (simp; done) | (simp; omega) | omega)))); done) | fail)) (hb10.mono (by simp; omega)))
      clear hq hqs hb10
      go_wp2
      go_ret
      exact ⟨rfl, HB10.out⟩
end Go.Proofs.YtaneolfnnkppbaaGreatDoor
