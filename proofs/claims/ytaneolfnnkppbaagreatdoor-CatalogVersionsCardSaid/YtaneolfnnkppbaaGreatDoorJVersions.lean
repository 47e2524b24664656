/- The statement of later versions: what its function computes. -/
import Derived.Test.YtaneolfnnkppbaaGreatDoorJAwake
import Derived.Test.YtaneolfnnkppbaaGreatDoorJFew
set_option linter.all false
namespace Go.Proofs.YtaneolfnnkppbaaGreatDoor
open Go Go.RowKit Go.ChangeShapes
theorem Contains_p (w : World) (x0 : Value) (xs : List ByteArray) (y : ByteArray) (h : Is w x0 xs) :
    Calls Tryz.prog 23 #[x0, .string y] w fun e w' => e = .returned (.bool (Lib.containsS xs y)) ∧ w' = w := by
  obtain ⟨a, c, rfl, hnc, hc, hr⟩ := list_inv h
  unfold maxLen at hc
  by_cases h0 : xs.length = 0
  · have e0 : xs = [] := List.length_eq_zero_iff.1 h0
    subst e0
    refine (Tryz.slices_Contains_string_empty a c y w).mono ?_
    rintro e w' ⟨rfl, rfl⟩
    exact ⟨rfl, rfl⟩
  · obtain ⟨x, hx⟩ := get_lt (xs := xs) (k := 0) (by omega)
    obtain ⟨b, off, rfl, -⟩ := str_at hr hx
    refine (Tryz.slices_Contains_string b off xs.length c xs y w (Nat.le_refl _) (by omega) ?_).mono ?_
    · intro j hj
      obtain ⟨z, hz⟩ := get_lt (xs := xs) (k := j) hj
      obtain ⟨b', off', he, -, h2, -⟩ := str_at hr hz
      cases he
      rw [h2, List.getD_eq_getElem?_getD, hz]; rfl
    · rintro e w' ⟨rfl, rfl⟩
      refine ⟨?_, rfl⟩
      rw [List.take_of_length_le (Nat.le_refl _)]
theorem lic_ver {c : Catalog} (h : checkC c = 0) {x : License} (hx : x ∈ c.licenses) : 0 ≤ x.version ∧ x.version ≤ 999 := by
  obtain ⟨p, hp⟩ := firstErr_all (check_parts h).1 x hx
  unfold licErr at hp
  repeat' split at hp
  all_goals try (cases hp; done)
  rename_i h2 _ _ _ _
  simp only [Bool.or_eq_true, decide_eq_true_eq, not_or, Int.not_lt] at h2
  exact h2
set_option maxRecDepth 100000 in
set_option maxHeartbeats 8000000 in
theorem CatalogVersions_p (w : World) (x0 : Value) (c : Catalog) (hg : Glob w) (h : Is w x0 c) :
    Calls Tryz.prog 6 #[x0] w fun e w' => e = .returned (.bool true) ∧ Below w.heap.size w w' := by
  obtain ⟨a0, c0, a1, c1, a2, c2, a3, c3, rfl, l0, m0, r0, l1, m1, r1, l2, m2, r2, l3, m3, r3⟩ := Catalog.inv h
  have HI := Lib.hid h
  have HG := Lib.hid hg
  have HR0 := Lib.hid r0
  have HR1 := Lib.hid r1
  have HR2 := Lib.hid r2
  have HR3 := Lib.hid r3
  have n0 : c.licenses.length ≤ 9223372036854775807 := by simp only [maxLen] at m0; omega
  have n1 : c.exceptions.length ≤ 9223372036854775807 := by simp only [maxLen] at m1; omega
  have n2 : c.clauses.length ≤ 9223372036854775807 := by simp only [maxLen] at m2; omega
  have n3 : c.apart.length ≤ 9223372036854775807 := by simp only [maxLen] at m3; omega
  clear h hg r0 r1 r2 r3 l0 l1 l2 l3 m0 m1 m2 m3
  generalize hL0 : c.licenses.length = N0 at *
  generalize hL1 : c.exceptions.length = N1 at *
  generalize hL2 : c.clauses.length = N2 at *
  generalize hL3 : c.apart.length = N3 at *
  have HL := Lib.hid (And.intro hL0 (And.intro hL1 (And.intro hL2 hL3)))
  clear hL0 hL1 hL2 hL3
  go_enter Tryz.func6, Tryz.ntmps6
  go_wp2_with fail
  have HB1 : Hid (Below w.heap.size w (w.alloc (.cells #[.slice a0 N0 c0, .slice a1 N1 c1, .slice a2 N2 c2, .slice a3 N3 c3] 28))) := by show Below _ _ _; exact (by first | ((repeat (first | exact Below.refl _ _ | assumption | refine Below.drewN ?_ _ | refine Below.drew ?_ | refine Below.alloc ?_ (by first | exact Nat.le_refl _ | (simp; done) | (simp; omega) | omega) _ | refine Below.setCell ?_ (by first | exact Nat.le_refl _ | (simp; done) | (simp; omega) | omega) _ | refine Below.trans ?_ (Below.mono (by assumption) (by first | exact Nat.le_refl _ | (simp; done) | (simp; omega) | omega)))); done) | fail)
  have d0 : (w.alloc (.cells #[.slice a0 N0 c0, .slice a1 N1 c1, .slice a2 N2 c2, .slice a3 N3 c3] 28)).cell? ⟨w.heap.size, 0, none⟩ = some (.slice a0 N0 c0) := by simp
  have d1 : (w.alloc (.cells #[.slice a0 N0 c0, .slice a1 N1 c1, .slice a2 N2 c2, .slice a3 N3 c3] 28)).cell? ⟨w.heap.size, 1, none⟩ = some (.slice a1 N1 c1) := by simp
  have d2 : (w.alloc (.cells #[.slice a0 N0 c0, .slice a1 N1 c1, .slice a2 N2 c2, .slice a3 N3 c3] 28)).cell? ⟨w.heap.size, 2, none⟩ = some (.slice a2 N2 c2) := by simp
  have d3 : (w.alloc (.cells #[.slice a0 N0 c0, .slice a1 N1 c1, .slice a2 N2 c2, .slice a3 N3 c3] 28)).cell? ⟨w.heap.size, 3, none⟩ = some (.slice a3 N3 c3) := by simp
  have HI1 := Lib.hid (HI.out.mono HB1.out)
  have HG1 := Lib.hid (HG.out.mono HB1.out)
  have HR0x1 := Lib.hid (HR0.out.mono HB1.out)
  generalize w.alloc (.cells #[.slice a0 N0 c0, .slice a1 N1 c1, .slice a2 N2 c2, .slice a3 N3 c3] 28) = w1 at *
  have z1 : w.heap.size < w1.heap.size := cell_lt d0
  clear HI HG HR0 HR1 HR2 HR3
  refine (awake_p w1 HG1.out).mono ?_
  rintro e w2 ⟨rfl, hb⟩
  have e0 := kept hb d0
  have e1 := kept hb d1
  have e2 := kept hb d2
  have e3 := kept hb d3
  have HI2 := Lib.hid (HI1.out.mono hb)
  have HG2 := Lib.hid (HG1.out.mono hb)
  have HR0x2 := Lib.hid (HR0x1.out.mono hb)
  have HB2 := Lib.hid (HB1.out.trans (hb.mono HB1.out.size))
  have z2 : w.heap.size < w2.heap.size := cell_lt e0
  clear d0 d1 d2 d3 hb HI1 HG1 HB1 z1 HR0x1
  go_wp2_with fail
  refine (Few_ref w2 _ c HI2.out).mono ?_
  rintro e w3 ⟨fb, rfl, hb⟩
  have d0 := kept hb e0
  have d1 := kept hb e1
  have d2 := kept hb e2
  have d3 := kept hb e3
  have HI3 := Lib.hid (HI2.out.mono hb)
  have HG3 := Lib.hid (HG2.out.mono hb)
  have HR0x3 := Lib.hid (HR0x2.out.mono hb)
  have HB3 := Lib.hid (HB2.out.trans (hb.mono HB2.out.size))
  have z3 : w.heap.size < w3.heap.size := cell_lt d0
  clear e0 e1 e2 e3 hb HI2 HG2 HB2 z2 HR0x2
  cases fb
  case false =>
    go_wp2
    go_ret
    exact ⟨rfl, HB3.out⟩
  go_wp2_with fail
  refine (Check_p w3 _ c HG3.out HI3.out).mono ?_
  rintro e w4 ⟨rfl, hb⟩
  have e0 := kept hb d0
  have e1 := kept hb d1
  have e2 := kept hb d2
  have e3 := kept hb d3
  have HI4 := Lib.hid (HI3.out.mono hb)
  have HG4 := Lib.hid (HG3.out.mono hb)
  have HR0x4 := Lib.hid (HR0x3.out.mono hb)
  have HB4 := Lib.hid (HB3.out.trans (hb.mono HB3.out.size))
  have z4 : w.heap.size < w4.heap.size := cell_lt e0
  clear d0 d1 d2 d3 hb HI3 HG3 HB3 z3 HR0x3
  cases q2 : ((checkC c : Int) != 0)
  case true =>
    generalize checkC c = ck at *
    go_wp2
    go_ret
    exact ⟨rfl, HB4.out⟩
  have hck : checkC c = 0 := by simpa using q2
  have HCK := Lib.hid hck
  clear hck
  generalize checkC c = ck at q2 ⊢
  go_wp2
  clear q2
  go_loopw [29] (fun kv wr => ∃ k : Nat, k ≤ N0 ∧ kv = .int .i64 k ∧ Hid (Below w4.heap.size w4 wr)) (fun kv _ => N0 - (intOf kv).toNat)
  case atStart => exact ⟨0, by omega, rfl, Lib.hid (Below.refl _ _)⟩
  case round =>
    obtain ⟨k, hk, rfl, hbr⟩ := hrel
    have zw4 : w4.heap.size ≤ wr.heap.size := hbr.out.size
    by_cases hki : k < N0
    · obtain ⟨x, hx⟩ := get_lt (xs := c.licenses) (k := k) (by rw [HL.out.1]; exact hki)
      have hb := hbr.out
      have f0 := kept hb e0
      have f1 := kept hb e1
      have f2 := kept hb e2
      have f3 := kept hb e3
      have HI5 := Lib.hid (HI4.out.mono hb)
      have HG5 := Lib.hid (HG4.out.mono hb)
      have HR0x5 := Lib.hid (HR0x4.out.mono hb)
      have HB5 := Lib.hid (HB4.out.trans (hb.mono HB4.out.size))
      have z5 : w.heap.size < wr.heap.size := cell_lt f0
      obtain ⟨b9, off, rfl, hb9, y0, y1, y2, y3, s0, s1, s2, s3⟩ := License.at_row HR0x5.out hx
      have hxm := List.mem_of_getElem? hx
      have hver := lic_ver HCK.out hxm
      have HX := Lib.hid hxm
      have HLA := Lib.hid (later_find HCK.out hxm)
      have HHD := Lib.hid (later_head HCK.out hxm)
      clear hx hxm s0 s1 s2 s3 hb
      go_wp2_with fail
      have hb : Below wr.heap.size wr (wr.alloc (.cells #[.string x.name, .string x.family, .int .i64 x.version, .string x.text] 43)) := (by first | ((repeat (first | exact Below.refl _ _ | assumption | refine Below.drewN ?_ _ | refine Below.drew ?_ | refine Below.alloc ?_ (by first | exact Nat.le_refl _ | (simp; done) | (simp; omega) | omega) _ | refine Below.setCell ?_ (by first | exact Nat.le_refl _ | (simp; done) | (simp; omega) | omega) _ | refine Below.trans ?_ (Below.mono (by assumption) (by first | exact Nat.le_refl _ | (simp; done) | (simp; omega) | omega)))); done) | fail)
      have t0 : (wr.alloc (.cells #[.string x.name, .string x.family, .int .i64 x.version, .string x.text] 43)).cell? ⟨wr.heap.size, 0, none⟩ = some (.string x.name) := by simp
      have t1 : (wr.alloc (.cells #[.string x.name, .string x.family, .int .i64 x.version, .string x.text] 43)).cell? ⟨wr.heap.size, 1, none⟩ = some (.string x.family) := by simp
      have t2 : (wr.alloc (.cells #[.string x.name, .string x.family, .int .i64 x.version, .string x.text] 43)).cell? ⟨wr.heap.size, 2, none⟩ = some (.int .i64 x.version) := by simp
      have u0 := kept hb f0
      have u1 := kept hb f1
      have u2 := kept hb f2
      have u3 := kept hb f3
      have HI6 := Lib.hid (HI5.out.mono hb)
      have HG6 := Lib.hid (HG5.out.mono hb)
      have HR0x6 := Lib.hid (HR0x5.out.mono hb)
      have HB6 := Lib.hid (HB5.out.trans (hb.mono HB5.out.size))
      have HC6 := Lib.hid (hbr.out.trans (hb.mono zw4))
      generalize wr.alloc (.cells #[.string x.name, .string x.family, .int .i64 x.version, .string x.text] 43) = w6 at *
      have z6 : w.heap.size < w6.heap.size := cell_lt u0
      have z61 : wr.heap.size < w6.heap.size := cell_lt t0
      clear f0 f1 f2 f3 HI5 HG5 HR0x5 HB5 hb y0 y1 y2 y3 hbr
      refine (Later_p w6 _ c x.name HG6.out HI6.out).mono ?_
      rintro e w7 ⟨sv, rfl, hs, hb⟩
      rw [HLA.out.2]
      rw [HLA.out.1] at hs
      have v0 := kept hb u0
      have v1 := kept hb u1
      have v2 := kept hb u2
      have v3 := kept hb u3
      have p0 := kept hb t0
      have p1 := kept hb t1
      have p2 := kept hb t2
      have HI7 := Lib.hid (HI6.out.mono hb)
      have HG7 := Lib.hid (HG6.out.mono hb)
      have HR0x7 := Lib.hid (HR0x6.out.mono hb)
      have HB7 := Lib.hid (HB6.out.trans (hb.mono HB6.out.size))
      have HC7 := Lib.hid (HC6.out.trans (hb.mono HC6.out.size))
      have z7 : w.heap.size < w7.heap.size := cell_lt v0
      have z71 : wr.heap.size < w7.heap.size := cell_lt p0
      clear u0 u1 u2 u3 t0 t1 t2 HI6 HG6 HR0x6 HB6 HC6 hb
      simp only [Option.getD_some] at hs
      obtain ⟨rest, hrest⟩ := HHD.out
      have HLL : Hid ((laterL c x).Pairwise (fun a b => a.version < b.version) ∧ (∀ (i : Nat) (y : License), (laterL c x)[i]? = some y → laterL c y = (laterL c x).drop i) ∧ (∀ y ∈ laterL c x, y ∈ c.licenses ∧ y.family = x.family ∧ x.version ≤ y.version) ∧ (∀ y ∈ c.licenses, y.name ∈ (laterL c x).map License.name ↔ (y.family = x.family ∧ x.version ≤ y.version))) :=
        ⟨later_incr HCK.out x, fun i y hy => later_drop HCK.out hy, fun y hy => later_mem.1 hy, fun y hy => later_names HCK.out x hy⟩
      obtain ⟨la, lc, he, hlc, hcm, hlr⟩ := list_inv hs
      subst he
      have hlen : ((laterL c x).map License.name).length = (laterL c x).length := List.length_map ..
      have hl1 : 0 < (laterL c x).length := by rw [hrest]; simp
      obtain ⟨nm0, hnm0⟩ := get_lt (xs := (laterL c x).map License.name) (k := 0) (by omega)
      have hnm : nm0 = x.name := by rw [hrest] at hnm0; simpa using hnm0.symm
      subst hnm
      obtain ⟨bl, ol, he, hbl, k0, ks⟩ := str_at hlr hnm0
      subst he
      have HFIRST : Hid (∀ y, (laterL c x)[0]? = some y → x.version - 1 < y.version) := fun y hy => by rw [hrest] at hy; simp at hy; subst hy; omega
      have HLR := Lib.hid hlr
      rw [hlen] at hlc hs ⊢
      have HLIS := Lib.hid hs
      clear hrest hnm0 hs hlr hlen ks
      generalize hLn : (laterL c x).length = L at *
      have HLN := Lib.hid hLn
      clear hLn
      have k0' : w7.cell? ⟨bl, ol, none⟩ = some (.string x.name) := by simpa using k0
      have g1 : ((L : Int) == 0) = false := by simp; omega
      have g2 : (x.name.toList == x.name.toList) = true := by simp
      have g3 : (0 : Int) < (L : Int) := by omega
      have g4 : L ≤ 9223372036854775807 := by unfold maxLen at hcm; omega
      have g5 : IntKind.i64.wrap (x.version - 1) = x.version - 1 := by rw [IntKind.wrap_i64]; omega
      clear k0
      go_wp2
      go_quiet (fail)
      go_wp2
      have hb : Below w7.heap.size w7 (w7.drewN nq) := below_drewN w7 nq
      have HI8 := Lib.hid (HI7.out.mono hb)
      have HG8 := Lib.hid (HG7.out.mono hb)
      have HR0x8 := Lib.hid (HR0x7.out.mono hb)
      have HLIS8 := Lib.hid (HLIS.out.mono hb)
      have HLR8 := Lib.hid (HLR.out.mono hb)
      have HC8 := Lib.hid (HC7.out.trans (hb.mono HC7.out.size))
      have u0 := kept hb v0
      have u1 := kept hb v1
      have u2 := kept hb v2
      have u3 := kept hb v3
      have t0 := kept hb p0
      have t1 := kept hb p1
      have t2 := kept hb p2
      clear v0 v1 v2 v3 p0 p1 p2 HI7 HG7 HR0x7 HLIS HLR HC7 HB7 hb k0' g1 g2 g3 g5 hbl
      generalize w7.drewN nq = w8 at *
      have v0 := u0
      have v1 := u1
      have v2 := u2
      have v3 := u3
      have p0 := t0
      have p1 := t1
      have p2 := t2
      clear u0 u1 u2 u3 t0 t1 t2
      have z8 : w.heap.size < w8.heap.size := cell_lt v0
      have z81 : wr.heap.size < w8.heap.size := cell_lt p0
      clear z7 z71 z61 z6
      generalize hw5 : wr.heap.size = w5s at *
      go_loopw [7, 60] (fun lvv kv wr => ∃ (j : Nat) (lv : Int), j ≤ L ∧ kv = .int .i64 j ∧ lvv = .int .i64 lv ∧ Hid (Below w8.heap.size w8 wr) ∧ Hid (∀ y, (laterL c x)[j]? = some y → lv < y.version)) (fun _ kv _ => L - (intOf kv).toNat)
      case atStart => exact ⟨0, x.version - 1, by omega, rfl, rfl, Lib.hid (Below.refl _ _), HFIRST⟩
      case round =>
        clear HFIRST
        obtain ⟨j, lv, hj, rfl, rfl, hbj, HLV⟩ := hrel
        have zw8 : w8.heap.size ≤ wr.heap.size := hbj.out.size
        have hb := hbj.out
        have f0 := kept hb v0
        have f1 := kept hb v1
        have f2 := kept hb v2
        have f3 := kept hb v3
        have q0 := kept hb p0
        have q1 := kept hb p1
        have q2 := kept hb p2
        have HI9 := Lib.hid (HI8.out.mono hb)
        have HG9 := Lib.hid (HG8.out.mono hb)
        have HS9 := Lib.hid (HLIS8.out.mono hb)
        have HR9 := Lib.hid (HLR8.out.mono hb)
        have HRX9 := Lib.hid (HR0x8.out.mono hb)
        have HC9 := Lib.hid (HC8.out.trans (hb.mono HC8.out.size))
        have zz0 : w.heap.size < wr.heap.size := cell_lt f0
        have zz1 : w5s < wr.heap.size := cell_lt q0
        clear hb
        have HBJ := hbj
        by_cases hji : j < L
        · obtain ⟨y, hy⟩ := get_lt (xs := laterL c x) (k := j) (by rw [HLN.out]; exact hji)
          have hny : ((laterL c x).map License.name)[j]? = some y.name := by rw [List.getElem?_map, hy]; rfl
          obtain ⟨b', o', he, hbl', k1, ks1⟩ := str_at HR9.out hny
          cases he
          have hym := HLL.out.2.2.1 y (List.mem_of_getElem? hy)
          have HFY := Lib.hid (find_lic HCK.out hym.1)
          have HLY := Lib.hid (later_find HCK.out hym.1)
          have HDY := Lib.hid (HLL.out.2.1 j y hy)
          have hlvy := HLV.out y hy
          have r1 : (y.family.toList == x.family.toList) = true := ba_mk_t hym.2.1
          have r2 : decide (y.version ≤ lv) = false := decide_eq_false (by omega)
          have HNX : Hid (∀ z, (laterL c x)[j + 1]? = some z → y.version < z.version) := fun z hz => by
            have h1 := HLL.out.1
            rw [List.pairwise_iff_getElem] at h1
            obtain ⟨i1, e1⟩ := List.getElem?_eq_some_iff.1 hy
            obtain ⟨i2, e2⟩ := List.getElem?_eq_some_iff.1 hz
            have := h1 j (j + 1) i1 i2 (by omega)
            rw [e1, e2] at this
            exact this
          have hjz : (j : Int) < (L : Int) := by omega
          have hj0 : (0 : Int) ≤ (j : Int) := Int.natCast_nonneg _
          have hjc : (j : Int) ≤ (lc : Int) := by omega
          have hjc2 : (L : Int) ≤ (lc : Int) := by omega
          clear hy hny hym hlvy ks1 hbj HLV
          go_wp2_with fail
          refine (Find_p _ _ c y.name (HG9.out.mono (by first | ((repeat (first | exact Below.refl _ _ | assumption | refine Below.drewN ?_ _ | refine Below.drew ?_ | refine Below.alloc ?_ (by first | exact Nat.le_refl _ | (simp; done) | (simp; omega) | omega) _ | refine Below.setCell ?_ (by first | exact Nat.le_refl _ | (simp; done) | (simp; omega) | omega) _ | refine Below.trans ?_ (Below.mono (by assumption) (by first | exact Nat.le_refl _ | (simp; done) | (simp; omega) | omega)))); done) | fail)) (HI9.out.mono (by first | ((repeat (first | exact Below.refl _ _ | assumption | refine Below.drewN ?_ _ | refine Below.drew ?_ | refine Below.alloc ?_ (by first | exact Nat.le_refl _ | (simp; done) | (simp; omega) | omega) _ | refine Below.setCell ?_ (by first | exact Nat.le_refl _ | (simp; done) | (simp; omega) | omega) _ | refine Below.trans ?_ (Below.mono (by assumption) (by first | exact Nat.le_refl _ | (simp; done) | (simp; omega) | omega)))); done) | fail))).mono ?_
          rintro e w10 ⟨rfl, hb⟩
          rw [HFY.out]
          simp only [Option.getD_some, Option.isSome_some, licV]
          have u0 := kept hb f0
          have u1 := kept hb f1
          have u2 := kept hb f2
          have u3 := kept hb f3
          have t0 := kept hb q0
          have t1 := kept hb q1
          have t2 := kept hb q2
          have HI10 := Lib.hid (HI9.out.mono hb)
          have HG10 := Lib.hid (HG9.out.mono hb)
          have HS10 := Lib.hid (HS9.out.mono hb)
          have HR10 := Lib.hid (HR9.out.mono hb)
          have HC10 := Lib.hid (HC9.out.trans (hb.mono HC9.out.size))
          have HW10 := Lib.hid ((show Below w8.heap.size w8 wr from HBJ.out).trans (hb.mono zw8))
          have zz10 : w.heap.size < w10.heap.size := cell_lt u0
          have zz11 : w5s < w10.heap.size := cell_lt t0
          clear f0 f1 f2 f3 q0 q1 q2 k1 hb HI9 HG9 HS9 HR9 HRX9 HC9
          go_wp2_with fail
          have hb : Below w10.heap.size w10 (w10.alloc (.cells #[.string y.name, .string y.family, .int .i64 y.version, .string y.text] 43)) := (by first | ((repeat (first | exact Below.refl _ _ | assumption | refine Below.drewN ?_ _ | refine Below.drew ?_ | refine Below.alloc ?_ (by first | exact Nat.le_refl _ | (simp; done) | (simp; omega) | omega) _ | refine Below.setCell ?_ (by first | exact Nat.le_refl _ | (simp; done) | (simp; omega) | omega) _ | refine Below.trans ?_ (Below.mono (by assumption) (by first | exact Nat.le_refl _ | (simp; done) | (simp; omega) | omega)))); done) | fail)
          have m1 : (w10.alloc (.cells #[.string y.name, .string y.family, .int .i64 y.version, .string y.text] 43)).cell? ⟨w10.heap.size, 1, none⟩ = some (.string y.family) := by simp
          have m2 : (w10.alloc (.cells #[.string y.name, .string y.family, .int .i64 y.version, .string y.text] 43)).cell? ⟨w10.heap.size, 2, none⟩ = some (.int .i64 y.version) := by simp
          have f0 := kept hb u0
          have f1 := kept hb u1
          have f2 := kept hb u2
          have f3 := kept hb u3
          have q0 := kept hb t0
          have q1 := kept hb t1
          have q2 := kept hb t2
          have HI11 := Lib.hid (HI10.out.mono hb)
          have HG11 := Lib.hid (HG10.out.mono hb)
          have HS11 := Lib.hid (HS10.out.mono hb)
          have HR11 := Lib.hid (HR10.out.mono hb)
          have HW11 := Lib.hid (HW10.out.trans (hb.mono HW10.out.size))
          generalize w10.alloc (.cells #[.string y.name, .string y.family, .int .i64 y.version, .string y.text] 43) = w11 at *
          have zz12 : w.heap.size < w11.heap.size := cell_lt f0
          have zz13 : w5s < w11.heap.size := cell_lt q0
          have zz14 : w10.heap.size < w11.heap.size := cell_lt m1
          clear u0 u1 u2 u3 t0 t1 t2 hb HI10 HG10 HS10 HR10 HC10 HW10
          refine (Later_p w11 _ c y.name HG11.out HI11.out).mono ?_
          rintro e w12 ⟨sv2, rfl, hs2, hb⟩
          rw [HLY.out.2]
          rw [HLY.out.1] at hs2
          simp only [Option.getD_some] at hs2
          have HS2 := Lib.hid hs2
          have u0 := kept hb f0
          have u1 := kept hb f1
          have u2 := kept hb f2
          have u3 := kept hb f3
          have t0 := kept hb q0
          have t1 := kept hb q1
          have t2 := kept hb q2
          have n1' := kept hb m1
          have n2' := kept hb m2
          have HR12 := Lib.hid (HR11.out.mono hb)
          have HW12 := Lib.hid (HW11.out.trans (hb.mono HW11.out.size))
          have zz15 : w.heap.size < w12.heap.size := cell_lt u0
          have zz16 : w5s < w12.heap.size := cell_lt t0
          have zz17 : w10.heap.size < w12.heap.size := cell_lt n1'
          clear f0 f1 f2 f3 q0 q1 q2 m1 m2 hb hs2 HI11 HG11 HS11 HR11 HW11
          go_wp2_with fail
          have hA : Hid ((laterL c y).map License.name = ((laterL c x).map License.name).drop j) := by show _ = _; rw [HDY.out, List.map_drop]
          have hBl : (((laterL c x).map License.name).drop j).length = L - j := by rw [List.length_drop, List.length_map, HLN.out]
          have hB : Is w12 (.slice (some ⟨bl, ol + j, none⟩) (L - j) (lc - j)) (((laterL c x).map License.name).drop j) := by
            rw [← hBl]
            exact list_mk (by rw [hBl]; omega) (by unfold maxLen at hcm ⊢; omega) (row_sub0 (i := j) HR12.out)
          refine (Equal_p w12 sv2 _ _ _ HS2.out hB).mono ?_
          rintro e w13 ⟨rfl, hb⟩
          rw [decide_eq_true hA.out]
          have n3' := kept hb n2'
          have zz18 : w10.heap.size < w13.heap.size := cell_lt n3'
          have HW13 := Lib.hid (HW12.out.trans (hb.mono HW12.out.size))
          clear hA hBl hB hb HW12 n1' n2' u0 u1 u2 u3 t0 t1 t2 HS2 HR12
          go_wp2
          go_roundw
          case rel => exact ⟨j + 1, y.version, by omega, by go_num, rfl, HW13, HNX⟩
          case measure => simp [intOf]; omega
        · have HBJ2 := Lib.hid (HC9.out)
          clear HLV hbj HBJ HG9 HI9 HR9
          go_wp2
          go_loopw [110] (fun kv wr2 => ∃ m : Nat, m ≤ N0 ∧ kv = .int .i64 m ∧ Hid (Below wr.heap.size wr wr2)) (fun kv _ => N0 - (intOf kv).toNat)
          case atStart => exact ⟨0, by omega, rfl, Lib.hid (Below.refl _ _)⟩
          case round =>
            rename_i wv
            obtain ⟨m, hm, rfl, hbm⟩ := hrel
            have hb := hbm.out
            have u0 := kept hb f0
            have t0 := kept hb q0
            have t1 := kept hb q1
            have t2 := kept hb q2
            have HS10 := Lib.hid (HS9.out.mono hb)
            have HRX10 := Lib.hid (HRX9.out.mono hb)
            have HC10 := Lib.hid (HC9.out.trans (hb.mono HC9.out.size))
            have zz2 : w.heap.size < wr.heap.size := cell_lt u0
            have zz3 : w5s < wr.heap.size := cell_lt t0
            clear hb
            by_cases hmi : m < N0
            · obtain ⟨y, hy⟩ := get_lt (xs := c.licenses) (k := m) (by rw [HL.out.1]; exact hmi)
              obtain ⟨b8, off8, he8, hb8, y0, y1, y2, y3, s0, s1, s2, s3⟩ := License.at_row HRX10.out hy
              cases he8
              have hiff := HLL.out.2.2.2 y (List.mem_of_getElem? hy)
              have hcon : ∀ bb : Bool, Lib.containsS ((laterL c x).map License.name) y.name = bb → Hid (∀ W : World, Is W (.slice (some ⟨bl, ol, none⟩) L lc) ((laterL c x).map License.name) → Calls Tryz.prog 23 #[.slice (some ⟨bl, ol, none⟩) L lc, .string y.name] W fun e w' => e = .returned (.bool bb) ∧ w' = W) := fun bb hbb W hi => by rw [← hbb]; exact Contains_p W _ _ y.name hi
              have hcs : Lib.containsS ((laterL c x).map License.name) y.name = (decide (y.family = x.family) && decide (x.version ≤ y.version)) := by
                rw [Bool.eq_iff_iff, Lib.containsS_iff, hiff]; simp
              have HCON := hcon _ hcs
              clear hcon hcs hiff hy s0 s1 s2 s3
              cases e1 : (y.family.toList == x.family.toList)
              case false =>
                have h1 := ba_eq_f e1
                rw [decide_eq_false h1, Bool.false_and] at HCON
                clear h1
                go_wp2
                go_quiet (((go_at_call 23; exact Calls.quiet_of_same (HCON.out _ (HS10.out.mono (by first | ((repeat (first | exact Below.refl _ _ | assumption | refine Below.drewN ?_ _ | refine Below.drew ?_ | refine Below.alloc ?_ (by first | exact Nat.le_refl _ | (simp; done) | (simp; omega) | omega) _ | refine Below.setCell ?_ (by first | exact Nat.le_refl _ | (simp; done) | (simp; omega) | omega) _ | refine Below.trans ?_ (Below.mono (by assumption) (by first | exact Nat.le_refl _ | (simp; done) | (simp; omega) | omega)))); done) | fail))))))
                go_wp2
                go_roundw
                case rel => exact ⟨m + 1, by omega, by go_num, Lib.hid (by have hq := hbm.out; have hqs := hq.size; exact (by first | ((repeat (first | exact Below.refl _ _ | assumption | refine Below.drewN ?_ _ | refine Below.drew ?_ | refine Below.alloc ?_ (by first | exact Nat.le_refl _ | (simp; done) | (simp; omega) | omega) _ | refine Below.setCell ?_ (by first | exact Nat.le_refl _ | (simp; done) | (simp; omega) | omega) _ | refine Below.trans ?_ (Below.mono (by assumption) (by first | exact Nat.le_refl _ | (simp; done) | (simp; omega) | omega)))); done) | fail))⟩
                case measure => simp [intOf]; omega
              case true =>
                have h1 := ba_eq_t e1
                rw [decide_eq_true h1, Bool.true_and] at HCON
                clear h1
                cases e2 : decide (x.version ≤ y.version)
                all_goals
                  rw [e2] at HCON
                  go_wp2
                  go_quiet (((go_at_call 23; exact Calls.quiet_of_same (HCON.out _ (HS10.out.mono (by first | ((repeat (first | exact Below.refl _ _ | assumption | refine Below.drewN ?_ _ | refine Below.drew ?_ | refine Below.alloc ?_ (by first | exact Nat.le_refl _ | (simp; done) | (simp; omega) | omega) _ | refine Below.setCell ?_ (by first | exact Nat.le_refl _ | (simp; done) | (simp; omega) | omega) _ | refine Below.trans ?_ (Below.mono (by assumption) (by first | exact Nat.le_refl _ | (simp; done) | (simp; omega) | omega)))); done) | fail))))))
                  go_wp2
                  go_roundw
                  case rel => exact ⟨m + 1, by omega, by go_num, Lib.hid (by have hq := hbm.out; have hqs := hq.size; exact (by first | ((repeat (first | exact Below.refl _ _ | assumption | refine Below.drewN ?_ _ | refine Below.drew ?_ | refine Below.alloc ?_ (by first | exact Nat.le_refl _ | (simp; done) | (simp; omega) | omega) _ | refine Below.setCell ?_ (by first | exact Nat.le_refl _ | (simp; done) | (simp; omega) | omega) _ | refine Below.trans ?_ (Below.mono (by assumption) (by first | exact Nat.le_refl _ | (simp; done) | (simp; omega) | omega)))); done) | fail))⟩
                  case measure => simp [intOf]; omega
            · go_wp2
              go_roundw
              case rel => exact ⟨k + 1, by omega, by go_num, HC10⟩
              case measure => simp [intOf]; omega
    · go_wp2
      go_ret
      exact ⟨rfl, HB4.out.trans (hbr.out.mono HB4.out.size)⟩
end Go.Proofs.YtaneolfnnkppbaaGreatDoor
