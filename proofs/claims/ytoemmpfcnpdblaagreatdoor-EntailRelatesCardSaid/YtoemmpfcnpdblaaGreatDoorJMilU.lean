/- The order of clauses: strictness. -/
import Derived.Laws.EntriesVeiled
import Derived.Test.YtoemmpfcnpdblaaGreatDoorJIdxF
import Derived.Test.YtoemmpfcnpdblaaGreatDoorJEntU
import Derived.Test.YtoemmpfcnpdblaaGreatDoorJClaU
set_option linter.all false
namespace Go.Proofs.YtoemmpfcnpdblaaGreatDoor
open Go Go.RowKit Go.ChangeShapes Go.Sort Go.Lib

set_option maxRecDepth 100000 in
set_option maxHeartbeats 1000000 in
theorem ContainsStr_p (w : World) (x0 : Value) (xs : List ByteArray) (y : ByteArray) (h : Is w x0 xs) :
  Calls Tryz.prog 119 #[x0, .string y] w fun e w' => e = .returned (.bool (Lib.containsS xs y)) ∧ w' = w := by
 obtain ⟨a, c, rfl, hnc, hcm, hr⟩ := list_inv h
 simp only [maxLen] at hcm
 cases a with
 | none =>
  have h0 : xs = [] := by
   cases xs with
   | nil => rfl
   | cons x r => obtain ⟨b, off, h1, -⟩ := hr 0 x rfl; cases h1
  subst h0
  refine (Tryz.slices_Contains_string_empty none c y w).mono ?_
  rintro e w' ⟨rfl, rfl⟩
  exact ⟨rfl, rfl⟩
 | some p =>
  by_cases h0 : xs = []
  ·subst h0
   refine (Tryz.slices_Contains_string_empty _ c y w).mono ?_
   rintro e w' ⟨rfl, rfl⟩
   exact ⟨rfl, rfl⟩
  ·obtain ⟨x, r, hxr⟩ : ∃ x r, xs = x :: r := by cases xs with | nil => exact absurd rfl h0 | cons x r => exact ⟨x, r, rfl⟩
   obtain ⟨b, off, he, -⟩ := hr 0 x (by rw [hxr]; rfl)
   cases he
   refine (Tryz.slices_Contains_string b off xs.length c xs y w (Nat.le_refl _) (by omega) ?_).mono ?_
   ·intro j hj
    obtain ⟨z, hz⟩ := get_lt (xs := xs) (k := j) hj
    obtain ⟨b', off', he, -, h0, -⟩ := str_at hr hz
    cases he
    rw [h0, List.getD_eq_getElem?_getD, hz]; rfl
   ·rintro e w' ⟨rfl, rfl⟩
    exact ⟨by rw [List.take_length], rfl⟩
theorem containsS_any (xs : List ByteArray) (s : ByteArray) : Lib.containsS xs s = xs.any fun u => decide (u = s) := by
 rw [Bool.eq_iff_iff, Lib.containsS_iff, List.any_eq_true]
 constructor
 ·intro h; exact ⟨s, h, by simp⟩
 ·rintro ⟨u, hu, h⟩; have := of_decide_eq_true h; subst this; exact hu
set_option maxRecDepth 100000 in
set_option maxHeartbeats 1000000 in
theorem strict11_p (w : World) (g : Nat) (v lv : Value) (xs : List ByteArray) (s : ByteArray) (hc : w.cell? ⟨g, 4, none⟩ = some lv) (hl : Is w lv xs) (h : Is w v s) :
  Calls Tryz.prog 118 #[v, .pointer (some ⟨g, 0, none⟩)] w fun e w' => e = .returned (.bool (!xs.any fun u => decide (u = s))) ∧ Below w.heap.size w w' := by
 obtain ⟨rfl, -⟩ := str_inv h
 have hcall := ContainsStr_p w lv xs s hl
 rw [containsS_any] at hcall
 obtain ⟨a, c, rfl, -⟩ := list_inv hl
 have hs := cell_lt hc
 clear h hl
 generalize (xs.any fun u => decide (u = s)) = bb at *
 generalize xs.length = N at *
 go_enter Tryz.func118, Tryz.ntmps118
 go_wp2_with fail
 refine hcall.mono ?_
 rintro e w2 ⟨rfl, rfl⟩
 go_wp2
 go_ret
 exact ⟨rfl, Below.refl _ _⟩
set_option maxRecDepth 100000 in
set_option maxHeartbeats 2000000 in
theorem strict1_p (w : World) (v u : Value) (x y : Clause) (h : Is w v x) (k : Is w u y) :
  Calls Tryz.prog 116 #[v, u] w fun e w' => e = .returned (.bool (coveredP x y)) ∧ Below w.heap.size w w' := by
 have HF : Hid (coveredP x y = if !(x.way == y.way) || !(x.relation == y.relation) || !(x.duty == y.duty) then false else !(x.duty == 4) || !y.list.any (fun s => !x.list.any (fun u => decide (u = s)))) := rfl
 obtain ⟨a, c, rfl, -, -, -, -, l1, l2, l3⟩ := Clause.inv h
 obtain ⟨b, d, rfl, -, -, -, -, m1, m2, m3⟩ := Clause.inv k
 have hba : Below w.heap.size w ((w.alloc (.cells #[.string x.license, .int .i64 x.way, .int .i64 x.relation, .int .i64 x.duty, .slice a x.list.length c] 86)).alloc (.cells #[.string y.license, .int .i64 y.way, .int .i64 y.relation, .int .i64 y.duty, .slice b y.list.length d] 86)) := (by repeat (first | exact zR _ _ | assumption | refine zN ?_ _ | refine zD ?_ | refine zA ?_ ?_ _ | refine zS ?_ ?_ _ | refine zT ?_ (zM (by assumption) ?_) | exact Nat.le_refl _ | (simp <;> omega) | omega))
 have HLX := Lib.hid ((list_mk l1 l2 l3).mono hba)
 have HLY := Lib.hid ((list_mk m1 m2 m3).mono hba)
 have HBA := Lib.hid hba
 have e4 : ((w.alloc (.cells #[.string x.license, .int .i64 x.way, .int .i64 x.relation, .int .i64 x.duty, .slice a x.list.length c] 86)).alloc (.cells #[.string y.license, .int .i64 y.way, .int .i64 y.relation, .int .i64 y.duty, .slice b y.list.length d] 86)).cell? ⟨w.heap.size, 4, none⟩ = some (.slice a x.list.length c) := by simp
 have eg : ∀ args w, (callFunc 118 args).run Tryz.prog w = .ok (.enter 118 args) w := enters_of Tryz.func118 (by kernel_rfl) rfl
 have hcall := ContainsFuncStr ((w.alloc (.cells #[.string x.license, .int .i64 x.way, .int .i64 x.relation, .int .i64 x.duty, .slice a x.list.length c] 86)).alloc (.cells #[.string y.license, .int .i64 y.way, .int .i64 y.relation, .int .i64 y.duty, .slice b y.list.length d] 86)) (.slice b y.list.length d) y.list (fun s => !x.list.any fun u => decide (u = s)) 118 #[.pointer (some ⟨w.heap.size, 0, none⟩)] eg HLY.out (fun i s _ W v hb hv =>
  strict11_p W w.heap.size v _ x.list s (kept hb e4) (HLX.out.mono hb) hv)
 clear h k l1 l2 l3 m1 m2 m3 hba e4 eg HLX HLY
 generalize (y.list.any fun s => !x.list.any fun u => decide (u = s)) = bb at *
 generalize x.list.length = LX at *
 generalize y.list.length = LY at *
 have hcw : (x.way != y.way) = !(x.way == y.way) := rfl
 have hcr : (x.relation != y.relation) = !(x.relation == y.relation) := rfl
 have hcd : (x.duty != y.duty) = !(x.duty == y.duty) := rfl
 have hc4 : (x.duty != 4) = !(x.duty == 4) := rfl
 have HX := Lib.hid (rfl : x = x)
 generalize (x.way == y.way) = q1 at *
 generalize (x.relation == y.relation) = q2 at *
 generalize (x.duty == y.duty) = q3 at *
 generalize (x.duty == 4) = q4 at *
 cases q1
 case false =>
  go_enter Tryz.func116, Tryz.ntmps116
  go_wp2
  go_ret
  exact ⟨ret_b HF.out.symm, HBA.out⟩
 cases q2
 case false =>
  go_enter Tryz.func116, Tryz.ntmps116
  go_wp2
  go_ret
  exact ⟨ret_b HF.out.symm, HBA.out⟩
 cases q3
 case false =>
  go_enter Tryz.func116, Tryz.ntmps116
  go_wp2
  go_ret
  exact ⟨ret_b HF.out.symm, HBA.out⟩
 cases q4
 case false =>
  go_enter Tryz.func116, Tryz.ntmps116
  go_wp2
  go_ret
  exact ⟨ret_b HF.out.symm, HBA.out⟩
 case true =>
  go_enter Tryz.func116, Tryz.ntmps116
  go_wp2_with fail
  refine hcall.mono ?_
  rintro e w2 ⟨rfl, hb2⟩
  have HB2 : Hid (Below w.heap.size w w2) := HBA.out.trans (hb2.mono (by simp; omega))
  clear hcall hb2
  go_wp2
  go_ret
  exact ⟨ret_b HF.out.symm, HB2.out⟩
end Go.Proofs.YtoemmpfcnpdblaaGreatDoor
namespace Go.Proofs.YtoemmpfcnpdblaaGreatDoor
open Go Go.RowKit Go.ChangeShapes Go.Sort Go.Lib

def fnS : Value := .func (.func 116) #[] #[]
set_option maxRecDepth 100000 in
theorem strictness_p (w : World) : Calls Tryz.prog 57 #[] w fun e w' => e = .returned (.agg #[fnS]) ∧ Below w.heap.size w w' := by
 unfold fnS
 go_enter Tryz.func57, Tryz.ntmps57
 go_wp2
 refine bodyPost_ret (v := .agg #[.func (.func 116) #[] #[]]) (by simp [results, Tryz.results57, go_sem]) rfl ⟨rfl, (by repeat (first | exact zR _ _ | assumption | refine zN ?_ _ | refine zD ?_ | refine zA ?_ ?_ _ | refine zS ?_ ?_ _ | refine zT ?_ (zM (by assumption) ?_) | exact Nat.le_refl _ | (simp <;> omega) | omega))⟩
set_option maxRecDepth 100000 in
set_option maxHeartbeats 1000000 in
theorem milder11_p (w : World) (go gx : Nat) (v : Value) (x y : Clause) (a : Option Addr) (c : Nat) (ho : w.cell? ⟨go, 0, none⟩ = some fnS)
  (x0 : w.cell? ⟨gx, 0, none⟩ = some (.string x.license)) (x1 : w.cell? ⟨gx, 1, none⟩ = some (.int .i64 x.way)) (x2 : w.cell? ⟨gx, 2, none⟩ = some (.int .i64 x.relation)) (x3 : w.cell? ⟨gx, 3, none⟩ = some (.int .i64 x.duty)) (x4 : w.cell? ⟨gx, 4, none⟩ = some (.slice a x.list.length c))
  (hx : Is w (.agg #[.string x.license, .int .i64 x.way, .int .i64 x.relation, .int .i64 x.duty, .slice a x.list.length c]) x) (h : Is w v y) :
  Calls Tryz.prog 123 #[v, .pointer (some ⟨go, 0, none⟩), .pointer (some ⟨gx, 0, none⟩)] w fun e w' => e = .returned (.bool (coveredP x y)) ∧ Below w.heap.size w w' := by
 unfold fnS at ho
 have HI := Lib.hid h
 obtain ⟨b, d, rfl, -⟩ := Clause.inv h
 have hs1 := cell_lt ho
 have hs2 := cell_lt x0
 have hba : Below w.heap.size w (w.alloc (.cells #[.string y.license, .int .i64 y.way, .int .i64 y.relation, .int .i64 y.duty, .slice b y.list.length d] 86)) := (by repeat (first | exact zR _ _ | assumption | refine zN ?_ _ | refine zD ?_ | refine zA ?_ ?_ _ | refine zS ?_ ?_ _ | refine zT ?_ (zM (by assumption) ?_) | exact Nat.le_refl _ | (simp <;> omega) | omega))
 have hcall := strict1_p (w.alloc (.cells #[.string y.license, .int .i64 y.way, .int .i64 y.relation, .int .i64 y.duty, .slice b y.list.length d] 86)) _ _ x y (hx.mono hba) (HI.out.mono hba)
 have HBA := Lib.hid hba
 clear h hx hba
 generalize coveredP x y = bb at *
 generalize x.list.length = LX at *
 generalize y.list.length = LY at *
 go_enter Tryz.func123, Tryz.ntmps123
 go_wp2_with fail
 refine hcall.mono ?_
 rintro e w2 ⟨rfl, hb2⟩
 have HB2 : Hid (Below w.heap.size w w2) := HBA.out.trans (hb2.mono (by simp))
 clear hcall hb2
 go_wp2
 go_ret
 exact ⟨rfl, HB2.out⟩
set_option maxRecDepth 100000 in
set_option maxHeartbeats 1000000 in
theorem milder1_p (w : World) (gb go : Nat) (v bv : Value) (x : Clause) (ys : List Clause) (ho : w.cell? ⟨go, 0, none⟩ = some fnS) (hb : w.cell? ⟨gb, 0, none⟩ = some bv) (hy : Is w bv ys) (h : Is w v x) :
  Calls Tryz.prog 122 #[v, .pointer (some ⟨gb, 0, none⟩), .pointer (some ⟨go, 0, none⟩)] w fun e w' => e = .returned (.bool (!ys.any fun y => coveredP x y)) ∧ Below w.heap.size w w' := by
 have HI := Lib.hid h
 obtain ⟨a, c, rfl, -⟩ := Clause.inv h
 have hs1 := cell_lt ho
 have hs2 := cell_lt hb
 have hba : Below w.heap.size w (w.alloc (.cells #[.string x.license, .int .i64 x.way, .int .i64 x.relation, .int .i64 x.duty, .slice a x.list.length c] 86)) := (by repeat (first | exact zR _ _ | assumption | refine zN ?_ _ | refine zD ?_ | refine zA ?_ ?_ _ | refine zS ?_ ?_ _ | refine zT ?_ (zM (by assumption) ?_) | exact Nat.le_refl _ | (simp <;> omega) | omega))
 have x0 : (w.alloc (.cells #[.string x.license, .int .i64 x.way, .int .i64 x.relation, .int .i64 x.duty, .slice a x.list.length c] 86)).cell? ⟨w.heap.size, 0, none⟩ = some (.string x.license) := by simp
 have x1 : (w.alloc (.cells #[.string x.license, .int .i64 x.way, .int .i64 x.relation, .int .i64 x.duty, .slice a x.list.length c] 86)).cell? ⟨w.heap.size, 1, none⟩ = some (.int .i64 x.way) := by simp
 have x2 : (w.alloc (.cells #[.string x.license, .int .i64 x.way, .int .i64 x.relation, .int .i64 x.duty, .slice a x.list.length c] 86)).cell? ⟨w.heap.size, 2, none⟩ = some (.int .i64 x.relation) := by simp
 have x3 : (w.alloc (.cells #[.string x.license, .int .i64 x.way, .int .i64 x.relation, .int .i64 x.duty, .slice a x.list.length c] 86)).cell? ⟨w.heap.size, 3, none⟩ = some (.int .i64 x.duty) := by simp
 have x4 : (w.alloc (.cells #[.string x.license, .int .i64 x.way, .int .i64 x.relation, .int .i64 x.duty, .slice a x.list.length c] 86)).cell? ⟨w.heap.size, 4, none⟩ = some (.slice a x.list.length c) := by simp
 have eg : ∀ args w, (callFunc 123 args).run Tryz.prog w = .ok (.enter 123 args) w := enters_of Tryz.func123 (by kernel_rfl) rfl
 have hcall := ContainsFuncClause (w.alloc (.cells #[.string x.license, .int .i64 x.way, .int .i64 x.relation, .int .i64 x.duty, .slice a x.list.length c] 86)) bv ys (fun y => coveredP x y) 123 #[.pointer (some ⟨go, 0, none⟩), .pointer (some ⟨w.heap.size, 0, none⟩)] eg (hy.mono hba) (fun i y _ W v hb hv =>
  milder11_p W go w.heap.size v x y a c (kept hb (kept hba ho)) (kept hb x0) (kept hb x1) (kept hb x2) (kept hb x3) (kept hb x4) ((HI.out.mono hba).mono hb) hv)
 obtain ⟨ab, cb, rfl, -⟩ := list_inv hy
 have HBA := Lib.hid hba
 clear h hba x0 x1 x2 x3 x4 eg hy
 generalize (ys.any fun y => coveredP x y) = bb at *
 generalize x.list.length = LX at *
 generalize ys.length = LY at *
 go_enter Tryz.func122, Tryz.ntmps122
 go_wp2_with fail
 refine hcall.mono ?_
 rintro e w2 ⟨rfl, hb2⟩
 have HB2 : Hid (Below w.heap.size w w2) := HBA.out.trans (hb2.mono (by simp))
 clear hcall hb2
 go_wp2
 go_ret
 exact ⟨rfl, HB2.out⟩
set_option maxRecDepth 100000 in
set_option maxHeartbeats 1000000 in
theorem milder_p (w : World) (v u : Value) (xs ys : List Clause) (h : Is w v xs) (k : Is w u ys) :
  Calls Tryz.prog 61 #[.agg #[fnS], v, u] w fun e w' => e = .returned (.bool (mildC xs ys)) ∧ Below w.heap.size w w' := by
 have HF : Hid (mildC xs ys = !xs.any fun x => !ys.any fun y => coveredP x y) := rfl
 obtain ⟨b, d, rfl, -⟩ := list_inv k
 have hba : Below w.heap.size w ((w.alloc (.cells #[fnS] 97)).alloc (.cells #[.slice b ys.length d] 39)) := (by repeat (first | exact zR _ _ | assumption | refine zN ?_ _ | refine zD ?_ | refine zA ?_ ?_ _ | refine zS ?_ ?_ _ | refine zT ?_ (zM (by assumption) ?_) | exact Nat.le_refl _ | (simp <;> omega) | omega))
 have e0 : ((w.alloc (.cells #[fnS] 97)).alloc (.cells #[.slice b ys.length d] 39)).cell? ⟨w.heap.size, 0, none⟩ = some fnS := by simp
 have e1 : ((w.alloc (.cells #[fnS] 97)).alloc (.cells #[.slice b ys.length d] 39)).cell? ⟨w.heap.size + 1, 0, none⟩ = some (.slice b ys.length d) := by simp
 have eg : ∀ args w, (callFunc 122 args).run Tryz.prog w = .ok (.enter 122 args) w := enters_of Tryz.func122 (by kernel_rfl) rfl
 have hcall := ContainsFuncClause ((w.alloc (.cells #[fnS] 97)).alloc (.cells #[.slice b ys.length d] 39)) v xs (fun x => !ys.any fun y => coveredP x y) 122 #[.pointer (some ⟨w.heap.size + 1, 0, none⟩), .pointer (some ⟨w.heap.size, 0, none⟩)] eg (h.mono hba) (fun i x _ W v hb hv =>
  milder1_p W (w.heap.size + 1) w.heap.size v (.slice b ys.length d) x ys (kept hb e0) (kept hb e1) ((k.mono hba).mono hb) hv)
 obtain ⟨a, c, rfl, -⟩ := list_inv h
 have HBA := Lib.hid hba
 unfold fnS at hcall HBA
 clear h k hba e0 e1 eg
 generalize (xs.any fun x => !ys.any fun y => coveredP x y) = bb at *
 generalize xs.length = LX at *
 generalize ys.length = LY at *
 unfold fnS
 go_enter Tryz.func61, Tryz.ntmps61
 go_wp2_with fail
 refine hcall.mono ?_
 rintro e w2 ⟨rfl, hb2⟩
 have HB2 : Hid (Below w.heap.size w w2) := HBA.out.trans (hb2.mono (by simp; omega))
 clear hcall hb2
 go_wp2
 go_ret
 exact ⟨ret_b HF.out.symm, HB2.out⟩
end Go.Proofs.YtoemmpfcnpdblaaGreatDoor
namespace Go.Proofs.YtoemmpfcnpdblaaGreatDoor
open Go Go.RowKit Go.ChangeShapes Go.Sort Go.Lib

set_option maxRecDepth 100000 in
set_option maxHeartbeats 4000000 in
theorem Milder_p (w : World) (vc v u : Value) (c : Catalog) (xs ys : List Term) (hg : Glob w) (hc : Is w vc c) (h : Is w v xs) (k : Is w u ys) (hl : xs.length ≤ 1000000) (kl : ys.length ≤ 1000000) :
  Calls Tryz.prog 31 #[vc, v, u] w fun e w' => e = .returned (.tuple #[.bool (mildP c xs ys).1, .int .i64 (mildP c xs ys).2]) ∧ Below w.heap.size w w' := by
 have HF : Hid (mildP c xs ys = if !(clausesE c xs == 0) then (false, clausesE c xs) else if !(clausesE c ys == 0) then (false, clausesE c ys) else (mildC (clausesA c xs) (clausesA c ys), 0)) := rfl
 have HX : Hid (clausesP c xs = if !(clausesE c xs == 0) then ([], clausesE c xs) else (clausesA c xs, 0)) := rfl
 have HY : Hid (clausesP c ys = if !(clausesE c ys == 0) then ([], clausesE c ys) else (clausesA c ys, 0)) := rfl
 have HG := Lib.hid hg
 have HC := Lib.hid hc
 have HI := Lib.hid h
 have HJ := Lib.hid k
 have HKL := Lib.hid kl
 obtain ⟨a0, N0, c0, a1, N1, c1, a2, N2, c2, a3, N3, c3, rfl⟩ := catBox hc
 obtain ⟨av, cv, rfl, -⟩ := list_inv h
 obtain ⟨au, cu, rfl, -⟩ := list_inv k
 have hba : Below w.heap.size w (w.alloc (.cells #[.slice a0 N0 c0, .slice a1 N1 c1, .slice a2 N2 c2, .slice a3 N3 c3] 42)) := (by repeat (first | exact zR _ _ | assumption | refine zN ?_ _ | refine zD ?_ | refine zA ?_ ?_ _ | refine zS ?_ ?_ _ | refine zT ?_ (zM (by assumption) ?_) | exact Nat.le_refl _ | (simp <;> omega) | omega))
 have hcall := ClausesE_p (w.alloc (.cells #[.slice a0 N0 c0, .slice a1 N1 c1, .slice a2 N2 c2, .slice a3 N3 c3] 42)) _ _ c xs (HG.out.mono hba) (HC.out.mono hba) (HI.out.mono hba) hl
 have HBA := Lib.hid hba
 clear h k hc hg hba hl kl
 generalize xs.length = LX at *
 generalize hly : ys.length = LY at *
 generalize clausesE c xs = ex at *
 generalize clausesE c ys = ey at *
 go_enter Tryz.func31, Tryz.ntmps31
 go_wp2_with fail
 refine hcall.mono ?_
 unfold ClO
 rintro e w2 ⟨v2, rfl, ho2, hb2⟩
 have d0 := kept hb2 (a := ⟨w.heap.size, 0, none⟩) (v := .slice a0 N0 c0) (by simp)
 have d1 := kept hb2 (a := ⟨w.heap.size, 1, none⟩) (v := .slice a1 N1 c1) (by simp)
 have d2 := kept hb2 (a := ⟨w.heap.size, 2, none⟩) (v := .slice a2 N2 c2) (by simp)
 have d3 := kept hb2 (a := ⟨w.heap.size, 3, none⟩) (v := .slice a3 N3 c3) (by simp)
 have hs0 := cell_lt d0
 have HB2 : Hid (Below w.heap.size w w2) := HBA.out.trans (hb2.mono (by simp))
 have HO2 := Lib.hid ho2.is
 clear hcall hb2 ho2
 by_cases q : ex = 0
 case neg =>
  have q1 : (ex == 0) = false := by simpa using q
  have q2 : (ex != 0) = true := by simpa using q
  have HT : Hid (mildP c xs ys = (false, ex)) := by show _ = _; rw [HF.out, q1]; rfl
  have HT2 : Hid (clausesP c xs = ([], ex)) := by show _ = _; rw [HX.out, q1]; rfl
  rw [HT2.out]
  clear q
  go_wp2
  go_ret2
  exact ⟨by rw [HT.out]; rfl, HB2.out⟩
 subst q
 have HT2 : Hid (clausesP c xs = (clausesA c xs, 0)) := by show _ = _; rw [HX.out]; rfl
 rw [HT2.out] at HO2 ⊢
 have hcall := ClausesE_p w2 _ _ c ys (HG.out.mono HB2.out) (HC.out.mono HB2.out) (HJ.out.mono HB2.out) (by rw [hly]; exact HKL.out)
 clear hly

 go_wp2_with fail
 refine hcall.mono ?_
 unfold ClO
 rintro e w3 ⟨v3, rfl, ho3, hb3⟩
 have HB3 : Hid (Below w.heap.size w w3) := HB2.out.trans (hb3.mono HB2.out.size)
 have HO23 := Lib.hid (HO2.out.mono hb3)
 have HO3 := Lib.hid ho3.is
 clear hcall hb3 ho3 d0 d1 d2 d3 HO2
 by_cases q : ey = 0
 case neg =>
  have q1 : (ey == 0) = false := by simpa using q
  have q2 : (ey != 0) = true := by simpa using q
  have HT : Hid (mildP c xs ys = (false, ey)) := by show _ = _; rw [HF.out, q1]; rfl
  have HT3 : Hid (clausesP c ys = ([], ey)) := by show _ = _; rw [HY.out, q1]; rfl
  rw [HT3.out]
  clear q
  go_wp2
  go_ret2
  exact ⟨by rw [HT.out]; rfl, HB3.out⟩
 subst q
 have HT3 : Hid (clausesP c ys = (clausesA c ys, 0)) := by show _ = _; rw [HY.out]; rfl
 have HT : Hid (mildP c xs ys = (mildC (clausesA c xs) (clausesA c ys), 0)) := by show _ = _; rw [HF.out]; rfl
 rw [HT3.out] at HO3 ⊢
 go_wp2_with fail
 refine (strictness_p w3).mono ?_
 rintro e w4 ⟨rfl, hb4⟩
 have HB4 : Hid (Below w.heap.size w w4) := HB3.out.trans (hb4.mono HB3.out.size)
 have hcall := milder_p w4 v2 v3 _ _ (HO23.out.mono hb4) (HO3.out.mono hb4)
 obtain ⟨a5, c5, rfl, -⟩ := list_inv HO23.out
 obtain ⟨a6, c6, rfl, -⟩ := list_inv HO3.out
 clear hb4 HO23 HO3
 unfold fnS at *
 generalize mildC (clausesA c xs) (clausesA c ys) = mm at *
 generalize (clausesA c xs).length = L5 at *
 generalize (clausesA c ys).length = L6 at *
 go_wp2_with fail
 refine hcall.mono ?_
 rintro e w5 ⟨rfl, hb5⟩
 have HB5 : Hid (Below w.heap.size w w5) := HB4.out.trans (hb5.mono HB4.out.size)
 clear hcall hb5
 go_wp2
 go_ret2
 exact ⟨by rw [HT.out]; rfl, HB5.out⟩
end Go.Proofs.YtoemmpfcnpdblaaGreatDoor
namespace Go.Proofs.YtoemmpfcnpdblaaGreatDoor
open Go Go.RowKit Go.ChangeShapes Go.Sort Go.Lib

set_option maxRecDepth 100000 in
theorem clsRow : (Tryz.prog.info? 39).map (fun i => (i.zero, i.size, i.bytes)) = some (some (.slice none 0 0), 1, 24) := by kernel_rfl
theorem app_cls {ops : Array Oper} {rest : List Oper} {o : Oper} {a : Act} {Q : Exit → Act → World → Prop} {w : World} (hgd : o.guard = none) (s x : Operand)
  (ho : o.op = .call { callee := .builtin .append, args := #[s, x], argTypes := #[92, 92] })
  (B : Nat) (v : Value) (xs : List (List Clause)) (hs : a.eval s = v) (hown : OwnY B (· = 39) 39 w v xs)
  {u : Value} (y : List Clause) (hx : a.eval x = .slice (some ⟨w.heap.size, 0, none⟩) 1 1)
  (hy : ∀ w'', Agree 0 (· = 39) (w.alloc (.cells #[u] 39)) w'' → Is w'' u y)
  (hb : xs.length ≤ 1000000000) (hB : B ≤ w.heap.size)
  (h : ∀ v' w', OwnY B (· = 39) 39 w' v' (xs ++ [y]) → Below B w w' → wpList Tryz.prog ops Q rest (a.put o.dst v') w') :
  wpList Tryz.prog ops Q (o :: rest) a (w.alloc (.cells #[u] 39)) := by
 obtain ⟨cs, hrow⟩ := hown.2
 have hal : Below w.heap.size w (w.alloc (.cells #[u] 39)) := (Below.refl _ _).alloc (Nat.le_refl _) _
 obtain ⟨ua, uc, rfl, -⟩ := list_inv (hy _ (Agree.refl _ _ _))
 refine wp_app clsRow rfl (by decide) Tryz.underlying92 hgd s x ho B v xs.length cs hs hrow #[.slice ua y.length uc] hx rfl (by intro q hq; simp at hq; subst hq; rfl) (by omega) hB fun v' w' h2 h3 _ => ?_
 have hcells : ∀ w'', Agree 0 (· = 39) (w.alloc (.cells #[.slice ua y.length uc] 39)) w'' → Lay.is w'' (fun j => (#[Value.slice ua y.length uc].toList)[j]?) y := by
  intro w'' hA
  obtain ⟨a', c', he, h1, h2, h3⟩ := list_inv (hy _ hA)
  cases he
  exact ⟨_, _, rfl, h1, h2, h3⟩
 refine h v' w' ⟨OwnL.snoc (E := fun x => x = 39) rfl hown.1 hal rfl hcells h3 fun cs2 h4 => ?_, ⟨cs ++ [.slice ua y.length uc], ?_⟩⟩ ?_
 ·rw [OwnL.row_unique (ownsRow_weaken hrow (Nat.zero_le _)) h4] at h2
  exact ownsRow_weaken h2 (Nat.zero_le _)
 ·rw [List.length_append]; exact h2
 ·exact ((Below.refl _ _).alloc (by omega) _).app h3 (by simp; omega) hrow
def AllO (er : Int) (r : List (List Clause)) (w : World) (e : Ending) (w' : World) : Prop := ∃ (a : Option Addr) (n k : Nat), e = .returned (.tuple #[.slice a n k, .int .i64 er]) ∧ (er = 0 → Is w' (.slice a n k) r) ∧ Below w.heap.size w w'
theorem all_next {c : Catalog} {xs : List (List Term)} {i : Nat} {x : List Term} (h : allE c xs = allE c (xs.drop i)) (hx : xs[i]? = some x) (q : clausesE c x = 0) : allE c xs = allE c (xs.drop (i + 1)) := by
 rw [h, drop_at hx, allE, q]; rfl
set_option maxRecDepth 100000 in
set_option maxHeartbeats 4000000 in
theorem all_p (w : World) (vc v : Value) (c : Catalog) (xs : List (List Term)) (hg : Glob w) (hc : Is w vc c) (h : Is w v xs) (hl : ∀ x ∈ xs, x.length ≤ 1000000) (hn : xs.length ≤ 1000000) :
  Calls Tryz.prog 56 #[vc, v] w fun e w' => AllO (allE c xs) (xs.map (clausesA c)) w e w' := by
 have HG := Lib.hid hg
 have HC := Lib.hid hc
 have HLL := Lib.hid hl
 have HNN := Lib.hid hn
 obtain ⟨a0, N0, c0, a1, N1, c1, a2, N2, c2, a3, N3, c3, rfl⟩ := catBox hc
 obtain ⟨a, k, rfl, hnc, hcm, hr⟩ := list_inv h
 simp only [maxLen] at hcm
 have HR := Lib.hid hr
 have hba : Below w.heap.size w (w.alloc (.cells #[.slice a0 N0 c0, .slice a1 N1 c1, .slice a2 N2 c2, .slice a3 N3 c3] 42)) := (by repeat (first | exact zR _ _ | assumption | refine zN ?_ _ | refine zD ?_ | refine zA ?_ ?_ _ | refine zS ?_ ?_ _ | refine zT ?_ (zM (by assumption) ?_) | exact Nat.le_refl _ | (simp <;> omega) | omega))
 have d0 : (w.alloc (.cells #[.slice a0 N0 c0, .slice a1 N1 c1, .slice a2 N2 c2, .slice a3 N3 c3] 42)).cell? ⟨w.heap.size, 0, none⟩ = some (.slice a0 N0 c0) := by simp
 have d1 : (w.alloc (.cells #[.slice a0 N0 c0, .slice a1 N1 c1, .slice a2 N2 c2, .slice a3 N3 c3] 42)).cell? ⟨w.heap.size, 1, none⟩ = some (.slice a1 N1 c1) := by simp
 have d2 : (w.alloc (.cells #[.slice a0 N0 c0, .slice a1 N1 c1, .slice a2 N2 c2, .slice a3 N3 c3] 42)).cell? ⟨w.heap.size, 2, none⟩ = some (.slice a2 N2 c2) := by simp
 have d3 : (w.alloc (.cells #[.slice a0 N0 c0, .slice a1 N1 c1, .slice a2 N2 c2, .slice a3 N3 c3] 42)).cell? ⟨w.heap.size, 3, none⟩ = some (.slice a3 N3 c3) := by simp
 have D0 := Lib.hid d0
 have D1 := Lib.hid d1
 have D2 := Lib.hid d2
 have D3 := Lib.hid d3
 have HBA := Lib.hid hba
 have HZ : Hid ((w.alloc (.cells #[.slice a0 N0 c0, .slice a1 N1 c1, .slice a2 N2 c2, .slice a3 N3 c3] 42)).heap.size = w.heap.size + 1) := by show _ = _; simp
 clear h hc hg hl hr hba hn d0 d1 d2 d3
 generalize hN : xs.length = N at *
 have HN := Lib.hid hN
 clear hN
 go_enter Tryz.func56, Tryz.ntmps56
 go_wp2
 generalize w.alloc (.cells #[.slice a0 N0 c0, .slice a1 N1 c1, .slice a2 N2 c2, .slice a3 N3 c3] 42) = w1 at *
 go_loopw [6, 13] (fun sv kv wr => ∃ i : Nat, i ≤ N ∧ kv = .int .i64 i ∧ Hid (Below w1.heap.size w1 wr) ∧ Hid (OwnY w1.heap.size (· = 39) 39 wr sv ((xs.take i).map (clausesA c))) ∧ Hid (allE c xs = allE c (xs.drop i))) (fun _ kv _ => N - (intOf kv).toNat)
 case atStart => exact ⟨0, by omega, rfl, Lib.hid (Below.refl _ _), Lib.hid (OwnY.nil _ _ _ _), rfl⟩
 case round =>
  obtain ⟨i, hi, rfl, HB, HO, HE⟩ := hrel
  have hz1 : w1.heap.size ≤ wr.heap.size := HB.out.size
  have hz0 : w.heap.size < wr.heap.size := by have := HZ.out; omega
  by_cases hki : i < N
  ·have hkz : (i : Int) < (N : Int) := by omega
   obtain ⟨x, hx⟩ := get_lt (xs := xs) (k := i) (by rw [HN.out]; exact hki)
   have HX := Lib.hid hx
   obtain ⟨b, off, rfl, hb, ax, cx, y0', l1, l2, l3⟩ := list_at HR.out hx
   have y0 := kept HB.out (kept HBA.out y0')
   have hsy := cell_lt y0
   have f0 := kept HB.out D0.out
   have f1 := kept HB.out D1.out
   have f2 := kept HB.out D2.out
   have f3 := kept HB.out D3.out
   have HBW : Hid (Below w.heap.size w wr) := HBA.out.trans (HB.out.mono (by have := HZ.out; omega))
   have hcall := ClausesE_p wr _ (.slice ax x.length cx) c x (HG.out.mono HBW.out) (HC.out.mono HBW.out) (list_mk l1 l2 (l3.mono HBW.out)) (HLL.out x (List.mem_of_getElem? hx))
   have HP : Hid (clausesP c x = if !(clausesE c x == 0) then ([], clausesE c x) else (clausesA c x, 0)) := rfl
   have HD := Lib.hid (drop_at hx)
   have HEN := Lib.hid (all_next HE.out hx)
   clear hx y0' l1 l2 l3 hb
   generalize hex : clausesE c x = ex at *
   go_wp2_with fail
   refine hcall.mono ?_
   unfold ClO
   rintro e w2 ⟨v2, rfl, ho2, hb2⟩
   have HB2 := Lib.hid hb2
   have HO2 := Lib.hid ho2
   have hs2 : wr.heap.size ≤ w2.heap.size := HB2.out.size
   clear hcall hb2 ho2 f0 f1 f2 f3 y0
   by_cases q : ex = 0
   case neg =>
    have q1 : (ex == 0) = false := by simpa using q
    have q2 : (ex != 0) = true := by simpa using q
    have HT : Hid (allE c xs = ex) := by show _ = _; rw [HE.out, HD.out, allE, hex, q1]; rfl
    have HT2 : Hid (clausesP c x = ([], ex)) := by show _ = _; rw [HP.out, q1]; rfl
    rw [HT2.out]
    have HQ := Lib.hid q
    clear q hex
    go_wp2
    go_ret2
    refine ⟨none, 0, 0, by rw [HT.out]; rfl, fun h => absurd (HT.out.symm.trans h) HQ.out, HBW.out.trans (HB2.out.mono HBW.out.size)⟩
   have HT2 : Hid (clausesP c x = (clausesA c x, 0)) := by show _ = _; rw [HP.out, q]; rfl
   have HS : Hid (allE c xs = allE c (xs.drop (i + 1))) := HEN.out q
   rw [HT2.out] at HO2 ⊢
   clear hex HP HEN
   subst q
   have HOB := Lib.hid (HO.out.below HB2.out)
   obtain ⟨a5, c5, rfl, -⟩ := list_inv HO2.out.is
   have HLB : Hid (((xs.take i).map (clausesA c)).length ≤ 1000000000) := by
    show _ ≤ _
    rw [List.length_map, List.length_take, HN.out]; have := HNN.out; omega
   clear HO
   generalize hca : clausesA c x = ca at *
   have HCA := Lib.hid hca
   clear hca
   go_wp2_with (at_builtin; go_loud (refine app_cls rfl _ _ rfl w1.heap.size _ _ rfl HOB.out ca ?cx ?c1 ?c2 ?c3 ?_))
   case cx => show Value.slice (some ⟨w2.heap.size, 0, none⟩) 1 1 = _; simp
   case c1 => intro w'' hA; exact ((HO2.out.below (by repeat (first | exact zR _ _ | assumption | refine zN ?_ _ | refine zD ?_ | refine zA ?_ ?_ _ | refine zS ?_ ?_ _ | refine zT ?_ (zM (by assumption) ?_) | exact Nat.le_refl _ | (simp <;> omega) | omega))).other hA (fun t ht => .inr ht) (by decide)).is
   case c2 => first | exact HLB.out | (have := HLB.out; simp at this; omega)
   case c3 => omega
   intro v3 w3 ho3 hb3
   have HB3 : Hid (Below w1.heap.size w1 w3) := (HB.out.trans (HB2.out.mono hz1)).trans hb3
   have HO3 := Lib.hid ho3
   clear ho3 hb3 HOB HO2
   go_wp2
   go_roundw
   case rel =>
    refine ⟨i + 1, by omega, by go_num, HB3, ?_, HS⟩
    show OwnY _ _ _ _ _ _
    rw [take_at HX.out, List.map_append, List.map_cons, List.map_nil, HCA.out]
    first | exact HO3.out | (rw [List.map_take]; exact HO3.out)
   case measure => simp [intOf]; omega
  ·have hkz : ¬ (i : Int) < (N : Int) := by omega
   have HT : Hid (allE c xs = 0) := by
    show _ = _
    rw [HE.out, List.drop_eq_nil_of_le (by rw [HN.out]; omega), allE]
   have HO2 : Hid (Is wr u6 (xs.map (clausesA c))) := by
    have := HO.out.is
    rw [List.take_of_length_le (by rw [HN.out]; omega)] at this
    exact this
   obtain ⟨a6, c6, he6, -⟩ := list_inv HO2.out
   generalize (xs.map (clausesA c)).length = L6 at he6
   subst he6
   clear HO
   go_wp2
   go_ret2
   exact ⟨_, _, _, by rw [HT.out]; rfl, fun _ => HO2.out, HBA.out.trans (HB.out.mono (by have := HZ.out; omega))⟩
end Go.Proofs.YtoemmpfcnpdblaaGreatDoor
namespace Go.Proofs.YtoemmpfcnpdblaaGreatDoor
open Go Go.RowKit Go.ChangeShapes Go.Sort Go.Lib

set_option maxRecDepth 100000 in
set_option maxHeartbeats 1000000 in
theorem by11_p (w : World) (go gp : Nat) (v pv : Value) (p q : List Clause) (ho : w.cell? ⟨go, 0, none⟩ = some fnS) (hp : w.cell? ⟨gp, 0, none⟩ = some pv) (hpi : Is w pv p) (h : Is w v q) :
  Calls Tryz.prog 60 #[v, .pointer (some ⟨go, 0, none⟩), .pointer (some ⟨gp, 0, none⟩)] w fun e w' => e = .returned (.bool (mildC q p)) ∧ Below w.heap.size w w' := by
 have hcall := milder_p w v pv q p h hpi
 obtain ⟨a, c, rfl, -⟩ := list_inv h
 obtain ⟨b, d, rfl, -⟩ := list_inv hpi
 have hs1 := cell_lt ho
 have hs2 := cell_lt hp
 clear h hpi
 unfold fnS at *
 generalize mildC q p = bb at *
 generalize q.length = LX at *
 generalize p.length = LY at *
 go_enter Tryz.func60, Tryz.ntmps60
 go_wp2_with fail
 refine hcall.mono ?_
 rintro e w2 ⟨rfl, hb2⟩
 go_wp2
 go_ret
 exact ⟨rfl, hb2⟩
set_option maxRecDepth 100000 in
set_option maxHeartbeats 1000000 in
theorem by1_p (w : World) (gy go : Nat) (v yv : Value) (p : List Clause) (ys : List (List Clause)) (ho : w.cell? ⟨go, 0, none⟩ = some fnS) (hy : w.cell? ⟨gy, 0, none⟩ = some yv) (hyi : Is w yv ys) (h : Is w v p) :
  Calls Tryz.prog 59 #[v, .pointer (some ⟨gy, 0, none⟩), .pointer (some ⟨go, 0, none⟩)] w fun e w' => e = .returned (.bool (!ys.any fun q => mildC q p)) ∧ Below w.heap.size w w' := by
 have HI := Lib.hid h
 obtain ⟨a, c, rfl, -⟩ := list_inv h
 have hs1 := cell_lt ho
 have hs2 := cell_lt hy
 have hba : Below w.heap.size w (w.alloc (.cells #[.slice a p.length c] 39)) := (by repeat (first | exact zR _ _ | assumption | refine zN ?_ _ | refine zD ?_ | refine zA ?_ ?_ _ | refine zS ?_ ?_ _ | refine zT ?_ (zM (by assumption) ?_) | exact Nat.le_refl _ | (simp <;> omega) | omega))
 have x0 : (w.alloc (.cells #[.slice a p.length c] 39)).cell? ⟨w.heap.size, 0, none⟩ = some (.slice a p.length c) := by simp
 have eg : ∀ args w, (callFunc 60 args).run Tryz.prog w = .ok (.enter 60 args) w := enters_of Tryz.func60 (by kernel_rfl) rfl
 have hcall := ContainsFuncClauses (w.alloc (.cells #[.slice a p.length c] 39)) yv ys (fun q => mildC q p) 60 #[.pointer (some ⟨go, 0, none⟩), .pointer (some ⟨w.heap.size, 0, none⟩)] eg (hyi.mono hba) (fun i q _ W v hb hv =>
  by11_p W go w.heap.size v (.slice a p.length c) p q (kept hb (kept hba ho)) (kept hb x0) ((HI.out.mono hba).mono hb) hv)
 obtain ⟨ab, cb, rfl, -⟩ := list_inv hyi
 have HBA := Lib.hid hba
 clear h hba x0 eg hyi
 generalize (ys.any fun q => mildC q p) = bb at *
 generalize p.length = LX at *
 generalize ys.length = LY at *
 go_enter Tryz.func59, Tryz.ntmps59
 go_wp2_with fail
 refine hcall.mono ?_
 rintro e w2 ⟨rfl, hb2⟩
 have HB2 : Hid (Below w.heap.size w w2) := HBA.out.trans (hb2.mono (by simp))
 clear hcall hb2
 go_wp2
 go_ret
 exact ⟨rfl, HB2.out⟩
theorem bad_lenB {xs ys : List (List Term)} (h : badP xs ys = false) : (∀ x ∈ xs, x.length ≤ 1000000) ∧ (∀ y ∈ ys, y.length ≤ 1000000) ∧ xs.length ≤ 1000000 ∧ ys.length ≤ 1000000 := by
 unfold badP at h
 rw [Bool.or_eq_false_iff] at h
 have h1 : checkA xs = 0 := by simpa using h.1
 have h2 : checkA ys = 0 := by simpa using h.2
 have k1 := (checkA_ok.1 h1).2
 have k2 := (checkA_ok.1 h2).2
 unfold bigA at k1 k2
 rw [Bool.or_eq_false_iff, List.any_eq_false] at k1 k2
 have e1 := of_decide_eq_false k1.1
 have e2 := of_decide_eq_false k2.1
 refine ⟨fun x hx => ?_, fun x hx => ?_, by omega, by omega⟩
 ·have := k1.2 x hx; simp at this; omega
 ·have := k2.2 x hx; simp at this; omega
set_option maxRecDepth 100000 in
set_option maxHeartbeats 8000000 in
theorem EntailsBy_p (w : World) (vc v u : Value) (c : Catalog) (xs ys : List (List Term)) (hg : Glob w) (hc : Is w vc c) (h1 : Is w v xs) (h2 : Is w u ys) :
  Calls Tryz.prog 26 #[vc, v, u] w fun e w' => e = .returned (.tuple #[.bool (byP c xs ys).1, .int .i64 (byP c xs ys).2]) ∧ Below w.heap.size w w' := by
 have HF : Hid (byP c xs ys = if badP xs ys then (false, 1) else if !(allE c xs == 0) then (false, allE c xs) else if !(allE c ys == 0) then (false, allE c ys) else (byC (xs.map (clausesA c)) (ys.map (clausesA c)), 0)) := rfl
 have HG := Lib.hid hg
 have HC := Lib.hid hc
 have HI1 := Lib.hid h1
 have HI2 := Lib.hid h2
 have HBL := Lib.hid (bad_lenB (xs := xs) (ys := ys))
 obtain ⟨a0, N0, c0, a1, N1, c1, a2, N2, c2, a3, N3, c3, rfl⟩ := catBox hc
 have hba : Below w.heap.size w (w.alloc (.cells #[.slice a0 N0 c0, .slice a1 N1 c1, .slice a2 N2 c2, .slice a3 N3 c3] 42)) := (by repeat (first | exact zR _ _ | assumption | refine zN ?_ _ | refine zD ?_ | refine zA ?_ ?_ _ | refine zS ?_ ?_ _ | refine zT ?_ (zM (by assumption) ?_) | exact Nat.le_refl _ | (simp <;> omega) | omega))
 have hmn := minimalE_p _ _ _ (two_box 22 (h1.mono hba) (h2.mono hba) (b := w.heap.size + 1) (by simp))
 rw [bad_any] at hmn
 have HBA := Lib.hid hba
 obtain ⟨av, cv, rfl, -⟩ := list_inv h1
 obtain ⟨au, cu, rfl, -⟩ := list_inv h2
 clear h1 h2 hc hg hba
 generalize hlx : xs.length = LX at *
 generalize hly : ys.length = LY at *
 have HLX := Lib.hid hlx
 have HLY := Lib.hid hly
 clear hlx hly
 generalize hbd : badP xs ys = bd at *
 clear hbd
 have HBB : Hid (Below w.heap.size w ((w.alloc (.cells #[.slice a0 N0 c0, .slice a1 N1 c1, .slice a2 N2 c2, .slice a3 N3 c3] 42)).alloc (.cells #[.slice av LX cv, .slice au LY cu] 22))) := by show Below _ _ _; exact (by repeat (first | exact zR _ _ | assumption | refine zN ?_ _ | refine zD ?_ | refine zA ?_ ?_ _ | refine zS ?_ ?_ _ | refine zT ?_ (zM (by assumption) ?_) | exact Nat.le_refl _ | (simp <;> omega) | omega))
 cases bd
 case true =>
  have HT : Hid (byP c xs ys = (false, 1)) := by show _ = _; rw [HF.out]; rfl
  go_enter Tryz.func26, Tryz.ntmps26
  go_wp2_with fail
  refine hmn.mono ?_
  rintro e w1 ⟨rfl, hb⟩
  have HB1 : Hid (Below w.heap.size w w1) := HBB.out.trans (hb.mono (by simp; omega))
  go_wp2
  go_ret2
  exact ⟨by rw [HT.out]; rfl, HB1.out⟩
 have HBO := Lib.hid (HBL.out rfl)
 have HF2 : Hid (byP c xs ys = if !(allE c xs == 0) then (false, allE c xs) else if !(allE c ys == 0) then (false, allE c ys) else (byC (xs.map (clausesA c)) (ys.map (clausesA c)), 0)) := by show _ = _; rw [HF.out]; rfl
 clear HBL HF
 have HA1 := Lib.hid (fun W v h1 h2 h3 => all_p W (.agg #[.slice a0 N0 c0, .slice a1 N1 c1, .slice a2 N2 c2, .slice a3 N3 c3]) v c xs h1 h2 h3 HBO.out.1 (by rw [HLX.out]; exact HBO.out.2.2.1))
 have HA2 := Lib.hid (fun W v h1 h2 h3 => all_p W (.agg #[.slice a0 N0 c0, .slice a1 N1 c1, .slice a2 N2 c2, .slice a3 N3 c3]) v c ys h1 h2 h3 HBO.out.2.1 (by rw [HLY.out]; exact HBO.out.2.2.2))
 have HBC : Hid (byC (xs.map (clausesA c)) (ys.map (clausesA c)) = !(xs.map (clausesA c)).any fun p => !(ys.map (clausesA c)).any fun q => mildC q p) := rfl
 generalize byC (xs.map (clausesA c)) (ys.map (clausesA c)) = bc at *
 generalize xs.map (clausesA c) = cx at *
 generalize ys.map (clausesA c) = cy at *
 generalize hex : allE c xs = ex at *
 generalize hey : allE c ys = ey at *
 clear hex hey
 go_enter Tryz.func26, Tryz.ntmps26
 go_wp2_with fail
 refine hmn.mono ?_
 rintro e w1 ⟨rfl, hb⟩
 have HB1 : Hid (Below w.heap.size w w1) := HBB.out.trans (hb.mono (by simp; omega))
 have hk := hb.mono (B' := w.heap.size + 1) (by simp) |>.mono (B' := w.heap.size + 1) (Nat.le_refl _)
 have d0 := kept hb (a := ⟨w.heap.size, 0, none⟩) (v := .slice a0 N0 c0) (by simp)
 have d1 := kept hb (a := ⟨w.heap.size, 1, none⟩) (v := .slice a1 N1 c1) (by simp)
 have d2 := kept hb (a := ⟨w.heap.size, 2, none⟩) (v := .slice a2 N2 c2) (by simp)
 have d3 := kept hb (a := ⟨w.heap.size, 3, none⟩) (v := .slice a3 N3 c3) (by simp)
 have hs0 := cell_lt d0
 have hcall := HA1.out w1 _ (HG.out.mono HB1.out) (HC.out.mono HB1.out) (HI1.out.mono HB1.out)
 clear hmn hb hk
 go_wp2_with fail
 refine hcall.mono ?_
 unfold AllO
 rintro e w2 ⟨a5, L5, k5, rfl, ho2, hb2⟩
 have HB2 : Hid (Below w.heap.size w w2) := HB1.out.trans (hb2.mono HB1.out.size)
 have d0 := kept hb2 d0
 have d1 := kept hb2 d1
 have d2 := kept hb2 d2
 have d3 := kept hb2 d3
 have hs0 := cell_lt d0
 have HO2 := Lib.hid ho2
 clear hcall hb2 ho2
 by_cases q : ex = 0
 case neg =>
  have q1 : (ex == 0) = false := by simpa using q
  have q2 : (ex != 0) = true := by simpa using q
  have HT : Hid (byP c xs ys = (false, ex)) := by show _ = _; rw [HF2.out, q1]; rfl
  clear q
  go_wp2
  go_ret2
  exact ⟨by rw [HT.out]; rfl, HB2.out⟩
 subst q
 have HX2 := Lib.hid (HO2.out rfl)
 have HF3 : Hid (byP c xs ys = if !(ey == 0) then (false, ey) else (bc, 0)) := by show _ = _; rw [HF2.out]; rfl
 clear HF2 HO2
 have hcall := HA2.out w2 _ (HG.out.mono HB2.out) (HC.out.mono HB2.out) (HI2.out.mono HB2.out)
 go_wp2_with fail
 refine hcall.mono ?_
 unfold AllO
 rintro e w3 ⟨a6, L6, k6, rfl, ho3, hb3⟩
 have HB3 : Hid (Below w.heap.size w w3) := HB2.out.trans (hb3.mono HB2.out.size)
 have HX3 := Lib.hid (HX2.out.mono hb3)
 have HO3 := Lib.hid ho3
 clear hcall hb3 ho3 d0 d1 d2 d3 HX2
 by_cases q : ey = 0
 case neg =>
  have q1 : (ey == 0) = false := by simpa using q
  have q2 : (ey != 0) = true := by simpa using q
  have HT : Hid (byP c xs ys = (false, ey)) := by show _ = _; rw [HF3.out, q1]; rfl
  clear q
  go_wp2
  go_ret2
  exact ⟨by rw [HT.out]; rfl, HB3.out.alloc HB3.out.size _⟩
 subst q
 have HT : Hid (byP c xs ys = (bc, 0)) := by show _ = _; rw [HF3.out]; rfl
 have HY3 := Lib.hid (HO3.out rfl)
 clear HF3 HO3
 have hb4 : Below w3.heap.size w3 (w3.alloc (.cells #[.slice a6 L6 k6] 92)) := (by repeat (first | exact zR _ _ | assumption | refine zN ?_ _ | refine zD ?_ | refine zA ?_ ?_ _ | refine zS ?_ ?_ _ | refine zT ?_ (zM (by assumption) ?_) | exact Nat.le_refl _ | (simp <;> omega) | omega))
 have hst := strictness_p (w3.alloc (.cells #[.slice a6 L6 k6] 92))
 go_wp2_with fail
 refine hst.mono ?_
 rintro e w4 ⟨rfl, hb5⟩
 have y0 := kept hb5 (a := ⟨w3.heap.size, 0, none⟩) (v := .slice a6 L6 k6) (by simp)
 have hs4 := cell_lt y0
 have HB5 : Hid (Below w3.heap.size w3 w4) := hb4.trans (hb5.mono (by simp))
 have hb6 : Below w4.heap.size w4 (w4.alloc (.cells #[fnS] 97)) := (by repeat (first | exact zR _ _ | assumption | refine zN ?_ _ | refine zD ?_ | refine zA ?_ ?_ _ | refine zS ?_ ?_ _ | refine zT ?_ (zM (by assumption) ?_) | exact Nat.le_refl _ | (simp <;> omega) | omega))
 have o0 : (w4.alloc (.cells #[fnS] 97)).cell? ⟨w4.heap.size, 0, none⟩ = some fnS := by simp
 have y1 := kept hb6 y0
 have HB6 : Hid (Below w3.heap.size w3 (w4.alloc (.cells #[fnS] 97))) := HB5.out.trans (hb6.mono HB5.out.size)
 have eg : ∀ args w, (callFunc 59 args).run Tryz.prog w = .ok (.enter 59 args) w := enters_of Tryz.func59 (by kernel_rfl) rfl
 have hcall := ContainsFuncClauses (w4.alloc (.cells #[fnS] 97)) (.slice a5 L5 k5) cx (fun p => !cy.any fun q => mildC q p) 59 #[.pointer (some ⟨w3.heap.size, 0, none⟩), .pointer (some ⟨w4.heap.size, 0, none⟩)] eg (HX3.out.mono HB6.out) (fun i p _ W v hb hv =>
  by1_p W w3.heap.size w4.heap.size v (.slice a6 L6 k6) p cy (kept hb o0) (kept hb y1) ((HY3.out.mono HB6.out).mono hb) hv)
 clear hst hb4 hb5 hb6 o0 y1 eg
 unfold fnS at *
 generalize (cx.any fun p => !cy.any fun q => mildC q p) = bb at *
 go_wp2_with fail
 refine hcall.mono ?_
 rintro e w5 ⟨rfl, hb7⟩
 have HB7 : Hid (Below w.heap.size w w5) := HB3.out.trans ((HB6.out.trans (hb7.mono HB6.out.size)).mono HB3.out.size)
 clear hcall hb7
 go_wp2
 go_ret2
 exact ⟨by rw [HT.out, HBC.out]; rfl, HB7.out⟩
end Go.Proofs.YtoemmpfcnpdblaaGreatDoor
