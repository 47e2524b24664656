/- Plain laws of alternatives: what the reference computes is what the program computes. -/
import Derived.Deep.RegionHeld3
import Derived.Laws.StructEq
import Derived.Test.YtoemmpfcnpdblaaGreatDoorJRefV
import Derived.Test.YtoemmpfcnpdblaaGreatDoorJAltG
import Derived.Test.YtoemmpfcnpdblaaGreatDoorJExpG
import Derived.Test.YtoemmpfcnpdblaaGreatDoorJCmpU
import Derived.Test.YtoemmpfcnpdblaaGreatDoorJEntU
import Derived.Test.YtoemmpfcnpdblaaGreatDoorJLawE
set_option linter.all false
namespace Go.Proofs.YtoemmpfcnpdblaaGreatDoor
open Go

def clashR (l : List (List Term)) : Bool :=
 (List.range l.length).any fun i => (List.range l.length).any fun k => !(i == k) && conA (l.getD i []) (l.getD k [])
def checkR (l : List (List Term)) : Int :=
 if bigA l then 10 else if !(l.all (rises tcmp) && rises acmp l) then 5 else if clashR l then 1 else 0
theorem clashR_min {l : List (List Term)} (h1 : ∀ a ∈ l, a.Pairwise fun x y => tcmp x y < 0) (h2 : l.Pairwise fun a b => acmp a b < 0) : clashR l = clash [] l := by
 rw [Bool.eq_iff_iff, ← Bool.not_eq_false, ← Bool.not_eq_false (clash [] l)]
 refine not_congr ?_
 rw [clash_iff]
 unfold clashR
 have hg : ∀ i (hi : i < l.length), l.getD i [] = l[i] := fun i hi => by rw [List.getD_eq_getElem?_getD, List.getElem?_eq_getElem hi]; rfl
 constructor
 ·intro h
  refine ⟨fun _ _ _ hp => by simp at hp, List.pairwise_iff_getElem.2 fun i j hi hj hij => ?_⟩
  rw [List.any_eq_false] at h
  have h3 := h j (List.mem_range.2 hj)
  rw [List.any_eq_true] at h3
  cases hc : conA l[j] l[i]
  ·rfl
  ·exact absurd ⟨i, List.mem_range.2 hi, by rw [hg i hi, hg j hj, hc]; simp; omega⟩ h3
 ·rintro ⟨-, h3⟩
  have hm := minL_mk h1 h2 h3
  rw [List.any_eq_false]
  intro i hi hx
  rw [List.any_eq_true] at hx
  obtain ⟨k, hk, hx⟩ := hx
  have hi := List.mem_range.1 hi
  have hk := List.mem_range.1 hk
  rw [hg i hi, hg k hk, Bool.and_eq_true] at hx
  have e := hm.apt _ (List.getElem_mem hi) _ (List.getElem_mem hk) hx.2
  have hne : i ≠ k := by simpa using hx.1
  rcases Nat.lt_or_gt_of_ne hne with h | h
  ·have := List.pairwise_iff_getElem.1 h2 i k hi hk h
   rw [e] at this; exact acmp_to.irr _ this
  ·have := List.pairwise_iff_getElem.1 h2 k i hk hi h
   rw [e] at this; exact acmp_to.irr _ this
theorem check_same (l : List (List Term)) : checkA l = checkR l := by
 unfold checkA checkR
 show (if bigA l then (10 : Int) else _) = _
 cases bigA l
 ·rw [if_neg (Bool.false_ne_true), if_neg (Bool.false_ne_true)]
  cases h1 : l.all (rises tcmp)
  ·rfl
  ·cases h2 : rises acmp l
   ·rfl
   ·rw [clashR_min (fun a ha => (rises_pairwise tcmp_to).1 (List.all_eq_true.1 h1 a ha)) ((rises_pairwise acmp_to).1 h2)]; rfl
 ·rfl
def bef (a b : Term) : Bool := slt a.license b.license || (seq a.license b.license && slt a.exception b.exception)
theorem bef_eq (a b : Term) : bef a b = decide (tcmp a b < 0) := by
 have h0 : ∀ x y : ByteArray, slt x y = decide (scmp x y < 0) := fun x y => by
  unfold scmp
  cases slt x y
  ·cases slt y x <;> rfl
  ·rfl
 unfold bef tcmp lex2
 by_cases h : a.license = b.license
 ·have e : scmp a.license b.license = 0 := (scmp_to.eq _ _).2 h
  have e2 : seq a.license b.license = true := by rw [seq_eq]; exact decide_eq_true h
  rw [if_pos e, e2, h0 a.license, e, h0]; simp
 ·have e : ¬ scmp a.license b.license = 0 := fun h2 => h ((scmp_to.eq _ _).1 h2)
  have e2 : seq a.license b.license = false := by rw [seq_eq]; exact decide_eq_false h
  rw [if_neg e, e2, h0]; simp
def addT : List Term → Term → List Term
 | [], t => [t]
 | x :: r, t => if x = t then x :: r else if bef t x then t :: x :: r else x :: addT r t
def joinT (a b : List Term) : List Term := b.foldl addT (a.foldl addT [])
theorem addT_mem {t u : Term} : ∀ {l : List Term}, u ∈ addT l t ↔ u = t ∨ u ∈ l
 | [] => by simp [addT]
 | x :: r => by
  unfold addT
  split
  ·rename_i h; subst h; simp
  ·split
   ·simp
   ·rw [List.mem_cons, addT_mem, List.mem_cons]
    constructor
    ·rintro (h | h | h) <;> simp [h]
    ·rintro (h | h | h) <;> simp [h]
theorem addT_incr {t : Term} : ∀ {l : List Term}, (l.Pairwise fun x y => tcmp x y < 0) → (addT l t).Pairwise fun x y => tcmp x y < 0
 | [], _ => by simp [addT]
 | x :: r, h => by
  obtain ⟨h1, h2⟩ := List.pairwise_cons.1 h
  unfold addT
  split
  ·exact h
  ·rename_i hn
   split
   ·rename_i hb
    rw [bef_eq, decide_eq_true_iff] at hb
    refine List.pairwise_cons.2 ⟨fun z hz => ?_, h⟩
    rcases List.mem_cons.1 hz with rfl | hz
    ·exact hb
    ·exact tcmp_to.tr _ _ _ hb (h1 z hz)
   ·rename_i hb
    rw [bef_eq, decide_eq_true_iff] at hb
    refine List.pairwise_cons.2 ⟨fun z hz => ?_, addT_incr h2⟩
    rcases addT_mem.1 hz with rfl | hz
    ·have := tcmp_to.sw x z
     exact tcmp_to.le_lt (by omega) hn
    ·exact h1 z hz
theorem foldT {l : List Term} : ∀ {acc : List Term}, (acc.Pairwise fun x y => tcmp x y < 0) → ((l.foldl addT acc).Pairwise fun x y => tcmp x y < 0) ∧ ∀ t, t ∈ l.foldl addT acc ↔ t ∈ acc ∨ t ∈ l := by
 induction l with
 | nil => intro acc h; exact ⟨h, by simp⟩
 | cons x r ih =>
  intro acc h
  obtain ⟨h1, h2⟩ := ih (addT_incr (t := x) h)
  refine ⟨h1, fun t => ?_⟩
  rw [List.foldl_cons, h2, addT_mem, List.mem_cons]
  constructor
  ·rintro ((h | h) | h) <;> simp [h]
  ·rintro (h | h | h) <;> simp [h]
theorem joinT_norm (a b : List Term) : joinT a b = normT (a ++ b) := by
 obtain ⟨h1, h2⟩ := foldT (l := a) (acc := []) List.Pairwise.nil
 obtain ⟨h3, h4⟩ := foldT (l := b) h1
 refine altInc_eq tcmp_to h3 (normT_incr _) fun t => ?_
 rw [normT_mem]
 unfold joinT
 rw [h4, h2]; simp
def keepR (all : List (List Term)) (i : Nat) : Bool :=
 !(List.range all.length).any fun k => !(k == i) && conA (all.getD i []) (all.getD k []) && (decide ((all.getD k []).length < (all.getD i []).length) || decide (k < i))
def minimalR (l : List (List Term)) : List (List Term) :=
 let all := l.map normT
 sortS (ltC acmp) (((List.range all.length).filter (keepR all)).map fun i => all.getD i [])
theorem getD_lt {α : Type} {l : List α} {d : α} {i : Nat} (hi : i < l.length) : l.getD i d = l[i] := by rw [List.getD_eq_getElem?_getD, List.getElem?_eq_getElem hi]; rfl
theorem keepR_iff {all : List (List Term)} {i : Nat} : keepR all i = true ↔ ∀ k, k < all.length → k ≠ i → conA (all.getD i []) (all.getD k []) = true → ¬ (all.getD k []).length < (all.getD i []).length ∧ ¬ k < i := by
 unfold keepR
 rw [Bool.not_eq_true', List.any_eq_false]
 constructor
 ·intro h k hk hne hc
  have := h k (List.mem_range.2 hk)
  rw [hc] at this
  simpa [hne] using this
 ·intro h k hk
  have hk := List.mem_range.1 hk
  by_cases hne : k = i
  ·simp [hne]
  ·cases hc : conA (all.getD i []) (all.getD k [])
   ·simp
   ·simpa [hne] using h k hk hne hc
theorem keepR_sat {all : List (List Term)} (h1 : ∀ a ∈ all, a.Pairwise fun x y => tcmp x y < 0) (ts : List Term) : ∀ (n m i : Nat), i < all.length → (all.getD i []).length ≤ n → i ≤ m → conA ts (all.getD i []) = true →
  ∃ k, k < all.length ∧ keepR all k = true ∧ conA ts (all.getD k []) = true
 | n, m, i, hi, hn, hm, hc => by
  cases hk : keepR all i
  ·have hk : ¬ keepR all i = true := by rw [hk]; decide
   rw [keepR_iff] at hk
   simp only [Classical.not_forall] at hk
   obtain ⟨k, hkl, hne, hcon, hh⟩ := hk
   have hs := con_sub (h1 _ (by rw [getD_lt hi]; exact List.getElem_mem hi)) (h1 _ (by rw [getD_lt hkl]; exact List.getElem_mem hkl)) hcon
   have hl := hs.length_le
   by_cases hlt : (all.getD k []).length < (all.getD i []).length
   ·cases n with
    | zero => omega
    | succ n => exact keepR_sat h1 ts n all.length k hkl (by omega) (by omega) (conA_trans hc hcon)
   ·cases m with
    | zero => exact absurd ⟨hlt, by omega⟩ hh
    | succ m => exact keepR_sat h1 ts n m k hkl (by omega) (by
      rcases Nat.lt_or_ge k i with h2 | h2
      ·omega
      ·exact absurd ⟨hlt, by omega⟩ hh) (conA_trans hc hcon)
  ·exact ⟨i, hi, hk, hc⟩
 termination_by n m => (n, m)
theorem minimal_same (l : List (List Term)) : minimalR l = minimalP l := by
 have hall : ∀ a ∈ l.map normT, a.Pairwise fun x y => tcmp x y < 0 := fun a ha => by
  obtain ⟨y, -, rfl⟩ := List.mem_map.1 ha; exact normT_incr y
 have hsat : ∀ ts, satP (l.map normT) ts = satP l ts := satP_norm l
 unfold minimalR
 generalize l.map normT = all at *
 simp only
 have hmem : ∀ x, x ∈ ((List.range all.length).filter (keepR all)).map (fun i => all.getD i []) ↔ ∃ i, i < all.length ∧ keepR all i = true ∧ all.getD i [] = x := by
  intro x; simp [List.mem_map, List.mem_filter, and_assoc]
 have hin : ∀ i, i < all.length → all.getD i [] ∈ all := fun i hi => by rw [getD_lt hi]; exact List.getElem_mem hi
 have happ : ∀ i, i < all.length → ∀ k, k < all.length → keepR all i = true → conA (all.getD i []) (all.getD k []) = true → all.getD i [] = all.getD k [] := by
  intro i hi k hk hki hc
  by_cases hne : k = i
  ·rw [hne]
  ·have h2 := (keepR_iff.1 hki k hk hne hc).1
   have hs := con_sub (hall _ (hin i hi)) (hall _ (hin k hk)) hc
   exact (hs.eq_of_length (Nat.le_antisymm hs.length_le (by omega))).symm
 refine min_unique ⟨?_, ?_, ?_⟩ (minimal_min l) fun ts => ?_
 ·intro a ha
  obtain ⟨i, hi, -, rfl⟩ := (hmem a).1 ((sortS_permA _ _).mem_iff.1 ha)
  exact hall _ (hin i hi)
 ·have hnd : (((List.range all.length).filter (keepR all)).map fun i => all.getD i []).Nodup := by
   unfold List.Nodup
   rw [List.pairwise_map]
   have h3 : ((List.range all.length).filter (keepR all)).Pairwise (· < ·) := (List.pairwise_lt_range).filter _
   refine h3.imp_of_mem fun {i k} hi hk hik he => ?_
   have hi := List.mem_filter.1 hi
   have hk := List.mem_filter.1 hk
   have := (keepR_iff.1 hk.2 i (List.mem_range.1 hi.1) (by omega) (by rw [he]; exact conA_refl _)).2
   omega
  have hnd2 := (sortS_permA (ltC acmp) _).nodup_iff.2 hnd
  have hle := sortS_le acmp_to (((List.range all.length).filter (keepR all)).map fun i => all.getD i [])
  exact (hle.and hnd2).imp fun {a b} ⟨h1, h2⟩ => acmp_to.le_lt h1 h2
 ·intro a ha b hb hc
  obtain ⟨i, hi, hki, rfl⟩ := (hmem a).1 ((sortS_permA _ _).mem_iff.1 ha)
  obtain ⟨k, hk, -, rfl⟩ := (hmem b).1 ((sortS_permA _ _).mem_iff.1 hb)
  exact happ i hi k hk hki hc
 ·rw [minimal_sat, satP_perm (sortS_permA _ _), ← hsat, Bool.eq_iff_iff, satP_iff, satP_iff]
  constructor
  ·rintro ⟨a, ha, hc⟩
   obtain ⟨i, hi, -, rfl⟩ := (hmem a).1 ha
   exact ⟨_, hin i hi, hc⟩
  ·rintro ⟨a, ha, hc⟩
   obtain ⟨i, hi, rfl⟩ := List.mem_iff_getElem.1 ha
   obtain ⟨k, hk, hkk, hck⟩ := keepR_sat hall ts _ i i hi (Nat.le_refl _) (Nat.le_refl _) (by rw [getD_lt hi]; exact hc)
   exact ⟨_, (hmem _).2 ⟨k, hk, hkk, rfl⟩, hck⟩
end Go.Proofs.YtoemmpfcnpdblaaGreatDoor
namespace Go.Proofs.YtoemmpfcnpdblaaGreatDoor
open Go Go.RowKit Go.ChangeShapes Go.Lib

theorem eqlT (x y : Term) (w : World) : (Go.binOp BinOp.eql 67 (.agg #[.string x.license, .string x.exception]) (.agg #[.string y.license, .string y.exception])).run Tryz.prog w = .ok (.bool (decide (x = y))) w := by
 have u3 := Tryz.underlying9
 have a3 := Tryz.isAgg9
 have z3 := Tryz.sizeOf9
 have hS : Tryz.prog.underlying 67 = some (.struct (Tryz.prog.fieldsOf 67)) := by kernel_rfl
 have hp : Tryz.prog.stoodInHeld 67 = false := by kernel_rfl
 rw [run_eql_struct, show (10000 : Nat) = 9999 + 1 from rfl, run_equalIn_agg w 9999 67 _ _ hS hp]
 simp only [Program.fieldsOf, Tryz.underlying67]
 go_simp
 have e : decide (x = y) = ((x.license.toList == y.license.toList) && (x.exception.toList == y.exception.toList)) := by
  rw [ba_eq, ba_eq, Bool.eq_iff_iff]
  cases x; cases y
  simp
 rw [e]
 by_cases h1 : x.license.toList = y.license.toList <;> by_cases h2 : x.exception.toList = y.exception.toList <;> simp [h1, h2]
theorem neqT (x y : Term) (w : World) : (Go.binOp BinOp.neq 67 (.agg #[.string x.license, .string x.exception]) (.agg #[.string y.license, .string y.exception])).run Tryz.prog w = .ok (.bool (!decide (x = y))) w := by
 have u3 := Tryz.underlying9
 have a3 := Tryz.isAgg9
 have z3 := Tryz.sizeOf9
 have hS : Tryz.prog.underlying 67 = some (.struct (Tryz.prog.fieldsOf 67)) := by kernel_rfl
 have hp : Tryz.prog.stoodInHeld 67 = false := by kernel_rfl
 rw [run_neq_struct, show (10000 : Nat) = 9999 + 1 from rfl, run_equalIn_agg w 9999 67 _ _ hS hp]
 simp only [Program.fieldsOf, Tryz.underlying67]
 go_simp
 have e : decide (x = y) = ((x.license.toList == y.license.toList) && (x.exception.toList == y.exception.toList)) := by
  rw [ba_eq, ba_eq, Bool.eq_iff_iff]
  cases x; cases y
  simp
 rw [e]
 by_cases h1 : x.license.toList = y.license.toList <;> by_cases h2 : x.exception.toList = y.exception.toList <;> simp [h1, h2]
theorem any_snocR {α : Type} (p : α → Bool) {xs : List α} {k : Nat} {x : α} (hx : xs[k]? = some x) : (xs.take (k + 1)).any p = ((xs.take k).any p || p x) := by
 rw [take_at hx, List.any_append]; simp
theorem any_hitR {α : Type} {p : α → Bool} {xs : List α} {k : Nat} {x : α} (hx : xs[k]? = some x) (hp : p x = true) : xs.any p = true := List.any_eq_true.2 ⟨x, List.mem_of_getElem? hx, hp⟩
theorem any_endR {α : Type} {p : α → Bool} {xs : List α} {k : Nat} (h : (xs.take k).any p = false) (hk : ¬ k < xs.length) : xs.any p = false := by
 rw [List.take_of_length_le (by omega)] at h; exact h
set_option maxRecDepth 100000 in
set_option maxHeartbeats 4000000 in
theorem SameTerms_ref (w : World) (x0 x1 : Value) (xs ys : List Term) (h : Is w x0 xs) (h1 : Is w x1 ys) :
  Calls Tryz.prog 20 #[x0, x1] w fun e w' => e = .returned (.bool (decide (xs = ys))) ∧ Below w.heap.size w w' := by
 obtain ⟨a, c, rfl, hnc, hc, hr⟩ := list_inv h
 obtain ⟨a1, c1, rfl, hnc1, hc1, hr1⟩ := list_inv h1
 unfold maxLen at hc hc1
 clear h h1
 have HF : Hid (¬ xs.length = ys.length → decide (xs = ys) = false) := fun h => by rw [decide_eq_false]; rintro rfl; exact h rfl
 have HR := Lib.hid hr
 have HR1 := Lib.hid hr1
 clear hr hr1
 generalize hM : xs.length = M at *
 generalize hM1 : ys.length = M1 at *
 have HM := Lib.hid hM
 have HM1 := Lib.hid hM1
 clear hM hM1
 by_cases hne : M = M1
 case neg =>
  have q0 : ((M : Int) != (M1 : Int)) = true := by simp; omega
  have HG := Lib.hid (HF.out hne)
  clear hne HF
  go_enter Tryz.func20, Tryz.ntmps20
  go_wp2
  go_ret
  exact ⟨ret_b HG.out.symm, Below.refl _ _⟩
 have q0 : ((M : Int) != (M1 : Int)) = false := by simp; omega
 have HNE := Lib.hid hne
 clear hne HF
 go_enter Tryz.func20, Tryz.ntmps20
 go_wp2
 go_loopw [5] (fun i wr => ∃ k : Nat, k ≤ M ∧ i = .int .i64 k ∧ Hid (decide (xs = ys) = decide (xs.drop k = ys.drop k)) ∧ Hid (Below w.heap.size w wr)) (fun i _ => M - (intOf i).toNat)
 case atStart => exact ⟨0, by omega, rfl, rfl, Lib.hid (Below.refl _ _)⟩
 case round =>
  obtain ⟨k, hk, rfl, hf, hbr⟩ := hrel
  by_cases hki : k < M
  ·obtain ⟨x, hx⟩ := get_lt (xs := xs) (k := k) (by rw [HM.out]; exact hki)
   obtain ⟨y, hy⟩ := get_lt (xs := ys) (k := k) (by rw [HM1.out, ← HNE.out]; exact hki)
   obtain ⟨b, off, rfl, hb, x0', x1', -⟩ := Term.at_row HR.out hx
   obtain ⟨b', off', rfl, hb', y0', y1', -⟩ := Term.at_row HR1.out hy
   have x0 := kept hbr.out x0'
   have x1 := kept hbr.out x1'
   have y0 := kept hbr.out y0'
   have y1 := kept hbr.out y1'
   have hd := Lib.hid (dec_cons (drop_at hx) (drop_at hy) _ hf.out)
   have hkz : (k : Int) < (M : Int) := by omega
   have hkz1 : (k : Int) < (M1 : Int) := by have := HNE.out; omega
   have hk0 : (0 : Int) ≤ (k : Int) := by omega
   have hq := fun W => neqT x y W
   clear hx hy x0' x1' y0' y1' hf q0
   cases e9 : decide (x = y)
   case false =>
    rw [e9] at hq
    have HF : Hid (decide (xs = ys) = false) := by show _ = _; rw [hd.out, e9]; rfl
    clear hd e9
    go_wp2
    go_quiet (fail)
    go_wp2
    go_ret
    exact ⟨ret_b HF.out.symm, hbr.out.drewN _⟩
   case true =>
    rw [e9] at hq
    have HT : Hid (decide (xs = ys) = decide (xs.drop (k + 1) = ys.drop (k + 1))) := by show _ = _; rw [hd.out, e9, Bool.true_and]
    clear hd e9
    go_wp2
    go_quiet (fail)
    go_wp2
    go_roundw
    case rel => exact ⟨k + 1, by omega, by go_num, HT, Lib.hid (hbr.out.drewN _)⟩
    case measure => simp [intOf]; omega
  ·have P : Hid (decide (xs = ys) = true) := by
    show _ = _
    rw [hf.out, List.drop_eq_nil_of_le (by rw [HM.out]; omega), List.drop_eq_nil_of_le (by rw [HM1.out, ← HNE.out]; omega)]; simp
   have hkz : ¬ (k : Int) < (M : Int) := by omega
   go_wp2
   go_ret
   exact ⟨ret_b P.out.symm, hbr.out⟩
set_option maxRecDepth 100000 in
set_option maxHeartbeats 4000000 in
theorem Has_ref (w : World) (v : Value) (xs : List Term) (t : Term) (h : Is w v xs) :
  Calls Tryz.prog 171 #[v, .agg #[.string t.license, .string t.exception]] w fun e w' => e = .returned (.bool (hasT xs t)) ∧ Below w.heap.size w w' := by
 obtain ⟨a, c, rfl, hnc, hcm, hr⟩ := list_inv h
 simp only [maxLen] at hcm
 have HR := Lib.hid hr
 have HD : Hid (hasT xs t = xs.any fun y => decide (y = t)) := rfl
 clear hr h
 generalize hN : xs.length = N at *
 have HN := Lib.hid hN
 clear hN
 go_enter Tryz.func171, Tryz.ntmps171
 go_wp2
 have hba : Below w.heap.size w (w.alloc (.cells #[.string t.license, .string t.exception] 67)) := (by first | ((repeat (first | exact Below.refl _ _ | assumption | refine Below.drewN ?_ _ | refine Below.drew ?_ | refine Below.alloc ?_ (by first | exact Nat.le_refl _ | (simp; done) | (simp; omega) | omega) _ | refine Below.setCell ?_ (by first | exact Nat.le_refl _ | (simp; done) | (simp; omega) | omega) _ | refine Below.trans ?_ (Below.mono (by assumption) (by first | exact Nat.le_refl _ | (simp; done) | (simp; omega) | omega)))); done) | fail)
 have e0 : (w.alloc (.cells #[.string t.license, .string t.exception] 67)).cell? ⟨w.heap.size, 0, none⟩ = some (.string t.license) := by simp
 have e1 : (w.alloc (.cells #[.string t.license, .string t.exception] 67)).cell? ⟨w.heap.size, 1, none⟩ = some (.string t.exception) := by simp
 generalize w.alloc (.cells #[.string t.license, .string t.exception] 67) = w0 at *
 have HBA := Lib.hid hba
 clear hba
 go_loopw [5] (fun i wr => ∃ k : Nat, k ≤ N ∧ i = .int .i64 k ∧ Hid ((xs.take k).any (fun y => decide (y = t)) = false) ∧ ∃ m, wr = w0.drewN m) (fun i _ => N - (intOf i).toNat)
 case atStart => exact ⟨0, by omega, rfl, rfl, 0, rfl⟩
 case round =>
  obtain ⟨k, hk, rfl, HK, m, rfl⟩ := hrel
  by_cases hki : k < N
  ·have hkz : (k : Int) < (N : Int) := by omega
   have hk0 : (0 : Int) ≤ (k : Int) := by omega
   obtain ⟨x, hx⟩ := get_lt (xs := xs) (k := k) (by rw [HN.out]; exact hki)
   obtain ⟨b, off, rfl, hb, x0', x1', -⟩ := Term.at_row HR.out hx
   have x0 := kept HBA.out x0'
   have x1 := kept HBA.out x1'
   have hq := fun W => eqlT x t W
   have HX := Lib.hid hx
   clear hx x0' x1'
   cases e9 : decide (x = t)
   case true =>
    rw [e9] at hq
    have HF : Hid (hasT xs t = true) := any_hitR HX.out e9
    clear e9
    go_wp2
    go_quiet (fail)
    go_wp2
    go_ret
    exact ⟨ret_b HF.out.symm, (HBA.out.drewN _).drewN _⟩
   case false =>
    rw [e9] at hq
    have HT : Hid ((xs.take (k + 1)).any (fun y => decide (y = t)) = false) := by show _ = _; rw [any_snocR _ HX.out, HK.out, e9]; rfl
    clear e9
    go_wp2
    go_quiet (fail)
    go_wp2
    go_roundw
    case rel => exact ⟨k + 1, by omega, by go_num, HT, _, rfl⟩
    case measure => simp [intOf]; omega
  ·have hkz : ¬ (k : Int) < (N : Int) := by omega
   have HF : Hid (hasT xs t = false) := any_endR HK.out (by rw [HN.out]; exact hki)
   go_wp2
   go_ret
   exact ⟨ret_b HF.out.symm, HBA.out.drewN _⟩
set_option maxRecDepth 100000 in
set_option maxHeartbeats 4000000 in
theorem Contains_ref (w : World) (v1 v2 : Value) (xs ys : List Term) (h1 : Is w v1 xs) (h2 : Is w v2 ys) :
  Calls Tryz.prog 107 #[v1, v2] w fun e w' => e = .returned (.bool (conA xs ys)) ∧ Below w.heap.size w w' := by
 have HI := Lib.hid h1
 obtain ⟨a, c, rfl, -⟩ := list_inv h1
 obtain ⟨b, d, rfl, hnd, hdm, hs⟩ := list_inv h2
 simp only [maxLen] at hdm
 have HS := Lib.hid hs
 have HD : Hid (conA xs ys = !ys.any fun t => !hasT xs t) := by show _ = _; unfold conA; rw [List.not_any_eq_all_not]; simp
 clear h1 h2 hs
 generalize xs.length = N at *
 generalize hM : ys.length = M at *
 have HM := Lib.hid hM
 clear hM
 go_enter Tryz.func107, Tryz.ntmps107
 go_wp2
 go_loopw [5] (fun i wr => ∃ k : Nat, k ≤ M ∧ i = .int .i64 k ∧ Hid ((ys.take k).any (fun t => !hasT xs t) = false) ∧ Hid (Below w.heap.size w wr)) (fun i _ => M - (intOf i).toNat)
 case atStart => exact ⟨0, by omega, rfl, rfl, Below.refl _ _⟩
 case round =>
  obtain ⟨k, hk, rfl, HK, HB⟩ := hrel
  by_cases hki : k < M
  ·have hkz : (k : Int) < (M : Int) := by omega
   have hk0 : (0 : Int) ≤ (k : Int) := by omega
   obtain ⟨x, hx⟩ := get_lt (xs := ys) (k := k) (by rw [HM.out]; exact hki)
   obtain ⟨b, off, rfl, hb, x0', x1', -⟩ := Term.at_row HS.out hx
   have x0 := kept HB.out x0'
   have x1 := kept HB.out x1'
   have hsx := cell_lt x0
   have HX := Lib.hid hx
   have hcall := Has_ref wr (.slice a N c) xs x (HI.out.mono HB.out)
   clear hx x0' x1'
   cases e9 : hasT xs x
   case false =>
    rw [e9] at hcall
    have HF : Hid (conA xs ys = false) := by show _ = _; rw [HD.out, any_hitR HX.out (by rw [e9]; rfl)]; rfl
    clear e9
    go_wp2_with fail
    refine hcall.mono ?_
    rintro e w2 ⟨rfl, hb2⟩
    have HB2 : Hid (Below w.heap.size w w2) := HB.out.trans (hb2.mono HB.out.size)
    clear hcall hb2
    go_wp2
    go_ret
    exact ⟨ret_b HF.out.symm, HB2.out⟩
   case true =>
    rw [e9] at hcall
    have HT : Hid ((ys.take (k + 1)).any (fun t => !hasT xs t) = false) := by show _ = _; rw [any_snocR _ HX.out, HK.out, e9]; rfl
    clear e9
    go_wp2_with fail
    refine hcall.mono ?_
    rintro e w2 ⟨rfl, hb2⟩
    have HB2 : Hid (Below w.heap.size w w2) := HB.out.trans (hb2.mono HB.out.size)
    clear hcall hb2
    go_wp2
    go_roundw
    case rel => exact ⟨k + 1, by omega, by go_num, HT, HB2⟩
    case measure => simp [intOf]; omega
  ·have hkz : ¬ (k : Int) < (M : Int) := by omega
   have HF : Hid (conA xs ys = true) := by show _ = _; rw [HD.out, any_endR HK.out (by rw [HM.out]; exact hki)]; rfl
   go_wp2
   go_ret
   exact ⟨ret_b HF.out.symm, HB.out⟩
set_option maxRecDepth 100000 in
set_option maxHeartbeats 4000000 in
theorem Satisfied_ref (w : World) (v1 v2 : Value) (xs : List (List Term)) (ts : List Term) (h1 : Is w v1 xs) (h2 : Is w v2 ts) :
  Calls Tryz.prog 50 #[v1, v2] w fun e w' => e = .returned (.bool (satP xs ts)) ∧ Below w.heap.size w w' := by
 have HI := Lib.hid h2
 obtain ⟨a, c, rfl, hnc, hcm, hr⟩ := list_inv h1
 obtain ⟨b, d, rfl, -⟩ := list_inv h2
 simp only [maxLen] at hcm
 have HR := Lib.hid hr
 have HD : Hid (satP xs ts = xs.any (conA ts)) := rfl
 clear h1 h2 hr
 generalize ts.length = M at *
 generalize hN : xs.length = N at *
 have HN := Lib.hid hN
 clear hN
 go_enter Tryz.func50, Tryz.ntmps50
 go_wp2
 go_loopw [5] (fun i wr => ∃ k : Nat, k ≤ N ∧ i = .int .i64 k ∧ Hid ((xs.take k).any (conA ts) = false) ∧ Hid (Below w.heap.size w wr)) (fun i _ => N - (intOf i).toNat)
 case atStart => exact ⟨0, by omega, rfl, rfl, Below.refl _ _⟩
 case round =>
  obtain ⟨k, hk, rfl, HK, HB⟩ := hrel
  by_cases hki : k < N
  ·have hkz : (k : Int) < (N : Int) := by omega
   have hk0 : (0 : Int) ≤ (k : Int) := by omega
   obtain ⟨x, hx⟩ := get_lt (xs := xs) (k := k) (by rw [HN.out]; exact hki)
   obtain ⟨bx, ox, rfl, hbx, ax, cx, x0', hx1, hx2, hx3⟩ := list_at HR.out hx
   have x0 := kept HB.out x0'
   have hsx := cell_lt x0
   have HX := Lib.hid hx
   have hcall := Contains_ref wr (.slice b M d) (.slice ax x.length cx) ts x (HI.out.mono HB.out) (list_mk hx1 hx2 (hx3.mono HB.out))
   clear hx x0' hx3
   cases e9 : conA ts x
   case true =>
    rw [e9] at hcall
    have HF : Hid (satP xs ts = true) := by show _ = _; rw [HD.out, any_hitR HX.out e9]
    clear e9
    go_wp2_with fail
    refine hcall.mono ?_
    rintro e w2 ⟨rfl, hb2⟩
    have HB2 : Hid (Below w.heap.size w w2) := HB.out.trans (hb2.mono HB.out.size)
    clear hcall hb2
    go_wp2
    go_ret
    exact ⟨ret_b HF.out.symm, HB2.out⟩
   case false =>
    rw [e9] at hcall
    have HT : Hid ((xs.take (k + 1)).any (conA ts) = false) := by show _ = _; rw [any_snocR _ HX.out, HK.out, e9]; rfl
    clear e9
    go_wp2_with fail
    refine hcall.mono ?_
    rintro e w2 ⟨rfl, hb2⟩
    have HB2 : Hid (Below w.heap.size w w2) := HB.out.trans (hb2.mono HB.out.size)
    clear hcall hb2
    go_wp2
    go_roundw
    case rel => exact ⟨k + 1, by omega, by go_num, HT, HB2⟩
    case measure => simp [intOf]; omega
  ·have hkz : ¬ (k : Int) < (N : Int) := by omega
   have HF : Hid (satP xs ts = false) := by show _ = _; rw [HD.out, any_endR HK.out (by rw [HN.out]; exact hki)]
   go_wp2
   go_ret
   exact ⟨ret_b HF.out.symm, HB.out⟩
set_option maxRecDepth 100000 in
set_option maxHeartbeats 4000000 in
theorem large_ref (w : World) (v : Value) (xs : List (List Term)) (h : Is w v xs) :
  Calls Tryz.prog 108 #[v] w fun e w' => e = .returned (.bool (bigA xs)) ∧ w' = w := by
 obtain ⟨a, c, rfl, hnc, hcm, hr⟩ := list_inv h
 simp only [maxLen] at hcm
 have HR := Lib.hid hr
 have HD : Hid (bigA xs = (decide ((64 : Int) < xs.length) || xs.any (fun a => decide ((64 : Int) < a.length)))) := rfl
 clear hr h
 generalize hN : xs.length = N at *
 have HN := Lib.hid hN
 clear hN
 go_enter Tryz.func108, Tryz.ntmps108
 go_wp2
 go_loopw [3] (fun i wr => ∃ k : Nat, k ≤ N ∧ i = .int .i64 k ∧ Hid ((xs.take k).any (fun a => decide ((64 : Int) < a.length)) = false) ∧ wr = w) (fun i _ => N - (intOf i).toNat)
 case atStart => exact ⟨0, by omega, rfl, rfl, rfl⟩
 case round =>
  obtain ⟨k, hk, rfl, HK, rfl⟩ := hrel
  by_cases hki : k < N
  ·have hkz : (k : Int) < (N : Int) := by omega
   have hk0 : (0 : Int) ≤ (k : Int) := by omega
   obtain ⟨x, hx⟩ := get_lt (xs := xs) (k := k) (by rw [HN.out]; exact hki)
   obtain ⟨bx, ox, rfl, hbx, ax, cx, x0, hx1, hx2, hx3⟩ := list_at HR.out hx
   have hsx := cell_lt x0
   have HX := Lib.hid hx
   have HE : Hid (∀ m, x.length = m → (fun a : List Term => decide ((64 : Int) < a.length)) x = decide ((64 : Int) < m)) := fun m h => by simp [h]
   simp only [maxLen] at hx2
   clear hx hx3
   generalize hL : x.length = L at *
   have HL := Lib.hid (HE.out L rfl)
   clear hL HE
   cases e9 : decide ((64 : Int) < (L : Int))
   case true =>
    have HF : Hid (bigA xs = true) := by show _ = _; rw [HD.out, any_hitR HX.out (HL.out.trans e9), Bool.or_true]
    have e8 := of_decide_eq_true e9
    clear e9
    go_wp2
    go_ret
    exact ⟨ret_b HF.out.symm, rfl⟩
   case false =>
    have HT : Hid ((xs.take (k + 1)).any (fun a => decide ((64 : Int) < a.length)) = false) := (any_snocR _ HX.out).trans (by rw [HK.out]; exact HL.out.trans e9)
    have e8 := of_decide_eq_false e9
    clear e9
    go_wp2
    go_roundw
    case rel => exact ⟨k + 1, by omega, by go_num, HT, trivial⟩
    case measure => simp [intOf]; omega
  ·have hkz : ¬ (k : Int) < (N : Int) := by omega
   have HF : Hid (bigA xs = decide ((64 : Int) < (N : Int))) := by show _ = _; rw [HD.out, any_endR HK.out (by rw [HN.out]; exact hki), Bool.or_false]
   go_wp2
   go_ret
   exact ⟨ret_b HF.out.symm, rfl⟩
end Go.Proofs.YtoemmpfcnpdblaaGreatDoor
namespace Go.Proofs.YtoemmpfcnpdblaaGreatDoor
open Go Go.RowKit Go.ChangeShapes Go.Lib

set_option maxRecDepth 100000 in
set_option maxHeartbeats 1000000 in
theorem Before_ref (w : World) (a b : Term) :
  Calls Tryz.prog 172 #[.agg #[.string a.license, .string a.exception], .agg #[.string b.license, .string b.exception]] w fun e w' => e = .returned (.bool (bef a b)) ∧ Below w.heap.size w w' := by
 have HP : Hid (bef a b = (Op.bytesLess a.license.toList b.license.toList || ((a.license.toList == b.license.toList) && Op.bytesLess a.exception.toList b.exception.toList))) := rfl
 cases q1 : Op.bytesLess a.license.toList b.license.toList
 case true =>
  go_enter Tryz.func172, Tryz.ntmps172
  go_wp2
  go_ret
  exact ⟨ret_b (by rw [HP.out, q1]; rfl), (by first | ((repeat (first | exact Below.refl _ _ | assumption | refine Below.drewN ?_ _ | refine Below.drew ?_ | refine Below.alloc ?_ (by first | exact Nat.le_refl _ | (simp; done) | (simp; omega) | omega) _ | refine Below.setCell ?_ (by first | exact Nat.le_refl _ | (simp; done) | (simp; omega) | omega) _ | refine Below.trans ?_ (Below.mono (by assumption) (by first | exact Nat.le_refl _ | (simp; done) | (simp; omega) | omega)))); done) | fail)⟩
 cases q2 : (a.license.toList == b.license.toList)
 case false =>
  go_enter Tryz.func172, Tryz.ntmps172
  go_wp2
  go_ret
  exact ⟨ret_b (by rw [HP.out, q1, q2]; rfl), (by first | ((repeat (first | exact Below.refl _ _ | assumption | refine Below.drewN ?_ _ | refine Below.drew ?_ | refine Below.alloc ?_ (by first | exact Nat.le_refl _ | (simp; done) | (simp; omega) | omega) _ | refine Below.setCell ?_ (by first | exact Nat.le_refl _ | (simp; done) | (simp; omega) | omega) _ | refine Below.trans ?_ (Below.mono (by assumption) (by first | exact Nat.le_refl _ | (simp; done) | (simp; omega) | omega)))); done) | fail)⟩
 case true =>
  go_enter Tryz.func172, Tryz.ntmps172
  go_wp2
  go_ret
  exact ⟨ret_b (by rw [HP.out, q1, q2]; simp), (by first | ((repeat (first | exact Below.refl _ _ | assumption | refine Below.drewN ?_ _ | refine Below.drew ?_ | refine Below.alloc ?_ (by first | exact Nat.le_refl _ | (simp; done) | (simp; omega) | omega) _ | refine Below.setCell ?_ (by first | exact Nat.le_refl _ | (simp; done) | (simp; omega) | omega) _ | refine Below.trans ?_ (Below.mono (by assumption) (by first | exact Nat.le_refl _ | (simp; done) | (simp; omega) | omega)))); done) | fail)⟩
theorem lcmp_lt {x y : Term} {a b : List Term} (h : bef x y = true) : lcmp tcmp (x :: a) (y :: b) = -1 := by
 rw [bef_eq] at h
 have h1 := of_decide_eq_true h
 have h2 := tcmp_to.rng x y
 have h3 : tcmp x y = -1 := by omega
 rw [lcmp, h3]; rfl
theorem lcmp_gt {x y : Term} {a b : List Term} (h : bef y x = true) : lcmp tcmp (x :: a) (y :: b) = 1 := by
 rw [bef_eq] at h
 have h1 := of_decide_eq_true h
 have h2 := tcmp_to.rng x y
 rw [tcmp_to.sw x y] at h1
 have h3 : tcmp x y = 1 := by omega
 rw [lcmp, h3]; rfl
theorem lcmp_on {x y : Term} {a b : List Term} (h : bef x y = false) (k : bef y x = false) : lcmp tcmp (x :: a) (y :: b) = lcmp tcmp a b := by
 rw [bef_eq] at h k
 have h1 := of_decide_eq_false h
 have k1 := of_decide_eq_false k
 rw [tcmp_to.sw x y] at k1
 have h3 : tcmp x y = 0 := by omega
 rw [lcmp, h3]; rfl
set_option maxRecDepth 100000 in
set_option maxHeartbeats 4000000 in
theorem Compare_ref (w : World) (v1 v2 : Value) (xs ys : List Term) (h1 : Is w v1 xs) (h2 : Is w v2 ys) :
  Calls Tryz.prog 110 #[v1, v2] w fun e w' => e = .returned (.int .i64 (acmp xs ys)) ∧ Below w.heap.size w w' := by
 obtain ⟨a, c, rfl, hnc, hcm, hr⟩ := list_inv h1
 obtain ⟨b, d, rfl, hnd, hdm, hs⟩ := list_inv h2
 simp only [maxLen] at hcm hdm
 have HR := Lib.hid hr
 have HS := Lib.hid hs
 have HD : Hid (acmp xs ys = lex2 (ncmp xs.length ys.length) (lcmp tcmp xs ys)) := rfl
 clear hr hs h1 h2
 generalize hN : xs.length = N at *
 have HN := Lib.hid hN
 clear hN
 generalize hM : ys.length = M at *
 have HM := Lib.hid hM
 clear hM
 by_cases hne : N = M
 case neg =>
  have q0 : ((N : Int) != (M : Int)) = true := by simp; omega
  by_cases q1 : (N : Int) < (M : Int)
  ·have HF : Hid (acmp xs ys = -1) := by show _ = _; rw [HD.out]; unfold ncmp lex2; rw [if_pos (show N < M by omega)]; rfl
   go_enter Tryz.func110, Tryz.ntmps110
   go_wp2
   go_ret
   exact ⟨ret_i HF.out.symm, Below.refl _ _⟩
  ·have HF : Hid (acmp xs ys = 1) := by show _ = _; rw [HD.out]; unfold ncmp lex2; rw [if_neg (show ¬ N < M by omega), if_pos (show M < N by omega)]; rfl
   go_enter Tryz.func110, Tryz.ntmps110
   go_wp2
   go_ret
   exact ⟨ret_i HF.out.symm, Below.refl _ _⟩
 subst hne
 have HL : Hid (acmp xs ys = lcmp tcmp xs ys) := by show _ = _; rw [HD.out]; unfold ncmp; rw [if_neg (Nat.lt_irrefl _), if_neg (Nat.lt_irrefl _)]; rfl
 have q0 : ((N : Int) != (N : Int)) = false := by simp
 clear HD
 go_enter Tryz.func110, Tryz.ntmps110
 go_wp2
 clear q0
 go_loopw [5] (fun i wr => ∃ k : Nat, k ≤ N ∧ i = .int .i64 k ∧ Hid (Below w.heap.size w wr) ∧ Hid (acmp xs ys = lcmp tcmp (xs.drop k) (ys.drop k))) (fun i _ => N - (intOf i).toNat)
 case atStart => exact ⟨0, by omega, rfl, Below.refl _ _, HL⟩
 case round =>
  obtain ⟨k, hk, rfl, HB, HC⟩ := hrel
  by_cases hki : k < N
  ·have hkz : (k : Int) < (N : Int) := by omega
   have hk0 : (0 : Int) ≤ (k : Int) := by omega
   obtain ⟨x, hx⟩ := get_lt (xs := xs) (k := k) (by rw [HN.out]; exact hki)
   obtain ⟨y, hy⟩ := get_lt (xs := ys) (k := k) (by rw [HM.out]; exact hki)
   obtain ⟨bx, ox, rfl, hbx, x0', x1', -⟩ := Term.at_row HR.out hx
   obtain ⟨by', oy, rfl, hby, y0', y1', -⟩ := Term.at_row HS.out hy
   have x0 := kept HB.out x0'
   have x1 := kept HB.out x1'
   have y0 := kept HB.out y0'
   have y1 := kept HB.out y1'
   have hsx := cell_lt x0
   have hsy := cell_lt y0
   have hcall := fun W => Before_ref W x y
   have hcall2 := fun W => Before_ref W y x
   have HX : Hid (acmp xs ys = lcmp tcmp (x :: xs.drop (k + 1)) (y :: ys.drop (k + 1))) := by show _ = _; rw [HC.out, drop_at hx, drop_at hy]
   have L1 : Hid (bef x y = true → acmp xs ys = -1) := fun h => by rw [HX.out, lcmp_lt h]
   have L2 : Hid (bef y x = true → acmp xs ys = 1) := fun h => by rw [HX.out, lcmp_gt h]
   have L3 : Hid (bef x y = false → bef y x = false → acmp xs ys = lcmp tcmp (xs.drop (k + 1)) (ys.drop (k + 1))) := fun h k => by rw [HX.out, lcmp_on h k]
   clear hx hy x0' x1' y0' y1' HX
   generalize bef x y = b1 at *
   generalize bef y x = b2 at *
   cases b1
   case true =>
    go_wp2
    refine still_tail 8 (by kernel_rfl) (by kernel_rfl) ?_
    simp only [List.take_succ_cons, List.take_zero, List.drop_succ_cons, List.drop_zero]
    repeat still_step
    refine wpStill_nil ?_
    go_wp2_with fail
    refine (hcall _).mono ?_
    rintro e w2 ⟨rfl, hg⟩
    have HB2 : Hid (Below w.heap.size w w2) := HB.out.trans (((Below.refl wr.heap.size wr).drew.trans hg).mono HB.out.size)
    clear hg hcall hcall2
    go_wp2
    go_ret
    exact ⟨ret_i (L1.out (by first | rfl | trivial)).symm, HB2.out⟩
   case false =>
    go_wp2
    refine still_tail 8 (by kernel_rfl) (by kernel_rfl) ?_
    simp only [List.take_succ_cons, List.take_zero, List.drop_succ_cons, List.drop_zero]
    repeat still_step
    refine wpStill_nil ?_
    go_wp2_with fail
    refine (hcall _).mono ?_
    rintro e w2 ⟨rfl, hg⟩
    have hw2 : Below wr.heap.size wr w2 := (Below.refl wr.heap.size wr).drew.trans hg
    have HB2 : Hid (Below w.heap.size w w2) := HB.out.trans (hw2.mono HB.out.size)
    have x0' := kept hw2 x0
    have x1' := kept hw2 x1
    have y0' := kept hw2 y0
    have y1' := kept hw2 y1
    have hsx := cell_lt x0'
    have hsy := cell_lt y0'
    clear hg hcall x0 x1 y0 y1 hw2
    go_wp2
    refine still_tail 8 (by kernel_rfl) (by kernel_rfl) ?_
    simp only [List.take_succ_cons, List.take_zero, List.drop_succ_cons, List.drop_zero]
    repeat still_step
    refine wpStill_nil ?_
    go_wp2_with fail
    refine (hcall2 _).mono ?_
    rintro e w3 ⟨rfl, hg⟩
    have HB3 : Hid (Below w.heap.size w w3) := HB2.out.trans (((Below.refl w2.heap.size w2).drew.trans hg).mono HB2.out.size)
    clear hg hcall2 x0' x1' y0' y1'
    cases b2
    case true =>
     go_wp2
     go_ret
     exact ⟨ret_i (L2.out (by first | rfl | trivial)).symm, HB3.out⟩
    case false =>
     have HT := Lib.hid (L3.out (by first | rfl | trivial) (by first | rfl | trivial))
     go_wp2
     go_roundw
     case rel => exact ⟨k + 1, by omega, by go_num, HB3, HT⟩
     case measure => simp [intOf]; omega
  ·have hkz : ¬ (k : Int) < (N : Int) := by omega
   have HF : Hid (acmp xs ys = 0) := by
    show _ = _
    rw [HC.out, List.drop_eq_nil_of_le (by rw [HN.out]; omega), List.drop_eq_nil_of_le (by rw [HM.out]; omega)]; rfl
   go_wp2
   go_ret
   exact ⟨ret_i HF.out.symm, HB.out⟩
set_option maxRecDepth 100000 in
set_option maxHeartbeats 4000000 in
theorem sorted_ref (w : World) (v : Value) (xs : List Term) (h : Is w v xs) :
  Calls Tryz.prog 109 #[v] w fun e w' => e = .returned (.bool (rises tcmp xs)) ∧ Below w.heap.size w w' := by
 obtain ⟨a, c, rfl, hnc, hcm, hr⟩ := list_inv h
 simp only [maxLen] at hcm
 have HR := Lib.hid hr
 clear hr h
 generalize hN : xs.length = N at *
 have HN := Lib.hid hN
 clear hN
 go_enter Tryz.func109, Tryz.ntmps109
 go_wp2
 go_loopw [3] (fun kv wr => ∃ m j : Nat, Hid (m = j + 1) ∧ (m = 1 ∨ m ≤ N) ∧ kv = .int .i64 (m : Int) ∧ Hid (Below w.heap.size w wr) ∧ Hid (rises tcmp xs = rises tcmp (xs.drop j))) (fun kv _ => N + 1 - (intOf kv).toNat)
 case atStart => exact ⟨1, 0, rfl, .inl rfl, rfl, Below.refl _ _, rfl⟩
 case round =>
  obtain ⟨m, j, HM, hm, rfl, HB, HD⟩ := hrel
  by_cases hji : m < N
  ·have hkz : (m : Int) < (N : Int) := by omega
   have hjm : j < m := by have := HM.out; omega
   have hjN : (j : Int) < (N : Int) := by omega
   have hj0 : (0 : Int) ≤ (j : Int) := by omega
   have hm0 : (0 : Int) ≤ (m : Int) := by omega
   have hsub : IntKind.i64.wrap ((m : Int) - 1) = (j : Int) := by have := HM.out; rw [show (m : Int) - 1 = j by omega]; exact IntWalk.i64_in _ (by omega)
   obtain ⟨x, hx⟩ := get_lt (xs := xs) (k := j) (by rw [HN.out]; omega)
   obtain ⟨y, hy⟩ := get_lt (xs := xs) (k := m) (by rw [HN.out]; omega)
   obtain ⟨bx, ox, rfl, hbx, x0', x1', -⟩ := Term.at_row HR.out hx
   obtain ⟨b2, o2, he, -, y0', y1', -⟩ := Term.at_row HR.out hy
   cases he
   have x0 := kept HB.out x0'
   have x1 := kept HB.out x1'
   have y0 := kept HB.out y0'
   have y1 := kept HB.out y1'
   have hcall := fun W => Before_ref W x y
   have HE : Hid (rises tcmp (xs.drop j) = (bef x y && rises tcmp (xs.drop m))) := by show _ = _; rw [HM.out] at hy ⊢; rw [bef_eq]; exact rises_at hx hy
   clear hx hy x0' x1' y0' y1'
   generalize bef x y = t at hcall HE
   cases t
   case false =>
    have HT : Hid (rises tcmp xs = false) := by show _ = _; rw [HD.out, HE.out]; rfl
    go_wp2
    refine still_tail 9 (by kernel_rfl) (by kernel_rfl) ?_
    simp only [List.take_succ_cons, List.take_zero, List.drop_succ_cons, List.drop_zero]
    repeat still_step
    refine wpStill_nil ?_
    go_wp2_with fail
    refine (hcall _).mono ?_
    rintro e w2 ⟨rfl, hg⟩
    have HB2 : Hid (Below w.heap.size w w2) := HB.out.trans (((Below.refl wr.heap.size wr).drew.trans hg).mono HB.out.size)
    clear hg hcall
    go_wp2
    go_ret
    exact ⟨ret_b HT.out.symm, HB2.out⟩
   case true =>
    have HT : Hid (rises tcmp xs = rises tcmp (xs.drop m)) := by show _ = _; rw [HD.out, HE.out]; rfl
    go_wp2
    refine still_tail 9 (by kernel_rfl) (by kernel_rfl) ?_
    simp only [List.take_succ_cons, List.take_zero, List.drop_succ_cons, List.drop_zero]
    repeat still_step
    refine wpStill_nil ?_
    go_wp2_with fail
    refine (hcall _).mono ?_
    rintro e w2 ⟨rfl, hg⟩
    have HB2 : Hid (Below w.heap.size w w2) := HB.out.trans (((Below.refl wr.heap.size wr).drew.trans hg).mono HB.out.size)
    clear hg hcall hsub
    go_wp2
    go_roundw
    case rel => exact ⟨m + 1, m, rfl, .inr (by omega), by go_num, HB2, HT⟩
    case measure => simp [intOf]; omega
  ·have hkz : ¬ (m : Int) < (N : Int) := by omega
   have HT : Hid (rises tcmp xs = true) := by show _ = _; rw [HD.out, rises_end (by have := HM.out; rw [HN.out]; omega)]
   go_wp2
   go_ret
   exact ⟨ret_b HT.out.symm, HB.out⟩
end Go.Proofs.YtoemmpfcnpdblaaGreatDoor
namespace Go.Proofs.YtoemmpfcnpdblaaGreatDoor
open Go Go.RowKit Go.ChangeShapes Go.Lib

theorem all_snocR {α : Type} (p : α → Bool) {xs : List α} {k : Nat} {x : α} (hx : xs[k]? = some x) : (xs.take (k + 1)).all p = ((xs.take k).all p && p x) := by
 rw [take_at hx, List.all_append]; simp
theorem all_missR {α : Type} {p : α → Bool} {xs : List α} {k : Nat} {x : α} (hx : xs[k]? = some x) (hp : p x = false) : xs.all p = false := List.all_eq_false.2 ⟨x, List.mem_of_getElem? hx, by rw [hp]; decide⟩
theorem checkR_big {l : List (List Term)} (h : bigA l = true) : checkR l = 10 := by unfold checkR; rw [h]; rfl
theorem checkR_ord {l : List (List Term)} (h : bigA l = false) (h2 : (l.all (rises tcmp) && rises acmp l) = false) : checkR l = 5 := by unfold checkR; rw [h, h2]; rfl
theorem checkR_on {l : List (List Term)} (h : bigA l = false) (h1 : l.all (rises tcmp) = true) (h2 : rises acmp l = true) : checkR l = if clashR l then 1 else 0 := by unfold checkR; rw [h, h1, h2]; rfl
def clashAt (l : List (List Term)) (i n : Nat) : Bool := (List.range n).any fun k => !(i == k) && conA (l.getD i []) (l.getD k [])
def clashTo (l : List (List Term)) (n : Nat) : Bool := (List.range n).any fun i => clashAt l i l.length
theorem clashAt_succ (l : List (List Term)) (i n : Nat) : clashAt l i (n + 1) = (clashAt l i n || (!(i == n) && conA (l.getD i []) (l.getD n []))) := by
 unfold clashAt; rw [List.range_succ, List.any_append]; simp
theorem clashTo_succ (l : List (List Term)) (n : Nat) : clashTo l (n + 1) = (clashTo l n || clashAt l n l.length) := by
 unfold clashTo; rw [List.range_succ, List.any_append]; simp
theorem clashR_to (l : List (List Term)) : clashR l = clashTo l l.length := rfl
theorem any_range_mono {p : Nat → Bool} {n m : Nat} (h : n ≤ m) (hp : (List.range n).any p = true) : (List.range m).any p = true := by
 obtain ⟨i, hi, hq⟩ := List.any_eq_true.1 hp
 exact List.any_eq_true.2 ⟨i, List.mem_range.2 (Nat.lt_of_lt_of_le (List.mem_range.1 hi) h), hq⟩
theorem clash_found {l : List (List Term)} {i k : Nat} (hi : i < l.length) (hk : k < l.length) (hne : ¬ i = k) (h : conA (l.getD i []) (l.getD k []) = true) : clashR l = true := by
 refine List.any_eq_true.2 ⟨i, List.mem_range.2 hi, List.any_eq_true.2 ⟨k, List.mem_range.2 hk, ?_⟩⟩
 rw [h]; simpa using hne
theorem getD_at {l : List (List Term)} {k : Nat} {x : List Term} (hx : l[k]? = some x) : l.getD k [] = x := by rw [List.getD_eq_getElem?_getD, hx]; rfl
set_option maxRecDepth 100000 in
set_option maxHeartbeats 8000000 in
theorem CheckR_ref (w : World) (v : Value) (xs : List (List Term)) (h : Is w v xs) :
  Calls Tryz.prog 51 #[v] w fun e w' => e = .returned (.int .i64 (checkR xs)) ∧ Below w.heap.size w w' := by
 have HI := Lib.hid h
 obtain ⟨a, c, rfl, hnc, hcm, hr⟩ := list_inv h
 simp only [maxLen] at hcm
 have HR := Lib.hid hr
 have hcall := large_ref w (.slice a xs.length c) xs h
 clear hr h
 generalize hN : xs.length = N at *
 have HN := Lib.hid hN
 clear hN
 cases qb : bigA xs
 case true =>
  rw [qb] at hcall
  have HF := Lib.hid (checkR_big qb)
  clear qb
  go_enter Tryz.func51, Tryz.ntmps51
  go_wp2_with fail
  refine hcall.mono ?_
  rintro e w1 ⟨rfl, rfl⟩
  go_wp2
  go_ret
  exact ⟨ret_i HF.out.symm, Below.refl _ _⟩
 rw [qb] at hcall
 have HQ := Lib.hid qb
 clear qb
 go_enter Tryz.func51, Tryz.ntmps51
 go_wp2_with fail
 refine hcall.mono ?_
 rintro e w1 ⟨rfl, rfl⟩
 clear hcall
 go_wp2
 go_loopw [3] (fun kv wr => ∃ k j : Nat, k ≤ N ∧ (k = 0 ∨ k = j + 1) ∧ kv = .int .i64 k ∧ Hid (Below w1.heap.size w1 wr) ∧ Hid ((xs.take k).all (rises tcmp) = true) ∧ Hid (j = k - 1) ∧ Hid (rises acmp xs = rises acmp (xs.drop j))) (fun kv _ => N - (intOf kv).toNat)
 case atStart => exact ⟨0, 0, by omega, .inl rfl, rfl, Below.refl _ _, rfl, rfl, rfl⟩
 case round =>
  obtain ⟨k, j, hk, hkj, rfl, HB, HA, HJ, HD⟩ := hrel
  by_cases hki : k < N
  ·have hkz : (k : Int) < (N : Int) := by omega
   have hk0 : (0 : Int) ≤ (k : Int) := by omega
   obtain ⟨x, hx⟩ := get_lt (xs := xs) (k := k) (by rw [HN.out]; exact hki)
   obtain ⟨bx, ox, rfl, hbx, ax, cx, x0', hx1, hx2, hx3⟩ := list_at HR.out hx
   have x0 := kept HB.out x0'
   have hsx := cell_lt x0
   have hxi : Is wr (.slice ax x.length cx) x := list_mk hx1 hx2 (hx3.mono HB.out)
   have hcall := fun W (hb : Below wr.heap.size wr W) => sorted_ref W (.slice ax x.length cx) x (hxi.mono hb)
   have HX := Lib.hid hx
   have HXI := Lib.hid hxi
   have HX3 := Lib.hid hx3
   clear hx hxi hx3
   cases q1 : rises tcmp x
   case false =>
    have HF : Hid (checkR xs = 5) := checkR_ord HQ.out (by rw [all_missR HX.out q1]; rfl)
    rw [q1] at hcall
    clear q1
    go_wp2_with fail
    refine wp_region_held_drew (S := (fun w' : World => w'.cell? ⟨bx, ox + k, none⟩ = some (.slice ax x.length cx))) (by kernel_rfl) (by exact x0) (fun hH0 => ?_)
    refine wpAnyH_take (i := 0) (oi := _) (v := ?_) rfl (by kernel_rfl) (by kernel_rfl) (by kernel_rfl) (fun _ _ _ h => h) (Or.inl ⟨by kernel_rfl, ?_⟩) hH0 ?_
    rotate_left
    ·intro w hSw; (try dsimp only at hSw); go_simp
     all_goals with_reducible rfl
    try simp only [List.getElem_toArray, List.getElem_cons_zero, List.getElem_cons_succ, Act.put, List.setIfInBounds_toArray, List.set_cons_zero, List.set_cons_succ]
    refine wpAnyH_take (i := 1) (oi := _) (v := ?_) rfl (by kernel_rfl) (by kernel_rfl) (by kernel_rfl) (fun _ _ _ h => h) (Or.inl ⟨by kernel_rfl, ?_⟩) hH0 ?_
    rotate_left
    ·intro w hSw; (try dsimp only at hSw); go_simp
     all_goals with_reducible rfl
    try simp only [List.getElem_toArray, List.getElem_cons_zero, List.getElem_cons_succ, Act.put, List.setIfInBounds_toArray, List.set_cons_zero, List.set_cons_succ]
    refine wpAnyH_take (i := 2) (oi := _) (v := ?_) rfl (by kernel_rfl) (by kernel_rfl) (by kernel_rfl) (fun _ _ _ h => h) (Or.inl ⟨by kernel_rfl, ?_⟩) hH0 ?_
    rotate_left
    ·intro w hSw; (try dsimp only at hSw); go_simp
     all_goals with_reducible rfl
    try simp only [List.getElem_toArray, List.getElem_cons_zero, List.getElem_cons_succ, Act.put, List.setIfInBounds_toArray, List.set_cons_zero, List.set_cons_succ]
    refine wpAnyH_take (i := 3) (oi := _) (v := ?_) rfl (by kernel_rfl) (by kernel_rfl) (by kernel_rfl) (fun _ _ _ h => h) (Or.inl ⟨by kernel_rfl, ?_⟩) hH0 ?_
    rotate_left
    ·intro w hSw; (try dsimp only at hSw); go_simp
     all_goals with_reducible rfl
    try simp only [List.getElem_toArray, List.getElem_cons_zero, List.getElem_cons_succ, Act.put, List.setIfInBounds_toArray, List.set_cons_zero, List.set_cons_succ]
    refine wpAnyH_ready (rs := [4]) (by kernel_rfl) (by simp) ?_
    refine AllReadyH.cons (o := _) rfl (fun K hK => ?_) AllReadyH.nil
    go_simp
    go_at_call 109
    refine (hcall _ (by first | ((repeat (first | exact Below.refl _ _ | assumption | refine Below.drewN ?_ _ | refine Below.drew ?_ | refine Below.alloc ?_ (by first | exact Nat.le_refl _ | (simp; done) | (simp; omega) | omega) _ | refine Below.setCell ?_ (by first | exact Nat.le_refl _ | (simp; done) | (simp; omega) | omega) _ | refine Below.trans ?_ (Below.mono (by assumption) (by first | exact Nat.le_refl _ | (simp; done) | (simp; omega) | omega)))); done) | fail)).mono ?_
    rintro e w3 ⟨rfl, hb3⟩
    go_wp2_with fail
    refine hK.out _ _ ?_ (fun hH1 => ?_)
    ·exact kept hb3 (by simpa using x0)
    try simp only [List.getElem_toArray, List.getElem_cons_zero, List.getElem_cons_succ, Act.put, List.setIfInBounds_toArray, List.set_cons_zero, List.set_cons_succ]
    clear hK K
    refine wpAnyH_take (i := 5) (oi := _) (v := ?_) rfl (by kernel_rfl) (by kernel_rfl) (by kernel_rfl) (fun _ _ _ h => h) (Or.inl ⟨by kernel_rfl, ?_⟩) hH1 ?_
    rotate_left
    ·intro w hSw; (try dsimp only at hSw); go_simp
     all_goals with_reducible rfl
    try simp only [List.getElem_toArray, List.getElem_cons_zero, List.getElem_cons_succ, Act.put, List.setIfInBounds_toArray, List.set_cons_zero, List.set_cons_succ]
    refine wpAnyH_take (i := 6) (oi := _) (v := ?_) rfl (by kernel_rfl) (by kernel_rfl) (by kernel_rfl) (fun _ _ _ h => h) (Or.inl ⟨by kernel_rfl, ?_⟩) hH1 ?_
    rotate_left
    ·intro w hSw; (try dsimp only at hSw); go_simp
     all_goals with_reducible rfl
    try simp only [List.getElem_toArray, List.getElem_cons_zero, List.getElem_cons_succ, Act.put, List.setIfInBounds_toArray, List.set_cons_zero, List.set_cons_succ]
    refine wpAnyH_take (i := 7) (oi := _) (v := undef) rfl (by kernel_rfl) (by kernel_rfl) (by kernel_rfl) (fun _ _ _ h => h) (Or.inr ⟨by kernel_rfl, rfl⟩) hH1 ?_
    try simp only [List.getElem_toArray, List.getElem_cons_zero, List.getElem_cons_succ, Act.put, List.setIfInBounds_toArray, List.set_cons_zero, List.set_cons_succ]
    refine wpAnyH_take (i := 8) (oi := _) (v := undef) rfl (by kernel_rfl) (by kernel_rfl) (by kernel_rfl) (fun _ _ _ h => h) (Or.inr ⟨by kernel_rfl, rfl⟩) hH1 ?_
    try simp only [List.getElem_toArray, List.getElem_cons_zero, List.getElem_cons_succ, Act.put, List.setIfInBounds_toArray, List.set_cons_zero, List.set_cons_succ]
    refine wpAnyH_take (i := 9) (oi := _) (v := undef) rfl (by kernel_rfl) (by kernel_rfl) (by kernel_rfl) (fun _ _ _ h => h) (Or.inr ⟨by kernel_rfl, rfl⟩) hH1 ?_
    try simp only [List.getElem_toArray, List.getElem_cons_zero, List.getElem_cons_succ, Act.put, List.setIfInBounds_toArray, List.set_cons_zero, List.set_cons_succ]
    refine wpAnyH_take (i := 10) (oi := _) (v := undef) rfl (by kernel_rfl) (by kernel_rfl) (by kernel_rfl) (fun _ _ _ h => h) (Or.inr ⟨by kernel_rfl, rfl⟩) hH1 ?_
    try simp only [List.getElem_toArray, List.getElem_cons_zero, List.getElem_cons_succ, Act.put, List.setIfInBounds_toArray, List.set_cons_zero, List.set_cons_succ]
    refine wpAnyH_take (i := 11) (oi := _) (v := undef) rfl (by kernel_rfl) (by kernel_rfl) (by kernel_rfl) (fun _ _ _ h => h) (Or.inr ⟨by kernel_rfl, rfl⟩) hH1 ?_
    try simp only [List.getElem_toArray, List.getElem_cons_zero, List.getElem_cons_succ, Act.put, List.setIfInBounds_toArray, List.set_cons_zero, List.set_cons_succ]
    refine wpAnyH_take (i := 12) (oi := _) (v := undef) rfl (by kernel_rfl) (by kernel_rfl) (by kernel_rfl) (fun _ _ _ h => h) (Or.inr ⟨by kernel_rfl, rfl⟩) hH1 ?_
    try simp only [List.getElem_toArray, List.getElem_cons_zero, List.getElem_cons_succ, Act.put, List.setIfInBounds_toArray, List.set_cons_zero, List.set_cons_succ]
    refine wpAnyH_take (i := 13) (oi := _) (v := undef) rfl (by kernel_rfl) (by kernel_rfl) (by kernel_rfl) (fun _ _ _ h => h) (Or.inr ⟨by kernel_rfl, rfl⟩) hH1 ?_
    try simp only [List.getElem_toArray, List.getElem_cons_zero, List.getElem_cons_succ, Act.put, List.setIfInBounds_toArray, List.set_cons_zero, List.set_cons_succ]
    refine wpAnyH_take (i := 14) (oi := _) (v := undef) rfl (by kernel_rfl) (by kernel_rfl) (by kernel_rfl) (fun _ _ _ h => h) (Or.inr ⟨by kernel_rfl, rfl⟩) hH1 ?_
    try simp only [List.getElem_toArray, List.getElem_cons_zero, List.getElem_cons_succ, Act.put, List.setIfInBounds_toArray, List.set_cons_zero, List.set_cons_succ]
    refine wpAnyH_take (i := 15) (oi := _) (v := undef) rfl (by kernel_rfl) (by kernel_rfl) (by kernel_rfl) (fun _ _ _ h => h) (Or.inr ⟨by kernel_rfl, rfl⟩) hH1 ?_
    try simp only [List.getElem_toArray, List.getElem_cons_zero, List.getElem_cons_succ, Act.put, List.setIfInBounds_toArray, List.set_cons_zero, List.set_cons_succ]
    refine wpAnyH_take (i := 16) (oi := _) (v := undef) rfl (by kernel_rfl) (by kernel_rfl) (by kernel_rfl) (fun _ _ _ h => h) (Or.inr ⟨by kernel_rfl, rfl⟩) hH1 ?_
    try simp only [List.getElem_toArray, List.getElem_cons_zero, List.getElem_cons_succ, Act.put, List.setIfInBounds_toArray, List.set_cons_zero, List.set_cons_succ]
    refine wpAnyH_take (i := 17) (oi := _) (v := undef) rfl (by kernel_rfl) (by kernel_rfl) (by kernel_rfl) (fun _ _ _ h => h) (Or.inr ⟨by kernel_rfl, rfl⟩) hH1 ?_
    try simp only [List.getElem_toArray, List.getElem_cons_zero, List.getElem_cons_succ, Act.put, List.setIfInBounds_toArray, List.set_cons_zero, List.set_cons_succ]
    refine wpAnyH_take (i := 18) (oi := _) (v := undef) rfl (by kernel_rfl) (by kernel_rfl) (by kernel_rfl) (fun _ _ _ h => h) (Or.inr ⟨by kernel_rfl, rfl⟩) hH1 ?_
    try simp only [List.getElem_toArray, List.getElem_cons_zero, List.getElem_cons_succ, Act.put, List.setIfInBounds_toArray, List.set_cons_zero, List.set_cons_succ]
    refine wpAnyH_take (i := 19) (oi := _) (v := undef) rfl (by kernel_rfl) (by kernel_rfl) (by kernel_rfl) (fun _ _ _ h => h) (Or.inr ⟨by kernel_rfl, rfl⟩) hH1 ?_
    try simp only [List.getElem_toArray, List.getElem_cons_zero, List.getElem_cons_succ, Act.put, List.setIfInBounds_toArray, List.set_cons_zero, List.set_cons_succ]
    refine wpAnyH_take (i := 20) (oi := _) (v := undef) rfl (by kernel_rfl) (by kernel_rfl) (by kernel_rfl) (fun _ _ _ h => h) (Or.inr ⟨by kernel_rfl, rfl⟩) hH1 ?_
    try simp only [List.getElem_toArray, List.getElem_cons_zero, List.getElem_cons_succ, Act.put, List.setIfInBounds_toArray, List.set_cons_zero, List.set_cons_succ]
    refine wpAnyH_take (i := 21) (oi := _) (v := undef) rfl (by kernel_rfl) (by kernel_rfl) (by kernel_rfl) (fun _ _ _ h => h) (Or.inr ⟨by kernel_rfl, rfl⟩) hH1 ?_
    try simp only [List.getElem_toArray, List.getElem_cons_zero, List.getElem_cons_succ, Act.put, List.setIfInBounds_toArray, List.set_cons_zero, List.set_cons_succ]
    refine wpAnyH_take (i := 22) (oi := _) (v := ?_) rfl (by kernel_rfl) (by kernel_rfl) (by kernel_rfl) (fun _ _ _ h => h) (Or.inl ⟨by kernel_rfl, ?_⟩) hH1 ?_
    rotate_left
    ·intro w hSw; (try dsimp only at hSw); go_simp
     all_goals with_reducible rfl
    try simp only [List.getElem_toArray, List.getElem_cons_zero, List.getElem_cons_succ, Act.put, List.setIfInBounds_toArray, List.set_cons_zero, List.set_cons_succ]
    refine wpAnyH_done (by kernel_rfl) ?_ _
    go_wp2
    go_ret
    exact ⟨ret_i HF.out.symm, HB.out.trans ((by have := hb3; exact (by first | ((repeat (first | exact Below.refl _ _ | assumption | refine Below.drewN ?_ _ | refine Below.drew ?_ | refine Below.alloc ?_ (by first | exact Nat.le_refl _ | (simp; done) | (simp; omega) | omega) _ | refine Below.setCell ?_ (by first | exact Nat.le_refl _ | (simp; done) | (simp; omega) | omega) _ | refine Below.trans ?_ (Below.mono (by assumption) (by first | exact Nat.le_refl _ | (simp; done) | (simp; omega) | omega)))); done) | fail) : Below wr.heap.size wr _).mono HB.out.size)⟩
   case true =>
    have HAT : Hid ((xs.take (k + 1)).all (rises tcmp) = true) := by show _ = _; rw [all_snocR _ HX.out, HA.out, q1]; rfl
    rw [q1] at hcall
    clear q1
    by_cases hk1 : (0 : Int) < (k : Int)
    case neg =>
     have HK0 : Hid (k = 0) := by show _ = _; omega
     go_wp2_with fail
     refine wp_region_held_drew (S := (fun w' : World => w'.cell? ⟨bx, ox + k, none⟩ = some (.slice ax x.length cx))) (by kernel_rfl) (by exact x0) (fun hH0 => ?_)
     refine wpAnyH_take (i := 0) (oi := _) (v := ?_) rfl (by kernel_rfl) (by kernel_rfl) (by kernel_rfl) (fun _ _ _ h => h) (Or.inl ⟨by kernel_rfl, ?_⟩) hH0 ?_
     rotate_left
     ·intro w hSw; (try dsimp only at hSw); go_simp
      all_goals with_reducible rfl
     try simp only [List.getElem_toArray, List.getElem_cons_zero, List.getElem_cons_succ, Act.put, List.setIfInBounds_toArray, List.set_cons_zero, List.set_cons_succ]
     refine wpAnyH_take (i := 1) (oi := _) (v := ?_) rfl (by kernel_rfl) (by kernel_rfl) (by kernel_rfl) (fun _ _ _ h => h) (Or.inl ⟨by kernel_rfl, ?_⟩) hH0 ?_
     rotate_left
     ·intro w hSw; (try dsimp only at hSw); go_simp
      all_goals with_reducible rfl
     try simp only [List.getElem_toArray, List.getElem_cons_zero, List.getElem_cons_succ, Act.put, List.setIfInBounds_toArray, List.set_cons_zero, List.set_cons_succ]
     refine wpAnyH_take (i := 2) (oi := _) (v := ?_) rfl (by kernel_rfl) (by kernel_rfl) (by kernel_rfl) (fun _ _ _ h => h) (Or.inl ⟨by kernel_rfl, ?_⟩) hH0 ?_
     rotate_left
     ·intro w hSw; (try dsimp only at hSw); go_simp
      all_goals with_reducible rfl
     try simp only [List.getElem_toArray, List.getElem_cons_zero, List.getElem_cons_succ, Act.put, List.setIfInBounds_toArray, List.set_cons_zero, List.set_cons_succ]
     refine wpAnyH_take (i := 3) (oi := _) (v := ?_) rfl (by kernel_rfl) (by kernel_rfl) (by kernel_rfl) (fun _ _ _ h => h) (Or.inl ⟨by kernel_rfl, ?_⟩) hH0 ?_
     rotate_left
     ·intro w hSw; (try dsimp only at hSw); go_simp
      all_goals with_reducible rfl
     try simp only [List.getElem_toArray, List.getElem_cons_zero, List.getElem_cons_succ, Act.put, List.setIfInBounds_toArray, List.set_cons_zero, List.set_cons_succ]
     refine wpAnyH_ready (rs := [4]) (by kernel_rfl) (by simp) ?_
     refine AllReadyH.cons (o := _) rfl (fun K hK => ?_) AllReadyH.nil
     go_simp
     go_at_call 109
     refine (hcall _ (by first | ((repeat (first | exact Below.refl _ _ | assumption | refine Below.drewN ?_ _ | refine Below.drew ?_ | refine Below.alloc ?_ (by first | exact Nat.le_refl _ | (simp; done) | (simp; omega) | omega) _ | refine Below.setCell ?_ (by first | exact Nat.le_refl _ | (simp; done) | (simp; omega) | omega) _ | refine Below.trans ?_ (Below.mono (by assumption) (by first | exact Nat.le_refl _ | (simp; done) | (simp; omega) | omega)))); done) | fail)).mono ?_
     rintro e w3 ⟨rfl, hb3⟩
     go_wp2_with fail
     refine hK.out _ _ ?_ (fun hH1 => ?_)
     ·exact kept hb3 (by simpa using x0)
     try simp only [List.getElem_toArray, List.getElem_cons_zero, List.getElem_cons_succ, Act.put, List.setIfInBounds_toArray, List.set_cons_zero, List.set_cons_succ]
     clear hK K
     refine wpAnyH_take (i := 5) (oi := _) (v := ?_) rfl (by kernel_rfl) (by kernel_rfl) (by kernel_rfl) (fun _ _ _ h => h) (Or.inl ⟨by kernel_rfl, ?_⟩) hH1 ?_
     rotate_left
     ·intro w hSw; (try dsimp only at hSw); go_simp
      all_goals with_reducible rfl
     try simp only [List.getElem_toArray, List.getElem_cons_zero, List.getElem_cons_succ, Act.put, List.setIfInBounds_toArray, List.set_cons_zero, List.set_cons_succ]
     refine wpAnyH_take (i := 6) (oi := _) (v := ?_) rfl (by kernel_rfl) (by kernel_rfl) (by kernel_rfl) (fun _ _ _ h => h) (Or.inl ⟨by kernel_rfl, ?_⟩) hH1 ?_
     rotate_left
     ·intro w hSw; (try dsimp only at hSw); go_simp
      all_goals with_reducible rfl
     try simp only [List.getElem_toArray, List.getElem_cons_zero, List.getElem_cons_succ, Act.put, List.setIfInBounds_toArray, List.set_cons_zero, List.set_cons_succ]
     refine wpAnyH_take (i := 7) (oi := _) (v := ?_) rfl (by kernel_rfl) (by kernel_rfl) (by kernel_rfl) (fun _ _ _ h => h) (Or.inl ⟨by kernel_rfl, ?_⟩) hH1 ?_
     rotate_left
     ·intro w hSw; (try dsimp only at hSw); go_simp
      all_goals with_reducible rfl
     try simp only [List.getElem_toArray, List.getElem_cons_zero, List.getElem_cons_succ, Act.put, List.setIfInBounds_toArray, List.set_cons_zero, List.set_cons_succ]
     refine wpAnyH_take (i := 8) (oi := _) (v := .bool false) rfl (by kernel_rfl) (by kernel_rfl) (by kernel_rfl) (fun _ _ _ h => h) (Or.inl ⟨by kernel_rfl, ?_⟩) hH1 ?_
     ·intro w hSw; (try dsimp only at hSw); go_simp
      all_goals omega
     try simp only [List.getElem_toArray, List.getElem_cons_zero, List.getElem_cons_succ, Act.put, List.setIfInBounds_toArray, List.set_cons_zero, List.set_cons_succ]
     refine wpAnyH_take (i := 9) (oi := _) (v := ?_) rfl (by kernel_rfl) (by kernel_rfl) (by kernel_rfl) (fun _ _ _ h => h) (Or.inl ⟨by kernel_rfl, ?_⟩) hH1 ?_
     rotate_left
     ·intro w hSw; (try dsimp only at hSw); go_simp
      all_goals with_reducible rfl
     try simp only [List.getElem_toArray, List.getElem_cons_zero, List.getElem_cons_succ, Act.put, List.setIfInBounds_toArray, List.set_cons_zero, List.set_cons_succ]
     refine wpAnyH_take (i := 10) (oi := _) (v := undef) rfl (by kernel_rfl) (by kernel_rfl) (by kernel_rfl) (fun _ _ _ h => h) (Or.inr ⟨by kernel_rfl, rfl⟩) hH1 ?_
     try simp only [List.getElem_toArray, List.getElem_cons_zero, List.getElem_cons_succ, Act.put, List.setIfInBounds_toArray, List.set_cons_zero, List.set_cons_succ]
     refine wpAnyH_take (i := 11) (oi := _) (v := undef) rfl (by kernel_rfl) (by kernel_rfl) (by kernel_rfl) (fun _ _ _ h => h) (Or.inr ⟨by kernel_rfl, rfl⟩) hH1 ?_
     try simp only [List.getElem_toArray, List.getElem_cons_zero, List.getElem_cons_succ, Act.put, List.setIfInBounds_toArray, List.set_cons_zero, List.set_cons_succ]
     refine wpAnyH_take (i := 12) (oi := _) (v := undef) rfl (by kernel_rfl) (by kernel_rfl) (by kernel_rfl) (fun _ _ _ h => h) (Or.inr ⟨by kernel_rfl, rfl⟩) hH1 ?_
     try simp only [List.getElem_toArray, List.getElem_cons_zero, List.getElem_cons_succ, Act.put, List.setIfInBounds_toArray, List.set_cons_zero, List.set_cons_succ]
     refine wpAnyH_take (i := 13) (oi := _) (v := undef) rfl (by kernel_rfl) (by kernel_rfl) (by kernel_rfl) (fun _ _ _ h => h) (Or.inr ⟨by kernel_rfl, rfl⟩) hH1 ?_
     try simp only [List.getElem_toArray, List.getElem_cons_zero, List.getElem_cons_succ, Act.put, List.setIfInBounds_toArray, List.set_cons_zero, List.set_cons_succ]
     refine wpAnyH_take (i := 14) (oi := _) (v := undef) rfl (by kernel_rfl) (by kernel_rfl) (by kernel_rfl) (fun _ _ _ h => h) (Or.inr ⟨by kernel_rfl, rfl⟩) hH1 ?_
     try simp only [List.getElem_toArray, List.getElem_cons_zero, List.getElem_cons_succ, Act.put, List.setIfInBounds_toArray, List.set_cons_zero, List.set_cons_succ]
     refine wpAnyH_take (i := 15) (oi := _) (v := undef) rfl (by kernel_rfl) (by kernel_rfl) (by kernel_rfl) (fun _ _ _ h => h) (Or.inr ⟨by kernel_rfl, rfl⟩) hH1 ?_
     try simp only [List.getElem_toArray, List.getElem_cons_zero, List.getElem_cons_succ, Act.put, List.setIfInBounds_toArray, List.set_cons_zero, List.set_cons_succ]
     refine wpAnyH_take (i := 16) (oi := _) (v := undef) rfl (by kernel_rfl) (by kernel_rfl) (by kernel_rfl) (fun _ _ _ h => h) (Or.inr ⟨by kernel_rfl, rfl⟩) hH1 ?_
     try simp only [List.getElem_toArray, List.getElem_cons_zero, List.getElem_cons_succ, Act.put, List.setIfInBounds_toArray, List.set_cons_zero, List.set_cons_succ]
     refine wpAnyH_take (i := 17) (oi := _) (v := undef) rfl (by kernel_rfl) (by kernel_rfl) (by kernel_rfl) (fun _ _ _ h => h) (Or.inr ⟨by kernel_rfl, rfl⟩) hH1 ?_
     try simp only [List.getElem_toArray, List.getElem_cons_zero, List.getElem_cons_succ, Act.put, List.setIfInBounds_toArray, List.set_cons_zero, List.set_cons_succ]
     refine wpAnyH_take (i := 18) (oi := _) (v := undef) rfl (by kernel_rfl) (by kernel_rfl) (by kernel_rfl) (fun _ _ _ h => h) (Or.inr ⟨by kernel_rfl, rfl⟩) hH1 ?_
     try simp only [List.getElem_toArray, List.getElem_cons_zero, List.getElem_cons_succ, Act.put, List.setIfInBounds_toArray, List.set_cons_zero, List.set_cons_succ]
     refine wpAnyH_take (i := 19) (oi := _) (v := undef) rfl (by kernel_rfl) (by kernel_rfl) (by kernel_rfl) (fun _ _ _ h => h) (Or.inr ⟨by kernel_rfl, rfl⟩) hH1 ?_
     try simp only [List.getElem_toArray, List.getElem_cons_zero, List.getElem_cons_succ, Act.put, List.setIfInBounds_toArray, List.set_cons_zero, List.set_cons_succ]
     refine wpAnyH_take (i := 20) (oi := _) (v := undef) rfl (by kernel_rfl) (by kernel_rfl) (by kernel_rfl) (fun _ _ _ h => h) (Or.inr ⟨by kernel_rfl, rfl⟩) hH1 ?_
     try simp only [List.getElem_toArray, List.getElem_cons_zero, List.getElem_cons_succ, Act.put, List.setIfInBounds_toArray, List.set_cons_zero, List.set_cons_succ]
     refine wpAnyH_take (i := 21) (oi := _) (v := ?_) rfl (by kernel_rfl) (by kernel_rfl) (by kernel_rfl) (fun _ _ _ h => h) (Or.inl ⟨by kernel_rfl, ?_⟩) hH1 ?_
     rotate_left
     ·intro w hSw; (try dsimp only at hSw); go_simp
      all_goals with_reducible rfl
     try simp only [List.getElem_toArray, List.getElem_cons_zero, List.getElem_cons_succ, Act.put, List.setIfInBounds_toArray, List.set_cons_zero, List.set_cons_succ]
     refine wpAnyH_take (i := 22) (oi := _) (v := ?_) rfl (by kernel_rfl) (by kernel_rfl) (by kernel_rfl) (fun _ _ _ h => h) (Or.inl ⟨by kernel_rfl, ?_⟩) hH1 ?_
     rotate_left
     ·intro w hSw; (try dsimp only at hSw); go_simp
      all_goals with_reducible rfl
     try simp only [List.getElem_toArray, List.getElem_cons_zero, List.getElem_cons_succ, Act.put, List.setIfInBounds_toArray, List.set_cons_zero, List.set_cons_succ]
     refine wpAnyH_done (by kernel_rfl) ?_ _
     have HB3 : Hid (Below w1.heap.size w1 w3) := HB.out.trans ((by have := hb3; exact (by first | ((repeat (first | exact Below.refl _ _ | assumption | refine Below.drewN ?_ _ | refine Below.drew ?_ | refine Below.alloc ?_ (by first | exact Nat.le_refl _ | (simp; done) | (simp; omega) | omega) _ | refine Below.setCell ?_ (by first | exact Nat.le_refl _ | (simp; done) | (simp; omega) | omega) _ | refine Below.trans ?_ (Below.mono (by assumption) (by first | exact Nat.le_refl _ | (simp; done) | (simp; omega) | omega)))); done) | fail) : Below wr.heap.size wr _).mono HB.out.size)
     have HJ3 : Hid (j = k + 1 - 1) := by show _ = _; rw [HJ.out, HK0.out]
     have hj3 : k + 1 = j + 1 := by have := HJ3.out; omega
     clear hb3
     go_wp2
     go_roundw
     case rel => exact ⟨k + 1, j, by omega, .inr hj3, by go_num, HB3, HAT, HJ3, HD⟩
     case measure => simp [intOf]; omega
    case pos =>
     have hj1 : k = j + 1 := by omega
     have HJ1 := Lib.hid hj1
     have hj0 : (0 : Int) ≤ (j : Int) := by omega
     have hjN : (j : Int) < (N : Int) := by omega
     have hsub : IntKind.i64.wrap ((k : Int) - 1) = (j : Int) := by rw [show (k : Int) - 1 = j by omega]; exact IntWalk.i64_in _ (by omega)
     obtain ⟨p, hp⟩ := get_lt (xs := xs) (k := j) (by rw [HN.out]; omega)
     obtain ⟨b2, o2, he, -, ap, cp, p0', hp1, hp2, hp3⟩ := list_at HR.out hp
     cases he
     have p0 := kept HB.out p0'
     have hpi : Is wr (.slice ap p.length cp) p := list_mk hp1 hp2 (hp3.mono HB.out)
     have hcall2 := fun W (hb : Below wr.heap.size wr W) => Compare_ref W (.slice ap p.length cp) (.slice ax x.length cx) p x (hpi.mono hb) (HXI.out.mono hb)
     have HE : Hid (rises acmp xs = (decide (acmp p x < 0) && rises acmp (xs.drop k))) := by show _ = _; rw [HD.out]; have := HX.out; rw [HJ1.out] at this ⊢; exact rises_at hp this
     clear hp p0' hp3 hpi hj1
     generalize acmp p x = t at hcall2 HE
     go_wp2_with fail
     refine wp_region_held_drew (S := (fun w' : World => w'.cell? ⟨bx, ox + k, none⟩ = some (.slice ax x.length cx) ∧ w'.cell? ⟨bx, ox + j, none⟩ = some (.slice ap p.length cp))) (by kernel_rfl) (by exact ⟨x0, p0⟩) (fun hH0 => ?_)
     refine wpAnyH_take (i := 0) (oi := _) (v := ?_) rfl (by kernel_rfl) (by kernel_rfl) (by kernel_rfl) (fun _ _ _ h => h) (Or.inl ⟨by kernel_rfl, ?_⟩) hH0 ?_
     rotate_left
     ·intro w hSw; (try dsimp only at hSw); go_simp
      all_goals with_reducible rfl
     try simp only [List.getElem_toArray, List.getElem_cons_zero, List.getElem_cons_succ, Act.put, List.setIfInBounds_toArray, List.set_cons_zero, List.set_cons_succ]
     refine wpAnyH_take (i := 1) (oi := _) (v := ?_) rfl (by kernel_rfl) (by kernel_rfl) (by kernel_rfl) (fun _ _ _ h => h) (Or.inl ⟨by kernel_rfl, ?_⟩) hH0 ?_
     rotate_left
     ·intro w hSw; (try dsimp only at hSw); go_simp
      all_goals with_reducible rfl
     try simp only [List.getElem_toArray, List.getElem_cons_zero, List.getElem_cons_succ, Act.put, List.setIfInBounds_toArray, List.set_cons_zero, List.set_cons_succ]
     refine wpAnyH_take (i := 2) (oi := _) (v := ?_) rfl (by kernel_rfl) (by kernel_rfl) (by kernel_rfl) (fun _ _ _ h => h) (Or.inl ⟨by kernel_rfl, ?_⟩) hH0 ?_
     rotate_left
     ·intro w hSw; (try dsimp only at hSw); go_simp
      all_goals with_reducible rfl
     try simp only [List.getElem_toArray, List.getElem_cons_zero, List.getElem_cons_succ, Act.put, List.setIfInBounds_toArray, List.set_cons_zero, List.set_cons_succ]
     refine wpAnyH_take (i := 3) (oi := _) (v := ?_) rfl (by kernel_rfl) (by kernel_rfl) (by kernel_rfl) (fun _ _ _ h => h) (Or.inl ⟨by kernel_rfl, ?_⟩) hH0 ?_
     rotate_left
     ·intro w hSw; (try dsimp only at hSw); go_simp
      all_goals with_reducible rfl
     try simp only [List.getElem_toArray, List.getElem_cons_zero, List.getElem_cons_succ, Act.put, List.setIfInBounds_toArray, List.set_cons_zero, List.set_cons_succ]
     refine wpAnyH_ready (rs := [4]) (by kernel_rfl) (by simp) ?_
     refine AllReadyH.cons (o := _) rfl (fun K hK => ?_) AllReadyH.nil
     go_simp
     go_at_call 109
     refine (hcall _ (by first | ((repeat (first | exact Below.refl _ _ | assumption | refine Below.drewN ?_ _ | refine Below.drew ?_ | refine Below.alloc ?_ (by first | exact Nat.le_refl _ | (simp; done) | (simp; omega) | omega) _ | refine Below.setCell ?_ (by first | exact Nat.le_refl _ | (simp; done) | (simp; omega) | omega) _ | refine Below.trans ?_ (Below.mono (by assumption) (by first | exact Nat.le_refl _ | (simp; done) | (simp; omega) | omega)))); done) | fail)).mono ?_
     rintro e w3 ⟨rfl, hb3⟩
     go_wp2_with fail
     refine hK.out _ _ ?_ (fun hH1 => ?_)
     ·exact ⟨kept hb3 (by simpa using x0), kept hb3 (by simpa using p0)⟩
     try simp only [List.getElem_toArray, List.getElem_cons_zero, List.getElem_cons_succ, Act.put, List.setIfInBounds_toArray, List.set_cons_zero, List.set_cons_succ]
     clear hK K
     refine wpAnyH_take (i := 5) (oi := _) (v := ?_) rfl (by kernel_rfl) (by kernel_rfl) (by kernel_rfl) (fun _ _ _ h => h) (Or.inl ⟨by kernel_rfl, ?_⟩) hH1 ?_
     rotate_left
     ·intro w hSw; (try dsimp only at hSw); go_simp
      all_goals with_reducible rfl
     try simp only [List.getElem_toArray, List.getElem_cons_zero, List.getElem_cons_succ, Act.put, List.setIfInBounds_toArray, List.set_cons_zero, List.set_cons_succ]
     refine wpAnyH_take (i := 6) (oi := _) (v := ?_) rfl (by kernel_rfl) (by kernel_rfl) (by kernel_rfl) (fun _ _ _ h => h) (Or.inl ⟨by kernel_rfl, ?_⟩) hH1 ?_
     rotate_left
     ·intro w hSw; (try dsimp only at hSw); go_simp
      all_goals with_reducible rfl
     try simp only [List.getElem_toArray, List.getElem_cons_zero, List.getElem_cons_succ, Act.put, List.setIfInBounds_toArray, List.set_cons_zero, List.set_cons_succ]
     refine wpAnyH_take (i := 7) (oi := _) (v := ?_) rfl (by kernel_rfl) (by kernel_rfl) (by kernel_rfl) (fun _ _ _ h => h) (Or.inl ⟨by kernel_rfl, ?_⟩) hH1 ?_
     rotate_left
     ·intro w hSw; (try dsimp only at hSw); go_simp
      all_goals with_reducible rfl
     try simp only [List.getElem_toArray, List.getElem_cons_zero, List.getElem_cons_succ, Act.put, List.setIfInBounds_toArray, List.set_cons_zero, List.set_cons_succ]
     refine wpAnyH_take (i := 8) (oi := _) (v := .bool true) rfl (by kernel_rfl) (by kernel_rfl) (by kernel_rfl) (fun _ _ _ h => h) (Or.inl ⟨by kernel_rfl, ?_⟩) hH1 ?_
     ·intro w hSw; (try dsimp only at hSw); go_simp
      all_goals omega
     try simp only [List.getElem_toArray, List.getElem_cons_zero, List.getElem_cons_succ, Act.put, List.setIfInBounds_toArray, List.set_cons_zero, List.set_cons_succ]
     refine wpAnyH_take (i := 9) (oi := _) (v := ?_) rfl (by kernel_rfl) (by kernel_rfl) (by kernel_rfl) (fun _ _ _ h => h) (Or.inl ⟨by kernel_rfl, ?_⟩) hH1 ?_
     rotate_left
     ·intro w hSw; (try dsimp only at hSw); go_simp
      all_goals with_reducible rfl
     try simp only [List.getElem_toArray, List.getElem_cons_zero, List.getElem_cons_succ, Act.put, List.setIfInBounds_toArray, List.set_cons_zero, List.set_cons_succ]
     refine wpAnyH_take (i := 10) (oi := _) (v := ?_) rfl (by kernel_rfl) (by kernel_rfl) (by kernel_rfl) (fun _ _ _ h => h) (Or.inl ⟨by kernel_rfl, ?_⟩) hH1 ?_
     rotate_left
     ·intro w hSw; (try dsimp only at hSw); go_simp
      all_goals with_reducible rfl
     try simp only [List.getElem_toArray, List.getElem_cons_zero, List.getElem_cons_succ, Act.put, List.setIfInBounds_toArray, List.set_cons_zero, List.set_cons_succ]
     refine wpAnyH_take (i := 11) (oi := _) (v := ?_) rfl (by kernel_rfl) (by kernel_rfl) (by kernel_rfl) (fun _ _ _ h => h) (Or.inl ⟨by kernel_rfl, ?_⟩) hH1 ?_
     rotate_left
     ·intro w hSw; (try dsimp only at hSw); go_simp
      all_goals with_reducible rfl
     try simp only [List.getElem_toArray, List.getElem_cons_zero, List.getElem_cons_succ, Act.put, List.setIfInBounds_toArray, List.set_cons_zero, List.set_cons_succ]
     refine wpAnyH_take (i := 12) (oi := _) (v := ?_) rfl (by kernel_rfl) (by kernel_rfl) (by kernel_rfl) (fun _ _ _ h => h) (Or.inl ⟨by kernel_rfl, ?_⟩) hH1 ?_
     rotate_left
     ·intro w hSw; (try dsimp only at hSw); go_simp
      all_goals with_reducible rfl
     try simp only [List.getElem_toArray, List.getElem_cons_zero, List.getElem_cons_succ, Act.put, List.setIfInBounds_toArray, List.set_cons_zero, List.set_cons_succ]
     refine wpAnyH_take (i := 13) (oi := _) (v := ?_) rfl (by kernel_rfl) (by kernel_rfl) (by kernel_rfl) (fun _ _ _ h => h) (Or.inl ⟨by kernel_rfl, ?_⟩) hH1 ?_
     rotate_left
     ·intro w hSw; (try dsimp only at hSw); go_simp
      all_goals with_reducible rfl
     try simp only [List.getElem_toArray, List.getElem_cons_zero, List.getElem_cons_succ, Act.put, List.setIfInBounds_toArray, List.set_cons_zero, List.set_cons_succ]
     refine wpAnyH_take (i := 14) (oi := _) (v := ?_) rfl (by kernel_rfl) (by kernel_rfl) (by kernel_rfl) (fun _ _ _ h => h) (Or.inl ⟨by kernel_rfl, ?_⟩) hH1 ?_
     rotate_left
     ·intro w hSw; (try dsimp only at hSw); go_simp
      all_goals with_reducible rfl
     try simp only [List.getElem_toArray, List.getElem_cons_zero, List.getElem_cons_succ, Act.put, List.setIfInBounds_toArray, List.set_cons_zero, List.set_cons_succ]
     refine wpAnyH_take (i := 15) (oi := _) (v := ?_) rfl (by kernel_rfl) (by kernel_rfl) (by kernel_rfl) (fun _ _ _ h => h) (Or.inl ⟨by kernel_rfl, ?_⟩) hH1 ?_
     rotate_left
     ·intro w hSw; (try dsimp only at hSw); go_simp
      all_goals with_reducible rfl
     try simp only [List.getElem_toArray, List.getElem_cons_zero, List.getElem_cons_succ, Act.put, List.setIfInBounds_toArray, List.set_cons_zero, List.set_cons_succ]
     refine wpAnyH_take (i := 16) (oi := _) (v := ?_) rfl (by kernel_rfl) (by kernel_rfl) (by kernel_rfl) (fun _ _ _ h => h) (Or.inl ⟨by kernel_rfl, ?_⟩) hH1 ?_
     rotate_left
     ·intro w hSw; (try dsimp only at hSw); go_simp
      all_goals with_reducible rfl
     try simp only [List.getElem_toArray, List.getElem_cons_zero, List.getElem_cons_succ, Act.put, List.setIfInBounds_toArray, List.set_cons_zero, List.set_cons_succ]
     refine wpAnyH_take (i := 17) (oi := _) (v := ?_) rfl (by kernel_rfl) (by kernel_rfl) (by kernel_rfl) (fun _ _ _ h => h) (Or.inl ⟨by kernel_rfl, ?_⟩) hH1 ?_
     rotate_left
     ·intro w hSw; (try dsimp only at hSw); go_simp
      all_goals with_reducible rfl
     try simp only [List.getElem_toArray, List.getElem_cons_zero, List.getElem_cons_succ, Act.put, List.setIfInBounds_toArray, List.set_cons_zero, List.set_cons_succ]
     refine wpAnyH_take (i := 18) (oi := _) (v := ?_) rfl (by kernel_rfl) (by kernel_rfl) (by kernel_rfl) (fun _ _ _ h => h) (Or.inl ⟨by kernel_rfl, ?_⟩) hH1 ?_
     rotate_left
     ·intro w hSw; (try dsimp only at hSw); go_simp
      all_goals with_reducible rfl
     try simp only [List.getElem_toArray, List.getElem_cons_zero, List.getElem_cons_succ, Act.put, List.setIfInBounds_toArray, List.set_cons_zero, List.set_cons_succ]
     refine wpAnyH_ready (rs := [19]) (by kernel_rfl) (by simp) ?_
     refine AllReadyH.cons (o := _) rfl (fun K hK => ?_) AllReadyH.nil
     go_simp
     go_at_call 110
     refine (hcall2 _ (by have := hb3; exact (by first | ((repeat (first | exact Below.refl _ _ | assumption | refine Below.drewN ?_ _ | refine Below.drew ?_ | refine Below.alloc ?_ (by first | exact Nat.le_refl _ | (simp; done) | (simp; omega) | omega) _ | refine Below.setCell ?_ (by first | exact Nat.le_refl _ | (simp; done) | (simp; omega) | omega) _ | refine Below.trans ?_ (Below.mono (by assumption) (by first | exact Nat.le_refl _ | (simp; done) | (simp; omega) | omega)))); done) | fail))).mono ?_
     rintro e w4 ⟨rfl, hb4⟩
     go_wp2_with fail
     refine hK.out _ _ ?_ (fun hH2 => ?_)
     ·exact ⟨kept hb4 hH1.1, kept hb4 hH1.2⟩
     try simp only [List.getElem_toArray, List.getElem_cons_zero, List.getElem_cons_succ, Act.put, List.setIfInBounds_toArray, List.set_cons_zero, List.set_cons_succ]
     clear hK K
     refine wpAnyH_take (i := 20) (oi := _) (v := ?_) rfl (by kernel_rfl) (by kernel_rfl) (by kernel_rfl) (fun _ _ _ h => h) (Or.inl ⟨by kernel_rfl, ?_⟩) hH2 ?_
     rotate_left
     ·intro w hSw; (try dsimp only at hSw); go_simp
      all_goals with_reducible rfl
     try simp only [List.getElem_toArray, List.getElem_cons_zero, List.getElem_cons_succ, Act.put, List.setIfInBounds_toArray, List.set_cons_zero, List.set_cons_succ]
     refine wpAnyH_take (i := 21) (oi := _) (v := ?_) rfl (by kernel_rfl) (by kernel_rfl) (by kernel_rfl) (fun _ _ _ h => h) (Or.inl ⟨by kernel_rfl, ?_⟩) hH2 ?_
     rotate_left
     ·intro w hSw; (try dsimp only at hSw); go_simp
      all_goals with_reducible rfl
     try simp only [List.getElem_toArray, List.getElem_cons_zero, List.getElem_cons_succ, Act.put, List.setIfInBounds_toArray, List.set_cons_zero, List.set_cons_succ]
     refine wpAnyH_take (i := 22) (oi := _) (v := ?_) rfl (by kernel_rfl) (by kernel_rfl) (by kernel_rfl) (fun _ _ _ h => h) (Or.inl ⟨by kernel_rfl, ?_⟩) hH2 ?_
     rotate_left
     ·intro w hSw; (try dsimp only at hSw); go_simp
      all_goals with_reducible rfl
     try simp only [List.getElem_toArray, List.getElem_cons_zero, List.getElem_cons_succ, Act.put, List.setIfInBounds_toArray, List.set_cons_zero, List.set_cons_succ]
     refine wpAnyH_done (by kernel_rfl) ?_ _
     have hw3 : Below wr.heap.size wr w3 := (by have := hb3; exact (by first | ((repeat (first | exact Below.refl _ _ | assumption | refine Below.drewN ?_ _ | refine Below.drew ?_ | refine Below.alloc ?_ (by first | exact Nat.le_refl _ | (simp; done) | (simp; omega) | omega) _ | refine Below.setCell ?_ (by first | exact Nat.le_refl _ | (simp; done) | (simp; omega) | omega) _ | refine Below.trans ?_ (Below.mono (by assumption) (by first | exact Nat.le_refl _ | (simp; done) | (simp; omega) | omega)))); done) | fail) : Below wr.heap.size wr _)
     have HB4 : Hid (Below w1.heap.size w1 w4) := HB.out.trans ((hw3.trans (hb4.mono hw3.size)).mono HB.out.size)
     clear hb3 hb4 hw3
     cases q : decide (0 ≤ t)
     case true =>
      have HF : Hid (checkR xs = 5) := by
       have := of_decide_eq_true q
       exact checkR_ord HQ.out (by rw [HE.out, decide_eq_false (by omega)]; simp)
      go_wp2
      go_ret
      exact ⟨ret_i HF.out.symm, HB4.out⟩
     case false =>
      have HDT : Hid (rises acmp xs = rises acmp (xs.drop k)) := by
       have := of_decide_eq_false q
       show _ = _
       rw [HE.out, decide_eq_true (by omega)]; rfl
      clear hsub
      go_wp2
      go_roundw
      case rel => exact ⟨k + 1, k, by omega, .inr rfl, by go_num, HB4, HAT, rfl, HDT⟩
      case measure => simp [intOf]; omega
  ·have hkz : ¬ (k : Int) < (N : Int) := by omega
   have HAL : Hid (xs.all (rises tcmp) = true) := by
    have := HA.out
    rw [List.take_of_length_le (by rw [HN.out]; omega)] at this; exact this
   have HRI : Hid (rises acmp xs = true) := by show _ = _; rw [HD.out, rises_end (by have := HJ.out; rw [HN.out]; omega)]
   have HCK : Hid (checkR xs = if clashR xs then 1 else 0) := checkR_on HQ.out HAL.out HRI.out
   clear HA HD HJ HAL HRI hkj
   go_wp2
   go_loopw [4, 5] (fun iv _ wr => ∃ i : Nat, i ≤ N ∧ iv = .int .i64 i ∧ Hid (Below w1.heap.size w1 wr) ∧ Hid (clashTo xs i = false)) (fun iv _ _ => N - (intOf iv).toNat)
   case atStart => exact ⟨0, by omega, rfl, HB, rfl⟩
   case round =>
    clear HB hkz hki hk
    obtain ⟨i, hi, rfl, HB, HT⟩ := hrel
    by_cases hii : i < N
    ·have hiz : (i : Int) < (N : Int) := by omega
     have hi0 : (0 : Int) ≤ (i : Int) := by omega
     obtain ⟨x, hx⟩ := get_lt (xs := xs) (k := i) (by rw [HN.out]; exact hii)
     obtain ⟨bx, ox, rfl, hbx, ax, cx, x0', hx1, hx2, hx3⟩ := list_at HR.out hx
     have HX := Lib.hid hx
     have HX0 := Lib.hid x0'
     have HXI : Hid (Is w1 (.slice ax x.length cx) x) := list_mk hx1 hx2 hx3
     clear hx hx3 x0' hx1 hx2
     go_wp2
     go_loopw [5] (fun kv wr => ∃ n : Nat, n ≤ N ∧ kv = .int .i64 n ∧ Hid (Below w1.heap.size w1 wr) ∧ Hid (clashAt xs i n = false)) (fun kv _ => N - (intOf kv).toNat)
     case atStart => exact ⟨0, by omega, rfl, HB, rfl⟩
     case round =>
      clear HB
      obtain ⟨n, hn, rfl, HB, HC⟩ := hrel
      by_cases hni : n < N
      ·have hnz : (n : Int) < (N : Int) := by omega
       have hn0 : (0 : Int) ≤ (n : Int) := by omega
       obtain ⟨y, hy⟩ := get_lt (xs := xs) (k := n) (by rw [HN.out]; exact hni)
       obtain ⟨b2, o2, he, -, ay, cy, y0', hy1, hy2, hy3⟩ := list_at HR.out hy
       cases he
       have HS : Hid (clashAt xs i (n + 1) = (!(i == n) && conA x y)) := by show _ = _; rw [clashAt_succ, HC.out, getD_at HX.out, getD_at hy]; rfl
       have x0 := kept HB.out HX0.out
       have y0 := kept HB.out y0'
       have hcall := fun W (hb : Below w1.heap.size w1 W) => Contains_ref W (.slice ax x.length cx) (.slice ay y.length cy) x y (HXI.out.mono hb) ((list_mk hy1 hy2 hy3).mono hb)
       have HFD : Hid (conA x y = true → ¬ i = n → clashR xs = true) := fun h hne => clash_found (by rw [HN.out]; exact hii) (by rw [HN.out]; exact hni) hne (by rw [getD_at HX.out, getD_at hy]; exact h)
       clear hy y0' hy3
       generalize conA x y = cb at *
       by_cases hne : i = n
       ·have q : ((i : Int) != (n : Int)) = false := by simp; omega
        have HCT : Hid (clashAt xs i (n + 1) = false) := by show _ = _; rw [HS.out, hne]; simp
        clear hne
        go_wp2
        go_quiet (fail)
        go_wp2
        go_roundw
        case rel => exact ⟨n + 1, by omega, by go_num, Lib.hid (HB.out.drewN _), HCT⟩
        case measure => simp [intOf]; omega
       ·have q : ((i : Int) != (n : Int)) = true := by simp; omega
        have HNE := Lib.hid hne
        clear hne
        go_wp2
        refine still_tail 12 (by kernel_rfl) (by kernel_rfl) ?_
        simp only [List.take_succ_cons, List.take_zero, List.drop_succ_cons, List.drop_zero]
        repeat still_step
        refine wpStill_nil ?_
        go_wp2_with fail
        refine (hcall _ (HB.out.trans (by first | ((repeat (first | exact Below.refl _ _ | assumption | refine Below.drewN ?_ _ | refine Below.drew ?_ | refine Below.alloc ?_ (by first | exact Nat.le_refl _ | (simp; done) | (simp; omega) | omega) _ | refine Below.setCell ?_ (by first | exact Nat.le_refl _ | (simp; done) | (simp; omega) | omega) _ | refine Below.trans ?_ (Below.mono (by assumption) (by first | exact Nat.le_refl _ | (simp; done) | (simp; omega) | omega)))); done) | fail))).mono ?_
        rintro e w2 ⟨rfl, hg⟩
        have HB2 : Hid (Below w1.heap.size w1 w2) := HB.out.trans (((Below.refl wr.heap.size wr).drew.trans hg).mono HB.out.size)
        clear hg hcall
        cases cb
        case true =>
         have HF : Hid (checkR xs = 1) := by show _ = _; rw [HCK.out, HFD.out (by first | rfl | trivial) HNE.out]; rfl
         go_wp2
         go_ret
         exact ⟨ret_i HF.out.symm, HB2.out⟩
        case false =>
         have HCT : Hid (clashAt xs i (n + 1) = false) := by show _ = _; rw [HS.out]; simp
         go_wp2
         go_roundw
         case rel => exact ⟨n + 1, by omega, by go_num, HB2, HCT⟩
         case measure => simp [intOf]; omega
      ·have hnz : ¬ (n : Int) < (N : Int) := by omega
       have HTT : Hid (clashTo xs (i + 1) = false) := by
        have hnn : n = N := by omega
        show _ = _
        rw [clashTo_succ, HT.out, HN.out, ← hnn, HC.out]; rfl
       go_wp2
       go_roundw
       case rel => exact ⟨i + 1, by omega, by go_num, HB, HTT⟩
       case measure => simp [intOf]; omega
    ·have hiz : ¬ (i : Int) < (N : Int) := by omega
     have HF : Hid (checkR xs = 0) := by
      have hin : i = N := by omega
      show _ = _
      rw [HCK.out, clashR_to, HN.out, ← hin, HT.out]; rfl
     go_wp2
     go_ret
     exact ⟨ret_i HF.out.symm, HB.out⟩
end Go.Proofs.YtoemmpfcnpdblaaGreatDoor
namespace Go.Proofs.YtoemmpfcnpdblaaGreatDoor
open Go Go.RowKit Go.ChangeShapes Go.Lib

theorem badP_f {a b : List (List Term)} (h : (checkR a == 0) = true) (k : (checkR b == 0) = true) : (!badP a b) = true := by unfold badP; rw [check_same, check_same, h, k]; rfl
theorem badP_1 {a b : List (List Term)} (h : (checkR a == 0) = false) : (!badP a b) = false := by unfold badP; rw [check_same, h]; rfl
theorem badP_2 {a b : List (List Term)} (k : (checkR b == 0) = false) : (!badP a b) = false := by unfold badP; rw [check_same b, k]; simp
set_option maxRecDepth 100000 in
set_option maxHeartbeats 1000000 in
theorem Minimal34_ref (w : World) (v u : Value) (xs ys : List (List Term)) (h : Is w v xs) (k : Is w u ys) :
  Calls Tryz.prog 18 #[v, u] w fun e w' => e = .returned (.bool (!badP xs ys)) ∧ Below w.heap.size w w' := by
 have H1 := CheckR_ref w v xs h
 have H2 := fun W (hb : Below w.heap.size w W) => CheckR_ref W u ys (k.mono hb)
 have F1 : Hid ((checkR xs == 0) = false → (!badP xs ys) = false) := fun h => badP_1 h
 have F2 : Hid ((checkR ys == 0) = false → (!badP xs ys) = false) := fun h => badP_2 h
 have F3 : Hid ((checkR xs == 0) = true → (checkR ys == 0) = true → (!badP xs ys) = true) := fun h k => badP_f h k
 obtain ⟨a, c, rfl, -⟩ := list_inv h
 obtain ⟨b, d, rfl, -⟩ := list_inv k
 clear h k
 generalize checkR xs = r1 at *
 generalize checkR ys = r2 at *
 generalize (!badP xs ys) = bb at *
 generalize xs.length = N at *
 generalize ys.length = M at *
 cases q1 : (r1 == 0)
 case false =>
  have HF := Lib.hid (F1.out q1)
  go_enter Tryz.func18, Tryz.ntmps18
  go_wp2_with fail
  refine H1.mono ?_
  rintro e w1 ⟨rfl, hb⟩
  go_wp2
  go_ret
  exact ⟨ret_b HF.out.symm, hb⟩
 cases q2 : (r2 == 0)
 case false =>
  have HF := Lib.hid (F2.out q2)
  go_enter Tryz.func18, Tryz.ntmps18
  go_wp2_with fail
  refine H1.mono ?_
  rintro e w1 ⟨rfl, hb⟩
  go_wp2_with fail
  refine (H2 _ hb).mono ?_
  rintro e w2 ⟨rfl, hb2⟩
  go_wp2
  go_ret
  exact ⟨ret_b HF.out.symm, hb.trans (hb2.mono hb.size)⟩
 case true =>
  have HF := Lib.hid (F3.out q1 q2)
  go_enter Tryz.func18, Tryz.ntmps18
  go_wp2_with fail
  refine H1.mono ?_
  rintro e w1 ⟨rfl, hb⟩
  go_wp2_with fail
  refine (H2 _ hb).mono ?_
  rintro e w2 ⟨rfl, hb2⟩
  go_wp2
  go_ret
  exact ⟨ret_b HF.out.symm, hb.trans (hb2.mono hb.size)⟩
set_option maxRecDepth 100000 in
set_option maxHeartbeats 4000000 in
theorem Separating_ref (w : World) (v u : Value) (xs ys : List (List Term)) (h : Is w v xs) (k : Is w u ys) :
  Calls Tryz.prog 19 #[v, u] w fun e w' => e = .returned (.int .i64 (idxP (sepB ys) xs)) ∧ Below w.heap.size w w' := by
 have HI := Lib.hid k
 obtain ⟨a, c, rfl, hnc, hcm, hr⟩ := list_inv h
 obtain ⟨b, d, rfl, -⟩ := list_inv k
 simp only [maxLen] at hcm
 have HR := Lib.hid hr
 clear h k hr
 generalize ys.length = M at *
 generalize hN : xs.length = N at *
 have HN := Lib.hid hN
 clear hN
 go_enter Tryz.func19, Tryz.ntmps19
 go_wp2
 go_loopw [5] (fun i wr => ∃ k : Nat, k ≤ N ∧ i = .int .i64 k ∧ Hid ((xs.take k).any (sepB ys) = false) ∧ Hid (Below w.heap.size w wr)) (fun i _ => N - (intOf i).toNat)
 case atStart => exact ⟨0, by omega, rfl, rfl, Below.refl _ _⟩
 case round =>
  obtain ⟨k, hk, rfl, HK, HB⟩ := hrel
  by_cases hki : k < N
  ·have hkz : (k : Int) < (N : Int) := by omega
   have hk0 : (0 : Int) ≤ (k : Int) := by omega
   obtain ⟨x, hx⟩ := get_lt (xs := xs) (k := k) (by rw [HN.out]; exact hki)
   obtain ⟨bx, ox, rfl, hbx, ax, cx, x0', hx1, hx2, hx3⟩ := list_at HR.out hx
   have x0 := kept HB.out x0'
   have hsx := cell_lt x0
   have HX := Lib.hid hx
   have hcall := Satisfied_ref wr (.slice b M d) (.slice ax x.length cx) ys x (HI.out.mono HB.out) (list_mk hx1 hx2 (hx3.mono HB.out))
   have HE : Hid (sepB ys x = !satP ys x) := rfl
   clear hx x0' hx3
   cases e9 : satP ys x
   case false =>
    rw [e9] at hcall
    have HF : Hid (idxP (sepB ys) xs = k) := idxP_hit HX.out (by rw [HE.out, e9]; rfl) HK.out
    clear e9
    go_wp2_with fail
    refine hcall.mono ?_
    rintro e w2 ⟨rfl, hb2⟩
    have HB2 : Hid (Below w.heap.size w w2) := HB.out.trans (hb2.mono HB.out.size)
    clear hcall hb2
    go_wp2
    go_ret
    exact ⟨ret_i HF.out.symm, HB2.out⟩
   case true =>
    rw [e9] at hcall
    have HT : Hid ((xs.take (k + 1)).any (sepB ys) = false) := by show _ = _; rw [any_snocR _ HX.out, HK.out, HE.out, e9]; rfl
    clear e9
    go_wp2_with fail
    refine hcall.mono ?_
    rintro e w2 ⟨rfl, hb2⟩
    have HB2 : Hid (Below w.heap.size w w2) := HB.out.trans (hb2.mono HB.out.size)
    clear hcall hb2
    go_wp2
    go_roundw
    case rel => exact ⟨k + 1, by omega, by go_num, HT, HB2⟩
    case measure => simp [intOf]; omega
  ·have hkz : ¬ (k : Int) < (N : Int) := by omega
   have HF : Hid (idxP (sepB ys) xs = -1) := idxP_miss (any_endR HK.out (by rw [HN.out]; exact hki))
   go_wp2
   go_ret
   exact ⟨ret_i HF.out.symm, HB.out⟩
theorem sep_idx (a b : List (List Term)) : (sepP a b).isNone = decide (idxP (sepB b) a < 0) := by
 show (a.find? (sepB b)).isNone = _
 rcases idxP_cases (sepB b) a with ⟨h1, h2⟩ | ⟨k, x, -, h1, h2⟩
 ·rw [h1, h2]; rfl
 ·rw [h1, h2, decide_eq_false (by omega)]; rfl
set_option maxRecDepth 100000 in
set_option maxHeartbeats 1000000 in
theorem Entails_ref (w : World) (v u : Value) (xs ys : List (List Term)) (h : Is w v xs) (k : Is w u ys) :
  Calls Tryz.prog 14 #[v, u] w fun e w' => e = .returned (.tuple #[.bool (entP xs ys).1, .int .i64 (entP xs ys).2]) ∧ Below w.heap.size w w' := by
 have H1 := Minimal34_ref w v u xs ys h k
 have H2 := fun W (hb : Below w.heap.size w W) => Separating_ref W v u xs ys (h.mono hb) (k.mono hb)
 have F1 : Hid (badP xs ys = true → entP xs ys = (false, 1)) := fun h => by unfold entP; rw [h]; rfl
 have F2 : Hid (badP xs ys = false → entP xs ys = (decide (idxP (sepB ys) xs < 0), 0)) := fun h => by unfold entP; rw [h, ← sep_idx]; rfl
 obtain ⟨a, c, rfl, -⟩ := list_inv h
 obtain ⟨b, d, rfl, -⟩ := list_inv k
 clear h k
 generalize idxP (sepB ys) xs = r at *
 generalize entP xs ys = o at *
 generalize badP xs ys = bb at *
 generalize xs.length = N at *
 generalize ys.length = M at *
 cases bb
 case true =>
  obtain rfl : o = (false, 1) := F1.out (by first | rfl | trivial)
  go_enter Tryz.func14, Tryz.ntmps14
  go_wp2_with fail
  refine H1.mono ?_
  rintro e w1 ⟨rfl, hb⟩
  go_wp2
  go_ret2
  exact ⟨rfl, hb⟩
 case false =>
  obtain rfl : o = (decide (r < 0), 0) := F2.out (by first | rfl | trivial)
  go_enter Tryz.func14, Tryz.ntmps14
  go_wp2_with fail
  refine H1.mono ?_
  rintro e w1 ⟨rfl, hb⟩
  go_wp2_with fail
  refine (H2 _ hb).mono ?_
  rintro e w2 ⟨rfl, hb2⟩
  go_wp2
  go_ret2
  exact ⟨rfl, hb.trans (hb2.mono hb.size)⟩
theorem found_same (a : List (List Term)) (x : List Term) : a.any (fun y => decide (x = y)) = a.any fun y => decide (y = x) :=
 any_congr2 fun y _ => by rw [Bool.eq_iff_iff, decide_eq_true_iff, decide_eq_true_iff]; exact eq_comm
set_option maxRecDepth 100000 in
set_option maxHeartbeats 4000000 in
theorem Check34_ref (w : World) (v u z : Value) (xs ys : List (List Term)) (x : List Term) (h : Is w v xs) (k : Is w u ys) (l : Is w z x) :
  Calls Tryz.prog 16 #[v, u, z] w fun e w' => e = .returned (.int .i64 (chkP xs ys x)) ∧ Below w.heap.size w w' := by
 have H1 := Minimal34_ref w v u xs ys h k
 have H2 := Lib.hid (fun W (hb : Below w.heap.size w W) => Satisfied_ref W u z ys x (k.mono hb) (l.mono hb))
 have F1 : Hid (badP xs ys = true → chkP xs ys x = 1) := fun h => by unfold chkP; rw [h]; rfl
 have F2 : Hid (badP xs ys = false → xs.any (fun y => decide (y = x)) = false → chkP xs ys x = 7) := fun h k => by unfold chkP; rw [h, found_same, k]; rfl
 have F3 : Hid (badP xs ys = false → xs.any (fun y => decide (y = x)) = true → chkP xs ys x = if satP ys x then 18 else 0) := fun h k => by unfold chkP; rw [h, found_same, k]; rfl
 have HI := Lib.hid l
 obtain ⟨a, c, rfl, hnc, hcm, hr⟩ := list_inv h
 obtain ⟨b, d, rfl, -⟩ := list_inv k
 obtain ⟨a', c', rfl, -⟩ := list_inv l
 simp only [maxLen] at hcm
 have HR := Lib.hid hr
 clear h k l hr
 generalize chkP xs ys x = o at *
 generalize badP xs ys = bb at *
 generalize satP ys x = sb at *
 generalize hN : xs.length = N at *
 have HN := Lib.hid hN
 clear hN
 generalize ys.length = M at *
 generalize x.length = L at *
 cases bb
 case true =>
  obtain rfl : o = 1 := F1.out (by first | rfl | trivial)
  go_enter Tryz.func16, Tryz.ntmps16
  go_wp2_with fail
  refine H1.mono ?_
  rintro e w1 ⟨rfl, hb⟩
  go_wp2
  go_ret
  exact ⟨rfl, hb⟩
 go_enter Tryz.func16, Tryz.ntmps16
 go_wp2_with fail
 refine H1.mono ?_
 rintro e w1 ⟨rfl, hb⟩
 have HB1 := Lib.hid hb
 clear H1 hb
 go_wp2
 go_loopw [7, 8] (fun bv i wr => ∃ (k : Nat) (f : Bool), k ≤ N ∧ bv = .bool f ∧ i = .int .i64 k ∧ Hid (f = (xs.take k).any fun y => decide (y = x)) ∧ Hid (Below w.heap.size w wr)) (fun _ i _ => N - (intOf i).toNat)
 case atStart => exact ⟨0, false, by omega, rfl, rfl, rfl, HB1⟩
 case round =>
  obtain ⟨k, f, hk, rfl, rfl, HK, HB⟩ := hrel
  by_cases hki : k < N
  ·have hkz : (k : Int) < (N : Int) := by omega
   have hk0 : (0 : Int) ≤ (k : Int) := by omega
   obtain ⟨y, hy⟩ := get_lt (xs := xs) (k := k) (by rw [HN.out]; exact hki)
   obtain ⟨bx, ox, rfl, hbx, ax, cx, x0', hx1, hx2, hx3⟩ := list_at HR.out hy
   have x0 := kept HB.out x0'
   have hsx := cell_lt x0
   have HS := Lib.hid (any_snocR (fun y => decide (y = x)) hy)
   cases f
   case true =>
    have HT : Hid (true = (xs.take (k + 1)).any fun y => decide (y = x)) := by show _ = _; rw [HS.out, ← HK.out]; rfl
    clear hy x0' hx3
    go_wp2
    go_roundw
    case rel => exact ⟨k + 1, true, by omega, rfl, by go_num, HT, HB⟩
    case measure => simp [intOf]; omega
   case false =>
    have hcall := SameTerms_ref wr (.slice ax y.length cx) (.slice a' L c') y x (list_mk hx1 hx2 (hx3.mono HB.out)) (HI.out.mono HB.out)
    have HT : Hid (decide (y = x) = (xs.take (k + 1)).any fun y => decide (y = x)) := by show _ = _; rw [HS.out, ← HK.out]; rfl
    clear hy x0' hx3
    generalize decide (y = x) = db at *
    go_wp2_with fail
    refine hcall.mono ?_
    rintro e w2 ⟨rfl, hb2⟩
    have HB2 : Hid (Below w.heap.size w w2) := HB.out.trans (hb2.mono HB.out.size)
    clear hcall hb2
    go_wp2
    go_roundw
    case rel => exact ⟨k + 1, db, by omega, rfl, by go_num, HT, HB2⟩
    case measure => simp [intOf]; omega
  ·have hkz : ¬ (k : Int) < (N : Int) := by omega
   have HE : Hid (xs.any (fun y => decide (y = x)) = f) := by
    have := HK.out
    rw [List.take_of_length_le (by rw [HN.out]; omega)] at this; exact this.symm
   cases f
   case false =>
    obtain rfl : o = 7 := F2.out (by first | rfl | trivial) HE.out
    go_wp2
    go_ret
    exact ⟨rfl, HB.out⟩
   case true =>
    have HO : Hid (o = if sb then 18 else 0) := F3.out (by first | rfl | trivial) HE.out
    go_wp2_with fail
    refine (H2.out _ HB.out).mono ?_
    rintro e w2 ⟨rfl, hb2⟩
    have HB2 : Hid (Below w.heap.size w w2) := HB.out.trans (hb2.mono HB.out.size)
    clear hb2
    cases sb
    all_goals
     go_wp2
     go_ret
     exact ⟨ret_i HO.out.symm, HB2.out⟩
end Go.Proofs.YtoemmpfcnpdblaaGreatDoor
