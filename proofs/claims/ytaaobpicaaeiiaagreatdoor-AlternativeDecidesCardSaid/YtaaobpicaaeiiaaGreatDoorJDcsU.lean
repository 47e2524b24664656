/- Plain laws: a set of terms satisfies the meaning of an expression exactly if it satisfies the expression. -/
import Derived.Test.YtaaobpicaaeiiaaGreatDoorJFrameG
import Derived.Test.YtaaobpicaaeiiaaGreatDoorJProY
import Derived.Test.YtaaobpicaaeiiaaGreatDoorJReadU
import Derived.Test.YtaaobpicaaeiiaaGreatDoorJIdxF
import Derived.Test.YtaaobpicaaeiiaaGreatDoorJCmpU
import Derived.Test.YtaaobpicaaeiiaaGreatDoorJEntU
import Derived.Test.YtaaobpicaaeiiaaGreatDoorJLexU
import Derived.Test.YtaaobpicaaeiiaaGreatDoorJAEU
import Derived.Test.YtaaobpicaaeiiaaGreatDoorJLiftU
import Derived.Test.YtaaobpicaaeiiaaGreatDoorJCompU
import Derived.Test.YtaaobpicaaeiiaaGreatDoorJPairU
import Derived.Test.YtaaobpicaaeiiaaGreatDoorJFewA
import Derived.Test.YtaaobpicaaeiiaaGreatDoorJR33U
import Derived.Test.YtaaobpicaaeiiaaGreatDoorJAwG
import Derived.Test.YtaaobpicaaeiiaaGreatDoorJRfM
import Derived.Test.YtaaobpicaaeiiaaGreatDoorJSmal
import Derived.Test.YtaaobpicaaeiiaaGreatDoorJMeaY
import Derived.Test.YtaaobpicaaeiiaaGreatDoorJRetL
set_option linter.all false
namespace Go.Proofs.YtaaobpicaaeiiaaGreatDoor
open Go

mutual
def holdsE (c : Catalog) (ts : List Term) : LExpr → Bool
 | .mk k n x ks =>
  if k == 0 then hasT ts ⟨n, x⟩
  else if k == 1 then ((laterC c n).getD []).any fun s => hasT ts ⟨s, ByteArray.empty⟩
  else if k == 2 then !noKs c ts ks else someKs c ts ks
def noKs (c : Catalog) (ts : List Term) : List LExpr → Bool
 | [] => false
 | e :: r => !holdsE c ts e || noKs c ts r
def someKs (c : Catalog) (ts : List Term) : List LExpr → Bool
 | [] => false
 | e :: r => holdsE c ts e || someKs c ts r
end
theorem noKs_any (c : Catalog) (ts : List Term) : ∀ ks, noKs c ts ks = ks.any fun e => !holdsE c ts e
 | [] => by rw [noKs]; rfl
 | e :: r => by rw [noKs, noKs_any c ts r, List.any_cons]
theorem someKs_any (c : Catalog) (ts : List Term) : ∀ ks, someKs c ts ks = ks.any fun e => holdsE c ts e
 | [] => by rw [someKs]; rfl
 | e :: r => by rw [someKs, someKs_any c ts r, List.any_cons]
theorem conA_one (ts : List Term) (t : Term) : conA ts [t] = hasT ts t := by simp [conA]
theorem mean_or_sat {c : Catalog} {ts : List Term} : ∀ (ks : List LExpr) (first : Bool) (out : List (List Term)), (∀ e ∈ ks, (meanP c e).2 = 0 → satP (meanP c e).1 ts = holdsE c ts e) → (meanKs c 3 first out ks).2 = 0 →
  satP (meanKs c 3 first out ks).1 ts = (satP out ts || someKs c ts ks)
 | [], first, out, _, h => by rw [meanKs] at *; rw [sized_zero h, minimal_sat, someKs, Bool.or_false]
 | e :: r, first, out, ih, h => by
  rw [meanKs] at h ⊢
  by_cases q : (meanP c e).2 = 0
  ·simp only [q] at h ⊢
   simp (config := {decide := true}) only [if_false, if_true, Bool.not_true, beq_self_eq_true] at h ⊢
   rw [mean_or_sat r false _ (fun y hy => ih y (by simp [hy])) h, satP_append, ih e (by simp) q, someKs, Bool.or_assoc]
  ·simp [q] at h
theorem mean_and_sat {c : Catalog} {ts : List Term} : ∀ (ks : List LExpr) (first : Bool) (out : List (List Term)), (∀ e ∈ ks, (meanP c e).2 = 0 → satP (meanP c e).1 ts = holdsE c ts e) → (first = true → ks ≠ []) → (meanKs c 2 first out ks).2 = 0 →
  satP (meanKs c 2 first out ks).1 ts = ((first || satP out ts) && !noKs c ts ks)
 | [], first, out, _, hf, h => by
  cases first
  ·rw [meanKs] at *; rw [sized_zero h, minimal_sat, noKs]; simp
  ·exact absurd rfl (hf rfl)
 | e :: r, first, out, ih, _, h => by
  rw [meanKs] at h ⊢
  have ihr : ∀ y ∈ r, (meanP c y).2 = 0 → satP (meanP c y).1 ts = holdsE c ts y := fun y hy => ih y (by simp [hy])
  by_cases q : (meanP c e).2 = 0
  ·simp only [q] at h ⊢
   cases first
   ·simp (config := {decide := true}) only [if_false, Bool.not_true, beq_self_eq_true] at h ⊢
    by_cases q4 : (sizedP (minimalP (pairsA out (meanP c e).1))).2 = 0
    ·simp only [q4] at h ⊢
     simp (config := {decide := true}) only [if_false, Bool.not_true, beq_self_eq_true] at h ⊢
     rw [mean_and_sat r false _ ihr (fun h => by cases h) h, sized_zero q4, minimal_sat, satP_pairs, ih e (by simp) q, noKs]
     cases satP out ts <;> cases holdsE c ts e <;> cases noKs c ts r <;> rfl
    ·simp [q4] at h
   ·simp (config := {decide := true}) only [if_false, if_true, Bool.not_true, beq_self_eq_true] at h ⊢
    rw [mean_and_sat r false _ ihr (fun h => by cases h) h, ih e (by simp) q, noKs]
    cases satP out ts <;> cases holdsE c ts e <;> cases noKs c ts r <;> rfl
  ·simp [q] at h
theorem decides_sat {c : Catalog} {ts : List Term} : ∀ e, nodesErr (nodesE e) = 0 → (meanP c e).2 = 0 → satP (meanP c e).1 ts = holdsE c ts e := by
 refine LExpr.ind fun k n x ks ih herr h => ?_
 have he := err_self herr
 have hk : ¬ (k < 0 ∨ 3 < k) := fun q => by rw [nodeErr_bad q] at he; cases he
 by_cases q0 : k = 0
 ·subst q0
  have e1 : (meanP c (.mk 0 n x ks)).1 = [[⟨n, x⟩]] := by rw [meanP]; rfl
  have e2 : holdsE c ts (.mk 0 n x ks) = hasT ts ⟨n, x⟩ := by rw [holdsE]; rfl
  rw [e1, e2, satP_cons, conA_one]; simp [satP]
 by_cases q1 : k = 1
 ·subst q1
  have e1 : meanP c (.mk 1 n x ks) = sizedP (minimalP (((laterC c n).getD []).map fun s => [⟨s, ByteArray.empty⟩])) := by rw [meanP]; rfl
  have e2 : holdsE c ts (.mk 1 n x ks) = ((laterC c n).getD []).any fun s => hasT ts ⟨s, ByteArray.empty⟩ := by rw [holdsE]; rfl
  rw [e1] at h ⊢
  rw [e2, sized_zero h, minimal_sat]
  unfold satP
  rw [List.any_map]
  congr 1
  funext s
  exact conA_one ts _
 have e0 : (k == 0) = false := by simpa using q0
 have e1 : (k == 1) = false := by simpa using q1
 have hks : ks ≠ [] := by
  rintro rfl
  rw [nodeErr_hi (by omega) (by omega)] at he
  simp at he
 have ih' : ∀ e ∈ ks, (meanP c e).2 = 0 → satP (meanP c e).1 ts = holdsE c ts e := fun e hm hz => ih e hm (err_kid herr hm) hz
 obtain rfl | rfl : k = 2 ∨ k = 3 := by omega
 ·have e2 : holdsE c ts (.mk 2 n x ks) = !noKs c ts ks := by rw [holdsE]; rfl
  have e3 : meanP c (.mk 2 n x ks) = meanKs c 2 true [] ks := by rw [meanP]; rfl
  rw [e3] at h ⊢
  rw [mean_and_sat ks true [] ih' (fun _ => hks) h, e2]; simp
 ·have e2 : holdsE c ts (.mk 3 n x ks) = someKs c ts ks := by rw [holdsE]; rfl
  have e3 : meanP c (.mk 3 n x ks) = meanKs c 3 true [] ks := by rw [meanP]; rfl
  rw [e3] at h ⊢
  rw [mean_or_sat ks true [] ih' h, e2]; simp [satP]
def nodeT (c : Catalog) (y : LExpr) : List Term :=
 if y.kind == 0 then [⟨y.name, y.exc⟩] else if y.kind == 1 then ((laterC c y.name).getD []).map fun s => ⟨s, ByteArray.empty⟩ else []
def nodesT (c : Catalog) (l : List LExpr) : List Term := l.flatMap (nodeT c)
theorem holds_all {c : Catalog} {ts : List Term} : ∀ e, checkE c e = 0 → (∀ t ∈ nodesT c (nodesE e), t ∈ ts) → holdsE c ts e = true := by
 refine LExpr.ind fun k n x ks ih hc hall => ?_
 obtain ⟨hC, hF, hN⟩ := checkE_iff.1 hc
 obtain ⟨hs, -, herr⟩ := formE_iff.1 hF
 have he := herr (.mk k n x ks) (by rw [nodesE]; simp)
 have hkn := hN (.mk k n x ks) (by rw [nodesE]; simp)
 have hk : ¬ (k < 0 ∨ 3 < k) := fun q => by rw [nodeErr_bad q] at he; cases he
 have hme : ∀ t ∈ nodeT c (.mk k n x ks), t ∈ ts := fun t ht => hall t (List.mem_flatMap.2 ⟨_, by rw [nodesE]; simp, ht⟩)
 by_cases q0 : k = 0
 ·subst q0
  have e2 : holdsE c ts (.mk 0 n x ks) = hasT ts ⟨n, x⟩ := by rw [holdsE]; rfl
  rw [e2, hasT_iff]
  exact hme _ (by simp [nodeT, LExpr.kind, LExpr.name, LExpr.exc])
 by_cases q1 : k = 1
 ·subst q1
  obtain ⟨rfl, hnm⟩ := err_low he (by decide)
  have e2 : holdsE c ts (.mk 1 n x []) = ((laterC c n).getD []).any fun s => hasT ts ⟨s, ByteArray.empty⟩ := by rw [holdsE]; rfl
  have hk2 : (liftsC c ⟨n, x⟩).isSome = true := by
   have h0 : (emp n || (liftsC c ⟨n, x⟩).isSome) = true := hkn
   rw [name_emp hnm] at h0
   simpa using h0
  have hfi : (findC c n).isSome = true := by
   unfold liftsC at hk2
   split at hk2
   ·assumption
   ·cases hk2
  obtain ⟨L, hL⟩ := Option.isSome_iff_exists.1 hfi
  have hmem := (look_mem (find_check hL).2).1
  have hnm2 : laterC c n = some ((laterL c L).map License.name) := by unfold laterC; rw [hL]; rfl
  obtain ⟨r, hr⟩ := later_head hC hmem
  rw [e2, List.any_eq_true]
  refine ⟨L.name, by rw [hnm2, hr]; simp, hasT_iff.2 (hme _ ?_)⟩
  have : nodeT c (.mk 1 n x []) = ((laterC c n).getD []).map fun s => ⟨s, ByteArray.empty⟩ := rfl
  rw [this, hnm2, hr]; simp
 have hks : ks ≠ [] := by
  rintro rfl
  rw [nodeErr_hi (by omega) (by omega)] at he
  simp at he
 have hkid : ∀ e ∈ ks, holdsE c ts e = true := fun e hm => ih e hm (check_kid hc hm) fun t ht => by
  obtain ⟨y, hy, hty⟩ := List.mem_flatMap.1 ht
  exact hall t (List.mem_flatMap.2 ⟨y, node_kid hm hy, hty⟩)
 obtain rfl | rfl : k = 2 ∨ k = 3 := by omega
 ·have e2 : holdsE c ts (.mk 2 n x ks) = !noKs c ts ks := by rw [holdsE]; rfl
  rw [e2, noKs_any, Bool.not_eq_true', List.any_eq_false]
  intro e hm
  simp [hkid e hm]
 ·have e2 : holdsE c ts (.mk 3 n x ks) = someKs c ts ks := by rw [holdsE]; rfl
  rw [e2, someKs_any, List.any_eq_true]
  obtain ⟨e, r, rfl⟩ := List.exists_cons_of_ne_nil hks
  exact ⟨e, by simp, hkid e (by simp)⟩
theorem decides_of {c : Catalog} {e : LExpr} (h : (ofP c e).2 = 0) (ts : List Term) : satP (ofP c e).1 ts = holdsE c ts e := by
 obtain ⟨h1, h2⟩ := ofP_ok h
 rw [h2] at h ⊢
 exact decides_sat e (nodesErr_zero (formE_iff.1 (checkE_iff.1 h1).2.1).2.2) h
theorem decides_all {c : Catalog} {e : LExpr} (h : (ofP c e).2 = 0) {ts : List Term} (hall : ∀ t ∈ nodesT c (nodesE e), t ∈ ts) : satP (ofP c e).1 ts = true := by
 rw [decides_of h]
 exact holds_all e (ofP_ok h).1 hall
theorem of_checkA {c : Catalog} {e : LExpr} (h : (ofP c e).2 = 0) : checkA (ofP c e).1 = 0 := by
 obtain ⟨h1, h2⟩ := ofE_len h
 refine check_small ?_ h1 h2
 rw [(ofP_ok h).2]; exact mean_min c e
end Go.Proofs.YtaaobpicaaeiiaaGreatDoor
namespace Go.Proofs.YtaaobpicaaeiiaaGreatDoor
open Go Go.RowKit Go.ChangeShapes Go.Sort Go.Lib

theorem OwnL.blk {B : Nat} {E : TypeId → Prop} {e : TypeId} {w : World} {g n c : Nat} {xs : List Term} (h : OwnL B E e w (.slice (some ⟨g, 0, none⟩) n c) xs) : ∃ cur, w.heap[g]? = some (.cells cur e (0, 0)) := by
 obtain ⟨ys, _, ho, _⟩ := h
 rcases ho.2 with ⟨h0, _⟩ | ⟨g', cap, cur, he, hg, hh, _⟩
 ·cases h0
 ·cases he; exact ⟨cur, hh⟩
theorem ag_set {B g n c : Nat} {w0 w w' : World} {xs : List Term} (hB : B ≤ g) (h : Agree B (· = 60) w0 w) (ho : OwnL B (· = 60) 60 w (.slice (some ⟨g, 0, none⟩) n c) xs) (o : Nat) (y : List Value) (hw : w' = w.setCells g o y) : Agree B (· = 60) w0 w' := by
 obtain ⟨cur, hh⟩ := ho.blk
 subst hw
 exact h.trans (agree_setCells hB hh)
set_option maxRecDepth 100000 in
set_option maxHeartbeats 1000000 in
theorem compareX_p (x y : Term) (w : World) : Calls Tryz.prog 90 #[.agg #[.string x.license, .string x.exception], .agg #[.string y.license, .string y.exception]] w fun e w' => e = .returned (.int .i64 (tcmp x y)) ∧ Grew w w' := by
 have ht : tcmp x y = orI [cmpS x.license y.license, cmpS x.exception y.exception] := by rw [orI_lex, cmpS_s, cmpS_s]; rfl
 rw [ht]
 clear ht
 go_enter Tryz.func90, Tryz.ntmps90
 go_wp2
 refine still_tail 10 (by kernel_rfl) (by kernel_rfl) ?_
 simp only [List.take_succ_cons, List.take_zero, List.drop_succ_cons, List.drop_zero]
 repeat still_step
 still_call (Compare_q x.license y.license _)
 repeat still_step
 still_call (Compare_q x.exception y.exception _)
 repeat still_step
 refine wpStill_nil ?_
 go_wp2_with fail
 refine (Or_i _ _ [cmpS x.license y.license, cmpS x.exception y.exception] ?_).mono ?_
 ·refine (ints_box _ [cmpS x.license y.license, cmpS x.exception y.exception] _ ?_ (Nat.le_of_ble_eq_true rfl) rfl (by simp)).mono (Below.refl _ _).drew
  simp [cmpS_in]
 rintro e w1 ⟨rfl, rfl⟩
 go_wp2
 go_ret
 exact ⟨rfl, (by repeat (first | exact Grew.refl _ | refine Grew.drew ?_ | refine Grew.alloc ?_ _ | refine Grew.drewN ?_ _))⟩
set_option maxRecDepth 100000 in
set_option maxHeartbeats 2000000 in
theorem SortTermX_p {B : Nat} {w : World} {v : Value} {xs : List Term} (h : RowT B w v xs) (hlen : xs.length < 4611686018427387904) :
  Calls Tryz.prog 89 #[v, .func (.func 90) #[] #[]] w fun e w' => e = .returned (.tuple #[]) ∧ RowT B w' v (sortS (ltC tcmp) xs) ∧ Below B w w' ∧ Agree B (· = 60) w w' := by
 by_cases hne : xs = []
 ·subst hne
  obtain ⟨a, c, rfl⟩ := h.shape
  have hb := Tryz.bits_Len 0 w (by decide) (by decide)
  have hl0 : Lib.bitLen ((0 : Int).toNat) = 0 := by decide
  rw [hl0] at hb
  have hn := sortNilTerm a c w (.func (.func 90) #[] #[])
  have H := Lib.hid h
  clear h hl0
  go_enter Tryz.func89, Tryz.ntmps89
  go_wp2_with fail
  refine hb.mono ?_
  rintro e w1 ⟨rfl, rfl⟩
  go_wp2_with fail
  refine hn.mono ?_
  rintro e w2 ⟨rfl, rfl⟩
  go_wp2
  go_end0
  exact ⟨rfl, H.out, Below.refl _ _, Agree.refl _ _ _⟩
 ·obtain ⟨g, cap, d, rfl, hg, hB, hd, hH, hpost⟩ := (h.own fun _ => True).sorted trivial encTh (fun _ => rfl) (by decide) ofTerm hne
  have hds : d.size = xs.length := by rw [← hd]; simp
  have h62 : d.size < 4611686018427387904 := by omega
  have hlim : Lib.bitLen d.size < 4611686018427387904 := Nat.lt_of_le_of_lt (Lib.bitLen_le d.size 62 (by omega) (by omega)) (by omega)
  have hO := tcmp_to.swo (Prod.fst : Term × Hd → Term)
  have hp := AnyQ.pdqsortCmpFunc_all Tryz.pdqTerm (Lay.n Term) Tryz.isAgg60 Tryz.sizeOf60 encTh (fun x y => tcmp x.1 y.1) 90 #[] hO g 0 cap d w
   (enters_of Tryz.func90 (by kernel_rfl) rfl) (fun _ _ _ _ x y => (compareX_p x.1 y.1 _).mono fun _ _ h => h)
   ⟨fun _ => rfl, fun x v hv => by simp [encTh] at hv; rcases hv with rfl | rfl <;> rfl, hH, hg⟩ (d.size + 1) 0 d.size (Lib.bitLen d.size) d w (by omega) rfl (SWK.start hH) (Nat.zero_le _) (Nat.le_refl _) h62 hlim (Or.inl rfl)
  have hs := pdq_sorts (ltOf fun (x y : Term × Hd) => tcmp x.1 y.1) hO d 0 d.size (Lib.bitLen d.size) true true (Nat.zero_le _) (Nat.le_refl _) (Or.inl rfl)
  have hb := Tryz.bits_Len (d.size : Int) w (by omega) (by omega)
  rw [Int.toNat_natCast] at hb
  have HP := Lib.hid hpost
  have HS := Lib.hid hs
  have HD := Lib.hid hd
  generalize pdq (ltOf fun (x y : Term × Hd) => tcmp x.1 y.1) d 0 d.size (Lib.bitLen d.size) true true = d' at *
  have wr : IntKind.u64.wrap (d.size : Int) = d.size := by simp [IntKind.wrap, IntKind.bits, IntKind.signed]; omega
  clear hpost hs hd hH h hO hds hne
  generalize hbl : Lib.bitLen d.size = bl at *
  clear hbl
  generalize hdz : d.size = n at *
  have HZ := Lib.hid hdz
  clear hdz
  go_enter Tryz.func89, Tryz.ntmps89
  go_wp2_with fail
  refine hb.mono ?_
  rintro e w1 ⟨rfl, rfl⟩
  go_wp2_with fail
  refine hp.mono ?_
  rintro e w2 ⟨rfl, m, os, rfl⟩
  have HS2 := HS.out
  rw [← HZ.out] at HS2
  have hperm := perm_of HS2.1.1 HS2.1.2.2
  obtain ⟨p1, p2, p3⟩ := HP.out d' m os hperm
  rw [sorted_dat tcmp_to HD.out hperm HS2.2 HS2.1.1] at p1
  clear hp hb wr
  go_wp2
  go_end0
  exact ⟨rfl, ownT_row p1, p2, p3⟩
set_option maxRecDepth 100000 in
set_option maxHeartbeats 4000000 in
theorem CompactX_o {B : Nat} {w : World} {v : Value} {xs : List Term} (h : OwnL B (· = 60) 60 w v xs) :
  Calls Tryz.prog 91 #[v] w fun e w' => ∃ v', e = .returned v' ∧ OwnL B (· = 60) 60 w' v' (compact xs) ∧ Below B w w' ∧ Agree B (· = 60) w w' := by
 obtain ⟨a, c, rfl, hnc, hcm, -⟩ := list_inv h.is
 simp only [maxLen] at hcm
 have HO := Lib.hid h
 clear h
 generalize hN : xs.length = N at *
 have HN := Lib.hid hN
 clear hN
 by_cases h2 : N < 2
 ·have h2z : (N : Int) < 2 := by omega
  have HC : Hid (compact xs = xs) := by
   have := HN.out
   show _ = _
   match xs, this with
   | [], _ => simp [compact]
   | [a], _ => simp [compact]
   | a :: b :: r, h => simp at h; omega
  go_enter Tryz.func91, Tryz.ntmps91
  go_wp2
  go_ret
  exact ⟨_, rfl, by rw [HC.out]; exact HO.out, Below.refl _ _, Agree.refl _ _ _⟩
 ·have h2z : ¬ (N : Int) < 2 := by omega
  obtain ⟨x0, hx0⟩ := get_lt (xs := xs) (k := 0) (by rw [HN.out]; omega)
  obtain ⟨g, -, rfl, -, hg0, -, -⟩ := HO.out.elem hx0
  clear hx0 x0
  go_enter Tryz.func91, Tryz.ntmps91
  go_wp2
  go_loopw [3] (fun kv wr => ∃ i k : Nat, i ≤ N ∧ kv = .int .i64 (i : Nat) ∧ Hid (i = k + 1) ∧ (∃ n, wr = w.drewN n) ∧ Hid (Upto1 xs k)) (fun kv _ => N - (intOf kv).toNat)
  case atStart => exact ⟨1, 0, by omega, rfl, rfl, ⟨0, rfl⟩, by show _ = _; simp⟩
  case round =>
   obtain ⟨i, k, hi, rfl, hik, ⟨n, rfl⟩, hf⟩ := hrel
   by_cases hki : i < N
   ·have hkz : (i : Int) < (N : Int) := by omega
    have hi0 : (0 : Int) ≤ (i : Int) := by omega
    have hk0 : (0 : Int) ≤ (k : Int) := by omega
    have hkn : (k : Int) < (N : Int) := by have := hik.out; omega
    have ek : (i : Int) - 1 = (k : Int) := by have := hik.out; omega
    obtain ⟨x, hx⟩ := get_lt (xs := xs) (k := k) (by rw [HN.out]; omega)
    obtain ⟨y, hy⟩ := get_lt (xs := xs) (k := i) (by rw [HN.out]; omega)
    obtain ⟨x0, x1, -⟩ := elemT HO.out hx
    obtain ⟨y0, y1, -⟩ := elemT HO.out hy
    have HX := Lib.hid hx
    have HY := Lib.hid hy
    rw [hik.out] at HY
    clear hx hy
    have hq := fun W => eqTerm.1 y x W
    rw [teq_eq] at hq
    simp only [encT] at hq
    cases e9 : decide (x = y)
    case false =>
     rw [e9] at hq
     have HF : Hid (Upto1 xs (k + 1)) := upto_step hf.out HX.out HY.out (of_decide_eq_false e9)
     clear hf e9
     go_wp2
     go_quiet (fail)
     go_wp2
     go_roundw
     case rel => exact ⟨i + 1, k + 1, by omega, by go_num, by have := hik.out; show _ = _; omega, ⟨_, rfl⟩, HF⟩
     case measure => simp [intOf]; omega
    case true =>
     rw [e9] at hq
     have HS : Hid (Seen1 xs xs i i) := by show Seen1 _ _ _ _; rw [hik.out]; exact seen_start hf.out HX.out HY.out (of_decide_eq_true e9)
     clear hf e9
     obtain ⟨L, hL⟩ : ∃ L, N - i = L := ⟨_, rfl⟩
     obtain ⟨D, hD⟩ : ∃ D, c - i = D := ⟨_, rfl⟩
     have HLH := Lib.hid hL
     have HDH := Lib.hid hD
     have hic : i ≤ c := by omega
     have hNc : N ≤ c := by omega
     have hLm : L ≤ 9223372036854775807 := by omega
     go_wp2
     go_quiet (fail)
     go_wp2
     clear hq hL hD HX HY x0 x1 y0 y1 ek hkn hkz
     go_loopw [3, 5] (fun kv jv wr => ∃ (q j m : Nat) (ys : List Term), kv = .int .i64 q ∧ jv = .int .i64 j ∧ q ≤ m ∧ j ≤ L ∧ Hid (j = (m - i) + 1) ∧ Hid (i ≤ m) ∧ Hid (Below B w wr ∧ Agree B (· = 60) w wr) ∧ Hid (OwnL B (· = 60) 60 wr (.slice (some ⟨g, 0, none⟩) N c) ys) ∧ Hid (Seen1 xs ys q m)) (fun _ jv _ => L - (intOf jv).toNat)
     case atStart =>
      refine ⟨i, 1, i, xs, rfl, rfl, Nat.le_refl _, by have := HLH.out; omega, by show _ = _; omega, Nat.le_refl _, ?_, ?_, HS⟩
      ·show Below _ _ _ ∧ Agree _ _ _ _
       exact ⟨(by repeat (first | exact zR _ _ | assumption | refine zN ?_ _ | refine zD ?_ | refine zA ?_ ?_ _ | refine zS ?_ ?_ _ | refine zT ?_ (zM (by assumption) ?_) | exact Nat.le_refl _ | (simp <;> omega) | omega)), Agree.of_below (by repeat (first | exact zR _ _ | assumption | refine zN ?_ _ | refine zD ?_ | refine zA ?_ ?_ _ | refine zS ?_ ?_ _ | refine zT ?_ (zM (by assumption) ?_) | exact Nat.le_refl _ | (simp <;> omega) | omega))⟩
      ·show OwnL _ _ _ _ _ _
       exact HO.out.below (by repeat (first | exact zR _ _ | assumption | refine zN ?_ _ | refine zD ?_ | refine zA ?_ ?_ _ | refine zS ?_ ?_ _ | refine zT ?_ (zM (by assumption) ?_) | exact Nat.le_refl _ | (simp <;> omega) | omega))
     case round =>
      obtain ⟨q, j, m, ys, rfl, rfl, hqm, hjL, hjm, him, HB, HO2, HS⟩ := hrel
      by_cases hlt : j < L
      ·have hltz : (j : Int) < (L : Int) := by omega
       have hj0 : (0 : Int) ≤ (j : Int) := by omega
       obtain ⟨p, hp⟩ : ∃ p, m - i = p := ⟨_, rfl⟩
       have hmp : m = i + p := by have := him.out; omega
       have hjp : j = p + 1 := by have := hjm.out; omega
       have hp0 : (0 : Int) ≤ (p : Int) := by omega
       have hpn : (p : Int) < (L : Int) := by omega
       have ej : (j : Int) - 1 = (p : Int) := by omega
       have hpm : p ≤ 9223372036854775807 := by omega
       have HP := Lib.hid hp
       have HMP := Lib.hid hmp
       have HJP := Lib.hid hjp
       clear hp hmp hjp
       obtain ⟨x, hx⟩ := get_lt (xs := xs) (k := m) (by rw [HN.out]; have := HLH.out; have := HMP.out; have := HJP.out; omega)
       obtain ⟨y, hy⟩ := get_lt (xs := xs) (k := m + 1) (by rw [HN.out]; have := HLH.out; have := HMP.out; have := HJP.out; omega)
       have hx' : ys[m]? = some x := by rw [seen_at HS.out (Nat.le_refl _)]; exact hx
       have hy' : ys[m + 1]? = some y := by rw [seen_at HS.out (by omega)]; exact hy
       obtain ⟨x0, x1, -⟩ := elemT HO2.out hx'
       obtain ⟨y0, y1, -, -, -, hys⟩ := elemT HO2.out hy'
       have HX := Lib.hid hx
       have HY := Lib.hid hy
       have HYS := Lib.hid hys
       rw [show m * 2 = i * 2 + p * 2 by have := HMP.out; omega] at x0 x1
       rw [show (m + 1) * 2 = i * 2 + j * 2 by have := HMP.out; have := HJP.out; omega] at y0 y1
       clear hx hy hx' hy' hys
       have hq := fun W => neqTerm y x W
       cases e9 : decide (y = x)
       case true =>
        rw [e9] at hq
        have HS2 : Hid (Seen1 xs ys q (m + 1)) := seen_skip HS.out HX.out HY.out (of_decide_eq_true e9).symm
        clear e9
        go_wp2
        go_quiet (fail)
        go_wp2
        go_roundw
        case rel =>
         refine ⟨q, j + 1, m + 1, ys, rfl, by go_num, by omega, by omega, by have := hjm.out; have := him.out; show _ = _; omega, by have := him.out; show _ ≤ _; omega, ?_, ?_, HS2⟩
         ·show Below _ _ _ ∧ Agree _ _ _ _
          exact ⟨HB.out.1.trans (by repeat (first | exact zR _ _ | assumption | refine zN ?_ _ | refine zD ?_ | refine zA ?_ ?_ _ | refine zS ?_ ?_ _ | refine zT ?_ (zM (by assumption) ?_) | exact Nat.le_refl _ | (simp <;> omega) | omega)), HB.out.2.trans (Agree.of_below (by repeat (first | exact zR _ _ | assumption | refine zN ?_ _ | refine zD ?_ | refine zA ?_ ?_ _ | refine zS ?_ ?_ _ | refine zT ?_ (zM (by assumption) ?_) | exact Nat.le_refl _ | (simp <;> omega) | omega)))⟩
         ·show OwnL _ _ _ _ _ _
          exact HO2.out.below (by repeat (first | exact zR _ _ | assumption | refine zN ?_ _ | refine zD ?_ | refine zA ?_ ?_ _ | refine zS ?_ ?_ _ | refine zT ?_ (zM (by assumption) ?_) | exact Nat.le_refl _ | (simp <;> omega) | omega))
        case measure => simp [intOf]; omega
       case false =>
        rw [e9] at hq
        have HE := Lib.hid (show ¬ x = y from fun h => of_decide_eq_false e9 h.symm)
        clear e9
        obtain ⟨u, hu⟩ := get_lt (xs := ys) (k := q) (by rw [HS.out.2.2]; have := lt_get HX.out; omega)
        obtain ⟨u0, u1, f0, f1, -⟩ := elemT HO2.out hu
        have hq0 : (0 : Int) ≤ (q : Int) := by omega
        have hqn : (q : Int) < (N : Int) := by have := lt_get HX.out; have := HN.out; omega
        clear hu
        go_wp2
        go_quiet (fail)
        go_wp2
        go_roundw
        case rel =>
         have HO3 : ∀ n, OwnL B (· = 60) 60 (wr.drewN n) (.slice (some ⟨g, 0, none⟩) N c) ys := fun n => HO2.out.below (by repeat (first | exact zR _ _ | assumption | refine zN ?_ _ | refine zD ?_ | refine zA ?_ ?_ _ | refine zS ?_ ?_ _ | refine zT ?_ (zM (by assumption) ?_) | exact Nat.le_refl _ | (simp <;> omega) | omega))
         have HB3 : ∀ n, Below B w (wr.drewN n) := fun n => HB.out.1.trans (by repeat (first | exact zR _ _ | assumption | refine zN ?_ _ | refine zD ?_ | refine zA ?_ ?_ _ | refine zS ?_ ?_ _ | refine zT ?_ (zM (by assumption) ?_) | exact Nat.le_refl _ | (simp <;> omega) | omega))
         have HK3 : ∀ n, Agree B (· = 60) w (wr.drewN n) := fun n => HB.out.2.trans (Agree.of_below (by repeat (first | exact zR _ _ | assumption | refine zN ?_ _ | refine zD ?_ | refine zA ?_ ?_ _ | refine zS ?_ ?_ _ | refine zT ?_ (zM (by assumption) ?_) | exact Nat.le_refl _ | (simp <;> omega) | omega)))
         refine ⟨q + 1, j + 1, m + 1, ys.set q y, by go_num, by go_num, by omega, by omega, by have := hjm.out; have := him.out; show _ = _; omega, by have := him.out; show _ ≤ _; omega, ⟨below_setCellsO hg0 [.string y.license, .string y.exception] (q * 2) w _ (HB3 _), ag_set hg0 (HK3 _) (HO3 _) (q * 2) [.string y.license, .string y.exception] rfl⟩, (HO3 _).put rfl (i := q) (y := [.string y.license, .string y.exception]) (x := y) (by rw [HS.out.2.2]; have := HN.out; omega) rfl (fun w' hA => HYS.out w' ((Agree.of_below (by repeat (first | exact zR _ _ | assumption | refine zN ?_ _ | refine zD ?_ | refine zA ?_ ?_ _ | refine zS ?_ ?_ _ | refine zT ?_ (zM (by assumption) ?_) | exact Nat.le_refl _ | (simp <;> omega) | omega))).trans hA)), seen_put HS.out HX.out HY.out HE.out (by omega)⟩
        case measure => simp [intOf]; omega
      ·have hltz : ¬ (j : Int) < (L : Int) := by omega
       obtain ⟨x, hx⟩ := get_lt (xs := xs) (k := m) (by have := HLH.out; have := hjm.out; have := him.out; have := HN.out; omega)
       have HC : Hid (compact xs = ys.take q) := seen_last HS.out hx (by have := HLH.out; have := hjm.out; have := him.out; have := HN.out; omega)
       have hqN : q < N := by have := lt_get hx; have := HN.out; omega
       have hYN : ys.length = N := HS.out.2.2.trans HN.out
       have HYN := Lib.hid hYN
       clear hx hYN
       obtain ⟨zs, hzs⟩ : ∃ zs, (Builtin.zeroCells tmV0.cells (N - q)).toList = zs := ⟨_, rfl⟩
       have hzl : zs.length = (N - q) * 2 := by rw [← hzs, zeroCells_len]; rfl
       have hzo : ∀ v ∈ zs, v.oneCell' = true := fun v hv => zeroCells_mem (z := tmV0.cells) (by decide) (by intro v hv; simp [tmV0, Value.cells] at hv; rcases hv with rfl | rfl <;> rfl) (by rw [hzs]; exact hv)
       have hcu : ∀ r, r < zs.length → ∃ z, wr.cell? ⟨g, q * 2 + r, none⟩ = some z ∧ wr.frozen? ⟨g, q * 2 + r, none⟩ = false := fun r hr => by
        obtain ⟨u, hu⟩ := get_lt (xs := ys) (k := q + r / 2) (by rw [HYN.out]; rw [hzl] at hr; omega)
        obtain ⟨_, yu, he, -, -, -, hul, hucell, -, -⟩ := HO2.out.elem hu
        cases he
        obtain ⟨z, hz⟩ := get_lt (xs := yu) (k := r % 2) (by rw [hul]; exact Nat.mod_lt _ (by decide))
        have := hucell _ z hz
        rw [show (q + r / 2) * Lay.n Term + r % 2 = q * 2 + r by show (q + r / 2) * 2 + r % 2 = _; omega] at this
        exact ⟨z, this⟩
       have hclear : ∀ ty, (Builtin.clear_ #[38] ty #[.slice (some ⟨g, q * 2, none⟩) (N - q) (c - q)]).run Tryz.prog wr = .ok (.tuple #[]) (wr.setCells g (q * 2) zs) := fun ty =>
        run_clear_k wr 38 60 ty tmV0 Tryz.underlying38 zeroTm zs g (q * 2) (N - q) (c - q) (by omega) hzs hzo (fun r hr => by obtain ⟨z, h1, -⟩ := hcu r hr; rw [h1]; rfl) (fun r hr => by obtain ⟨z, -, h2⟩ := hcu r hr; exact h2)
       have HCUT := Lib.hid (HO2.out.cut rfl (m := q) (by rw [HYN.out]; omega) zs (by rw [hzl, HYN.out]; show q * 2 + _ ≤ N * 2; omega))
       have HBS := Lib.hid (And.intro (below_setCellsO hg0 zs (q * 2) w wr HB.out.1) (ag_set hg0 HB.out.2 HO2.out (q * 2) zs rfl))
       clear hcu hzo hzl hzs
       go_wp2_with fail
       go_ret
       refine ⟨_, rfl, ?_, HBS.out⟩
       rw [HC.out]
       exact HCUT.out
   ·have hkz : ¬ (i : Int) < (N : Int) := by omega
    have HC : Hid (compact xs = xs) := by
     obtain ⟨x, hx⟩ := get_lt (xs := xs) (k := k) (by have := hik.out; have := HN.out; omega)
     exact upto_last hf.out hx (by have := hik.out; have := HN.out; omega)
    go_wp2
    go_ret
    refine ⟨_, rfl, ?_, (by repeat (first | exact zR _ _ | assumption | refine zN ?_ _ | refine zD ?_ | refine zA ?_ ?_ _ | refine zS ?_ ?_ _ | refine zT ?_ (zM (by assumption) ?_) | exact Nat.le_refl _ | (simp <;> omega) | omega)), Agree.of_below (by repeat (first | exact zR _ _ | assumption | refine zN ?_ _ | refine zD ?_ | refine zA ?_ ?_ _ | refine zS ?_ ?_ _ | refine zT ?_ (zM (by assumption) ?_) | exact Nat.le_refl _ | (simp <;> omega) | omega))⟩
    rw [HC.out]; exact HO.out.below (by repeat (first | exact zR _ _ | assumption | refine zN ?_ _ | refine zD ?_ | refine zA ?_ ?_ _ | refine zS ?_ ?_ _ | refine zT ?_ (zM (by assumption) ?_) | exact Nat.le_refl _ | (simp <;> omega) | omega))
set_option maxRecDepth 100000 in
theorem CompactX_p {B : Nat} {w : World} {v : Value} {xs : List Term} (h : RowT B w v xs) :
  Calls Tryz.prog 91 #[v] w fun e w' => ∃ v', e = .returned v' ∧ RowT B w' v' (compact xs) ∧ Below B w w' ∧ Agree B (· = 60) w w' :=
 (CompactX_o (h.own _)).mono fun _ _ ⟨v', he, h1, h2⟩ => ⟨v', he, ownT_row h1, h2⟩
end Go.Proofs.YtaaobpicaaeiiaaGreatDoor
namespace Go.Proofs.YtaaobpicaaeiiaaGreatDoor
open Go Go.RowKit Go.ChangeShapes Go.Lib

set_option maxRecDepth 100000 in
set_option maxHeartbeats 1000000 in
theorem IndexFuncExpr (w : World) (v : Value) (xs : List (LExpr)) (p : LExpr → Bool) (g : Nat) (lb : Array Value) (eg : ∀ args w, (callFunc g args).run Tryz.prog w = .ok (.enter g args) w) (hv : Is w v xs) (hp : PredL Tryz.prog g lb p w xs) :
  Calls Tryz.prog 145 #[v, .func (.func g) #[] lb] w fun e w' => e = .returned (.int .i64 (idxP p xs)) ∧ Below w.heap.size w w' := by
 obtain ⟨a, c, rfl, hnc, hcm, hr⟩ := list_inv hv
 simp only [maxLen] at hcm
 have HR := Lib.hid hr
 have HP := Lib.hid hp
 clear hr hv hp
 generalize hN : xs.length = N at *
 have HN := Lib.hid hN
 clear hN
 go_enter Tryz.func145, Tryz.ntmps145
 go_wp2
 go_loopw [4, 5, 8] (fun _ _ kv wr => ∃ k : Nat, k ≤ N ∧ kv = .int .i64 k ∧ Hid (Below w.heap.size w wr) ∧ Hid ((xs.take k).any p = false)) (fun _ _ kv _ => N - (intOf kv).toNat)
 case atStart => exact ⟨0, by omega, rfl, Below.refl _ _, rfl⟩
 case round =>
  obtain ⟨k, hk, rfl, HBR, HK⟩ := hrel
  have hwr : w.heap.size ≤ wr.heap.size := HBR.out.size
  by_cases hki : k < N
  ·have hkz : (k : Int) < (N : Int) := by omega
   obtain ⟨x, hx⟩ := get_lt (xs := xs) (k := k) (by rw [HN.out]; exact hki)
   obtain ⟨k1, n1, x1, ks1, hxe⟩ := LExpr.eta x
   have hx' := hx
   rw [hxe] at hx'
   obtain ⟨b, off, rfl, hb, a3, c3, y0', y1', y2', y3', i0, s1, s2, l3, m3, r3⟩ := LExpr.at_row HR.out hx'
   have y0 := kept HBR.out y0'
   have y1 := kept HBR.out y1'
   have y2 := kept HBR.out y2'
   have y3 := kept HBR.out y3'
   have hbs : b < wr.heap.size := cell_lt y0
   have HX := Lib.hid hx
   have hcall := HP.out k x hx wr (.agg #[.int .i64 k1, .string n1, .string x1, .slice a3 ks1.length c3]) HBR.out (by rw [hxe]; exact LExpr.mk' i0 s1 s2 l3 m3 (r3.mono HBR.out))
   clear y0' y1' y2' y3' hx hx' hxe
   cases q : p x
   case true =>
    have HQ := Lib.hid q
    rw [q] at hcall
    clear q
    go_wp2_with fail
    refine hcall.mono ?_
    rintro e w2 ⟨rfl, hb2⟩
    have HB3 := Lib.hid (HBR.out.trans (hb2.mono hwr))
    clear hb2 hcall
    go_wp2
    go_ret
    exact ⟨ret_i (idxP_hit HX.out HQ.out HK.out).symm, HB3.out⟩
   case false =>
    have HQ := Lib.hid q
    rw [q] at hcall
    clear q
    go_wp2_with fail
    refine hcall.mono ?_
    rintro e w2 ⟨rfl, hb2⟩
    have HB3 := Lib.hid (HBR.out.trans (hb2.mono hwr))
    clear hb2 hcall
    go_wp2
    go_roundw
    case rel =>
     refine ⟨k + 1, by omega, by go_num, HB3, ?_⟩
     show _ = _
     rw [any_snoc p HX.out, HK.out, HQ.out]; rfl
    case measure => simp [intOf]; omega
  ·have hkz : ¬ (k : Int) < (N : Int) := by omega
   obtain rfl : k = N := by omega
   have HM : Hid (xs.any p = false) := by
    have := HK.out
    rw [List.take_of_length_le (by rw [HN.out]; exact Nat.le_refl _)] at this; exact this
   go_wp2
   go_ret
   exact ⟨ret_i (idxP_miss HM.out).symm, HBR.out⟩
set_option maxRecDepth 100000 in
theorem ContainsFuncExpr (w : World) (v : Value) (xs : List (LExpr)) (p : LExpr → Bool) (g : Nat) (lb : Array Value) (eg : ∀ args w, (callFunc g args).run Tryz.prog w = .ok (.enter g args) w) (hv : Is w v xs) (hp : PredL Tryz.prog g lb p w xs) :
  Calls Tryz.prog 95 #[v, .func (.func g) #[] lb] w fun e w' => e = .returned (.bool (xs.any p)) ∧ Below w.heap.size w w' := by
 have h1 := IndexFuncExpr w v xs p g lb eg hv hp
 have h2 := Lib.hid (idxP_any p xs)
 generalize idxP p xs = r at h1 h2
 generalize xs.any p = bb at h2 ⊢
 clear hv hp
 go_enter Tryz.func95, Tryz.ntmps95
 go_wp2_with fail
 refine h1.mono ?_
 rintro e w2 ⟨rfl, hb2⟩
 go_wp2
 go_ret
 exact ⟨ret_b h2.out, hb2⟩
end Go.Proofs.YtaaobpicaaeiiaaGreatDoor
namespace Go.Proofs.YtaaobpicaaeiiaaGreatDoor
open Go Go.RowKit Go.ChangeShapes Go.Lib Go.Shelf
attribute [local go_sem] Oper.semAt_some

def KvS (lo : Nat) (M : Nat → Prop) (W W' : World) : Prop := W.heap.size ≤ W'.heap.size ∧ ∀ k cs t fr, ¬ M k → (k < lo ∨ t ≠ 60) → W.heap[k]? = some (.cells cs t fr) → W'.heap[k]? = some (.cells cs t fr)
theorem KvS.refl (lo : Nat) (M : Nat → Prop) (W : World) : KvS lo M W W := ⟨Nat.le_refl _, fun _ _ _ _ _ _ h => h⟩
theorem KvS.trans {lo : Nat} {M : Nat → Prop} {A B C : World} (h : KvS lo M A B) (k : KvS lo M B C) : KvS lo M A C := ⟨Nat.le_trans h.1 k.1, fun i cs t fr hm hv hc => k.2 i cs t fr hm hv (h.2 i cs t fr hm hv hc)⟩
theorem KvS.of_kv {lo : Nat} {M : Nat → Prop} {W W' : World} (h : Kv M W W') : KvS lo M W W' := ⟨h.1, fun k cs t fr hm _ hc => h.2 k cs t fr hm hc⟩
theorem KvS.of_below {lo : Nat} {M : Nat → Prop} {W W' : World} (h : Below W.heap.size W W') : KvS lo M W W' := KvS.of_kv (Kv.of_below h)
theorem KvS.b {lo : Nat} {M : Nat → Prop} {n : Nat} (W : World) (l : Nat) (o o' : Obj) (hn : n ≤ l) (h : W.heap[l]? = some o) (hc : o.isCells = false) (hw : o.isWalk = false) : KvS lo M W (W.putObj l o') := KvS.of_kv (Kv.b W l o o' hn h hc hw)
theorem KvS.cell {lo : Nat} {M : Nat → Prop} {W W' : World} (h : KvS lo M W W') {a : Addr} {v : Value} (hm : ¬ M a.block) (hv : a.block < lo) (hc : W.cell? a = some v) : W'.cell? a = some v := by
 obtain ⟨cs, t, fr, e⟩ := cell_blk hc
 have e2 := h.2 _ _ _ _ hm (Or.inl hv) e
 unfold World.cell? at hc ⊢
 rw [e] at hc; rw [e2]; exact hc
def VstS (w : World) (gv B : Nat) (W : World) : Prop := (∀ a v, w.cell? a = some v → W.cell? a = some v) ∧ W.heap[gv]? = some (.cells #[(.func (.func 138) #[] #[.pointer (some ⟨gv, 0, none⟩)])] 157 (0, 0)) ∧ B ≤ W.heap.size
theorem VstS.kvS {w W W' : World} {gv B : Nat} {M : Nat → Prop} (h : VstS w gv B W) (hM : ∀ k, M k → w.heap.size ≤ k) (hg : ¬ M gv) (hk : KvS w.heap.size M W W') : VstS w gv B W' :=
 ⟨fun a v hc => hk.cell (fun hm => by have := hM _ hm; have := cell_lt hc; omega) (cell_lt hc) (h.1 a v hc), hk.2 _ _ _ _ hg (Or.inr (by decide)) h.2.1, Nat.le_trans h.2.2 hk.1⟩
set_option maxRecDepth 100000 in
set_option maxHeartbeats 4000000 in
theorem visit_stepS (w : World) (l gv B N : Nat) (M : Nat → Prop) (hM : ∀ k, M k → w.heap.size ≤ k ∧ k < B) (hgv : ¬ M gv) (J Jx : List (AtE w) → World → Prop) (hJ : AbidesFrom B J)
  (hY : ∀ (m : Nat) pre x W1, J pre W1 → pre.length < N → YieldAt Fence.wide m Tryz.prog l #[x.1.1] W1 fun e W' => (e = .returned (.bool true) ∧ J (pre ++ [x]) W' ∧ KvS w.heap.size M W1 W') ∨ (e = .returned (.bool false) ∧ Jx (pre ++ [x]) W'))
  (k0 : Int) (n0 x0 : ByteArray) (ks : List LExpr)
  (ih : ∀ y ∈ ks, ∀ (n : Nat) (v : Value) (pre : List (AtE w)) (W1 : World), Is w v y → J pre W1 → VstS w gv B W1 → pre.length + sizeE y ≤ N →
   CallsIn Fence.wide n Tryz.prog 138 #[v, .func (.yield l) #[] #[], .pointer (some ⟨gv, 0, none⟩)] W1 fun e' W2 =>
    (e' = .returned (.bool true) ∧ ∃ zs : List (AtE w), zs.map (·.1.2) = nodesE y ∧ J (pre ++ zs) W2 ∧ KvS w.heap.size M W1 W2) ∨ (e' = .returned (.bool false) ∧ ∃ zs : List (AtE w), zs.map (·.1.2) <+: nodesE y ∧ Jx (pre ++ zs) W2))
  (n : Nat) (v : Value) (pre : List (AtE w)) (W1 : World) (h : Is w v (LExpr.mk k0 n0 x0 ks)) (hJ1 : J pre W1) (hV : VstS w gv B W1) (hlen : pre.length + sizeE (LExpr.mk k0 n0 x0 ks) ≤ N) :
  CallsIn Fence.wide n Tryz.prog 138 #[v, .func (.yield l) #[] #[], .pointer (some ⟨gv, 0, none⟩)] W1 fun e' W2 =>
   (e' = .returned (.bool true) ∧ ∃ zs : List (AtE w), zs.map (·.1.2) = nodesE (LExpr.mk k0 n0 x0 ks) ∧ J (pre ++ zs) W2 ∧ KvS w.heap.size M W1 W2) ∨ (e' = .returned (.bool false) ∧ ∃ zs : List (AtE w), zs.map (·.1.2) <+: nodesE (LExpr.mk k0 n0 x0 ks) ∧ Jx (pre ++ zs) W2) := by
 have HI := Lib.hid h
 obtain ⟨a, c, rfl, -, -, -, hnc, hcm, hr⟩ := LExpr.inv h
 simp only [maxLen] at hcm
 have HR := Lib.hid hr
 have HIH := Lib.hid ih
 have HLEN := Lib.hid hlen
 have HM := Lib.hid hM
 have HGV := Lib.hid hgv
 have HV := Lib.hid hV
 have HJA := Lib.hid hJ
 have hdd : ∀ k : Nat, (Fence.wide.depth.isSome = true → 1 ≤ k) := fun k h => by cases h
 have hal : ∀ (W : World) (o : Obj) pre, B ≤ W.heap.size → J pre W → J pre (W.alloc o) := fun W o pre hB hj => hJ pre W _ none hj (grown_below ((Below.refl _ _).alloc (Nat.le_refl _) _)) (fun r e => by cases e)
 have HAL := Lib.hid hal
 have hy1 := hY (n - 1) pre ⟨(.agg #[.int .i64 k0, .string n0, .string x0, .slice a ks.length c], LExpr.mk k0 n0 x0 ks), h⟩ (W1.alloc (.cells #[.int .i64 k0, .string n0, .string x0, .slice a ks.length c] 30)) (hal W1 _ pre hV.2.2 hJ1) (by rw [sizeE] at hlen; omega)
 obtain ⟨fn, tmps, assign, body, hy, hR⟩ := hy1
 have bx := World.alloc_heap_new W1 (.cells #[.int .i64 k0, .string n0, .string x0, .slice a ks.length c] 30)
 have HBX := Lib.hid bx
 have hKa : KvS w.heap.size M W1 (W1.alloc (.cells #[.int .i64 k0, .string n0, .string x0, .slice a ks.length c] 30)) := KvS.of_below ((Below.refl _ _).alloc (Nat.le_refl _) _)
 have HKA := Lib.hid hKa
 have HMB : Hid (¬ M W1.heap.size) := fun hm => by have := (hM _ hm).2; have := hV.2.2; omega
 clear hr ih hlen hM hgv hV hJ hal bx hKa hJ1 hY
 generalize hK : ks.length = K at *
 have HK := Lib.hid hK
 clear hK
 refine callsIn_of_wp Tryz.func138 rfl trivial ?_ rfl
 simp only [Tryz.ntmps138, List.size_toArray, List.length_cons, List.length_nil, Nat.reduceAdd, Nat.reduceSub, Array.replicate_succ, Array.replicate_zero, List.push_toArray, List.append_toArray, List.nil_append, List.cons_append]
 gi_wp2_with ((try refine ⟨hdd _, ?_⟩); refine hR.mono ?_; clear hR; rintro e W2 (⟨rfl, hJ2, hk2⟩ | ⟨rfl, hx2⟩); (try have c3 := objcell (hk2.2 _ _ _ _ HMB.out (Or.inr (by decide)) HBX.out) (j := 3) rfl); (try have hsb := cell_lt c3))
 ·have HKV2 : Hid (KvS w.heap.size M W1 W2) := HKA.out.trans hk2
  have HJ2 := Lib.hid hJ2
  clear hk2 hJ2 c3 hsb
  gi_loopw [15] (fun kv wr => ∃ (k : Nat) (zs : List (AtE w)), k ≤ K ∧ kv = .int .i64 k ∧ Hid (zs.map (·.1.2) = LExpr.mk k0 n0 x0 ks :: nodesKs (ks.take k)) ∧ Hid (J (pre ++ zs) wr) ∧ Hid (KvS w.heap.size M W1 wr)) (fun kv _ => K - (intOf kv).toNat)
  case atStart => exact ⟨0, [⟨(.agg #[.int .i64 k0, .string n0, .string x0, .slice a K c], LExpr.mk k0 n0 x0 ks), HI.out⟩], by omega, rfl, rfl, HJ2.out, HKV2⟩
  case round =>
   obtain ⟨k, zs, hk, rfl, HZ, HJr, HKr⟩ := hrel
   clear HJ2 HKV2
   have HVr := Lib.hid (HV.out.kvS (fun k h => (HM.out k h).1) HGV.out HKr.out)
   by_cases hki : k < K
   ·have hkz : (k : Int) < (K : Int) := by omega
    obtain ⟨y, hy0⟩ := get_lt (xs := ks) (k := k) (by rw [HK.out]; exact hki)
    obtain ⟨k1, n1, x1, ks1⟩ := y
    obtain ⟨b, off, rfl, hb, a3, c3, y0', y1', y2', y3', i0, s1, s2, l3, m3, r3⟩ := LExpr.at_row HR.out hy0
    have y0 := HVr.out.1 _ _ y0'
    have y1 := HVr.out.1 _ _ y1'
    have y2 := HVr.out.1 _ _ y2'
    have y3 := HVr.out.1 _ _ y3'
    have g1 := objcell HVr.out.2.1 (j := 0) rfl
    have hsb := cell_lt y0
    have hsg : gv < wr.heap.size := cell_lt g1
    have hmem : LExpr.mk k1 n1 x1 ks1 ∈ ks := List.mem_of_getElem? hy0
    have HS : Hid (nodesKs (ks.take (k + 1)) = nodesKs (ks.take k) ++ nodesE (LExpr.mk k1 n1 x1 ks1)) := by show _ = _; rw [take_at hy0, nodesKs_snoc]
    have hlen2 : (pre ++ zs).length + sizeE (LExpr.mk k1 n1 x1 ks1) ≤ N := by
     have h1 := congrArg List.length HZ.out
     rw [List.length_map, List.length_cons, nodesKs_length] at h1
     have h2 := HLEN.out
     rw [sizeE] at h2
     have h3 : sizeKs (ks.take (k + 1)) ≤ sizeKs ks := sizeKs_take ks (k + 1)
     have h4 := congrArg List.length HS.out
     rw [List.length_append, nodesKs_length, nodesKs_length, nodes_length] at h4
     rw [List.length_append]; omega
    have hwb : VstS w gv B (wr.alloc (.cells #[.int .i64 k1, .string n1, .string x1, .slice a3 ks1.length c3] 30)) := HVr.out.kvS (M := M) (fun k h => (HM.out k h).1) HGV.out (KvS.of_below ((Below.refl _ _).alloc (Nat.le_refl _) _))
    have hih := HIH.out _ hmem (n - 1) (.agg #[.int .i64 k1, .string n1, .string x1, .slice a3 ks1.length c3]) (pre ++ zs) (wr.alloc (.cells #[.int .i64 k1, .string n1, .string x1, .slice a3 ks1.length c3] 30)) (LExpr.mk' i0 s1 s2 l3 m3 r3) (HAL.out wr _ _ HVr.out.2.2 HJr.out) hwb hlen2
    have HKb : Hid (KvS w.heap.size M W1 (wr.alloc (.cells #[.int .i64 k1, .string n1, .string x1, .slice a3 ks1.length c3] 30))) := HKr.out.trans (KvS.of_below ((Below.refl _ _).alloc (Nat.le_refl _) _))
    clear hy0 y0' y1' y2' y3' r3 hmem hlen2 hwb
    generalize ks1.length = L1 at *
    gi_wp2_with (refine ⟨trivial, hdd _, ?_⟩; gi_at_call 138; refine hih.mono ?_; clear hih; rintro e W3 (⟨rfl, zs2, hz2, hJ3, hk3⟩ | ⟨rfl, zs2, hz2, hx3⟩))
    ·have HK3 : Hid (KvS w.heap.size M W1 W3) := HKb.out.trans hk3
     go_roundw
     case rel => exact ⟨k + 1, zs ++ zs2, by omega, by go_num, by show _ = _; rw [List.map_append, HZ.out, hz2, HS.out]; rfl, by show J _ _; rw [← List.append_assoc]; exact hJ3, HK3⟩
     case measure => simp [intOf]; omega
    ·go_ret
     refine .inr ⟨rfl, zs ++ zs2, ?_, by rw [← List.append_assoc]; exact hx3⟩
     rw [List.map_append, HZ.out, nodesE, List.cons_append]
     refine List.cons_prefix_cons.2 ⟨rfl, ?_⟩
     refine ((List.prefix_append_right_inj _).2 hz2).trans ?_
     rw [← HS.out]
     exact nodesKs_take (k + 1)
   ·have hkz : ¬ (k : Int) < (K : Int) := by omega
    gi_wp2
    go_ret
    refine .inl ⟨rfl, zs, ?_, HJr.out, HKr.out⟩
    rw [HZ.out, List.take_of_length_le (by rw [HK.out]; omega), nodesE]
 ·go_ret
  exact .inr ⟨rfl, [⟨(.agg #[.int .i64 k0, .string n0, .string x0, .slice a K c], LExpr.mk k0 n0 x0 ks), HI.out⟩], by rw [nodesE]; exact List.cons_prefix_cons.2 ⟨rfl, List.nil_prefix⟩, hx2⟩
theorem visit_inS (w : World) (l gv B N : Nat) (M : Nat → Prop) (hM : ∀ k, M k → w.heap.size ≤ k ∧ k < B) (hgv : ¬ M gv) (J Jx : List (AtE w) → World → Prop) (hJ : AbidesFrom B J)
  (hY : ∀ (m : Nat) pre x W1, J pre W1 → pre.length < N → YieldAt Fence.wide m Tryz.prog l #[x.1.1] W1 fun e W' => (e = .returned (.bool true) ∧ J (pre ++ [x]) W' ∧ KvS w.heap.size M W1 W') ∨ (e = .returned (.bool false) ∧ Jx (pre ++ [x]) W')) (y : LExpr) :
  ∀ (n : Nat) (v : Value) (pre : List (AtE w)) (W1 : World), Is w v y → J pre W1 → VstS w gv B W1 → pre.length + sizeE y ≤ N →
   CallsIn Fence.wide n Tryz.prog 138 #[v, .func (.yield l) #[] #[], .pointer (some ⟨gv, 0, none⟩)] W1 fun e' W2 =>
    (e' = .returned (.bool true) ∧ ∃ zs : List (AtE w), zs.map (·.1.2) = nodesE y ∧ J (pre ++ zs) W2 ∧ KvS w.heap.size M W1 W2) ∨ (e' = .returned (.bool false) ∧ ∃ zs : List (AtE w), zs.map (·.1.2) <+: nodesE y ∧ Jx (pre ++ zs) W2) := by
 refine LExpr.ind (P := fun y => ∀ (n : Nat) (v : Value) (pre : List (AtE w)) (W1 : World), Is w v y → J pre W1 → VstS w gv B W1 → pre.length + sizeE y ≤ N →
   CallsIn Fence.wide n Tryz.prog 138 #[v, .func (.yield l) #[] #[], .pointer (some ⟨gv, 0, none⟩)] W1 fun e' W2 =>
    (e' = .returned (.bool true) ∧ ∃ zs : List (AtE w), zs.map (·.1.2) = nodesE y ∧ J (pre ++ zs) W2 ∧ KvS w.heap.size M W1 W2) ∨ (e' = .returned (.bool false) ∧ ∃ zs : List (AtE w), zs.map (·.1.2) <+: nodesE y ∧ Jx (pre ++ zs) W2)) (fun k n x ks ih => ?_) y
 exact visit_stepS w l gv B N M hM hgv J Jx hJ hY k n x ks ih
set_option maxRecDepth 100000 in
set_option maxHeartbeats 1000000 in
theorem nodes_stopsS (w W0 : World) (gv ge : Nat) (M : Nat → Prop) (hM : ∀ k, M k → w.heap.size ≤ k ∧ k < W0.heap.size) (hgv : ¬ M gv) (v : Value) (y : LExpr) (h : Is w v y) (hb : Below w.heap.size w W0)
  (hcv : W0.heap[gv]? = some (.cells #[(.func (.func 138) #[] #[.pointer (some ⟨gv, 0, none⟩)])] 157 (0, 0))) (hce : ∀ j u, v.cells[j]? = some u → W0.cell? ⟨ge, j, none⟩ = some u) :
  SeqStopsK Fence.wide (3 - 1) Tryz.prog 139 #[.pointer (some ⟨gv, 0, none⟩), .pointer (some ⟨ge, 0, none⟩)] (fun x : AtE w => #[x.1.1]) (KvS w.heap.size M) (fun zs => zs.map (·.1.2) = nodesE y) (fun pre => pre.map (·.1.2) <+: nodesE y) (sizeE y) W0 := by
 intro l J Jx W hW hJ _ hY h0
 have hV : VstS w gv W0.heap.size W := ⟨fun a u hc => by rw [hW.cell (Nat.lt_of_lt_of_le (cell_lt hc) hb.size)]; exact kept hb hc, (hW.block _ (heap_lt hcv)).trans hcv, hW.size⟩
 have hv := visit_inS w l gv W.heap.size (sizeE y) M (fun k hk => ⟨(hM k hk).1, Nat.lt_of_lt_of_le (hM k hk).2 hW.size⟩) hgv J Jx hJ (fun m pre x W1 hj hl => YieldAt_any m (hY pre x W1 hj hl)) y (2 - 1) v [] W h h0 ⟨hV.1, hV.2.1, Nat.le_refl _⟩ (by simp)
 obtain ⟨k0, n0, x0, ks⟩ := y
 obtain ⟨a, c, rfl, -⟩ := LExpr.inv h
 have e0 : W.cell? ⟨ge, 0, none⟩ = some (.int .i64 k0) := (hW.cell (p := ⟨ge, 0, none⟩) (cell_lt (hce 0 _ rfl))).trans (hce 0 _ rfl)
 have e1 : W.cell? ⟨ge, 1, none⟩ = some (.string n0) := (hW.cell (p := ⟨ge, 1, none⟩) (cell_lt (hce 1 _ rfl))).trans (hce 1 _ rfl)
 have e2 : W.cell? ⟨ge, 2, none⟩ = some (.string x0) := (hW.cell (p := ⟨ge, 2, none⟩) (cell_lt (hce 2 _ rfl))).trans (hce 2 _ rfl)
 have e3 : W.cell? ⟨ge, 3, none⟩ = some (.slice a ks.length c) := (hW.cell (p := ⟨ge, 3, none⟩) (cell_lt (hce 3 _ rfl))).trans (hce 3 _ rfl)
 have ev := objcell hV.2.1 (j := 0) rfl
 have hse := cell_lt e0
 have hsv := cell_lt ev
 clear hce hcv hY h0 h hV hW hb hM hgv
 generalize ks.length = K at *
 refine callsIn_of_wp Tryz.func139 rfl trivial ?_ rfl
 simp only [Tryz.ntmps139, List.size_toArray, List.length_cons, List.length_nil, Nat.reduceAdd, Nat.reduceSub, Array.replicate_succ, Array.replicate_zero, List.push_toArray, List.append_toArray, List.nil_append, List.cons_append]
 gi_wp2_with (refine ⟨trivial, ?_⟩; gi_at_call 138; refine hv.mono ?_; clear hv; rintro e W1 (⟨rfl, zs, hz, hJ1, _⟩ | ⟨rfl, zs, hz, hx⟩))
 ·go_end0
  exact ⟨⟨_, rfl⟩, .inl ⟨zs, hz, by simpa using hJ1⟩⟩
 ·go_end0
  exact ⟨⟨_, rfl⟩, .inr ⟨zs, hz, by simpa using hx⟩⟩
set_option maxRecDepth 100000 in
set_option maxHeartbeats 1000000 in
theorem nodes_pS (w : World) (k0 : Int) (n0 x0 : ByteArray) (a : Option Addr) (n c : Nat) :
  Calls Tryz.prog 87 #[.agg #[.int .i64 k0, .string n0, .string x0, .slice a n c]] w fun e w' => e = .returned (.func (.func 139) #[] #[.pointer (some ⟨w.heap.size + 1, 0, none⟩), .pointer (some ⟨w.heap.size, 0, none⟩)]) ∧
   Hid (Below w.heap.size w w' ∧ w'.heap.size = w.heap.size + 2 ∧ w'.heap[w.heap.size + 1]? = some (.cells #[(.func (.func 138) #[] #[.pointer (some ⟨w.heap.size + 1, 0, none⟩)])] 157 (0, 0)) ∧ ∀ j u, (Value.agg #[.int .i64 k0, .string n0, .string x0, .slice a n c]).cells[j]? = some u → w'.cell? ⟨w.heap.size, j, none⟩ = some u) := by
 go_enter Tryz.func87, Tryz.ntmps87
 go_wp2
 go_ret
 have b0 : ((w.alloc (.cells #[.int .i64 k0, .string n0, .string x0, .slice a n c] 30)).alloc (.cells #[(.func (.func 138) #[] #[.pointer (some ⟨w.heap.size + 1, 0, none⟩)])] 157)).heap[w.heap.size]? = some (.cells #[.int .i64 k0, .string n0, .string x0, .slice a n c] 30 (0, 0)) :=
  (Below.heap_alloc _ _ _ (by simp)).trans (World.alloc_heap_new w _)
 have b1 := Boxed.new (w.alloc (.cells #[.int .i64 k0, .string n0, .string x0, .slice a n c] 30)) 157 (.func (.func 138) #[] #[.pointer (some ⟨w.heap.size + 1, 0, none⟩)])
 simp only [World.size_alloc] at b1
 refine ⟨by simp, (by repeat (first | exact zR _ _ | assumption | refine zN ?_ _ | refine zD ?_ | refine zA ?_ ?_ _ | refine zS ?_ ?_ _ | refine zT ?_ (zM (by assumption) ?_) | exact Nat.le_refl _ | (simp <;> omega) | omega)), by simp, b1, fun j u hj => ?_⟩
 simp only [World.cell?, b0]
 simpa [Value.cells] using hj
end Go.Proofs.YtaaobpicaaeiiaaGreatDoor
namespace Go.Proofs.YtaaobpicaaeiiaaGreatDoor
open Go Go.RowKit Go.ChangeShapes Go.Sort Go.Lib

set_option maxRecDepth 100000 in
set_option maxHeartbeats 1000000 in
theorem Later_o (w : World) (x0 : Value) (c : Catalog) (nm : ByteArray) (hg : Glob w) (h : Is w x0 c) :
  Calls Tryz.prog 88 #[x0, .string nm] w fun e w' => ∃ s, e = .returned (.tuple #[s, .int .i64 (laterE c nm)]) ∧ (Is w' s ((laterC c nm).getD []) ∧ w'.ownsRow w.heap.size 9 1 s ((laterC c nm).getD []).length (((laterC c nm).getD []).map Value.string)) ∧ Below w.heap.size w w' := by
 have HI := Lib.hid h
 obtain ⟨a0, c0, a1, c1, a2, c2, a3, c3, rfl, l0, m0, r0, l1, m1, r1, l2, m2, r2, l3, m3, r3⟩ := Catalog.inv h
 have R0 := Lib.hid r0
 have n0 : c.licenses.length ≤ 9223372036854775807 := by simp only [maxLen] at m0; omega
 clear h r0 r1 r2 r3 m0 m1 m2 m3 l1 l2 l3 l0
 go_enter Tryz.func88, Tryz.ntmps88
 go_wp2_with fail
 refine (Find_p _ _ c _ (hg.mono (by repeat (first | exact zR _ _ | assumption | refine zN ?_ _ | refine zD ?_ | refine zA ?_ ?_ _ | refine zS ?_ ?_ _ | refine zT ?_ (zM (by assumption) ?_) | exact Nat.le_refl _ | (simp <;> omega) | omega))) (HI.out.mono (by repeat (first | exact zR _ _ | assumption | refine zN ?_ _ | refine zD ?_ | refine zA ?_ ?_ _ | refine zS ?_ ?_ _ | refine zT ?_ (zM (by assumption) ?_) | exact Nat.le_refl _ | (simp <;> omega) | omega)))).mono ?_
 rintro e w1 ⟨rfl, hb1⟩
 have d0 := kept hb1 (a := ⟨w.heap.size, 0, none⟩) (v := .slice a0 c.licenses.length c0) (by simp)
 have hbw : Below w.heap.size w w1 := (by repeat (first | exact zR _ _ | assumption | refine zN ?_ _ | refine zD ?_ | refine zA ?_ ?_ _ | refine zS ?_ ?_ _ | refine zT ?_ (zM (by assumption) ?_) | exact Nat.le_refl _ | (simp <;> omega) | omega))
 have HB1 := Lib.hid hbw
 have hz1 : w.heap.size < w1.heap.size := cell_lt d0
 clear hb1 hbw
 unfold licV
 cases q1 : findC c nm with
 | none =>
  have HF : Hid (laterC c nm = none) := by show _ = _; unfold laterC; rw [q1]; rfl
  have HE : Hid (laterE c nm = 7) := by show _ = _; unfold laterE; rw [q1]
  simp only [Option.isSome_none, Option.getD_none]
  go_wp2
  refine bodyPost_ret (v := .tuple #[.slice none 0 0, .int .i64 7]) (by simp [results, Tryz.results88, go_sem]) rfl ⟨.slice none 0 0, by rw [HE.out], by rw [HF.out]; exact ⟨nil_mk _, World.ownsRow_nil _ _ _ _⟩, by have hq := HB1.out; have hqs := hq.size; exact (by repeat (first | exact zR _ _ | assumption | refine zN ?_ _ | refine zD ?_ | refine zA ?_ ?_ _ | refine zS ?_ ?_ _ | refine zT ?_ (zM (by assumption) ?_) | exact Nat.le_refl _ | (simp <;> omega) | omega))⟩
 | some z =>
 simp only [Option.isSome_some, Option.getD_some]
 have HF : Hid (laterC c nm = some ((laterL c z).map License.name)) := by show _ = _; unfold laterC; rw [q1]; rfl
 have HE : Hid (laterE c nm = 0) := by show _ = _; unfold laterE; rw [q1]
 obtain ⟨hck, hlk⟩ := find_check q1
 have h32 : c.licenses.length ≤ 32 := (check_parts hck).2.2.2.2.1
 have HNE := Lib.hid (later_self hlk)
 have HND := Lib.hid (later_versions hck z)
 clear q1 hck hlk
 go_wp2
 have hbA : Below w1.heap.size w1 (w1.alloc (.cells #[.string z.name, .string z.family, .int .i64 z.version, .string z.text] 117)) := (by repeat (first | exact zR _ _ | assumption | refine zN ?_ _ | refine zD ?_ | refine zA ?_ ?_ _ | refine zS ?_ ?_ _ | refine zT ?_ (zM (by assumption) ?_) | exact Nat.le_refl _ | (simp <;> omega) | omega))
 have d0' := kept hbA d0
 have e1' : (w1.alloc (.cells #[.string z.name, .string z.family, .int .i64 z.version, .string z.text] 117)).cell? ⟨w1.heap.size, 1, none⟩ = some (.string z.family) := by simp
 have e2' : (w1.alloc (.cells #[.string z.name, .string z.family, .int .i64 z.version, .string z.text] 117)).cell? ⟨w1.heap.size, 2, none⟩ = some (.int .i64 z.version) := by simp
 have hbw2 : Below w.heap.size w (w1.alloc (.cells #[.string z.name, .string z.family, .int .i64 z.version, .string z.text] 117)) := by have hq := HB1.out; have hqs := hq.size; exact (by repeat (first | exact zR _ _ | assumption | refine zN ?_ _ | refine zD ?_ | refine zA ?_ ?_ _ | refine zS ?_ ?_ _ | refine zT ?_ (zM (by assumption) ?_) | exact Nat.le_refl _ | (simp <;> omega) | omega))
 have HB2 := Lib.hid hbw2
 clear hbA hbw2 d0
 generalize w1.alloc (.cells #[.string z.name, .string z.family, .int .i64 z.version, .string z.text] 117) = w2 at *
 have hy1 : w.heap.size < w2.heap.size := cell_lt d0'
 have hy2 : w1.heap.size < w2.heap.size := cell_lt e1'
 go_loopw [8, 25] (fun vo kv wr => ∃ k : Nat, k ≤ c.licenses.length ∧ kv = .int .i64 k ∧ Below w2.heap.size w2 wr ∧ Hid (OwnL w2.heap.size (· = 117) 117 wr vo ((c.licenses.take k).filter (laterIs z)))) (fun _ kv _ => c.licenses.length - (intOf kv).toNat)
 case atStart => exact ⟨0, by omega, rfl, Below.refl _ _, OwnL.nil _ _ _ _⟩
 case round =>
  obtain ⟨k, hk, rfl, hbr0, HO⟩ := hrel
  have hbr := Lib.hid hbr0
  have hwr : w2.heap.size ≤ wr.heap.size := hbr0.size
  clear hbr0
  by_cases hki : k < c.licenses.length
  ·have g0 := kept hbr.out d0'
   have g1 := kept hbr.out e1'
   have g2 := kept hbr.out e2'
   have hs1 : w.heap.size < wr.heap.size := cell_lt g0
   have hs2 : w1.heap.size < wr.heap.size := cell_lt g1
   obtain ⟨x, hx⟩ := get_lt hki
   have HT : Hid ((c.licenses.take (k + 1)).filter (laterIs z) = (c.licenses.take k).filter (laterIs z) ++ (if laterIs z x then [x] else [])) := by
    show _ = _
    rw [take_at hx, List.filter_append]; simp [List.filter_cons]
   obtain ⟨b, off, rfl, hb, y0', y1', y2', y3', ys0, ys1, ys2, ys3⟩ := License.at_row (R0.out.mono HB2.out) hx
   have y0 := kept hbr.out y0'
   have y1 := kept hbr.out y1'
   have y2 := kept hbr.out y2'
   have y3 := kept hbr.out y3'
   have HS := Lib.hid (And.intro ys0 (And.intro ys1 (And.intro ys2 ys3)))
   have hs3 : b < wr.heap.size := cell_lt y0
   clear hx y0' y1' y2' y3' ys0 ys1 ys2 ys3
   cases q1 : (x.family.toList == z.family.toList)
   case true =>
    cases q2 : decide (z.version ≤ x.version)
    case true =>
     have HP : Hid (laterIs z x = true) := by show _ = _; unfold laterIs seq; rw [q1, q2]; rfl
     go_wp2_with (at_builtin; refine app_lic rfl _ _ rfl w2.heap.size (· = 117) _ _ rfl rfl (HO.out.below ?c0) _ x ?cx rfl ?c1 ?c2 ?c3 ?c4 ?_)
     case c0 => exact (by repeat (first | exact zR _ _ | assumption | refine zN ?_ _ | refine zD ?_ | refine zA ?_ ?_ _ | refine zS ?_ ?_ _ | refine zT ?_ (zM (by assumption) ?_) | exact Nat.le_refl _ | (simp <;> omega) | omega))
     case cx => show Value.slice (some ⟨wr.heap.size + 1, 0, none⟩) 1 1 = _; simp
     case c1 => exact ⟨rfl, rfl, rfl, rfl⟩
     case c2 =>
      intro w'' hA
      obtain ⟨s0, s1, s2, s3⟩ := HS.out
      exact License.is_iff.2 ⟨rfl, rfl, rfl, rfl, s0, s1, s2, s3⟩
     case c3 => exact Nat.le_trans (List.length_filter_le _ _) (by rw [List.length_take]; omega)
     case c4 => simp; omega
     intro v' w3 ho hb4 hag hsz
     have hsz' : wr.heap.size < w3.heap.size := by first | omega | (simp at hsz; omega)
     have HO3 := Lib.hid ho
     have hb5 : Below w2.heap.size w2 w3 := by
      have hq := hbr.out
      have h6 : Below w2.heap.size w2 (wr.alloc (.cells #[.string x.name, .string x.family, .int .i64 x.version, .string x.text] 117)) := (by repeat (first | exact zR _ _ | assumption | refine zN ?_ _ | refine zD ?_ | refine zA ?_ ?_ _ | refine zS ?_ ?_ _ | refine zT ?_ (zM (by assumption) ?_) | exact Nat.le_refl _ | (simp <;> omega) | omega))
      exact h6.trans hb4
     have HB5 := Lib.hid hb5
     clear ho hb4 hag hsz hb5
     go_wp2
     go_roundw
     case rel =>
      refine ⟨k + 1, by omega, by go_num, HB5.out, ?_⟩
      show OwnL _ _ _ _ _ _
      rw [HT.out, HP.out]
      exact HO3.out
     case measure => simp [intOf]; omega
    have HP : Hid (laterIs z x = false) := by show _ = _; unfold laterIs seq; rw [q1, q2]; rfl
    go_wp2
    go_roundw
    case rel =>
     refine ⟨k + 1, by omega, by go_num, by have hq := hbr.out; exact (by repeat (first | exact zR _ _ | assumption | refine zN ?_ _ | refine zD ?_ | refine zA ?_ ?_ _ | refine zS ?_ ?_ _ | refine zT ?_ (zM (by assumption) ?_) | exact Nat.le_refl _ | (simp <;> omega) | omega)), ?_⟩
     show OwnL _ _ _ _ _ _
     rw [HT.out, HP.out]
     simpa using HO.out.below (by repeat (first | exact zR _ _ | assumption | refine zN ?_ _ | refine zD ?_ | refine zA ?_ ?_ _ | refine zS ?_ ?_ _ | refine zT ?_ (zM (by assumption) ?_) | exact Nat.le_refl _ | (simp <;> omega) | omega))
    case measure => simp [intOf]; omega
   have HP : Hid (laterIs z x = false) := by show _ = _; unfold laterIs seq; rw [q1]; rfl
   go_wp2
   go_roundw
   case rel =>
    refine ⟨k + 1, by omega, by go_num, by have hq := hbr.out; exact (by repeat (first | exact zR _ _ | assumption | refine zN ?_ _ | refine zD ?_ | refine zA ?_ ?_ _ | refine zS ?_ ?_ _ | refine zT ?_ (zM (by assumption) ?_) | exact Nat.le_refl _ | (simp <;> omega) | omega)), ?_⟩
    show OwnL _ _ _ _ _ _
    rw [HT.out, HP.out]
    simpa using HO.out.below (by repeat (first | exact zR _ _ | assumption | refine zN ?_ _ | refine zD ?_ | refine zA ?_ ?_ _ | refine zS ?_ ?_ _ | refine zT ?_ (zM (by assumption) ?_) | exact Nat.le_refl _ | (simp <;> omega) | omega))
   case measure => simp [intOf]; omega
  ·have HQ : Hid ((c.licenses.take k).filter (laterIs z) = c.licenses.filter (laterIs z)) := by
    show _ = _
    rw [List.take_of_length_le (by omega)]
   rw [HQ.out] at HO
   have HB3 := Lib.hid (HB2.out.trans (hbr.out.mono HB2.out.size))
   have hle : (c.licenses.filter (laterIs z)).length ≤ 32 := Nat.le_trans (List.length_filter_le _ _) h32
   clear HQ
   go_wp2_with fail
   refine (sortVer HO.out rfl HNE.out HND.out (by omega)).mono ?_
   rintro e w4 ⟨rfl, ho4, hb4, -⟩
   have hlen : (laterL c z).length ≤ 32 := by unfold laterL; rw [(sortS_perm _ _).length_eq]; exact hle
   have HI4 := Lib.hid (ho4.is)
   have HB4 := Lib.hid (HB3.out.trans (hb4.mono (Nat.le_of_lt hy1)))
   clear ho4 hb4 HO hle
   change Hid (Is w4 _ (laterL c z)) at HI4
   generalize laterL c z = ls at *
   obtain ⟨la, lc, hv, hlc, hcm, hlr⟩ := list_inv HI4.out
   subst hv
   have LR := Lib.hid hlr
   clear hlr HI4
   go_wp2
   go_loopw [11, 50] (fun vo kv wr => ∃ k : Nat, k ≤ ls.length ∧ kv = .int .i64 k ∧ Below w4.heap.size w4 wr ∧ Hid (wr.ownsRow w4.heap.size 9 1 vo k ((ls.map fun x => Value.string x.name).take k))) (fun _ kv _ => ls.length - (intOf kv).toNat)
   case atStart => exact ⟨0, by omega, rfl, Below.refl _ _, by show World.ownsRow _ _ _ _ _ _ _; exact ⟨rfl, .inl ⟨rfl, rfl⟩⟩⟩
   case round =>
    obtain ⟨j, hj, rfl, hbr1, HO⟩ := hrel
    have hbs := Lib.hid hbr1
    have hws : w4.heap.size ≤ wr.heap.size := hbr1.size
    clear hbr1
    by_cases hji : j < ls.length
    ·obtain ⟨x, hx⟩ := get_lt hji
     have HT : Hid ((ls.map fun x => Value.string x.name).take (j + 1) = (ls.map fun x => Value.string x.name).take j ++ [.string x.name]) := by
      show _ = _
      exact take_at (by simp [hx])
     obtain ⟨b, off, rfl, hb, y0', y1', y2', y3', ys0, ys1, ys2, ys3⟩ := License.at_row LR.out hx
     have y0 := kept hbs.out y0'
     have y1 := kept hbs.out y1'
     have y2 := kept hbs.out y2'
     have y3 := kept hbs.out y3'
     have hs3 : b < wr.heap.size := cell_lt y0
     clear hx y0' y1' y2' y3'
     go_wp2_with (at_builtin; refine app_str rfl _ _ rfl w4.heap.size _ _ _ rfl (World.ownsRow.alloc HO.out _) x.name ?e0 ?e1 ?e2 ?_)
     case e0 => show Value.slice (some ⟨wr.heap.size + 1, 0, none⟩) 1 1 = _; simp
     case e1 => omega
     case e2 => simp; omega
     intro v' w5 ho hgr _
     have hb5 : Below w4.heap.size w4 w5 := by
      have hq := hbs.out
      have h6 : Below w4.heap.size w4 (wr.alloc (.cells #[.string x.name, .string x.family, .int .i64 x.version, .string x.text] 117)) := (by repeat (first | exact zR _ _ | assumption | refine zN ?_ _ | refine zD ?_ | refine zA ?_ ?_ _ | refine zS ?_ ?_ _ | refine zT ?_ (zM (by assumption) ?_) | exact Nat.le_refl _ | (simp <;> omega) | omega))
      exact (h6.alloc (by simp; omega) _).app hgr (by simp; omega) HO.out
     have HB5 := Lib.hid hb5
     have HO5 := Lib.hid ho
     clear ho hgr hb5
     go_wp2
     go_roundw
     case rel =>
      refine ⟨j + 1, by omega, by go_num, HB5.out, ?_⟩
      show World.ownsRow _ _ _ _ _ _ _
      rw [HT.out]
      exact HO5.out
     case measure => simp [intOf]; omega
    ·obtain rfl : j = ls.length := by omega
     go_wp2
     refine bodyPost_ret (v := .tuple #[u11, .int .i64 0]) (by simp [results, Tryz.results88, go_sem]) rfl ⟨u11, by rw [HE.out], ?_, by have hq := HB4.out; have hqs := hq.size; have hr := hbs.out; have hrs := hr.size; exact (by repeat (first | exact zR _ _ | assumption | refine zN ?_ _ | refine zD ?_ | refine zA ?_ ?_ _ | refine zS ?_ ?_ _ | refine zT ?_ (zM (by assumption) ?_) | exact Nat.le_refl _ | (simp <;> omega) | omega))⟩
     rw [HF.out]
     have ho := HO.out
     rw [List.take_of_length_le (by simp)] at ho
     have ho2 : wr.ownsRow w4.heap.size 9 1 u11 ((ls.map License.name).length) ((ls.map License.name).map Value.string) := by simpa [List.map_map, Function.comp_def] using ho
     refine ⟨own_str (B := w4.heap.size) ho2 ?_, ownsRow_weaken ho2 HB4.out.size⟩
     intro s hs
     obtain ⟨x, hx, rfl⟩ := List.mem_map.1 hs
     obtain ⟨i, hi⟩ := List.getElem?_of_mem hx
     obtain ⟨_, _, _, _, _, _, _, _, h, -⟩ := License.at_row LR.out hi
     exact h
end Go.Proofs.YtaaobpicaaeiiaaGreatDoor
namespace Go.Proofs.YtaaobpicaaeiiaaGreatDoor
open Go Go.RowKit Go.ChangeShapes Go.Sort Go.Lib

def HoldP (c : Catalog) (ts : List Term) (y : LExpr) : Prop := ∀ (w : World) (vc v vt : Value), Glob w → Is w vc c → Is w v y → Is w vt ts →
 Calls Tryz.prog 41 #[vc, v, vt] w fun e w' => e = .returned (.bool (holdsE c ts y)) ∧ Below w.heap.size w w'
set_option maxRecDepth 100000 in
set_option maxHeartbeats 1000000 in
theorem Hold1_p (w : World) (g : Nat) (vt : Value) (ts : List Term) (s : ByteArray) (hc : w.cell? ⟨g, 0, none⟩ = some vt) (h : Is w vt ts) :
  Calls Tryz.prog 94 #[.string s, .pointer (some ⟨g, 0, none⟩)] w fun e w' => e = .returned (.bool (hasT ts ⟨s, ByteArray.empty⟩)) ∧ Below w.heap.size w w' := by
 have hg := cell_lt hc
 have hcall := ContainsTermS_p w vt ts ⟨s, ByteArray.empty⟩ h
 obtain ⟨a, c, rfl, -⟩ := list_inv h
 clear h
 generalize hasT ts ⟨s, ByteArray.empty⟩ = r at *
 generalize ts.length = N at *
 go_enter Tryz.func94, Tryz.ntmps94
 go_wp2_with fail
 refine hcall.mono ?_
 rintro e w1 ⟨rfl, hb⟩
 go_wp2
 go_ret
 exact ⟨rfl, hb⟩
section
variable {a0 a1 a2 a3 b : Option Addr} {N0 c0 N1 c1 N2 c2 N3 c3 T d : Nat}
set_option maxRecDepth 100000 in
set_option maxHeartbeats 1000000 in
theorem Hold2_p (c : Catalog) (ts : List Term) (y : LExpr) (ih : HoldP c ts y) (w : World) (g g2 : Nat) (v : Value) (hg : Glob w) (hc : w.cell? ⟨g, 0, none⟩ = some (.slice a0 N0 c0)) (hc1 : w.cell? ⟨g, 1, none⟩ = some (.slice a1 N1 c1)) (hc2 : w.cell? ⟨g, 2, none⟩ = some (.slice a2 N2 c2)) (hc3 : w.cell? ⟨g, 3, none⟩ = some (.slice a3 N3 c3)) (ht : w.cell? ⟨g2, 0, none⟩ = some (.slice b T d))
  (ic : Is w (.agg #[.slice a0 N0 c0, .slice a1 N1 c1, .slice a2 N2 c2, .slice a3 N3 c3]) c) (it : Is w (.slice b T d) ts) (h : Is w v y) :
  Calls Tryz.prog 96 #[v, .pointer (some ⟨g, 0, none⟩), .pointer (some ⟨g2, 0, none⟩)] w fun e w' => e = .returned (.bool (!holdsE c ts y)) ∧ Below w.heap.size w w' := by
 obtain ⟨k0, n0, x0, a, K, k, rfl⟩ := expBox h
 have hba : Below w.heap.size w (w.alloc (.cells #[.int .i64 k0, .string n0, .string x0, .slice a K k] 30)) := (by repeat (first | exact zR _ _ | assumption | refine zN ?_ _ | refine zD ?_ | refine zA ?_ ?_ _ | refine zS ?_ ?_ _ | refine zT ?_ (zM (by assumption) ?_) | exact Nat.le_refl _ | (simp <;> omega) | omega))
 have hO := World.alloc_heap_new w (.cells #[.int .i64 k0, .string n0, .string x0, .slice a K k] 30)
 have hcall := ih _ _ _ _ (hg.mono hba) (ic.mono hba) (h.mono hba) (it.mono hba)
 have d0 := kept hba hc
 have d1 := kept hba hc1
 have d2 := kept hba hc2
 have d3 := kept hba hc3
 have g0 := kept hba ht
 have e0 := objcell hO (j := 0) rfl
 have e1 := objcell hO (j := 1) rfl
 have e2 := objcell hO (j := 2) rfl
 have e3 := objcell hO (j := 3) rfl
 have s0 := cell_lt d0
 have s1 := cell_lt g0
 have s2 := obj_lt hO
 have HBA := Lib.hid hba
 generalize holdsE c ts y = r at *
 clear hba hO hc hc1 hc2 hc3 ht ic it h hg ih
 go_enter Tryz.func96, Tryz.ntmps96
 go_wp2_with fail
 generalize (w.alloc (.cells #[.int .i64 k0, .string n0, .string x0, .slice a K k] 30)) = w1 at *
 refine hcall.mono ?_
 rintro e w2 ⟨rfl, hb2⟩
 clear hcall d0 d1 d2 d3 g0 e0 e1 e2 e3
 go_wp2
 go_ret
 exact ⟨ret_b (by first | rfl | simp), HBA.out.trans (hb2.mono HBA.out.size)⟩
set_option maxRecDepth 100000 in
set_option maxHeartbeats 1000000 in
theorem Hold3_p (c : Catalog) (ts : List Term) (y : LExpr) (ih : HoldP c ts y) (w : World) (g g2 : Nat) (v : Value) (hg : Glob w) (hc : w.cell? ⟨g, 0, none⟩ = some (.slice a0 N0 c0)) (hc1 : w.cell? ⟨g, 1, none⟩ = some (.slice a1 N1 c1)) (hc2 : w.cell? ⟨g, 2, none⟩ = some (.slice a2 N2 c2)) (hc3 : w.cell? ⟨g, 3, none⟩ = some (.slice a3 N3 c3)) (ht : w.cell? ⟨g2, 0, none⟩ = some (.slice b T d))
  (ic : Is w (.agg #[.slice a0 N0 c0, .slice a1 N1 c1, .slice a2 N2 c2, .slice a3 N3 c3]) c) (it : Is w (.slice b T d) ts) (h : Is w v y) :
  Calls Tryz.prog 97 #[v, .pointer (some ⟨g, 0, none⟩), .pointer (some ⟨g2, 0, none⟩)] w fun e w' => e = .returned (.bool (holdsE c ts y)) ∧ Below w.heap.size w w' := by
 obtain ⟨k0, n0, x0, a, K, k, rfl⟩ := expBox h
 have hba : Below w.heap.size w (w.alloc (.cells #[.int .i64 k0, .string n0, .string x0, .slice a K k] 30)) := (by repeat (first | exact zR _ _ | assumption | refine zN ?_ _ | refine zD ?_ | refine zA ?_ ?_ _ | refine zS ?_ ?_ _ | refine zT ?_ (zM (by assumption) ?_) | exact Nat.le_refl _ | (simp <;> omega) | omega))
 have hO := World.alloc_heap_new w (.cells #[.int .i64 k0, .string n0, .string x0, .slice a K k] 30)
 have hcall := ih _ _ _ _ (hg.mono hba) (ic.mono hba) (h.mono hba) (it.mono hba)
 have d0 := kept hba hc
 have d1 := kept hba hc1
 have d2 := kept hba hc2
 have d3 := kept hba hc3
 have g0 := kept hba ht
 have e0 := objcell hO (j := 0) rfl
 have e1 := objcell hO (j := 1) rfl
 have e2 := objcell hO (j := 2) rfl
 have e3 := objcell hO (j := 3) rfl
 have s0 := cell_lt d0
 have s1 := cell_lt g0
 have s2 := obj_lt hO
 have HBA := Lib.hid hba
 generalize holdsE c ts y = r at *
 clear hba hO hc hc1 hc2 hc3 ht ic it h hg ih
 go_enter Tryz.func97, Tryz.ntmps97
 go_wp2_with fail
 generalize (w.alloc (.cells #[.int .i64 k0, .string n0, .string x0, .slice a K k] 30)) = w1 at *
 refine hcall.mono ?_
 rintro e w2 ⟨rfl, hb2⟩
 clear hcall d0 d1 d2 d3 g0 e0 e1 e2 e3
 go_wp2
 go_ret
 exact ⟨ret_b (by first | rfl | simp), HBA.out.trans (hb2.mono HBA.out.size)⟩
end
set_option maxRecDepth 100000 in
set_option maxHeartbeats 4000000 in
theorem hold_0 (c : Catalog) (ts : List Term) (n x : ByteArray) (ks : List LExpr) : HoldP c ts (LExpr.mk 0 n x ks) := by
 intro w vc v vt hg hc h ht
 obtain ⟨a, kc, rfl, i0, s1, s2, hnk, hmk, hrk⟩ := LExpr.inv h
 obtain ⟨a0, N0, c0, a1, N1, c1, a2, N2, c2, a3, N3, c3, rfl⟩ := catBox hc
 obtain ⟨b, d, rfl, -⟩ := list_inv ht
 generalize hK : ks.length = K at *
 generalize ts.length = T at *
 obtain ⟨hb0, hd, he, hf⟩ := box3 w #[.slice a0 N0 c0, .slice a1 N1 c1, .slice a2 N2 c2, .slice a3 N3 c3] #[.int .i64 0, .string n, .string x, .slice a K kc] #[.slice b T d] 27 30 38
 have HG := Lib.hid (hg.mono hb0)
 have HC := Lib.hid (hc.mono hb0)
 have HR := Lib.hid (hrk.mono hb0)
 have HT := Lib.hid (ht.mono hb0)
 have HI := Lib.hid (h.mono hb0)
 have HW := Lib.hid hb0
 have d0 := hd 0 _ rfl
 have d1 := hd 1 _ rfl
 have d2 := hd 2 _ rfl
 have d3 := hd 3 _ rfl
 have e0 := he 0 _ rfl
 have e1 := he 1 _ rfl
 have e2 := he 2 _ rfl
 have e3 := he 3 _ rfl
 have g0 := hf 0 _ rfl
 have s0 := cell_lt g0
 clear hd he hf hb0 hg hc h ht hrk
 have HQ : Hid (holdsE c ts (.mk 0 n x ks) = hasT ts ⟨n, x⟩) := by show _ = _; rw [holdsE]; rfl
 have hcall := ContainsTermS_p _ _ ts ⟨n, x⟩ HT.out
 generalize hasT ts ⟨n, x⟩ = r at *
 go_enter Tryz.func41, Tryz.ntmps41
 go_wp2_with fail
 generalize (((w.alloc (.cells #[.slice a0 N0 c0, .slice a1 N1 c1, .slice a2 N2 c2, .slice a3 N3 c3] 27)).alloc (.cells #[.int .i64 0, .string n, .string x, .slice a K kc] 30)).alloc (.cells #[.slice b T d] 38)) = w0 at *
 refine hcall.mono ?_
 rintro e w1 ⟨rfl, hb⟩
 clear hcall d0 d1 d2 d3 e0 e1 e2 e3 g0 s0
 go_wp2
 go_ret
 exact ⟨ret_b HQ.out.symm, HW.out.trans (hb.mono HW.out.size)⟩
set_option maxRecDepth 100000 in
set_option maxHeartbeats 4000000 in
theorem hold_1 (c : Catalog) (ts : List Term) (n x : ByteArray) (ks : List LExpr) : HoldP c ts (LExpr.mk 1 n x ks) := by
 intro w vc v vt hg hc h ht
 obtain ⟨a, kc, rfl, i0, s1, s2, hnk, hmk, hrk⟩ := LExpr.inv h
 obtain ⟨a0, N0, c0, a1, N1, c1, a2, N2, c2, a3, N3, c3, rfl⟩ := catBox hc
 obtain ⟨b, d, rfl, -⟩ := list_inv ht
 generalize hK : ks.length = K at *
 generalize ts.length = T at *
 obtain ⟨hb0, hd, he, hf⟩ := box3 w #[.slice a0 N0 c0, .slice a1 N1 c1, .slice a2 N2 c2, .slice a3 N3 c3] #[.int .i64 1, .string n, .string x, .slice a K kc] #[.slice b T d] 27 30 38
 have HG := Lib.hid (hg.mono hb0)
 have HC := Lib.hid (hc.mono hb0)
 have HR := Lib.hid (hrk.mono hb0)
 have HT := Lib.hid (ht.mono hb0)
 have HI := Lib.hid (h.mono hb0)
 have HW := Lib.hid hb0
 have d0 := hd 0 _ rfl
 have d1 := hd 1 _ rfl
 have d2 := hd 2 _ rfl
 have d3 := hd 3 _ rfl
 have e0 := he 0 _ rfl
 have e1 := he 1 _ rfl
 have e2 := he 2 _ rfl
 have e3 := he 3 _ rfl
 have g0 := hf 0 _ rfl
 have s0 := cell_lt g0
 clear hd he hf hb0 hg hc h ht hrk
 have HQ : Hid (holdsE c ts (.mk 1 n x ks) = ((laterC c n).getD []).any fun s => hasT ts ⟨s, ByteArray.empty⟩) := by show _ = _; rw [holdsE]; rfl
 have hcall := Later_p _ _ c n HG.out HC.out
 go_enter Tryz.func41, Tryz.ntmps41
 go_wp2_with fail
 generalize (((w.alloc (.cells #[.slice a0 N0 c0, .slice a1 N1 c1, .slice a2 N2 c2, .slice a3 N3 c3] 27)).alloc (.cells #[.int .i64 1, .string n, .string x, .slice a K kc] 30)).alloc (.cells #[.slice b T d] 38)) = w0 at *
 refine hcall.mono ?_
 rintro e w1 ⟨v1, rfl, hi1, hb1⟩
 have HB1 := Lib.hid hb1
 have g0 := kept hb1 g0
 have s1 := cell_lt g0
 have hcall := ContainsFuncStr w1 v1 _ (fun s => hasT ts ⟨s, ByteArray.empty⟩) 94 #[.pointer (some ⟨w.heap.size + 1 + 1, 0, none⟩)] (enters_of Tryz.func94 (by kernel_rfl) rfl) hi1 (fun i s _ W v hb hv => by
  obtain ⟨rfl, -⟩ := str_inv hv
  exact Hold1_p W (w.heap.size + 1 + 1) _ ts s (kept hb g0) ((HT.out.mono hb1).mono hb))
 rw [← HQ.out] at hcall
 generalize hr : holdsE c ts (.mk 1 n x ks) = r at *
 have HRR := Lib.hid hr
 clear hr
 obtain ⟨a5, c5, rfl, -⟩ := list_inv hi1
 generalize ((laterC c n).getD []).length = L5 at *
 clear hb1 hi1 HQ d0 d1 d2 d3 e0 e1 e2 e3
 go_wp2_with fail
 refine hcall.mono ?_
 rintro e w2 ⟨rfl, hb2⟩
 have HB2 : Hid (Below w.heap.size w w2) := HW.out.trans ((HB1.out.trans (hb2.mono HB1.out.size)).mono HW.out.size)
 clear hcall hb2 g0 s1
 go_wp2
 go_ret
 exact ⟨ret_b HRR.out.symm, HB2.out⟩
set_option maxRecDepth 100000 in
set_option maxHeartbeats 4000000 in
theorem hold_2 (c : Catalog) (ts : List Term) (n x : ByteArray) (ks : List LExpr) (ih : ∀ e ∈ ks, HoldP c ts e) : HoldP c ts (LExpr.mk 2 n x ks) := by
 intro w vc v vt hg hc h ht
 obtain ⟨a, kc, rfl, i0, s1, s2, hnk, hmk, hrk⟩ := LExpr.inv h
 obtain ⟨a0, N0, c0, a1, N1, c1, a2, N2, c2, a3, N3, c3, rfl⟩ := catBox hc
 obtain ⟨b, d, rfl, -⟩ := list_inv ht
 generalize hK : ks.length = K at *
 generalize ts.length = T at *
 obtain ⟨hb0, hd, he, hf⟩ := box3 w #[.slice a0 N0 c0, .slice a1 N1 c1, .slice a2 N2 c2, .slice a3 N3 c3] #[.int .i64 2, .string n, .string x, .slice a K kc] #[.slice b T d] 27 30 38
 have HG := Lib.hid (hg.mono hb0)
 have HC := Lib.hid (hc.mono hb0)
 have HR := Lib.hid (hrk.mono hb0)
 have HT := Lib.hid (ht.mono hb0)
 have HI := Lib.hid (h.mono hb0)
 have HW := Lib.hid hb0
 have d0 := hd 0 _ rfl
 have d1 := hd 1 _ rfl
 have d2 := hd 2 _ rfl
 have d3 := hd 3 _ rfl
 have e0 := he 0 _ rfl
 have e1 := he 1 _ rfl
 have e2 := he 2 _ rfl
 have e3 := he 3 _ rfl
 have g0 := hf 0 _ rfl
 have s0 := cell_lt g0
 clear hd he hf hb0 hg hc h ht hrk
 have HQ : Hid (holdsE c ts (.mk 2 n x ks) = !noKs c ts ks) := by show _ = _; rw [holdsE]; rfl
 have HK := Lib.hid hK
 have hlist : Is (((w.alloc (.cells #[.slice a0 N0 c0, .slice a1 N1 c1, .slice a2 N2 c2, .slice a3 N3 c3] 27)).alloc (.cells #[.int .i64 2, .string n, .string x, .slice a K kc] 30)).alloc (.cells #[.slice b T d] 38)) (.slice a K kc) ks := by have h9 := list_mk (xs := ks) (by rw [hK]; exact hnk) hmk HR.out; rw [hK] at h9; exact h9
 have hcall := ContainsFuncExpr _ _ ks (fun e => !holdsE c ts e) 96 #[.pointer (some ⟨w.heap.size, 0, none⟩), .pointer (some ⟨w.heap.size + 1 + 1, 0, none⟩)] (enters_of Tryz.func96 (by kernel_rfl) rfl) hlist (fun i y hy W v hb hv =>
  Hold2_p c ts y (ih y (List.mem_of_getElem? hy)) W w.heap.size (w.heap.size + 1 + 1) v (HG.out.mono hb) (kept hb d0) (kept hb d1) (kept hb d2) (kept hb d3) (kept hb g0) (HC.out.mono hb) (HT.out.mono hb) hv)
 rw [← noKs_any c ts ks] at hcall
 generalize noKs c ts ks = r at *
 have HCL := Lib.hid hcall
 clear hlist hcall hK ih
 go_enter Tryz.func41, Tryz.ntmps41
 go_wp2_with fail
 generalize (((w.alloc (.cells #[.slice a0 N0 c0, .slice a1 N1 c1, .slice a2 N2 c2, .slice a3 N3 c3] 27)).alloc (.cells #[.int .i64 2, .string n, .string x, .slice a K kc] 30)).alloc (.cells #[.slice b T d] 38)) = w0 at *
 refine HCL.out.mono ?_
 rintro e w2 ⟨rfl, hb2⟩
 have HB2 : Hid (Below w.heap.size w w2) := HW.out.trans (hb2.mono HW.out.size)
 clear HCL hb2 g0 s0 d0 d1 d2 d3 e0 e1 e2 e3
 go_wp2
 go_ret
 exact ⟨ret_b HQ.out.symm, HB2.out⟩
set_option maxRecDepth 100000 in
set_option maxHeartbeats 4000000 in
theorem hold_3 (c : Catalog) (ts : List Term) (k : Int) (n x : ByteArray) (ks : List LExpr) (q0 : k ≠ 0) (q1 : k ≠ 1) (q2 : k ≠ 2) (ih : ∀ e ∈ ks, HoldP c ts e) : HoldP c ts (LExpr.mk k n x ks) := by
 intro w vc v vt hg hc h ht
 obtain ⟨a, kc, rfl, i0, s1, s2, hnk, hmk, hrk⟩ := LExpr.inv h
 obtain ⟨a0, N0, c0, a1, N1, c1, a2, N2, c2, a3, N3, c3, rfl⟩ := catBox hc
 obtain ⟨b, d, rfl, -⟩ := list_inv ht
 generalize hK : ks.length = K at *
 generalize ts.length = T at *
 obtain ⟨hb0, hd, he, hf⟩ := box3 w #[.slice a0 N0 c0, .slice a1 N1 c1, .slice a2 N2 c2, .slice a3 N3 c3] #[.int .i64 k, .string n, .string x, .slice a K kc] #[.slice b T d] 27 30 38
 have HG := Lib.hid (hg.mono hb0)
 have HC := Lib.hid (hc.mono hb0)
 have HR := Lib.hid (hrk.mono hb0)
 have HT := Lib.hid (ht.mono hb0)
 have HI := Lib.hid (h.mono hb0)
 have HW := Lib.hid hb0
 have d0 := hd 0 _ rfl
 have d1 := hd 1 _ rfl
 have d2 := hd 2 _ rfl
 have d3 := hd 3 _ rfl
 have e0 := he 0 _ rfl
 have e1 := he 1 _ rfl
 have e2 := he 2 _ rfl
 have e3 := he 3 _ rfl
 have g0 := hf 0 _ rfl
 have s0 := cell_lt g0
 clear hd he hf hb0 hg hc h ht hrk
 have h0 : (k == 0) = false := by simpa using q0
 have h1 : (k == 1) = false := by simpa using q1
 have h2 : (k == 2) = false := by simpa using q2
 have HQ : Hid (holdsE c ts (.mk k n x ks) = someKs c ts ks) := by show _ = _; rw [holdsE, h0, h1, h2]; rfl
 clear q0 q1 q2
 have HK := Lib.hid hK
 have hlist : Is (((w.alloc (.cells #[.slice a0 N0 c0, .slice a1 N1 c1, .slice a2 N2 c2, .slice a3 N3 c3] 27)).alloc (.cells #[.int .i64 k, .string n, .string x, .slice a K kc] 30)).alloc (.cells #[.slice b T d] 38)) (.slice a K kc) ks := by have h9 := list_mk (xs := ks) (by rw [hK]; exact hnk) hmk HR.out; rw [hK] at h9; exact h9
 have hcall := ContainsFuncExpr _ _ ks (fun e => holdsE c ts e) 97 #[.pointer (some ⟨w.heap.size, 0, none⟩), .pointer (some ⟨w.heap.size + 1 + 1, 0, none⟩)] (enters_of Tryz.func97 (by kernel_rfl) rfl) hlist (fun i y hy W v hb hv =>
  Hold3_p c ts y (ih y (List.mem_of_getElem? hy)) W w.heap.size (w.heap.size + 1 + 1) v (HG.out.mono hb) (kept hb d0) (kept hb d1) (kept hb d2) (kept hb d3) (kept hb g0) (HC.out.mono hb) (HT.out.mono hb) hv)
 rw [← someKs_any c ts ks] at hcall
 generalize someKs c ts ks = r at *
 have HCL := Lib.hid hcall
 clear hlist hcall hK ih
 go_enter Tryz.func41, Tryz.ntmps41
 go_wp2_with fail
 generalize (((w.alloc (.cells #[.slice a0 N0 c0, .slice a1 N1 c1, .slice a2 N2 c2, .slice a3 N3 c3] 27)).alloc (.cells #[.int .i64 k, .string n, .string x, .slice a K kc] 30)).alloc (.cells #[.slice b T d] 38)) = w0 at *
 refine HCL.out.mono ?_
 rintro e w2 ⟨rfl, hb2⟩
 have HB2 : Hid (Below w.heap.size w w2) := HW.out.trans (hb2.mono HW.out.size)
 clear HCL hb2 g0 s0 d0 d1 d2 d3 e0 e1 e2 e3
 go_wp2
 go_ret
 exact ⟨ret_b HQ.out.symm, HB2.out⟩
theorem holds_p (c : Catalog) (ts : List Term) (y : LExpr) : HoldP c ts y := by
 refine LExpr.ind (fun k n x ks ih => ?_) y
 by_cases q0 : k = 0
 ·subst q0; exact hold_0 c ts n x ks
 by_cases q1 : k = 1
 ·subst q1; exact hold_1 c ts n x ks
 by_cases q2 : k = 2
 ·subst q2; exact hold_2 c ts n x ks ih
 exact hold_3 c ts k n x ks q0 q1 q2 ih
end Go.Proofs.YtaaobpicaaeiiaaGreatDoor
namespace Go.Proofs.YtaaobpicaaeiiaaGreatDoor
open Go Go.RowKit Go.ChangeShapes Go.Sort Go.Lib Go.Shelf
attribute [local go_sem] Oper.semAt_some

theorem nodeT_len (c : Catalog) (y : LExpr) : (nodeT c y).length ≤ 64 := by
 unfold nodeT
 split
 ·simp
 split
 ·rw [List.length_map]; exact Nat.le_trans (names_le c _) (by decide)
 ·simp
theorem nodesT_len (c : Catalog) : ∀ l : List LExpr, (nodesT c l).length ≤ 64 * l.length
 | [] => by simp [nodesT]
 | y :: r => by
  have h1 := nodeT_len c y
  have h2 := nodesT_len c r
  have h3 : nodesT c (y :: r) = nodeT c y ++ nodesT c r := by simp [nodesT]
  rw [h3, List.length_append, List.length_cons]; omega
def TJ (w : World) (g : Nat) (c : Catalog) (CC : Array Value) (pre : List (AtE w)) (W : World) : Prop :=
 ∃ sv, Boxed W g 38 sv ∧ RowT w.heap.size W sv (nodesT c (pre.map (·.1.2))) ∧ W.heap[w.heap.size]? = some (.cells CC 27 (0, 0)) ∧ Below w.heap.size w W
theorem tj_own (w : World) (g : Nat) (c : Catalog) (CC : Array Value) {B : Nat} (hB : w.heap.size ≤ B) : OwnFrom B (TJ w g c CC) := by
 rintro s X Y row ⟨sv, hb, hr, hc, hw⟩ hg hrow
 have hne : ∀ k cs t fr, X.heap[k]? = some (.cells cs t fr) → some k ≠ row := fun k cs t fr hk e => by
  obtain ⟨-, o, ho, hc⟩ := hrow _ e.symm
  rw [hk] at ho
  cases ho; cases hc
 exact ⟨sv, hb.kept hg (hne _ _ _ _ hb), hr.grown hg fun r e => (hrow r e).2, (hg.block _ (obj_lt hc) (hne _ _ _ _ hc)).trans hc, hw.grown hg hw.size fun k e => Nat.le_trans hB (hrow k e).1⟩
theorem TJ.below {w : World} {g : Nat} {c : Catalog} {CC : Array Value} {pre : List (AtE w)} {W W' : World} (h : TJ w g c CC pre W) (hb : Below W.heap.size W W') : TJ w g c CC pre W' :=
 tj_own w g c CC (Nat.le_refl _) pre W W' none h (grown_below hb) (fun r e => by cases e)
theorem KvS.app {lo : Nat} {M : Nat → Prop} {W W' : World} {v : Value} {n : Nat} {xs : List Value} (hg : W.grownBy W' v.ownBlock) (ho : W.ownsRow lo 60 2 v n xs) : KvS lo M W W' := by
 refine ⟨hg.size, fun k cs t fr _ hv hc => (hg.block k (obj_lt hc) fun e => ?_).trans hc⟩
 have h1 := own_block ho k e.symm
 obtain ⟨cur, h2⟩ := own_block_at ho e.symm
 rw [hc] at h2
 cases h2
 rcases hv with hv | hv
 ·omega
 ·exact hv rfl
theorem tj_step {w W W1 W2 : World} {g : Nat} {CC : Array Value} {sv v' : Value} {l : List Term} {t : Term} (hb : Boxed W g 38 sv) (hr : RowT w.heap.size W sv l) (hc : W.heap[w.heap.size]? = some (.cells CC 27 (0, 0))) (hw : Below w.heap.size w W)
  (hgw : w.heap.size < g) (ha : W1 = W.alloc (.cells #[.string t.license, .string t.exception] 60)) (h1 : t.license.size ≤ maxLen) (h2 : t.exception.size ≤ maxLen) (g3 : W1.grownBy W2 sv.ownBlock)
  (g2 : W2.ownsRow w.heap.size 60 2 v' (l.length + 1) ((l.map encT).flatten ++ [.string t.license, .string t.exception])) :
  (Boxed W2 g 38 sv ∧ RowT w.heap.size W2 v' (l ++ [t])) ∧ (Boxed (W2.setCell ⟨g, 0, none⟩ v') g 38 v' ∧ RowT w.heap.size (W2.setCell ⟨g, 0, none⟩ v') v' (l ++ [t]) ∧ (W2.setCell ⟨g, 0, none⟩ v').heap[w.heap.size]? = some (.cells CC 27 (0, 0)) ∧ Below w.heap.size w (W2.setCell ⟨g, 0, none⟩ v')) ∧
   (∀ B, KeepsFrom B W (W2.setCell ⟨g, 0, none⟩ v')) ∧ KvS w.heap.size (· = g) W (W2.setCell ⟨g, 0, none⟩ v') := by
 subst ha
 have hba : Below W.heap.size W (W.alloc (.cells #[.string t.license, .string t.exception] 60)) := (Below.refl _ _).alloc (Nat.le_refl _) _
 have hr1 := hr.below hba
 have hb1 := hb.alloc (.cells #[.string t.license, .string t.exception] 60)
 have hne : ∀ k cs ty fr, (W.alloc (.cells #[.string t.license, .string t.exception] 60)).heap[k]? = some (.cells cs ty fr) → ty ≠ 60 → some k ≠ sv.ownBlock := fun k cs ty fr hk ht e => by
  obtain ⟨cur, h2⟩ := own_block_at hr1.1 e.symm
  rw [hk] at h2
  cases h2; exact ht rfl
 have hb2 : Boxed W2 g 38 sv := hb1.kept g3 (hne _ _ _ _ hb1 (by decide))
 have hr2 : RowT w.heap.size W2 v' (l ++ [t]) := RowT.snoc g2 hr.2 h1 h2
 have hc1 := obj_below hc hba
 have hc2 : W2.heap[w.heap.size]? = some (.cells CC 27 (0, 0)) := (g3.block _ (obj_lt hc1) (hne _ _ _ _ hc1 (by decide))).trans hc1
 have hw2 : Below w.heap.size w W2 := (hw.trans (hba.mono hw.size)).grown g3 (hw.trans (hba.mono hw.size)).size (own_block hr1.1)
 refine ⟨⟨hb2, hr2⟩, ⟨hb2.set _, hr2.setBox hb2 (by decide), ?_, hw2.setCell (p := ⟨g, 0, none⟩) (Nat.le_of_lt hgw) _⟩, fun B => ?_, ?_⟩
 ·rw [blk_set_other _ _ _ _ (show w.heap.size ≠ g by omega)]; exact hc2
 ·exact ((keeps_below hba).trans (keepsFrom_app g3 hr1.1)).trans ((KeepsOthers.setCell _ _ _).from _)
 ·exact ((KvS.of_below hba).trans (KvS.app g3 hr1.1)).trans (KvS.of_kv (Kv.setCell _ _ rfl))
theorem ag_box {B k : Nat} {W W' : World} {cs : Array Value} {t : TypeId} {fr : Nat × Nat} (h : Agree B (· = 60) W W') (hk : W.heap[k]? = some (.cells cs t fr)) (ht : t ≠ 60) : W'.heap[k]? = some (.cells cs t fr) :=
 (h.2 k (obj_lt hk) (Or.inr fun ⟨cs', e, fr', he, hc⟩ => by rw [hk] at hc; cases hc; exact ht he)).trans hk
theorem ag_def {B D : Nat} {W W' : World} {r : Option (List Deferred)} (h : Agree B (· = 60) W W') (hk : W.heap[D]? = some (.deferred r)) : W'.heap[D]? = some (.deferred r) :=
 (h.2 D (Array.getElem?_eq_some_iff.1 hk).1 (Or.inr fun ⟨cs', e, fr', he, hc⟩ => by rw [hk] at hc; cases hc)).trans hk
theorem nm_cell {lo g M c j B b off : Nat} {W3 wr : World} {sv v : Value} {xs : List Value} (ho : W3.ownsRow B 9 1 (.slice (some ⟨b, off, none⟩) M c) M xs) (hk : KvS lo (· = g) W3 wr) (hb : Boxed W3 g 38 sv) (hc : W3.cell? ⟨b, j, none⟩ = some v) : wr.cell? ⟨b, j, none⟩ = some v := by
 rcases ho.2 with ⟨h0, _⟩ | ⟨g', cap, cur, he, hg, hh, _⟩
 ·cases h0
 ·cases he
  have h2 := hk.2 _ _ _ _ (fun e => by
   have e' : b = g := e
   subst e'
   rw [show W3.heap[b]? = _ from hb] at hh
   cases hh) (Or.inr (by decide)) hh
  unfold World.cell? at hc ⊢
  rw [hh] at hc
  rw [h2]; exact hc
def ofN (s : ByteArray) : Term := ⟨s, ByteArray.empty⟩
def TrO (l : List Term) (w : World) (e : Ending) (w' : World) : Prop := ∃ v', e = .returned (.tuple #[v', .int .i64 0]) ∧ Is w' v' (normT l) ∧ Below w.heap.size w w'
set_option maxRecDepth 100000 in
set_option maxHeartbeats 16000000 in
theorem Terms_in (w : World) (vc v : Value) (cat : Catalog) (y : LExpr) (hg : Glob w) (hc : Is w vc cat) (h : Is w v y) (hsz : sizeE y ≤ 1000000) (hok : checkE cat y = 0) :
  CallsIn Fence.wide 3 Tryz.prog 40 #[vc, v] w (TrO (nodesT cat (nodesE y)) w) := by
 have HI := Lib.hid h
 have HC := Lib.hid hc
 have HG := Lib.hid hg
 have hck := fun W v vc hg hc h => CheckX_p W vc v cat y hg hc h hsz
 rw [hok] at hck
 have HCK := Lib.hid hck
 have HST := Lib.hid (nodes_stopsS w)
 have HSZ := Lib.hid hsz
 obtain ⟨k0, n0, x0, ks⟩ := y
 obtain ⟨a, c, rfl, -⟩ := LExpr.inv h
 obtain ⟨a0, N0, c0, a1, N1, c1, a2, N2, c2, a3, N3, c3, rfl⟩ := catBox hc
 clear h hsz hc hg hok hck
 generalize LExpr.mk k0 n0 x0 ks = Y at *
 generalize ks.length = K at *
 refine callsIn_of_wp_marks Tryz.func40 rfl trivial ?_ rfl
 simp only [Tryz.ntmps40, List.size_toArray, List.length_cons, List.length_nil, Nat.reduceAdd, Nat.reduceSub, Array.replicate_succ, Array.replicate_zero, List.push_toArray, List.append_toArray, List.nil_append, List.cons_append]
 obtain ⟨hb1, hd, he⟩ := box2 w #[.slice a0 N0 c0, .slice a1 N1 c1, .slice a2 N2 c2, .slice a3 N3 c3] #[.int .i64 k0, .string n0, .string x0, .slice a K c] 27 30
 have bc : ((w.alloc (.cells #[.slice a0 N0 c0, .slice a1 N1 c1, .slice a2 N2 c2, .slice a3 N3 c3] 27)).alloc (.cells #[.int .i64 k0, .string n0, .string x0, .slice a K c] 30)).heap[w.heap.size]? = some (.cells #[.slice a0 N0 c0, .slice a1 N1 c1, .slice a2 N2 c2, .slice a3 N3 c3] 27 (0, 0)) := (Below.heap_alloc _ _ _ (by simp)).trans (World.alloc_heap_new w _)
 have be : ((w.alloc (.cells #[.slice a0 N0 c0, .slice a1 N1 c1, .slice a2 N2 c2, .slice a3 N3 c3] 27)).alloc (.cells #[.int .i64 k0, .string n0, .string x0, .slice a K c] 30)).heap[w.heap.size + 1]? = some (.cells #[.int .i64 k0, .string n0, .string x0, .slice a K c] 30 (0, 0)) := by
  have := World.alloc_heap_new (w.alloc (.cells #[.slice a0 N0 c0, .slice a1 N1 c1, .slice a2 N2 c2, .slice a3 N3 c3] 27)) (.cells #[.int .i64 k0, .string n0, .string x0, .slice a K c] 30)
  rw [World.size_alloc] at this
  exact this
 have HB1 := Lib.hid hb1
 have BC := Lib.hid bc
 have BE := Lib.hid be
 have hC1 := HCK.out _ _ _ (HG.out.mono hb1) (HC.out.mono hb1) (HI.out.mono hb1)
 have d0 := hd 0 _ rfl
 have e0 := he 0 _ rfl
 have d1 := hd 1 _ rfl
 have e1 := he 1 _ rfl
 have d2 := hd 2 _ rfl
 have e2 := he 2 _ rfl
 have d3 := hd 3 _ rfl
 have e3 := he 3 _ rfl
 clear hb1 bc be hd he HCK
 gi_wp2_with (refine ⟨trivial, ?_⟩; gi_at_call 49; refine (callsIn_wide.2 hC1).mono ?_; clear hC1 d0 d1 d2 d3 e0 e1 e2 e3; rintro e W1 ⟨rfl, hb2⟩; have e0 := kept hb2 (objcell BE.out (j := 0) rfl); have e1 := kept hb2 (objcell BE.out (j := 1) rfl); have e2 := kept hb2 (objcell BE.out (j := 2) rfl); have e3 := kept hb2 (objcell BE.out (j := 3) rfl); have hs1 := cell_lt e0)
 have HB2 : Hid (Below w.heap.size w W1) := HB1.out.trans (hb2.mono HB1.out.size)
 have BC1 := Lib.hid (obj_below BC.out hb2)
 clear hb2 BC BE e0 e1 e2 e3
 have hba : Below W1.heap.size W1 (W1.alloc (.cells #[.slice none 0 0] 38)) := (by repeat (first | exact zR _ _ | assumption | refine zN ?_ _ | refine zD ?_ | refine zA ?_ ?_ _ | refine zS ?_ ?_ _ | refine zT ?_ (zM (by assumption) ?_) | exact Nat.le_refl _ | (simp <;> omega) | omega))
 have bo := Boxed.new W1 38 (.slice none 0 0)
 have hsA : (W1.alloc (.cells #[.slice none 0 0] 38)).heap.size = W1.heap.size + 1 := by simp
 refine ⟨trivial, ?_⟩
 refine (callsIn_wide.2 (nodes_pS _ k0 n0 x0 a K c)).mono ?_
 rintro e W0 ⟨rfl, HN⟩
 rw [hsA] at HN ⊢
 obtain ⟨hb4, hz4, hcv, hce⟩ := HN.out
 have hB0 : Below w.heap.size w W0 := HB2.out.trans ((hba.mono HB2.out.size).trans (hb4.mono (by have := HB2.out.size; omega)))
 have bN : Boxed W0 W1.heap.size 38 (.slice none 0 0) := (hb4.block _ (by omega)).trans bo
 have bC : W0.heap[w.heap.size]? = some (.cells #[.slice a0 N0 c0, .slice a1 N1 c1, .slice a2 N2 c2, .slice a3 N3 c3] 27 (0, 0)) := obj_below (obj_below BC1.out hba) (hb4.mono (by omega))
 have hsw : w.heap.size + 1 < W1.heap.size := hs1
 gi_wp2_with fail
 have hseq := HST.out W0 (W1.heap.size + 1 + 1) (W1.heap.size + 1) (fun k => k = W1.heap.size) (fun k hk => by subst hk; exact ⟨by omega, by omega⟩) (by omega) _ Y HI.out hB0 hcv hce
 have hw0 : w.heap.size ≤ W0.heap.size := hB0.size
 obtain ⟨i0, hi, hz0, hz1, hz2⟩ := info_parts infoTerm
 have HINF := Lib.hid (And.intro hi (And.intro hz0 (And.intro hz1 hz2)))
 clear HST HN hcv hce hba bo hb4 hi hz0 hz1 hz2
 refine wpIn_rangeFunc_ownH rfl (by decide) (gf := 139) (lb := #[.pointer (some ⟨W1.heap.size + 1 + 1, 0, none⟩), .pointer (some ⟨W1.heap.size + 1, 0, none⟩)]) rfl trivial (enters_of Tryz.func139 (by kernel_rfl) rfl)
  hseq KvS.trans KvS.b (Below.refl _ _) (fun _ => rfl)
  (TJ w W1.heap.size cat #[.slice a0 N0 c0, .slice a1 N1 c1, .slice a2 N2 c2, .slice a3 N3 c3]) (fun _ _ _ => False) (tj_own w _ cat _ hw0) (fun _ _ _ _ _ hs _ _ => hs)
  ⟨_, bN, rowT_nil _ _, bC, hB0⟩
  (fun x a' W => ∃ Bx, W1.heap.size < Bx ∧ NodeBox w W x Bx ∧ a' = { tmps := #[.agg #[.slice a0 N0 c0, .slice a1 N1 c1, .slice a2 N2 c2, .slice a3 N3 c3], .agg #[.int .i64 k0, .string n0, .string x0, .slice a K c], .pointer (some ⟨w.heap.size, 0, none⟩), .pointer (some ⟨w.heap.size + 1, 0, none⟩), .slice none 0 0, .int .i64 0, .int .i64 0, .pointer (some ⟨W1.heap.size, 0, none⟩), .pointer (some ⟨Bx, 0, none⟩), undef, undef, undef, undef, .agg #[.slice a0 N0 c0, .slice a1 N1 c1, .slice a2 N2 c2, .slice a3 N3 c3], .agg #[.int .i64 k0, .string n0, .string x0, .slice a K c], .int .i64 0, .int .i64 0, .bool false, undef, .agg #[.int .i64 k0, .string n0, .string x0, .slice a K c], .func (.func 139) #[] #[.pointer (some ⟨W1.heap.size + 1 + 1, 0, none⟩), .pointer (some ⟨W1.heap.size + 1, 0, none⟩)], x.1.1, undef, undef, undef, undef, undef, undef, undef, undef, undef, undef, undef, undef, undef, undef, undef, undef, undef, undef, undef, undef, undef, undef, undef, undef, undef, undef, undef, undef, undef, undef, undef, undef, undef, undef, undef, undef, undef], defers := [] })
  (fun x a' _ X Y2 row hs hg hr => by obtain ⟨Bx, h1, h2, h3⟩ := hs; exact ⟨Bx, h1, h2.own hg (fun r e => (hr r e).2), h3⟩)
  ?assign ?body ?done ?stop
 case assign =>
  rintro l pre ⟨⟨xv, y1⟩, hx⟩ W Kk hI hK
  obtain ⟨k1, n1, x1, ks1⟩ := y1
  obtain ⟨a5, c5, rfl, -⟩ := LExpr.inv hx
  have hlt : W1.heap.size < W.heap.size := by obtain ⟨sv, hB, -⟩ := id hI; exact hB.lt
  gi_wp2
  exact hK _ _ ((KeepsOthers.alloc _ _).from _) (KvS.of_below ((Below.refl _ _).alloc (Nat.le_refl _) _)) (hI.below ((Below.refl _ _).alloc (Nat.le_refl _) _)) ⟨W.heap.size, hlt, ⟨k1, n1, x1, a5, _, c5, rfl, World.alloc_heap_new W _⟩, rfl⟩
 case body =>
  rintro l pre x a' W hl hrec ⟨sv, hB, hR, hCt, hW⟩ ⟨Bx, hBx, ⟨k1, n1, x1, a4, L4, c4, he, hbx⟩, rfl⟩ hlt
  obtain ⟨⟨xv, y1⟩, hx⟩ := x
  obtain ⟨k2, n2, x2, ks2⟩ := y1
  simp only at he
  subst he
  obtain ⟨a5, c5, he2, i0', s1, s2, -⟩ := LExpr.inv hx
  simp only [Value.agg.injEq] at he2
  cases he2
  have HS : Hid (nodesT cat ((pre ++ [(⟨(_, LExpr.mk k1 n1 x1 ks2), hx⟩ : AtE w)]).map (·.1.2)) = nodesT cat (pre.map (·.1.2)) ++ nodeT cat (LExpr.mk k1 n1 x1 ks2)) := by
   show _ = _
   rw [List.map_append]; simp [nodesT]
  have hlen : (nodesT cat (pre.map (·.1.2))).length ≤ 64000000 := by
   have h1 := nodesT_len cat (pre.map (·.1.2))
   rw [List.length_map] at h1
   have h2 := HSZ.out
   omega
  obtain ⟨asv, csv, rfl⟩ := hR.shape
  generalize hTL : nodesT cat (pre.map (·.1.2)) = TL at *
  clear hTL
  have HL := Lib.hid hlen
  have g0 := objcell2 hbx (j := 0) rfl
  have g1 := objcell2 hbx (j := 1) rfl
  have g2 := objcell2 hbx (j := 2) rfl
  have hsx := cell_lt g0
  have bc0 := hB.cell
  have bf0 := hB.frozen
  have bl0 := hB.lt
  have HBB := Lib.hid hB
  have HRR := Lib.hid hR
  have HCC := Lib.hid hCt
  have HWW := Lib.hid hW
  have hww := hW.size
  generalize ks2.length = L2 at *
  clear hbx hrec hseq hB hR hCt hW hlen
  obtain ⟨hi, hz0, hz1, hz2⟩ := HINF.out
  by_cases q0 : k1 = 0
  ·subst q0
   have HN0 : Hid (nodeT cat (LExpr.mk 0 n1 x1 ks2) = [⟨n1, x1⟩]) := rfl
   have hba : Below W.heap.size W (W.alloc (.cells #[.string n1, .string x1] 60)) := (Below.refl _ _).alloc (Nat.le_refl _) _
   have hro := (HRR.out.below hba).1
   have hc1 : ∀ j q, [Value.string n1, Value.string x1][j]? = some q → (W.alloc (.cells #[.string n1, .string x1] 60)).cell? ((⟨W.heap.size, 0, none⟩ : Addr).add j) = some q := by
    intro j q hj
    match j, hj with
    | 0, hj => simp at hj; subst hj; rw [addr_add]; simp
    | 1, hj => simp at hj; subst hj; rw [addr_add]; simp
    | j + 2, hj => simp at hj
   have hc2 : ∀ q ∈ [Value.string n1, Value.string x1], q.oneCell' = true := by intro q hq; simp at hq; rcases hq with rfl | rfl <;> rfl
   have hc3 : TL.length + 1 ≤ maxLen := by have := HL.out; unfold maxLen; omega
   have hc4 : (TL.length + 1) * 32 ≤ 140737488355328 := by have := HL.out; omega
   have hc5 : w.heap.size ≤ (W.alloc (.cells #[.string n1, .string x1] 60)).heap.size := by simp; omega
   generalize hPL : TL.length = PL at *
   have HPL := Lib.hid hPL
   clear hPL
   gi_wp2_with (gi_at_builtin; refine wpListIn_append_own _ rfl _ _ 38 rfl w.heap.size 60 i0 _ 2 32 Tryz.underlying38 hi hz0 hz1 hz2 rfl (by decide) (.slice asv PL csv) PL _ rfl hro ⟨W.heap.size, 0, none⟩ 1 1 [.string n1, .string x1] rfl rfl hc1 hc2 hc3 hc4 hc5 ?_)
   intro v' w2 g2' g3' _
   have hst := tj_step (t := ⟨n1, x1⟩) HBB.out (by rw [← HPL.out] at HRR ⊢; exact HRR.out) HCC.out HWW.out (by omega) rfl s1 s2 g3' (by rw [HPL.out]; exact g2')
   obtain ⟨⟨hB2, hR2⟩, ⟨j1, j2, j3, j4⟩, hkf, hkv⟩ := hst
   obtain ⟨a6, c6, rfl⟩ := hR2.shape
   have bc2 := hB2.cell
   have bf2 := hB2.frozen
   have bl2 := hB2.lt
   have HTN : Hid (TL ++ [(⟨n1, x1⟩ : Term)] = TL ++ [⟨n1, x1⟩]) := rfl
   generalize (TL ++ [(⟨n1, x1⟩ : Term)]).length = VL at *
   have J := Lib.hid (And.intro j1 (And.intro j2 (And.intro j3 j4)))
   have HKF := Lib.hid hkf
   have HKV := Lib.hid hkv
   clear g2' g3' hc1 hc2 hc3 hc4 hc5 hro hba hB2 hR2 j1 j2 j3 j4 hkf hkv hi hz0 hz1 hz2 bc0 bf0 bl0 g0 g1 g2 hsx HTN
   gi_wp2
   exact ⟨HKF.out _, HKV.out, _, J.out.1, by rw [HS.out, HN0.out]; exact J.out.2.1, J.out.2.2.1, J.out.2.2.2⟩
  have q0' : (k1 == 0) = false := by simpa using q0
  by_cases q1 : k1 = 1
  ·subst q1
   have HN0 : Hid (nodeT cat (LExpr.mk 1 n1 x1 ks2) = ((laterC cat n1).getD []).map ofN) := rfl
   have d0 := objcell2 HCC.out (j := 0) rfl
   have d1 := objcell2 HCC.out (j := 1) rfl
   have d2 := objcell2 HCC.out (j := 2) rfl
   have d3 := objcell2 HCC.out (j := 3) rfl
   have hcall := Later_o W _ cat n1 (HG.out.mono HWW.out) (HC.out.mono HWW.out)
   have hnl := names_le cat n1
   generalize (laterC cat n1).getD [] = NM at *
   gi_wp2_with (refine ⟨trivial, ?_⟩; gi_at_call 88; refine (CallsIn.inRound l (callsIn_wide.2 hcall)).mono ?_; clear hcall; rintro e W3 ⟨s, rfl, ⟨his, hno⟩, hb3⟩; obtain ⟨aS, cS, rfl, hnc, hcm, hrw⟩ := list_inv his; simp only [maxLen] at hcm; have hz3 := hb3.size; have g0' := kept hb3 g0; have g1' := kept hb3 g1; have g2' := kept hb3 g2)
   generalize hMl : NM.length = M at *
   have HM := Lib.hid hMl
   have HNL := Lib.hid hnl
   have HB3 : Hid (Boxed W3 W1.heap.size 38 (.slice asv TL.length csv)) := (hb3.block _ HBB.out.lt).trans HBB.out
   have HNO := Lib.hid hno
   have HRW := Lib.hid hrw
   have HKF3 : Hid (∀ B, KeepsFrom B W W3) := fun B => keeps_below hb3
   have HKV3 : Hid (KvS w.heap.size (· = W1.heap.size) W W3) := KvS.of_below hb3
   have HR3 : Hid (RowT w.heap.size W3 (.slice asv TL.length csv) (TL ++ (NM.take 0).map ofN)) := by show RowT _ _ _ _; rw [List.take_zero, List.map_nil, List.append_nil]; exact HRR.out.below hb3
   have HC3 := Lib.hid (obj_below HCC.out hb3)
   have HW3 : Hid (Below w.heap.size w W3) := HWW.out.trans (hb3.mono hww)
   clear hno hrw his hb3 d0 d1 d2 d3 g0 g1 g2 g0' g1' g2' bc0 bf0 bl0 hsx hMl hnl HBB HRR HCC HWW q0 q0' hi hz0 hz1 hz2 i0' s1 s2
   gi_loopw [45] (fun kv wr => ∃ (i : Nat) (sv : Value), i ≤ M ∧ kv = .int .i64 i ∧ Hid (Boxed wr W1.heap.size 38 sv) ∧ Hid (RowT w.heap.size wr sv (TL ++ (NM.take i).map ofN)) ∧ Hid (wr.heap[w.heap.size]? = some (.cells #[.slice a0 N0 c0, .slice a1 N1 c1, .slice a2 N2 c2, .slice a3 N3 c3] 27 (0, 0))) ∧ Hid (Below w.heap.size w wr) ∧ Hid (∀ B, KeepsFrom B W wr) ∧ Hid (KvS w.heap.size (· = W1.heap.size) W wr) ∧ Hid (KvS w.heap.size (· = W1.heap.size) W3 wr)) (fun kv _ => M - (intOf kv).toNat)
   case atStart => exact ⟨0, _, by omega, rfl, HB3, HR3, HC3, HW3, HKF3, HKV3, KvS.refl _ _ _⟩
   case round =>
    obtain ⟨i, sv, hi, rfl, HBr, HRr, HCr, HWr, HKFr, HKVr, HK3r⟩ := hrel
    by_cases hki : i < M
    ·have hkz : (i : Int) < (M : Int) := by omega
     have hk0 : (0 : Int) ≤ (i : Int) := by omega
     obtain ⟨y, hy⟩ := get_lt (xs := NM) (k := i) (by rw [HM.out]; exact hki)
     obtain ⟨b, off, rfl, hb, y0', sy⟩ := str_at HRW.out hy
     have y0 := nm_cell HNO.out HK3r.out HB3.out y0'
     have hsy := cell_lt y0
     have SY := Lib.hid sy
     have HS2 : Hid (TL ++ (NM.take (i + 1)).map ofN = (TL ++ (NM.take i).map ofN) ++ [⟨y, ByteArray.empty⟩]) := by show _ = _; rw [take_at hy]; simp [ofN]
     have hlen2 : (TL ++ (NM.take i).map ofN).length ≤ 64000032 := by
      have h1 := HL.out
      have h2 := HNL.out
      rw [List.length_append, List.length_map, List.length_take]; omega
     generalize TL ++ (NM.take i).map ofN = TI at *
     obtain ⟨asv2, csv2, rfl⟩ := HRr.out.shape
     have hwl := HBr.out.lt
     have hwz := HWr.out.size
     have bc0 := HBr.out.cell
     have bf0 := HBr.out.frozen
     obtain ⟨hi0, hz0, hz1, hz2⟩ := HINF.out
     have hba : Below wr.heap.size wr (wr.alloc (.cells #[.string y, .string ByteArray.empty] 60)) := (Below.refl _ _).alloc (Nat.le_refl _) _
     have hro := (HRr.out.below hba).1
     have hc1 : ∀ j q, [Value.string y, Value.string ByteArray.empty][j]? = some q → (wr.alloc (.cells #[.string y, .string ByteArray.empty] 60)).cell? ((⟨wr.heap.size, 0, none⟩ : Addr).add j) = some q := by
      intro j q hj
      match j, hj with
      | 0, hj => simp at hj; subst hj; rw [addr_add]; simp
      | 1, hj => simp at hj; subst hj; rw [addr_add]; simp
      | j + 2, hj => simp at hj
     have hc2 : ∀ q ∈ [Value.string y, Value.string ByteArray.empty], q.oneCell' = true := by intro q hq; simp at hq; rcases hq with rfl | rfl <;> rfl
     have hc3 : TI.length + 1 ≤ maxLen := by unfold maxLen; omega
     have hc4 : (TI.length + 1) * 32 ≤ 140737488355328 := by omega
     have hc5 : w.heap.size ≤ (wr.alloc (.cells #[.string y, .string ByteArray.empty] 60)).heap.size := by simp; omega
     clear hy y0' hb sy hlen2
     generalize hPL : TI.length = PL at *
     have HPL := Lib.hid hPL
     clear hPL
     gi_wp2_with (gi_at_builtin; refine wpListIn_append_own _ rfl _ _ 38 rfl w.heap.size 60 i0 _ 2 32 Tryz.underlying38 hi0 hz0 hz1 hz2 rfl (by decide) (.slice asv2 PL csv2) PL _ rfl hro ⟨wr.heap.size, 0, none⟩ 1 1 [.string y, .string ByteArray.empty] rfl rfl hc1 hc2 hc3 hc4 hc5 ?_)
     intro v' w2 g2' g3' _
     have hst := tj_step (t := ⟨y, ByteArray.empty⟩) HBr.out (by rw [← HPL.out] at HRr ⊢; exact HRr.out) HCr.out HWr.out (by omega) rfl SY.out (show ByteArray.empty.size ≤ maxLen by decide) g3' (by rw [HPL.out]; exact g2')
     obtain ⟨⟨hB2, hR2⟩, ⟨j1, j2, j3, j4⟩, hkf, hkv⟩ := hst
     obtain ⟨a6, c6, rfl⟩ := hR2.shape
     have bc2 := hB2.cell
     have bf2 := hB2.frozen
     have bl2 := hB2.lt
     have HTN : Hid (TI ++ [(⟨y, ByteArray.empty⟩ : Term)] = TI ++ [⟨y, ByteArray.empty⟩]) := rfl
     generalize (TI ++ [(⟨y, ByteArray.empty⟩ : Term)]).length = VL at *
     have J := Lib.hid (And.intro j1 (And.intro j2 (And.intro j3 j4)))
     have HKF := Lib.hid hkf
     have HKV := Lib.hid hkv
     clear g2' g3' hc1 hc2 hc3 hc4 hc5 hro hba hB2 hR2 j1 j2 j3 j4 hkf hkv hi0 hz0 hz1 hz2 bc0 bf0 y0 hsy HTN
     gi_wp2
     go_roundw
     case rel => exact ⟨i + 1, _, by omega, by go_num, J.out.1, by show RowT _ _ _ _; rw [HS2.out]; exact J.out.2.1, J.out.2.2.1, J.out.2.2.2, fun B => (HKFr.out B).trans (HKF.out B), HKVr.out.trans HKV.out, HK3r.out.trans HKV.out⟩
     case measure => simp [intOf]; omega
    ·have hkz : ¬ (i : Int) < (M : Int) := by omega
     have hTK : NM.take i = NM := List.take_of_length_le (by rw [HM.out]; omega)
     have HTK := Lib.hid hTK
     clear hTK
     gi_wp2
     exact ⟨HKFr.out _, HKVr.out, _, HBr.out, by rw [HS.out, HN0.out]; have := HRr.out; rw [HTK.out] at this; exact this, HCr.out, HWr.out⟩
  have q1' : (k1 == 1) = false := by simpa using q1
  have HN0 : Hid (nodeT cat (LExpr.mk k1 n1 x1 ks2) = []) := by show _ = _; unfold nodeT; simp [LExpr.kind, q0, q1]
  clear q0 q1
  gi_wp2
  exact ⟨KeepsFrom.refl _ _, KvS.refl _ _ _, _, HBB.out, by rw [HS.out, HN0.out, List.append_nil]; exact HRR.out, HCC.out, HWW.out⟩
 case done =>
  rintro D zs W hD hzs ⟨sv, hB, hR, hCt, hW⟩ hK
  have hlen : (nodesT cat (nodesE Y)).length < 4611686018427387904 := by
   have h1 := nodesT_len cat (nodesE Y)
   rw [nodes_length] at h1
   have h2 := HSZ.out
   omega
  rw [hzs] at hR
  obtain ⟨asv, csv, rfl⟩ := hR.shape
  have hBl := hB.lt
  have hwD : w.heap.size < D := by omega
  have hS := SortTermX_p hR hlen
  have HB := Lib.hid hB
  have HW := Lib.hid hW
  have HK := Lib.hid hK
  have bc0 := hB.cell
  clear hseq hR hlen hB hCt hW hK hzs
  generalize nodesT cat (nodesE Y) = TL at *
  generalize TL.length = VL at *
  gi_wp2_with fail
  refine ⟨trivial, ?_⟩
  gi_at_call 89
  refine (callsIn_wide.2 hS).mono ?_
  clear hS
  rintro e W2 ⟨rfl, hR2, hb2, ha2⟩
  have hB2 : Boxed W2 W1.heap.size 38 _ := ag_box ha2 HB.out (by decide)
  have HK2 := Lib.hid (ag_def ha2 HK.out)
  have HW2 : Hid (Below w.heap.size w W2) := HW.out.trans hb2
  have hC := CompactX_p hR2
  have bc2 := hB2.cell
  have bl2 := hB2.lt
  clear hR2 hb2 ha2 hB2 HB HW HK bc0
  gi_wp2_with fail
  refine ⟨trivial, ?_⟩
  gi_at_call 91
  refine (callsIn_wide.2 hC).mono ?_
  clear hC
  rintro e W3 ⟨v3, rfl, hR3, hb3, ha3⟩
  have HK3 := Lib.hid (ag_def ha3 HK2.out)
  have HW3 : Hid (Below w.heap.size w W3) := HW2.out.trans hb3
  have HR3 := Lib.hid hR3
  clear hR3 hb3 ha3
  gi_wp2
  refine ⟨by simp, .inl ⟨_, _, rfl, run_takeDeferred HK3.out, ?_⟩⟩
  refine ⟨.tuple #[v3, .int .i64 0], ?_, v3, rfl, (HR3.out.grown (grownBy_putObj' _ D (.deferred none)) (fun r e => by cases e; exact ⟨_, HK3.out, rfl⟩)).is, HW3.out.trans (belowK_b (w := w) (Nat.le_refl _) _ D _ _ (by omega) HK3.out rfl rfl)⟩
  simp [results, Tryz.results40, go_sem]
 case stop =>
  rintro D cd pre W _ _ hh _
  exact hh.elim
set_option maxRecDepth 100000 in
theorem Terms_p (w : World) (vc v : Value) (cat : Catalog) (y : LExpr) (hg : Glob w) (hc : Is w vc cat) (h : Is w v y) (hsz : sizeE y ≤ 1000000) (hok : checkE cat y = 0) :
  Calls Tryz.prog 40 #[vc, v] w (TrO (nodesT cat (nodesE y)) w) := callsIn_wide.1 (Terms_in w vc v cat y hg hc h hsz hok)
end Go.Proofs.YtaaobpicaaeiiaaGreatDoor
namespace Go.Proofs.YtaaobpicaaeiiaaGreatDoor
open Go Go.RowKit Go.ChangeShapes Go.WideShapes Go.ChangeAt
theorem opens_bool : Opens Bool 4 := by
 intro H enc w spare held fuel cs x h
 obtain ⟨b, rfl, -⟩ := DataW.trod_bool Tryz.underlying4 h
 exact ⟨rfl, b, rfl⟩
theorem opens_bools : Opens (List Bool) 56 := opens_list Tryz.underlying56 (by kernel_rfl) (by decide) opens_bool
end Go.Proofs.YtaaobpicaaeiiaaGreatDoor
namespace Go.Proofs.YtaaobpicaaeiiaaGreatDoor
open Go Go.RowKit Go.ChangeShapes Go.Sort Go.Lib

theorem bool_at {w : World} {a : Option Addr} {i : Nat} {xs : List Bool} {x : Bool} (h : Row w a xs) (hx : xs[i]? = some x) :
  ∃ b off, a = some ⟨b, off, none⟩ ∧ b < w.heap.size ∧ w.cell? ⟨b, off + i, none⟩ = some (.bool x) := by
 obtain ⟨b, off, ha, hb, hi⟩ := h i x hx
 have h1 : w.cell? ⟨b, off + i * 1 + 0, none⟩ = some (.bool x) := hi
 exact ⟨b, off, ha, hb, by simpa using h1⟩
set_option maxRecDepth 100000 in
set_option maxHeartbeats 8000000 in
theorem AlternativeDecides_p (w : World) (vc v vb : Value) (c : Catalog) (y : LExpr) (bits : List Bool) (hg : Glob w) (hc : Is w vc c) (h : Is w v y) (hbit : Is w vb bits) (oy : okE y) : Calls Tryz.prog 10 #[vc, v, vb] w fun e w' => e = .returned (.bool true) ∧ Below w.heap.size w w' := by
 obtain ⟨k0, n0, x0, a, K, k, rfl⟩ := expBox h
 obtain ⟨a0, N0, c0, a1, N1, c1, a2, N2, c2, a3, N3, c3, rfl⟩ := catBox hc
 obtain ⟨hb0, hd, he⟩ := box2 w #[.slice a0 N0 c0, .slice a1 N1 c1, .slice a2 N2 c2, .slice a3 N3 c3] #[.int .i64 k0, .string n0, .string x0, .slice a K k] 27 30
 have HG := Lib.hid (hg.mono hb0)
 have HC := Lib.hid (hc.mono hb0)
 have HI := Lib.hid (h.mono hb0)
 have HW := Lib.hid hb0
 have OY := Lib.hid oy
 obtain ⟨ab, cb, rfl, hbn, hbm, hbr⟩ := list_inv hbit
 simp only [maxLen] at hbm
 have HBT := Lib.hid (Row.mono hbr hb0)
 clear hbr hbit
 generalize hNB : bits.length = NB at *
 have HNB := Lib.hid hNB
 clear hNB
 have d0 := hd 0 _ rfl
 have d1 := hd 1 _ rfl
 have d2 := hd 2 _ rfl
 have d3 := hd 3 _ rfl
 have e0 := he 0 _ rfl
 have e1 := he 1 _ rfl
 have e2 := he 2 _ rfl
 have e3 := he 3 _ rfl
 clear hd he hb0 hc h oy hg
 go_enter Tryz.func10, Tryz.ntmps10
 go_wp2_with fail
 generalize ((w.alloc (.cells #[.slice a0 N0 c0, .slice a1 N1 c1, .slice a2 N2 c2, .slice a3 N3 c3] 27)).alloc (.cells #[.int .i64 k0, .string n0, .string x0, .slice a K k] 30)) = w0 at *
 have D0 := Lib.hid d0
 have D1 := Lib.hid d1
 have D2 := Lib.hid d2
 have D3 := Lib.hid d3
 have E0 := Lib.hid e0
 have E1 := Lib.hid e1
 have E2 := Lib.hid e2
 have E3 := Lib.hid e3
 clear d0 d1 d2 d3 e0 e1 e2 e3
 refine (awakeG_p _ HG.out).mono ?_
 rintro e w1 ⟨rfl, hb1⟩
 have HB1 := Lib.hid hb1
 clear hb1
 have d0 := kept HB1.out D0.out
 have d1 := kept HB1.out D1.out
 have d2 := kept HB1.out D2.out
 have d3 := kept HB1.out D3.out
 have e0 := kept HB1.out E0.out
 have e1 := kept HB1.out E1.out
 have e2 := kept HB1.out E2.out
 have e3 := kept HB1.out E3.out
 have s0 := cell_lt e0
 have s1 := cell_lt d0
 go_wp2_with fail
 refine (small_p w1 _ _ c y (HC.out.mono HB1.out) (HI.out.mono HB1.out) OY.out).mono ?_
 unfold SmO
 rintro e w2 ⟨fs, rfl, few, hb2⟩
 have HB2 : Hid (Below w0.heap.size w0 w2) := HB1.out.trans (hb2.mono HB1.out.size)
 clear hb2 d0 d1 d2 d3 e0 e1 e2 e3 s0 s1
 cases fs
 case false =>
  clear few
  go_wp2
  go_ret
  exact ⟨rfl, HW.out.trans (HB2.out.mono HW.out.size)⟩
 have HFE := Lib.hid (few rfl)
 clear few
 have d0 := kept HB2.out D0.out
 have d1 := kept HB2.out D1.out
 have d2 := kept HB2.out D2.out
 have d3 := kept HB2.out D3.out
 have e0 := kept HB2.out E0.out
 have e1 := kept HB2.out E1.out
 have e2 := kept HB2.out E2.out
 have e3 := kept HB2.out E3.out
 have s0 := cell_lt e0
 have s1 := cell_lt d0
 by_cases hq : (40 : Int) < (NB : Int)
 ·go_wp2
  go_ret
  exact ⟨rfl, HW.out.trans (HB2.out.mono HW.out.size)⟩
 have HDO := Lib.hid (decides_of (c := c) (e := y))
 have HDA := Lib.hid (fun h ts => decides_all (c := c) (e := y) h (ts := ts))
 have HCA := Lib.hid (of_checkA (c := c) (e := y))
 have HOK := Lib.hid (fun h => (ofP_ok (c := c) (e := y) h).1)
 have HER := Lib.hid (ofP_err (c := c) (e := y))
 have hp := Of_p c y (.inl pairsC) (by have := HFE.out; omega) w2 _ _ (HG.out.mono HB2.out) (HC.out.mono HB2.out) (HI.out.mono HB2.out)
 generalize ofP c y = pp at *
 obtain ⟨l, f⟩ := pp
 unfold MeO at hp
 go_wp2_with fail
 refine hp.mono ?_
 rintro e w3 ⟨v3, rfl, ho3, hb3⟩
 have HB3 : Hid (Below w0.heap.size w0 w3) := HB2.out.trans (hb3.mono HB2.out.size)
 have I3 : Hid (Is w3 v3 l) := Lib.hid ho3.is
 clear hp hb3 ho3 d0 d1 d2 d3 e0 e1 e2 e3 s0 s1
 by_cases q : f = 0
 case neg =>
  obtain rfl : l = [] := HER.out q
  obtain ⟨a3', c3', rfl, -⟩ := list_inv I3.out
  have q1 : (f != 0) = true := by simpa using q
  clear q HDO HDA HCA HOK HER
  go_wp2
  go_ret
  exact ⟨ret_b (by simp), HW.out.trans (HB3.out.mono HW.out.size)⟩
 obtain ⟨a3', c3', rfl, -⟩ := list_inv I3.out
 subst q
 have hDO : ∀ ts, satP l ts = holdsE c ts y := HDO.out rfl
 have hDA : ∀ ts : List Term, (∀ t ∈ nodesT c (nodesE y), t ∈ ts) → satP l ts = true := HDA.out rfl
 have hCA : checkA l = 0 := HCA.out rfl
 have HDO' := Lib.hid hDO
 have HCA' := Lib.hid hCA
 have hcall := Terms_p w3 _ _ c y (HG.out.mono HB3.out) (HC.out.mono HB3.out) (HI.out.mono HB3.out) (by have := HFE.out; omega) (HOK.out rfl)
 have HSA : Hid (satP l (normT (nodesT c (nodesE y))) = true) := hDA _ fun t ht => normT_mem.2 ht
 clear HDO HDA HCA HOK HER hDO hDA hCA
 unfold TrO at hcall
 generalize normT (nodesT c (nodesE y)) = al at *
 generalize hL : l.length = L at *
 have HL := Lib.hid hL
 clear hL
 have d0 := kept HB3.out D0.out
 have d1 := kept HB3.out D1.out
 have d2 := kept HB3.out D2.out
 have d3 := kept HB3.out D3.out
 have e0 := kept HB3.out E0.out
 have e1 := kept HB3.out E1.out
 have e2 := kept HB3.out E2.out
 have e3 := kept HB3.out E3.out
 have s0 := cell_lt e0
 have s1 := cell_lt d0
 go_wp2_with fail
 refine hcall.mono ?_
 rintro e w4 ⟨v4, rfl, hi4, hb4⟩
 have HB4 : Hid (Below w0.heap.size w0 w4) := HB3.out.trans (hb4.mono HB3.out.size)
 have J3 := Lib.hid (I3.out.mono hb4)
 have hchk := CheckA_p w4 _ l J3.out
 rw [HCA'.out] at hchk
 have I4 := Lib.hid hi4
 obtain ⟨a4', c4', rfl, hn4, hm4, hr4⟩ := list_inv hi4
 simp only [maxLen] at hm4
 have HR4 := Lib.hid hr4
 clear hcall hb4 hi4 hr4 HCA' d0 d1 d2 d3 e0 e1 e2 e3 s0 s1
 generalize hN : al.length = N at *
 have HN := Lib.hid hN
 clear hN
 go_wp2_with fail
 refine hchk.mono ?_
 rintro e w5 ⟨rfl, hb5⟩
 have HB45 := Lib.hid hb5
 have HB5 : Hid (Below w0.heap.size w0 w5) := HB4.out.trans (hb5.mono HB4.out.size)
 have hz5 : w0.heap.size ≤ w5.heap.size := HB5.out.size
 clear hchk hb5
 go_wp2
 go_loopw [10, 50] (fun sv iv wr => ∃ (i : Nat) (ls : List Term), i ≤ N ∧ iv = .int .i64 i ∧ Hid (Below w5.heap.size w5 wr) ∧ Hid (RowT w5.heap.size wr sv ls) ∧ Hid (ls.length ≤ i ∧ ls.length ≤ 40)) (fun _ iv _ => N - (intOf iv).toNat)
 case atStart => exact ⟨0, [], by omega, rfl, Lib.hid (Below.refl _ _), Lib.hid (rowT_nil _ _), Lib.hid ⟨by simp, by simp⟩⟩
 case round =>
  obtain ⟨i, ls, hi, rfl, HB, HO, HLN⟩ := hrel
  have HBw : Hid (Below w0.heap.size w0 wr) := HB5.out.trans (HB.out.mono hz5)
  have HB4w : Hid (Below w4.heap.size w4 wr) := HB45.out.trans (HB.out.mono HB45.out.size)
  have hzr : w5.heap.size ≤ wr.heap.size := HB.out.size
  by_cases hki : i < N
  case neg =>
   have hkz : ¬ (i : Int) < (N : Int) := by omega
   have d0 := kept HBw.out D0.out
   have d1 := kept HBw.out D1.out
   have d2 := kept HBw.out D2.out
   have d3 := kept HBw.out D3.out
   have e0 := kept HBw.out E0.out
   have e1 := kept HBw.out E1.out
   have e2 := kept HBw.out E2.out
   have e3 := kept HBw.out E3.out
   have s0 := cell_lt e0
   have s1 := cell_lt d0
   have hs1 := fun W (hb : Below wr.heap.size wr W) => Satisfied_p W _ _ l ls ((J3.out.mono HB4w.out).mono hb) (HO.out.is.mono hb)
   have hs2 := fun W (hb : Below wr.heap.size wr W) => Satisfied_p W _ _ l al ((J3.out.mono HB4w.out).mono hb) ((I4.out.mono HB4w.out).mono hb)
   have hs3 := fun W (hb : Below wr.heap.size wr W) => holds_p c ls y W _ _ _ ((HG.out.mono HBw.out).mono hb) ((HC.out.mono HBw.out).mono hb) ((HI.out.mono HBw.out).mono hb) (HO.out.is.mono hb)
   rw [HSA.out] at hs2
   rw [HDO'.out ls] at hs1
   obtain ⟨aS, cS, rfl⟩ := HO.out.shape
   generalize holdsE c ls y = bb at *
   generalize ls.length = M at *
   go_wp2
   refine wp_region_quietC (C := fun w' => Below wr.heap.size wr w' ∧ w'.cell? ⟨w.heap.size, 0, none⟩ = some (.slice a0 N0 c0) ∧ w'.cell? ⟨w.heap.size, 1, none⟩ = some (.slice a1 N1 c1) ∧ w'.cell? ⟨w.heap.size, 2, none⟩ = some (.slice a2 N2 c2) ∧ w'.cell? ⟨w.heap.size, 3, none⟩ = some (.slice a3 N3 c3) ∧ w'.cell? ⟨w.heap.size + 1, 0, none⟩ = some (.int .i64 k0) ∧ w'.cell? ⟨w.heap.size + 1, 1, none⟩ = some (.string n0) ∧ w'.cell? ⟨w.heap.size + 1, 2, none⟩ = some (.string x0) ∧ w'.cell? ⟨w.heap.size + 1, 3, none⟩ = some (.slice a K k)) (by kernel_rfl) (by kernel_rfl) (by exact ⟨(Below.refl _ _).drewN 1, d0, d1, d2, d3, e0, e1, e2, e3⟩) ?_
   repeat
    first
    | (refine quiet_no (by rfl) ?_; try simp only [tkS, Act.put])
    | (refine quiet_yes (v := ?_) (by rfl) ?_ ?_
       rotate_left
       ·intro w' hw'
        obtain ⟨hb5, d0, d1, d2, d3, e0, e1, e2, e3⟩ := hw'
        go_simp
        first
        | with_reducible rfl
        | exact ⟨rfl, rfl⟩
        | (first | (go_at_call 21; refine (hs1 _ hb5).mono ?_; rintro e w'' ⟨rfl, hb6⟩; refine ⟨?_, hb5.trans (hb6.mono hb5.size), kept hb6 d0, kept hb6 d1, kept hb6 d2, kept hb6 d3, kept hb6 e0, kept hb6 e1, kept hb6 e2, kept hb6 e3⟩; with_reducible rfl) | (go_at_call 41; refine (hs3 _ hb5).mono ?_; rintro e w'' ⟨rfl, hb6⟩; refine ⟨?_, hb5.trans (hb6.mono hb5.size), kept hb6 d0, kept hb6 d1, kept hb6 d2, kept hb6 d3, kept hb6 e0, kept hb6 e1, kept hb6 e2, kept hb6 e3⟩; with_reducible rfl) | (go_at_call 21; refine (hs2 _ hb5).mono ?_; rintro e w'' ⟨rfl, hb6⟩; refine ⟨?_, hb5.trans (hb6.mono hb5.size), kept hb6 d0, kept hb6 d1, kept hb6 d2, kept hb6 d3, kept hb6 e0, kept hb6 e1, kept hb6 e2, kept hb6 e3⟩; with_reducible rfl))
       try simp only [tkS, Act.put])
   refine wpQuiet_nil ?_
   intro w5x hw'
   obtain ⟨hb5, d0, d1, d2, d3, e0, e1, e2, e3⟩ := hw'
   have HB9 : Hid (Below w0.heap.size w0 w5x) := HBw.out.trans (hb5.mono HBw.out.size)
   clear hb5 hs1 hs2 hs3 d0 d1 d2 d3 e0 e1 e2 e3
   go_wp2
   go_ret
   exact ⟨ret_b (by simp), HW.out.trans (HB9.out.mono HW.out.size)⟩
  have hkz : (i : Int) < (N : Int) := by omega
  obtain ⟨t, ht⟩ := get_lt (xs := al) (k := i) (by rw [HN.out]; exact hki)
  obtain ⟨b, off, rfl, hb, x0', x1', s0, s1⟩ := Term.at_row HR4.out ht
  have y0 := kept HB4w.out x0'
  have y1 := kept HB4w.out x1'
  have hsy := cell_lt y0
  have S0 := Lib.hid s0
  have S1 := Lib.hid s1
  clear ht hb x0' x1' s0 s1
  have hba : Below wr.heap.size wr (wr.alloc (.cells #[.string t.license, .string t.exception] 60)) := (by repeat (first | exact zR _ _ | assumption | refine zN ?_ _ | refine zD ?_ | refine zA ?_ ?_ _ | refine zS ?_ ?_ _ | refine zT ?_ (zM (by assumption) ?_) | exact Nat.le_refl _ | (simp <;> omega) | omega))
  have HBA := Lib.hid hba
  have HO2 := Lib.hid (HO.out.below hba)
  have HB5a : Hid (Below w5.heap.size w5 (wr.alloc (.cells #[.string t.license, .string t.exception] 60))) := HB.out.trans (hba.mono hzr)
  clear hba
  by_cases hkb : i < NB
  case neg =>
   have hkn : ¬ (i : Int) < (NB : Int) := by omega
   obtain ⟨aS, cS, rfl⟩ := HO.out.shape
   have HLS := Lib.hid HLN.out
   clear HO HLN
   generalize hM : ls.length = M at *
   have HM := Lib.hid hM
   clear hM
   go_wp2
   go_roundw
   case rel => exact ⟨i + 1, ls, by omega, by go_num, HB5a, by first | exact HO2 | (rw [← HM.out] at HO2; exact HO2), Lib.hid ⟨by have := HLS.out.1; have := HM.out; omega, by have := HLS.out.2; have := HM.out; omega⟩⟩
   case measure => simp [intOf]; omega
  have hkn : (i : Int) < (NB : Int) := by omega
  obtain ⟨bv, hbv⟩ := get_lt (xs := bits) (k := i) (by rw [HNB.out]; exact hkb)
  obtain ⟨b2, off2, rfl, hb2, z0'⟩ := bool_at HBT.out hbv
  have z0 := kept HBw.out z0'
  have hsz := cell_lt z0
  clear hbv hb2 z0'
  cases bv
  case false =>
   obtain ⟨aS, cS, rfl⟩ := HO.out.shape
   have HLS := Lib.hid HLN.out
   clear HO HLN
   generalize hM : ls.length = M at *
   have HM := Lib.hid hM
   clear hM
   go_wp2
   go_roundw
   case rel => exact ⟨i + 1, ls, by omega, by go_num, HB5a, by first | exact HO2 | (rw [← HM.out] at HO2; exact HO2), Lib.hid ⟨by have := HLS.out.1; have := HM.out; omega, by have := HLS.out.2; have := HM.out; omega⟩⟩
   case measure => simp [intOf]; omega
  case true =>
   have hlb : ls.length ≤ 1000000000 := by have := HLN.out.2; omega
   have hza : w5.heap.size ≤ (wr.alloc (.cells #[.string t.license, .string t.exception] 60)).heap.size := HB5a.out.size
   have t0 : (wr.alloc (.cells #[.string t.license, .string t.exception] 60)).cell? ⟨wr.heap.size, 0, none⟩ = some (.string t.license) := by simp
   clear HO
   go_wp2_with (at_builtin; go_loud (refine app_term rfl _ _ rfl w5.heap.size _ ls rfl HO2.out t ?cx S0.out S1.out hlb hza ?_))
   (try case cx => show Value.slice (some ⟨_, 0, none⟩) 1 1 = _; simp)
   intro v6 w6 ho6 hb6
   have HB6 : Hid (Below w5.heap.size w5 w6) := HB5a.out.trans hb6
   have HO6 := Lib.hid ho6
   clear ho6 hb6 y0 y1 z0 hsy hsz t0
   go_wp2
   go_roundw
   case rel => exact ⟨i + 1, ls ++ [t], by omega, by go_num, HB6, HO6, Lib.hid ⟨by have := HLN.out.1; simp; omega, by have := HLN.out.1; simp; omega⟩⟩
   case measure => simp [intOf]; omega
end Go.Proofs.YtaaobpicaaeiiaaGreatDoor
