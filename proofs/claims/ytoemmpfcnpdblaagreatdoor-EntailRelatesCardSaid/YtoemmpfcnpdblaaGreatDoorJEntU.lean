/- Layer 34: its tests on lists. -/
import Derived.RangeFuncNested
import Derived.RangeFuncBound
import Derived.RangeFuncCalls
import Derived.RangeFuncLeaves
import Derived.RangeFuncBox
import Derived.Shelf.Abstract
import Derived.Shelf.RegionOpen
import Derived.OwnWalkIn
import Derived.TacticsInMore
import Derived.LoopNIn
import Derived.LoopIn
import Derived.Maps.AppendAt
import Derived.Test.YtoemmpfcnpdblaaGreatDoorJCmpU
set_option linter.all false
namespace Go.Proofs.YtoemmpfcnpdblaaGreatDoor
open Go Go.RowKit Go.ChangeShapes Go.Sort Go.Lib

theorem neqTerm (x y : Term) (w : World) : (Go.binOp BinOp.neq 67 (.agg #[.string x.license, .string x.exception]) (.agg #[.string y.license, .string y.exception])).run Tryz.prog w = .ok (.bool (!decide (x = y))) w := by
 have u3 := Tryz.underlying9
 have a3 := Tryz.isAgg9
 have z3 := Tryz.sizeOf9
 have hS : Tryz.prog.underlying 67 = some (.struct (Tryz.prog.fieldsOf 67)) := by kernel_rfl
 have hp : Tryz.prog.stoodInHeld 67 = false := by kernel_rfl
 rw [run_neq_struct, show (10000 : Nat) = 9999 + 1 from rfl, run_equalIn_agg w 9999 67 _ _ hS hp]
 simp only [Program.fieldsOf, Tryz.underlying67]
 go_simp
 have e : decide (x = y) = ((x.license.toList == y.license.toList) && (x.exception.toList == y.exception.toList)) := by
  rw [ba_eq, ba_eq, Bool.eq_iff_iff]
  cases x; cases y
  simp
 rw [e]
 by_cases h1 : x.license.toList = y.license.toList <;> by_cases h2 : x.exception.toList = y.exception.toList <;> simp [h1, h2]
set_option maxRecDepth 100000 in
set_option maxHeartbeats 1000000 in
theorem EqualTerm_p (w : World) (v1 v2 : Value) (xs ys : List Term) (h1 : Is w v1 xs) (h2 : Is w v2 ys) :
  Calls Tryz.prog 44 #[v1, v2] w fun e w' => e = .returned (.bool (decide (xs = ys))) ∧ Below w.heap.size w w' := by
 obtain ⟨a, c, rfl, hnc, hcm, hr⟩ := list_inv h1
 obtain ⟨a2, c2, rfl, hnd, hdm, hs⟩ := list_inv h2
 simp only [maxLen] at hcm hdm
 have HR := Lib.hid hr
 have HS := Lib.hid hs
 clear hr hs h1 h2
 generalize hN : xs.length = N at *
 have HN := Lib.hid hN
 clear hN
 generalize hM : ys.length = M at *
 have HM := Lib.hid hM
 clear hM
 by_cases hne : N = M
 ·subst hne
  go_enter Tryz.func44, Tryz.ntmps44
  go_wp2
  go_loopw [13] (fun kv wr => ∃ k : Nat, k ≤ N ∧ kv = .int .i64 k ∧ (∃ n, wr = w.drewN n) ∧ Hid (decide (xs = ys) = decide (xs.drop k = ys.drop k))) (fun kv _ => N - (intOf kv).toNat)
  case atStart => exact ⟨0, by omega, rfl, ⟨0, rfl⟩, rfl⟩
  case round =>
   obtain ⟨k, hk, rfl, ⟨n, rfl⟩, hf⟩ := hrel
   by_cases hki : k < N
   ·have hkz : (k : Int) < (N : Int) := by omega
    have hk0 : (0 : Int) ≤ (k : Int) := by omega
    obtain ⟨x, hx⟩ := get_lt (xs := xs) (k := k) (by rw [HN.out]; exact hki)
    obtain ⟨y, hy⟩ := get_lt (xs := ys) (k := k) (by rw [HM.out]; exact hki)
    have hd := Lib.hid (dec_cons (drop_at hx) (drop_at hy) _ hf.out)
    obtain ⟨b, off, rfl, hb, y0, y1, -⟩ := Term.at_row HR.out hx
    obtain ⟨b', off', rfl, hb', u0, u1, -⟩ := Term.at_row HS.out hy
    have hq := fun W => neqTerm x y W
    clear hx hy
    cases e9 : decide (x = y)
    case false =>
     rw [e9] at hq
     have HF : Hid (decide (xs = ys) = false) := by show _ = _; rw [hd.out, e9]; simp
     clear hd e9 hf
     go_wp2
     go_quiet (fail)
     go_wp2
     go_ret
     exact ⟨ret_b HF.out.symm, (by repeat (first | exact zR _ _ | assumption | refine zN ?_ _ | refine zD ?_ | refine zA ?_ ?_ _ | refine zS ?_ ?_ _ | refine zT ?_ (zM (by assumption) ?_) | exact Nat.le_refl _ | (simp <;> omega) | omega))⟩
    case true =>
     rw [e9] at hq
     have HT : Hid (decide (xs = ys) = decide (xs.drop (k + 1) = ys.drop (k + 1))) := by show _ = _; rw [hd.out, e9, Bool.true_and]
     clear hd e9 hf
     go_wp2
     go_quiet (fail)
     go_wp2
     go_roundw
     case rel => exact ⟨k + 1, by omega, by go_num, ⟨_, rfl⟩, HT⟩
     case measure => simp [intOf]; omega
   ·have hkz : ¬ (k : Int) < (N : Int) := by omega
    have HT : Hid (decide (xs = ys) = true) := by
     show _ = _
     rw [hf.out, List.drop_eq_nil_of_le (by rw [HN.out]; omega), List.drop_eq_nil_of_le (by rw [HM.out]; omega)]; simp
    clear hf
    go_wp2
    go_ret
    exact ⟨ret_b HT.out.symm, (by repeat (first | exact zR _ _ | assumption | refine zN ?_ _ | refine zD ?_ | refine zA ?_ ?_ _ | refine zS ?_ ?_ _ | refine zT ?_ (zM (by assumption) ?_) | exact Nat.le_refl _ | (simp <;> omega) | omega))⟩
 ·have q1 : ((N : Int) == (M : Int)) = false := by simpa using fun h => hne (by omega)
  have q2 : ((N : Int) != (M : Int)) = true := by simpa using fun h => hne (by omega)
  have HT : Hid (decide (xs = ys) = false) := by
   show _ = _
   rw [decide_eq_false_iff_not]; rintro rfl; exact hne (HN.out.symm.trans HM.out)
  clear hne
  go_enter Tryz.func44, Tryz.ntmps44
  go_wp2
  go_ret
  exact ⟨ret_b HT.out.symm, Below.refl _ _⟩
set_option maxRecDepth 100000 in
set_option maxHeartbeats 1000000 in
theorem minimal1_p (w : World) (v : Value) (xs : List (List Term)) (h : Is w v xs) :
  Calls Tryz.prog 102 #[v] w fun e w' => e = .returned (.bool (!(checkA xs == 0))) ∧ Below w.heap.size w w' := by
 have HF := CheckA_p w v xs h
 obtain ⟨a, c, rfl, -⟩ := list_inv h
 clear h
 generalize checkA xs = r at *
 generalize xs.length = N at *
 cases q : (r == 0)
 all_goals
  have q2 : (r != 0) = !(r == 0) := rfl
  rw [q] at q2
  go_enter Tryz.func102, Tryz.ntmps102
  go_wp2_with fail
  refine HF.mono ?_
  rintro e w1 ⟨rfl, hb⟩
  go_wp2
  go_ret
  exact ⟨rfl, hb⟩
set_option maxRecDepth 100000 in
set_option maxHeartbeats 1000000 in
theorem minimalE_p (w : World) (v : Value) (ls : List (List (List Term))) (h : Is w v ls) :
  Calls Tryz.prog 45 #[v] w fun e w' => e = .returned (.bool (!ls.any fun l => !(checkA l == 0))) ∧ Below w.heap.size w w' := by
 have eg : ∀ args w, (callFunc 102 args).run Tryz.prog w = .ok (.enter 102 args) w := enters_of Tryz.func102 (by kernel_rfl) rfl
 have HF := ContainsFuncAlts w v ls (fun l => !(checkA l == 0)) 102 #[] eg h (fun i x _ W v _ hv => minimal1_p W v x hv)
 obtain ⟨a, c, rfl, -⟩ := list_inv h
 clear h eg
 generalize (ls.any fun l => !(checkA l == 0)) = bb at *
 generalize ls.length = N at *
 go_enter Tryz.func45, Tryz.ntmps45
 go_wp2_with fail
 refine HF.mono ?_
 rintro e w1 ⟨rfl, hb⟩
 go_wp2
 go_ret
 exact ⟨rfl, hb⟩
set_option maxRecDepth 100000 in
set_option maxHeartbeats 1000000 in
theorem contains1_p (w : World) (g : Nat) (v1 v2 : Value) (xs ys : List Term) (hc : w.cell? ⟨g, 0, none⟩ = some v1) (h1 : Is w v1 xs) (h2 : Is w v2 ys) :
  Calls Tryz.prog 106 #[v2, .pointer (some ⟨g, 0, none⟩)] w fun e w' => e = .returned (.bool (conA xs ys)) ∧ Below w.heap.size w w' := by
 have hg := cell_lt hc
 have HF := Contains_p w v1 v2 xs ys h1 h2
 obtain ⟨a, c, rfl, -⟩ := list_inv h1
 obtain ⟨b, d, rfl, -⟩ := list_inv h2
 clear h1 h2
 generalize conA xs ys = r at *
 generalize xs.length = N at *
 generalize ys.length = M at *
 go_enter Tryz.func106, Tryz.ntmps106
 go_wp2_with fail
 refine HF.mono ?_
 rintro e w1 ⟨rfl, hb⟩
 go_wp2
 go_ret
 exact ⟨rfl, hb⟩
set_option maxRecDepth 100000 in
set_option maxHeartbeats 1000000 in
theorem Check1E_p (w : World) (g : Nat) (v1 v2 : Value) (xs ys : List Term) (hc : w.cell? ⟨g, 0, none⟩ = some v1) (h1 : Is w v1 xs) (h2 : Is w v2 ys) :
  Calls Tryz.prog 48 #[v2, .pointer (some ⟨g, 0, none⟩)] w fun e w' => e = .returned (.bool (decide (xs = ys))) ∧ Below w.heap.size w w' := by
 have hg := cell_lt hc
 have HF := EqualTerm_p w v1 v2 xs ys h1 h2
 obtain ⟨a, c, rfl, -⟩ := list_inv h1
 obtain ⟨b, d, rfl, -⟩ := list_inv h2
 clear h1 h2
 generalize decide (xs = ys) = r at *
 generalize xs.length = N at *
 generalize ys.length = M at *
 go_enter Tryz.func48, Tryz.ntmps48
 go_wp2_with fail
 refine HF.mono ?_
 rintro e w1 ⟨rfl, hb⟩
 go_wp2
 go_ret
 exact ⟨rfl, hb⟩
set_option maxRecDepth 100000 in
set_option maxHeartbeats 1000000 in
theorem containsE_p (w : World) (v1 v2 : Value) (x : List Term) (l : List (List Term)) (h1 : Is w v1 x) (h2 : Is w v2 l) :
  Calls Tryz.prog 49 #[v1, v2] w fun e w' => e = .returned (.bool (l.any (conA x))) ∧ Below w.heap.size w w' := by
 have HI := Lib.hid h1
 obtain ⟨a, c, rfl, -⟩ := list_inv h1
 have hba : Below w.heap.size w (w.alloc (.cells #[.slice a x.length c] 24)) := (by repeat (first | exact zR _ _ | assumption | refine zN ?_ _ | refine zD ?_ | refine zA ?_ ?_ _ | refine zS ?_ ?_ _ | refine zT ?_ (zM (by assumption) ?_) | exact Nat.le_refl _ | (simp <;> omega) | omega))
 have hcell : (w.alloc (.cells #[.slice a x.length c] 24)).cell? ⟨w.heap.size, 0, none⟩ = some (.slice a x.length c) := by simp
 have eg : ∀ args w, (callFunc 106 args).run Tryz.prog w = .ok (.enter 106 args) w := enters_of Tryz.func106 (by kernel_rfl) rfl
 have HF := ContainsFuncAlt (w.alloc (.cells #[.slice a x.length c] 24)) v2 l (conA x) 106 #[.pointer (some ⟨w.heap.size, 0, none⟩)] eg (h2.mono hba) (fun i y _ W v hb hv =>
  contains1_p W w.heap.size (.slice a x.length c) v x y (kept hb hcell) ((HI.out.mono hba).mono hb) hv)
 obtain ⟨a2, c2, rfl, -⟩ := list_inv h2
 clear h1 h2 hba hcell eg
 generalize l.any (conA x) = bb at *
 generalize x.length = N at *
 generalize l.length = M at *
 go_enter Tryz.func49, Tryz.ntmps49
 go_wp2_with fail
 refine HF.mono ?_
 rintro e w1 ⟨rfl, hb⟩
 go_wp2
 go_ret
 exact ⟨rfl, (by repeat (first | exact zR _ _ | assumption | refine zN ?_ _ | refine zD ?_ | refine zA ?_ ?_ _ | refine zS ?_ ?_ _ | refine zT ?_ (zM (by assumption) ?_) | exact Nat.le_refl _ | (simp <;> omega) | omega))⟩
end Go.Proofs.YtoemmpfcnpdblaaGreatDoor
namespace Go.Proofs.YtoemmpfcnpdblaaGreatDoor
open Go Go.RowKit Go.ChangeShapes Go.Sort Go.Lib Go.Shelf
attribute [local go_sem] Oper.semAt_some

theorem grown_below {W W' : World} (h : Below W.heap.size W W') : W.grownBy W' none := ⟨h.os, h.tape, h.output, h.size, fun k hk _ => h.block k hk⟩
theorem keeps_below {B : Nat} {W W' : World} (h : Below W.heap.size W W') : KeepsFrom B W W' := KeepsFrom.of_grownBy (grown_below h) (fun j e => by cases e)
set_option maxRecDepth 100000 in
theorem infoTerm : (Tryz.prog.info? 67).map (fun i => (i.zero, i.size, i.bytes)) = some (some (.agg #[.string ByteArray.empty, .string ByteArray.empty]), 2, 32) := by kernel_rfl
theorem sizeTerm : ∀ w, (Go.sizeOf 67).run Tryz.prog w = .ok 2 w := Tryz.sizeOf67
theorem row_cells {w : World} {b off : Nat} {xs : List Term} (h : Row w (some ⟨b, off, none⟩) xs) : ∀ j u, (xs.map encT).flatten[j]? = some u → w.cell? ⟨b, off + j, none⟩ = some u := by
 intro j u hj
 have hl : ∀ l ∈ xs.map encT, l.length = 2 := by intro l hl; obtain ⟨x, -, rfl⟩ := List.mem_map.1 hl; rfl
 have hlen : ∀ ls : List (List Value), (∀ l ∈ ls, l.length = 2) → ls.flatten.length = ls.length * 2 := by
  intro ls
  induction ls with
  | nil => simp
  | cons a r ih => intro h; simp only [List.flatten_cons, List.length_append, List.length_cons, ih (fun l hl => h l (by simp [hl])), h a (by simp)]; omega
 have hjl : j < xs.length * 2 := by
  have := (List.getElem?_eq_some_iff.1 hj).1
  rw [hlen _ hl] at this; simpa using this
 obtain ⟨x, hx⟩ := get_lt (xs := xs) (k := j / 2) (by omega)
 have h1 := flatten_get (xs.map encT) (j / 2) (j % 2) (encT x) hl (by rw [List.getElem?_map, hx]; rfl) (by omega)
 rw [show j / 2 * 2 + j % 2 = j by omega, hj] at h1
 obtain ⟨b', off', he, -, c0, c1, -⟩ := Term.at_row h hx
 cases he
 rcases Nat.lt_or_ge (j % 2) 1 with h2 | h2
 ·have e : j % 2 = 0 := by omega
  rw [e] at h1
  simp [encT] at h1
  rw [h1, show off + j = off + j / 2 * 2 by omega]; exact c0
 ·have e : j % 2 = 1 := by omega
  rw [e] at h1
  simp [encT] at h1
  rw [h1, show off + j = off + j / 2 * 2 + 1 by omega]; exact c1
theorem encT_one {xs : List Term} : ∀ u ∈ (xs.map encT).flatten, u.oneCell' = true := by
 intro u hu
 obtain ⟨l, hl, hu⟩ := List.mem_flatten.1 hu
 obtain ⟨x, -, rfl⟩ := List.mem_map.1 hl
 simp [encT] at hu
 rcases hu with rfl | rfl <;> rfl
theorem ownT_mk {B : Nat} {E : TypeId → Prop} {w : World} {v : Value} {xs : List Term} (h : w.ownsRow B 67 2 v xs.length (xs.map encT).flatten) (hs : ∀ x ∈ xs, x.license.size ≤ maxLen ∧ x.exception.size ≤ maxLen) : OwnL B E 67 w v xs := by
 refine ⟨xs.map encT, by simp, h, fun i y x hy hx => ?_⟩
 rw [List.getElem?_map, hx] at hy
 cases hy
 exact ⟨rfl, fun w' _ => Term.is_iff.2 ⟨rfl, rfl, hs x (List.mem_of_getElem? hx)⟩⟩
def RowT (B : Nat) (w : World) (v : Value) (xs : List Term) : Prop := w.ownsRow B 67 2 v xs.length (xs.map encT).flatten ∧ ∀ x ∈ xs, x.license.size ≤ maxLen ∧ x.exception.size ≤ maxLen
theorem RowT.own {B : Nat} {w : World} {v : Value} {xs : List Term} (h : RowT B w v xs) (E : TypeId → Prop) : OwnL B E 67 w v xs := ownT_mk h.1 h.2
theorem RowT.is {B : Nat} {w : World} {v : Value} {xs : List Term} (h : RowT B w v xs) : Is w v xs := (h.own fun _ => True).is
theorem RowT.shape {B : Nat} {w : World} {v : Value} {xs : List Term} (h : RowT B w v xs) : ∃ a c, v = .slice a xs.length c := by
 rcases h.1.2 with ⟨rfl, h0⟩ | ⟨g, cap, cur, rfl, -⟩
 ·rw [h0]; exact ⟨_, _, rfl⟩
 ·exact ⟨_, _, rfl⟩
theorem RowT.keep {B : Nat} {w w' : World} {v : Value} {xs : List Term} (h : RowT B w v xs) (hk : ∀ g, B ≤ g → g < w.heap.size → (∃ cs, w.heap[g]? = some (.cells cs 67 (0, 0))) → w'.heap[g]? = w.heap[g]?) : RowT B w' v xs := by
 refine ⟨⟨h.1.1, h.1.2.imp id ?_⟩, h.2⟩
 rintro ⟨g, cap, cur, a, b, c, d⟩
 have hg : g < w.heap.size := by
  rcases Nat.lt_or_ge g w.heap.size with h | h
  ·exact h
  ·rw [Array.getElem?_eq_none h] at c; cases c
 exact ⟨g, cap, cur, a, b, by rw [hk g b hg ⟨_, c⟩]; exact c, d⟩
theorem RowT.below {B : Nat} {w w' : World} {v : Value} {xs : List Term} (h : RowT B w v xs) (hb : Below w.heap.size w w') : RowT B w' v xs := h.keep fun g _ hg _ => hb.block g hg
theorem RowT.setCell {B : Nat} {w : World} {v : Value} {xs : List Term} (h : RowT B w v xs) {a : Addr} (u : Value) (ha : a.block < B) : RowT B (w.setCell a u) v xs := h.keep fun g hg _ _ => blk_set_other w a u g (by omega)
theorem RowT.grown {B : Nat} {w w' : World} {v : Value} {xs : List Term} (h : RowT B w v xs) {row : Option Nat} (hg : w.grownBy w' row) (hr : ∀ r, row = some r → ∃ o : Obj, w.heap[r]? = some o ∧ o.isCells = false) : RowT B w' v xs :=
 h.keep fun g _ hlt ⟨cs, hc⟩ => hg.block g hlt fun e => by
  obtain ⟨o, ho, hn⟩ := hr g e.symm
  rw [hc] at ho; cases ho; cases hn
set_option maxRecDepth 100000 in
theorem CloneTerm_p (w : World) (v : Value) (xs : List Term) (h : Is w v xs) (hn : xs.length ≤ 1000000) :
  Calls Tryz.prog 104 #[v] w fun e w' => ∃ v', e = .returned v' ∧ RowT w.heap.size w' v' xs ∧ Below w.heap.size w w' := by
 obtain ⟨a, c, rfl, hnc, hcm, hr⟩ := list_inv h
 have hs : ∀ x ∈ xs, x.license.size ≤ maxLen ∧ x.exception.size ≤ maxLen := by
  intro x hx
  obtain ⟨i, hi, rfl⟩ := List.mem_iff_getElem.1 hx
  have hx2 : xs[i]? = some xs[i] := by simp
  obtain ⟨b, off, -, -, -, -, s⟩ := Term.at_row hr hx2
  exact s
 cases a with
 | none =>
  have h0 : xs = [] := by
   cases xs with
   | nil => rfl
   | cons x r => obtain ⟨b, off, h1, -⟩ := hr 0 x rfl; cases h1
  subst h0
  refine (AnyE.slices_Clone_nil Tryz.cloneTerm 0 c w).mono ?_
  rintro e w' ⟨rfl, rfl⟩
  exact ⟨_, rfl, ⟨⟨rfl, .inl ⟨rfl, rfl⟩⟩, fun x hx => by simp at hx⟩, Below.refl _ _⟩
 | some p =>
  obtain ⟨i0, hi, hz0, hz1, hz2⟩ := info_parts infoTerm
  by_cases h0 : xs = []
  ·subst h0
   clear hr h
   have q24 : ∀ (w : World) (a : Option Addr) (n c n' c' : Nat), (binOp .eql 24 (.slice a n c) (.slice none n' c')).run Tryz.prog w = .ok (.bool a.isNone) w := fun w a n c n' c' => Lib.run_eql_slice_nil w _ _ a n c n' c' Tryz.underlying24
   have u22 := Tryz.underlying24
   go_enter Tryz.func104, Tryz.ntmps104
   go_wp2_with (at_builtin; refine wpList_append_own _ rfl _ _ 24 rfl w.heap.size 67 i0 _ 2 32 Tryz.underlying24 hi hz0 hz1 hz2 rfl (by decide) _ _ _ rfl (World.ownsRow_made w #[] 0 (Nat.le_refl _) (Nat.zero_le _) (by simp)) p 0 c [] rfl ?qc1 ?qc2 ?qc3 ?qc4 ?qc5 ?qc6 ?_)
   case qc1 => rfl
   case qc2 => intro j u hj; simp at hj
   case qc3 => intro u hu; simp at hu
   case qc4 => decide
   case qc5 => decide
   case qc6 => simp
   intro v' w1 hown hgrow hnil
   go_wp2
   go_ret
   exact ⟨v', rfl, ⟨by simpa using hown, hs⟩, ((Below.refl _ w).alloc (Nat.le_refl _) _).grown hgrow (by simp) (by intro k hk; simp [Value.ownBlock] at hk; omega)⟩
  ·obtain ⟨x, r, rfl⟩ : ∃ x r, xs = x :: r := by cases xs with | nil => exact absurd rfl h0 | cons x r => exact ⟨x, r, rfl⟩
   obtain ⟨b, off, he, -⟩ := hr 0 x rfl
   cases he
   refine (AnyE.slices_Clone Tryz.cloneTerm i0 _ 2 32 hi hz0 hz1 hz2 rfl (by decide) sizeTerm b off (x :: r).length c ((x :: r).map encT).flatten w ?_ (by unfold maxLen; omega) (by omega) (row_cells hr) encT_one).mono ?_
   ·have hlen : ∀ ls : List Term, (ls.map encT).flatten.length = ls.length * 2 := by
     intro ls; induction ls with
     | nil => rfl
     | cons a r ih => simp only [List.map_cons, List.flatten_cons, List.length_append, ih, List.length_cons]; simp [encT]; omega
    exact hlen _
   ·rintro e w' ⟨v', rfl, ho, -, hb⟩
    exact ⟨v', rfl, ⟨ho, hs⟩, hb⟩
abbrev AtT (w : World) : Type := { p : Value × List Term // Is w p.1 p.2 ∧ p.2.length ≤ 1000000 }
set_option maxRecDepth 100000 in
theorem separating_p (w : World) (a1 a2 : Option Addr) (n1 c1 n2 c2 : Nat) :
  Calls Tryz.prog 103 #[.slice a1 n1 c1, .slice a2 n2 c2] w fun e w' => e = .returned (.func (.func 170) #[] #[.pointer (some ⟨w.heap.size, 0, none⟩), .pointer (some ⟨w.heap.size + 1, 0, none⟩)]) ∧ w' = (w.alloc (.cells #[.slice a1 n1 c1] 22)).alloc (.cells #[.slice a2 n2 c2] 22) := by
 go_enter Tryz.func103, Tryz.ntmps103
 go_wp2
 go_ret
 exact ⟨by simp, rfl⟩
def sepB (b : List (List Term)) (x : List Term) : Bool := !b.any (conA x)
theorem filter_snocB {α : Type} (p : α → Bool) {xs : List α} {k : Nat} {x : α} (hx : xs[k]? = some x) : (xs.take (k + 1)).filter p = (xs.take k).filter p ++ (if p x then [x] else []) := by
 rw [take_at hx, List.filter_append]; simp [List.filter_cons]
set_option maxRecDepth 100000 in
set_option maxHeartbeats 4000000 in
theorem separating1_in (n : Nat) (hn : 1 ≤ n) (l ga gb : Nat) (w0 : World) (v1 v2 : Value) (xs ys : List (List Term)) (h1 : Is w0 v1 xs) (h2 : Is w0 v2 ys) (hm : ∀ x ∈ xs, x.length ≤ 1000000) (J Jx : List (AtT w0) → World → Prop)
  (W : World) (hW : Below w0.heap.size w0 W) (hJ : AbidesFrom W.heap.size J)
  (hY : ∀ pre x W1, J pre W1 → pre.length < xs.length → YieldAt Fence.wide (n - 1) Tryz.prog l #[x.1.1] W1 fun e W' => (e = .returned (.bool true) ∧ J (pre ++ [x]) W' ∧ Below w0.heap.size W1 W') ∨ (e = .returned (.bool false) ∧ Jx (pre ++ [x]) W'))
  (ca : w0.cell? ⟨ga, 0, none⟩ = some v1) (cb : w0.cell? ⟨gb, 0, none⟩ = some v2) (h0 : J [] W) :
  CallsIn Fence.wide n Tryz.prog 170 #[.func (.yield l) #[] #[], .pointer (some ⟨ga, 0, none⟩), .pointer (some ⟨gb, 0, none⟩)] W fun e W' => (∃ v, e = .returned v) ∧
   ((∃ zs : List (AtT w0), zs.map (·.1.2) = xs.filter (sepB ys) ∧ J zs W') ∨ (∃ pre : List (AtT w0), pre.map (·.1.2) <+: xs.filter (sepB ys) ∧ Jx pre W')) := by
 have HI1 := Lib.hid h1
 have HI2 := Lib.hid h2
 obtain ⟨a1, c1, rfl, hnc, hcm, hr⟩ := list_inv h1
 obtain ⟨a2, c2, rfl, -⟩ := list_inv h2
 simp only [maxLen] at hcm
 have HR := Lib.hid hr
 have HW := Lib.hid hW
 have HJ := Lib.hid hJ
 have HY := Lib.hid hY
 have CA := Lib.hid ca
 have CB := Lib.hid cb
 have H0 := Lib.hid h0
 have HMX := Lib.hid hm
 clear hr h1 h2 hW hJ hY ca cb h0 hm
 generalize hN : xs.length = N at *
 have HN := Lib.hid hN
 clear hN
 generalize ys.length = M at *
 have ca := HW.out.cell (p := ⟨ga, 0, none⟩) (cell_lt CA.out) |>.trans CA.out
 have cb := HW.out.cell (p := ⟨gb, 0, none⟩) (cell_lt CB.out) |>.trans CB.out
 refine callsIn_of_wp Tryz.func170 rfl trivial ?_ rfl
 simp only [Tryz.ntmps170, List.size_toArray, List.length_cons, List.length_nil, Nat.reduceAdd, Nat.reduceSub, Array.replicate_succ, Array.replicate_zero, List.push_toArray, List.append_toArray, List.nil_append, List.cons_append]
 gi_wp2
 clear ca cb
 gi_loopw [8] (fun kv wr => ∃ (k : Nat) (pre : List (AtT w0)), k ≤ N ∧ kv = .int .i64 k ∧ Hid (Below w0.heap.size w0 wr) ∧ Hid (pre.length ≤ k) ∧ Hid (pre.map (·.1.2) = (xs.take k).filter (sepB ys)) ∧ Hid (J pre wr) ∧ Hid (W.heap.size ≤ wr.heap.size)) (fun kv _ => N - (intOf kv).toNat)
 case atStart => exact ⟨0, [], by omega, rfl, HW.out, Nat.le_refl _, rfl, H0, Nat.le_refl _⟩
 case round =>
  obtain ⟨k, pre, hk, rfl, HB, HL, HM, HJs, HZ⟩ := hrel
  by_cases hki : k < N
  ·have hkz : (k : Int) < (N : Int) := by omega
   obtain ⟨x, hx⟩ := get_lt (xs := xs) (k := k) (by rw [HN.out]; exact hki)
   obtain ⟨bx, ox, rfl, hbx, ax, cx, x0', hx1, hx2, hx3⟩ := list_at HR.out hx
   have x0 := kept HB.out x0'
   have cb := kept HB.out CB.out
   have hsx := cell_lt x0
   have hlb : gb < wr.heap.size := cell_lt cb
   have hxi : Is w0 (.slice ax x.length cx) x ∧ x.length ≤ 1000000 := ⟨list_mk hx1 hx2 hx3, HMX.out x (List.mem_of_getElem? hx)⟩
   have HS := Lib.hid (filter_snocB (sepB ys) hx)
   have hcall := containsE_p wr (.slice ax x.length cx) (.slice a2 M c2) x ys (hxi.1.mono HB.out) (HI2.out.mono HB.out)
   have HQ : Hid (sepB ys x = !ys.any (conA x)) := rfl
   clear hx x0' hx3
   generalize ys.any (conA x) = bb at hcall HQ
   have hdd : ∀ k : Nat, (Fence.wide.depth.isSome = true → 1 ≤ k) := fun k h => by cases h
   cases bb
   case true =>
    have hcall2 : CallsIn Fence.wide (n - 1) Tryz.prog _ _ _ _ := callsIn_wide.2 hcall
    clear hcall
    have HT : Hid (pre.map (·.1.2) = (xs.take (k + 1)).filter (sepB ys)) := by show _ = _; rw [HM.out, HS.out, HQ.out]; simp
    gi_wp2_with (refine ⟨trivial, ?_⟩; gi_at_call 49; refine hcall2.mono ?_; clear hcall2; rintro e w2 ⟨rfl, hb2⟩)
    have HB2 : Hid (Below w0.heap.size w0 w2) := HB.out.trans (hb2.mono HB.out.size)
    have HJ2 : Hid (J pre w2) := HJ.out pre wr w2 none HJs.out (grown_below hb2) (fun r e => by cases e)
    have HZ2 : Hid (W.heap.size ≤ w2.heap.size) := Nat.le_trans HZ.out hb2.size
    clear hb2
    refine ⟨fun _ h => (by cases h), ?_⟩
    gi_wp2
    go_roundw
    case rel => exact ⟨k + 1, pre, by omega, by go_num, HB2, Nat.le_succ_of_le HL.out, HT, HJ2, HZ2⟩
    case measure => simp [intOf]; omega
   case false =>
    have HT : Hid ((pre ++ [(⟨(.slice ax x.length cx, x), hxi⟩ : AtT w0)]).map (·.1.2) = (xs.take (k + 1)).filter (sepB ys)) := by show _ = _; rw [List.map_append, HM.out, HS.out, HQ.out]; rfl
    have hcall2 : CallsIn Fence.wide (n - 1) Tryz.prog _ _ _ (fun e W1 => e = .returned (.bool false) ∧ Below wr.heap.size wr W1 ∧ YieldAt Fence.wide (n - 1) Tryz.prog l #[.slice ax x.length cx] W1 fun e W' =>
      (e = .returned (.bool true) ∧ J (pre ++ [⟨(.slice ax x.length cx, x), hxi⟩]) W' ∧ Below w0.heap.size W1 W') ∨ (e = .returned (.bool false) ∧ Jx (pre ++ [⟨(.slice ax x.length cx, x), hxi⟩]) W')) :=
     (callsIn_wide.2 hcall).mono fun e W1 ⟨he, hb⟩ => ⟨he, hb, HY.out pre ⟨(.slice ax x.length cx, x), hxi⟩ W1 (HJ.out pre wr W1 none HJs.out (grown_below hb) (fun r e => by cases e)) (by have := HL.out; omega)⟩
    clear hcall
    gi_wp2_with (first
     | (refine ⟨trivial, ?_⟩; gi_at_call 49; refine hcall2.mono ?_; clear hcall2; rintro e w2 ⟨rfl, hb2, fn, tmps, assign, body, hy, hR⟩)
     | ((try refine ⟨hdd _, ?_⟩); refine hR.mono ?_; clear hR; rintro e w3 (⟨rfl, hJ2, hb3⟩ | ⟨rfl, hx2⟩)))
    ·have HB3 : Hid (Below w0.heap.size w0 w3) := (HB.out.trans (hb2.mono HB.out.size)).trans hb3
     have HZ2 : Hid (W.heap.size ≤ w3.heap.size) := Nat.le_trans (Nat.le_trans HZ.out hb2.size) hb3.size
     go_roundw
     case rel => exact ⟨k + 1, _, by omega, by go_num, HB3, by show _ ≤ _; simp; exact HL.out, HT, hJ2, HZ2⟩
     case measure => simp [intOf]; omega
    ·refine bodyPost_ret (results_none rfl _ _ _) rfl ?_
     refine ⟨⟨_, rfl⟩, .inr ⟨_, ?_, hx2⟩⟩
     rw [HT.out]
     exact ((List.take_prefix _ _).filter _)
  ·have hkz : ¬ (k : Int) < (N : Int) := by omega
   gi_wp2
   go_end0
   refine ⟨⟨_, rfl⟩, .inl ⟨pre, ?_, HJs.out⟩⟩
   have := HM.out
   rw [List.take_of_length_le (by rw [HN.out]; omega)] at this
   exact this
def FirstOut (o : Option (List Term)) (w : World) (e : Ending) (w' : World) : Prop := ∃ v, e = .returned (.tuple #[v, .bool o.isSome]) ∧ Is w' v (o.getD []) ∧ Below w.heap.size w w'
theorem separating_stops (w0 : World) (ga gb : Nat) (v1 v2 : Value) (xs ys : List (List Term)) (h1 : Is w0 v1 xs) (h2 : Is w0 v2 ys) (hm : ∀ x ∈ xs, x.length ≤ 1000000) (ca : w0.cell? ⟨ga, 0, none⟩ = some v1) (cb : w0.cell? ⟨gb, 0, none⟩ = some v2) :
  SeqStopsK Fence.wide (3 - 1) Tryz.prog 170 #[.pointer (some ⟨ga, 0, none⟩), .pointer (some ⟨gb, 0, none⟩)] (fun x : AtT w0 => #[x.1.1]) (Below w0.heap.size) (fun zs => zs.map (·.1.2) = xs.filter (sepB ys)) (fun pre => pre.map (·.1.2) <+: xs.filter (sepB ys)) xs.length w0 :=
 fun l J Jx W hW hJ _ hY h0 => separating1_in 2 (by decide) l ga gb w0 v1 v2 xs ys h1 h2 hm J Jx W hW hJ hY ca cb h0
theorem sepP_filter (a b : List (List Term)) : sepP a b = (a.filter (sepB b)).head? := by
 unfold sepP
 rw [List.head?_filter]; rfl
set_option maxRecDepth 100000 in
set_option maxHeartbeats 4000000 in
theorem first_in (w : World) (v1 v2 : Value) (xs ys : List (List Term)) (h1 : Is w v1 xs) (h2 : Is w v2 ys) (hn : ∀ x ∈ xs, x.length ≤ 1000000) :
  CallsIn Fence.wide 3 Tryz.prog 46 #[v1, v2] w fun e w' => FirstOut (sepP xs ys) w e w' := by
 have HI1 := Lib.hid h1
 have HI2 := Lib.hid h2
 have HN := Lib.hid hn
 have HSP := Lib.hid (sepP_filter xs ys)
 obtain ⟨a1, c1, rfl, -⟩ := list_inv h1
 obtain ⟨a2, c2, rfl, -⟩ := list_inv h2
 clear h1 h2 hn
 generalize sepP xs ys = o at *
 generalize hN1 : xs.length = N1 at *
 generalize hN2 : ys.length = N2 at *
 have HN1 := Lib.hid hN1
 clear hN1 hN2
 refine callsIn_of_wp_marks Tryz.func46 rfl trivial ?_ rfl
 simp only [Tryz.ntmps46, List.size_toArray, List.length_cons, List.length_nil, Nat.reduceAdd, Nat.reduceSub, Array.replicate_succ, Array.replicate_zero, List.push_toArray, List.append_toArray, List.nil_append, List.cons_append]
 gi_wp2_with (refine ⟨trivial, ?_⟩; gi_at_call 103; refine (callsIn_wide.2 (separating_p _ _ _ _ _ _ _)).mono ?_; rintro e w' ⟨rfl, rfl⟩)
 have hB0 : Below w.heap.size w ((((w.alloc (.cells #[.slice none 0 0] 24)).alloc (.cells #[.bool false] 4)).alloc (.cells #[.slice a1 N1 c1] 22)).alloc (.cells #[.slice a2 N2 c2] 22)) := (by repeat (first | exact zR _ _ | assumption | refine zN ?_ _ | refine zD ?_ | refine zA ?_ ?_ _ | refine zS ?_ ?_ _ | refine zT ?_ (zM (by assumption) ?_) | exact Nat.le_refl _ | (simp <;> omega) | omega))
 have b4 := (((Boxed.new w 24 (.slice none 0 0)).alloc (.cells #[.bool false] 4)).alloc (.cells #[.slice a1 N1 c1] 22)).alloc (.cells #[.slice a2 N2 c2] 22)
 have b5 := ((Boxed.new (w.alloc (.cells #[.slice none 0 0] 24)) 4 (.bool false)).alloc (.cells #[.slice a1 N1 c1] 22)).alloc (.cells #[.slice a2 N2 c2] 22)
 have ba := (Boxed.new ((w.alloc (.cells #[.slice none 0 0] 24)).alloc (.cells #[.bool false] 4)) 22 (.slice a1 N1 c1)).alloc (.cells #[.slice a2 N2 c2] 22)
 have bb := Boxed.new (((w.alloc (.cells #[.slice none 0 0] 24)).alloc (.cells #[.bool false] 4)).alloc (.cells #[.slice a1 N1 c1] 22)) 22 (.slice a2 N2 c2)
 simp only [World.size_alloc] at b5 ba bb
 have k4 := And.intro b4.cell b4.frozen
 have k5 := And.intro b5.cell b5.frozen
 have ka := ba.cell
 have kb := bb.cell
 clear b4 b5 ba bb
 have hz : ((((w.alloc (.cells #[.slice none 0 0] 24)).alloc (.cells #[.bool false] 4)).alloc (.cells #[.slice a1 N1 c1] 22)).alloc (.cells #[.slice a2 N2 c2] 22)).heap.size = w.heap.size + 4 := by simp
 generalize ((((w.alloc (.cells #[.slice none 0 0] 24)).alloc (.cells #[.bool false] 4)).alloc (.cells #[.slice a1 N1 c1] 22)).alloc (.cells #[.slice a2 N2 c2] 22)) = W0 at *
 have hj1 := HI1.out.mono hB0
 have hj2 := HI2.out.mono hB0
 have hst := separating_stops W0 (w.heap.size + 1 + 1) (w.heap.size + 1 + 1 + 1) _ _ xs ys hj1 hj2 HN.out ka kb
 have HB0 := Lib.hid hB0
 have HZ := Lib.hid hz
 clear hB0 hz hj1 hj2 ka kb
 refine wpIn_rangeFunc_ownG rfl (by decide) (gf := 170) (lb := #[.pointer (some ⟨w.heap.size + 1 + 1, 0, none⟩), .pointer (some ⟨w.heap.size + 1 + 1 + 1, 0, none⟩)]) rfl trivial (enters_of Tryz.func170 (by kernel_rfl) rfl)
  hst belowK_t (belowK_b (Nat.le_refl _)) (Below.refl _ _) (fun _ => rfl)
  (fun pre W => (pre = [] ∧ W.cell? ⟨w.heap.size, 0, none⟩ = some (.slice none 0 0) ∧ W.frozen? ⟨w.heap.size, 0, none⟩ = false ∧ W.cell? ⟨w.heap.size + 1, 0, none⟩ = some (.bool false) ∧ W.frozen? ⟨w.heap.size + 1, 0, none⟩ = false) ∧ Below W0.heap.size W0 W)
  (fun c pre W => (c = .ret ∧ ∃ x v, pre = [x] ∧ W.cell? ⟨w.heap.size, 0, none⟩ = some v ∧ W.cell? ⟨w.heap.size + 1, 0, none⟩ = some (.bool true) ∧ RowT W0.heap.size W v x.1.2) ∧ Below w.heap.size w W)
  (OwnFrom.and (Own.from (fun st A B row hs hg hr => ⟨hs.1, cell_kept hs.2.1 hg hr, (frozen_kept hs.2.1 hg hr).trans hs.2.2.1, cell_kept hs.2.2.2.1 hg hr, (frozen_kept hs.2.2.2.1 hg hr).trans hs.2.2.2.2⟩) _) (ownFrom_below (Nat.le_refl _) (Nat.le_refl _)))
  (fun c => OwnFrom.and (Own.from (fun st A B row hs hg hr => by
   obtain ⟨e1, x, v, e2, e3, e4, e5⟩ := hs
   exact ⟨e1, x, v, e2, cell_kept e3 hg hr, cell_kept e4 hg hr, e5.grown hg hr⟩) _) (ownFrom_below (Nat.le_refl _) (by have := HZ.out; omega)))
  ⟨⟨rfl, k4.1, k4.2, k5.1, k5.2⟩, Below.refl _ _⟩
  (fun x => { tmps := #[.slice a1 N1 c1, .slice a2 N2 c2, undef, undef, .pointer (some ⟨w.heap.size, 0, none⟩), .pointer (some ⟨w.heap.size + 1, 0, none⟩), x.1.1, .slice a1 N1 c1, .slice a2 N2 c2, .func (.func 170) #[] #[.pointer (some ⟨w.heap.size + 1 + 1, 0, none⟩), .pointer (some ⟨w.heap.size + 1 + 1 + 1, 0, none⟩)], x.1.1, undef, undef], defers := [] }) ?assign ?body ?done ?stop
 case assign =>
  intro l x W K hK
  gi_wp2
  exact hK
 case body =>
  rintro l pre x W ⟨⟨rfl, hc4, hf4, hc5, hf5⟩, hB⟩ hlt
  have HBW := Lib.hid hB
  have hmem : x.1.2.length ≤ 1000000 := x.2.2
  have hcl := CloneTerm_p W x.1.1 x.1.2 (x.2.1.mono hB) hmem
  clear hB hmem hst
  gi_wp2_with (refine ⟨trivial, ?_⟩; gi_at_call 104; refine (CallsIn.inRound l (callsIn_wide.2 hcl)).mono ?_; clear hcl; rintro e w2 ⟨v', rfl, ho, hb2⟩; obtain ⟨a', c', rfl⟩ := ho.shape; have g4 := kept hb2 hc4; have g5 := kept hb2 hc5; have h4 := keptF hb2 hc4 hf4; have h5 := keptF hb2 hc5 hf5; clear hc4 hc5 hf4 hf5)
  have hs4 : w.heap.size < w2.heap.size := cell_lt g4
  have hZW : W0.heap.size ≤ W.heap.size := HBW.out.size
  have hZ0 := HZ.out
  refine ⟨((keeps_below hb2).trans ((KeepsOthers.setCell _ _ _).from _)).trans ((KeepsOthers.setCell _ _ _).from _), ⟨rfl, x, .slice a' x.1.2.length c', rfl, ?_, ?_, ?_⟩, ?_⟩
  ·rw [World.cell?_setCell_other _ _ _ _ (by simp)]
   exact World.cell?_setCell_same' _ _ _ (by rw [g4]; rfl)
  ·exact World.cell?_setCell_same' _ _ _ (by rw [World.cell?_setCell_other _ _ _ _ (by simp), g5]; rfl)
  ·have h6 := (ho.setCell (a := ⟨w.heap.size, 0, none⟩) (.slice a' x.1.2.length c') (by simp; omega)).setCell (a := ⟨w.heap.size + 1, 0, none⟩) (.bool true) (by simp; omega)
   exact ⟨⟨h6.1.1, h6.1.2.imp id fun ⟨g, cap, cur, e1, e2, e3⟩ => ⟨g, cap, cur, e1, Nat.le_trans hZW e2, e3⟩⟩, h6.2⟩
  ·have h7 : Below w.heap.size w w2 := (HB0.out.trans (HBW.out.mono (by omega))).trans (hb2.mono (by omega))
   exact (h7.setCell (p := ⟨w.heap.size, 0, none⟩) (Nat.le_refl _) _).setCell (p := ⟨w.heap.size + 1, 0, none⟩) (by simp) _
 case done =>
  rintro D zs W hD hzs ⟨⟨rfl, hc4, hf4, hc5, hf5⟩, hB⟩ hK
  have HO : Hid (o = none) := by
   show _ = _
   rw [HSP.out, ← hzs]; rfl
  have HBW : Hid (Below w.heap.size w W) := HB0.out.trans (hB.mono (by have := HZ.out; omega))
  clear hB hzs hst
  have hs4 : w.heap.size < W.heap.size := cell_lt hc4
  gi_wp2
  have hK1 := (KeepsOthers.setCell W ⟨w.heap.size, 0, none⟩ (.slice none 0 0)).same D _ hK rfl
  have hK2 := (KeepsOthers.setCell (W.setCell ⟨w.heap.size, 0, none⟩ (.slice none 0 0)) ⟨w.heap.size + 1, 0, none⟩ (.bool false)).same D _ hK1 rfl
  refine ⟨by simp, .inl ⟨_, _, rfl, run_takeDeferred hK2, ?_⟩⟩
  have g4 : ((W.setCell ⟨w.heap.size, 0, none⟩ (.slice none 0 0)).setCell ⟨w.heap.size + 1, 0, none⟩ (.bool false)).cell? ⟨w.heap.size, 0, none⟩ = some (.slice none 0 0) := by
   rw [World.cell?_setCell_other _ _ _ _ (by simp)]
   exact World.cell?_setCell_same' _ _ _ (by rw [hc4]; rfl)
  have g5 : ((W.setCell ⟨w.heap.size, 0, none⟩ (.slice none 0 0)).setCell ⟨w.heap.size + 1, 0, none⟩ (.bool false)).cell? ⟨w.heap.size + 1, 0, none⟩ = some (.bool false) :=
   World.cell?_setCell_same' _ _ _ (by rw [World.cell?_setCell_other _ _ _ _ (by simp), hc5]; rfl)
  have e4 := cell_kept g4 (grownBy_putObj' _ D (.deferred none)) (fun r e => by cases e; exact ⟨_, hK2, rfl⟩)
  have e5 := cell_kept g5 (grownBy_putObj' _ D (.deferred none)) (fun r e => by cases e; exact ⟨_, hK2, rfl⟩)
  refine ⟨.tuple #[.slice none 0 0, .bool false], ?_, .slice none 0 0, by rw [HO.out]; rfl, by rw [HO.out]; exact nil_mk _, ?_⟩
  ·simp [results, Tryz.f46, go_sem, e4, e5]
  ·exact ((HBW.out.setCell (p := ⟨w.heap.size, 0, none⟩) (Nat.le_refl _) _).setCell (p := ⟨w.heap.size + 1, 0, none⟩) (by simp) _).trans (belowK_b (w := w) (Nat.le_refl _) _ D _ _ (by have := HZ.out; omega) hK2 rfl rfl)
 case stop =>
  rintro D c pre W hD hpre ⟨⟨rfl, x, v, rfl, hc4, hc5, hx⟩, hB⟩ hK
  have HO : Hid (o = some x.1.2) := by
   show _ = _
   obtain ⟨r, hr⟩ := hpre
   rw [HSP.out, ← hr]; rfl
  have HX := Lib.hid hx
  obtain ⟨a', c', rfl⟩ := hx.shape
  clear hpre hst hx
  gi_wp2
  refine ⟨by simp, .inl ⟨_, _, rfl, run_takeDeferred hK, ?_⟩⟩
  have e4 := cell_kept hc4 (grownBy_putObj' _ D (.deferred none)) (fun r e => by cases e; exact ⟨_, hK, rfl⟩)
  have e5 := cell_kept hc5 (grownBy_putObj' _ D (.deferred none)) (fun r e => by cases e; exact ⟨_, hK, rfl⟩)
  have e6 := (HX.out.grown (grownBy_putObj' _ D (.deferred none)) (fun r e => by cases e; exact ⟨_, hK, rfl⟩)).is
  refine ⟨.tuple #[.slice a' x.1.2.length c', .bool true], ?_, .slice a' x.1.2.length c', by rw [HO.out]; rfl, by rw [HO.out]; exact e6, ?_⟩
  ·simp [results, Tryz.f46, go_sem, e4, e5]
  ·exact hB.trans (belowK_b (w := w) (Nat.le_refl _) _ D _ _ (by have := HZ.out; omega) hK rfl rfl)
set_option maxRecDepth 100000 in
theorem first_p (w : World) (v1 v2 : Value) (xs ys : List (List Term)) (h1 : Is w v1 xs) (h2 : Is w v2 ys) (hn : ∀ x ∈ xs, x.length ≤ 1000000) :
  Calls Tryz.prog 46 #[v1, v2] w fun e w' => FirstOut (sepP xs ys) w e w' := callsIn_wide.1 (first_in w v1 v2 xs ys h1 h2 hn)
end Go.Proofs.YtoemmpfcnpdblaaGreatDoor
namespace Go.Proofs.YtoemmpfcnpdblaaGreatDoor
open Go Go.RowKit Go.ChangeShapes Go.Sort Go.Lib

theorem two_box {w : World} {v1 v2 : Value} {xs ys : List (List Term)} (e : TypeId) (h1 : Is w v1 xs) (h2 : Is w v2 ys) {b : Nat} (hb : b = w.heap.size) : Is (w.alloc (.cells #[v1, v2] e)) (.slice (some ⟨b, 0, none⟩) 2 2) [xs, ys] := by
 subst hb
 have hba : Below w.heap.size w (w.alloc (.cells #[v1, v2] e)) := (Below.refl _ _).alloc (Nat.le_refl _) _
 refine list_mk (xs := [xs, ys]) (Nat.le_refl _) (by decide) fun i x hx => ⟨w.heap.size, 0, rfl, by simp, ?_⟩
 match i, hx with
 | 0, hx =>
  cases hx
  obtain ⟨a, c, rfl, l, m, r⟩ := list_inv h1
  exact ⟨a, c, by simp, l, m, r.mono hba⟩
 | 1, hx =>
  cases hx
  obtain ⟨a, c, rfl, l, m, r⟩ := list_inv h2
  exact ⟨a, c, by simp [Lay.n], l, m, r.mono hba⟩
 | i + 2, hx => simp at hx
theorem bad_any (xs ys : List (List Term)) : ([xs, ys].any fun l => !(checkA l == 0)) = badP xs ys := by simp [badP]
theorem bad_len {xs ys : List (List Term)} (h : badP xs ys = false) : ∀ x ∈ xs, x.length ≤ 1000000 := by
 intro x hx
 unfold badP at h
 rw [Bool.or_eq_false_iff] at h
 have h1 : checkA xs = 0 := by simpa using h.1
 have h2 := (checkA_ok.1 h1).2
 unfold bigA at h2
 rw [Bool.or_eq_false_iff, List.any_eq_false] at h2
 have := h2.2 x hx
 simp at this; omega
set_option maxRecDepth 100000 in
set_option maxHeartbeats 4000000 in
theorem Entails_p (w : World) (v1 v2 : Value) (xs ys : List (List Term)) (h1 : Is w v1 xs) (h2 : Is w v2 ys) :
  Calls Tryz.prog 13 #[v1, v2] w fun e w' => e = .returned (.tuple #[.bool (entP xs ys).1, .int .i64 (entP xs ys).2]) ∧ Below w.heap.size w w' := by
 have HI1 := Lib.hid h1
 have HI2 := Lib.hid h2
 have HM := Lib.hid (minimalE_p _ _ _ (two_box 22 h1 h2 rfl))
 rw [bad_any] at HM
 obtain ⟨a1, c1, rfl, -⟩ := list_inv h1
 obtain ⟨a2, c2, rfl, -⟩ := list_inv h2
 clear h1 h2
 cases q : badP xs ys
 case true =>
  have HE : Hid (entP xs ys = (false, 1)) := by show _ = _; unfold entP; rw [q]; rfl
  rw [q] at HM
  clear q
  generalize entP xs ys = r at *
  generalize xs.length = N at *
  generalize ys.length = M at *
  go_enter Tryz.func13, Tryz.ntmps13
  go_wp2_with fail
  refine HM.out.mono ?_
  rintro e w1 ⟨rfl, hb⟩
  go_wp2
  go_ret2
  exact ⟨by rw [HE.out]; rfl, (by repeat (first | exact zR _ _ | assumption | refine zN ?_ _ | refine zD ?_ | refine zA ?_ ?_ _ | refine zS ?_ ?_ _ | refine zT ?_ (zM (by assumption) ?_) | exact Nat.le_refl _ | (simp <;> omega) | omega))⟩
 case false =>
  have HE : Hid (entP xs ys = ((sepP xs ys).isNone, 0)) := by show _ = _; unfold entP; rw [q]; rfl
  have HF := fun W h1 h2 => first_p W (.slice a1 xs.length c1) (.slice a2 ys.length c2) xs ys h1 h2 (bad_len q)
  rw [q] at HM
  clear q
  generalize entP xs ys = r at *
  generalize sepP xs ys = o at *
  generalize xs.length = N at *
  generalize ys.length = M at *
  go_enter Tryz.func13, Tryz.ntmps13
  go_wp2_with fail
  refine HM.out.mono ?_
  rintro e w1 ⟨rfl, hb⟩
  have HB1 : Hid (Below w.heap.size w w1) := Lib.hid (by repeat (first | exact zR _ _ | assumption | refine zN ?_ _ | refine zD ?_ | refine zA ?_ ?_ _ | refine zS ?_ ?_ _ | refine zT ?_ (zM (by assumption) ?_) | exact Nat.le_refl _ | (simp <;> omega) | omega))
  clear hb HM
  go_wp2_with fail
  refine (HF w1 (HI1.out.mono HB1.out) (HI2.out.mono HB1.out)).mono ?_
  unfold FirstOut
  rintro e w2 ⟨v, rfl, hv, hb2⟩
  obtain ⟨va, vc, rfl, -⟩ := list_inv hv
  have HB2 : Hid (Below w.heap.size w w2) := HB1.out.trans (hb2.mono HB1.out.size)
  clear hb2 hv HF
  cases o with
  | none =>
   go_wp2
   go_ret2
   exact ⟨by rw [HE.out]; rfl, HB2.out⟩
  | some x =>
   go_wp2
   go_ret2
   exact ⟨by rw [HE.out]; rfl, HB2.out⟩
def SepOut (o : Option (List Term)) (er : Int) (w : World) (e : Ending) (w' : World) : Prop := ∃ v, e = .returned (.tuple #[v, .bool o.isSome, .int .i64 er]) ∧ Is w' v (o.getD []) ∧ Below w.heap.size w w'
def sepO (xs ys : List (List Term)) : Option (List Term) := if badP xs ys then none else sepP xs ys
def badE (xs ys : List (List Term)) : Int := if badP xs ys then 1 else 0
set_option maxRecDepth 100000 in
set_option maxHeartbeats 4000000 in
theorem Separating_p (w : World) (v1 v2 : Value) (xs ys : List (List Term)) (h1 : Is w v1 xs) (h2 : Is w v2 ys) :
  Calls Tryz.prog 17 #[v1, v2] w fun e w' => SepOut (sepO xs ys) (badE xs ys) w e w' := by
 have HI1 := Lib.hid h1
 have HI2 := Lib.hid h2
 have HM := Lib.hid (minimalE_p _ _ _ (two_box 22 h1 h2 rfl))
 rw [bad_any] at HM
 obtain ⟨a1, c1, rfl, -⟩ := list_inv h1
 obtain ⟨a2, c2, rfl, -⟩ := list_inv h2
 clear h1 h2
 cases q : badP xs ys
 case true =>
  have HE : Hid (sepO xs ys = none) := by show _ = _; unfold sepO; rw [q]; rfl
  have HD : Hid (badE xs ys = 1) := by show _ = _; unfold badE; rw [q]; rfl
  rw [q] at HM
  clear q
  generalize sepO xs ys = r at *
  generalize badE xs ys = d at *
  generalize xs.length = N at *
  generalize ys.length = M at *
  go_enter Tryz.func17, Tryz.ntmps17
  go_wp2_with fail
  refine HM.out.mono ?_
  rintro e w1 ⟨rfl, hb⟩
  go_wp2
  go_ret3
  exact ⟨_, by rw [HE.out, HD.out]; rfl, by rw [HE.out]; exact nil_mk _, (by repeat (first | exact zR _ _ | assumption | refine zN ?_ _ | refine zD ?_ | refine zA ?_ ?_ _ | refine zS ?_ ?_ _ | refine zT ?_ (zM (by assumption) ?_) | exact Nat.le_refl _ | (simp <;> omega) | omega))⟩
 case false =>
  have HE : Hid (sepO xs ys = sepP xs ys) := by show _ = _; unfold sepO; rw [q]; rfl
  have HD : Hid (badE xs ys = 0) := by show _ = _; unfold badE; rw [q]; rfl
  have HF := fun W h1 h2 => first_p W (.slice a1 xs.length c1) (.slice a2 ys.length c2) xs ys h1 h2 (bad_len q)
  rw [q] at HM
  clear q
  generalize sepP xs ys = o at *
  generalize badE xs ys = d at *
  generalize sepO xs ys = r at *
  generalize xs.length = N at *
  generalize ys.length = M at *
  go_enter Tryz.func17, Tryz.ntmps17
  go_wp2_with fail
  refine HM.out.mono ?_
  rintro e w1 ⟨rfl, hb⟩
  have HB1 : Hid (Below w.heap.size w w1) := Lib.hid (by repeat (first | exact zR _ _ | assumption | refine zN ?_ _ | refine zD ?_ | refine zA ?_ ?_ _ | refine zS ?_ ?_ _ | refine zT ?_ (zM (by assumption) ?_) | exact Nat.le_refl _ | (simp <;> omega) | omega))
  clear hb HM
  go_wp2_with fail
  refine (HF w1 (HI1.out.mono HB1.out) (HI2.out.mono HB1.out)).mono ?_
  unfold FirstOut
  rintro e w2 ⟨v, rfl, hv, hb2⟩
  have HV := Lib.hid hv
  obtain ⟨va, vc, rfl, -⟩ := list_inv hv
  have HB2 : Hid (Below w.heap.size w w2) := HB1.out.trans (hb2.mono HB1.out.size)
  clear hb2 hv HF
  generalize (o.getD []).length = L at *
  generalize ho : o.isSome = os
  have HO := Lib.hid ho
  clear ho
  go_wp2
  go_ret3
  exact ⟨_, by rw [HE.out, HD.out, HO.out]; rfl, by rw [HE.out]; exact HV.out, HB2.out⟩
set_option maxRecDepth 100000 in
set_option maxHeartbeats 4000000 in
theorem CheckE_p (w : World) (v1 v2 v3 : Value) (xs ys : List (List Term)) (x : List Term) (h1 : Is w v1 xs) (h2 : Is w v2 ys) (h3 : Is w v3 x) :
  Calls Tryz.prog 15 #[v1, v2, v3] w fun e w' => e = .returned (.int .i64 (chkP xs ys x)) ∧ Below w.heap.size w w' := by
 have HI1 := Lib.hid h1
 have HI2 := Lib.hid h2
 have HI3 := Lib.hid h3
 obtain ⟨a1, c1, rfl, -⟩ := list_inv h1
 obtain ⟨a2, c2, rfl, -⟩ := list_inv h2
 obtain ⟨a3, c3, rfl, -⟩ := list_inv h3
 clear h1 h2 h3
 have hba : Below w.heap.size w (w.alloc (.cells #[.slice a3 x.length c3] 24)) := (by repeat (first | exact zR _ _ | assumption | refine zN ?_ _ | refine zD ?_ | refine zA ?_ ?_ _ | refine zS ?_ ?_ _ | refine zT ?_ (zM (by assumption) ?_) | exact Nat.le_refl _ | (simp <;> omega) | omega))
 have bx := Boxed.new w 24 (.slice a3 x.length c3)
 have hz : (w.alloc (.cells #[.slice a3 x.length c3] 24)).heap.size = w.heap.size + 1 := by simp
 have HM := minimalE_p _ _ _ (two_box 22 (HI1.out.mono hba) (HI2.out.mono hba) (b := w.heap.size + 1) hz.symm)
 rw [bad_any] at HM
 have eg : ∀ args w, (callFunc 48 args).run Tryz.prog w = .ok (.enter 48 args) w := enters_of Tryz.func48 (by kernel_rfl) rfl
 have HF := fun W (hb : Below (w.alloc (.cells #[.slice a3 x.length c3] 24)).heap.size (w.alloc (.cells #[.slice a3 x.length c3] 24)) W) =>
  ContainsFuncAlt W (.slice a1 xs.length c1) xs (fun y => decide (x = y)) 48 #[.pointer (some ⟨w.heap.size, 0, none⟩)] eg ((HI1.out.mono hba).mono hb) (fun i y _ W2 v hb2 hv =>
   Check1E_p W2 w.heap.size (.slice a3 x.length c3) v x y (kept hb2 (kept hb bx.cell)) (((HI3.out.mono hba).mono hb).mono hb2) hv)
 have HC := fun W (hb : Below (w.alloc (.cells #[.slice a3 x.length c3] 24)).heap.size (w.alloc (.cells #[.slice a3 x.length c3] 24)) W) =>
  containsE_p W (.slice a3 x.length c3) (.slice a2 ys.length c2) x ys ((HI3.out.mono hba).mono hb) ((HI2.out.mono hba).mono hb)
 have HBA := Lib.hid hba
 have HP : Hid (chkP xs ys x = if badP xs ys then 1 else if !xs.any (fun y => decide (x = y)) then 7 else if ys.any (conA x) then 18 else 0) := by show _ = _; unfold chkP; rfl
 have hk := bx.cell
 clear hba eg bx
 generalize (xs.any fun y => decide (x = y)) = b1 at *
 generalize ys.any (conA x) = b2 at *
 generalize badP xs ys = b0 at *
 generalize chkP xs ys x = r at *
 generalize x.length = L at *
 generalize xs.length = N at *
 generalize ys.length = M at *
 go_enter Tryz.func15, Tryz.ntmps15
 go_wp2_with fail
 have HZ := Lib.hid hz
 generalize w.alloc (.cells #[.slice a3 L c3] 24) = w0 at *
 refine HM.mono ?_
 rintro e w1 ⟨rfl, hb⟩
 have HB1 : Hid (Below w0.heap.size w0 w1) := (((Below.refl w0.heap.size w0).alloc (Nat.le_refl _) _).trans (hb.mono (by simp)))
 have k1 := kept HB1.out hk
 clear hb HM hk hz
 cases b0
 case true =>
  go_wp2
  go_ret
  exact ⟨ret_i HP.out.symm, HBA.out.trans (HB1.out.mono HBA.out.size)⟩
 case false =>
  go_wp2_with fail
  refine (HF w1 HB1.out).mono ?_
  rintro e w2 ⟨rfl, hb⟩
  have HB2 : Hid (Below w0.heap.size w0 w2) := HB1.out.trans (hb.mono HB1.out.size)
  have k2 := kept hb k1
  clear hb HF k1
  cases b1
  case false =>
   go_wp2
   go_ret
   exact ⟨ret_i HP.out.symm, HBA.out.trans (HB2.out.mono HBA.out.size)⟩
  case true =>
   go_wp2_with fail
   refine (HC w2 HB2.out).mono ?_
   rintro e w3 ⟨rfl, hb⟩
   have HB3 : Hid (Below w0.heap.size w0 w3) := HB2.out.trans (hb.mono HB2.out.size)
   clear hb HC k2
   cases b2
   all_goals
    go_wp2
    go_ret
    exact ⟨ret_i HP.out.symm, HBA.out.trans (HB3.out.mono HBA.out.size)⟩
end Go.Proofs.YtoemmpfcnpdblaaGreatDoor
