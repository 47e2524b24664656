/- The example of the chapter of entailment, evaluated. -/
import Derived.Orders
import Derived.Deep.RegionHeld3
import Derived.Test.YtoemmpfcnpdblaaGreatDoorJBase
import Derived.Test.YtoemmpfcnpdblaaGreatDoorJMeanS
import Derived.Test.YtoemmpfcnpdblaaGreatDoorJEntU
import Derived.Test.YtoemmpfcnpdblaaGreatDoorJParseS
import Derived.Test.YtoemmpfcnpdblaaGreatDoorJMeanU
import Derived.Test.YtoemmpfcnpdblaaGreatDoorJMilU
set_option linter.all false
namespace Go.Proofs.YtoemmpfcnpdblaaGreatDoor
open Go Go.RowKit Go.ChangeShapes
def fL : List UInt8 := [108, 105, 99, 101, 110, 115, 101, 32, 97, 32, 97, 32, 49, 32, 48, 10, 108, 105, 99, 101, 110, 115, 101, 32, 98, 32, 98, 32, 49, 32, 48, 10, 99, 108, 97, 117, 115, 101, 32, 97, 32, 98, 105, 110, 97, 114, 121, 32, 105, 110, 32, 115, 104, 97, 114, 101, 32, 97, 32, 98, 10, 99, 108, 97, 117, 115, 101, 32, 98, 32, 98, 105, 110, 97, 114, 121, 32, 105, 110, 32, 115, 104, 97, 114, 101, 32, 97, 10]
def nA : ByteArray := ⟨#[97]⟩
def nB : ByteArray := ⟨#[98]⟩
def nC : ByteArray := ⟨#[99]⟩
def tA : Term := ⟨nA, ByteArray.empty⟩
def tB : Term := ⟨nB, ByteArray.empty⟩
def tC : Term := ⟨nC, ByteArray.empty⟩
def fC : Catalog := ⟨[⟨nA, nA, 1, mkS []⟩, ⟨nB, nB, 1, mkS []⟩], [], [⟨nA, 1, 0, 4, [nA, nB]⟩, ⟨nB, 1, 0, 4, [nA]⟩], []⟩
set_option maxRecDepth 100000 in
theorem f_parse : parseC (mkS fL) = (0, 0, fC) := by decide +kernel
set_option maxRecDepth 100000 in
theorem f_ent1 : entP [[tA, tB]] [[tA], [tC]] = (true, 0) := by decide +kernel
set_option maxRecDepth 100000 in
theorem f_ent2 : entP [[tA], [tC]] [[tA]] = (false, 0) := by decide +kernel
set_option maxRecDepth 100000 in
theorem f_mild : mildP fC [tA] [tB] = (true, 0) := by decide +kernel
set_option maxRecDepth 100000 in
theorem f_by : byP fC [[tB]] [[tA]] = (true, 0) := by decide +kernel
def eA : LExpr := .mk 0 nA ByteArray.empty []
def eB : LExpr := .mk 0 nB ByteArray.empty []
def eAB : LExpr := .mk 3 ByteArray.empty ByteArray.empty [eA, eB]
set_option maxRecDepth 100000 in
theorem f_rel : relateP fC eA eAB = (1, 0) := by decide +kernel
set_option maxRecDepth 100000 in
theorem f_cla : (clausesP fC [tA, tB]).2 = 0 ∧ (clausesP fC [tA, tB]).1.length = 2 := by decide +kernel
set_option maxRecDepth 100000 in
theorem f_sep : sepO [[tA], [tC]] [[tA]] = some [tC] ∧ badE [[tA], [tC]] [[tA]] = 0 := by decide +kernel
set_option maxRecDepth 100000 in
theorem f_chk : chkP [[tA], [tC]] [[tA]] [tC] = 0 := by decide +kernel
set_option maxRecDepth 1000000 in
def fB : ByteArray := ⟨#[108, 105, 99, 101, 110, 115, 101, 32, 97, 32, 97, 32, 49, 32, 48, 10, 108, 105, 99, 101, 110, 115, 101, 32, 98, 32, 98, 32, 49, 32, 48, 10, 99, 108, 97, 117, 115, 101, 32, 97, 32, 98, 105, 110, 97, 114, 121, 32, 105, 110, 32, 115, 104, 97, 114, 101, 32, 97, 32, 98, 10, 99, 108, 97, 117, 115, 101, 32, 98, 32, 98, 105, 110, 97, 114, 121, 32, 105, 110, 32, 115, 104, 97, 114, 101, 32, 97, 10]⟩
set_option maxRecDepth 1000000 in
theorem f_mk : mkS fL = fB := by decide +kernel
set_option maxRecDepth 1000000 in
theorem f_read : (readLines 0 0 emptyC (textLines (mkS fL))).2.2.licenses.length = 2 ∧ (readLines 0 0 emptyC (textLines (mkS fL))).2.2.exceptions.length = 0 ∧ (readLines 0 0 emptyC (textLines (mkS fL))).2.2.clauses.length = 2 ∧ (readLines 0 0 emptyC (textLines (mkS fL))).2.2.apart.length = 0 := by decide +kernel
theorem fParse (w : World) (hg : Glob w) : Calls Tryz.prog 43 #[.string ⟨#[108, 105, 99, 101, 110, 115, 101, 32, 97, 32, 97, 32, 49, 32, 48, 10, 108, 105, 99, 101, 110, 115, 101, 32, 98, 32, 98, 32, 49, 32, 48, 10, 99, 108, 97, 117, 115, 101, 32, 97, 32, 98, 105, 110, 97, 114, 121, 32, 105, 110, 32, 115, 104, 97, 114, 101, 32, 97, 32, 98, 10, 99, 108, 97, 117, 115, 101, 32, 98, 32, 98, 105, 110, 97, 114, 121, 32, 105, 110, 32, 115, 104, 97, 114, 101, 32, 97, 10]⟩] w fun e w' => ∃ v, e = .returned (.tuple #[v, .int .i64 0, .int .i64 0]) ∧ Is w' v fC ∧ Below w.heap.size w w' := by
 have h := Parse_s w (mkS fL) hg (by rw [mkS_size]; decide +kernel) (fun a c hr => by
  obtain ⟨h1, h2, h3, h4⟩ := f_read
  rw [hr] at h1 h2 h3 h4
  simp only at h1 h2 h3 h4
  exact ⟨by omega, by omega, by omega, by omega⟩)
 rw [f_mk] at h
 refine h.mono ?_
 rintro e w' ⟨v, he, hi, hb⟩
 have hp := f_parse
 rw [f_mk] at hp
 rw [hp] at he hi
 exact ⟨v, he, hi, hb⟩
end Go.Proofs.YtoemmpfcnpdblaaGreatDoor
namespace Go.Proofs.YtoemmpfcnpdblaaGreatDoor
open Go Go.RowKit Go.ChangeShapes

def needsR (md : Region.Mode) (ops : Array Oper) (i : Nat) : List Nat :=
 match ops[i]? with
 | none => []
 | some o => (o.after.toList.filter fun e => Region.binds md e).map fun e => e.on
theorem ready_iff {md : Region.Mode} {ops : Array Oper} {listed : Array Bool} {i : Nat} : i ∈ Region.ready md ops listed ↔ i < ops.size ∧ listed.getD i true = false ∧ ∀ j ∈ needsR md ops i, listed.getD j false = true := by
 unfold Region.ready needsR
 rw [List.mem_filter, List.mem_range]
 constructor
 ·rintro ⟨h1, h2⟩
  rw [Bool.and_eq_true] at h2
  refine ⟨h1, by simpa using h2.1, ?_⟩
  have h3 := h2.2
  rw [Array.getElem?_eq_getElem h1] at h3 ⊢
  intro j hj
  simp only [List.mem_map, List.mem_filter] at hj
  obtain ⟨e, ⟨he, hb⟩, rfl⟩ := hj
  simp only [Option.map_some, Option.getD_some, Array.all_eq_true'] at h3
  have := h3 e (by simpa using he)
  rw [hb] at this
  simpa using this
 ·rintro ⟨h1, h2, h3⟩
  refine ⟨h1, ?_⟩
  rw [Array.getElem?_eq_getElem h1] at h3 ⊢
  simp only [Bool.and_eq_true, Option.map_some, Option.getD_some, Array.all_eq_true']
  refine ⟨by simpa using h2, fun e he => ?_⟩
  cases hb : Region.binds md e
  ·rfl
  ·have := h3 e.on (List.mem_map.2 ⟨e, List.mem_filter.2 ⟨by simpa using he, hb⟩, rfl⟩)
   simpa using this
theorem ready_none {md : Region.Mode} {ops : Array Oper} {listed : Array Bool} (hs : listed.size = ops.size) (hn : ∀ i, i < ops.size → ∀ j ∈ needsR md ops i, j < i) (h : Region.ready md ops listed = []) : ∀ i, i < ops.size → listed.getD i false = true := by
 intro i
 induction i using Nat.strongRecOn with
 | ind i ih =>
  intro hi
  cases hl : listed.getD i false with
  | true => rfl
  | false =>
   have h1 : i ∈ Region.ready md ops listed := ready_iff.2 ⟨hi, by
    rw [Array.getD_eq_getD_getElem?, Array.getElem?_eq_getElem (by omega)] at hl ⊢; exact hl, fun j hj => ih j (hn i hi j hj) (Nat.lt_trans (hn i hi j hj) hi)⟩
   rw [h] at h1; simp at h1
theorem wpAny_inv {P : Program} {ops : Array Oper} {Q : Exit → Act → World → Prop} {md : Region.Mode} (Inv : (Nat → Bool) → Act → World → Prop)
  (hn : ∀ i, i < ops.size → ∀ j ∈ needsR md ops i, j < i)
  (hstep : ∀ (l : Nat → Bool) (a : Act) (w : World) (i : Nat), i < ops.size → Inv l a w → (∀ j ∈ needsR md ops i, l j = true) → wpOp P ops Q i (fun a' w' => Inv (fun j => if j = i then true else l j) a' w') a w)
  (hfin : ∀ (l : Nat → Bool) (a : Act) (w : World), (∀ i, i < ops.size → l i = true) → Inv l a w → Q .normal a w) :
  ∀ (fuel : Nat) (listed : Array Bool) (a : Act) (w : World), listed.size = ops.size → listed.toList.count false ≤ fuel → Inv (fun j => listed.getD j false) a w → wpAny P md ops Q fuel listed a w
 | 0, listed, a, w, hs, hc, hI => by
  have hr : Region.ready md ops listed = [] := by
   refine List.eq_nil_iff_forall_not_mem.2 fun i hi => ?_
   obtain ⟨h1, h2, -⟩ := ready_iff.1 hi
   have : false ∈ listed.toList := by
    rw [Array.getD_eq_getD_getElem?, Array.getElem?_eq_getElem (by omega)] at h2
    exact List.mem_iff_getElem.2 ⟨i, by simpa using (by omega : i < listed.size), by simpa using h2⟩
   have := List.count_pos_iff.2 this
   omega
  exact ⟨hr, hfin _ a w (ready_none hs hn hr) hI⟩
 | fuel + 1, listed, a, w, hs, hc, hI => by
  refine ⟨fun hr => hfin _ a w (ready_none hs hn hr) hI, fun i hi => ?_⟩
  obtain ⟨h1, h2, h3⟩ := ready_iff.1 hi
  refine wpOp_mono (fun a' w' h' => ?_) (hstep _ a w i h1 hI h3)
  refine wpAny_inv Inv hn hstep hfin fuel _ a' w' (by simpa using hs) ?_ ?_
  ·have hlt : i < listed.size := by omega
   have he : listed[i] = false := by
    rw [Array.getD_eq_getD_getElem?, Array.getElem?_eq_getElem hlt] at h2; simpa using h2
   have : (listed.setIfInBounds i true).toList.count false = listed.toList.count false - 1 := by
    rw [Array.toList_setIfInBounds, List.count_set (by simpa using hlt)]
    simp [he]
   omega
  ·have e : (fun j => (listed.setIfInBounds i true).getD j false) = fun j => if j = i then true else listed.getD j false := by
    funext j
    rw [Array.getD_eq_getD_getElem?, Array.getD_eq_getD_getElem?]
    by_cases hj : j = i
    ·subst hj
     rw [if_pos rfl, Array.getElem?_setIfInBounds_self, if_pos (by omega)]; rfl
    ·rw [if_neg hj, Array.getElem?_setIfInBounds_ne (by omega)]
   rw [e]; exact h'
theorem wpOp_of {P : Program} {ops : Array Oper} {Q : Exit → Act → World → Prop} {i : Nat} {o : Oper} {K : Act → World → Prop} {a : Act} {w : World} (ho : ops[i]? = some o)
  (h : if Region.wanted o (yielded ops a.tmps) then o.wp P a w K Q else K (a.put o.dst undef) w) : wpOp P ops Q i K a w := by
 unfold wpOp
 rw [ho]
 simp only
 split
 ·rename_i hw; rw [if_pos hw] at h; exact .inl h
 ·rename_i hw; rw [if_neg hw] at h; exact h
theorem wp_region_inv {P : Program} {ops : Array Oper} {Q : Exit → Act → World → Prop} {id : Nat} {a : Act} {w : World} (hm : P.follows .mixedOrders = true) (Inv : (Nat → Bool) → Act → World → Prop)
  (hn : ∀ i, i < ops.size → ∀ j ∈ needsR .any ops i, j < i) (h0 : Inv (fun _ => false) a w.drew)
  (hstep : ∀ (l : Nat → Bool) (a : Act) (w : World) (i : Nat), i < ops.size → Inv l a w → (∀ j ∈ needsR .any ops i, l j = true) → wpOp P ops Q i (fun a' w' => Inv (fun j => if j = i then true else l j) a' w') a w)
  (hfin : ∀ (l : Nat → Bool) (a : Act) (w : World), (∀ i, i < ops.size → l i = true) → Inv l a w → Q .normal a w) : (Code.region id ops true).wp P Q a w := by
 refine wp_region_any hm (wpAny_inv Inv hn hstep hfin _ _ _ _ (by simp) ?_ ?_)
 ·exact Nat.le_trans List.count_le_length (by simp)
 ·have e : (fun j => (Array.replicate ops.size false).getD j false) = fun _ => false := by
   funext j
   rw [Array.getD_eq_getD_getElem?, Array.getElem?_replicate]; split <;> rfl
  rw [e]; exact h0
end Go.Proofs.YtoemmpfcnpdblaaGreatDoor
namespace Go.Proofs.YtoemmpfcnpdblaaGreatDoor
open Go Go.RowKit Go.ChangeShapes Go.Sort Go.Lib

def frF (b0 : Nat) (x28 x29 x30 x31 x32 x33 x34 x35 x36 x37 x38 x39 x4 x5 x6 : Value) : Act := { tmps := #[.bool false, .pointer (some ⟨b0, 0, none⟩), .pointer (some ⟨b0 + 1, 0, none⟩), .pointer (some ⟨b0 + 1 + 1, 0, none⟩), x4, x5, x6, undef, undef, undef, undef, undef, undef, undef, undef, undef, undef, undef, undef, undef, undef, undef, undef, undef, undef, .agg #[.string ⟨#[97]⟩, .string ⟨#[]⟩], .agg #[.string ⟨#[98]⟩, .string ⟨#[]⟩], .agg #[.string ⟨#[99]⟩, .string ⟨#[]⟩], x28, x29, x30, x31, x32, x33, x34, x35, x36, x37, x38, x39, undef, undef, undef, undef, undef, undef, undef, undef, undef, undef, undef, undef, undef, undef, undef, undef, undef, undef, undef, undef, undef, undef, undef, undef, undef, undef, undef, undef, undef, undef, undef, undef, undef, undef, undef, undef, undef, undef, undef, undef, undef, undef, undef, undef, undef, undef, undef, undef, undef, undef, undef, undef, undef, undef, undef, undef, undef, undef, undef, undef, undef, undef, undef, undef, undef, undef, undef, undef, undef, undef, undef, undef, undef, undef, undef, undef, undef, undef, undef, undef, undef, undef, undef, undef, undef, undef, undef, undef, undef, undef, undef, undef, undef, undef, undef, undef, undef, undef, undef, undef, undef, undef, undef, undef, undef, undef, undef, undef, undef, undef, undef, undef, undef, undef, undef], defers := [] }
def InvF (b0 : Nat) (w1 : World) (l : Nat → Bool) (a : Act) (W : World) : Prop := ∃ x28 x29 x30 x31 x32 x33 x34 x35 x36 x37 x38 x39 x4 x5 x6 : Value, a = (frF b0 x28 x29 x30 x31 x32 x33 x34 x35 x36 x37 x38 x39 x4 x5 x6) ∧ Below w1.heap.size w1 W ∧ (l 0 = true → x28 = .agg #[.string ⟨#[97]⟩, .string ⟨#[]⟩]) ∧ (l 1 = true → x29 = .agg #[.string ⟨#[98]⟩, .string ⟨#[]⟩]) ∧ (l 2 = true → RowT w1.heap.size W x30 [tA, tB]) ∧ (l 3 = true → OwnZ w1.heap.size 24 W x31 [[tA, tB]]) ∧ (l 4 = true → x32 = .agg #[.string ⟨#[97]⟩, .string ⟨#[]⟩]) ∧ (l 5 = true → RowT w1.heap.size W x33 [tA]) ∧ (l 6 = true → OwnZ w1.heap.size 24 W x34 [[tA]]) ∧ (l 7 = true → x35 = .agg #[.string ⟨#[97]⟩, .string ⟨#[]⟩]) ∧ (l 8 = true → RowT w1.heap.size W x36 [tA]) ∧ (l 9 = true → x37 = .agg #[.string ⟨#[99]⟩, .string ⟨#[]⟩]) ∧ (l 10 = true → RowT w1.heap.size W x38 [tC]) ∧ (l 11 = true → OwnZ w1.heap.size 24 W x39 [[tA], [tC]]) ∧ (l 12 = true → OwnZ w1.heap.size 24 W x4 [[tA, tB]]) ∧ (l 13 = true → OwnZ w1.heap.size 24 W x5 [[tA]]) ∧ (l 14 = true → OwnZ w1.heap.size 24 W x6 [[tA], [tC]])
theorem inv_0 {b0 : Nat} {w1 : World} {l : Nat → Bool} {x29 x30 x31 x32 x33 x34 x35 x36 x37 x38 x39 x4 x5 x6 : Value} {W W' : World} {v : Value} (hB : Below w1.heap.size w1 W) (p1 : l 1 = true → x29 = .agg #[.string ⟨#[98]⟩, .string ⟨#[]⟩]) (p2 : l 2 = true → RowT w1.heap.size W x30 [tA, tB]) (p3 : l 3 = true → OwnZ w1.heap.size 24 W x31 [[tA, tB]]) (p4 : l 4 = true → x32 = .agg #[.string ⟨#[97]⟩, .string ⟨#[]⟩]) (p5 : l 5 = true → RowT w1.heap.size W x33 [tA]) (p6 : l 6 = true → OwnZ w1.heap.size 24 W x34 [[tA]]) (p7 : l 7 = true → x35 = .agg #[.string ⟨#[97]⟩, .string ⟨#[]⟩]) (p8 : l 8 = true → RowT w1.heap.size W x36 [tA]) (p9 : l 9 = true → x37 = .agg #[.string ⟨#[99]⟩, .string ⟨#[]⟩]) (p10 : l 10 = true → RowT w1.heap.size W x38 [tC]) (p11 : l 11 = true → OwnZ w1.heap.size 24 W x39 [[tA], [tC]]) (p12 : l 12 = true → OwnZ w1.heap.size 24 W x4 [[tA, tB]]) (p13 : l 13 = true → OwnZ w1.heap.size 24 W x5 [[tA]]) (p14 : l 14 = true → OwnZ w1.heap.size 24 W x6 [[tA], [tC]]) (hv : v = .agg #[.string ⟨#[97]⟩, .string ⟨#[]⟩]) (hb : Below W.heap.size W W') : InvF b0 w1 (fun j => if j = 0 then true else l j) (frF b0 v x29 x30 x31 x32 x33 x34 x35 x36 x37 x38 x39 x4 x5 x6) W' :=
 ⟨v, x29, x30, x31, x32, x33, x34, x35, x36, x37, x38, x39, x4, x5, x6, rfl, hB.trans (hb.mono hB.size), fun _ => hv, fun h => p1 (by simpa using h), fun h => (p2 (by simpa using h)).below hb, fun h => (p3 (by simpa using h)).below hb, fun h => p4 (by simpa using h), fun h => (p5 (by simpa using h)).below hb, fun h => (p6 (by simpa using h)).below hb, fun h => p7 (by simpa using h), fun h => (p8 (by simpa using h)).below hb, fun h => p9 (by simpa using h), fun h => (p10 (by simpa using h)).below hb, fun h => (p11 (by simpa using h)).below hb, fun h => (p12 (by simpa using h)).below hb, fun h => (p13 (by simpa using h)).below hb, fun h => (p14 (by simpa using h)).below hb⟩
theorem inv_1 {b0 : Nat} {w1 : World} {l : Nat → Bool} {x28 x30 x31 x32 x33 x34 x35 x36 x37 x38 x39 x4 x5 x6 : Value} {W W' : World} {v : Value} (hB : Below w1.heap.size w1 W) (p0 : l 0 = true → x28 = .agg #[.string ⟨#[97]⟩, .string ⟨#[]⟩]) (p2 : l 2 = true → RowT w1.heap.size W x30 [tA, tB]) (p3 : l 3 = true → OwnZ w1.heap.size 24 W x31 [[tA, tB]]) (p4 : l 4 = true → x32 = .agg #[.string ⟨#[97]⟩, .string ⟨#[]⟩]) (p5 : l 5 = true → RowT w1.heap.size W x33 [tA]) (p6 : l 6 = true → OwnZ w1.heap.size 24 W x34 [[tA]]) (p7 : l 7 = true → x35 = .agg #[.string ⟨#[97]⟩, .string ⟨#[]⟩]) (p8 : l 8 = true → RowT w1.heap.size W x36 [tA]) (p9 : l 9 = true → x37 = .agg #[.string ⟨#[99]⟩, .string ⟨#[]⟩]) (p10 : l 10 = true → RowT w1.heap.size W x38 [tC]) (p11 : l 11 = true → OwnZ w1.heap.size 24 W x39 [[tA], [tC]]) (p12 : l 12 = true → OwnZ w1.heap.size 24 W x4 [[tA, tB]]) (p13 : l 13 = true → OwnZ w1.heap.size 24 W x5 [[tA]]) (p14 : l 14 = true → OwnZ w1.heap.size 24 W x6 [[tA], [tC]]) (hv : v = .agg #[.string ⟨#[98]⟩, .string ⟨#[]⟩]) (hb : Below W.heap.size W W') : InvF b0 w1 (fun j => if j = 1 then true else l j) (frF b0 x28 v x30 x31 x32 x33 x34 x35 x36 x37 x38 x39 x4 x5 x6) W' :=
 ⟨x28, v, x30, x31, x32, x33, x34, x35, x36, x37, x38, x39, x4, x5, x6, rfl, hB.trans (hb.mono hB.size), fun h => p0 (by simpa using h), fun _ => hv, fun h => (p2 (by simpa using h)).below hb, fun h => (p3 (by simpa using h)).below hb, fun h => p4 (by simpa using h), fun h => (p5 (by simpa using h)).below hb, fun h => (p6 (by simpa using h)).below hb, fun h => p7 (by simpa using h), fun h => (p8 (by simpa using h)).below hb, fun h => p9 (by simpa using h), fun h => (p10 (by simpa using h)).below hb, fun h => (p11 (by simpa using h)).below hb, fun h => (p12 (by simpa using h)).below hb, fun h => (p13 (by simpa using h)).below hb, fun h => (p14 (by simpa using h)).below hb⟩
theorem inv_2 {b0 : Nat} {w1 : World} {l : Nat → Bool} {x28 x29 x31 x32 x33 x34 x35 x36 x37 x38 x39 x4 x5 x6 : Value} {W W' : World} {v : Value} (hB : Below w1.heap.size w1 W) (p0 : l 0 = true → x28 = .agg #[.string ⟨#[97]⟩, .string ⟨#[]⟩]) (p1 : l 1 = true → x29 = .agg #[.string ⟨#[98]⟩, .string ⟨#[]⟩]) (p3 : l 3 = true → OwnZ w1.heap.size 24 W x31 [[tA, tB]]) (p4 : l 4 = true → x32 = .agg #[.string ⟨#[97]⟩, .string ⟨#[]⟩]) (p5 : l 5 = true → RowT w1.heap.size W x33 [tA]) (p6 : l 6 = true → OwnZ w1.heap.size 24 W x34 [[tA]]) (p7 : l 7 = true → x35 = .agg #[.string ⟨#[97]⟩, .string ⟨#[]⟩]) (p8 : l 8 = true → RowT w1.heap.size W x36 [tA]) (p9 : l 9 = true → x37 = .agg #[.string ⟨#[99]⟩, .string ⟨#[]⟩]) (p10 : l 10 = true → RowT w1.heap.size W x38 [tC]) (p11 : l 11 = true → OwnZ w1.heap.size 24 W x39 [[tA], [tC]]) (p12 : l 12 = true → OwnZ w1.heap.size 24 W x4 [[tA, tB]]) (p13 : l 13 = true → OwnZ w1.heap.size 24 W x5 [[tA]]) (p14 : l 14 = true → OwnZ w1.heap.size 24 W x6 [[tA], [tC]]) (hv : RowT w1.heap.size W' v [tA, tB]) (hb : Below W.heap.size W W') : InvF b0 w1 (fun j => if j = 2 then true else l j) (frF b0 x28 x29 v x31 x32 x33 x34 x35 x36 x37 x38 x39 x4 x5 x6) W' :=
 ⟨x28, x29, v, x31, x32, x33, x34, x35, x36, x37, x38, x39, x4, x5, x6, rfl, hB.trans (hb.mono hB.size), fun h => p0 (by simpa using h), fun h => p1 (by simpa using h), fun _ => hv, fun h => (p3 (by simpa using h)).below hb, fun h => p4 (by simpa using h), fun h => (p5 (by simpa using h)).below hb, fun h => (p6 (by simpa using h)).below hb, fun h => p7 (by simpa using h), fun h => (p8 (by simpa using h)).below hb, fun h => p9 (by simpa using h), fun h => (p10 (by simpa using h)).below hb, fun h => (p11 (by simpa using h)).below hb, fun h => (p12 (by simpa using h)).below hb, fun h => (p13 (by simpa using h)).below hb, fun h => (p14 (by simpa using h)).below hb⟩
theorem inv_3 {b0 : Nat} {w1 : World} {l : Nat → Bool} {x28 x29 x30 x32 x33 x34 x35 x36 x37 x38 x39 x4 x5 x6 : Value} {W W' : World} {v : Value} (hB : Below w1.heap.size w1 W) (p0 : l 0 = true → x28 = .agg #[.string ⟨#[97]⟩, .string ⟨#[]⟩]) (p1 : l 1 = true → x29 = .agg #[.string ⟨#[98]⟩, .string ⟨#[]⟩]) (p2 : l 2 = true → RowT w1.heap.size W x30 [tA, tB]) (p4 : l 4 = true → x32 = .agg #[.string ⟨#[97]⟩, .string ⟨#[]⟩]) (p5 : l 5 = true → RowT w1.heap.size W x33 [tA]) (p6 : l 6 = true → OwnZ w1.heap.size 24 W x34 [[tA]]) (p7 : l 7 = true → x35 = .agg #[.string ⟨#[97]⟩, .string ⟨#[]⟩]) (p8 : l 8 = true → RowT w1.heap.size W x36 [tA]) (p9 : l 9 = true → x37 = .agg #[.string ⟨#[99]⟩, .string ⟨#[]⟩]) (p10 : l 10 = true → RowT w1.heap.size W x38 [tC]) (p11 : l 11 = true → OwnZ w1.heap.size 24 W x39 [[tA], [tC]]) (p12 : l 12 = true → OwnZ w1.heap.size 24 W x4 [[tA, tB]]) (p13 : l 13 = true → OwnZ w1.heap.size 24 W x5 [[tA]]) (p14 : l 14 = true → OwnZ w1.heap.size 24 W x6 [[tA], [tC]]) (hv : OwnZ w1.heap.size 24 W' v [[tA, tB]]) (hb : Below W.heap.size W W') : InvF b0 w1 (fun j => if j = 3 then true else l j) (frF b0 x28 x29 x30 v x32 x33 x34 x35 x36 x37 x38 x39 x4 x5 x6) W' :=
 ⟨x28, x29, x30, v, x32, x33, x34, x35, x36, x37, x38, x39, x4, x5, x6, rfl, hB.trans (hb.mono hB.size), fun h => p0 (by simpa using h), fun h => p1 (by simpa using h), fun h => (p2 (by simpa using h)).below hb, fun _ => hv, fun h => p4 (by simpa using h), fun h => (p5 (by simpa using h)).below hb, fun h => (p6 (by simpa using h)).below hb, fun h => p7 (by simpa using h), fun h => (p8 (by simpa using h)).below hb, fun h => p9 (by simpa using h), fun h => (p10 (by simpa using h)).below hb, fun h => (p11 (by simpa using h)).below hb, fun h => (p12 (by simpa using h)).below hb, fun h => (p13 (by simpa using h)).below hb, fun h => (p14 (by simpa using h)).below hb⟩
theorem inv_4 {b0 : Nat} {w1 : World} {l : Nat → Bool} {x28 x29 x30 x31 x33 x34 x35 x36 x37 x38 x39 x4 x5 x6 : Value} {W W' : World} {v : Value} (hB : Below w1.heap.size w1 W) (p0 : l 0 = true → x28 = .agg #[.string ⟨#[97]⟩, .string ⟨#[]⟩]) (p1 : l 1 = true → x29 = .agg #[.string ⟨#[98]⟩, .string ⟨#[]⟩]) (p2 : l 2 = true → RowT w1.heap.size W x30 [tA, tB]) (p3 : l 3 = true → OwnZ w1.heap.size 24 W x31 [[tA, tB]]) (p5 : l 5 = true → RowT w1.heap.size W x33 [tA]) (p6 : l 6 = true → OwnZ w1.heap.size 24 W x34 [[tA]]) (p7 : l 7 = true → x35 = .agg #[.string ⟨#[97]⟩, .string ⟨#[]⟩]) (p8 : l 8 = true → RowT w1.heap.size W x36 [tA]) (p9 : l 9 = true → x37 = .agg #[.string ⟨#[99]⟩, .string ⟨#[]⟩]) (p10 : l 10 = true → RowT w1.heap.size W x38 [tC]) (p11 : l 11 = true → OwnZ w1.heap.size 24 W x39 [[tA], [tC]]) (p12 : l 12 = true → OwnZ w1.heap.size 24 W x4 [[tA, tB]]) (p13 : l 13 = true → OwnZ w1.heap.size 24 W x5 [[tA]]) (p14 : l 14 = true → OwnZ w1.heap.size 24 W x6 [[tA], [tC]]) (hv : v = .agg #[.string ⟨#[97]⟩, .string ⟨#[]⟩]) (hb : Below W.heap.size W W') : InvF b0 w1 (fun j => if j = 4 then true else l j) (frF b0 x28 x29 x30 x31 v x33 x34 x35 x36 x37 x38 x39 x4 x5 x6) W' :=
 ⟨x28, x29, x30, x31, v, x33, x34, x35, x36, x37, x38, x39, x4, x5, x6, rfl, hB.trans (hb.mono hB.size), fun h => p0 (by simpa using h), fun h => p1 (by simpa using h), fun h => (p2 (by simpa using h)).below hb, fun h => (p3 (by simpa using h)).below hb, fun _ => hv, fun h => (p5 (by simpa using h)).below hb, fun h => (p6 (by simpa using h)).below hb, fun h => p7 (by simpa using h), fun h => (p8 (by simpa using h)).below hb, fun h => p9 (by simpa using h), fun h => (p10 (by simpa using h)).below hb, fun h => (p11 (by simpa using h)).below hb, fun h => (p12 (by simpa using h)).below hb, fun h => (p13 (by simpa using h)).below hb, fun h => (p14 (by simpa using h)).below hb⟩
theorem inv_5 {b0 : Nat} {w1 : World} {l : Nat → Bool} {x28 x29 x30 x31 x32 x34 x35 x36 x37 x38 x39 x4 x5 x6 : Value} {W W' : World} {v : Value} (hB : Below w1.heap.size w1 W) (p0 : l 0 = true → x28 = .agg #[.string ⟨#[97]⟩, .string ⟨#[]⟩]) (p1 : l 1 = true → x29 = .agg #[.string ⟨#[98]⟩, .string ⟨#[]⟩]) (p2 : l 2 = true → RowT w1.heap.size W x30 [tA, tB]) (p3 : l 3 = true → OwnZ w1.heap.size 24 W x31 [[tA, tB]]) (p4 : l 4 = true → x32 = .agg #[.string ⟨#[97]⟩, .string ⟨#[]⟩]) (p6 : l 6 = true → OwnZ w1.heap.size 24 W x34 [[tA]]) (p7 : l 7 = true → x35 = .agg #[.string ⟨#[97]⟩, .string ⟨#[]⟩]) (p8 : l 8 = true → RowT w1.heap.size W x36 [tA]) (p9 : l 9 = true → x37 = .agg #[.string ⟨#[99]⟩, .string ⟨#[]⟩]) (p10 : l 10 = true → RowT w1.heap.size W x38 [tC]) (p11 : l 11 = true → OwnZ w1.heap.size 24 W x39 [[tA], [tC]]) (p12 : l 12 = true → OwnZ w1.heap.size 24 W x4 [[tA, tB]]) (p13 : l 13 = true → OwnZ w1.heap.size 24 W x5 [[tA]]) (p14 : l 14 = true → OwnZ w1.heap.size 24 W x6 [[tA], [tC]]) (hv : RowT w1.heap.size W' v [tA]) (hb : Below W.heap.size W W') : InvF b0 w1 (fun j => if j = 5 then true else l j) (frF b0 x28 x29 x30 x31 x32 v x34 x35 x36 x37 x38 x39 x4 x5 x6) W' :=
 ⟨x28, x29, x30, x31, x32, v, x34, x35, x36, x37, x38, x39, x4, x5, x6, rfl, hB.trans (hb.mono hB.size), fun h => p0 (by simpa using h), fun h => p1 (by simpa using h), fun h => (p2 (by simpa using h)).below hb, fun h => (p3 (by simpa using h)).below hb, fun h => p4 (by simpa using h), fun _ => hv, fun h => (p6 (by simpa using h)).below hb, fun h => p7 (by simpa using h), fun h => (p8 (by simpa using h)).below hb, fun h => p9 (by simpa using h), fun h => (p10 (by simpa using h)).below hb, fun h => (p11 (by simpa using h)).below hb, fun h => (p12 (by simpa using h)).below hb, fun h => (p13 (by simpa using h)).below hb, fun h => (p14 (by simpa using h)).below hb⟩
theorem inv_6 {b0 : Nat} {w1 : World} {l : Nat → Bool} {x28 x29 x30 x31 x32 x33 x35 x36 x37 x38 x39 x4 x5 x6 : Value} {W W' : World} {v : Value} (hB : Below w1.heap.size w1 W) (p0 : l 0 = true → x28 = .agg #[.string ⟨#[97]⟩, .string ⟨#[]⟩]) (p1 : l 1 = true → x29 = .agg #[.string ⟨#[98]⟩, .string ⟨#[]⟩]) (p2 : l 2 = true → RowT w1.heap.size W x30 [tA, tB]) (p3 : l 3 = true → OwnZ w1.heap.size 24 W x31 [[tA, tB]]) (p4 : l 4 = true → x32 = .agg #[.string ⟨#[97]⟩, .string ⟨#[]⟩]) (p5 : l 5 = true → RowT w1.heap.size W x33 [tA]) (p7 : l 7 = true → x35 = .agg #[.string ⟨#[97]⟩, .string ⟨#[]⟩]) (p8 : l 8 = true → RowT w1.heap.size W x36 [tA]) (p9 : l 9 = true → x37 = .agg #[.string ⟨#[99]⟩, .string ⟨#[]⟩]) (p10 : l 10 = true → RowT w1.heap.size W x38 [tC]) (p11 : l 11 = true → OwnZ w1.heap.size 24 W x39 [[tA], [tC]]) (p12 : l 12 = true → OwnZ w1.heap.size 24 W x4 [[tA, tB]]) (p13 : l 13 = true → OwnZ w1.heap.size 24 W x5 [[tA]]) (p14 : l 14 = true → OwnZ w1.heap.size 24 W x6 [[tA], [tC]]) (hv : OwnZ w1.heap.size 24 W' v [[tA]]) (hb : Below W.heap.size W W') : InvF b0 w1 (fun j => if j = 6 then true else l j) (frF b0 x28 x29 x30 x31 x32 x33 v x35 x36 x37 x38 x39 x4 x5 x6) W' :=
 ⟨x28, x29, x30, x31, x32, x33, v, x35, x36, x37, x38, x39, x4, x5, x6, rfl, hB.trans (hb.mono hB.size), fun h => p0 (by simpa using h), fun h => p1 (by simpa using h), fun h => (p2 (by simpa using h)).below hb, fun h => (p3 (by simpa using h)).below hb, fun h => p4 (by simpa using h), fun h => (p5 (by simpa using h)).below hb, fun _ => hv, fun h => p7 (by simpa using h), fun h => (p8 (by simpa using h)).below hb, fun h => p9 (by simpa using h), fun h => (p10 (by simpa using h)).below hb, fun h => (p11 (by simpa using h)).below hb, fun h => (p12 (by simpa using h)).below hb, fun h => (p13 (by simpa using h)).below hb, fun h => (p14 (by simpa using h)).below hb⟩
theorem inv_7 {b0 : Nat} {w1 : World} {l : Nat → Bool} {x28 x29 x30 x31 x32 x33 x34 x36 x37 x38 x39 x4 x5 x6 : Value} {W W' : World} {v : Value} (hB : Below w1.heap.size w1 W) (p0 : l 0 = true → x28 = .agg #[.string ⟨#[97]⟩, .string ⟨#[]⟩]) (p1 : l 1 = true → x29 = .agg #[.string ⟨#[98]⟩, .string ⟨#[]⟩]) (p2 : l 2 = true → RowT w1.heap.size W x30 [tA, tB]) (p3 : l 3 = true → OwnZ w1.heap.size 24 W x31 [[tA, tB]]) (p4 : l 4 = true → x32 = .agg #[.string ⟨#[97]⟩, .string ⟨#[]⟩]) (p5 : l 5 = true → RowT w1.heap.size W x33 [tA]) (p6 : l 6 = true → OwnZ w1.heap.size 24 W x34 [[tA]]) (p8 : l 8 = true → RowT w1.heap.size W x36 [tA]) (p9 : l 9 = true → x37 = .agg #[.string ⟨#[99]⟩, .string ⟨#[]⟩]) (p10 : l 10 = true → RowT w1.heap.size W x38 [tC]) (p11 : l 11 = true → OwnZ w1.heap.size 24 W x39 [[tA], [tC]]) (p12 : l 12 = true → OwnZ w1.heap.size 24 W x4 [[tA, tB]]) (p13 : l 13 = true → OwnZ w1.heap.size 24 W x5 [[tA]]) (p14 : l 14 = true → OwnZ w1.heap.size 24 W x6 [[tA], [tC]]) (hv : v = .agg #[.string ⟨#[97]⟩, .string ⟨#[]⟩]) (hb : Below W.heap.size W W') : InvF b0 w1 (fun j => if j = 7 then true else l j) (frF b0 x28 x29 x30 x31 x32 x33 x34 v x36 x37 x38 x39 x4 x5 x6) W' :=
 ⟨x28, x29, x30, x31, x32, x33, x34, v, x36, x37, x38, x39, x4, x5, x6, rfl, hB.trans (hb.mono hB.size), fun h => p0 (by simpa using h), fun h => p1 (by simpa using h), fun h => (p2 (by simpa using h)).below hb, fun h => (p3 (by simpa using h)).below hb, fun h => p4 (by simpa using h), fun h => (p5 (by simpa using h)).below hb, fun h => (p6 (by simpa using h)).below hb, fun _ => hv, fun h => (p8 (by simpa using h)).below hb, fun h => p9 (by simpa using h), fun h => (p10 (by simpa using h)).below hb, fun h => (p11 (by simpa using h)).below hb, fun h => (p12 (by simpa using h)).below hb, fun h => (p13 (by simpa using h)).below hb, fun h => (p14 (by simpa using h)).below hb⟩
theorem inv_8 {b0 : Nat} {w1 : World} {l : Nat → Bool} {x28 x29 x30 x31 x32 x33 x34 x35 x37 x38 x39 x4 x5 x6 : Value} {W W' : World} {v : Value} (hB : Below w1.heap.size w1 W) (p0 : l 0 = true → x28 = .agg #[.string ⟨#[97]⟩, .string ⟨#[]⟩]) (p1 : l 1 = true → x29 = .agg #[.string ⟨#[98]⟩, .string ⟨#[]⟩]) (p2 : l 2 = true → RowT w1.heap.size W x30 [tA, tB]) (p3 : l 3 = true → OwnZ w1.heap.size 24 W x31 [[tA, tB]]) (p4 : l 4 = true → x32 = .agg #[.string ⟨#[97]⟩, .string ⟨#[]⟩]) (p5 : l 5 = true → RowT w1.heap.size W x33 [tA]) (p6 : l 6 = true → OwnZ w1.heap.size 24 W x34 [[tA]]) (p7 : l 7 = true → x35 = .agg #[.string ⟨#[97]⟩, .string ⟨#[]⟩]) (p9 : l 9 = true → x37 = .agg #[.string ⟨#[99]⟩, .string ⟨#[]⟩]) (p10 : l 10 = true → RowT w1.heap.size W x38 [tC]) (p11 : l 11 = true → OwnZ w1.heap.size 24 W x39 [[tA], [tC]]) (p12 : l 12 = true → OwnZ w1.heap.size 24 W x4 [[tA, tB]]) (p13 : l 13 = true → OwnZ w1.heap.size 24 W x5 [[tA]]) (p14 : l 14 = true → OwnZ w1.heap.size 24 W x6 [[tA], [tC]]) (hv : RowT w1.heap.size W' v [tA]) (hb : Below W.heap.size W W') : InvF b0 w1 (fun j => if j = 8 then true else l j) (frF b0 x28 x29 x30 x31 x32 x33 x34 x35 v x37 x38 x39 x4 x5 x6) W' :=
 ⟨x28, x29, x30, x31, x32, x33, x34, x35, v, x37, x38, x39, x4, x5, x6, rfl, hB.trans (hb.mono hB.size), fun h => p0 (by simpa using h), fun h => p1 (by simpa using h), fun h => (p2 (by simpa using h)).below hb, fun h => (p3 (by simpa using h)).below hb, fun h => p4 (by simpa using h), fun h => (p5 (by simpa using h)).below hb, fun h => (p6 (by simpa using h)).below hb, fun h => p7 (by simpa using h), fun _ => hv, fun h => p9 (by simpa using h), fun h => (p10 (by simpa using h)).below hb, fun h => (p11 (by simpa using h)).below hb, fun h => (p12 (by simpa using h)).below hb, fun h => (p13 (by simpa using h)).below hb, fun h => (p14 (by simpa using h)).below hb⟩
theorem inv_9 {b0 : Nat} {w1 : World} {l : Nat → Bool} {x28 x29 x30 x31 x32 x33 x34 x35 x36 x38 x39 x4 x5 x6 : Value} {W W' : World} {v : Value} (hB : Below w1.heap.size w1 W) (p0 : l 0 = true → x28 = .agg #[.string ⟨#[97]⟩, .string ⟨#[]⟩]) (p1 : l 1 = true → x29 = .agg #[.string ⟨#[98]⟩, .string ⟨#[]⟩]) (p2 : l 2 = true → RowT w1.heap.size W x30 [tA, tB]) (p3 : l 3 = true → OwnZ w1.heap.size 24 W x31 [[tA, tB]]) (p4 : l 4 = true → x32 = .agg #[.string ⟨#[97]⟩, .string ⟨#[]⟩]) (p5 : l 5 = true → RowT w1.heap.size W x33 [tA]) (p6 : l 6 = true → OwnZ w1.heap.size 24 W x34 [[tA]]) (p7 : l 7 = true → x35 = .agg #[.string ⟨#[97]⟩, .string ⟨#[]⟩]) (p8 : l 8 = true → RowT w1.heap.size W x36 [tA]) (p10 : l 10 = true → RowT w1.heap.size W x38 [tC]) (p11 : l 11 = true → OwnZ w1.heap.size 24 W x39 [[tA], [tC]]) (p12 : l 12 = true → OwnZ w1.heap.size 24 W x4 [[tA, tB]]) (p13 : l 13 = true → OwnZ w1.heap.size 24 W x5 [[tA]]) (p14 : l 14 = true → OwnZ w1.heap.size 24 W x6 [[tA], [tC]]) (hv : v = .agg #[.string ⟨#[99]⟩, .string ⟨#[]⟩]) (hb : Below W.heap.size W W') : InvF b0 w1 (fun j => if j = 9 then true else l j) (frF b0 x28 x29 x30 x31 x32 x33 x34 x35 x36 v x38 x39 x4 x5 x6) W' :=
 ⟨x28, x29, x30, x31, x32, x33, x34, x35, x36, v, x38, x39, x4, x5, x6, rfl, hB.trans (hb.mono hB.size), fun h => p0 (by simpa using h), fun h => p1 (by simpa using h), fun h => (p2 (by simpa using h)).below hb, fun h => (p3 (by simpa using h)).below hb, fun h => p4 (by simpa using h), fun h => (p5 (by simpa using h)).below hb, fun h => (p6 (by simpa using h)).below hb, fun h => p7 (by simpa using h), fun h => (p8 (by simpa using h)).below hb, fun _ => hv, fun h => (p10 (by simpa using h)).below hb, fun h => (p11 (by simpa using h)).below hb, fun h => (p12 (by simpa using h)).below hb, fun h => (p13 (by simpa using h)).below hb, fun h => (p14 (by simpa using h)).below hb⟩
theorem inv_10 {b0 : Nat} {w1 : World} {l : Nat → Bool} {x28 x29 x30 x31 x32 x33 x34 x35 x36 x37 x39 x4 x5 x6 : Value} {W W' : World} {v : Value} (hB : Below w1.heap.size w1 W) (p0 : l 0 = true → x28 = .agg #[.string ⟨#[97]⟩, .string ⟨#[]⟩]) (p1 : l 1 = true → x29 = .agg #[.string ⟨#[98]⟩, .string ⟨#[]⟩]) (p2 : l 2 = true → RowT w1.heap.size W x30 [tA, tB]) (p3 : l 3 = true → OwnZ w1.heap.size 24 W x31 [[tA, tB]]) (p4 : l 4 = true → x32 = .agg #[.string ⟨#[97]⟩, .string ⟨#[]⟩]) (p5 : l 5 = true → RowT w1.heap.size W x33 [tA]) (p6 : l 6 = true → OwnZ w1.heap.size 24 W x34 [[tA]]) (p7 : l 7 = true → x35 = .agg #[.string ⟨#[97]⟩, .string ⟨#[]⟩]) (p8 : l 8 = true → RowT w1.heap.size W x36 [tA]) (p9 : l 9 = true → x37 = .agg #[.string ⟨#[99]⟩, .string ⟨#[]⟩]) (p11 : l 11 = true → OwnZ w1.heap.size 24 W x39 [[tA], [tC]]) (p12 : l 12 = true → OwnZ w1.heap.size 24 W x4 [[tA, tB]]) (p13 : l 13 = true → OwnZ w1.heap.size 24 W x5 [[tA]]) (p14 : l 14 = true → OwnZ w1.heap.size 24 W x6 [[tA], [tC]]) (hv : RowT w1.heap.size W' v [tC]) (hb : Below W.heap.size W W') : InvF b0 w1 (fun j => if j = 10 then true else l j) (frF b0 x28 x29 x30 x31 x32 x33 x34 x35 x36 x37 v x39 x4 x5 x6) W' :=
 ⟨x28, x29, x30, x31, x32, x33, x34, x35, x36, x37, v, x39, x4, x5, x6, rfl, hB.trans (hb.mono hB.size), fun h => p0 (by simpa using h), fun h => p1 (by simpa using h), fun h => (p2 (by simpa using h)).below hb, fun h => (p3 (by simpa using h)).below hb, fun h => p4 (by simpa using h), fun h => (p5 (by simpa using h)).below hb, fun h => (p6 (by simpa using h)).below hb, fun h => p7 (by simpa using h), fun h => (p8 (by simpa using h)).below hb, fun h => p9 (by simpa using h), fun _ => hv, fun h => (p11 (by simpa using h)).below hb, fun h => (p12 (by simpa using h)).below hb, fun h => (p13 (by simpa using h)).below hb, fun h => (p14 (by simpa using h)).below hb⟩
theorem inv_11 {b0 : Nat} {w1 : World} {l : Nat → Bool} {x28 x29 x30 x31 x32 x33 x34 x35 x36 x37 x38 x4 x5 x6 : Value} {W W' : World} {v : Value} (hB : Below w1.heap.size w1 W) (p0 : l 0 = true → x28 = .agg #[.string ⟨#[97]⟩, .string ⟨#[]⟩]) (p1 : l 1 = true → x29 = .agg #[.string ⟨#[98]⟩, .string ⟨#[]⟩]) (p2 : l 2 = true → RowT w1.heap.size W x30 [tA, tB]) (p3 : l 3 = true → OwnZ w1.heap.size 24 W x31 [[tA, tB]]) (p4 : l 4 = true → x32 = .agg #[.string ⟨#[97]⟩, .string ⟨#[]⟩]) (p5 : l 5 = true → RowT w1.heap.size W x33 [tA]) (p6 : l 6 = true → OwnZ w1.heap.size 24 W x34 [[tA]]) (p7 : l 7 = true → x35 = .agg #[.string ⟨#[97]⟩, .string ⟨#[]⟩]) (p8 : l 8 = true → RowT w1.heap.size W x36 [tA]) (p9 : l 9 = true → x37 = .agg #[.string ⟨#[99]⟩, .string ⟨#[]⟩]) (p10 : l 10 = true → RowT w1.heap.size W x38 [tC]) (p12 : l 12 = true → OwnZ w1.heap.size 24 W x4 [[tA, tB]]) (p13 : l 13 = true → OwnZ w1.heap.size 24 W x5 [[tA]]) (p14 : l 14 = true → OwnZ w1.heap.size 24 W x6 [[tA], [tC]]) (hv : OwnZ w1.heap.size 24 W' v [[tA], [tC]]) (hb : Below W.heap.size W W') : InvF b0 w1 (fun j => if j = 11 then true else l j) (frF b0 x28 x29 x30 x31 x32 x33 x34 x35 x36 x37 x38 v x4 x5 x6) W' :=
 ⟨x28, x29, x30, x31, x32, x33, x34, x35, x36, x37, x38, v, x4, x5, x6, rfl, hB.trans (hb.mono hB.size), fun h => p0 (by simpa using h), fun h => p1 (by simpa using h), fun h => (p2 (by simpa using h)).below hb, fun h => (p3 (by simpa using h)).below hb, fun h => p4 (by simpa using h), fun h => (p5 (by simpa using h)).below hb, fun h => (p6 (by simpa using h)).below hb, fun h => p7 (by simpa using h), fun h => (p8 (by simpa using h)).below hb, fun h => p9 (by simpa using h), fun h => (p10 (by simpa using h)).below hb, fun _ => hv, fun h => (p12 (by simpa using h)).below hb, fun h => (p13 (by simpa using h)).below hb, fun h => (p14 (by simpa using h)).below hb⟩
theorem inv_12 {b0 : Nat} {w1 : World} {l : Nat → Bool} {x28 x29 x30 x31 x32 x33 x34 x35 x36 x37 x38 x39 x5 x6 : Value} {W W' : World} {v : Value} (hB : Below w1.heap.size w1 W) (p0 : l 0 = true → x28 = .agg #[.string ⟨#[97]⟩, .string ⟨#[]⟩]) (p1 : l 1 = true → x29 = .agg #[.string ⟨#[98]⟩, .string ⟨#[]⟩]) (p2 : l 2 = true → RowT w1.heap.size W x30 [tA, tB]) (p3 : l 3 = true → OwnZ w1.heap.size 24 W x31 [[tA, tB]]) (p4 : l 4 = true → x32 = .agg #[.string ⟨#[97]⟩, .string ⟨#[]⟩]) (p5 : l 5 = true → RowT w1.heap.size W x33 [tA]) (p6 : l 6 = true → OwnZ w1.heap.size 24 W x34 [[tA]]) (p7 : l 7 = true → x35 = .agg #[.string ⟨#[97]⟩, .string ⟨#[]⟩]) (p8 : l 8 = true → RowT w1.heap.size W x36 [tA]) (p9 : l 9 = true → x37 = .agg #[.string ⟨#[99]⟩, .string ⟨#[]⟩]) (p10 : l 10 = true → RowT w1.heap.size W x38 [tC]) (p11 : l 11 = true → OwnZ w1.heap.size 24 W x39 [[tA], [tC]]) (p13 : l 13 = true → OwnZ w1.heap.size 24 W x5 [[tA]]) (p14 : l 14 = true → OwnZ w1.heap.size 24 W x6 [[tA], [tC]]) (hv : OwnZ w1.heap.size 24 W' v [[tA, tB]]) (hb : Below W.heap.size W W') : InvF b0 w1 (fun j => if j = 12 then true else l j) (frF b0 x28 x29 x30 x31 x32 x33 x34 x35 x36 x37 x38 x39 v x5 x6) W' :=
 ⟨x28, x29, x30, x31, x32, x33, x34, x35, x36, x37, x38, x39, v, x5, x6, rfl, hB.trans (hb.mono hB.size), fun h => p0 (by simpa using h), fun h => p1 (by simpa using h), fun h => (p2 (by simpa using h)).below hb, fun h => (p3 (by simpa using h)).below hb, fun h => p4 (by simpa using h), fun h => (p5 (by simpa using h)).below hb, fun h => (p6 (by simpa using h)).below hb, fun h => p7 (by simpa using h), fun h => (p8 (by simpa using h)).below hb, fun h => p9 (by simpa using h), fun h => (p10 (by simpa using h)).below hb, fun h => (p11 (by simpa using h)).below hb, fun _ => hv, fun h => (p13 (by simpa using h)).below hb, fun h => (p14 (by simpa using h)).below hb⟩
theorem inv_13 {b0 : Nat} {w1 : World} {l : Nat → Bool} {x28 x29 x30 x31 x32 x33 x34 x35 x36 x37 x38 x39 x4 x6 : Value} {W W' : World} {v : Value} (hB : Below w1.heap.size w1 W) (p0 : l 0 = true → x28 = .agg #[.string ⟨#[97]⟩, .string ⟨#[]⟩]) (p1 : l 1 = true → x29 = .agg #[.string ⟨#[98]⟩, .string ⟨#[]⟩]) (p2 : l 2 = true → RowT w1.heap.size W x30 [tA, tB]) (p3 : l 3 = true → OwnZ w1.heap.size 24 W x31 [[tA, tB]]) (p4 : l 4 = true → x32 = .agg #[.string ⟨#[97]⟩, .string ⟨#[]⟩]) (p5 : l 5 = true → RowT w1.heap.size W x33 [tA]) (p6 : l 6 = true → OwnZ w1.heap.size 24 W x34 [[tA]]) (p7 : l 7 = true → x35 = .agg #[.string ⟨#[97]⟩, .string ⟨#[]⟩]) (p8 : l 8 = true → RowT w1.heap.size W x36 [tA]) (p9 : l 9 = true → x37 = .agg #[.string ⟨#[99]⟩, .string ⟨#[]⟩]) (p10 : l 10 = true → RowT w1.heap.size W x38 [tC]) (p11 : l 11 = true → OwnZ w1.heap.size 24 W x39 [[tA], [tC]]) (p12 : l 12 = true → OwnZ w1.heap.size 24 W x4 [[tA, tB]]) (p14 : l 14 = true → OwnZ w1.heap.size 24 W x6 [[tA], [tC]]) (hv : OwnZ w1.heap.size 24 W' v [[tA]]) (hb : Below W.heap.size W W') : InvF b0 w1 (fun j => if j = 13 then true else l j) (frF b0 x28 x29 x30 x31 x32 x33 x34 x35 x36 x37 x38 x39 x4 v x6) W' :=
 ⟨x28, x29, x30, x31, x32, x33, x34, x35, x36, x37, x38, x39, x4, v, x6, rfl, hB.trans (hb.mono hB.size), fun h => p0 (by simpa using h), fun h => p1 (by simpa using h), fun h => (p2 (by simpa using h)).below hb, fun h => (p3 (by simpa using h)).below hb, fun h => p4 (by simpa using h), fun h => (p5 (by simpa using h)).below hb, fun h => (p6 (by simpa using h)).below hb, fun h => p7 (by simpa using h), fun h => (p8 (by simpa using h)).below hb, fun h => p9 (by simpa using h), fun h => (p10 (by simpa using h)).below hb, fun h => (p11 (by simpa using h)).below hb, fun h => (p12 (by simpa using h)).below hb, fun _ => hv, fun h => (p14 (by simpa using h)).below hb⟩
theorem inv_14 {b0 : Nat} {w1 : World} {l : Nat → Bool} {x28 x29 x30 x31 x32 x33 x34 x35 x36 x37 x38 x39 x4 x5 : Value} {W W' : World} {v : Value} (hB : Below w1.heap.size w1 W) (p0 : l 0 = true → x28 = .agg #[.string ⟨#[97]⟩, .string ⟨#[]⟩]) (p1 : l 1 = true → x29 = .agg #[.string ⟨#[98]⟩, .string ⟨#[]⟩]) (p2 : l 2 = true → RowT w1.heap.size W x30 [tA, tB]) (p3 : l 3 = true → OwnZ w1.heap.size 24 W x31 [[tA, tB]]) (p4 : l 4 = true → x32 = .agg #[.string ⟨#[97]⟩, .string ⟨#[]⟩]) (p5 : l 5 = true → RowT w1.heap.size W x33 [tA]) (p6 : l 6 = true → OwnZ w1.heap.size 24 W x34 [[tA]]) (p7 : l 7 = true → x35 = .agg #[.string ⟨#[97]⟩, .string ⟨#[]⟩]) (p8 : l 8 = true → RowT w1.heap.size W x36 [tA]) (p9 : l 9 = true → x37 = .agg #[.string ⟨#[99]⟩, .string ⟨#[]⟩]) (p10 : l 10 = true → RowT w1.heap.size W x38 [tC]) (p11 : l 11 = true → OwnZ w1.heap.size 24 W x39 [[tA], [tC]]) (p12 : l 12 = true → OwnZ w1.heap.size 24 W x4 [[tA, tB]]) (p13 : l 13 = true → OwnZ w1.heap.size 24 W x5 [[tA]]) (hv : OwnZ w1.heap.size 24 W' v [[tA], [tC]]) (hb : Below W.heap.size W W') : InvF b0 w1 (fun j => if j = 14 then true else l j) (frF b0 x28 x29 x30 x31 x32 x33 x34 x35 x36 x37 x38 x39 x4 x5 v) W' :=
 ⟨x28, x29, x30, x31, x32, x33, x34, x35, x36, x37, x38, x39, x4, x5, v, rfl, hB.trans (hb.mono hB.size), fun h => p0 (by simpa using h), fun h => p1 (by simpa using h), fun h => (p2 (by simpa using h)).below hb, fun h => (p3 (by simpa using h)).below hb, fun h => p4 (by simpa using h), fun h => (p5 (by simpa using h)).below hb, fun h => (p6 (by simpa using h)).below hb, fun h => p7 (by simpa using h), fun h => (p8 (by simpa using h)).below hb, fun h => p9 (by simpa using h), fun h => (p10 (by simpa using h)).below hb, fun h => (p11 (by simpa using h)).below hb, fun h => (p12 (by simpa using h)).below hb, fun h => (p13 (by simpa using h)).below hb, fun _ => hv⟩
theorem rowT_two (w : World) {s t : Term} (s1 : s.license.size ≤ maxLen) (s2 : s.exception.size ≤ maxLen) (t1 : t.license.size ≤ maxLen) (t2 : t.exception.size ≤ maxLen) :
  RowT w.heap.size (w.alloc (.cells #[.string s.license, .string s.exception, .string t.license, .string t.exception] 67)) (.slice (some ⟨w.heap.size, 0, none⟩) 2 2) [s, t] := by
 refine ⟨⟨rfl, .inr ⟨w.heap.size, 2, #[.string s.license, .string s.exception, .string t.license, .string t.exception], rfl, Nat.le_refl _, World.alloc_heap_new w _, Nat.le_refl _, by decide, rfl, rfl⟩⟩, fun x hx => ?_⟩
 simp at hx
 rcases hx with rfl | rfl
 ·exact ⟨s1, s2⟩
 ·exact ⟨t1, t2⟩
theorem rowT_weaken {B B' : Nat} {w : World} {v : Value} {xs : List Term} (h : RowT B w v xs) (hB : B' ≤ B) : RowT B' w v xs := ⟨ownsRow_weaken h.1 hB, h.2⟩
theorem ownZ_two (w : World) {u u2 : Value} {y y2 : List Term} (hy : ∀ w', Agree 0 (· = 24) (w.alloc (.cells #[u, u2] 24)) w' → Is w' u y) (hy2 : ∀ w', Agree 0 (· = 24) (w.alloc (.cells #[u, u2] 24)) w' → Is w' u2 y2) :
  OwnZ w.heap.size 24 (w.alloc (.cells #[u, u2] 24)) (.slice (some ⟨w.heap.size, 0, none⟩) 2 2) [y, y2] := by
 have hrow : ∀ B, B ≤ w.heap.size → (w.alloc (.cells #[u, u2] 24)).ownsRow B 24 1 (.slice (some ⟨w.heap.size, 0, none⟩) 2 2) 2 [u, u2] := fun B hB =>
  ⟨rfl, .inr ⟨w.heap.size, 2, #[u, u2], rfl, hB, World.alloc_heap_new w _, Nat.le_refl _, by decide, rfl, rfl⟩⟩
 refine ⟨⟨[[u], [u2]], rfl, hrow 0 (Nat.zero_le _), fun i z x hz hx => ?_⟩, _, hrow _ (Nat.le_refl _)⟩
 match i with
 | 0 =>
  simp at hz hx; subst hz; subst hx
  refine ⟨rfl, fun w' hA => ?_⟩
  obtain ⟨a', c', rfl, h1, h2, h3⟩ := list_inv (hy _ hA)
  exact ⟨_, _, rfl, h1, h2, h3⟩
 | 1 =>
  simp at hz hx; subst hz; subst hx
  refine ⟨rfl, fun w' hA => ?_⟩
  obtain ⟨a', c', rfl, h1, h2, h3⟩ := list_inv (hy2 _ hA)
  exact ⟨_, _, rfl, h1, h2, h3⟩
 | i + 2 => simp at hz
theorem eA_is (w : World) : Is w (.agg #[.int .i64 0, .string ⟨#[97]⟩, .string ⟨#[]⟩, .slice none 0 0]) eA :=
 LExpr.mk' (k := 0) (n := nA) (x := ByteArray.empty) (ks := []) (by unfold inI64; omega) (by decide) (by decide) (Nat.le_refl _) (by decide) (fun i x h => by simp at h)
theorem eAB_is (w : World) : Is (w.alloc (.cells #[.int .i64 0, .string ⟨#[97]⟩, .string ⟨#[]⟩, .slice none 0 0, .int .i64 0, .string ⟨#[98]⟩, .string ⟨#[]⟩, .slice none 0 0] 45)) (.agg #[.int .i64 3, .string ⟨#[]⟩, .string ⟨#[]⟩, .slice (some ⟨w.heap.size, 0, none⟩) 2 2]) eAB := by
 have hn := World.alloc_heap_new w (.cells #[.int .i64 0, .string ⟨#[97]⟩, .string ⟨#[]⟩, .slice none 0 0, .int .i64 0, .string ⟨#[98]⟩, .string ⟨#[]⟩, .slice none 0 0] 45)
 refine LExpr.mk' (k := 3) (n := ByteArray.empty) (x := ByteArray.empty) (ks := [eA, eB]) (by unfold inI64; omega) (by decide) (by decide) (Nat.le_refl _) (by decide) (fun i x hx => ⟨w.heap.size, 0, rfl, by simp, ?_⟩)
 match i, hx with
 | 0, hx =>
  cases hx
  exact LExpr.is_iff.2 ⟨none, 0, objcell2 hn (j := 0) rfl, objcell2 hn (j := 1) rfl, objcell2 hn (j := 2) rfl, objcell2 hn (j := 3) rfl, by unfold inI64; omega, by decide, by decide, Nat.le_refl _, by decide, fun i x h => by simp at h⟩
 | 1, hx =>
  cases hx
  exact LExpr.is_iff.2 ⟨none, 0, objcell2 hn (j := 4) rfl, objcell2 hn (j := 5) rfl, objcell2 hn (j := 6) rfl, objcell2 hn (j := 7) rfl, by unfold inI64; omega, by decide, by decide, Nat.le_refl _, by decide, fun i x h => by simp at h⟩
 | i + 2, hx => simp at hx
theorem eA_or : orOnly eA := fun y hy => by simp [eA, nodesE, nodesKs] at hy; subst hy; exact .inl rfl
theorem eAB_or : orOnly eAB := fun y hy => by
 simp [eAB, eA, eB, nodesE, nodesKs] at hy
 rcases hy with rfl | rfl | rfl
 ·exact .inr (.inr rfl)
 ·exact .inl rfl
 ·exact .inl rfl
end Go.Proofs.YtoemmpfcnpdblaaGreatDoor
namespace Go.Proofs.YtoemmpfcnpdblaaGreatDoor
open Go Go.RowKit Go.ChangeShapes Go.Sort Go.Lib

set_option maxRecDepth 100000 in
set_option maxHeartbeats 8000000 in
theorem awakeF_p (w : World) (hg : Glob w) : Calls Tryz.prog 11 #[] w fun e w' => e = .returned (.bool true) ∧ Below w.heap.size w w' := by
 have HG := Lib.hid hg
 clear hg
 have hb1 : Below w.heap.size w (((w.alloc (.cells #[.string ⟨#[97]⟩, .string ⟨#[]⟩] 67)).alloc (.cells #[.string ⟨#[98]⟩, .string ⟨#[]⟩] 67)).alloc (.cells #[.string ⟨#[99]⟩, .string ⟨#[]⟩] 67)) := (by repeat (first | exact zR _ _ | assumption | refine zN ?_ _ | refine zD ?_ | refine zA ?_ ?_ _ | refine zS ?_ ?_ _ | refine zT ?_ (zM (by assumption) ?_) | exact Nat.le_refl _ | (simp <;> omega) | omega))
 have hba : Below ((w.alloc (.cells #[.string ⟨#[97]⟩, .string ⟨#[]⟩] 67)).alloc (.cells #[.string ⟨#[98]⟩, .string ⟨#[]⟩] 67)).heap.size ((w.alloc (.cells #[.string ⟨#[97]⟩, .string ⟨#[]⟩] 67)).alloc (.cells #[.string ⟨#[98]⟩, .string ⟨#[]⟩] 67)) (((w.alloc (.cells #[.string ⟨#[97]⟩, .string ⟨#[]⟩] 67)).alloc (.cells #[.string ⟨#[98]⟩, .string ⟨#[]⟩] 67)).alloc (.cells #[.string ⟨#[99]⟩, .string ⟨#[]⟩] 67)) := (by repeat (first | exact zR _ _ | assumption | refine zN ?_ _ | refine zD ?_ | refine zA ?_ ?_ _ | refine zS ?_ ?_ _ | refine zT ?_ (zM (by assumption) ?_) | exact Nat.le_refl _ | (simp <;> omega) | omega))
 have hnew := World.alloc_heap_new ((w.alloc (.cells #[.string ⟨#[97]⟩, .string ⟨#[]⟩] 67)).alloc (.cells #[.string ⟨#[98]⟩, .string ⟨#[]⟩] 67)) (.cells #[.string ⟨#[99]⟩, .string ⟨#[]⟩] 67)
 simp only [World.size_alloc] at hnew
 have a0 : (((w.alloc (.cells #[.string ⟨#[97]⟩, .string ⟨#[]⟩] 67)).alloc (.cells #[.string ⟨#[98]⟩, .string ⟨#[]⟩] 67)).alloc (.cells #[.string ⟨#[99]⟩, .string ⟨#[]⟩] 67)).cell? ⟨w.heap.size, 0, none⟩ = some (.string ⟨#[97]⟩) := kept hba (a := ⟨w.heap.size, 0, none⟩) (v := .string ⟨#[97]⟩) (by simp)
 have a1 : (((w.alloc (.cells #[.string ⟨#[97]⟩, .string ⟨#[]⟩] 67)).alloc (.cells #[.string ⟨#[98]⟩, .string ⟨#[]⟩] 67)).alloc (.cells #[.string ⟨#[99]⟩, .string ⟨#[]⟩] 67)).cell? ⟨w.heap.size, 1, none⟩ = some (.string ⟨#[]⟩) := kept hba (a := ⟨w.heap.size, 1, none⟩) (v := .string ⟨#[]⟩) (by simp)
 have b0 : (((w.alloc (.cells #[.string ⟨#[97]⟩, .string ⟨#[]⟩] 67)).alloc (.cells #[.string ⟨#[98]⟩, .string ⟨#[]⟩] 67)).alloc (.cells #[.string ⟨#[99]⟩, .string ⟨#[]⟩] 67)).cell? ⟨w.heap.size + 1, 0, none⟩ = some (.string ⟨#[98]⟩) := kept hba (a := ⟨w.heap.size + 1, 0, none⟩) (v := .string ⟨#[98]⟩) (by simp)
 have b1 : (((w.alloc (.cells #[.string ⟨#[97]⟩, .string ⟨#[]⟩] 67)).alloc (.cells #[.string ⟨#[98]⟩, .string ⟨#[]⟩] 67)).alloc (.cells #[.string ⟨#[99]⟩, .string ⟨#[]⟩] 67)).cell? ⟨w.heap.size + 1, 1, none⟩ = some (.string ⟨#[]⟩) := kept hba (a := ⟨w.heap.size + 1, 1, none⟩) (v := .string ⟨#[]⟩) (by simp)
 have c0 : (((w.alloc (.cells #[.string ⟨#[97]⟩, .string ⟨#[]⟩] 67)).alloc (.cells #[.string ⟨#[98]⟩, .string ⟨#[]⟩] 67)).alloc (.cells #[.string ⟨#[99]⟩, .string ⟨#[]⟩] 67)).cell? ⟨w.heap.size + 1 + 1, 0, none⟩ = some (.string ⟨#[99]⟩) := objcell2 hnew (j := 0) rfl
 have c1 : (((w.alloc (.cells #[.string ⟨#[97]⟩, .string ⟨#[]⟩] 67)).alloc (.cells #[.string ⟨#[98]⟩, .string ⟨#[]⟩] 67)).alloc (.cells #[.string ⟨#[99]⟩, .string ⟨#[]⟩] 67)).cell? ⟨w.heap.size + 1 + 1, 1, none⟩ = some (.string ⟨#[]⟩) := objcell2 hnew (j := 1) rfl
 have hz1 : (((w.alloc (.cells #[.string ⟨#[97]⟩, .string ⟨#[]⟩] 67)).alloc (.cells #[.string ⟨#[98]⟩, .string ⟨#[]⟩] 67)).alloc (.cells #[.string ⟨#[99]⟩, .string ⟨#[]⟩] 67)).heap.size = w.heap.size + 1 + 1 + 1 := by simp
 have HB1 := Lib.hid hb1
 have A0 := Lib.hid a0
 have A1 := Lib.hid a1
 have B0 := Lib.hid b0
 have B1 := Lib.hid b1
 have C0 := Lib.hid c0
 have C1 := Lib.hid c1
 have HZ1 := Lib.hid hz1
 clear hb1 hba hnew a0 a1 b0 b1 c0 c1 hz1
 go_enter Tryz.func11, Tryz.ntmps11
 go_wp2_with fail
 generalize (((w.alloc (.cells #[.string ⟨#[97]⟩, .string ⟨#[]⟩] 67)).alloc (.cells #[.string ⟨#[98]⟩, .string ⟨#[]⟩] 67)).alloc (.cells #[.string ⟨#[99]⟩, .string ⟨#[]⟩] 67)) = w1 at *
 refine wp_region_inv (by kernel_rfl) (InvF w.heap.size w1) (by decide +kernel) ?start ?step ?fin
 case start => exact ⟨undef, undef, undef, undef, undef, undef, undef, undef, undef, undef, undef, undef, undef, undef, undef, rfl, (by repeat (first | exact zR _ _ | assumption | refine zN ?_ _ | refine zD ?_ | refine zA ?_ ?_ _ | refine zS ?_ ?_ _ | refine zT ?_ (zM (by assumption) ?_) | exact Nat.le_refl _ | (simp <;> omega) | omega)), fun h => (by cases h), fun h => (by cases h), fun h => (by cases h), fun h => (by cases h), fun h => (by cases h), fun h => (by cases h), fun h => (by cases h), fun h => (by cases h), fun h => (by cases h), fun h => (by cases h), fun h => (by cases h), fun h => (by cases h), fun h => (by cases h), fun h => (by cases h), fun h => (by cases h)⟩
 case step =>
  rintro l a W i hi ⟨x28, x29, x30, x31, x32, x33, x34, x35, x36, x37, x38, x39, x4, x5, x6, rfl, hB, p0, p1, p2, p3, p4, p5, p6, p7, p8, p9, p10, p11, p12, p13, p14⟩ hnd
  have hs1 : w1.heap.size ≤ W.heap.size := hB.size
  have hs0 : w.heap.size + 1 + 1 < W.heap.size := by have := HZ1.out; omega
  have hs2 : w.heap.size + 1 < W.heap.size := by omega
  have hs3 : w.heap.size < W.heap.size := by omega
  have a0 := kept hB A0.out
  have a1 := kept hB A1.out
  have b0 := kept hB B0.out
  have b1 := kept hB B1.out
  have c0 := kept hB C0.out
  have c1 := kept hB C1.out
  match i, hi with
  | 0, _ =>
   have hK : ∀ v W', v = .agg #[.string ⟨#[97]⟩, .string ⟨#[]⟩] → Below W.heap.size W W' → InvF w.heap.size w1 (fun j => if j = 0 then true else l j) (frF w.heap.size v x29 x30 x31 x32 x33 x34 x35 x36 x37 x38 x39 x4 x5 x6) W' := fun v W' hv hb => inv_0 hB p1 p2 p3 p4 p5 p6 p7 p8 p9 p10 p11 p12 p13 p14 hv hb
   have HK := Lib.hid hK
   clear hK
   generalize InvF w.heap.size w1 (fun j => if j = 0 then true else l j) = KK at *
   unfold frF
   refine wpOp_of (o := _) rfl ?_
   go_simp
   exact HK.out _ _ rfl (Below.refl _ _)
  | 1, _ =>
   have hK : ∀ v W', v = .agg #[.string ⟨#[98]⟩, .string ⟨#[]⟩] → Below W.heap.size W W' → InvF w.heap.size w1 (fun j => if j = 1 then true else l j) (frF w.heap.size x28 v x30 x31 x32 x33 x34 x35 x36 x37 x38 x39 x4 x5 x6) W' := fun v W' hv hb => inv_1 hB p0 p2 p3 p4 p5 p6 p7 p8 p9 p10 p11 p12 p13 p14 hv hb
   have HK := Lib.hid hK
   clear hK
   generalize InvF w.heap.size w1 (fun j => if j = 1 then true else l j) = KK at *
   unfold frF
   refine wpOp_of (o := _) rfl ?_
   go_simp
   exact HK.out _ _ rfl (Below.refl _ _)
  | 2, _ =>
   have q0 := p0 (hnd 0 (by decide +kernel))
   have q1 := p1 (hnd 1 (by decide +kernel))
   have hK : ∀ v W', RowT w1.heap.size W' v [tA, tB] → Below W.heap.size W W' → InvF w.heap.size w1 (fun j => if j = 2 then true else l j) (frF w.heap.size x28 x29 v x31 x32 x33 x34 x35 x36 x37 x38 x39 x4 x5 x6) W' := fun v W' hv hb => inv_2 hB p0 p1 p3 p4 p5 p6 p7 p8 p9 p10 p11 p12 p13 p14 hv hb
   subst q0 q1
   have HK := Lib.hid hK
   clear hK
   generalize InvF w.heap.size w1 (fun j => if j = 2 then true else l j) = KK at *
   unfold frF
   refine wpOp_of (o := _) rfl ?_
   go_simp
   exact HK.out _ _ (rowT_weaken (rowT_two W (s := tA) (t := tB) (by decide) (by decide) (by decide) (by decide)) hs1) (by repeat (first | exact zR _ _ | assumption | refine zN ?_ _ | refine zD ?_ | refine zA ?_ ?_ _ | refine zS ?_ ?_ _ | refine zT ?_ (zM (by assumption) ?_) | exact Nat.le_refl _ | (simp <;> omega) | omega))
  | 3, _ =>
   have q2 := p2 (hnd 2 (by decide +kernel))
   have hK : ∀ v W', OwnZ w1.heap.size 24 W' v [[tA, tB]] → Below W.heap.size W W' → InvF w.heap.size w1 (fun j => if j = 3 then true else l j) (frF w.heap.size x28 x29 x30 v x32 x33 x34 x35 x36 x37 x38 x39 x4 x5 x6) W' := fun v W' hv hb => inv_3 hB p0 p1 p2 p4 p5 p6 p7 p8 p9 p10 p11 p12 p13 p14 hv hb
   obtain ⟨a5, c5, rfl⟩ := q2.shape
   have HK := Lib.hid hK
   clear hK
   generalize InvF w.heap.size w1 (fun j => if j = 3 then true else l j) = KK at *
   unfold frF
   refine wpOp_of (o := _) rfl ?_
   go_simp
   exact HK.out _ _ ((ownZ_one W (fun w' hA => (rowT_agree (q2.below (by repeat (first | exact zR _ _ | assumption | refine zN ?_ _ | refine zD ?_ | refine zA ?_ ?_ _ | refine zS ?_ ?_ _ | refine zT ?_ (zM (by assumption) ?_) | exact Nat.le_refl _ | (simp <;> omega) | omega))) hA).is)).weaken hs1) (by repeat (first | exact zR _ _ | assumption | refine zN ?_ _ | refine zD ?_ | refine zA ?_ ?_ _ | refine zS ?_ ?_ _ | refine zT ?_ (zM (by assumption) ?_) | exact Nat.le_refl _ | (simp <;> omega) | omega))
  | 4, _ =>
   have hK : ∀ v W', v = .agg #[.string ⟨#[97]⟩, .string ⟨#[]⟩] → Below W.heap.size W W' → InvF w.heap.size w1 (fun j => if j = 4 then true else l j) (frF w.heap.size x28 x29 x30 x31 v x33 x34 x35 x36 x37 x38 x39 x4 x5 x6) W' := fun v W' hv hb => inv_4 hB p0 p1 p2 p3 p5 p6 p7 p8 p9 p10 p11 p12 p13 p14 hv hb
   have HK := Lib.hid hK
   clear hK
   generalize InvF w.heap.size w1 (fun j => if j = 4 then true else l j) = KK at *
   unfold frF
   refine wpOp_of (o := _) rfl ?_
   go_simp
   exact HK.out _ _ rfl (Below.refl _ _)
  | 5, _ =>
   have q4 := p4 (hnd 4 (by decide +kernel))
   have hK : ∀ v W', RowT w1.heap.size W' v [tA] → Below W.heap.size W W' → InvF w.heap.size w1 (fun j => if j = 5 then true else l j) (frF w.heap.size x28 x29 x30 x31 x32 v x34 x35 x36 x37 x38 x39 x4 x5 x6) W' := fun v W' hv hb => inv_5 hB p0 p1 p2 p3 p4 p6 p7 p8 p9 p10 p11 p12 p13 p14 hv hb
   subst q4
   have HK := Lib.hid hK
   clear hK
   generalize InvF w.heap.size w1 (fun j => if j = 5 then true else l j) = KK at *
   unfold frF
   refine wpOp_of (o := _) rfl ?_
   go_simp
   exact HK.out _ _ (rowT_weaken (rowT_new W (t := tA) (by decide) (by decide)) hs1) (by repeat (first | exact zR _ _ | assumption | refine zN ?_ _ | refine zD ?_ | refine zA ?_ ?_ _ | refine zS ?_ ?_ _ | refine zT ?_ (zM (by assumption) ?_) | exact Nat.le_refl _ | (simp <;> omega) | omega))
  | 6, _ =>
   have q5 := p5 (hnd 5 (by decide +kernel))
   have hK : ∀ v W', OwnZ w1.heap.size 24 W' v [[tA]] → Below W.heap.size W W' → InvF w.heap.size w1 (fun j => if j = 6 then true else l j) (frF w.heap.size x28 x29 x30 x31 x32 x33 v x35 x36 x37 x38 x39 x4 x5 x6) W' := fun v W' hv hb => inv_6 hB p0 p1 p2 p3 p4 p5 p7 p8 p9 p10 p11 p12 p13 p14 hv hb
   obtain ⟨a5, c5, rfl⟩ := q5.shape
   have HK := Lib.hid hK
   clear hK
   generalize InvF w.heap.size w1 (fun j => if j = 6 then true else l j) = KK at *
   unfold frF
   refine wpOp_of (o := _) rfl ?_
   go_simp
   exact HK.out _ _ ((ownZ_one W (fun w' hA => (rowT_agree (q5.below (by repeat (first | exact zR _ _ | assumption | refine zN ?_ _ | refine zD ?_ | refine zA ?_ ?_ _ | refine zS ?_ ?_ _ | refine zT ?_ (zM (by assumption) ?_) | exact Nat.le_refl _ | (simp <;> omega) | omega))) hA).is)).weaken hs1) (by repeat (first | exact zR _ _ | assumption | refine zN ?_ _ | refine zD ?_ | refine zA ?_ ?_ _ | refine zS ?_ ?_ _ | refine zT ?_ (zM (by assumption) ?_) | exact Nat.le_refl _ | (simp <;> omega) | omega))
  | 7, _ =>
   have hK : ∀ v W', v = .agg #[.string ⟨#[97]⟩, .string ⟨#[]⟩] → Below W.heap.size W W' → InvF w.heap.size w1 (fun j => if j = 7 then true else l j) (frF w.heap.size x28 x29 x30 x31 x32 x33 x34 v x36 x37 x38 x39 x4 x5 x6) W' := fun v W' hv hb => inv_7 hB p0 p1 p2 p3 p4 p5 p6 p8 p9 p10 p11 p12 p13 p14 hv hb
   have HK := Lib.hid hK
   clear hK
   generalize InvF w.heap.size w1 (fun j => if j = 7 then true else l j) = KK at *
   unfold frF
   refine wpOp_of (o := _) rfl ?_
   go_simp
   exact HK.out _ _ rfl (Below.refl _ _)
  | 8, _ =>
   have q7 := p7 (hnd 7 (by decide +kernel))
   have hK : ∀ v W', RowT w1.heap.size W' v [tA] → Below W.heap.size W W' → InvF w.heap.size w1 (fun j => if j = 8 then true else l j) (frF w.heap.size x28 x29 x30 x31 x32 x33 x34 x35 v x37 x38 x39 x4 x5 x6) W' := fun v W' hv hb => inv_8 hB p0 p1 p2 p3 p4 p5 p6 p7 p9 p10 p11 p12 p13 p14 hv hb
   subst q7
   have HK := Lib.hid hK
   clear hK
   generalize InvF w.heap.size w1 (fun j => if j = 8 then true else l j) = KK at *
   unfold frF
   refine wpOp_of (o := _) rfl ?_
   go_simp
   exact HK.out _ _ (rowT_weaken (rowT_new W (t := tA) (by decide) (by decide)) hs1) (by repeat (first | exact zR _ _ | assumption | refine zN ?_ _ | refine zD ?_ | refine zA ?_ ?_ _ | refine zS ?_ ?_ _ | refine zT ?_ (zM (by assumption) ?_) | exact Nat.le_refl _ | (simp <;> omega) | omega))
  | 9, _ =>
   have hK : ∀ v W', v = .agg #[.string ⟨#[99]⟩, .string ⟨#[]⟩] → Below W.heap.size W W' → InvF w.heap.size w1 (fun j => if j = 9 then true else l j) (frF w.heap.size x28 x29 x30 x31 x32 x33 x34 x35 x36 v x38 x39 x4 x5 x6) W' := fun v W' hv hb => inv_9 hB p0 p1 p2 p3 p4 p5 p6 p7 p8 p10 p11 p12 p13 p14 hv hb
   have HK := Lib.hid hK
   clear hK
   generalize InvF w.heap.size w1 (fun j => if j = 9 then true else l j) = KK at *
   unfold frF
   refine wpOp_of (o := _) rfl ?_
   go_simp
   exact HK.out _ _ rfl (Below.refl _ _)
  | 10, _ =>
   have q9 := p9 (hnd 9 (by decide +kernel))
   have hK : ∀ v W', RowT w1.heap.size W' v [tC] → Below W.heap.size W W' → InvF w.heap.size w1 (fun j => if j = 10 then true else l j) (frF w.heap.size x28 x29 x30 x31 x32 x33 x34 x35 x36 x37 v x39 x4 x5 x6) W' := fun v W' hv hb => inv_10 hB p0 p1 p2 p3 p4 p5 p6 p7 p8 p9 p11 p12 p13 p14 hv hb
   subst q9
   have HK := Lib.hid hK
   clear hK
   generalize InvF w.heap.size w1 (fun j => if j = 10 then true else l j) = KK at *
   unfold frF
   refine wpOp_of (o := _) rfl ?_
   go_simp
   exact HK.out _ _ (rowT_weaken (rowT_new W (t := tC) (by decide) (by decide)) hs1) (by repeat (first | exact zR _ _ | assumption | refine zN ?_ _ | refine zD ?_ | refine zA ?_ ?_ _ | refine zS ?_ ?_ _ | refine zT ?_ (zM (by assumption) ?_) | exact Nat.le_refl _ | (simp <;> omega) | omega))
  | 11, _ =>
   have q8 := p8 (hnd 8 (by decide +kernel))
   have q10 := p10 (hnd 10 (by decide +kernel))
   have hK : ∀ v W', OwnZ w1.heap.size 24 W' v [[tA], [tC]] → Below W.heap.size W W' → InvF w.heap.size w1 (fun j => if j = 11 then true else l j) (frF w.heap.size x28 x29 x30 x31 x32 x33 x34 x35 x36 x37 x38 v x4 x5 x6) W' := fun v W' hv hb => inv_11 hB p0 p1 p2 p3 p4 p5 p6 p7 p8 p9 p10 p12 p13 p14 hv hb
   obtain ⟨a5, c5, rfl⟩ := q8.shape
   obtain ⟨a6, c6, rfl⟩ := q10.shape
   have HK := Lib.hid hK
   clear hK
   generalize InvF w.heap.size w1 (fun j => if j = 11 then true else l j) = KK at *
   unfold frF
   refine wpOp_of (o := _) rfl ?_
   go_simp
   exact HK.out _ _ ((ownZ_two W (fun w' hA => (rowT_agree (q8.below (by repeat (first | exact zR _ _ | assumption | refine zN ?_ _ | refine zD ?_ | refine zA ?_ ?_ _ | refine zS ?_ ?_ _ | refine zT ?_ (zM (by assumption) ?_) | exact Nat.le_refl _ | (simp <;> omega) | omega))) hA).is) (fun w' hA => (rowT_agree (q10.below (by repeat (first | exact zR _ _ | assumption | refine zN ?_ _ | refine zD ?_ | refine zA ?_ ?_ _ | refine zS ?_ ?_ _ | refine zT ?_ (zM (by assumption) ?_) | exact Nat.le_refl _ | (simp <;> omega) | omega))) hA).is)).weaken hs1) (by repeat (first | exact zR _ _ | assumption | refine zN ?_ _ | refine zD ?_ | refine zA ?_ ?_ _ | refine zS ?_ ?_ _ | refine zT ?_ (zM (by assumption) ?_) | exact Nat.le_refl _ | (simp <;> omega) | omega))
  | 12, _ =>
   have q3 := p3 (hnd 3 (by decide +kernel))
   have hK : ∀ v W', OwnZ w1.heap.size 24 W' v [[tA, tB]] → Below W.heap.size W W' → InvF w.heap.size w1 (fun j => if j = 12 then true else l j) (frF w.heap.size x28 x29 x30 x31 x32 x33 x34 x35 x36 x37 x38 x39 v x5 x6) W' := fun v W' hv hb => inv_12 hB p0 p1 p2 p3 p4 p5 p6 p7 p8 p9 p10 p11 p13 p14 hv hb
   have HK := Lib.hid hK
   clear hK
   generalize InvF w.heap.size w1 (fun j => if j = 12 then true else l j) = KK at *
   unfold frF
   refine wpOp_of (o := _) rfl ?_
   go_simp
   exact HK.out _ _ q3 (Below.refl _ _)
  | 13, _ =>
   have q6 := p6 (hnd 6 (by decide +kernel))
   have hK : ∀ v W', OwnZ w1.heap.size 24 W' v [[tA]] → Below W.heap.size W W' → InvF w.heap.size w1 (fun j => if j = 13 then true else l j) (frF w.heap.size x28 x29 x30 x31 x32 x33 x34 x35 x36 x37 x38 x39 x4 v x6) W' := fun v W' hv hb => inv_13 hB p0 p1 p2 p3 p4 p5 p6 p7 p8 p9 p10 p11 p12 p14 hv hb
   have HK := Lib.hid hK
   clear hK
   generalize InvF w.heap.size w1 (fun j => if j = 13 then true else l j) = KK at *
   unfold frF
   refine wpOp_of (o := _) rfl ?_
   go_simp
   exact HK.out _ _ q6 (Below.refl _ _)
  | 14, _ =>
   have q11 := p11 (hnd 11 (by decide +kernel))
   have hK : ∀ v W', OwnZ w1.heap.size 24 W' v [[tA], [tC]] → Below W.heap.size W W' → InvF w.heap.size w1 (fun j => if j = 14 then true else l j) (frF w.heap.size x28 x29 x30 x31 x32 x33 x34 x35 x36 x37 x38 x39 x4 x5 v) W' := fun v W' hv hb => inv_14 hB p0 p1 p2 p3 p4 p5 p6 p7 p8 p9 p10 p11 p12 p13 hv hb
   have HK := Lib.hid hK
   clear hK
   generalize InvF w.heap.size w1 (fun j => if j = 14 then true else l j) = KK at *
   unfold frF
   refine wpOp_of (o := _) rfl ?_
   go_simp
   exact HK.out _ _ q11 (Below.refl _ _)
  | n + 15, h => exact absurd h (by show ¬ n + 15 < 15; omega)
 case fin =>
  rintro l a W hl ⟨x28, x29, x30, x31, x32, x33, x34, x35, x36, x37, x38, x39, x4, x5, x6, rfl, hB, p0, p1, p2, p3, p4, p5, p6, p7, p8, p9, p10, p11, p12, p13, p14⟩
  unfold frF
  have q4 := p12 (hl 12 (by decide))
  have q5 := p13 (hl 13 (by decide))
  have q6 := p14 (hl 14 (by decide))
  have HB := Lib.hid hB
  have I4 := Lib.hid q4.is
  have I5 := Lib.hid q5.is
  have I6 := Lib.hid q6.is
  clear p0 p1 p2 p3 p4 p5 p6 p7 p8 p9 p10 p11 p12 p13 p14 q4 q5 q6 hB hl
  have hcall := Entails_p W x4 x6 _ _ I4.out I6.out
  rw [f_ent1] at hcall
  obtain ⟨g4, k4, he4, -⟩ := list_inv I4.out
  obtain ⟨g5, k5, he5, -⟩ := list_inv I5.out
  obtain ⟨g6, k6, he6, -⟩ := list_inv I6.out
  simp only [List.length_cons, List.length_nil, Nat.reduceAdd] at he4 he5 he6
  subst he4 he5 he6
  go_wp2_with fail
  refine hcall.mono ?_
  rintro e W3 ⟨rfl, hb3⟩
  have HB3 : Hid (Below w1.heap.size w1 W3) := HB.out.trans (hb3.mono HB.out.size)
  have J4 := Lib.hid (I4.out.mono hb3)
  have J5 := Lib.hid (I5.out.mono hb3)
  have J6 := Lib.hid (I6.out.mono hb3)
  clear hcall hb3 I4 I5 I6 HB
  have hcall := Entails_p W3 _ _ _ _ J6.out J5.out
  rw [f_ent2] at hcall
  go_wp2_with fail
  refine hcall.mono ?_
  rintro e W4 ⟨rfl, hb4⟩
  have HB4 : Hid (Below w1.heap.size w1 W4) := HB3.out.trans (hb4.mono HB3.out.size)
  have I4 := Lib.hid (J4.out.mono hb4)
  have I5 := Lib.hid (J5.out.mono hb4)
  have I6 := Lib.hid (J6.out.mono hb4)
  clear hcall hb4 J4 J5 J6 HB3
  have hcall := Separating_p W4 _ _ _ _ I6.out I5.out
  rw [f_sep.1, f_sep.2] at hcall
  go_wp2_with fail
  refine hcall.mono ?_
  unfold SepOut
  rintro e W5 ⟨v11, rfl, h11, hb5⟩
  have HB5 : Hid (Below w1.heap.size w1 W5) := HB4.out.trans (hb5.mono HB4.out.size)
  have J4 := Lib.hid (I4.out.mono hb5)
  have J5 := Lib.hid (I5.out.mono hb5)
  have J6 := Lib.hid (I6.out.mono hb5)
  have J7 : Hid (Is W5 v11 [tC]) := h11
  have hG5 := Lib.hid (HG.out.mono (HB1.out.trans (HB5.out.mono (by have := HZ1.out; omega))))
  obtain ⟨g7, k7, he7, -⟩ := list_inv J7.out
  simp only [List.length_cons, List.length_nil, Nat.reduceAdd] at he7
  subst he7
  clear hcall hb5 h11 I4 I5 I6 HB4
  go_wp2_with fail
  refine (fParse W5 hG5.out).mono ?_
  rintro e W6 ⟨vc, rfl, hfc, hb6⟩
  have HB6 : Hid (Below w1.heap.size w1 W6) := HB5.out.trans (hb6.mono HB5.out.size)
  have I4 := Lib.hid (J4.out.mono hb6)
  have I5 := Lib.hid (J5.out.mono hb6)
  have I6 := Lib.hid (J6.out.mono hb6)
  have I7 := Lib.hid (J7.out.mono hb6)
  have IC := Lib.hid hfc
  have hG6 := Lib.hid (hG5.out.mono hb6)
  obtain ⟨p0, m0, k0, p1, m1, k1, p2, m2, k2, p3, m3, k3, rfl⟩ := catBox IC.out
  clear hb6 hfc J4 J5 J6 J7 HB5 hG5
  have hba : Below W6.heap.size W6 (W6.alloc (.cells #[.slice p0 m0 k0, .slice p1 m1 k1, .slice p2 m2 k2, .slice p3 m3 k3] 42)) := (by repeat (first | exact zR _ _ | assumption | refine zN ?_ _ | refine zD ?_ | refine zA ?_ ?_ _ | refine zS ?_ ?_ _ | refine zT ?_ (zM (by assumption) ?_) | exact Nat.le_refl _ | (simp <;> omega) | omega))
  have d0 : (W6.alloc (.cells #[.slice p0 m0 k0, .slice p1 m1 k1, .slice p2 m2 k2, .slice p3 m3 k3] 42)).cell? ⟨W6.heap.size, 0, none⟩ = some (.slice p0 m0 k0) := by simp
  have d1 : (W6.alloc (.cells #[.slice p0 m0 k0, .slice p1 m1 k1, .slice p2 m2 k2, .slice p3 m3 k3] 42)).cell? ⟨W6.heap.size, 1, none⟩ = some (.slice p1 m1 k1) := by simp
  have d2 : (W6.alloc (.cells #[.slice p0 m0 k0, .slice p1 m1 k1, .slice p2 m2 k2, .slice p3 m3 k3] 42)).cell? ⟨W6.heap.size, 2, none⟩ = some (.slice p2 m2 k2) := by simp
  have d3 : (W6.alloc (.cells #[.slice p0 m0 k0, .slice p1 m1 k1, .slice p2 m2 k2, .slice p3 m3 k3] 42)).cell? ⟨W6.heap.size, 3, none⟩ = some (.slice p3 m3 k3) := by simp
  have HB7 : Hid (Below w1.heap.size w1 (W6.alloc (.cells #[.slice p0 m0 k0, .slice p1 m1 k1, .slice p2 m2 k2, .slice p3 m3 k3] 42))) := HB6.out.trans (hba.mono HB6.out.size)
  have J4 := Lib.hid (I4.out.mono hba)
  have J5 := Lib.hid (I5.out.mono hba)
  have J6 := Lib.hid (I6.out.mono hba)
  have J7 := Lib.hid (I7.out.mono hba)
  have JC := Lib.hid (IC.out.mono hba)
  have hG7 := Lib.hid (hG6.out.mono hba)
  have hz7 : w1.heap.size ≤ W6.heap.size := HB6.out.size
  clear hba I4 I5 I6 I7 IC hG6 HB6
  go_wp2_with fail
  generalize W6.alloc (.cells #[.slice p0 m0 k0, .slice p1 m1 k1, .slice p2 m2 k2, .slice p3 m3 k3] 42) = W7 at *
  generalize W6.heap.size = b7 at *
  obtain ⟨r5, s5, he5, -, -, hr5⟩ := list_inv J5.out
  obtain ⟨gg5, oo5, hg5, -, ax5, cx5, y5, l51, l52, l53⟩ := list_at hr5 (show [[tA]][0]? = some [tA] from rfl)
  cases he5
  subst hg5
  have I51 := Lib.hid (list_mk l51 l52 l53)
  clear hr5 l51 l52 l53
  simp only [Nat.add_zero, List.length_cons, List.length_nil, Nat.zero_add] at y5
  have hs7 : w1.heap.size ≤ W7.heap.size := HB7.out.size
  have hn0 : w.heap.size + 1 + 1 < W7.heap.size := by have := HZ1.out; omega
  have hn1 : w.heap.size + 1 < W7.heap.size := by omega
  have hb7 : b7 < W7.heap.size := cell_lt d0
  have hg5l : gg5 < W7.heap.size := cell_lt y5
  have b0 := kept HB7.out B0.out
  have b1 := kept HB7.out B1.out
  have D0 := Lib.hid d0
  have D1 := Lib.hid d1
  have D2 := Lib.hid d2
  have D3 := Lib.hid d3
  have MIL : Hid (∀ W' u, Glob W' → Is W' (.agg #[.slice p0 m0 k0, .slice p1 m1 k1, .slice p2 m2 k2, .slice p3 m3 k3]) fC → Is W' (.slice ax5 1 cx5) [tA] → Is W' u [tB] → Calls Tryz.prog 31 #[.agg #[.slice p0 m0 k0, .slice p1 m1 k1, .slice p2 m2 k2, .slice p3 m3 k3], .slice ax5 1 cx5, u] W' fun e w' => e = .returned (.tuple #[.bool true, .int .i64 0]) ∧ Below W'.heap.size W' w') := fun W' u h1 h2 h3 h4 => by
   have h := Milder_p W' _ _ _ fC [tA] [tB] h1 h2 h3 h4 (by decide) (by decide)
   rw [f_mild] at h; exact h
  go_region_held3 (fun w' => w'.cell? ⟨b7, 0, none⟩ = some (.slice p0 m0 k0) ∧ w'.cell? ⟨b7, 1, none⟩ = some (.slice p1 m1 k1) ∧ w'.cell? ⟨b7, 2, none⟩ = some (.slice p2 m2 k2) ∧ w'.cell? ⟨b7, 3, none⟩ = some (.slice p3 m3 k3) ∧ w'.cell? ⟨gg5, oo5, none⟩ = some (.slice ax5 1 cx5) ∧ w'.cell? ⟨w.heap.size + 1, 0, none⟩ = some (.string ⟨#[98]⟩) ∧ w'.cell? ⟨w.heap.size + 1, 1, none⟩ = some (.string ⟨#[]⟩))
   (first | (go_keep; done) | exact ⟨kept (W := W7) (by repeat (first | exact zR _ _ | assumption | refine zN ?_ _ | refine zD ?_ | refine zA ?_ ?_ _ | refine zS ?_ ?_ _ | refine zT ?_ (zM (by assumption) ?_) | exact Nat.le_refl _ | (simp <;> omega) | omega)) d0, kept (W := W7) (by repeat (first | exact zR _ _ | assumption | refine zN ?_ _ | refine zD ?_ | refine zA ?_ ?_ _ | refine zS ?_ ?_ _ | refine zT ?_ (zM (by assumption) ?_) | exact Nat.le_refl _ | (simp <;> omega) | omega)) d1, kept (W := W7) (by repeat (first | exact zR _ _ | assumption | refine zN ?_ _ | refine zD ?_ | refine zA ?_ ?_ _ | refine zS ?_ ?_ _ | refine zT ?_ (zM (by assumption) ?_) | exact Nat.le_refl _ | (simp <;> omega) | omega)) d2, kept (W := W7) (by repeat (first | exact zR _ _ | assumption | refine zN ?_ _ | refine zD ?_ | refine zA ?_ ?_ _ | refine zS ?_ ?_ _ | refine zT ?_ (zM (by assumption) ?_) | exact Nat.le_refl _ | (simp <;> omega) | omega)) d3, kept (W := W7) (by repeat (first | exact zR _ _ | assumption | refine zN ?_ _ | refine zD ?_ | refine zA ?_ ?_ _ | refine zS ?_ ?_ _ | refine zT ?_ (zM (by assumption) ?_) | exact Nat.le_refl _ | (simp <;> omega) | omega)) y5, kept (W := W7) (by repeat (first | exact zR _ _ | assumption | refine zN ?_ _ | refine zD ?_ | refine zA ?_ ?_ _ | refine zS ?_ ?_ _ | refine zT ?_ (zM (by assumption) ?_) | exact Nat.le_refl _ | (simp <;> omega) | omega)) b0, kept (W := W7) (by repeat (first | exact zR _ _ | assumption | refine zN ?_ _ | refine zD ?_ | refine zA ?_ ?_ _ | refine zS ?_ ?_ _ | refine zT ?_ (zM (by assumption) ?_) | exact Nat.le_refl _ | (simp <;> omega) | omega)) b1⟩)
   (first | (go_at_call 31; (with_reducible refine (MIL.out _ _ ?_ ?_ ?_ ?_).mono ?_); (focus (exact hG7.out.mono (by repeat (first | exact zR _ _ | assumption | refine zN ?_ _ | refine zD ?_ | refine zA ?_ ?_ _ | refine zS ?_ ?_ _ | refine zT ?_ (zM (by assumption) ?_) | exact Nat.le_refl _ | (simp <;> omega) | omega)))); (focus (exact JC.out.mono (by repeat (first | exact zR _ _ | assumption | refine zN ?_ _ | refine zD ?_ | refine zA ?_ ?_ _ | refine zS ?_ ?_ _ | refine zT ?_ (zM (by assumption) ?_) | exact Nat.le_refl _ | (simp <;> omega) | omega)))); (focus (exact I51.out.mono (by repeat (first | exact zR _ _ | assumption | refine zN ?_ _ | refine zD ?_ | refine zA ?_ ?_ _ | refine zS ?_ ?_ _ | refine zT ?_ (zM (by assumption) ?_) | exact Nat.le_refl _ | (simp <;> omega) | omega)))); (focus (exact (rowT_new _ (t := tB) (by decide) (by decide)).is)); rintro e W8 ⟨rfl, hb8⟩; have s8 : W7.heap.size ≤ W8.heap.size := Nat.le_trans (by simp) hb8.size))
  have HB8 : Hid (Below W7.heap.size W7 W8) := by show Below _ _ _; exact (by repeat (first | exact zR _ _ | assumption | refine zN ?_ _ | refine zD ?_ | refine zA ?_ ?_ _ | refine zS ?_ ?_ _ | refine zT ?_ (zM (by assumption) ?_) | exact Nat.le_refl _ | (simp <;> omega) | omega))
  have HB9 : Hid (Below w1.heap.size w1 W8) := HB7.out.trans (HB8.out.mono hs7)
  have I4 := Lib.hid (J4.out.mono HB8.out)
  have I5 := Lib.hid (J5.out.mono HB8.out)
  have I6 := Lib.hid (J6.out.mono HB8.out)
  have I7 := Lib.hid (J7.out.mono HB8.out)
  have IC := Lib.hid (JC.out.mono HB8.out)
  have hG8 := Lib.hid (hG7.out.mono HB8.out)
  have d0 := kept HB8.out D0.out
  have d1 := kept HB8.out D1.out
  have d2 := kept HB8.out D2.out
  have d3 := kept HB8.out D3.out
  have b0 := kept HB9.out B0.out
  have b1 := kept HB9.out B1.out
  have hb8' : b7 < W8.heap.size := cell_lt d0
  have hn0 : w.heap.size + 1 + 1 < W8.heap.size := by omega
  have hn1 : w.heap.size + 1 < W8.heap.size := by omega
  have E0 := Lib.hid d0
  have E1 := Lib.hid d1
  have E2 := Lib.hid d2
  have E3 := Lib.hid d3
  clear hb8 J4 J5 J6 J7 JC hG7 HB7 y5 D0 D1 D2 D3 MIL I51
  generalize (some (⟨gg5, oo5, none⟩ : Addr)) = r5 at *
  have hba : Below W8.heap.size W8 ((W8.alloc (.cells #[.string ⟨#[98]⟩, .string ⟨#[]⟩] 67)).alloc (.cells #[.slice (some ⟨W8.heap.size, 0, none⟩) 1 1] 24)) := (by repeat (first | exact zR _ _ | assumption | refine zN ?_ _ | refine zD ?_ | refine zA ?_ ?_ _ | refine zS ?_ ?_ _ | refine zT ?_ (zM (by assumption) ?_) | exact Nat.le_refl _ | (simp <;> omega) | omega))
  have h1 := rowT_new W8 (t := tB) (by decide) (by decide)
  have h2 := (ownZ_one (W8.alloc (.cells #[.string ⟨#[98]⟩, .string ⟨#[]⟩] 67)) (u := .slice (some ⟨W8.heap.size, 0, none⟩) 1 1) (y := [tB]) (fun w' hA => (rowT_agree (h1.below (by repeat (first | exact zR _ _ | assumption | refine zN ?_ _ | refine zD ?_ | refine zA ?_ ?_ _ | refine zS ?_ ?_ _ | refine zT ?_ (zM (by assumption) ?_) | exact Nat.le_refl _ | (simp <;> omega) | omega))) hA).is)).is
  simp only [World.size_alloc] at h2
  have hcall := EntailsBy_p ((W8.alloc (.cells #[.string ⟨#[98]⟩, .string ⟨#[]⟩] 67)).alloc (.cells #[.slice (some ⟨W8.heap.size, 0, none⟩) 1 1] 24)) _ _ _ fC _ _ (hG8.out.mono hba) (IC.out.mono hba) h2 (I5.out.mono hba)
  rw [f_by] at hcall
  have HBA := Lib.hid hba
  clear hba h1 h2
  go_wp2_with fail
  refine hcall.mono ?_
  rintro e W9 ⟨rfl, hb9⟩
  have HBX : Hid (Below W8.heap.size W8 W9) := HBA.out.trans (hb9.mono (by simp; omega))
  have HB10 : Hid (Below w1.heap.size w1 W9) := HB9.out.trans (HBX.out.mono HB9.out.size)
  have J4 := Lib.hid (I4.out.mono HBX.out)
  have J5 := Lib.hid (I5.out.mono HBX.out)
  have J6 := Lib.hid (I6.out.mono HBX.out)
  have J7 := Lib.hid (I7.out.mono HBX.out)
  have JC := Lib.hid (IC.out.mono HBX.out)
  have hG9 := Lib.hid (hG8.out.mono HBX.out)
  have d0 := kept HBX.out E0.out
  have d1 := kept HBX.out E1.out
  have d2 := kept HBX.out E2.out
  have d3 := kept HBX.out E3.out
  have hs9 : W8.heap.size ≤ W9.heap.size := HBX.out.size
  have F0 := Lib.hid d0
  have F1 := Lib.hid d1
  have F2 := Lib.hid d2
  have F3 := Lib.hid d3
  have hb9' : b7 < W9.heap.size := cell_lt d0
  have hn0 : w.heap.size + 1 + 1 < W9.heap.size := by omega
  clear hcall hb9 I4 I5 I6 I7 IC hG8 HB9 E0 E1 E2 E3 HBA HBX b0 b1
  have hba : Below W9.heap.size W9 (W9.alloc (.cells #[.int .i64 0, .string ⟨#[97]⟩, .string ⟨#[]⟩, .slice none 0 0, .int .i64 0, .string ⟨#[98]⟩, .string ⟨#[]⟩, .slice none 0 0] 45)) := (by repeat (first | exact zR _ _ | assumption | refine zN ?_ _ | refine zD ?_ | refine zA ?_ ?_ _ | refine zS ?_ ?_ _ | refine zT ?_ (zM (by assumption) ?_) | exact Nat.le_refl _ | (simp <;> omega) | omega))
  have hcall := Relate_p fC eA eAB (.inr eA_or) (.inr eAB_or) (by decide +kernel) (by decide +kernel) (W9.alloc (.cells #[.int .i64 0, .string ⟨#[97]⟩, .string ⟨#[]⟩, .slice none 0 0, .int .i64 0, .string ⟨#[98]⟩, .string ⟨#[]⟩, .slice none 0 0] 45)) _ _ _ (hG9.out.mono hba) (JC.out.mono hba) (eA_is _) (eAB_is W9)
  rw [f_rel] at hcall
  have HBA := Lib.hid hba
  clear hba
  go_wp2_with fail
  refine hcall.mono ?_
  rintro e W10 ⟨rfl, hb10⟩
  have HBX : Hid (Below W9.heap.size W9 W10) := HBA.out.trans (hb10.mono (by simp))
  have HB11 : Hid (Below w1.heap.size w1 W10) := HB10.out.trans (HBX.out.mono HB10.out.size)
  have I4 := Lib.hid (J4.out.mono HBX.out)
  have I5 := Lib.hid (J5.out.mono HBX.out)
  have I6 := Lib.hid (J6.out.mono HBX.out)
  have I7 := Lib.hid (J7.out.mono HBX.out)
  have IC := Lib.hid (JC.out.mono HBX.out)
  have hG10 := Lib.hid (hG9.out.mono HBX.out)
  have d0 := kept HBX.out F0.out
  have d1 := kept HBX.out F1.out
  have d2 := kept HBX.out F2.out
  have d3 := kept HBX.out F3.out
  have hs10 : W9.heap.size ≤ W10.heap.size := HBX.out.size
  have hb10' : b7 < W10.heap.size := cell_lt d0
  have hn0 : w.heap.size + 1 + 1 < W10.heap.size := by omega
  clear hcall hb10 J4 J5 J6 J7 JC hG9 HB10 F0 F1 F2 F3 HBA HBX
  obtain ⟨r4, s4, he4, -, -, hr4⟩ := list_inv I4.out
  obtain ⟨gg4, oo4, hg4, -, ax4, cx4, y4, l41, l42, l43⟩ := list_at hr4 (show [[tA, tB]][0]? = some [tA, tB] from rfl)
  cases he4
  subst hg4
  have I41 := Lib.hid (list_mk l41 l42 l43)
  clear hr4 l41 l42 l43
  simp only [Nat.add_zero, List.length_cons, List.length_nil, Nat.zero_add] at y4
  have hg4l : gg4 < W10.heap.size := cell_lt y4
  have CLA : Hid (∀ W', Glob W' → Is W' (.agg #[.slice p0 m0 k0, .slice p1 m1 k1, .slice p2 m2 k2, .slice p3 m3 k3]) fC → Is W' (.slice ax4 2 cx4) [tA, tB] → Calls Tryz.prog 28 #[.agg #[.slice p0 m0 k0, .slice p1 m1 k1, .slice p2 m2 k2, .slice p3 m3 k3], .slice ax4 2 cx4] W' fun e w' => ∃ a c, e = .returned (.tuple #[.slice a 2 c, .int .i64 0]) ∧ Below W'.heap.size W' w') := fun W' h1 h2 h3 => by
   refine (ClausesE_p W' _ _ fC [tA, tB] h1 h2 h3 (by decide)).mono ?_
   rintro e w' ⟨v, rfl, ho, hb⟩
   obtain ⟨a, c, rfl, -⟩ := list_inv ho.is
   rw [f_cla.1, f_cla.2]
   exact ⟨a, c, rfl, hb⟩
  go_wp2_with fail
  go_region_held3 (fun w' => w'.cell? ⟨b7, 0, none⟩ = some (.slice p0 m0 k0) ∧ w'.cell? ⟨b7, 1, none⟩ = some (.slice p1 m1 k1) ∧ w'.cell? ⟨b7, 2, none⟩ = some (.slice p2 m2 k2) ∧ w'.cell? ⟨b7, 3, none⟩ = some (.slice p3 m3 k3) ∧ w'.cell? ⟨gg4, oo4, none⟩ = some (.slice ax4 2 cx4))
   (first | (go_keep; done) | exact ⟨kept (W := W10) (by repeat (first | exact zR _ _ | assumption | refine zN ?_ _ | refine zD ?_ | refine zA ?_ ?_ _ | refine zS ?_ ?_ _ | refine zT ?_ (zM (by assumption) ?_) | exact Nat.le_refl _ | (simp <;> omega) | omega)) d0, kept (W := W10) (by repeat (first | exact zR _ _ | assumption | refine zN ?_ _ | refine zD ?_ | refine zA ?_ ?_ _ | refine zS ?_ ?_ _ | refine zT ?_ (zM (by assumption) ?_) | exact Nat.le_refl _ | (simp <;> omega) | omega)) d1, kept (W := W10) (by repeat (first | exact zR _ _ | assumption | refine zN ?_ _ | refine zD ?_ | refine zA ?_ ?_ _ | refine zS ?_ ?_ _ | refine zT ?_ (zM (by assumption) ?_) | exact Nat.le_refl _ | (simp <;> omega) | omega)) d2, kept (W := W10) (by repeat (first | exact zR _ _ | assumption | refine zN ?_ _ | refine zD ?_ | refine zA ?_ ?_ _ | refine zS ?_ ?_ _ | refine zT ?_ (zM (by assumption) ?_) | exact Nat.le_refl _ | (simp <;> omega) | omega)) d3, kept (W := W10) (by repeat (first | exact zR _ _ | assumption | refine zN ?_ _ | refine zD ?_ | refine zA ?_ ?_ _ | refine zS ?_ ?_ _ | refine zT ?_ (zM (by assumption) ?_) | exact Nat.le_refl _ | (simp <;> omega) | omega)) y4⟩)
   (first | (go_at_call 28; (with_reducible refine (CLA.out _ ?_ ?_ ?_).mono ?_); (focus (exact hG10.out.mono (by repeat (first | exact zR _ _ | assumption | refine zN ?_ _ | refine zD ?_ | refine zA ?_ ?_ _ | refine zS ?_ ?_ _ | refine zT ?_ (zM (by assumption) ?_) | exact Nat.le_refl _ | (simp <;> omega) | omega)))); (focus (exact IC.out.mono (by repeat (first | exact zR _ _ | assumption | refine zN ?_ _ | refine zD ?_ | refine zA ?_ ?_ _ | refine zS ?_ ?_ _ | refine zT ?_ (zM (by assumption) ?_) | exact Nat.le_refl _ | (simp <;> omega) | omega)))); (focus (exact I41.out.mono (by repeat (first | exact zR _ _ | assumption | refine zN ?_ _ | refine zD ?_ | refine zA ?_ ?_ _ | refine zS ?_ ?_ _ | refine zT ?_ (zM (by assumption) ?_) | exact Nat.le_refl _ | (simp <;> omega) | omega)))); rintro e W11 ⟨a9, c9, rfl, hb11⟩; have s11 : W10.heap.size ≤ W11.heap.size := Nat.le_trans (by simp) hb11.size))
  have HBX : Hid (Below W10.heap.size W10 W11) := by show Below _ _ _; exact (by repeat (first | exact zR _ _ | assumption | refine zN ?_ _ | refine zD ?_ | refine zA ?_ ?_ _ | refine zS ?_ ?_ _ | refine zT ?_ (zM (by assumption) ?_) | exact Nat.le_refl _ | (simp <;> omega) | omega))
  have HB12 : Hid (Below w1.heap.size w1 W11) := HB11.out.trans (HBX.out.mono HB11.out.size)
  have J5 := Lib.hid (I5.out.mono HBX.out)
  have J6 := Lib.hid (I6.out.mono HBX.out)
  have J7 := Lib.hid (I7.out.mono HBX.out)
  have c0 := kept HB12.out C0.out
  have c1 := kept HB12.out C1.out
  have hn2 : w.heap.size + 1 + 1 < W11.heap.size := cell_lt c0
  clear hb11 I4 I5 I6 I7 IC hG10 HB11 y4 CLA I41 d0 d1 d2 d3
  generalize (some (⟨gg4, oo4, none⟩ : Addr)) = r4 at *
  have hba : Below W11.heap.size W11 (W11.alloc (.cells #[.string ⟨#[99]⟩, .string ⟨#[]⟩] 67)) := (by repeat (first | exact zR _ _ | assumption | refine zN ?_ _ | refine zD ?_ | refine zA ?_ ?_ _ | refine zS ?_ ?_ _ | refine zT ?_ (zM (by assumption) ?_) | exact Nat.le_refl _ | (simp <;> omega) | omega))
  have h1 := rowT_new W11 (t := tC) (by decide) (by decide)
  have hcall := EqualTerm_p (W11.alloc (.cells #[.string ⟨#[99]⟩, .string ⟨#[]⟩] 67)) _ _ [tC] [tC] (J7.out.mono hba) h1.is
  rw [decide_eq_true rfl] at hcall
  have HBA := Lib.hid hba
  clear hba h1
  go_wp2_with fail
  refine hcall.mono ?_
  rintro e W12 ⟨rfl, hb12⟩
  have HBY : Hid (Below W11.heap.size W11 W12) := HBA.out.trans (hb12.mono (by simp))
  have HB13 : Hid (Below w1.heap.size w1 W12) := HB12.out.trans (HBY.out.mono HB12.out.size)
  have hcall := CheckE_p W12 _ _ _ _ _ _ (J6.out.mono HBY.out) (J5.out.mono HBY.out) (J7.out.mono HBY.out)
  rw [f_chk] at hcall
  clear hb12 c0 c1 HBA HBY HB12 J5 J6 J7
  go_wp2_with fail
  refine hcall.mono ?_
  rintro e W13 ⟨rfl, hb13⟩
  have HB14 : Hid (Below w.heap.size w W13) := HB1.out.trans ((HB13.out.trans (hb13.mono HB13.out.size)).mono (by have := HZ1.out; omega))
  clear hcall hb13
  go_wp2
  go_ret
  exact ⟨rfl, HB14.out⟩
end Go.Proofs.YtoemmpfcnpdblaaGreatDoor
