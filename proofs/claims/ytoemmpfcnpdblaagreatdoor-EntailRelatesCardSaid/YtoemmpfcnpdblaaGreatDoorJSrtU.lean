/- Rows of the call's own whose elements are lists, and the library's words for a row of one cell an element that is sorted. -/
import Derived.Shelf.SlSortCmp.NoneTotal
import Derived.Test.YtoemmpfcnpdblaaGreatDoorJAltG
import Derived.Test.YtoemmpfcnpdblaaGreatDoorJExpG
import Derived.Test.YtoemmpfcnpdblaaGreatDoorJSort
import Derived.Test.YtoemmpfcnpdblaaGreatDoorJEntU
set_option linter.all false
namespace Go.Proofs.YtoemmpfcnpdblaaGreatDoor
open Go Go.RowKit Go.ChangeShapes Go.Sort

def Elt (α : Type) [Lay α] (B : Nat) (E : TypeId → Prop) (w : World) : Type :=
 { p : Value × List α // p.1.oneCell' = true ∧ ∀ w', Agree B E w w' → Is w' p.1 p.2 }
instance {α : Type} [Lay α] {B : Nat} {E : TypeId → Prop} {w : World} : Inhabited (Elt α B E w) := ⟨⟨(.slice none 0 0, []), rfl, fun w' _ => nil_mk w'⟩⟩
def Elt.enc {α : Type} [Lay α] {B : Nat} {E : TypeId → Prop} {w : World} (x : Elt α B E w) : Value := x.1.1
def Elt.dat {α : Type} [Lay α] {B : Nat} {E : TypeId → Prop} {w : World} (x : Elt α B E w) : List α := x.1.2
theorem putRow_heap {β : Type} [Inhabited β] (enc : β → Value) (w : World) (g : Nat) (d : Array β) {cur : Array Value} {e : TypeId} {fr : Nat × Nat} (h : w.heap[g]? = some (.cells cur e fr)) :
  (putRow enc w g 0 d).heap[g]? = some (.cells (putCells enc 0 d cur) e fr) := by
 unfold putRow mapBlock
 simp only [Array.getElem?_modify, if_pos rfl, h]
 rfl
theorem putRow_heap_other {β : Type} [Inhabited β] (enc : β → Value) (w : World) (g i : Nat) (d : Array β) (h : i ≠ g) : (putRow enc w g 0 d).heap[i]? = w.heap[i]? := by
 unfold putRow mapBlock
 simp only [Array.getElem?_modify, if_neg (Ne.symm h)]
theorem size_putRow1 {β : Type} [Inhabited β] (enc : β → Value) (w : World) (g : Nat) (d : Array β) : (putRow enc w g 0 d).heap.size = w.heap.size := by
 unfold putRow mapBlock; simp
theorem sortWorld_heap {β : Type} [Inhabited β] (enc : β → Value) (w : World) (g m : Nat) (d : Array β) (os : Array Obj) {i : Nat} (hi : i < w.heap.size) :
  (sortWorld enc w g 0 m d os).heap[i]? = (putRow enc w g 0 d).heap[i]? := by
 unfold sortWorld
 rw [heap_grow_old _ _ (by rw [size_putRow1]; exact hi)]
 rfl
theorem sortWorld_size {β : Type} [Inhabited β] (enc : β → Value) (w : World) (g m : Nat) (d : Array β) (os : Array Obj) : w.heap.size ≤ (sortWorld enc w g 0 m d os).heap.size := by
 unfold sortWorld; rw [size_grow, size_putRow1]; exact Nat.le_add_right _ _
theorem putCells_take1 {β : Type} [Inhabited β] (enc : β → Value) (d : Array β) (cur : Array Value) (hc : d.size ≤ cur.size) : (putCells enc 0 d cur).toList.take d.size = d.toList.map enc := by
 refine List.ext_getElem? fun t => ?_
 rw [List.getElem?_take]
 by_cases ht : t < d.size
 ·rw [if_pos ht]
  simp only [putCells, Array.toList_mapIdx, List.getElem?_mapIdx, Array.getElem?_toList, List.getElem?_map]
  rw [Array.getElem?_eq_getElem (by omega : t < cur.size), Array.getElem?_eq_getElem ht]
  simp [ht, getElem!_pos d t ht]
 ·rw [if_neg ht, List.getElem?_eq_none (by simp; omega)]
theorem OwnL.sorted1 {α : Type} [Lay α] {B : Nat} {E : TypeId → Prop} {e : TypeId} {w : World} {v : Value} {xs : List (List α)} (h : OwnL B E e w v xs) (hE : E e) (hne : xs ≠ []) :
  ∃ g cap, ∃ d : Array (Elt α B E w), v = .slice (some ⟨g, 0, none⟩) d.size cap ∧ g < w.heap.size ∧ B ≤ g ∧ d.toList.map Elt.dat = xs ∧ Holds Elt.enc w g 0 d ∧
   (∀ (d' : Array (Elt α B E w)) (m : Nat) (os : Array Obj), Agree B (· = e) w (sortWorld Elt.enc w g 0 m d' os)) ∧
   ∀ (d' : Array (Elt α B E w)) (m : Nat) (os : Array Obj), d'.toList.Perm d.toList → OwnL B E e (sortWorld Elt.enc w g 0 m d' os) v (d'.toList.map Elt.dat) ∧
    Below B w (sortWorld Elt.enc w g 0 m d' os) := by
 obtain ⟨ys, h1, ⟨h2, h2'⟩, h3⟩ := h
 rcases h2' with ⟨_, h0⟩ | ⟨g, cap, cur, rfl, hB, hh, hn', hc, hsz, ht⟩
 ·exact absurd (List.length_eq_zero_iff.1 h0) hne
 have hn1 : Lay.n (List α) = 1 := rfl
 rw [hn1] at hsz ht
 have hcs : xs.length ≤ cur.size := by omega
 have hg : g < w.heap.size := by
  rcases Nat.lt_or_ge g w.heap.size with h | h
  ·exact h
  ·rw [Array.getElem?_eq_none h] at hh; cases hh
 have hd0 : ∃ l : List (Elt α B E w), l.map Elt.dat = xs ∧ l.map (fun x => [Elt.enc x]) = ys := by
  have aux : ∀ (xs : List (List α)) (ys : List (List Value)), ys.length = xs.length → (∀ (i : Nat) (y : List Value) (x : List α), ys[i]? = some y → xs[i]? = some x → ∃ z : Elt α B E w, z.dat = x ∧ [z.enc] = y) → ∃ l : List (Elt α B E w), l.map Elt.dat = xs ∧ l.map (fun x => [Elt.enc x]) = ys := by
   intro xs
   induction xs with
   | nil => intro ys hl _; exact ⟨[], rfl, by simpa using (List.length_eq_zero_iff.1 hl).symm⟩
   | cons x r ih =>
    intro ys hl hy
    match ys, hl with
    | y :: s, hl =>
     obtain ⟨z, z1, z2⟩ := hy 0 y x rfl rfl
     obtain ⟨l, la, lb⟩ := ih s (by simpa using hl) (fun i y' x' hy' hx' => hy (i + 1) y' x' (by simpa using hy') (by simpa using hx'))
     exact ⟨z :: l, by simp [la, z1], by simp [lb, z2]⟩
  refine aux xs ys h1 fun i y x hy hx => ?_
  obtain ⟨hl, hr⟩ := h3 i y x hy hx
  match y, hl with
  | [u], _ =>
   refine ⟨⟨(u, x), ?_, fun w' hw => ?_⟩, rfl, rfl⟩
   ·obtain ⟨a, c, h0, -⟩ := hr w (Agree.refl _ _ _)
    simp at h0; subst h0; rfl
   ·exact ⟨#[u], rfl, rfl, Lay.congr (fun j _ => by simp) (hr w' hw)⟩
 obtain ⟨l, la, lb⟩ := hd0
 have hll : l.length = xs.length := by rw [← la]; simp
 have hag : ∀ (d' : Array (Elt α B E w)) (m : Nat) (os : Array Obj), Agree B (· = e) w (sortWorld Elt.enc w g 0 m d' os) := by
  intro d' m os
  refine ⟨sortWorld_size _ _ _ _ _ _, fun k hk' hc' => ?_⟩
  rw [sortWorld_heap _ _ _ _ _ _ hk']
  refine putRow_heap_other _ _ _ _ _ ?_
  rintro rfl
  rcases hc' with hc' | hc'
  ·omega
  ·exact hc' ⟨_, _, _, rfl, hh⟩
 have hfl : ∀ l : List (Elt α B E w), (l.map (fun x => [Elt.enc x])).flatten = l.map Elt.enc := by
  intro l; induction l with
  | nil => rfl
  | cons a r ih => simp [ih]
 refine ⟨g, cap, l.toArray, by simp [hll], hg, hB, by simpa using la, ?_, hag, ?_⟩
 ·intro j hj
  have hj' : j < xs.length := by simpa [hll] using hj
  refine ⟨?_, ?_⟩
  ·simp only [World.cell?, hh]
   have e2 : (cur.toList.take (xs.length * 1))[j]? = (l.map Elt.enc)[j]? := by rw [ht, ← lb, hfl]
   rw [List.getElem?_take, if_pos (by omega), List.getElem?_map] at e2
   have hjl : j < l.length := by omega
   rw [List.getElem?_eq_getElem hjl] at e2
   rw [getElem!_pos l.toArray j hj, Nat.zero_add]
   simpa using e2
  ·simp [World.frozen?, hh]
 ·intro d' m os hp
  have hlen' : d'.size = xs.length := by have := hp.length_eq; simpa [hll] using this
  refine ⟨⟨d'.toList.map (fun x => [Elt.enc x]), by simp, ?_, ?_⟩, ?_⟩
  ·refine ⟨by rw [hfl]; simp [hn1], .inr ⟨g, cap, putCells Elt.enc 0 d' cur, by simp [hlen'], hB, ?_, by simpa [hlen'] using hn', hc, by rw [putCells_size, hn1]; exact hsz, ?_⟩⟩
   ·rw [sortWorld_heap _ _ _ _ _ _ hg]; exact putRow_heap _ _ _ _ hh
   ·rw [hfl, hn1]
    have := putCells_take1 Elt.enc d' cur (by omega)
    simpa using this
  ·intro i y x hy hx
   obtain ⟨hi, rfl⟩ := List.getElem?_eq_some_iff.1 hy
   obtain ⟨hi2, rfl⟩ := List.getElem?_eq_some_iff.1 hx
   simp only [List.getElem_map]
   have hz := (d'.toList[i]'(by simpa using hi)).2.2
   refine ⟨rfl, fun w' hw => ?_⟩
   obtain ⟨cs, c1, c2, c3⟩ := hz w' (((hag d' m os).mono (fun x hx => hx ▸ hE)).trans hw)
   refine Lay.congr (fun j hj => ?_) c3
   have hj0 : j = 0 := by have : j < 1 := hj; omega
   subst hj0
   have c1' : cs.size = 1 := c1
   have e3 : Elt.enc (d'.toList[i]'(by simpa using hi)) = cs.getD 0 undef := c2
   show cs[0]? = [Elt.enc (d'.toList[i]'(by simpa using hi))][0]?
   rw [e3, Array.getD_eq_getD_getElem?, Array.getElem?_eq_getElem (by omega)]; rfl
  ·refine ⟨rfl, rfl, rfl, sortWorld_size _ _ _ _ _ _, fun k hk' => ?_⟩
   rcases Nat.lt_or_ge k w.heap.size with hkw | hkw
   ·rw [sortWorld_heap _ _ _ _ _ _ hkw]
    exact putRow_heap_other _ _ _ _ _ (by omega)
   ·omega
end Go.Proofs.YtoemmpfcnpdblaaGreatDoor
namespace Go.Proofs.YtoemmpfcnpdblaaGreatDoor
open Go Go.RowKit Go.ChangeShapes Go.Sort Go.Lib

theorem TO.swo {α β : Type} {c : α → α → Int} (S : TO c) (f : β → α) : SWO (ltOf fun x y => c (f x) (f y)) := by
 refine ⟨fun x => ?_, fun x y z h k => ?_, fun x y z h k => ?_⟩
 ·show decide (c (f x) (f x) < 0) = false
  exact decide_eq_false (S.irr _)
 ·exact decide_eq_true (S.tr _ _ _ (of_decide_eq_true h) (of_decide_eq_true k))
 ·have h1 : ¬ c (f x) (f y) < 0 := of_decide_eq_false h
  have h2 : ¬ c (f y) (f z) < 0 := of_decide_eq_false k
  have e1 := S.sw (f x) (f y)
  have e2 := S.sw (f y) (f z)
  have h3 := S.le_tr (a := f z) (b := f y) (d := f x) (by omega) (by omega)
  have e3 := S.sw (f x) (f z)
  show decide (c (f x) (f z) < 0) = false
  exact decide_eq_false (by omega)
theorem sorted_dat {α β : Type} [Inhabited β] {c : α → α → Int} (S : TO c) {f : β → α} {d d' : Array β} {xs : List α} (hd : d.toList.map f = xs) (hp : d'.toList.Perm d.toList) (hs : SortedIn (ltOf fun x y => c (f x) (f y)) 0 d.size d') (hz : d'.size = d.size) :
  d'.toList.map f = sortS (ltC c) xs := by
 refine sort_unique S (by rw [← hd]; exact hp.map _) ?_
 rw [List.pairwise_map, List.pairwise_iff_getElem]
 intro i j hi hj hij
 have h1 := hs i j (Nat.zero_le _) hij (by simpa [hz] using hj)
 rw [getElem!_pos d' j (by simpa using hj), getElem!_pos d' i (by simpa using hi)] at h1
 have h2 : ¬ c (f d'[j]) (f d'[i]) < 0 := of_decide_eq_false h1
 have := S.sw (f d'[j]) (f d'[i])
 simp only [Array.getElem_toList]
 omega
theorem perm_of {β : Type} {d d' : Array β} (h : d'.size = d.size) (hp : (d'.extract 0 d.size).toList.Perm (d.extract 0 d.size).toList) : d'.toList.Perm d.toList := by
 have e1 : ∀ (a : Array β) (n : Nat), n = a.size → (a.extract 0 n).toList = a.toList := by intro a n hn; subst hn; simp
 rw [e1 d' _ h.symm, e1 d _ rfl] at hp
 exact hp
def encTh (x : Term × Hd) : List Value := [.string x.1.license, .string x.1.exception]
theorem ofTerm (w : World) (y : List Value) (x : Term) (hl : y.length = Lay.n Term) (h : Lay.is w (fun j => y[j]?) x) : ∃ hd, y = encTh (x, hd) := by
 obtain ⟨g0, g1, -⟩ := Term.is_iff.1 h
 refine ⟨(none, 0, 0), list_of (n := 2) hl rfl fun j hj => ?_⟩
 match j, hj with
 | 0, _ => exact g0
 | 1, _ => exact g1
theorem ownT_row {B : Nat} {E : TypeId → Prop} {w : World} {v : Value} {xs : List Term} (h : OwnL B E 67 w v xs) : RowT B w v xs := by
 have hi := h.is
 obtain ⟨ys, h1, h2, h3⟩ := h
 have e : ys = xs.map encT := by
  refine List.ext_getElem? fun i => ?_
  rw [List.getElem?_map]
  by_cases hi : i < xs.length
  ·obtain ⟨x, hx⟩ := get_lt hi
   obtain ⟨y, hy⟩ := get_lt (xs := ys) (k := i) (by omega)
   obtain ⟨hl, hs⟩ := h3 i y x hy hx
   obtain ⟨hd, rfl⟩ := ofTerm w y x hl (hs w (Agree.refl _ _ _))
   rw [hx, hy]; rfl
  ·rw [List.getElem?_eq_none (by omega), List.getElem?_eq_none (by omega)]; rfl
 subst e
 refine ⟨h2, fun x hx => ?_⟩
 obtain ⟨i, hi, rfl⟩ := List.mem_iff_getElem.1 hx
 obtain ⟨hl, hs⟩ := h3 i (encT xs[i]) xs[i] (by rw [List.getElem?_map, List.getElem?_eq_getElem hi]; rfl) (List.getElem?_eq_getElem hi)
 exact (Term.is_iff.1 (hs w (Agree.refl _ _ _))).2.2
set_option maxRecDepth 100000 in
set_option maxHeartbeats 1000000 in
theorem sortNilTerm (a : Option Addr) (c : Nat) (w : World) (fv : Value) : Calls Tryz.prog 197 #[.slice a 0 c, .int .i64 0, .int .i64 0, .int .i64 0, fv] w fun e w' => e = .returned (.tuple #[]) ∧ w' = w :=
 AnyF.pdqsortCmpFunc_none Tryz.pdqTerm a c 0 fv w
set_option maxRecDepth 100000 in
set_option maxHeartbeats 2000000 in
theorem SortTerm_p {B : Nat} {w : World} {v : Value} {xs : List Term} (h : RowT B w v xs) (hlen : xs.length < 4611686018427387904) :
  Calls Tryz.prog 150 #[v, .func (.func 82) #[] #[]] w fun e w' => e = .returned (.tuple #[]) ∧ RowT B w' v (sortS (ltC tcmp) xs) ∧ Below B w w' := by
 by_cases hne : xs = []
 ·subst hne
  obtain ⟨a, c, rfl⟩ := h.shape
  have hb := Tryz.bits_Len 0 w (by decide) (by decide)
  have hl0 : Lib.bitLen ((0 : Int).toNat) = 0 := by decide
  rw [hl0] at hb
  have hn := sortNilTerm a c w (.func (.func 82) #[] #[])
  have H := Lib.hid h
  clear h hl0
  go_enter Tryz.func150, Tryz.ntmps150
  go_wp2_with fail
  refine hb.mono ?_
  rintro e w1 ⟨rfl, rfl⟩
  go_wp2_with fail
  refine hn.mono ?_
  rintro e w2 ⟨rfl, rfl⟩
  go_wp2
  go_end0
  exact ⟨rfl, H.out, Below.refl _ _⟩
 ·obtain ⟨g, cap, d, rfl, hg, hB, hd, hH, hpost⟩ := (h.own fun _ => True).sorted trivial encTh (fun _ => rfl) (by decide) ofTerm hne
  have hds : d.size = xs.length := by rw [← hd]; simp
  have h62 : d.size < 4611686018427387904 := by omega
  have hlim : Lib.bitLen d.size < 4611686018427387904 := Nat.lt_of_le_of_lt (Lib.bitLen_le d.size 62 (by omega) (by omega)) (by omega)
  have hO := tcmp_to.swo (Prod.fst : Term × Hd → Term)
  have hp := AnyQ.pdqsortCmpFunc_all Tryz.pdqTerm (Lay.n Term) Tryz.isAgg67 Tryz.sizeOf67 encTh (fun x y => tcmp x.1 y.1) 82 #[] hO g 0 cap d w
   (enters_of Tryz.func82 (by kernel_rfl) rfl) (fun _ _ _ _ x y => (compareTerms_p x.1 y.1 _).mono fun _ _ h => h)
   ⟨fun _ => rfl, fun x v hv => by simp [encTh] at hv; rcases hv with rfl | rfl <;> rfl, hH, hg⟩ (d.size + 1) 0 d.size (Lib.bitLen d.size) d w (by omega) rfl (SWK.start hH) (Nat.zero_le _) (Nat.le_refl _) h62 hlim (Or.inl rfl)
  have hs := pdq_sorts (ltOf fun (x y : Term × Hd) => tcmp x.1 y.1) hO d 0 d.size (Lib.bitLen d.size) true true (Nat.zero_le _) (Nat.le_refl _) (Or.inl rfl)
  have hb := Tryz.bits_Len (d.size : Int) w (by omega) (by omega)
  rw [Int.toNat_natCast] at hb
  have HP := Lib.hid hpost
  have HS := Lib.hid hs
  have HD := Lib.hid hd
  generalize pdq (ltOf fun (x y : Term × Hd) => tcmp x.1 y.1) d 0 d.size (Lib.bitLen d.size) true true = d' at *
  have wr : IntKind.u64.wrap (d.size : Int) = d.size := by simp [IntKind.wrap, IntKind.bits, IntKind.signed]; omega
  clear hpost hs hd hH h hO hds hne
  generalize hbl : Lib.bitLen d.size = bl at *
  clear hbl
  generalize hdz : d.size = n at *
  have HZ := Lib.hid hdz
  clear hdz
  go_enter Tryz.func150, Tryz.ntmps150
  go_wp2_with fail
  refine hb.mono ?_
  rintro e w1 ⟨rfl, rfl⟩
  go_wp2_with fail
  refine hp.mono ?_
  rintro e w2 ⟨rfl, m, os, rfl⟩
  have HS2 := HS.out
  rw [← HZ.out] at HS2
  have hperm := perm_of HS2.1.1 HS2.1.2.2
  obtain ⟨p1, p2, p3⟩ := HP.out d' m os hperm
  rw [sorted_dat tcmp_to HD.out hperm HS2.2 HS2.1.1] at p1
  clear hp hb wr
  go_wp2
  go_end0
  exact ⟨rfl, ownT_row p1, p2⟩
theorem elt_one {α : Type} [Lay α] {B : Nat} {E : TypeId → Prop} {w : World} : OneCell (Elt.enc (α := α) (B := B) (E := E) (w := w)) := fun x => x.2.1
end Go.Proofs.YtoemmpfcnpdblaaGreatDoor
