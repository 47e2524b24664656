/- The program's Parse computes parseC. -/
import Derived.Test.YtoemmpfcnpdblaaGreatDoorJReadW
set_option linter.all false
namespace Go.Proofs.YtoemmpfcnpdblaaGreatDoor
open Go Go.RowKit Go.ChangeShapes
theorem parse_own (w : World) (arr : Array Value) (A : Obj) (ls : List ByteArray) (hn : ls.length ≤ arr.size) (hc : arr.size ≤ maxLen) (ht : arr.toList.take ls.length = ls.map Value.string) (O : Obj) :
  OwnV Value.string (w.heap.size + 1) 9 (((w.alloc A).alloc (.cells arr 9)).alloc O) (.slice (some ⟨w.heap.size + 1, 0, none⟩) ls.length arr.size) ls := by
 refine ⟨by simp, .inr ⟨w.heap.size + 1, arr.size, arr, rfl, Nat.le_refl _, ?_, hn, hc, by simp, by simpa using ht⟩⟩
 have h1 := obj_new (w.alloc A) (.cells arr 9)
 have h2 := objbelow h1 ((Below.refl _ _).alloc (Nat.le_refl _) O)
 simpa using h2
theorem parse_base (w : World) (arr : Array Value) (A : Obj) (ls : List ByteArray) (n c : Nat) (hn : ls.length = n) (hcc : arr.size = c) (hle : n ≤ c) (hc : c ≤ maxLen) (ht : arr.toList.take n = ls.map Value.string) :
  RD (w.heap.size + 1) (w.heap.size + 1 + 1) (((w.alloc A).alloc (.cells arr 9)).alloc (.cells #[.slice (some ⟨w.heap.size + 1, 0, none⟩) n c, .int .i64 0, .slice none 0 0, .slice none 0 0, .slice none 0 0, .slice none 0 0] 127)) (.slice (some ⟨w.heap.size + 1, 0, none⟩) n c) ls 0 (.slice none 0 0) (.slice none 0 0) (.slice none 0 0) (.slice none 0 0) emptyC := by
 subst hn hcc
 have ho := parse_own w arr A ls hle hc ht (.cells #[.slice (some ⟨w.heap.size + 1, 0, none⟩) ls.length arr.size, .int .i64 0, .slice none 0 0, .slice none 0 0, .slice none 0 0, .slice none 0 0] 127)
 refine ⟨by omega, ?_, ho, OwnL.nil _ _ _ _, OwnL.nil _ _ _ _, OwnL.nil _ _ _ _, OwnL.nil _ _ _ _⟩
 have h1 := obj_new ((w.alloc A).alloc (.cells arr 9)) (.cells #[.slice (some ⟨w.heap.size + 1, 0, none⟩) ls.length arr.size, .int .i64 0, .slice none 0 0, .slice none 0 0, .slice none 0 0, .slice none 0 0] 127)
 simpa using h1
def Off (g : Nat) (w w' : World) : Prop := w.heap.size ≤ w'.heap.size ∧ (∀ b, b ≠ g → w'.heap[b]? = w.heap[b]?) ∧ ∀ j v, w.cell? ⟨g, j, none⟩ = some v → ∃ a n c, v = .slice a n c
theorem row_off {α : Type} [Lay α] {g : Nat} {w w' : World} (h : Off g w w') (hns : ∀ (get : Nat → Option Value) (x : α), Lay.is w get x → ∃ j v, get j = some v ∧ ∀ a n c, v ≠ .slice a n c)
  (his : ∀ (get : Nat → Option Value) (x : α), Lay.is w get x → Lay.is w' get x) {a : Option Addr} {xs : List α} (hr : Row w a xs) : Row w' a xs := by
 intro i x hx
 obtain ⟨b, off, ha, hb, hi⟩ := hr i x hx
 obtain ⟨j, v, hv, hn⟩ := hns _ _ hi
 have hbg : b ≠ g := by
  rintro rfl
  obtain ⟨p, n, c, e⟩ := h.2.2 _ _ hv
  exact hn p n c e
 refine ⟨b, off, ha, Nat.lt_of_lt_of_le hb h.1, ?_⟩
 refine Lay.congr (fun j _ => ?_) (his _ _ hi)
 simp only [World.cell?, h.2.1 b hbg]
theorem int_off {g : Nat} {w w' : World} (h : Off g w w') {a : Option Addr} {xs : List Int} (hr : Row w a xs) : Row w' a xs :=
 row_off h (fun get x hi => ⟨0, .int .i64 x, (show get 0 = some (.int .i64 x) ∧ inI64 x from hi).1, fun _ _ _ e => by cases e⟩) (fun get x hi => hi) hr
theorem str_off {g : Nat} {w w' : World} (h : Off g w w') {a : Option Addr} {xs : List ByteArray} (hr : Row w a xs) : Row w' a xs :=
 row_off h (fun get x hi => ⟨0, .string x, (show get 0 = some (.string x) ∧ x.size ≤ maxLen from hi).1, fun _ _ _ e => by cases e⟩) (fun get x hi => hi) hr
theorem lic_off {g : Nat} {w w' : World} (h : Off g w w') {a : Option Addr} {xs : List License} (hr : Row w a xs) : Row w' a xs :=
 row_off h (fun get x hi => ⟨0, _, (License.is_iff.1 hi).1, fun _ _ _ e => by cases e⟩) (fun get x hi => License.is_iff.2 (License.is_iff.1 hi)) hr
theorem prs_off {g : Nat} {w w' : World} (h : Off g w w') {a : Option Addr} {xs : List Pair} (hr : Row w a xs) : Row w' a xs :=
 row_off h (fun get x hi => ⟨0, _, (Pair.is_iff.1 hi).1, fun _ _ _ e => by cases e⟩) (fun get x hi => Pair.is_iff.2 (Pair.is_iff.1 hi)) hr
theorem exc_off {g : Nat} {w w' : World} (h : Off g w w') {a : Option Addr} {xs : List Exc} (hr : Row w a xs) : Row w' a xs :=
 row_off h (fun get x hi => by obtain ⟨a, c, g0, -⟩ := Exc.is_iff.1 hi; exact ⟨0, _, g0, fun _ _ _ e => by cases e⟩)
  (fun get x hi => by
   obtain ⟨a, c, g0, g1, g2, s0, s1, m0, m1, r⟩ := Exc.is_iff.1 hi
   exact Exc.is_iff.2 ⟨a, c, g0, g1, g2, s0, s1, m0, m1, int_off h r⟩) hr
theorem cla_off {g : Nat} {w w' : World} (h : Off g w w') {a : Option Addr} {xs : List Clause} (hr : Row w a xs) : Row w' a xs :=
 row_off h (fun get x hi => by obtain ⟨a, c, g0, -⟩ := Clause.is_iff.1 hi; exact ⟨0, _, g0, fun _ _ _ e => by cases e⟩)
  (fun get x hi => by
   obtain ⟨a, c, g0, g1, g2, g3, g4, s0, s1, s2, s3, m0, m1, r⟩ := Clause.is_iff.1 hi
   exact Clause.is_iff.2 ⟨a, c, g0, g1, g2, g3, g4, s0, s1, s2, s3, m0, m1, str_off h r⟩) hr
theorem cat_off {g : Nat} {w w' : World} (h : Off g w w') {v : Value} {c : Catalog} (hi : Is w v c) : Is w' v c := by
 obtain ⟨a0, c0, a1, c1, a2, c2, a3, c3, rfl, l0, m0, r0, l1, m1, r1, l2, m2, r2, l3, m3, r3⟩ := Catalog.inv hi
 exact Catalog.mk' ⟨l0, m0, lic_off h r0, l1, m1, exc_off h r1, l2, m2, cla_off h r2, l3, m3, prs_off h r3⟩
theorem off_set {g : Nat} {w w' : World} (h : Off g w w') (j : Nat) (u : Value) : Off g w (w'.setCell ⟨g, j, none⟩ u) :=
 ⟨by simpa using h.1, fun b hb => by rw [blk_set_other _ _ _ _ hb]; exact h.2.1 b hb, h.2.2⟩
def Small (c : Catalog) : Prop := c.licenses.length < 20 ∧ c.exceptions.length < 20 ∧ c.clauses.length < 20 ∧ c.apart.length < 20
set_option maxRecDepth 100000 in
set_option maxHeartbeats 8000000 in
theorem Parse_s (w : World) (s : ByteArray) (hg : Glob w) (hs : ¬ 65536 < s.size) (hsm : ∀ a c, readLines 0 0 emptyC (textLines s) = (a, 0, c) → Small c) :
  Calls Tryz.prog 43 #[.string s] w fun e w' => POut s w e w' := by
 have q1 : decide ((65536 : Int) < (s.size : Int)) = false := by simp; omega
 obtain ⟨fr, la, hsp, htl⟩ := split_snoc s
 have hcount : (splitAt 10 [] s.data.toList).length ≤ 1000000 := by
  rw [splitAt_len]
  have : s.data.toList.count 10 ≤ s.data.toList.length := List.count_le_length
  rw [by_len] at this; omega
 have hn : fr.length < 1000000 := by rw [hsp] at hcount; simp at hcount; omega
 have HSM := Lib.hid hsm
 have HLS := Lib.hid (lines_small hs)
 have HG := Lib.hid hg
 have HPC : Hid (parseC s = match readLines 0 0 emptyC (textLines s) with
  | (a, e, c) => if e != 0 then (a, e, emptyC) else if checkC (sortC c) != 0 then (-1, checkC (sortC c), emptyC) else (0, 0, sortC c)) := by
  show _ = _
  unfold parseC
  rw [decide_eq_false hs]
  rfl
 have hsz : s.size ≤ 65536 := by omega
 have HTL := Lib.hid htl
 have HSP := Lib.hid hsp
 have hsps : Hid (∀ x ∈ splitAt 10 [] s.data.toList, x.size ≤ maxLen) := fun x hx => by
  have := splitAt_size 10 s.data.toList [] x hx
  rw [by_len] at this
  simp at this; unfold maxLen; omega
 clear hsm hg
 go_enter Tryz.func43, Tryz.ntmps43
 go_wp2_with fail
 refine (Split_one s 10 _ (HG.out.mono (by repeat (first | exact zR _ _ | assumption | refine zN ?_ _ | refine zD ?_ | refine zA ?_ ?_ _ | refine zS ?_ ?_ _ | refine zT ?_ (zM (by assumption) ?_) | exact Nat.le_refl _ | (simp <;> omega) | omega))) (by omega)).mono ?_
 rintro e w1 ⟨rfl, rfl⟩
 have hlen : (splitAt 10 [] s.data.toList).length = fr.length + 1 := by rw [hsp]; simp
 have hlast : (splitAt 10 [] s.data.toList)[fr.length]? = some la := by rw [hsp]; simp
 rw [hlen]
 have hmap : ((splitAt 10 [] s.data.toList).map Value.string).toArray[fr.length]? = some (.string la) := by simp [hlast]
 have HARR : Hid (((splitAt 10 [] s.data.toList).map Value.string).toArray = ((fr ++ [la]).map Value.string).toArray) := by show _ = _; rw [hsp]
 clear hsp htl hcount hlen hlast
 generalize ((splitAt 10 [] s.data.toList).map Value.string).toArray = arr at *
 have harr : arr.size = fr.length + 1 := by rw [HARR.out]; simp
 have hal : arr.toList = (fr ++ [la]).map Value.string := by rw [HARR.out]
 have hisW : isW la [] = la.toList.isEmpty := by
  unfold isW
  rw [ByteArray.toList_eq, Bool.eq_iff_iff]
  simp
 have h1n : fr.length + 1 ≤ maxLen := by unfold maxLen; omega
 have hnx0 : ∀ wr : World, True := fun _ => trivial
 clear hnx0
 have FIN : ∀ (N cap : Nat), True := fun _ _ => trivial
 clear FIN
 generalize hres0 : (Obj.cells #[Value.slice none 0 0, .slice none 0 0, .slice none 0 0, .slice none 0 0] 42) = RO at *
 have HRO : Hid (RO = (Obj.cells #[Value.slice none 0 0, .slice none 0 0, .slice none 0 0, .slice none 0 0] 42)) := hres0.symm
 clear hres0
 have HHA := Lib.hid (And.intro harr (And.intro hal (And.intro hisW h1n)))
 clear harr hal hisW h1n
 cases q2 : la.toList.isEmpty
 case' false =>
  go_wp2
  obtain ⟨N, cap, HR0⟩ : ∃ N cap, Hid (RD (w.heap.size + 1) (w.heap.size + 1 + 1) (((w.alloc RO).alloc (.cells arr 9)).alloc (.cells #[.slice (some ⟨w.heap.size + 1, 0, none⟩) (fr.length + 1) (fr.length + 1), .int .i64 0, .slice none 0 0, .slice none 0 0, .slice none 0 0, .slice none 0 0] 127)) (.slice (some ⟨w.heap.size + 1, 0, none⟩) N cap) (textLines s) 0 (.slice none 0 0) (.slice none 0 0) (.slice none 0 0) (.slice none 0 0) emptyC) := by
   refine ⟨fr.length + 1, fr.length + 1, ?_⟩
   show RD _ _ _ _ _ _ _ _ _ _ _
   obtain ⟨harr, hal, hisW, h1n⟩ := HHA.out
   have he : textLines s = fr ++ [la] := by rw [HTL.out, hisW, q2]; rfl
   rw [he]
   exact parse_base w arr RO (fr ++ [la]) _ _ (by simp) harr (Nat.le_refl _) h1n (by rw [hal, List.take_of_length_le (by simp)])
  have HB0 : Hid (Below w.heap.size w (((w.alloc RO).alloc (.cells arr 9)).alloc (.cells #[.slice (some ⟨w.heap.size + 1, 0, none⟩) (fr.length + 1) (fr.length + 1), .int .i64 0, .slice none 0 0, .slice none 0 0, .slice none 0 0, .slice none 0 0] 127))) := by show Below _ _ _; exact (by repeat (first | exact zR _ _ | assumption | refine zN ?_ _ | refine zD ?_ | refine zA ?_ ?_ _ | refine zS ?_ ?_ _ | refine zT ?_ (zM (by assumption) ?_) | exact Nat.le_refl _ | (simp <;> omega) | omega))
  have HRS : Hid ((((w.alloc RO).alloc (.cells arr 9)).alloc (.cells #[.slice (some ⟨w.heap.size + 1, 0, none⟩) (fr.length + 1) (fr.length + 1), .int .i64 0, .slice none 0 0, .slice none 0 0, .slice none 0 0, .slice none 0 0] 127)).heap[w.heap.size]? = some RO) := by
   show _ = _
   exact objbelow (obj_new w RO) (by repeat (first | exact zR _ _ | assumption | refine zN ?_ _ | refine zD ?_ | refine zA ?_ ?_ _ | refine zS ?_ ?_ _ | refine zT ?_ (zM (by assumption) ?_) | exact Nat.le_refl _ | (simp <;> omega) | omega))
  generalize ((w.alloc RO).alloc (.cells arr 9)).alloc (.cells #[.slice (some ⟨w.heap.size + 1, 0, none⟩) (fr.length + 1) (fr.length + 1), .int .i64 0, .slice none 0 0, .slice none 0 0, .slice none 0 0, .slice none 0 0] 127) = W3 at *
 case' true =>
  go_wp2
  obtain ⟨N, cap, HR0⟩ : ∃ N cap, Hid (RD (w.heap.size + 1) (w.heap.size + 1 + 1) (((w.alloc RO).alloc (.cells arr 9)).alloc (.cells #[.slice (some ⟨w.heap.size + 1, 0, none⟩) fr.length (fr.length + 1), .int .i64 0, .slice none 0 0, .slice none 0 0, .slice none 0 0, .slice none 0 0] 127)) (.slice (some ⟨w.heap.size + 1, 0, none⟩) N cap) (textLines s) 0 (.slice none 0 0) (.slice none 0 0) (.slice none 0 0) (.slice none 0 0) emptyC) := by
   refine ⟨fr.length, fr.length + 1, ?_⟩
   show RD _ _ _ _ _ _ _ _ _ _ _
   obtain ⟨harr, hal, hisW, h1n⟩ := HHA.out
   have he : textLines s = fr := by rw [HTL.out, hisW, q2]; rfl
   rw [he]
   exact parse_base w arr RO fr _ _ rfl harr (by omega) h1n (by rw [hal]; simp)
  have HB0 : Hid (Below w.heap.size w (((w.alloc RO).alloc (.cells arr 9)).alloc (.cells #[.slice (some ⟨w.heap.size + 1, 0, none⟩) fr.length (fr.length + 1), .int .i64 0, .slice none 0 0, .slice none 0 0, .slice none 0 0, .slice none 0 0] 127))) := by show Below _ _ _; exact (by repeat (first | exact zR _ _ | assumption | refine zN ?_ _ | refine zD ?_ | refine zA ?_ ?_ _ | refine zS ?_ ?_ _ | refine zT ?_ (zM (by assumption) ?_) | exact Nat.le_refl _ | (simp <;> omega) | omega))
  have HRS : Hid ((((w.alloc RO).alloc (.cells arr 9)).alloc (.cells #[.slice (some ⟨w.heap.size + 1, 0, none⟩) fr.length (fr.length + 1), .int .i64 0, .slice none 0 0, .slice none 0 0, .slice none 0 0, .slice none 0 0] 127)).heap[w.heap.size]? = some RO) := by
   show _ = _
   exact objbelow (obj_new w RO) (by repeat (first | exact zR _ _ | assumption | refine zN ?_ _ | refine zD ?_ | refine zA ?_ ?_ _ | refine zS ?_ ?_ _ | refine zT ?_ (zM (by assumption) ?_) | exact Nat.le_refl _ | (simp <;> omega) | omega))
  generalize ((w.alloc RO).alloc (.cells arr 9)).alloc (.cells #[.slice (some ⟨w.heap.size + 1, 0, none⟩) fr.length (fr.length + 1), .int .i64 0, .slice none 0 0, .slice none 0 0, .slice none 0 0, .slice none 0 0] 127) = W3 at *
 all_goals
  have hz3 : w.heap.size + 1 + 1 < W3.heap.size := HR0.out.lt
  clear hmap
  have hNl : N = (textLines s).length := by
   obtain ⟨_, _, he, -⟩ := HR0.out.lines.shape
   cases he; rfl
  have HNL := Lib.hid hNl
  have hN5 : N ≤ 65537 := by rw [hNl]; exact HLS.out.1
  clear hNl
  go_loopw [7, 8] (fun _ _ wr => ∃ (nx : Nat) (v0 v1 v2 v3 : Value) (c : Catalog), nx ≤ N ∧ Hid (RD (w.heap.size + 1) (w.heap.size + 1 + 1) wr (.slice (some ⟨w.heap.size + 1, 0, none⟩) N cap) (textLines s) nx v0 v1 v2 v3 c) ∧ Hid (Below (w.heap.size + 1) W3 wr) ∧ Hid (Upto nx c) ∧ Hid (readLines 0 0 emptyC (textLines s) = readLines nx 0 c ((textLines s).drop nx))) (fun _ _ wr => N - nxOf (w.heap.size + 1 + 1) wr)
  case atStart => exact ⟨0, _, _, _, _, emptyC, by omega, HR0, Lib.hid (Below.refl _ _), Lib.hid ⟨Nat.le_refl _, Nat.le_refl _, Nat.le_refl _, Nat.le_refl _⟩, Lib.hid (by rfl)⟩
  case round =>
   clear HR0
   obtain ⟨nx, v0, v1, v2, v3, c, hnx, HR, HBr, HU, HQ⟩ := hrel
   have c0 := objcell (j := 0) HR.out.obj rfl
   have c1 := objcell (j := 1) HR.out.obj rfl
   have f1 := objfrozen (j := 1) HR.out.obj
   have hlt1 := HR.out.lt
   have hws : W3.heap.size ≤ wr.heap.size := HBr.out.size
   by_cases hnN : nx < N
   ·have hnz : (nx : Int) < (N : Int) := by omega
    have hz0 : (0 : Int) ≤ (nx : Int) := by omega
    obtain ⟨x, hx⟩ := get_lt (xs := textLines s) (k := nx) (by rw [← HNL.out]; exact hnN)
    obtain ⟨la', lc', he, hl1, hl2, hl3⟩ := list_inv (HR.out.lines.strs (fun y hy => by have := HLS.out.2.1 y hy; unfold maxLen; omega))
    cases he
    obtain ⟨b, off, he, hb, y0, hys⟩ := str_at hl3 hx
    cases he
    rw [Nat.zero_add] at y0
    have hmeas : nxOf (w.heap.size + 1 + 1) wr = nx := by unfold nxOf; rw [c1]; simp
    have HM := Lib.hid hmeas
    have HX := Lib.hid hx
    clear hl1 hl2 hl3 hx hmeas
    go_wp2
    go_quiet (fail)
    go_wp2_with fail
    have HW := Lib.hid ((HR.out.below (below_drewN wr nq)).set_next (nx + 1))
    have HBW : Hid (Below (w.heap.size + 1) W3 ((wr.drewN nq).setCell ⟨w.heap.size + 1 + 1, 1, none⟩ (.int .i64 ((nx + 1 : Nat) : Int)))) := by
     have hq := HBr.out
     exact (hq.drewN nq).setCell (by simp) _
    rw [show ((nx : Int) + 1) = ((nx + 1 : Nat) : Int) from rfl]
    have hw5 : W3.heap.size ≤ ((wr.drewN nq).setCell ⟨w.heap.size + 1 + 1, 1, none⟩ (.int .i64 ((nx + 1 : Nat) : Int))).heap.size := HBW.out.size
    generalize (wr.drewN nq).setCell ⟨w.heap.size + 1 + 1, 1, none⟩ (.int .i64 ((nx + 1 : Nat) : Int)) = w5 at *
    clear c0 c1 f1 y0
    refine (line_p (w.heap.size + 1) (w.heap.size + 1 + 1) w5 _ (textLines s) (nx + 1) v0 v1 v2 v3 c HW.out (by omega) ?g0 ?g1 ?g2 ?g3 ?g4 ?g5 ?g6 ?g7 ?g8 x ?g9 ?g10).mono ?_
    case g0 => have := HU.out.1; omega
    case g1 => have := HU.out.2.1; omega
    case g2 => have := HU.out.2.2.1; omega
    case g3 => have := HU.out.2.2.2; omega
    case g4 => omega
    case g5 => omega
    case g6 => omega
    case g7 => exact Lib.hid fun y hy => by have := HLS.out.2.1 y hy; unfold maxLen; omega
    case g8 => exact Lib.hid HLS.out.2.2
    case g9 => exact HG.out.mono (HB0.out.trans (HBW.out.mono (by omega)))
    case g10 => have := HLS.out.2.1 x (List.mem_of_getElem? HX.out); omega
    rintro e w6 hro
    obtain ⟨k, rfl⟩ := hro.ret
    have hst := readLines_step (c := c) HX.out
    have HQ2 : Hid (readLines 0 0 emptyC (textLines s) = _) := HQ.out.trans hst
    have HUP : Hid (∀ c' n, readLine c x ((textLines s).drop (nx + 1)) = .ok c' n → Upto (nx + 1) c' ∧ n ≤ ((textLines s).drop (nx + 1)).length) := fun c' n h => readLine_upto h HU.out
    have HNE : Hid (∀ k', readLine c x ((textLines s).drop (nx + 1)) = .err k' → k' ≠ 0) := fun k' h => readLine_ne h
    clear hst
    generalize readLine c x ((textLines s).drop (nx + 1)) = res at hro HQ2 HUP HNE
    cases res with
    | err k' =>
     obtain ⟨he, hb⟩ := hro
     cases he
     have hk : k ≠ 0 := HNE.out k rfl
     have qk : ((k : Int) != 0) = true := by simpa using hk
     have HB6 : Hid (Below (w.heap.size + 1) W3 w6) := HBW.out.trans hb
     have hw6 : W3.heap.size ≤ w6.heap.size := HB6.out.size
     have hres : w6.heap[w.heap.size]? = some (.cells #[.slice none 0 0, .slice none 0 0, .slice none 0 0, .slice none 0 0] 42 (0, 0)) := by
      rw [HB6.out.block _ (by omega), HRS.out, HRO.out]
     have d0 := objcell (j := 0) hres rfl
     have d1 := objcell (j := 1) hres rfl
     have d2 := objcell (j := 2) hres rfl
     have d3 := objcell (j := 3) hres rfl
     have e0 := objfrozen (j := 0) hres
     have e1 := objfrozen (j := 1) hres
     have e2 := objfrozen (j := 2) hres
     have e3 := objfrozen (j := 3) hres
     have HPE : Hid (parseC s = ((nx : Int), k, emptyC)) := by
      show _ = _
      rw [HPC.out, HQ2.out]
      show (if k != 0 then _ else _) = _
      rw [qk, if_pos rfl]
     have HB7 := Lib.hid (HB0.out.trans (HB6.out.mono (Nat.le_succ _)))
     clear hb hres hk
     go_wp2
     refine bodyPost_ret (v := .tuple #[.agg #[.slice none 0 0, .slice none 0 0, .slice none 0 0, .slice none 0 0], .int .i64 nx, .int .i64 k]) (by simp [results, Tryz.results43, go_sem, d0, d1, d2, d3]) rfl ?_
     unfold POut
     rw [HPE.out]
     refine ⟨_, rfl, nil4 _, ?_⟩
     have hq := HB7.out
     have hqs := hq.size
     exact (by repeat (first | exact zR _ _ | assumption | refine zN ?_ _ | refine zD ?_ | refine zA ?_ ?_ _ | refine zS ?_ ?_ _ | refine zT ?_ (zM (by assumption) ?_) | exact Nat.le_refl _ | (simp <;> omega) | omega))
    | ok c' n =>
     obtain ⟨he, hb, y0, y1, y2, y3, hrd⟩ := hro
     cases he
     have HB6 : Hid (Below (w.heap.size + 1) W3 w6) := HBW.out.trans hb
     have HRD := Lib.hid hrd
     have hup := HUP.out c' n rfl
     have hn1 : nx + 1 + n ≤ (textLines s).length := by have := hup.2; rw [List.length_drop] at this; omega
     have HU6 : Hid (Upto (nx + 1 + n) c') := ⟨Nat.le_trans hup.1.1 (by omega), Nat.le_trans hup.1.2.1 (by omega), Nat.le_trans hup.1.2.2.1 (by omega), Nat.le_trans hup.1.2.2.2 (by omega)⟩
     have c6 := objcell (j := 1) HRD.out.obj rfl
     have hmeas : nxOf (w.heap.size + 1 + 1) w6 = nx + 1 + n := by unfold nxOf; rw [c6]; exact Int.toNat_natCast _
     have HM6 := Lib.hid hmeas
     clear hb hup c6 hmeas hrd
     go_wp2
     go_roundw
     case rel => exact ⟨nx + 1 + n, y0, y1, y2, y3, c', hn1, HRD, HB6, HU6, HQ2⟩
     case measure => rw [HM.out, HM6.out]; omega
   ·obtain rfl : nx = N := by omega
    have hnz : ¬ (nx : Int) < (nx : Int) := by omega
    have HQ2 : Hid (readLines 0 0 emptyC (textLines s) = (0, 0, c)) := by
     show _ = _
     rw [HQ.out, List.drop_eq_nil_of_le (by rw [← HNL.out]; exact Nat.le_refl _)]
     rfl
    have hsm := Lib.hid (HSM.out 0 c HQ2.out)
    have HPC2 : Hid (parseC s = if checkC (sortC c) != 0 then (-1, checkC (sortC c), emptyC) else (0, 0, sortC c)) := by
     show _ = _
     rw [HPC.out, HQ2.out]
     rfl
    clear hnN
    go_wp2
    go_quiet (fail)
    have HR1 := Lib.hid (HR.out.below (below_drewN wr nq))
    have HB1 : Hid (Below (w.heap.size + 1) W3 (wr.drewN nq)) := HBr.out.drewN nq
    have c2 := objcell (j := 2) HR1.out.obj rfl
    have hlt2 := HR1.out.lt
    clear c0 c1 f1
    generalize wr.drewN nq = w5 at *
    go_wp2_with fail
    refine (stableLic HR1.out.lic (Or.inr (Or.inl rfl)) hsm.out.1).mono ?_
    rintro e w6 ⟨rfl, ho, hb, hA⟩
    have HR2 := Lib.hid (HR1.out.sort_lic hA ho)
    have HB2 : Hid (Below (w.heap.size + 1) W3 w6) := HB1.out.trans hb
    have c3 := objcell (j := 3) HR2.out.obj rfl
    have hlt3 := HR2.out.lt
    clear ho hb hA c2
    go_wp2_with fail
    refine (stableExc HR2.out.exc (Or.inr (Or.inr (Or.inl rfl))) hsm.out.2.1).mono ?_
    rintro e w7 ⟨rfl, ho, hb, hA⟩
    have HR3 := Lib.hid (HR2.out.sort_exc hA ho)
    have HB3 : Hid (Below (w.heap.size + 1) W3 w7) := HB2.out.trans hb
    have c4 := objcell (j := 4) HR3.out.obj rfl
    have hlt4 := HR3.out.lt
    clear ho hb hA c3
    go_wp2_with fail
    refine (stableClause HR3.out.cla (Or.inr (Or.inr (Or.inr (Or.inl rfl)))) hsm.out.2.2.1).mono ?_
    rintro e w8 ⟨rfl, ho, hb, hA⟩
    have HR4 := Lib.hid (HR3.out.sort_cla hA ho)
    have HB4 : Hid (Below (w.heap.size + 1) W3 w8) := HB3.out.trans hb
    have c5 := objcell (j := 5) HR4.out.obj rfl
    have hlt5 := HR4.out.lt
    clear ho hb hA c4
    go_wp2_with fail
    refine (stablePair HR4.out.prs (Or.inr (Or.inr (Or.inr (Or.inr rfl)))) hsm.out.2.2.2).mono ?_
    rintro e w9 ⟨rfl, ho, hb, hA⟩
    have HR5 : Hid (RD (w.heap.size + 1) (w.heap.size + 1 + 1) w9 _ _ nx v0 v1 v2 v3 (sortC c)) := HR4.out.sort_prs hA ho
    have HB5 : Hid (Below (w.heap.size + 1) W3 w9) := HB4.out.trans hb
    have g2 := objcell (j := 2) HR5.out.obj rfl
    have g3 := objcell (j := 3) HR5.out.obj rfl
    have g4 := objcell (j := 4) HR5.out.obj rfl
    have g5 := objcell (j := 5) HR5.out.obj rfl
    have hlt6 := HR5.out.lt
    have hw9 : W3.heap.size ≤ w9.heap.size := HB5.out.size
    clear ho hb hA c5 hsm
    go_wp2_with fail
    refine (Check_p w9 _ (sortC c) (HG.out.mono (HB0.out.trans (HB5.out.mono (by omega)))) HR5.out.cat).mono ?_
    rintro e w10 ⟨rfl, hb⟩
    have HR6 := Lib.hid (HR5.out.below hb)
    have HB6 : Hid (Below (w.heap.size + 1) W3 w10) := HB5.out.trans (hb.mono (by omega))
    have hw10 : W3.heap.size ≤ w10.heap.size := HB6.out.size
    have h2 := objcell (j := 2) HR6.out.obj rfl
    have h3 := objcell (j := 3) HR6.out.obj rfl
    have h4 := objcell (j := 4) HR6.out.obj rfl
    have h5 := objcell (j := 5) HR6.out.obj rfl
    have hres : w10.heap[w.heap.size]? = some (.cells #[.slice none 0 0, .slice none 0 0, .slice none 0 0, .slice none 0 0] 42 (0, 0)) := by
     rw [HB6.out.block _ (by omega), HRS.out, HRO.out]
    have d0 := objcell (j := 0) hres rfl
    have d1 := objcell (j := 1) hres rfl
    have d2 := objcell (j := 2) hres rfl
    have d3 := objcell (j := 3) hres rfl
    have e0 := objfrozen (j := 0) hres
    have e1 := objfrozen (j := 1) hres
    have e2 := objfrozen (j := 2) hres
    have e3 := objfrozen (j := 3) hres
    have HB7 := Lib.hid (HB0.out.trans (HB6.out.mono (Nat.le_succ _)))
    have hlt7 : w.heap.size < w10.heap.size := by omega
    have HRES := Lib.hid hres
    clear hb hres g2 g3 g4 g5
    cases q5 : checkC (sortC c) != 0
    case true =>
     have HPE : Hid (parseC s = (-1, checkC (sortC c), emptyC)) := by show _ = _; rw [HPC2.out, q5]; rfl
     generalize checkC (sortC c) = ck at *
     go_wp2
     refine bodyPost_ret (v := .tuple #[.agg #[.slice none 0 0, .slice none 0 0, .slice none 0 0, .slice none 0 0], .int .i64 (-1), .int .i64 ck]) (by simp [results, Tryz.results43, go_sem, d0, d1, d2, d3]) rfl ?_
     unfold POut
     rw [HPE.out]
     refine ⟨_, rfl, nil4 _, ?_⟩
     have hq := HB7.out
     have hqs := hq.size
     exact (by repeat (first | exact zR _ _ | assumption | refine zN ?_ _ | refine zD ?_ | refine zA ?_ ?_ _ | refine zS ?_ ?_ _ | refine zT ?_ (zM (by assumption) ?_) | exact Nat.le_refl _ | (simp <;> omega) | omega))
    case false =>
     have HPE : Hid (parseC s = (0, 0, sortC c)) := by show _ = _; rw [HPC2.out, q5]; rfl
     generalize checkC (sortC c) = ck at *
     obtain ⟨p0, k0, rfl, -⟩ := list_inv HR6.out.lic.is
     obtain ⟨p1, k1, rfl, -⟩ := list_inv HR6.out.exc.is
     obtain ⟨p2, k2, rfl, -⟩ := list_inv HR6.out.cla.is
     obtain ⟨p3, k3, rfl, -⟩ := list_inv HR6.out.prs.is
     generalize hm0 : (sortC c).licenses.length = m0 at *
     generalize hm1 : (sortC c).exceptions.length = m1 at *
     generalize hm2 : (sortC c).clauses.length = m2 at *
     generalize hm3 : (sortC c).apart.length = m3 at *
     have hw12 : w.heap.size + 1 ≠ w.heap.size + 1 + 1 := by omega
     clear hm0 hm1 hm2 hm3
     go_wp2
     refine bodyPost_ret (v := .tuple #[.agg #[.slice p0 m0 k0, .slice p1 m1 k1, .slice p2 m2 k2, .slice p3 m3 k3], .int .i64 0, .int .i64 0]) (by simp [results, Tryz.results43, go_sem, d0, d1, d2, d3]) rfl ?_
     unfold POut
     rw [HPE.out]
     refine ⟨_, rfl, ?_, ?_⟩
     ·refine cat_off (g := w.heap.size) (off_set (off_set (off_set (off_set ?_ _ _) _ _) _ _) _ _) HR6.out.cat
      refine ⟨Nat.le_refl _, fun _ _ => rfl, fun j v hv => ?_⟩
      match j, hv with
      | 0, hv => rw [d0] at hv; cases hv; exact ⟨_, _, _, rfl⟩
      | 1, hv => rw [d1] at hv; cases hv; exact ⟨_, _, _, rfl⟩
      | 2, hv => rw [d2] at hv; cases hv; exact ⟨_, _, _, rfl⟩
      | 3, hv => rw [d3] at hv; cases hv; exact ⟨_, _, _, rfl⟩
      | j + 4, hv => simp [World.cell?, HRES.out] at hv
     ·have hq := HB7.out
      have hqs := hq.size
      exact (by repeat (first | exact zR _ _ | assumption | refine zN ?_ _ | refine zD ?_ | refine zA ?_ ?_ _ | refine zS ?_ ?_ _ | refine zT ?_ (zM (by assumption) ?_) | exact Nat.le_refl _ | (simp <;> omega) | omega))
end Go.Proofs.YtoemmpfcnpdblaaGreatDoor
