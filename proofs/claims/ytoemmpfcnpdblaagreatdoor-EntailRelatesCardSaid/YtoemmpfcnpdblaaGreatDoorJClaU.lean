/- The clauses of a term: a row of the call's own, whatever rows of rows change. -/
import Derived.Test.YtoemmpfcnpdblaaGreatDoorJMeanS
import Derived.Test.YtoemmpfcnpdblaaGreatDoorJLiftU
import Derived.Test.YtoemmpfcnpdblaaGreatDoorJCompU
import Derived.Test.YtoemmpfcnpdblaaGreatDoorJMeanU
set_option linter.all false
namespace Go.Proofs.YtoemmpfcnpdblaaGreatDoor
open Go Go.RowKit Go.ChangeShapes
abbrev Ec (t : TypeId) : Prop := t = 86 ∨ t = 39
theorem app_clauseZ {ops : Array Oper} {rest : List Oper} {o : Oper} {a : Act} {Q : Exit → Act → World → Prop} {w : World} (hgd : o.guard = none) (s x : Operand)
  (ho : o.op = .call { callee := .builtin .append, args := #[s, x], argTypes := #[39, 39] })
  (B B0 : Nat) (hB0 : B0 ≤ B) (v : Value) (xs : List Clause) (hs : a.eval s = v) (hown : OwnL B Ec 86 w v xs) (hown0 : OwnL B0 Ec 86 w v xs)
  (news : Array Value) (y : Clause) (hx : a.eval x = .slice (some ⟨w.heap.size, 0, none⟩) 1 1) (hn : news.size = Lay.n Clause) (h1 : ∀ u ∈ news.toList, u.oneCell' = true)
  (hy : ∀ w'', Agree B0 Ec (w.alloc (.cells news 86)) w'' → Lay.is w'' (fun j => news.toList[j]?) y)
  (hb : xs.length ≤ 1000000000) (hB : B ≤ w.heap.size)
  (h : ∀ v' w', OwnL B Ec 86 w' v' (xs ++ [y]) → OwnL B0 Ec 86 w' v' (xs ++ [y]) → Below B w w' → w.heap.size < w'.heap.size → wpList Tryz.prog ops Q rest (a.put o.dst v') w') :
  wpList Tryz.prog ops Q (o :: rest) a (w.alloc (.cells news 86)) := by
 obtain ⟨cs, hrow⟩ := hown.row
 have hal : Below w.heap.size w (w.alloc (.cells news 86)) := (Below.refl _ _).alloc (Nat.le_refl _) _
 refine wp_app clRow rfl (by decide) Tryz.underlying39 hgd s x ho B v xs.length cs hs hrow news hx hn h1 (by omega) hB fun v' w' h2 h3 _ => ?_
 refine h v' w' (OwnL.snoc (E := Ec) (.inl rfl) hown hal (by rw [Array.length_toList]; exact hn) (fun w'' hA => hy w'' (hA.lower hB0)) h3 fun cs2 h4 => ?_) (OwnL.snoc (E := Ec) (.inl rfl) hown0 hal (by rw [Array.length_toList]; exact hn) hy h3 fun cs2 h4 => ?_) ?_ ?_
 ·rw [OwnL.row_unique hrow h4] at h2
  exact h2
 ·rw [OwnL.row_unique (ownsRow_weaken hrow hB0) h4] at h2
  exact ownsRow_weaken h2 hB0
 ·exact ((Below.refl _ _).alloc (by omega) _).app h3 (by simp; omega) hrow
 ·have := h3.size; simp at this; omega
def CZ (B0 : Nat) (xs : List Clause) (w : World) (e : Ending) (w' : World) : Prop := ∃ s, e = .returned s ∧ OwnL B0 Ec 86 w' s xs ∧ Below w.heap.size w w'
set_option maxRecDepth 100000 in
set_option maxHeartbeats 1000000 in
theorem Clauses_z (B0 : Nat) (w : World) (x0 : Value) (c : Catalog) (t : Term) (way rel : Int) (hg : Glob w) (h : Is w x0 c) (hB0 : B0 ≤ w.heap.size) :
  Calls Tryz.prog 66 #[x0, .agg #[.string t.license, .string t.exception], .int .i64 way, .int .i64 rel] w fun e w' => CZ B0 (clausesC c t way rel) w e w' := by
 have HI := Lib.hid h
 obtain ⟨a0, c0, a1, c1, a2, c2, a3, c3, rfl, l0, m0, r0, l1, m1, r1, l2, m2, r2, l3, m3, r3⟩ := Catalog.inv h
 have R2 := Lib.hid r2
 have n2 : c.clauses.length ≤ 9223372036854775807 := by simp only [maxLen] at m2; omega
 clear h r0 r1 r2 r3 m0 m1 m2 m3 l1 l2 l3 l0
 go_enter Tryz.func66, Tryz.ntmps66
 go_wp2_with fail
 refine (lifts_p _ _ c t (hg.mono (by repeat (first | exact zR _ _ | assumption | refine zN ?_ _ | refine zD ?_ | refine zA ?_ ?_ _ | refine zS ?_ ?_ _ | refine zT ?_ (zM (by assumption) ?_) | exact Nat.le_refl _ | (simp <;> omega) | omega))) (HI.out.mono (by repeat (first | exact zR _ _ | assumption | refine zN ?_ _ | refine zD ?_ | refine zA ?_ ?_ _ | refine zS ?_ ?_ _ | refine zT ?_ (zM (by assumption) ?_) | exact Nat.le_refl _ | (simp <;> omega) | omega)))).mono ?_
 rintro e w1 ⟨s, rfl, hs, hb1⟩
 have d2 := kept hb1 (a := ⟨w.heap.size, 2, none⟩) (v := .slice a2 c.clauses.length c2) (by simp)
 have e0 := kept hb1 (a := ⟨w.heap.size + 1, 0, none⟩) (v := .string t.license) (by simp)
 have hbw : Below w.heap.size w w1 := (by repeat (first | exact zR _ _ | assumption | refine zN ?_ _ | refine zD ?_ | refine zA ?_ ?_ _ | refine zS ?_ ?_ _ | refine zT ?_ (zM (by assumption) ?_) | exact Nat.le_refl _ | (simp <;> omega) | omega))
 have HB1 := Lib.hid hbw
 have hz1 : w.heap.size < w1.heap.size := cell_lt d2
 have hz2 : w.heap.size + 1 < w1.heap.size := cell_lt e0
 have HL := Lib.hid hs
 clear hb1 hbw hs
 cases q1 : liftsC c t with
 | none =>
  have HF : Hid (clausesC c t way rel = []) := by show _ = _; unfold clausesC; rw [q1]
  go_wp2
  go_ret
  unfold CZ
  exact ⟨_, rfl, by rw [HF.out]; exact OwnL.nil _ _ _ _, by have hq := HB1.out; have hqs := hq.size; exact (by repeat (first | exact zR _ _ | assumption | refine zN ?_ _ | refine zD ?_ | refine zA ?_ ?_ _ | refine zS ?_ ?_ _ | refine zT ?_ (zM (by assumption) ?_) | exact Nat.le_refl _ | (simp <;> omega) | omega))⟩
 | some l =>
 rw [q1] at HL
 simp only [Option.getD_some, Option.isSome_some] at HL ⊢
 have HF : Hid (clausesC c t way rel = c.clauses.filter (clauseIs t way rel l)) := by show _ = _; unfold clausesC; rw [q1]
 have hB01 : B0 ≤ w1.heap.size := Nat.le_trans hB0 HB1.out.size
 have hlen := clauses_128 (lifts_check q1)
 have HLN := Lib.hid (lists_32 (lifts_check q1))
 clear q1
 go_wp2
 go_loopw [11, 25] (fun vo kv wr => ∃ k : Nat, k ≤ c.clauses.length ∧ kv = .int .i64 k ∧ Below w1.heap.size w1 wr ∧ Hid (OwnL w1.heap.size Ec 86 wr vo ((c.clauses.take k).filter (clauseIs t way rel l))) ∧ Hid (OwnL B0 Ec 86 wr vo ((c.clauses.take k).filter (clauseIs t way rel l)))) (fun _ kv _ => c.clauses.length - (intOf kv).toNat)
 case atStart => exact ⟨0, by omega, rfl, Below.refl _ _, OwnL.nil _ _ _ _, OwnL.nil _ _ _ _⟩
 case round =>
  obtain ⟨k, hk, rfl, hbr0, HO, HO0⟩ := hrel
  have hbr := Lib.hid hbr0
  have hwr : w1.heap.size ≤ wr.heap.size := hbr0.size
  clear hbr0
  by_cases hki : k < c.clauses.length
  ·have g2 := kept hbr.out d2
   have g3 := kept hbr.out e0
   have hs1 : w.heap.size < wr.heap.size := cell_lt g2
   have hs2 : w.heap.size + 1 < wr.heap.size := cell_lt g3
   obtain ⟨x, hx⟩ := get_lt hki
   have HT : Hid ((c.clauses.take (k + 1)).filter (clauseIs t way rel l) = (c.clauses.take k).filter (clauseIs t way rel l) ++ (if clauseIs t way rel l x then [x] else [])) := by
    show _ = _
    rw [take_at hx, List.filter_append]; simp [List.filter_cons]
   have hx32 := HLN.out x (List.mem_of_getElem? hx)
   obtain ⟨b, off, rfl, hb, ya, yc, y0', y1', y2', y3', y4', ys0, ys1, ys2, ys3, hyl, hyc, hyr⟩ := Clause.at_row (R2.out.mono HB1.out) hx
   have y0 := kept hbr.out y0'
   have y1 := kept hbr.out y1'
   have y2 := kept hbr.out y2'
   have y3 := kept hbr.out y3'
   have y4 := kept hbr.out y4'
   have HY := Lib.hid (list_mk hyl hyc hyr)
   have HSZ := Lib.hid (row_size hyr)
   have HS := Lib.hid (And.intro ys0 (And.intro ys1 (And.intro ys2 ys3)))
   have hs3 : b < wr.heap.size := cell_lt y0
   clear hx hyr y0' y1' y2' y3' y4' hyl hyc ys0 ys1 ys2 ys3
   cases q1 : (x.license.toList == t.license.toList)
   case true =>
    cases q2 : (x.way == way)
    case true =>
     cases q3 : (x.relation == rel)
     case true =>
      have hal : Below wr.heap.size wr (wr.alloc (.cells #[.string x.license, .int .i64 x.way, .int .i64 x.relation, .int .i64 x.duty, .slice ya x.list.length yc] 86)) := (by repeat (first | exact zR _ _ | assumption | refine zN ?_ _ | refine zD ?_ | refine zA ?_ ?_ _ | refine zS ?_ ?_ _ | refine zT ?_ (zM (by assumption) ?_) | exact Nat.le_refl _ | (simp <;> omega) | omega))
      go_wp2_with fail
      refine (ContainsInt_p _ _ l x.duty (HL.out.mono (by have hq := hbr.out; exact (by repeat (first | exact zR _ _ | assumption | refine zN ?_ _ | refine zD ?_ | refine zA ?_ ?_ _ | refine zS ?_ ?_ _ | refine zT ?_ (zM (by assumption) ?_) | exact Nat.le_refl _ | (simp <;> omega) | omega))))).mono ?_
      rintro e w2 ⟨rfl, rfl⟩
      cases q4 : l.contains x.duty
      case true =>
       have HP : Hid (clauseIs t way rel l x = false) := by show _ = _; unfold clauseIs seq; rw [q1, q2, q3, q4]; rfl
       go_wp2
       go_roundw
       case rel =>
        refine ⟨k + 1, by omega, by go_num, by have hq := hbr.out; exact (by repeat (first | exact zR _ _ | assumption | refine zN ?_ _ | refine zD ?_ | refine zA ?_ ?_ _ | refine zS ?_ ?_ _ | refine zT ?_ (zM (by assumption) ?_) | exact Nat.le_refl _ | (simp <;> omega) | omega)), ?_, ?_⟩
        ·show OwnL _ _ _ _ _ _
         rw [HT.out, HP.out]
         simpa using HO.out.below (by repeat (first | exact zR _ _ | assumption | refine zN ?_ _ | refine zD ?_ | refine zA ?_ ?_ _ | refine zS ?_ ?_ _ | refine zT ?_ (zM (by assumption) ?_) | exact Nat.le_refl _ | (simp <;> omega) | omega))
        ·show OwnL _ _ _ _ _ _
         rw [HT.out, HP.out]
         simpa using HO0.out.below (by repeat (first | exact zR _ _ | assumption | refine zN ?_ _ | refine zD ?_ | refine zA ?_ ?_ _ | refine zS ?_ ?_ _ | refine zT ?_ (zM (by assumption) ?_) | exact Nat.le_refl _ | (simp <;> omega) | omega))
       case measure => simp [intOf]; omega
      case false =>
       have HP : Hid (clauseIs t way rel l x = true) := by show _ = _; unfold clauseIs seq; rw [q1, q2, q3, q4]; rfl
       go_wp2_with fail
       refine (Clone_p _ _ x.list (HY.out.mono (by have hq := hbr.out; exact (by repeat (first | exact zR _ _ | assumption | refine zN ?_ _ | refine zD ?_ | refine zA ?_ ?_ _ | refine zS ?_ ?_ _ | refine zT ?_ (zM (by assumption) ?_) | exact Nat.le_refl _ | (simp <;> omega) | omega)))) (by omega)).mono ?_
       rintro e w2 ⟨za, zc, rfl, hos, hb2⟩
       have z0 := kept hb2 (a := ⟨wr.heap.size, 0, none⟩) (v := .string x.license) (by simp)
       have z1 := kept hb2 (a := ⟨wr.heap.size, 1, none⟩) (v := .int .i64 x.way) (by simp)
       have z2 := kept hb2 (a := ⟨wr.heap.size, 2, none⟩) (v := .int .i64 x.relation) (by simp)
       have z3 := kept hb2 (a := ⟨wr.heap.size, 3, none⟩) (v := .int .i64 x.duty) (by simp)
       have z4 := kept hb2 (a := ⟨wr.heap.size, 4, none⟩) (v := .slice ya x.list.length yc) (by simp)
       have f4 := keptF hb2 (a := ⟨wr.heap.size, 4, none⟩) (v := .slice ya x.list.length yc) (by simp) (by simp)
       have hlt : wr.heap.size < w2.heap.size := cell_lt z0
       have hb3 : Below wr.heap.size wr w2 := (by repeat (first | exact zR _ _ | assumption | refine zN ?_ _ | refine zD ?_ | refine zA ?_ ?_ _ | refine zS ?_ ?_ _ | refine zT ?_ (zM (by assumption) ?_) | exact Nat.le_refl _ | (simp <;> omega) | omega))
       have HB3 := Lib.hid hb3
       have HOS := Lib.hid hos
       clear hb2 hos hb3 hal
       go_wp2_with (at_builtin; go_loud (refine app_clauseZ rfl _ _ rfl w1.heap.size B0 hB01 _ _ rfl (HO.out.below ?c0) (HO0.out.below ?c00) _ ⟨x.license, x.way, x.relation, x.duty, x.list⟩ ?cx rfl ?c1 ?c2 ?c3 ?c4 ?_))
       case c0 => have hq := HB3.out; exact (by repeat (first | exact zR _ _ | assumption | refine zN ?_ _ | refine zD ?_ | refine zA ?_ ?_ _ | refine zS ?_ ?_ _ | refine zT ?_ (zM (by assumption) ?_) | exact Nat.le_refl _ | (simp <;> omega) | omega))
       case c00 => have hq := HB3.out; exact (by repeat (first | exact zR _ _ | assumption | refine zN ?_ _ | refine zD ?_ | refine zA ?_ ?_ _ | refine zS ?_ ?_ _ | refine zT ?_ (zM (by assumption) ?_) | exact Nat.le_refl _ | (simp <;> omega) | omega))
       case cx => show Value.slice (some ⟨w2.heap.size, 0, none⟩) 1 1 = _; simp
       case c1 => exact ⟨rfl, rfl, rfl, rfl, rfl⟩
       case c2 =>
        intro w'' hA
        obtain ⟨s0, s1, s2, s3⟩ := HS.out
        have ho : OwnV Value.string (wr.heap.size + 1) 9 w'' (.slice za x.list.length zc) x.list :=
         (((HOS.out.weaken (B' := wr.heap.size + 1) (by simp)).setCell (a := ⟨wr.heap.size, 4, none⟩) (u := .slice za x.list.length zc) (by show wr.heap.size < _; omega)).below (by repeat (first | exact zR _ _ | assumption | refine zN ?_ _ | refine zD ?_ | refine zA ?_ ?_ _ | refine zS ?_ ?_ _ | refine zT ?_ (zM (by assumption) ?_) | exact Nat.le_refl _ | (simp <;> omega) | omega))).agree hA (by decide)
        have hi := ho.strs HSZ.out
        obtain ⟨a', c', he, h1, h2, h3⟩ := list_inv hi
        cases he
        exact Clause.is_iff.2 ⟨za, zc, rfl, rfl, rfl, rfl, rfl, s0, s1, s2, s3, h1, h2, h3⟩
       case c3 => exact Nat.le_trans (List.length_filter_le _ _) (by rw [List.length_take]; omega)
       case c4 => simp; omega
       intro v' w3 ho ho0 hb4 hsz
       have hsz' : w2.heap.size < w3.heap.size := by simpa using hsz
       have HO3 := Lib.hid ho
       have HO30 := Lib.hid ho0
       have hb5 : Below w1.heap.size w1 w3 := by
        have hq := hbr.out
        have hq3 := HB3.out
        have h6 : Below w1.heap.size w1 (w2.setCell ⟨wr.heap.size, 4, none⟩ (.slice za x.list.length zc)) := (by repeat (first | exact zR _ _ | assumption | refine zN ?_ _ | refine zD ?_ | refine zA ?_ ?_ _ | refine zS ?_ ?_ _ | refine zT ?_ (zM (by assumption) ?_) | exact Nat.le_refl _ | (simp <;> omega) | omega))
        exact h6.trans hb4
       have HB5 := Lib.hid hb5
       clear ho ho0 hb4 hsz hb5
       go_wp2
       go_roundw
       case rel =>
        refine ⟨k + 1, by omega, by go_num, HB5.out, ?_, ?_⟩
        ·show OwnL _ _ _ _ _ _
         rw [HT.out, HP.out]
         exact HO3.out
        ·show OwnL _ _ _ _ _ _
         rw [HT.out, HP.out]
         exact HO30.out
       case measure => simp [intOf]; omega
     have HP : Hid (clauseIs t way rel l x = false) := by show _ = _; unfold clauseIs seq; rw [q1, q2, q3]; rfl
     go_wp2
     go_roundw
     case rel =>
      refine ⟨k + 1, by omega, by go_num, by have hq := hbr.out; exact (by repeat (first | exact zR _ _ | assumption | refine zN ?_ _ | refine zD ?_ | refine zA ?_ ?_ _ | refine zS ?_ ?_ _ | refine zT ?_ (zM (by assumption) ?_) | exact Nat.le_refl _ | (simp <;> omega) | omega)), ?_, ?_⟩
      ·show OwnL _ _ _ _ _ _
       rw [HT.out, HP.out]
       simpa using HO.out.below (by repeat (first | exact zR _ _ | assumption | refine zN ?_ _ | refine zD ?_ | refine zA ?_ ?_ _ | refine zS ?_ ?_ _ | refine zT ?_ (zM (by assumption) ?_) | exact Nat.le_refl _ | (simp <;> omega) | omega))
      ·show OwnL _ _ _ _ _ _
       rw [HT.out, HP.out]
       simpa using HO0.out.below (by repeat (first | exact zR _ _ | assumption | refine zN ?_ _ | refine zD ?_ | refine zA ?_ ?_ _ | refine zS ?_ ?_ _ | refine zT ?_ (zM (by assumption) ?_) | exact Nat.le_refl _ | (simp <;> omega) | omega))
     case measure => simp [intOf]; omega
    have HP : Hid (clauseIs t way rel l x = false) := by show _ = _; unfold clauseIs seq; rw [q1, q2]; rfl
    go_wp2
    go_roundw
    case rel =>
     refine ⟨k + 1, by omega, by go_num, by have hq := hbr.out; exact (by repeat (first | exact zR _ _ | assumption | refine zN ?_ _ | refine zD ?_ | refine zA ?_ ?_ _ | refine zS ?_ ?_ _ | refine zT ?_ (zM (by assumption) ?_) | exact Nat.le_refl _ | (simp <;> omega) | omega)), ?_, ?_⟩
     ·show OwnL _ _ _ _ _ _
      rw [HT.out, HP.out]
      simpa using HO.out.below (by repeat (first | exact zR _ _ | assumption | refine zN ?_ _ | refine zD ?_ | refine zA ?_ ?_ _ | refine zS ?_ ?_ _ | refine zT ?_ (zM (by assumption) ?_) | exact Nat.le_refl _ | (simp <;> omega) | omega))
     ·show OwnL _ _ _ _ _ _
      rw [HT.out, HP.out]
      simpa using HO0.out.below (by repeat (first | exact zR _ _ | assumption | refine zN ?_ _ | refine zD ?_ | refine zA ?_ ?_ _ | refine zS ?_ ?_ _ | refine zT ?_ (zM (by assumption) ?_) | exact Nat.le_refl _ | (simp <;> omega) | omega))
    case measure => simp [intOf]; omega
   have HP : Hid (clauseIs t way rel l x = false) := by show _ = _; unfold clauseIs seq; rw [q1]; rfl
   go_wp2
   go_roundw
   case rel =>
    refine ⟨k + 1, by omega, by go_num, by have hq := hbr.out; exact (by repeat (first | exact zR _ _ | assumption | refine zN ?_ _ | refine zD ?_ | refine zA ?_ ?_ _ | refine zS ?_ ?_ _ | refine zT ?_ (zM (by assumption) ?_) | exact Nat.le_refl _ | (simp <;> omega) | omega)), ?_, ?_⟩
    ·show OwnL _ _ _ _ _ _
     rw [HT.out, HP.out]
     simpa using HO.out.below (by repeat (first | exact zR _ _ | assumption | refine zN ?_ _ | refine zD ?_ | refine zA ?_ ?_ _ | refine zS ?_ ?_ _ | refine zT ?_ (zM (by assumption) ?_) | exact Nat.le_refl _ | (simp <;> omega) | omega))
    ·show OwnL _ _ _ _ _ _
     rw [HT.out, HP.out]
     simpa using HO0.out.below (by repeat (first | exact zR _ _ | assumption | refine zN ?_ _ | refine zD ?_ | refine zA ?_ ?_ _ | refine zS ?_ ?_ _ | refine zT ?_ (zM (by assumption) ?_) | exact Nat.le_refl _ | (simp <;> omega) | omega))
   case measure => simp [intOf]; omega
  ·have HQ : Hid ((c.clauses.take k).filter (clauseIs t way rel l) = clausesC c t way rel) := by
    show _ = _
    rw [HF.out, List.take_of_length_le (by omega)]
   go_wp2
   go_ret
   unfold CZ
   exact ⟨_, rfl, by have := HO0.out; rw [HQ.out] at this; exact this, by have hq := HB1.out; have hqs := hq.size; have hr := hbr.out; have hrs := hr.size; exact (by repeat (first | exact zR _ _ | assumption | refine zN ?_ _ | refine zD ?_ | refine zA ?_ ?_ _ | refine zS ?_ ?_ _ | refine zT ?_ (zM (by assumption) ?_) | exact Nat.le_refl _ | (simp <;> omega) | omega))⟩
end Go.Proofs.YtoemmpfcnpdblaaGreatDoor
namespace Go.Proofs.YtoemmpfcnpdblaaGreatDoor
open Go Go.RowKit Go.ChangeShapes Go.Sort Go.Lib

def OwnY {α : Type} [Lay α] (B : Nat) (E : TypeId → Prop) (e : TypeId) (w : World) (v : Value) (xs : List α) : Prop := OwnL 0 E e w v xs ∧ ∃ cs, w.ownsRow B e (Lay.n α) v xs.length cs
section
variable {α : Type} [Lay α] {B : Nat} {E : TypeId → Prop} {e : TypeId} {w w' : World} {v : Value} {xs : List α}
theorem OwnY.nil (B : Nat) (E : TypeId → Prop) (e : TypeId) (w : World) : OwnY B E e w (.slice none 0 0) ([] : List α) := ⟨OwnL.nil _ _ _ _, (OwnL.nil B E e w).row⟩
theorem OwnY.is (h : OwnY B E e w v xs) : Is w v xs := h.1.is
theorem OwnY.below (h : OwnY B E e w v xs) (hb : Below w.heap.size w w') : OwnY B E e w' v xs := by
 refine ⟨h.1.below hb, ?_⟩
 obtain ⟨cs, h1, h2⟩ := h.2
 refine ⟨cs, h1, h2.imp id ?_⟩
 rintro ⟨g, cap, cur, a, b, c, d⟩
 have hg : g < w.heap.size := by
  rcases Nat.lt_or_ge g w.heap.size with h | h
  ·exact h
  ·rw [Array.getElem?_eq_none h] at c; cases c
 exact ⟨g, cap, cur, a, b, by rw [hb.block g hg]; exact c, d⟩
theorem wp_appY {P : Program} {t : TypeId} {z : Value} {bytes : Nat} (hinfo : (P.info? e).map (fun i => (i.zero, i.size, i.bytes)) = some (some z, Lay.n α, bytes))
  (hz : z.cells.size = Lay.n α) (hsz : 0 < Lay.n α) (ht : P.underlying t = some (.slice e)) (hone : ∀ (y : List Value) (x : α) (w : World), y.length = Lay.n α → Lay.is w (fun j => y[j]?) x → ∀ u ∈ y, u.oneCell' = true)
  {ops : Array Oper} {rest : List Oper} {o : Oper} {a : Act} {Q : Exit → Act → World → Prop} (hgd : o.guard = none) (s x : Operand)
  (ho : o.op = .call { callee := .builtin .append, args := #[s, x], argTypes := #[t, t] })
  (B : Nat) (v u : Value) (xs ys : List α) (hs : a.eval s = v) (hx : a.eval x = u) (hE : E e) (hown : OwnY B E e w v xs) (hu : OwnL 0 E e w u ys)
  (hb : (xs.length + ys.length) * (bytes + 1) ≤ 140737488355328) (hB : B ≤ w.heap.size)
  (h : ∀ v' w', OwnY B E e w' v' (xs ++ ys) → Below B w w' → wpList P ops Q rest (a.put o.dst v') w') :
  wpList P ops Q (o :: rest) a w := by
 obtain ⟨i0, hi, hz0, hz1, hz2⟩ := info_parts hinfo
 have e1 : (xs.length + ys.length) * (bytes + 1) = (xs.length + ys.length) * bytes + (xs.length + ys.length) := by rw [Nat.mul_add, Nat.mul_one]
 obtain ⟨us, k1, k2, k3⟩ := id hu
 obtain ⟨cs, hcs⟩ := hown.2
 rcases k2.2 with ⟨rfl, h0⟩ | ⟨g, cap, cur, rfl, hg, hh, hn', hc, hsz', htk⟩
 ·obtain rfl : ys = [] := List.length_eq_zero_iff.1 h0
  obtain ⟨va, vc, rfl, hvc, -⟩ := list_inv hown.is
  have hrun := run_append_nothing (P := P) w t t o.type e i0 ht hi va xs.length vc hvc (.slice none 0 0) (Src.ofNil w ht 0)
  have hk := h (.slice va xs.length vc) w (by simpa using hown) (Below.refl _ _)
  refine wpList_plain hgd fun K hK => ?_
  unfold Oper.wp execOp
  simp only [ho, resolve, invoke, builtin, Sem.run_bind, Sem.run_pure, Result.andThen_ok, List.map_toArray, List.map_cons, List.map_nil, hs, hx, hrun]
  exact hK _ _ hk
 ·have hall := OwnL.all (P := fun z => ∀ u ∈ z, u.oneCell' = true) k1 (fun i y x hy hx => hone y x w (k3 i y x hy hx).1 ((k3 i y x hy hx).2 w (Agree.refl _ _ _)))
  refine wpList_append_own _ hgd s x t ho B e i0 z (Lay.n α) bytes ht hi hz0 hz1 hz2 hz hsz v xs.length cs hs hcs ⟨g, 0, none⟩ ys.length cap us.flatten hx k2.1 ?_ ?_ ?_ ?_ hB ?_
  ·intro j q hj
   have e2 : (⟨g, 0, none⟩ : Addr).add j = ⟨g, j, none⟩ := by
    unfold Addr.add; split
    ·subst j; rfl
    ·simp
   rw [e2]
   refine objcell hh ?_
   rw [← htk, List.getElem?_take] at hj
   split at hj
   ·simpa using hj
   ·cases hj
  ·intro q hq
   obtain ⟨y, hy, hqy⟩ := List.mem_flatten.1 hq
   exact hall y hy q hqy
  ·unfold maxLen; omega
  ·omega
  ·intro v' w' h2 h3 h4
   refine h v' w' ⟨OwnL.join hE hown.1 hu h3 fun cs' ds' r1 r2 => ?_, ⟨cs ++ us.flatten, ?_⟩⟩ ((Below.refl _ _).app h3 (by omega) hcs)
   ·rw [OwnL.row_unique r1 (ownsRow_weaken hcs (Nat.zero_le _)), OwnL.row_unique r2 k2]
    exact ownsRow_weaken h2 (Nat.zero_le _)
   ·rw [List.length_append]; exact h2
end
theorem flat_len {α β : Type} {g : α → List β} {M : Nat} : ∀ {l : List α}, (∀ x ∈ l, (g x).length ≤ M) → (l.flatMap g).length ≤ l.length * M
 | [], _ => by simp
 | a :: r, h => by
  have h1 := flat_len fun x hx => h x (List.mem_cons_of_mem _ hx)
  have h2 := h a (by simp)
  rw [List.flatMap_cons, List.length_append, List.length_cons, Nat.succ_mul]; omega
theorem acc3_len {α : Type} (f : Int → Int → List α) {M : Nat} (h : ∀ p q, (f p q).length ≤ M) {a b : Nat} (ha : a < 3) (hb : b < 3) : (acc3 f a b).length ≤ 8 * M := by
 have h00 := h 0 0
 have h01 := h 0 1
 have h02 := h 0 2
 have h10 := h 1 0
 have h11 := h 1 1
 have h12 := h 1 2
 have h20 := h 2 0
 have h21 := h 2 1
 unfold acc3
 obtain rfl | rfl | rfl : a = 0 ∨ a = 1 ∨ a = 2 := by omega
 all_goals (obtain rfl | rfl | rfl : b = 0 ∨ b = 1 ∨ b = 2 := by omega)
 all_goals simp
 all_goals omega
def flatC (c : Catalog) (ts : List Term) (p q : Int) : List Clause := ts.flatMap fun t => clausesC c t p q
theorem acc3_all (c : Catalog) (ts : List Term) : acc3 (flatC c ts) 3 0 = clausesA c ts := by
 unfold acc3 clausesA flatC; simp
theorem clC_len {c : Catalog} {t : Term} (p q : Int) : (clausesC c t p q).length ≤ 128 := by
 unfold clausesC
 cases h : liftsC c t with
 | none => simp
 | some l => exact Nat.le_trans (List.length_filter_le _ _) (clauses_128 (lifts_check h))
end Go.Proofs.YtoemmpfcnpdblaaGreatDoor
namespace Go.Proofs.YtoemmpfcnpdblaaGreatDoor
open Go Go.RowKit Go.ChangeShapes Go.Sort Go.Lib

set_option maxRecDepth 100000 in
set_option maxHeartbeats 1000000 in
theorem Clauses1_p (w : World) (g : Nat) (v vc : Value) (c : Catalog) (t : Term) (hg : Glob w) (hc : Is w vc c) (hb : ∀ (a0 : Option Addr) (n0 c0 : Nat) (a1 : Option Addr) (n1 c1 : Nat) (a2 : Option Addr) (n2 c2 : Nat) (a3 : Option Addr) (n3 c3 : Nat), vc = .agg #[.slice a0 n0 c0, .slice a1 n1 c1, .slice a2 n2 c2, .slice a3 n3 c3] → w.cell? ⟨g, 0, none⟩ = some (.slice a0 n0 c0) ∧ w.cell? ⟨g, 1, none⟩ = some (.slice a1 n1 c1) ∧ w.cell? ⟨g, 2, none⟩ = some (.slice a2 n2 c2) ∧ w.cell? ⟨g, 3, none⟩ = some (.slice a3 n3 c3)) (h : Is w v t) :
  Calls Tryz.prog 64 #[v, .pointer (some ⟨g, 0, none⟩)] w fun e w' => e = .returned (.bool (!(liftsC c t).isSome)) ∧ Below w.heap.size w w' := by
 obtain ⟨rfl, -⟩ := Term.inv h
 have HC := Lib.hid hc
 obtain ⟨a0, N0, c0, a1, N1, c1, a2, N2, c2, a3, N3, c3, rfl⟩ := catBox hc
 obtain ⟨d0, d1, d2, d3⟩ := hb _ _ _ _ _ _ _ _ _ _ _ _ rfl
 have hs := cell_lt d0
 have hcall := Known_p (w.alloc (.cells #[.string t.license, .string t.exception] 67)) _ c t (hg.mono (by repeat (first | exact zR _ _ | assumption | refine zN ?_ _ | refine zD ?_ | refine zA ?_ ?_ _ | refine zS ?_ ?_ _ | refine zT ?_ (zM (by assumption) ?_) | exact Nat.le_refl _ | (simp <;> omega) | omega))) (HC.out.mono (by repeat (first | exact zR _ _ | assumption | refine zN ?_ _ | refine zD ?_ | refine zA ?_ ?_ _ | refine zS ?_ ?_ _ | refine zT ?_ (zM (by assumption) ?_) | exact Nat.le_refl _ | (simp <;> omega) | omega)))
 clear h hc hb hg
 generalize (liftsC c t).isSome = kn at *
 go_enter Tryz.func64, Tryz.ntmps64
 go_wp2_with fail
 refine hcall.mono ?_
 rintro e w2 ⟨rfl, hb2⟩
 have HB2 : Hid (Below w.heap.size w w2) := (show Below w.heap.size w (w.alloc (.cells #[.string t.license, .string t.exception] 67)) from (by repeat (first | exact zR _ _ | assumption | refine zN ?_ _ | refine zD ?_ | refine zA ?_ ?_ _ | refine zS ?_ ?_ _ | refine zT ?_ (zM (by assumption) ?_) | exact Nat.le_refl _ | (simp <;> omega) | omega))).trans (hb2.mono (by simp))
 clear hb2 hcall d0 d1 d2 d3
 go_wp2
 go_ret
 exact ⟨rfl, HB2.out⟩
def ClO (r : List Clause × Int) (w : World) (e : Ending) (w' : World) : Prop := ∃ v, e = .returned (.tuple #[v, .int .i64 r.2]) ∧ OwnL 0 Ec 86 w' v r.1 ∧ Below w.heap.size w w'
set_option maxRecDepth 100000 in
set_option maxHeartbeats 8000000 in
theorem ClausesE_p (w : World) (vc v : Value) (c : Catalog) (ts : List Term) (hg : Glob w) (hc : Is w vc c) (h : Is w v ts) (hl : ts.length ≤ 1000000) :
  Calls Tryz.prog 28 #[vc, v] w fun e w' => ClO (clausesP c ts) w e w' := by
 have HG := Lib.hid hg
 have HC := Lib.hid hc
 have HI := Lib.hid h
 have HLT := Lib.hid hl
 have HF : Hid (clausesP c ts = if !(clausesE c ts == 0) then ([], clausesE c ts) else (clausesA c ts, 0)) := rfl
 have HE : Hid (clausesE c ts = if !(checkC c == 0) then 1 else if ts.any (fun t => !(liftsC c t).isSome) then 7 else 0) := rfl
 obtain ⟨a, k, rfl, hnc, hcm, hr⟩ := list_inv h
 simp only [maxLen] at hcm
 have HR := Lib.hid hr
 obtain ⟨a0, N0, c0, a1, N1, c1, a2, N2, c2, a3, N3, c3, rfl⟩ := catBox hc
 have hba : Below w.heap.size w (w.alloc (.cells #[.slice a0 N0 c0, .slice a1 N1 c1, .slice a2 N2 c2, .slice a3 N3 c3] 42)) := (by repeat (first | exact zR _ _ | assumption | refine zN ?_ _ | refine zD ?_ | refine zA ?_ ?_ _ | refine zS ?_ ?_ _ | refine zT ?_ (zM (by assumption) ?_) | exact Nat.le_refl _ | (simp <;> omega) | omega))
 have hcall := Check_p (w.alloc (.cells #[.slice a0 N0 c0, .slice a1 N1 c1, .slice a2 N2 c2, .slice a3 N3 c3] 42)) _ c (HG.out.mono hba) (HC.out.mono hba)
 have HBA := Lib.hid hba
 clear h hc hg hl hr hba
 generalize checkC c = ce at *
 generalize hN : ts.length = N at *
 have HN := Lib.hid hN
 clear hN
 go_enter Tryz.func28, Tryz.ntmps28
 go_wp2_with fail
 refine hcall.mono ?_
 rintro e w2 ⟨rfl, hb2⟩
 have d0 := kept hb2 (a := ⟨w.heap.size, 0, none⟩) (v := .slice a0 N0 c0) (by simp)
 have d1 := kept hb2 (a := ⟨w.heap.size, 1, none⟩) (v := .slice a1 N1 c1) (by simp)
 have d2 := kept hb2 (a := ⟨w.heap.size, 2, none⟩) (v := .slice a2 N2 c2) (by simp)
 have d3 := kept hb2 (a := ⟨w.heap.size, 3, none⟩) (v := .slice a3 N3 c3) (by simp)
 have hs0 := cell_lt d0
 have HB2 : Hid (Below w.heap.size w w2) := HBA.out.trans (hb2.mono (by simp))
 clear hcall hb2
 by_cases q : ce = 0
 case neg =>
  have q1 : (ce == 0) = false := by simpa using q
  have q2 : (ce != 0) = true := by simpa using q
  have HT : Hid (clausesP c ts = ([], 1)) := by show _ = _; rw [HF.out, HE.out, q1]; rfl
  clear q
  go_wp2
  go_ret2
  exact ⟨.slice none 0 0, by rw [HT.out]; rfl, by rw [HT.out]; exact OwnL.nil _ _ _ _, HB2.out⟩
 subst q
 have eg : ∀ args w, (callFunc 64 args).run Tryz.prog w = .ok (.enter 64 args) w := enters_of Tryz.func64 (by kernel_rfl) rfl
 have D0 := Lib.hid d0
 have D1 := Lib.hid d1
 have D2 := Lib.hid d2
 have D3 := Lib.hid d3
 have hcall := ContainsFuncTerm w2 (.slice a N k) ts (fun t => !(liftsC c t).isSome) 64 #[.pointer (some ⟨w.heap.size, 0, none⟩)] eg (HI.out.mono HB2.out) (fun i x _ W v hb hv =>
  Clauses1_p W w.heap.size v _ c x ((HG.out.mono HB2.out).mono hb) ((HC.out.mono HB2.out).mono hb) (fun _ _ _ _ _ _ _ _ _ _ _ _ he => by
   simp only [Value.agg.injEq] at he
   cases he
   exact ⟨kept hb D0.out, kept hb D1.out, kept hb D2.out, kept hb D3.out⟩) hv)
 clear eg d0 d1 d2 d3
 generalize (ts.any fun t => !(liftsC c t).isSome) = bb at *
 go_wp2_with fail
 refine hcall.mono ?_
 rintro e w4 ⟨rfl, hb4⟩
 have e0 := kept hb4 D0.out
 have e1 := kept hb4 D1.out
 have e2 := kept hb4 D2.out
 have e3 := kept hb4 D3.out
 have hs4 := cell_lt e0
 have HB4 : Hid (Below w.heap.size w w4) := HB2.out.trans (hb4.mono HB2.out.size)
 clear hcall hb4 D0 D1 D2 D3
 cases bb
 case true =>
  have HT : Hid (clausesP c ts = ([], 7)) := by show _ = _; rw [HF.out, HE.out]; rfl
  go_wp2
  go_ret2
  exact ⟨.slice none 0 0, by rw [HT.out]; rfl, by rw [HT.out]; exact OwnL.nil _ _ _ _, HB4.out⟩
 have HT : Hid (clausesP c ts = (clausesA c ts, 0)) := by show _ = _; rw [HF.out, HE.out]; rfl
 have HG4 := Lib.hid (HG.out.mono HB4.out)
 have HI4 := Lib.hid (HC.out.mono HB4.out)
 clear HF HE
 have E0 := Lib.hid e0
 have E1 := Lib.hid e1
 have E2 := Lib.hid e2
 have E3 := Lib.hid e3
 go_wp2
 clear e0 e1 e2 e3
 go_loopw [6, 7] (fun sv kv wr => ∃ a : Nat, a ≤ 3 ∧ kv = .int .i64 a ∧ Hid (Below w4.heap.size w4 wr) ∧ Hid (OwnY w4.heap.size Ec 86 wr sv (acc3 (flatC c ts) a 0))) (fun _ kv _ => 3 - (intOf kv).toNat)
 case atStart => exact ⟨0, by omega, rfl, Lib.hid (Below.refl _ _), Lib.hid (OwnY.nil _ _ _ _)⟩
 case round =>
  obtain ⟨p, hp, rfl, HB, HO⟩ := hrel
  by_cases hpi : p < 3
  ·have hpz : (p : Int) ≤ 2 := by omega
   go_wp2
   generalize wr = w5 at *
   go_loopw [6, 8] (fun sv kv wr => ∃ b : Nat, b ≤ 3 ∧ kv = .int .i64 b ∧ Hid (Below w4.heap.size w4 wr) ∧ Hid (OwnY w4.heap.size Ec 86 wr sv (acc3 (flatC c ts) p b))) (fun _ kv _ => 3 - (intOf kv).toNat)
   case atStart => exact ⟨0, by omega, rfl, HB, HO⟩
   case round =>
    clear HB HO
    obtain ⟨q, hq, rfl, HB, HO⟩ := hrel
    by_cases hqi : q < 3
    ·have hqz : (q : Int) ≤ 2 := by omega
     have HLA := Lib.hid (acc3_len (flatC c ts) (M := 128000000) (fun p q => Nat.le_trans (flat_len fun t _ => clC_len p q) (by rw [HN.out]; have := HLT.out; omega)) hpi hqi)
     go_wp2
     generalize wr = w6 at *
     go_loopw [6, 27] (fun sv kv wr => ∃ i : Nat, i ≤ N ∧ kv = .int .i64 i ∧ Hid (Below w4.heap.size w4 wr) ∧ Hid (OwnY w4.heap.size Ec 86 wr sv (acc3 (flatC c ts) p q ++ (ts.take i).flatMap fun t => clausesC c t p q))) (fun _ kv _ => N - (intOf kv).toNat)
     case atStart => exact ⟨0, by omega, rfl, HB, by show OwnY _ _ _ _ _ _; simpa using HO.out⟩
     case round =>
      clear HB HO
      obtain ⟨i, hi, rfl, HB, HO⟩ := hrel
      have hz4 : w4.heap.size ≤ wr.heap.size := HB.out.size
      by_cases hki : i < N
      ·have hkz : (i : Int) < (N : Int) := by omega
       obtain ⟨y, hy⟩ := get_lt (xs := ts) (k := i) (by rw [HN.out]; exact hki)
       have HY := Lib.hid hy
       obtain ⟨b, off, rfl, hb, y0', y1', -⟩ := Term.at_row HR.out hy
       have y0 := kept HB.out (kept HB4.out y0')
       have y1 := kept HB.out (kept HB4.out y1')
       have hsy := cell_lt y0
       have f0 := kept HB.out E0.out
       have f1 := kept HB.out E1.out
       have f2 := kept HB.out E2.out
       have f3 := kept HB.out E3.out
       have hs1 := cell_lt f0
       clear hy y0' y1' hb
       have hba : Below wr.heap.size wr (wr.alloc (.cells #[.string y.license, .string y.exception] 67)) := (by repeat (first | exact zR _ _ | assumption | refine zN ?_ _ | refine zD ?_ | refine zA ?_ ?_ _ | refine zS ?_ ?_ _ | refine zT ?_ (zM (by assumption) ?_) | exact Nat.le_refl _ | (simp <;> omega) | omega))
       have HBA2 := Lib.hid hba
       have hcall := Clauses_z 0 (wr.alloc (.cells #[.string y.license, .string y.exception] 67)) _ c y p q ((HG4.out.mono HB.out).mono hba) ((HI4.out.mono HB.out).mono hba) (Nat.zero_le _)
       clear hba
       go_wp2_with fail
       refine hcall.mono ?_
       unfold CZ
       rintro e w7 ⟨s, rfl, ho, hb7⟩
       have HB7 : Hid (Below wr.heap.size wr w7) := HBA2.out.trans (hb7.mono (by simp))
       have HOB := Lib.hid (HO.out.below HB7.out)
       have HS7 := Lib.hid ho
       have hs7 : wr.heap.size ≤ w7.heap.size := HB7.out.size
       obtain ⟨sa, sc, rfl, -⟩ := list_inv ho.is
       have HCL := Lib.hid (clC_len (c := c) (t := y) p q)
       have HFL := Lib.hid (show ((ts.take i).flatMap fun t => clausesC c t p q).length ≤ 128000000 from Nat.le_trans (flat_len (M := 128) fun t _ => clC_len p q) (by rw [List.length_take, HN.out]; have := HLT.out; omega))
       clear hcall ho hb7 f0 f1 f2 f3 y0 y1 HO
       go_wp2_with (at_builtin; go_loud (refine wp_appY (bytes := 64) clRow rfl (by decide) Tryz.underlying39 cl_one rfl _ _ rfl w4.heap.size _ _ _ _ rfl rfl (.inl rfl) HOB.out HS7.out ?c1 ?c2 ?_))
       case c1 =>
        have := HLA.out; have := HCL.out; have := HFL.out
        rw [List.length_append]; omega
       case c2 => omega
       intro v8 w8 ho8 hb8
       have HB8 : Hid (Below w4.heap.size w4 w8) := (HB.out.trans (HB7.out.mono hz4)).trans hb8
       have HO8 := Lib.hid ho8
       clear ho8 hb8 HOB HS7
       go_wp2
       go_roundw
       case rel =>
        refine ⟨i + 1, by omega, by go_num, HB8, ?_⟩
        show OwnY _ _ _ _ _ _
        rw [take_at HY.out, List.flatMap_append, List.flatMap_cons, List.flatMap_nil, List.append_nil]
        exact HO8.out
       case measure => simp [intOf]; omega
      ·have hkz : ¬ (i : Int) < (N : Int) := by omega
       have HO2 : Hid (OwnY w4.heap.size Ec 86 wr u6 (acc3 (flatC c ts) p (q + 1))) := by
        have := HO.out
        rw [List.take_of_length_le (by rw [HN.out]; omega)] at this
        show OwnY _ _ _ _ _ _
        rw [acc3_step _ p hqi]
        exact this
       go_wp2
       go_roundw
       case rel => exact ⟨q + 1, by omega, by go_num, HB, HO2⟩
       case measure => simp [intOf]; omega
    ·obtain rfl : q = 3 := by omega
     go_wp2
     go_roundw
     case rel =>
      refine ⟨p + 1, by omega, by go_num, HB, ?_⟩
      show OwnY _ _ _ _ _ _
      rw [← acc3_next _ hpi]
      exact HO.out
     case measure => simp [intOf]; omega
  ·obtain rfl : p = 3 := by omega
   go_wp2
   go_ret2
   refine ⟨_, by rw [HT.out]; rfl, ?_, HB4.out.trans (HB.out.mono HB4.out.size)⟩
   rw [HT.out]
   show OwnL _ _ _ _ _ _
   rw [← acc3_all]; exact HO.out.1
end Go.Proofs.YtoemmpfcnpdblaaGreatDoor
