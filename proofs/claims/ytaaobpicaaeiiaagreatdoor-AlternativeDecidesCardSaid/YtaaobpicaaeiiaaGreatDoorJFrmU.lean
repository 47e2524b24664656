/- The text of an expression. -/
import Derived.Deep.DeepCutAuto
import Derived.Test.YtaaobpicaaeiiaaGreatDoorJRefU
import Derived.Test.YtaaobpicaaeiiaaGreatDoorJShelf
import Derived.Test.YtaaobpicaaeiiaaGreatDoorJMeanS
import Derived.Test.YtaaobpicaaeiiaaGreatDoorJFmtU
import Derived.Test.YtaaobpicaaeiiaaGreatDoorJReadW
import Derived.Test.YtaaobpicaaeiiaaGreatDoorJLexU
import Derived.Test.YtaaobpicaaeiiaaGreatDoorJOwnU
import Derived.Test.YtaaobpicaaeiiaaGreatDoorJRdU
import Derived.Test.YtaaobpicaaeiiaaGreatDoorJAEU
set_option linter.all false
namespace Go.Proofs.YtaaobpicaaeiiaaGreatDoor
open Go Go.RowKit Go.ChangeShapes Go.Lib

def parT (k : Int) (e : LExpr) (t : List UInt8) : List UInt8 := if e.kind == k || (e.kind == 3 && k == 2) then 40 :: (t ++ [41]) else t
def sepT (k : Int) : List UInt8 := if k == 3 then [32, 111, 114, 32] else [32, 97, 110, 100, 32]
mutual
def textE : LExpr → List UInt8
 | .mk k n x ks => if k == 0 then (if emp x then n.data.toList else n.data.toList ++ [32, 119, 105, 116, 104, 32] ++ x.data.toList) else if k == 1 then n.data.toList ++ [43] else joinB (sepT k) (textKs k ks)
def textKs (k : Int) : List LExpr → List ByteArray
 | [] => []
 | e :: r => mkS (parT k e (textE e)) :: textKs k r
end
theorem textKs_get {k : Int} {ks : List LExpr} {i : Nat} {y : LExpr} (h : ks[i]? = some y) : (textKs k ks)[i]? = some (mkS (parT k y (textE y))) := by
 induction ks generalizing i with
 | nil => simp at h
 | cons a r ih =>
  rw [textKs]
  cases i with
  | zero => simp at h; subst h; rfl
  | succ i => simpa using ih (by simpa using h)
theorem textKs_len (k : Int) (ks : List LExpr) : (textKs k ks).length = ks.length := by
 induction ks with
 | nil => rfl
 | cons a r ih => rw [textKs, List.length_cons, ih, List.length_cons]
theorem joinB_mem (d : List UInt8) : ∀ (xs : List ByteArray) (x : ByteArray), x ∈ xs → x.size ≤ (joinB d xs).length
 | [], x, h => by simp at h
 | [a], x, h => by simp at h; subst h; rw [joinB, by_len]; exact Nat.le_refl _
 | a :: b :: r, x, h => by
  rw [joinB, List.length_append, List.length_append, by_len]
  ·rcases List.mem_cons.1 h with rfl | h
   ·omega
   ·have := joinB_mem d (b :: r) x h; omega
  ·simp
theorem joinB_count (d : List UInt8) (hd : 0 < d.length) : ∀ xs : List ByteArray, xs.length ≤ (joinB d xs).length + 1
 | [] => by simp
 | [a] => by simp
 | a :: b :: r => by
  rw [joinB, List.length_append, List.length_append]
  ·have := joinB_count d hd (b :: r); simp only [List.length_cons] at *; omega
  ·simp
theorem sepT_len (k : Int) : 0 < (sepT k).length := by unfold sepT; split <;> decide
theorem catT (a b : List UInt8) : mkS a ++ mkS b = mkS (a ++ b) := by
 unfold mkS; apply ByteArray.ext; simp [ByteArray.data_append]
theorem JoinT_p (w : World) (v : Value) (d : List UInt8) (xs : List ByteArray) (h : Is w v xs) (hlen : (joinB d xs).length ≤ 1000000) (hn : xs.length ≤ 100000000) :
  Calls Tryz.prog 169 #[v, .string ⟨d.toArray⟩] w fun e w' => e = .returned (.string (mkS (joinB d xs))) ∧ Below w.heap.size w w' := by
 obtain ⟨a, c, rfl, hnc, hc, hr⟩ := list_inv h
 by_cases h0 : xs.length = 0
 ·obtain rfl : xs = [] := List.length_eq_zero_iff.1 h0
  refine (Tryz.strings_Join_none a c ⟨d.toArray⟩ w).mono ?_
  rintro e w' ⟨rfl, rfl⟩
  exact ⟨rfl, Below.refl _ _⟩
 ·obtain ⟨x0, hx⟩ := get_lt (xs := xs) (k := 0) (by omega)
  obtain ⟨b, off, rfl, hb, -⟩ := str_at hr hx
  have e1 : Lib.join (xs.map (·.data.toList)) (ByteArray.mk d.toArray).data.toList = joinB d xs := by rw [joinB_eq]
  have hcon := Tryz.strings_Join b off c xs ⟨d.toArray⟩ w (fun j x hx => by
   obtain ⟨b', off', he, -, h0, -⟩ := str_at hr hx
   cases he; exact h0) hb (by omega) hnc (by rw [e1]; omega)
  rw [e1] at hcon
  exact hcon
set_option maxRecDepth 100000 in
set_option maxHeartbeats 4000000 in
theorem text_step (k0 : Int) (n0 x0 : ByteArray) (ks : List LExpr) (ih : ∀ e ∈ ks, (textE e).length ≤ 1000000 → ∀ (w : World) (v : Value), Is w v e → Calls Tryz.prog 117 #[v] w fun e' w' => e' = .returned (.string (mkS (textE e))) ∧ Below w.heap.size w w')
  (hlen : (textE (LExpr.mk k0 n0 x0 ks)).length ≤ 1000000) (w : World) (v : Value) (h : Is w v (LExpr.mk k0 n0 x0 ks)) :
  Calls Tryz.prog 117 #[v] w fun e' w' => e' = .returned (.string (mkS (textE (LExpr.mk k0 n0 x0 ks)))) ∧ Below w.heap.size w w' := by
 obtain ⟨a, c, rfl, -, -, -, hnc, hcm, hr⟩ := LExpr.inv h
 simp only [maxLen] at hcm
 have HR := Lib.hid hr
 have HIH := Lib.hid ih
 have HLN := Lib.hid hlen
 have HT : Hid (textE (LExpr.mk k0 n0 x0 ks) = if k0 == 0 then (if emp x0 then n0.data.toList else n0.data.toList ++ [32, 119, 105, 116, 104, 32] ++ x0.data.toList) else if k0 == 1 then n0.data.toList ++ [43] else joinB (sepT k0) (textKs k0 ks)) := by show _ = _; rw [textE]
 clear hr h ih hlen
 generalize textE (LExpr.mk k0 n0 x0 ks) = TT at *
 cases q0 : (k0 == 0)
 case true =>
  cases q1 : emp x0
  case true =>
   have q1' : x0.toList.isEmpty = true := q1
   have HF : Hid (mkS TT = n0) := by show _ = _; rw [HT.out, q0, q1]; exact mkS_self _
   clear HT HLN q1
   go_enter Tryz.func117, Tryz.ntmps117
   go_wp2
   go_ret
   exact ⟨by rw [HF.out]; rfl, (by repeat (first | exact zR _ _ | assumption | refine zN ?_ _ | refine zD ?_ | refine zA ?_ ?_ _ | refine zS ?_ ?_ _ | refine zT ?_ (zM (by assumption) ?_) | exact Nat.le_refl _ | (simp <;> omega) | omega))⟩
  have q1' : x0.toList.isEmpty = false := q1
  have HF : Hid (mkS TT = n0 ++ ⟨#[32, 119, 105, 116, 104, 32]⟩ ++ x0) := by
   show _ = _; rw [HT.out, q0, q1]
   show mkS (n0.data.toList ++ [32, 119, 105, 116, 104, 32] ++ x0.data.toList) = _
   rw [← catT, ← catT, mkS_self, mkS_self]; rfl
  have HSZ : Hid (n0.size + 6 + x0.size ≤ 1000000) := by
   show _ ≤ _
   have := HLN.out; rw [HT.out, q0, q1] at this
   simp at this; omega
  have hsz := HSZ.out
  clear HT HLN q1
  go_enter Tryz.func117, Tryz.ntmps117
  go_wp2
  go_ret
  exact ⟨by rw [HF.out]; rfl, (by repeat (first | exact zR _ _ | assumption | refine zN ?_ _ | refine zD ?_ | refine zA ?_ ?_ _ | refine zS ?_ ?_ _ | refine zT ?_ (zM (by assumption) ?_) | exact Nat.le_refl _ | (simp <;> omega) | omega))⟩
 cases q1 : (k0 == 1)
 case true =>
  have HF : Hid (mkS TT = n0 ++ ⟨#[43]⟩) := by
   show _ = _; rw [HT.out, q0, q1]
   show mkS (n0.data.toList ++ [43]) = _
   rw [← catT, mkS_self]; rfl
  have HSZ : Hid (n0.size + 1 ≤ 1000000) := by
   show _ ≤ _
   have := HLN.out; rw [HT.out, q0, q1] at this
   simp at this; omega
  have hsz := HSZ.out
  clear HT HLN
  go_enter Tryz.func117, Tryz.ntmps117
  go_wp2
  go_ret
  exact ⟨by rw [HF.out]; rfl, (by repeat (first | exact zR _ _ | assumption | refine zN ?_ _ | refine zD ?_ | refine zA ?_ ?_ _ | refine zS ?_ ?_ _ | refine zT ?_ (zM (by assumption) ?_) | exact Nat.le_refl _ | (simp <;> omega) | omega))⟩
 have HJ : Hid (TT = joinB (sepT k0) (textKs k0 ks)) := by show _ = _; rw [HT.out, q0, q1]; rfl
 have hN1 : ks.length ≤ 1000001 := by
  have h1 := joinB_count (sepT k0) (sepT_len k0) (textKs k0 ks)
  rw [← HJ.out, textKs_len] at h1
  have := HLN.out; omega
 clear HT
 generalize hN : ks.length = N at *
 have HN := Lib.hid hN
 clear hN
 go_enter Tryz.func117, Tryz.ntmps117
 go_upto_if 30 with (fail)
 go_cut [3] (fun v3 wx => v3 = .string ⟨(sepT k0).toArray⟩ ∧ wx = w.alloc (.cells #[.int .i64 k0, .string n0, .string x0, .slice a N c] 30))
 case first =>
  cases q3 : (k0 == 3)
  case false =>
   go_wp2
   go_meet
   case rel => exact ⟨by unfold sepT; rw [q3]; rfl, rfl⟩
  go_wp2
  go_meet
  case rel => exact ⟨by unfold sepT; rw [q3]; rfl, rfl⟩
 case rest =>
  obtain ⟨rfl, rfl⟩ := hcut
  have hB1 : Below w.heap.size w (w.alloc (.cells #[.int .i64 k0, .string n0, .string x0, .slice a N c] 30)) := (by repeat (first | exact zR _ _ | assumption | refine zN ?_ _ | refine zD ?_ | refine zA ?_ ?_ _ | refine zS ?_ ?_ _ | refine zT ?_ (zM (by assumption) ?_) | exact Nat.le_refl _ | (simp <;> omega) | omega))
  have hO1 := World.alloc_heap_new w (.cells #[.int .i64 k0, .string n0, .string x0, .slice a N c] 30)
  generalize (w.alloc (.cells #[.int .i64 k0, .string n0, .string x0, .slice a N c] 30)) = w1 at *
  have e0 : w1.cell? ⟨w.heap.size, 0, none⟩ = some (.int .i64 k0) := objcell hO1 rfl
  have e3 : w1.cell? ⟨w.heap.size, 3, none⟩ = some (.slice a N c) := objcell hO1 rfl
  have hs1 : w.heap.size < w1.heap.size := cell_lt e0
  have HB1 := Lib.hid hB1
  clear hB1 hO1
  go_wp2
  go_loopw [4, 34] (fun rv iv wr => ∃ i : Nat, i ≤ N ∧ iv = .int .i64 i ∧ Hid (Below w1.heap.size w1 wr) ∧ Hid (OwnV Value.string w1.heap.size 9 wr rv ((textKs k0 ks).take i))) (fun _ iv _ => N - (intOf iv).toNat)
  case atStart => exact ⟨0, by omega, rfl, Lib.hid (Below.refl _ _), Lib.hid (OwnV.nil _ _ _ _)⟩
  case round =>
   obtain ⟨i, hi, rfl, HB, HO⟩ := hrel
   have hsr := HB.out.size
   by_cases hlt : i < N
   case neg =>
    have hiz : ¬ (i : Int) < (N : Int) := by omega
    have hall : (textKs k0 ks).take i = textKs k0 ks := List.take_of_length_le (by rw [textKs_len, HN.out]; omega)
    have hO := HO.out
    rw [hall] at hO
    have hJn := JoinT_p wr
    have HIS := Lib.hid (own_str hO (fun x hx => by have := joinB_mem (sepT k0) _ x hx; rw [← HJ.out] at this; have := HLN.out; unfold maxLen; omega))
    have HOO := Lib.hid hO
    have HW : Hid (Below w.heap.size w wr) := HB1.out.trans (HB.out.mono (by omega))
    clear hO hall hJn
    go_wp2_with fail
    refine (JoinT_p wr _ _ _ HIS.out (by rw [← HJ.out]; exact HLN.out) (by rw [textKs_len, HN.out]; omega)).mono ?_
    rintro e w2 ⟨rfl, hb2⟩
    go_wp2
    go_ret
    exact ⟨by rw [HJ.out]; rfl, HW.out.trans (hb2.mono (by have := HW.out.size; omega))⟩
   have hiz : (i : Int) < (N : Int) := by omega
   obtain ⟨y, hy⟩ := get_lt (xs := ks) (k := i) (by rw [HN.out]; exact hlt)
   obtain ⟨k1, n1, x1, ks1⟩ := y
   have hmem : LExpr.mk k1 n1 x1 ks1 ∈ ks := List.mem_of_getElem? hy
   have htk := textKs_get (k := k0) hy
   have HTK : Hid ((textKs k0 ks).take (i + 1) = (textKs k0 ks).take i ++ [mkS (parT k0 (LExpr.mk k1 n1 x1 ks1) (textE (LExpr.mk k1 n1 x1 ks1)))]) := take_at htk
   have hl1 : (textE (LExpr.mk k1 n1 x1 ks1)).length ≤ 1000000 := by
    have h1 := joinB_mem (sepT k0) _ _ (List.mem_of_getElem? htk)
    rw [← HJ.out, mkS_size] at h1
    have h2 := HLN.out
    unfold parT at h1
    split at h1
    ·simp at h1; omega
    ·omega
   obtain ⟨b, off, rfl, hb, a3, c3, y0', y1', y2', y3', i0, s1, s2, l3, m3, r3⟩ := LExpr.at_row HR.out hy
   have hbw : Below w.heap.size w wr := HB1.out.trans (HB.out.mono (by omega))
   have y0 := kept hbw y0'
   have y1 := kept hbw y1'
   have y2 := kept hbw y2'
   have y3 := kept hbw y3'
   have hsb := cell_lt y0
   have hba : Below wr.heap.size wr (wr.alloc (.cells #[.int .i64 k1, .string n1, .string x1, .slice a3 ks1.length c3] 30)) := (by repeat (first | exact zR _ _ | assumption | refine zN ?_ _ | refine zD ?_ | refine zA ?_ ?_ _ | refine zS ?_ ?_ _ | refine zT ?_ (zM (by assumption) ?_) | exact Nat.le_refl _ | (simp <;> omega) | omega))
   have hcall := HIH.out _ hmem hl1 (wr.alloc (.cells #[.int .i64 k1, .string n1, .string x1, .slice a3 ks1.length c3] 30)) (.agg #[.int .i64 k1, .string n1, .string x1, .slice a3 ks1.length c3]) (LExpr.mk' i0 s1 s2 l3 m3 ((r3.mono hbw).mono hba))
   have hoB := World.alloc_heap_new wr (.cells #[.int .i64 k1, .string n1, .string x1, .slice a3 ks1.length c3] 30)
   have g0 : wr.cell? ⟨w.heap.size, 0, none⟩ = some (.int .i64 k0) := kept HB.out e0
   have htn : ((textKs k0 ks).take i).length = i := by rw [List.length_take, textKs_len, HN.out]; omega
   have HTN := Lib.hid htn
   have HOB := Lib.hid hoB
   have HL1 := Lib.hid hl1
   clear hy hmem htk y0' y1' y2' y3' r3 hba hl1 hoB htn hbw
   generalize textE (LExpr.mk k1 n1 x1 ks1) = T1 at *
   generalize ks1.length = L1 at *
   obtain ⟨S1, hS1⟩ : ∃ S1, S1 = mkS T1 := ⟨_, rfl⟩
   rw [← hS1] at hcall
   have hS1z : S1.size ≤ 1000000 := by rw [hS1, mkS_size]; exact HL1.out
   have HS1 := Lib.hid hS1
   clear hS1
   go_wp2_with fail
   refine hcall.mono ?_
   rintro e w2 ⟨rfl, hb2⟩
   have hoz := obj_below HOB.out hb2
   have d0 : w2.cell? ⟨wr.heap.size, 0, none⟩ = some (.int .i64 k1) := objcell hoz rfl
   have hbz : Below wr.heap.size wr w2 := (by repeat (first | exact zR _ _ | assumption | refine zN ?_ _ | refine zD ?_ | refine zA ?_ ?_ _ | refine zS ?_ ?_ _ | refine zT ?_ (zM (by assumption) ?_) | exact Nat.le_refl _ | (simp <;> omega) | omega))
   have u0 : w2.cell? ⟨w.heap.size, 0, none⟩ = some (.int .i64 k0) := kept hbz g0
   have HBz : Hid (Below w1.heap.size w1 w2) := HB.out.trans (hbz.mono (by omega))
   have HO2 := Lib.hid (HO.out.below hbz)
   have hown2 := HO2.out
   unfold OwnV at hown2
   have hs2 := hbz.size
   have htl := HTN.out
   have hT1 := HL1.out
   clear hcall hb2 hoz hbz g0 y0 y1 y2 y3
   cases q5 : (k1 == k0)
   case true =>
    go_wp2_with (at_builtin; refine app_str rfl _ _ rfl w1.heap.size _ _ _ rfl hown2 _ rfl ?a4 ?a5 ?_)
    case a4 => omega
    case a5 => omega
    intro v' w5 hown5 hg5 _
    have HG5 := Lib.hid hg5
    have HO5 := Lib.hid hown5
    clear hg5 hown5
    go_wp2
    go_roundw
    case rel =>
     refine ⟨i + 1, by omega, by go_num, ?_, ?_⟩
     ·exact (HBz.out.alloc (by omega) _).app HG5.out (by simp; omega) hown2
     ·have hz : mkS (parT k0 (LExpr.mk k1 n1 x1 ks1) T1) = ⟨#[40]⟩ ++ S1 ++ ⟨#[41]⟩ := by
       unfold parT
       rw [show (LExpr.mk k1 n1 x1 ks1).kind = k1 from rfl, q5]
       rw [HS1.out]
       first | rfl | (apply ByteArray.ext; simp [mkS, ByteArray.data_append])
      have h := HO5.out
      show OwnV _ _ _ _ _ _
      unfold OwnV
      rw [HTK.out, hz, List.map_append, List.length_append, HTN.out, List.map_take]
      exact h
    case measure => simp [intOf]; omega
   cases q6 : (k1 == 3)
   case false =>
    go_wp2_with (at_builtin; refine app_str rfl _ _ rfl w1.heap.size _ _ _ rfl hown2 _ rfl ?b4 ?b5 ?_)
    case b4 => omega
    case b5 => omega
    intro v' w5 hown5 hg5 _
    have HG5 := Lib.hid hg5
    have HO5 := Lib.hid hown5
    clear hg5 hown5
    go_wp2
    go_roundw
    case rel =>
     refine ⟨i + 1, by omega, by go_num, ?_, ?_⟩
     ·exact (HBz.out.alloc (by omega) _).app HG5.out (by simp; omega) hown2
     ·have hz : mkS (parT k0 (LExpr.mk k1 n1 x1 ks1) T1) = S1 := by
       unfold parT
       rw [show (LExpr.mk k1 n1 x1 ks1).kind = k1 from rfl, q5, q6]
       rw [HS1.out]
       first | rfl | (apply ByteArray.ext; simp [mkS, ByteArray.data_append])
      have h := HO5.out
      show OwnV _ _ _ _ _ _
      unfold OwnV
      rw [HTK.out, hz, List.map_append, List.length_append, HTN.out, List.map_take]
      exact h
    case measure => simp [intOf]; omega
   cases q7 : (k0 == 2)
   case false =>
    go_wp2_with (at_builtin; refine app_str rfl _ _ rfl w1.heap.size _ _ _ rfl hown2 _ rfl ?c4 ?c5 ?_)
    case c4 => omega
    case c5 => omega
    intro v' w5 hown5 hg5 _
    have HG5 := Lib.hid hg5
    have HO5 := Lib.hid hown5
    clear hg5 hown5
    go_wp2
    go_roundw
    case rel =>
     refine ⟨i + 1, by omega, by go_num, ?_, ?_⟩
     ·exact (HBz.out.alloc (by omega) _).app HG5.out (by simp; omega) hown2
     ·have hz : mkS (parT k0 (LExpr.mk k1 n1 x1 ks1) T1) = S1 := by
       unfold parT
       rw [show (LExpr.mk k1 n1 x1 ks1).kind = k1 from rfl, q5, q6, q7]
       rw [HS1.out]
       first | rfl | (apply ByteArray.ext; simp [mkS, ByteArray.data_append])
      have h := HO5.out
      show OwnV _ _ _ _ _ _
      unfold OwnV
      rw [HTK.out, hz, List.map_append, List.length_append, HTN.out, List.map_take]
      exact h
    case measure => simp [intOf]; omega
   go_wp2_with (at_builtin; refine app_str rfl _ _ rfl w1.heap.size _ _ _ rfl hown2 _ rfl ?d4 ?d5 ?_)
   case d4 => omega
   case d5 => omega
   intro v' w5 hown5 hg5 _
   have HG5 := Lib.hid hg5
   have HO5 := Lib.hid hown5
   clear hg5 hown5
   go_wp2
   go_roundw
   case rel =>
    refine ⟨i + 1, by omega, by go_num, ?_, ?_⟩
    ·exact (HBz.out.alloc (by omega) _).app HG5.out (by simp; omega) hown2
    ·have hz : mkS (parT k0 (LExpr.mk k1 n1 x1 ks1) T1) = ⟨#[40]⟩ ++ S1 ++ ⟨#[41]⟩ := by
      unfold parT
      rw [show (LExpr.mk k1 n1 x1 ks1).kind = k1 from rfl, q5, q6, q7]
      rw [HS1.out]
      first | rfl | (apply ByteArray.ext; simp [mkS, ByteArray.data_append])
     have h := HO5.out
     show OwnV _ _ _ _ _ _
     unfold OwnV
     rw [HTK.out, hz, List.map_append, List.length_append, HTN.out, List.map_take]
     exact h
   case measure => simp [intOf]; omega
theorem text_p (e : LExpr) : (textE e).length ≤ 1000000 → ∀ (w : World) (v : Value), Is w v e → Calls Tryz.prog 117 #[v] w fun e' w' => e' = .returned (.string (mkS (textE e))) ∧ Below w.heap.size w w' := by
 refine LExpr.ind (P := fun e => (textE e).length ≤ 1000000 → ∀ (w : World) (v : Value), Is w v e → Calls Tryz.prog 117 #[v] w fun e' w' => e' = .returned (.string (mkS (textE e))) ∧ Below w.heap.size w w') (fun k n x ks ih hs w v h => ?_) e
 exact text_step k n x ks ih hs w v h
end Go.Proofs.YtaaobpicaaeiiaaGreatDoor
namespace Go.Proofs.YtaaobpicaaeiiaaGreatDoor
open Go Go.RowKit Go.ChangeShapes Go.Lib

set_option maxRecDepth 100000 in
set_option maxHeartbeats 1000000 in
theorem FormatX_p (w : World) (v : Value) (y : LExpr) (h : Is w v y) (hsz : sizeE y ≤ 1000000) (hok : formE y = 0) (hl : (textE y).length ≤ 1000000) :
  Calls Tryz.prog 44 #[v] w fun e w' => e = .returned (.tuple #[.string (mkS (textE y)), .int .i64 0]) ∧ Below w.heap.size w w' := by
 have HI := Lib.hid h
 have HC := Lib.hid (fun w v h => CheckForm_p w v y h hsz)
 have HT := Lib.hid (text_p y hl)
 have HOK := Lib.hid hok
 obtain ⟨k0, n0, x0, ks⟩ := y
 obtain ⟨a, c, rfl, -⟩ := LExpr.inv h
 clear h hsz hok hl
 generalize LExpr.mk k0 n0 x0 ks = Y at *
 generalize ks.length = N at *
 go_enter Tryz.func44, Tryz.ntmps44
 go_wp2_with fail
 have hb1 : Below w.heap.size w (w.alloc (.cells #[.int .i64 k0, .string n0, .string x0, .slice a N c] 30)) := (by repeat (first | exact zR _ _ | assumption | refine zN ?_ _ | refine zD ?_ | refine zA ?_ ?_ _ | refine zS ?_ ?_ _ | refine zT ?_ (zM (by assumption) ?_) | exact Nat.le_refl _ | (simp <;> omega) | omega))
 have hO1 := World.alloc_heap_new w (.cells #[.int .i64 k0, .string n0, .string x0, .slice a N c] 30)
 generalize (w.alloc (.cells #[.int .i64 k0, .string n0, .string x0, .slice a N c] 30)) = w1 at *
 refine (HC.out w1 _ (HI.out.mono hb1)).mono ?_
 rintro e w2 ⟨rfl, hb2⟩
 rw [HOK.out]
 have hO2 := obj_below hO1 hb2
 have d0 : w2.cell? ⟨w.heap.size, 0, none⟩ = some (.int .i64 k0) := objcell hO2 rfl
 have d1 : w2.cell? ⟨w.heap.size, 1, none⟩ = some (.string n0) := objcell hO2 rfl
 have d2 : w2.cell? ⟨w.heap.size, 2, none⟩ = some (.string x0) := objcell hO2 rfl
 have d3 : w2.cell? ⟨w.heap.size, 3, none⟩ = some (.slice a N c) := objcell hO2 rfl
 have HB2 : Hid (Below w.heap.size w w2) := Lib.hid (hb1.trans (hb2.mono hb1.size))
 clear hb1 hO1 hb2 hO2
 go_wp2_with fail
 refine (HT.out w2 _ (HI.out.mono HB2.out)).mono ?_
 rintro e w3 ⟨rfl, hb3⟩
 go_wp2
 exact bodyPost_ret (v := .tuple #[.string (mkS (textE Y)), .int .i64 0]) (by simp [results, Tryz.results44, go_sem]) rfl ⟨rfl, HB2.out.trans (hb3.mono HB2.out.size)⟩
end Go.Proofs.YtaaobpicaaeiiaaGreatDoor
namespace Go.Proofs.YtaaobpicaaeiiaaGreatDoor
open Go Go.RowKit Go.ChangeShapes
def gL : List UInt8 := [108, 105, 99, 101, 110, 115, 101, 32, 97, 108, 100, 101, 114, 32, 97, 108, 100, 101, 114, 32, 49, 32, 48, 10, 108, 105, 99, 101, 110, 115, 101, 32, 98, 105, 114, 99, 104, 32, 98, 105, 114, 99, 104, 32, 49, 32, 48, 10, 108, 105, 99, 101, 110, 115, 101, 32, 99, 101, 100, 97, 114, 32, 99, 101, 100, 97, 114, 32, 49, 32, 48, 10]
def gA : ByteArray := ⟨#[97, 108, 100, 101, 114]⟩
def gB : ByteArray := ⟨#[98, 105, 114, 99, 104]⟩
def gD : ByteArray := ⟨#[99, 101, 100, 97, 114]⟩
def uA : Term := ⟨gA, ByteArray.empty⟩
def uB : Term := ⟨gB, ByteArray.empty⟩
def uD : Term := ⟨gD, ByteArray.empty⟩
def gC : Catalog := ⟨[⟨gA, gA, 1, mkS []⟩, ⟨gB, gB, 1, mkS []⟩, ⟨gD, gD, 1, mkS []⟩], [], [], []⟩
def gM : List (List Term) := [[uA, uD], [uB, uD]]
set_option maxRecDepth 100000 in
theorem g_parse : parseC (mkS gL) = (0, 0, gC) := by decide +kernel
set_option maxRecDepth 100000 in
theorem g_of : ofP gC x33 = (gM, 0) := by decide +kernel
set_option maxRecDepth 100000 in
theorem g_expr : exprA gM = (orAll gM, 0) := by unfold exprA; rw [if_neg (by decide +kernel), if_neg (by decide +kernel)]
set_option maxRecDepth 100000 in
theorem g_form : formE (orAll gM) = 0 ∧ sizeE (orAll gM) ≤ 1000000 := by decide +kernel
def gT : List UInt8 := [97, 108, 100, 101, 114, 32, 97, 110, 100, 32, 99, 101, 100, 97, 114, 32, 111, 114, 32, 98, 105, 114, 99, 104, 32, 97, 110, 100, 32, 99, 101, 100, 97, 114]
set_option maxRecDepth 100000 in
theorem g_text : textE (orAll gM) = gT := by decide +kernel
set_option maxRecDepth 100000 in
theorem g_tb : mkS gT = ⟨#[97, 108, 100, 101, 114, 32, 97, 110, 100, 32, 99, 101, 100, 97, 114, 32, 111, 114, 32, 98, 105, 114, 99, 104, 32, 97, 110, 100, 32, 99, 101, 100, 97, 114]⟩ := by decide +kernel
set_option maxRecDepth 100000 in
theorem g_facts : satP gM [uD, uA] = true ∧ satP gM [uA] = false ∧ checkA gM = 0 ∧ acmp [uA, uD] [uB, uD] = -1 ∧ conA [uA, uD] [uA] = true := by decide +kernel
set_option maxRecDepth 1000000 in
def gBy : ByteArray := ⟨#[108, 105, 99, 101, 110, 115, 101, 32, 97, 108, 100, 101, 114, 32, 97, 108, 100, 101, 114, 32, 49, 32, 48, 10, 108, 105, 99, 101, 110, 115, 101, 32, 98, 105, 114, 99, 104, 32, 98, 105, 114, 99, 104, 32, 49, 32, 48, 10, 108, 105, 99, 101, 110, 115, 101, 32, 99, 101, 100, 97, 114, 32, 99, 101, 100, 97, 114, 32, 49, 32, 48, 10]⟩
set_option maxRecDepth 1000000 in
theorem g_mk : mkS gL = gBy := by decide +kernel
set_option maxRecDepth 1000000 in
theorem g_read : (readLines 0 0 emptyC (textLines (mkS gL))).2.2.licenses.length = 3 ∧ (readLines 0 0 emptyC (textLines (mkS gL))).2.2.exceptions.length = 0 ∧ (readLines 0 0 emptyC (textLines (mkS gL))).2.2.clauses.length = 0 ∧ (readLines 0 0 emptyC (textLines (mkS gL))).2.2.apart.length = 0 := by decide +kernel
theorem gParse (w : World) (hg : Glob w) : Calls Tryz.prog 42 #[.string ⟨#[108, 105, 99, 101, 110, 115, 101, 32, 97, 108, 100, 101, 114, 32, 97, 108, 100, 101, 114, 32, 49, 32, 48, 10, 108, 105, 99, 101, 110, 115, 101, 32, 98, 105, 114, 99, 104, 32, 98, 105, 114, 99, 104, 32, 49, 32, 48, 10, 108, 105, 99, 101, 110, 115, 101, 32, 99, 101, 100, 97, 114, 32, 99, 101, 100, 97, 114, 32, 49, 32, 48, 10]⟩] w fun e w' => ∃ v, e = .returned (.tuple #[v, .int .i64 0, .int .i64 0]) ∧ Is w' v gC ∧ Below w.heap.size w w' := by
 have h := Parse_s w (mkS gL) hg (by rw [mkS_size]; decide +kernel) (fun a c hr => by
  obtain ⟨h1, h2, h3, h4⟩ := g_read
  rw [hr] at h1 h2 h3 h4
  simp only at h1 h2 h3 h4
  exact ⟨by omega, by omega, by omega, by omega⟩)
 rw [g_mk] at h
 refine h.mono ?_
 rintro e w' ⟨v, he, hi, hb⟩
 have hp := g_parse
 rw [g_mk] at hp
 rw [hp] at he hi
 exact ⟨v, he, hi, hb⟩
end Go.Proofs.YtaaobpicaaeiiaaGreatDoor
