/- Plain laws of texts: how the reference reads them. -/
import Derived.Test.YtaneolfnnkppbaaGreatDoorJCat
import Derived.Test.YtaneolfnnkppbaaGreatDoorJRefV
import Derived.Test.YtaneolfnnkppbaaGreatDoorJFmtU
import Derived.Test.YtaneolfnnkppbaaGreatDoorJLawV
set_option linter.all false
namespace Go.Proofs.YtaneolfnnkppbaaGreatDoor
open Go

theorem split_snoc10 (d : UInt8) : ∀ (l cur : List UInt8), splitAt d cur (l ++ [d]) = splitAt d cur l ++ [mkS []]
 | [], cur => by simp [splitAt]
 | c :: r, cur => by
  have e : splitAt d cur (c :: r ++ [d]) = if c = d then mkS cur :: splitAt d [] (r ++ [d]) else splitAt d (cur ++ [c]) (r ++ [d]) := rfl
  rw [e, split_snoc10 d r [], split_snoc10 d r (cur ++ [c])]
  have e2 : splitAt d cur (c :: r) = if c = d then mkS cur :: splitAt d [] r else splitAt d (cur ++ [c]) r := rfl
  rw [e2]
  split <;> simp
theorem split_snocx (d x : UInt8) (hx : x ≠ d) : ∀ (l cur : List UInt8), ∃ fr u, splitAt d cur (l ++ [x]) = fr ++ [mkS (u ++ [x])]
 | [], cur => ⟨[], cur, by simp [splitAt, hx]⟩
 | c :: r, cur => by
  have e : splitAt d cur (c :: r ++ [x]) = if c = d then mkS cur :: splitAt d [] (r ++ [x]) else splitAt d (cur ++ [c]) (r ++ [x]) := rfl
  rw [e]
  split
  ·obtain ⟨fr, u, h⟩ := split_snocx d x hx r []
   exact ⟨mkS cur :: fr, u, by rw [h]; rfl⟩
  ·exact split_snocx d x hx r (cur ++ [c])
def strip (s : ByteArray) : ByteArray := if s.data.toList.getLast? = some 10 then mkS s.data.toList.dropLast else s
theorem text_of {s : ByteArray} {fr : List ByteArray} {la : ByteArray} (h : splitAt 10 [] s.data.toList = fr ++ [la]) : textLines s = if isW la [] then fr else fr ++ [la] := by
 unfold textLines
 rw [h]
 simp
theorem lines_mk (l : List UInt8) : linesB (mkS l) = if l = [] then [] else splitAt 10 [] l := by unfold linesB linesL; rw [mkS_toList]
theorem strip_lines (s : ByteArray) : linesB (strip s) = textLines s ∨ (linesB (strip s) = [] ∧ textLines s = [mkS []]) := by
 obtain ⟨L, rfl⟩ : ∃ L, s = mkS L := ⟨_, (mkS_self s).symm⟩
 rcases List.eq_nil_or_concat L with rfl | ⟨l, x, h⟩
 ·left
  decide +kernel
 ·rw [List.concat_eq_append] at h
  subst h
  by_cases hx : x = 10
  ·subst hx
   have e1 : strip (mkS (l ++ [10])) = mkS l := by unfold strip; rw [mkS_toList]; simp
   have e2 := text_of (s := mkS (l ++ [10])) (by rw [mkS_toList]; exact split_snoc10 10 l [])
   rw [if_pos (by simp [isW, mkS_toList])] at e2
   rw [e1, e2, lines_mk]
   by_cases hl : l = []
   ·subst hl; right; exact ⟨rfl, rfl⟩
   ·left; rw [if_neg hl]
  ·left
   have e1 : strip (mkS (l ++ [x])) = mkS (l ++ [x]) := by unfold strip; rw [if_neg (by rw [mkS_toList]; simp [hx])]
   obtain ⟨fr, u, hs⟩ := split_snocx 10 x hx l []
   have e2 := text_of (s := mkS (l ++ [x])) (by rw [mkS_toList]; exact hs)
   rw [if_neg (by simp [isW, mkS_toList])] at e2
   rw [e1, e2, lines_mk, if_neg (by simp), hs]
theorem strip_reads (s : ByteArray) : readLines 0 0 emptyC (linesB (strip s)) = readLines 0 0 emptyC (textLines s) := by
 rcases strip_lines s with h | ⟨h1, h2⟩
 ·rw [h]
 ·rw [h1, h2]; rfl
def wordsL (l : List UInt8) : List ByteArray := (splitAt 32 [] l).filter fun a => !isW a []
theorem wordsL_nil : wordsL [] = [] := by decide +kernel
theorem wordsL_blank (r : List UInt8) : wordsL (32 :: r) = wordsL r := by
 unfold wordsL
 have e : splitAt 32 [] (32 :: r) = mkS [] :: splitAt 32 [] r := by
  show (if (32 : UInt8) = 32 then mkS [] :: splitAt 32 [] r else _) = _
  rw [if_pos rfl]
 rw [e, List.filter_cons, if_neg (by decide +kernel)]
theorem wordsL_word {u : List UInt8} (hu : u ≠ []) (h : (32 : UInt8) ∉ u) (r : List UInt8) (hr : r = [] ∨ ∃ t, r = 32 :: t) : wordsL (u ++ r) = mkS u :: wordsL r := by
 rcases hr with rfl | ⟨t, rfl⟩
 ·rw [List.append_nil, wordsL_nil]
  unfold wordsL
  rw [split_all 32 u [] h, List.filter_cons, if_pos (by simp [isW, mkS_toList, hu])]
  rfl
 ·rw [wordsL_blank]
  unfold wordsL
  rw [split_pre 32 u [] t h, List.filter_cons, if_pos (by simp [isW, mkS_toList, hu])]
  rfl
def readR (c : Catalog) : List ByteArray → Option (Catalog × Nat)
 | [] => none
 | h :: ws =>
  if isW h wLicense && decide (ws.length = 4) then
   match ws with
   | [a, b, v, n] =>
    match numC v, numC n with
    | some v, some n => some ({ c with licenses := c.licenses ++ [⟨a, b, v, mkS []⟩] }, n.toNat)
    | _, _ => none
   | _ => none
  else if isW h wException && decide (2 ≤ ws.length) then
   match ws with
   | a :: b :: r =>
    match dutyIxs r with
    | none => none
    | some l => some ({ c with exceptions := c.exceptions ++ [⟨a, b, l⟩] }, 0)
   | _ => none
  else if isW h wClause && decide (4 ≤ ws.length) then
   match ws with
   | a :: w :: r :: d :: l =>
    if decide (wordIx wayW w < 0) || decide (wordIx relW r < 0) || decide (wordIx dutyW d < 0) then none
    else some ({ c with clauses := c.clauses ++ [⟨a, wordIx wayW w, wordIx relW r, wordIx dutyW d, l⟩] }, 0)
   | _ => none
  else if isW h wApart && decide (ws.length = 2) then
   match ws with
   | [a, b] => some ({ c with apart := c.apart ++ [⟨a, b⟩] }, 0)
   | _ => none
  else none
def lastText (c : Catalog) (t : ByteArray) : Catalog :=
 match c.licenses.getLast? with
 | none => c
 | some x => { c with licenses := c.licenses.dropLast ++ [{ x with text := t }] }
theorem isW_inj {h : ByteArray} {a b : List UInt8} (ha : isW h a = true) (hab : a ≠ b) : isW h b = false := by
 simp only [isW, decide_eq_true_eq] at ha
 simp only [isW, ha, decide_eq_false_iff_not]
 exact hab
theorem read_eq (c : Catalog) (s : ByteArray) (rest : List ByteArray) {h : ByteArray} {ws : List ByteArray} (hw : wordsB s = h :: ws) (h35 : h.data.toList.head? ≠ some 35) :
  readLine c s rest = match readR c (h :: ws) with
   | none => .err 4
   | some (c', n) => if rest.length < n then .err 13 else if n = 0 then .ok c' 0 else .ok (lastText c' (mkS (joinB [10] (rest.take n)))) n := by
 unfold readLine
 rw [hw]
 simp only
 rw [if_neg h35]
 by_cases k1 : isW h wLicense = true
 ·have k2 := isW_inj k1 (b := wException) (by decide)
  have k3 := isW_inj k1 (b := wClause) (by decide)
  have k4 := isW_inj k1 (b := wApart) (by decide)
  rw [if_pos k1]
  unfold readR
  simp only [k1, k2, k3, k4, Bool.true_and, Bool.false_and, Bool.false_eq_true, if_false]
  match ws with
  | [a, b, v, n] =>
   simp only [List.length_cons, List.length_nil, decide_true, if_true, readLic]
   cases hv : numC v with
   | none => rfl
   | some v' =>
    cases hn : numC n with
    | none => rfl
    | some n' =>
     simp only
     have h0 : 0 ≤ n' := by
      unfold numC at hn
      simp only at hn
      split at hn
      ·cases hn
      ·rename_i hc
       simp only [Bool.or_eq_true, decide_eq_true_eq, not_or, Bool.not_eq_true', Bool.not_eq_false] at hc
       have hd := hc.2
       cases hn
       have key : ∀ (l : List UInt8) (a : Int), 0 ≤ a → l.all digC = true → 0 ≤ l.foldl (fun n c => 10 * n + ((c.toNat : Int) - 48)) a := by
        intro l
        induction l with
        | nil => intro a h _; exact h
        | cons c r ih =>
         intro a h hd
         simp only [List.all_cons, Bool.and_eq_true] at hd
         have hc := hd.1
         simp only [digC, Bool.and_eq_true, decide_eq_true_eq] at hc
         exact ih _ (by show 0 ≤ 10 * a + ((c.toNat : Int) - 48); omega) hd.2
       exact key _ 0 (Int.le_refl _) hd
     by_cases hl : (rest.length : Int) < n'
     ·rw [if_pos (by simpa using hl), if_pos (by omega)]
     ·rw [if_neg (by simpa using hl), if_neg (by omega)]
      by_cases hz : n'.toNat = 0
      ·rw [if_pos hz, hz]; rfl
      ·rw [if_neg hz]
       simp [lastText]
  | [] => rfl
  | [_] => rfl
  | [_, _] => rfl
  | [_, _, _] => rfl
  | _ :: _ :: _ :: _ :: _ :: r => simp [readLic]
 ·rw [if_neg k1]
  have k1 : isW h wLicense = false := by simpa using k1
  by_cases k2 : isW h wException = true
  ·have k3 := isW_inj k2 (b := wClause) (by decide)
   have k4 := isW_inj k2 (b := wApart) (by decide)
   rw [if_pos k2]
   unfold readR
   simp only [k1, k2, k3, k4, Bool.true_and, Bool.false_and, Bool.false_eq_true, if_false]
   match ws with
   | a :: b :: r =>
    rw [if_pos (by simp)]
    simp only [readExc]
    cases hd : dutyIxs r with
    | none => rfl
    | some l => simp
   | [] => rfl
   | [_] => rfl
  ·rw [if_neg k2]
   have k2 : isW h wException = false := by simpa using k2
   by_cases k3 : isW h wClause = true
   ·have k4 := isW_inj k3 (b := wApart) (by decide)
    rw [if_pos k3]
    unfold readR
    simp only [k1, k2, k3, k4, Bool.true_and, Bool.false_and, Bool.false_eq_true, if_false]
    match ws with
    | a :: w :: r :: d :: l =>
     rw [if_pos (by simp)]
     simp only [readClause]
     split
     ·rfl
     ·simp
    | [] => rfl
    | [_] => rfl
    | [_, _] => rfl
    | [_, _, _] => rfl
   ·rw [if_neg k3]
    have k3 : isW h wClause = false := by simpa using k3
    by_cases k4 : isW h wApart = true
    ·rw [if_pos k4]
     unfold readR
     simp only [k1, k2, k3, k4, Bool.true_and, Bool.false_and, Bool.false_eq_true, if_false]
     match ws with
     | [a, b] => simp [readApart]
     | [] => rfl
     | [_] => rfl
     | _ :: _ :: _ :: r => simp [readApart]
    ·rw [if_neg k4]
     have k4 : isW h wApart = false := by simpa using k4
     unfold readR
     simp only [k1, k2, k3, k4, Bool.false_and, Bool.false_eq_true, if_false]
end Go.Proofs.YtaneolfnnkppbaaGreatDoor
namespace Go.Proofs.YtaneolfnnkppbaaGreatDoor
open Go Go.RowKit Go.ChangeShapes
def numR (s : ByteArray) : Int := (numC s).getD (-1)
def numF (l : List UInt8) : Int := l.foldl (fun n c => 10 * n + ((c.toNat : Int) - 48)) 0
theorem numC_def (s : ByteArray) : numC s = if (decide (s.data.toList = []) || decide (3 < s.size) || (decide (1 < s.size) && decide (s.data.toList.head? = some 48)) || !s.data.toList.all digC) then none else some (numV s.data.toList) := by
 unfold numC
 simp only [by_len]
theorem numF_snoc (l : List UInt8) (c : UInt8) : numF (l ++ [c]) = 10 * numF l + ((c.toNat : Int) - 48) := by
 unfold numF; rw [List.foldl_append]; rfl
theorem all_take {s : ByteArray} {k : Nat} (h : k < s.size) : s.data.toList.take (k + 1) = s.data.toList.take k ++ [s[k]] := by
 rw [List.take_succ_eq_append_getElem (by simpa using h)]; rfl
theorem numR_bad {s : ByteArray} {k : Nat} (h : k < s.size) (hb : digC s[k] = false) : numR s = -1 := by
 unfold numR
 rw [numC_def, if_pos]
 ·rfl
 ·have : s.data.toList.all digC = false := by
   rw [List.all_eq_false]
   exact ⟨s[k], by rw [show s[k] = s.data.toList[k]'(by simpa using h) from rfl]; exact List.getElem_mem _, by simp [hb]⟩
  rw [this]; simp
set_option maxRecDepth 100000 in
set_option maxHeartbeats 1000000 in
theorem Number_ref (s : ByteArray) (w : World) (hs : s.size ≤ maxLen) : Calls Tryz.prog 92 #[.string s] w fun e w' => e = .returned (.int .i64 (numR s)) ∧ w = w' := by
 unfold maxLen at hs
 by_cases h0 : s.size = 0
 ·have hF : Hid (numR s = -1) := by
   show _ = _
   unfold numR
   rw [numC_def, if_pos]
   ·rfl
   ·have : s.data.toList = [] := List.length_eq_zero_iff.1 (by rw [by_len]; exact h0)
    rw [this]; rfl
  have h1 : (s.size : Int) < 1 := by omega
  clear h0
  go_enter Tryz.func92, Tryz.ntmps92
  go_wp2
  go_ret
  exact ⟨ret_i hF.out.symm, rfl⟩
 by_cases h3 : 3 < s.size
 ·have hF : Hid (numR s = -1) := by
   show _ = _
   unfold numR
   rw [numC_def, if_pos]
   ·rfl
   ·rw [decide_eq_true h3]; simp
  have h1 : ¬ (s.size : Int) < 1 := by omega
  have h4 : (3 : Int) < (s.size : Int) := by omega
  clear h0
  go_enter Tryz.func92, Tryz.ntmps92
  go_wp2
  go_ret
  exact ⟨ret_i hF.out.symm, rfl⟩
 have hp : 0 < s.size := by omega
 have hne : ¬ s.data.toList = [] := fun e => by have := by_len s; rw [e] at this; simp at this; omega
 have hhd : s.data.toList.head? = some s[0] := by
  have := by_at s 0 hp
  rw [List.drop_zero] at this
  rw [this]; rfl
 have h1 : ¬ (s.size : Int) < 1 := by omega
 have h4 : ¬ (3 : Int) < (s.size : Int) := by omega
 cases q1 : decide ((1 : Int) < (s.size : Int)) && ((s[0].toNat : Int) == 48)
 case true =>
  simp only [Bool.and_eq_true, decide_eq_true_eq] at q1
  obtain ⟨q2, q3⟩ := q1
  have hF : Hid (numR s = -1) := by
   show _ = _
   unfold numR
   rw [numC_def, if_pos]
   ·rfl
   ·rw [hhd, decide_eq_true (show 1 < s.size by omega), decide_eq_true (show some s[0] = some 48 by rw [u8_t 48 q3])]; simp
  clear h0 hhd hne
  go_enter Tryz.func92, Tryz.ntmps92
  go_wp2
  go_ret
  exact ⟨ret_i hF.out.symm, rfl⟩
 case false =>
  have HZ : Hid (s.data.toList.all digC = true → numR s = numF s.data.toList) := fun hall => by
   unfold numR
   rw [numC_def, if_neg]
   ·rfl
   ·rw [hhd, decide_eq_false hne, decide_eq_false h3, hall]
    simp only [Bool.and_eq_false_iff, decide_eq_false_iff_not, Int.not_lt] at q1
    rcases q1 with q1 | q1
    ·rw [decide_eq_false (show ¬ 1 < s.size by omega)]; simp
    ·rw [decide_eq_false (show ¬ some s[0] = some 48 from fun e => u8_f 48 q1 (Option.some.inj e))]; simp
  have q2 : (¬ (1 : Int) < (s.size : Int)) ∨ ((1 : Int) < (s.size : Int) ∧ ((s[0].toNat : Int) == 48) = false) := by
   by_cases h : (1 : Int) < (s.size : Int)
   ·rw [decide_eq_true h, Bool.true_and] at q1
    exact Or.inr ⟨h, q1⟩
   ·exact Or.inl h
  clear q1 h0 hhd hne
  rcases q2 with q2 | ⟨q2, q3⟩
  all_goals
   go_enter Tryz.func92, Tryz.ntmps92
   go_wp2
   go_loop [3, 4] (fun nv kv => ∃ (n k : Nat), nv = .int .i64 n ∧ kv = .int .i64 k ∧ k ≤ s.size ∧ n < 10 ^ k ∧ Hid ((n : Int) = numF (s.data.toList.take k) ∧ (s.data.toList.take k).all digC = true)) (fun _ kv => s.size - (intOf kv).toNat)
   case atStart => exact ⟨0, 0, rfl, rfl, by omega, by decide, by show _ ∧ _; exact ⟨rfl, rfl⟩⟩
   case round =>
    obtain ⟨n, k, rfl, rfl, hk, hn, hf⟩ := hrel
    by_cases hlt : k < s.size
    ·have hk3 : k = 0 ∨ k = 1 ∨ k = 2 := by omega
     have hn3 : n < 100 := by
      rcases hk3 with rfl | rfl | rfl <;> simp at hn <;> omega
     have hc8 : (s[k].toNat : Int) < 256 := by have := s[k].toNat_lt; omega
     by_cases c1 : (s[k].toNat : Int) < 48
     ·have hF : Hid (numR s = -1) := numR_bad hlt (by simp [digC]; omega)
      go_wp2
      go_ret
      exact ⟨ret_i hF.out.symm, rfl⟩
     ·by_cases c2 : (57 : Int) < (s[k].toNat : Int)
      ·have hF : Hid (numR s = -1) := numR_bad hlt (by simp [digC]; omega)
       go_wp2
       go_ret
       exact ⟨ret_i hF.out.symm, rfl⟩
      ·obtain ⟨D, hD⟩ : ∃ D : Nat, s[k].toNat = 48 + D := ⟨s[k].toNat - 48, by omega⟩
       have HD := Lib.hid hD
       have hT := Lib.hid (all_take hlt)
       have hdg : Hid (digC s[k] = true) := by show _ = _; simp [digC]; omega
       have hd9 : D ≤ 9 := by omega
       clear hk3
       go_wp2
       go_round
       case rel =>
        refine ⟨10 * n + D, k + 1, ?_, by go_num, by omega, ?_, ?_⟩
        ·congr 1 <;> first | rfl | (simp only [IntKind.wrap_i64]; omega) | omega
        ·rw [Nat.pow_succ]; omega
        ·show _ ∧ _
         rw [hT.out, numF_snoc, List.all_append, hf.out.2]
         refine ⟨?_, by simp [hdg.out]⟩
         rw [← hf.out.1]
         have := HD.out
         push_cast
         omega
       case measure => simp [intOf]; omega
    ·have hF : Hid (numR s = (n : Int)) := by
      show _ = _
      have e : s.data.toList.take k = s.data.toList := List.take_of_length_le (by rw [by_len]; omega)
      have h2 := hf.out
      rw [e] at h2
      rw [HZ.out h2.2, h2.1]
     go_wp2
     go_ret
     exact ⟨ret_i hF.out.symm, rfl⟩
end Go.Proofs.YtaneolfnnkppbaaGreatDoor
namespace Go.Proofs.YtaneolfnnkppbaaGreatDoor
open Go Go.RowKit Go.ChangeShapes
set_option maxRecDepth 100000 in
set_option maxHeartbeats 1000000 in
theorem dutiesR (w : World) : Calls Tryz.prog 64 #[] w fun e w' => e = .returned (.slice (some ⟨w.heap.size, 0, none⟩) 6 6) ∧ ∃ T, T ≠ 5 ∧ w' = w.alloc (.cells dutyA T) := by
 go_enter Tryz.func64, Tryz.ntmps64
 go_wp2
 go_ret
 exact ⟨rfl, _, by decide, rfl⟩
set_option maxRecDepth 100000 in
set_option maxHeartbeats 1000000 in
theorem waysR (w : World) : Calls Tryz.prog 65 #[] w fun e w' => e = .returned (.slice (some ⟨w.heap.size, 0, none⟩) 3 3) ∧ ∃ T, T ≠ 5 ∧ w' = w.alloc (.cells wayA T) := by
 go_enter Tryz.func65, Tryz.ntmps65
 go_wp2
 go_ret
 exact ⟨rfl, _, by decide, rfl⟩
set_option maxRecDepth 100000 in
set_option maxHeartbeats 1000000 in
theorem relsR (w : World) : Calls Tryz.prog 66 #[] w fun e w' => e = .returned (.slice (some ⟨w.heap.size, 0, none⟩) 3 3) ∧ ∃ T, T ≠ 5 ∧ w' = w.alloc (.cells relA T) := by
 go_enter Tryz.func66, Tryz.ntmps66
 go_wp2
 go_ret
 exact ⟨rfl, _, by decide, rfl⟩
end Go.Proofs.YtaneolfnnkppbaaGreatDoor
namespace Go.Proofs.YtaneolfnnkppbaaGreatDoor
open Go Go.RowKit Go.ChangeShapes
theorem by_drop (s : ByteArray) {i : Nat} (h : i < s.size) : s.data.toList.drop i = s[i] :: s.data.toList.drop (i + 1) := by_at s i h
theorem word_cut {s : ByteArray} {i k : Nat} (hik : i < k) (hkn : k ≤ s.size) (hno : ∀ j (hj : j < s.size), i ≤ j → j < k → s[j] ≠ 32) (hend : k = s.size ∨ ∃ h : k < s.size, s[k] = 32) :
  wordsL (s.data.toList.drop i) = s.extract i k :: wordsL (s.data.toList.drop k) := by
 have e : s.data.toList.drop i = (s.data.toList.drop i).take (k - i) ++ s.data.toList.drop k := by
  have := (List.take_append_drop (k - i) (s.data.toList.drop i)).symm
  rw [List.drop_drop, show i + (k - i) = k by omega] at this
  exact this
 rw [extract_mkS]
 conv => lhs; rw [e]
 refine wordsL_word ?_ ?_ _ ?_
 ·intro h0
  have := congrArg List.length h0
  rw [List.length_take, List.length_drop, by_len] at this
  simp at this; omega
 ·intro hm
  obtain ⟨j, hj⟩ := List.getElem?_of_mem hm
  rw [List.getElem?_take] at hj
  split at hj
  ·rename_i hjk
   rw [List.getElem?_drop] at hj
   have hlt : i + j < s.size := by
    rcases Nat.lt_or_ge (i + j) s.size with h | h
    ·exact h
    ·rw [List.getElem?_eq_none (by rw [by_len]; omega)] at hj; cases hj
   refine hno (i + j) hlt (by omega) (by omega) ?_
   have e2 : s.data.toList[i + j]? = some s[i + j] := by
    rw [List.getElem?_eq_getElem (by rw [by_len]; exact hlt)]; rfl
   rw [e2] at hj
   exact Option.some.inj hj
  ·cases hj
 ·rcases hend with h | ⟨h, h2⟩
  ·left; exact List.drop_eq_nil_of_le (by rw [by_len]; omega)
  ·right; exact ⟨_, by rw [by_drop s h, h2]⟩
def WOut (ws : List ByteArray) (w : World) (e : Ending) (w' : World) : Prop := ∃ v, e = .returned v ∧ OwnV Value.string w.heap.size 9 w' v ws ∧ Below w.heap.size w w'
set_option maxRecDepth 100000 in
set_option maxHeartbeats 4000000 in
theorem Words_ref (s : ByteArray) (w : World) (hs : s.size ≤ 1000000) : Calls Tryz.prog 50 #[.string s] w fun e w' => WOut (wordsB s) w e w' := by
 have hs2 : (s.size : Int) ≤ 1000000 := by omega
 go_enter Tryz.func50, Tryz.ntmps50
 go_wp2
 go_loopw [3, 4] (fun ov iv wr => ∃ (i : Nat) (done : List ByteArray), iv = .int .i64 i ∧ i ≤ s.size ∧ Hid (done.length ≤ i) ∧ Hid (wordsB s = done ++ wordsL (s.data.toList.drop i)) ∧ Hid (OwnV Value.string w.heap.size 9 wr ov done) ∧ Hid (Below w.heap.size w wr)) (fun _ iv _ => s.size - (intOf iv).toNat)
 case atStart => exact ⟨0, [], rfl, by omega, Lib.hid (Nat.le_refl _), Lib.hid rfl, Lib.hid (OwnV.nil _ _ _ _), Lib.hid (Below.refl _ _)⟩
 case round =>
  obtain ⟨i, done, rfl, hi, HD, HW, HO, hbr⟩ := hrel
  by_cases hin : i < s.size
  ·have hdr := Lib.hid (by_drop s hin)
   cases q1 : ((s[i].toNat : Int) == 32)
   case true =>
    have HW2 : Hid (wordsB s = done ++ wordsL (s.data.toList.drop (i + 1))) := by
     show _ = _
     rw [HW.out, hdr.out, u8_t 32 q1, wordsL_blank]
    go_wp2
    go_roundw
    case rel => exact ⟨i + 1, done, by go_num, by omega, Lib.hid (by have := HD.out; omega), HW2, HO, hbr⟩
    case measure => simp [intOf]; omega
   case false =>
    have hne := Lib.hid (u8_f 32 q1)
    have hq1 : (s[i].toNat : Int) ≠ 32 := by simpa using q1
    clear hdr
    go_wp2
    go_loop [5] (fun kv => ∃ k : Nat, kv = .int .i64 k ∧ i ≤ k ∧ k ≤ s.size ∧ Hid (∀ j (hj : j < s.size), i ≤ j → j < k → s[j] ≠ 32)) (fun kv => s.size - (intOf kv).toNat)
    case atStart => exact ⟨i, rfl, by omega, by omega, Lib.hid (fun j hj h1 h2 => by omega)⟩
    case round =>
     obtain ⟨k, rfl, hik, hkn, HNO⟩ := hrel
     by_cases hkl : k < s.size
     ·cases q2 : ((s[k].toNat : Int) != 32)
      case true =>
       have HN2 : Hid (∀ j (hj : j < s.size), i ≤ j → j < k + 1 → s[j] ≠ 32) := fun j hj h1 h2 => by
        by_cases e : j = k
        ·subst e; intro h; rw [h] at q2; simp at q2
        ·exact HNO.out j hj h1 (by omega)
       clear q1
       go_wp2
       go_round
       case rel => exact ⟨k + 1, by go_num, by omega, by omega, HN2⟩
       case measure => simp [intOf]; omega
      case false =>
       have h32 : s[k] = 32 := u8_t 32 (by simpa using q2)
       have hlt : i < k := by
        rcases Nat.lt_or_ge i k with h | h
        ·exact h
        ·exfalso
         obtain rfl : i = k := by omega
         exact hne.out h32
       have HC := Lib.hid (word_cut hlt hkn HNO.out (Or.inr ⟨hkl, h32⟩))
       clear h32 q1
       go_wp2_with (at_builtin; refine app_ow rfl _ _ rfl w.heap.size _ _ rfl (HO.out.below ?c0) (s.extract i k) ?cx ?c3 ?c4 ?_)
       case c0 => exact (by first | ((repeat (first | exact Below.refl _ _ | assumption | refine Below.drewN ?_ _ | refine Below.drew ?_ | refine Below.alloc ?_ (by first | exact Nat.le_refl _ | (simp; done) | (simp; omega) | omega) _ | refine Below.setCell ?_ (by first | exact Nat.le_refl _ | (simp; done) | (simp; omega) | omega) _ | refine Below.trans ?_ (Below.mono (by assumption) (by first | exact Nat.le_refl _ | (simp; done) | (simp; omega) | omega)))); done) | fail)
       case c3 => have := HD.out; omega
       case c4 => exact hbr.out.size
       intro v' w6 ho hb6 hsz
       have HO6 := Lib.hid ho
       have HB6 := Lib.hid (hbr.out.trans hb6)
       clear ho hb6 hsz
       go_wp2
       go_roundw
       case rel => exact ⟨k, done ++ [s.extract i k], rfl, hkn, Lib.hid (by have := HD.out; simp; omega), by show _ = _; rw [HW.out, HC.out]; simp, HO6, HB6⟩
       case measure => simp [intOf]; omega
     ·have hke : k = s.size := by omega
      have hlt : i < k := by omega
      have HC := Lib.hid (word_cut hlt hkn HNO.out (Or.inl hke))
      clear hke q1
      go_wp2_with (at_builtin; refine app_ow rfl _ _ rfl w.heap.size _ _ rfl (HO.out.below ?c0b) (s.extract i k) ?cxb ?c3b ?c4b ?_)
      case c0b => exact (by first | ((repeat (first | exact Below.refl _ _ | assumption | refine Below.drewN ?_ _ | refine Below.drew ?_ | refine Below.alloc ?_ (by first | exact Nat.le_refl _ | (simp; done) | (simp; omega) | omega) _ | refine Below.setCell ?_ (by first | exact Nat.le_refl _ | (simp; done) | (simp; omega) | omega) _ | refine Below.trans ?_ (Below.mono (by assumption) (by first | exact Nat.le_refl _ | (simp; done) | (simp; omega) | omega)))); done) | fail)
      case c3b => have := HD.out; omega
      case c4b => exact hbr.out.size
      intro v' w6 ho hb6 hsz
      have HO6 := Lib.hid ho
      have HB6 := Lib.hid (hbr.out.trans hb6)
      clear ho hb6 hsz
      go_wp2
      go_roundw
      case rel => exact ⟨k, done ++ [s.extract i k], rfl, hkn, Lib.hid (by have := HD.out; simp; omega), by show _ = _; rw [HW.out, HC.out]; simp, HO6, HB6⟩
      case measure => simp [intOf]; omega
  ·have HE : Hid (done = wordsB s) := by
    show _ = _
    rw [HW.out, List.drop_eq_nil_of_le (by rw [by_len]; omega), wordsL_nil, List.append_nil]
   go_wp2
   go_ret
   unfold WOut
   exact ⟨_, rfl, by rw [← HE.out]; exact HO.out, hbr.out⟩
end Go.Proofs.YtaneolfnnkppbaaGreatDoor
