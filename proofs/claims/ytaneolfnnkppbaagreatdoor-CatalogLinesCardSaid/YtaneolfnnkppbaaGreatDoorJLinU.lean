/- Plain laws of texts: their parts, cut out of the text. -/
import Derived.Lib.Fields
import Derived.Test.YtaneolfnnkppbaaGreatDoorJOpen
import Derived.Test.YtaneolfnnkppbaaGreatDoorJRefV
import Derived.Test.YtaneolfnnkppbaaGreatDoorJProU
import Derived.Test.YtaneolfnnkppbaaGreatDoorJFmtU
import Derived.Test.YtaneolfnnkppbaaGreatDoorJFmt
import Derived.Test.YtaneolfnnkppbaaGreatDoorJLawV
import Derived.Test.YtaneolfnnkppbaaGreatDoorJShelfX
set_option linter.all false
namespace Go.Proofs.YtaneolfnnkppbaaGreatDoor
open Go Go.Sort

def nlB (s : ByteArray) : ByteArray := mkS (s.data.toList ++ [10])
theorem after_K : ∀ (ls : List ByteArray), (∀ s ∈ ls, (10 : UInt8) ∉ s.data.toList) → Lib.splitK [10] 1 ((unl ls).count 10) (unl ls) = ls.map (fun s => s.data.toList ++ [10]) ++ [[]]
  | [], _ => rfl
  | s :: r, h => by
    have h1 := h s (by simp)
    have hc : s.data.toList.count 10 = 0 := List.count_eq_zero.2 h1
    have ih := after_K r fun t ht => h t (by simp [ht])
    rw [unl_cons, List.count_append, hc, List.count_cons_self, Nat.zero_add]
    have hi : Lib.index (s.data.toList ++ 10 :: unl r) [10] = s.data.toList.length := by rw [index_one]; exact indexByte_app 10 (unl r) s.data.toList hc
    unfold Lib.splitK
    rw [hi, if_neg (by simp; try omega)]
    have e1 : (s.data.toList ++ 10 :: unl r).take (((s.data.toList.length : Nat) : Int).toNat + 1) = s.data.toList ++ [10] := by
      rw [Int.toNat_natCast, show s.data.toList ++ 10 :: unl r = (s.data.toList ++ [10]) ++ unl r by simp]
      exact List.take_left' (by simp)
    have e2 : (s.data.toList ++ 10 :: unl r).drop (((s.data.toList.length : Nat) : Int).toNat + [(10 : UInt8)].length) = unl r := by
      rw [Int.toNat_natCast, show s.data.toList ++ 10 :: unl r = (s.data.toList ++ [10]) ++ unl r by simp]
      exact List.drop_left' (by simp)
    rw [e1, e2, ih]
    rfl
theorem after_unl (ls : List ByteArray) (h : ∀ s ∈ ls, (10 : UInt8) ∉ s.data.toList) : Lib.splitB (mkS [10]) 1 (Lib.countB (mkS (unl ls)) (mkS [10])) (mkS (unl ls)) = ls.map nlB ++ [mkS []] := by
  have e := Lib.splitB_data (mkS [10]) 1 (Lib.countB (mkS (unl ls)) (mkS [10])) (mkS (unl ls))
  rw [mkS_toList, countB_one, mkS_toList, after_K ls h] at e
  rw [countB_one, mkS_toList]
  have e2 := congrArg (List.map mkS) e
  rw [List.map_map, show (mkS ∘ fun x : ByteArray => x.data.toList) = id from funext fun x => mkS_self x, List.map_id] at e2
  rw [e2, List.map_append, List.map_map]
  rfl
def NoSp (s : ByteArray) : Prop := s.data.toList ≠ [] ∧ (∀ b ∈ s.data.toList, Lib.isSp b = false) ∧ ∀ b ∈ s.data.toList, b.toNat < 128
theorem fields_word : ∀ (l cur r : List UInt8), (∀ b ∈ l, Lib.isSp b = false) → Lib.fieldsGo cur (l ++ r) = Lib.fieldsGo (cur ++ l) r
  | [], cur, r, _ => by simp
  | b :: l, cur, r, h => by
    have e : Lib.fieldsGo cur (b :: l ++ r) = if Lib.isSp b then (if cur.isEmpty then Lib.fieldsGo [] (l ++ r) else cur :: Lib.fieldsGo [] (l ++ r)) else Lib.fieldsGo (cur ++ [b]) (l ++ r) := rfl
    rw [e, h b (by simp), if_neg (by simp), fields_word l (cur ++ [b]) r fun x hx => h x (by simp [hx])]
    simp
theorem fields_line : ∀ (ws : List ByteArray), ws ≠ [] → (∀ s ∈ ws, NoSp s) → Lib.fieldsGo [] (joinB [32] ws ++ [10]) = ws.map (·.data.toList)
  | [], h, _ => absurd rfl h
  | [a], _, h => by
    obtain ⟨h1, h2, -⟩ := h a (by simp)
    rw [joinB, fields_word _ _ _ h2, List.nil_append]
    have e : Lib.fieldsGo a.data.toList [10] = if Lib.isSp 10 then (if a.data.toList.isEmpty then Lib.fieldsGo [] [] else a.data.toList :: Lib.fieldsGo [] []) else Lib.fieldsGo (a.data.toList ++ [10]) [] := rfl
    rw [e, if_pos (by decide), if_neg (by simpa using h1)]
    rfl
  | a :: b :: r, _, h => by
    obtain ⟨h1, h2, -⟩ := h a (by simp)
    have ih := fields_line (b :: r) (by simp) fun s hs => h s (by simp [List.mem_cons.1 hs])
    rw [joinB_cons, List.append_assoc, List.append_assoc, fields_word _ _ _ h2, List.nil_append]
    have e : Lib.fieldsGo a.data.toList ([32] ++ (joinB [32] (b :: r) ++ [10])) = if Lib.isSp 32 then (if a.data.toList.isEmpty then Lib.fieldsGo [] (joinB [32] (b :: r) ++ [10]) else a.data.toList :: Lib.fieldsGo [] (joinB [32] (b :: r) ++ [10])) else Lib.fieldsGo (a.data.toList ++ [32]) (joinB [32] (b :: r) ++ [10]) := rfl
    rw [e, if_pos (by decide), if_neg (by simpa using h1), ih]
    rfl
theorem fields_nl (ws : List ByteArray) (hne : ws ≠ []) (h : ∀ s ∈ ws, NoSp s) : Lib.fields (nlB (lineB ws)).data.toList = ws.map (·.data.toList) := by
  unfold nlB lineB Lib.fields
  rw [mkS_toList, mkS_toList]
  exact fields_line ws hne h
theorem forall_both {α : Type} {l : List α} {p q : α → Prop} (h : ∀ b ∈ l, p b ∧ q b) : (∀ b ∈ l, p b) ∧ ∀ b ∈ l, q b := ⟨fun b hb => (h b hb).1, fun b hb => (h b hb).2⟩
theorem ascii_nl : ∀ (ws : List ByteArray), (∀ s ∈ ws, NoSp s) → ∀ b ∈ (nlB (lineB ws)).data.toList, b.toNat < 128 := by
  intro ws h b hb
  have key : ∀ ws : List ByteArray, (∀ s ∈ ws, NoSp s) → ∀ b ∈ joinB [32] ws, b.toNat < 128 := by
    intro ws
    induction ws with
    | nil => intro _ b hb; simp [joinB] at hb
    | cons a r ih =>
      intro h b hb
      cases r with
      | nil => exact (h a (by simp)).2.2 b hb
      | cons c r =>
        rw [joinB_cons] at hb
        rcases List.mem_append.1 hb with hb | hb
        · rcases List.mem_append.1 hb with hb | hb
          · exact (h a (by simp)).2.2 b hb
          · obtain rfl : b = 32 := by simpa using hb
            decide
        · exact ih (fun s hs => h s (by simp [List.mem_cons.1 hs])) b hb
  unfold nlB lineB at hb
  rw [mkS_toList, mkS_toList] at hb
  rcases List.mem_append.1 hb with hb | hb
  · exact key ws h b hb
  · obtain rfl : b = 10 := by simpa using hb
    decide
theorem name_nosp {s : ByteArray} (h : nameB s = true) : NoSp s := by
  refine ⟨(name_word h).1, forall_both ?_⟩
  unfold nameB nameL at h
  split at h
  · cases h
  · rename_i c r he
    simp only [Bool.and_eq_true] at h
    intro b hb
    have hn := List.all_eq_true.1 h.2 b (by first | exact hb | (rw [← he]; exact hb))
    simp only [nameC, lowC, digC, Bool.or_eq_true, Bool.and_eq_true, decide_eq_true_eq, beq_iff_eq] at hn
    have key : ∀ d : UInt8, d.toNat < 45 → (b == d) = false := fun d hd => by
      cases hbd : b == d
      · rfl
      · rw [beq_iff_eq] at hbd; subst hbd; omega
    refine ⟨?_, by omega⟩
    unfold Lib.isSp
    rw [key 9 (by decide), key 10 (by decide), key 11 (by decide), key 12 (by decide), key 13 (by decide), key 32 (by decide)]
    rfl
def nospb (l : List UInt8) : Bool := decide (l ≠ []) && (l.all fun b => !Lib.isSp b) && l.all fun b => decide (b.toNat < 128)
theorem nosp_of {l : List UInt8} (h : nospb l = true) : NoSp (mkS l) := by
  simp only [nospb, Bool.and_eq_true, decide_eq_true_eq, List.all_eq_true, Bool.not_eq_true'] at h
  exact ⟨by rw [mkS_toList]; exact h.1.1, by rw [mkS_toList]; exact h.1.2, by rw [mkS_toList]; exact h.2⟩
set_option maxRecDepth 100000 in
theorem d3_nosp : (List.range 1000).all (fun n => nospb (d3 n)) = true := by decide +kernel
theorem num_nosp {v : Int} (h0 : 0 ≤ v) (h1 : v ≤ 999) : NoSp (mkS (Lib.itoa v)) := by
  rw [num_itoa v h0 h1]
  exact nosp_of (List.all_eq_true.1 d3_nosp v.toNat (by simp; omega))
theorem words_nosp : (∀ l ∈ dutyW, NoSp (mkS l)) ∧ (∀ l ∈ wayW, NoSp (mkS l)) ∧ (∀ l ∈ relW, NoSp (mkS l)) ∧ NoSp (mkS wLicense) ∧ NoSp (mkS wException) ∧ NoSp (mkS wClause) ∧ NoSp (mkS wApart) := by
  refine ⟨fun l hl => nosp_of ?_, fun l hl => nosp_of ?_, fun l hl => nosp_of ?_, nosp_of (by decide), nosp_of (by decide), nosp_of (by decide), nosp_of (by decide)⟩
  · revert l; decide
  · revert l; decide
  · revert l; decide
theorem found_nosp {c : Catalog} (h : checkC c = 0) {nm : ByteArray} (hf : ¬ findFrom nm c.licenses 0 < 0) : NoSp nm := by
  obtain ⟨x, hx, rfl⟩ := findFrom_mem hf
  obtain ⟨p, hp⟩ := firstErr_all (check_parts h).1 x hx
  exact name_nosp (lic_parts hp).1
def TBlk.words : TBlk → List ByteArray
  | .lic x => licWords Lib.itoa x
  | .exc x => excWords x
  | .cla x => claWords x
  | .prs x => prsWords x
  | .gap _ => []
def TBlk.more : TBlk → List ByteArray
  | .lic x => linesB x.text
  | _ => []
structure Cut1 (b : TBlk) : Prop where
  ok : b.OK
  gap : b.isGap = false
  words : ∀ s ∈ b.words, NoSp s
  ne : b.words ≠ []
  lines : b.lines Lib.itoa = lineB b.words :: b.more
  small : b.more.length ≤ 999
  lic : (b.words.length = 5 ∧ b.words.head? = some (mkS wLicense) ∧ ∃ w, b.words[4]? = some w ∧ numC w = some (b.more.length : Int)) ∨ (b.words.head? ≠ some (mkS wLicense) ∧ b.more = [])
theorem mk_ne {a b : List UInt8} (h : a ≠ b) : mkS a ≠ mkS b := fun e => h (by have := congrArg (fun x : ByteArray => x.data.toList) e; simpa [mkS_toList] using this)
theorem duty_nosp {n : Int} (h0 : 0 ≤ n) (h1 : n ≤ 5) : NoSp (dutyB n) := by
  rcases int_cases6 h0 h1 with rfl | rfl | rfl | rfl | rfl | rfl <;> exact words_nosp.1 _ (by decide)
theorem cuts {c : Catalog} (h : checkC c = 0) : ∀ b ∈ blksOf c, Cut1 b := by
  intro b hb
  have hok := blks_ok h b hb
  obtain ⟨k1, k2, k3, k4, -⟩ := check_parts h
  simp only [blksOf, List.mem_append, List.mem_map] at hb
  rcases hb with ⟨x, hx, rfl⟩ | ⟨x, hx, rfl⟩ | ⟨x, hx, rfl⟩ | ⟨x, hx, rfl⟩
  · obtain ⟨p, hp⟩ := firstErr_all k1 x hx
    obtain ⟨a, b, d, e, f⟩ := lic_parts hp
    refine ⟨hok, rfl, fun s hs => ?_, by simp [TBlk.words, licWords], rfl, by show (linesB x.text).length ≤ 999; omega, Or.inl ⟨rfl, rfl, _, rfl, ?_⟩⟩
    · simp only [TBlk.words, licWords, List.mem_cons, List.not_mem_nil, or_false] at hs
      rcases hs with rfl | rfl | rfl | rfl | rfl
      · exact words_nosp.2.2.2.1
      · exact name_nosp a
      · exact name_nosp b
      · exact num_nosp d e
      · exact num_nosp (by omega) f
    · exact (num_at num_itoa (by omega) f).1
  · obtain ⟨p, hp⟩ := firstErr_all k2 x hx
    obtain ⟨a, b, -⟩ := excErr_parts hp
    refine ⟨hok, rfl, fun s hs => ?_, by simp [TBlk.words, excWords], rfl, Nat.zero_le _, Or.inr ⟨?_, rfl⟩⟩
    · simp only [TBlk.words, excWords, List.cons_append, List.nil_append, List.mem_cons, List.mem_map] at hs
      rcases hs with rfl | rfl | rfl | ⟨n, hn, rfl⟩
      · exact words_nosp.2.2.2.2.1
      · exact name_nosp a
      · exact found_nosp h b
      · have := List.all_eq_true.1 (exc_duties hp).1 n hn
        simp only [dutyOK, Bool.and_eq_true, decide_eq_true_eq] at this
        exact duty_nosp this.1 this.2
    · show some (mkS wException) ≠ some (mkS wLicense)
      exact fun e => mk_ne (by decide) (Option.some.inj e)
  · obtain ⟨p, hp⟩ := firstErr_all k3 x hx
    obtain ⟨a, b, d, e, -⟩ := clauseErr_parts hp
    refine ⟨hok, rfl, fun s hs => ?_, by simp [TBlk.words, claWords], rfl, Nat.zero_le _, Or.inr ⟨?_, rfl⟩⟩
    · simp only [TBlk.words, claWords, List.cons_append, List.nil_append, List.mem_cons] at hs
      rcases hs with rfl | rfl | rfl | rfl | rfl | hs
      · exact words_nosp.2.2.2.2.2.1
      · exact found_nosp h a
      · rcases int_cases3 b.1 b.2 with e | e | e <;> rw [e] <;> exact words_nosp.2.1 _ (by decide)
      · rcases int_cases3 d.1 d.2 with e | e | e <;> rw [e] <;> exact words_nosp.2.2.1 _ (by decide)
      · exact duty_nosp e.1 e.2
      · exact found_nosp h (cla_list hp s hs)
    · show some (mkS wClause) ≠ some (mkS wLicense)
      exact fun e => mk_ne (by decide) (Option.some.inj e)
  · obtain ⟨p, hp⟩ := firstErr_all k4 x hx
    obtain ⟨⟨a, b⟩, -⟩ := pair_behind hp
    refine ⟨hok, rfl, fun s hs => ?_, by simp [TBlk.words, prsWords], rfl, Nat.zero_le _, Or.inr ⟨?_, rfl⟩⟩
    · simp only [TBlk.words, prsWords, List.mem_cons, List.not_mem_nil, or_false] at hs
      rcases hs with rfl | rfl | rfl
      · exact words_nosp.2.2.2.2.2.2
      · exact found_nosp h a
      · exact found_nosp h b
    · show some (mkS wApart) ≠ some (mkS wLicense)
      exact fun e => mk_ne (by decide) (Option.some.inj e)
def TBlk.bytes (b : TBlk) : ByteArray := mkS (unl (b.lines Lib.itoa))
def gapS (n : Nat) : List UInt8 := [[], [10], [32, 32, 35, 32, 99, 111, 109, 109, 101, 110, 116, 10], [32, 32, 32, 10]].getD n []
def gapT (n : Nat) : List TBlk := [[], [.gap (mkS [])], [.gap (mkS [32, 32, 35, 32, 99, 111, 109, 109, 101, 110, 116])], [.gap (mkS [32, 32, 32])]].getD n []
theorem gap_unl (n : Nat) : unl ((gapT n).flatMap (TBlk.lines Lib.itoa)) = gapS n := by
  match n with
  | 0 => rfl
  | 1 => rfl
  | 2 => rfl
  | 3 => rfl
  | n + 4 => rfl
theorem gap_ok (n : Nat) : (∀ b ∈ gapT n, b.OK) ∧ (gapT n).filter (fun b => !b.isGap) = [] := by
  match n with
  | 0 => exact ⟨fun b hb => by simp [gapT] at hb, rfl⟩
  | 1 =>
    refine ⟨fun b hb => ?_, rfl⟩
    obtain rfl : b = .gap (mkS []) := by simpa [gapT] using hb
    exact ⟨by rw [mkS_toList]; decide, Or.inl (by decide +kernel)⟩
  | 2 =>
    refine ⟨fun b hb => ?_, rfl⟩
    obtain rfl : b = .gap (mkS [32, 32, 35, 32, 99, 111, 109, 109, 101, 110, 116]) := by simpa [gapT] using hb
    exact ⟨by rw [mkS_toList]; decide, Or.inr ⟨mkS [35], [mkS [99, 111, 109, 109, 101, 110, 116]], by decide +kernel, by decide +kernel⟩⟩
  | 3 =>
    refine ⟨fun b hb => ?_, rfl⟩
    obtain rfl : b = .gap (mkS [32, 32, 32]) := by simpa [gapT] using hb
    exact ⟨by rw [mkS_toList]; decide, Or.inl (by decide +kernel)⟩
  | n + 4 => exact ⟨fun b hb => by simp [gapT] at hb, rfl⟩
end Go.Proofs.YtaneolfnnkppbaaGreatDoor
namespace Go.Proofs.YtaneolfnnkppbaaGreatDoor
open Go Go.RowKit Go.ChangeShapes
def numR (s : ByteArray) : Int := (numC s).getD (-1)
def numF (l : List UInt8) : Int := l.foldl (fun n c => 10 * n + ((c.toNat : Int) - 48)) 0
theorem numC_def (s : ByteArray) : numC s = if (decide (s.data.toList = []) || decide (3 < s.size) || (decide (1 < s.size) && decide (s.data.toList.head? = some 48)) || !s.data.toList.all digC) then none else some (numV s.data.toList) := by
  unfold numC
  simp only [by_len]
theorem numF_snoc (l : List UInt8) (c : UInt8) : numF (l ++ [c]) = 10 * numF l + ((c.toNat : Int) - 48) := by
  unfold numF; rw [List.foldl_append]; rfl
theorem all_take {s : ByteArray} {k : Nat} (h : k < s.size) : s.data.toList.take (k + 1) = s.data.toList.take k ++ [s[k]] := by
  rw [List.take_succ_eq_append_getElem (by simpa using h)]; rfl
theorem numR_bad {s : ByteArray} {k : Nat} (h : k < s.size) (hb : digC s[k] = false) : numR s = -1 := by
  unfold numR
  rw [numC_def, if_pos]
  · rfl
  · have : s.data.toList.all digC = false := by
      rw [List.all_eq_false]
      exact ⟨s[k], by rw [show s[k] = s.data.toList[k]'(by simpa using h) from rfl]; exact List.getElem_mem _, by simp [hb]⟩
    rw [this]; simp
set_option maxRecDepth 100000 in
set_option maxHeartbeats 1000000 in
theorem Number_ref (s : ByteArray) (w : World) (hs : s.size ≤ maxLen) : Calls Tryz.prog 92 #[.string s] w fun e w' => e = .returned (.int .i64 (numR s)) ∧ w = w' := by
  unfold maxLen at hs
  by_cases h0 : s.size = 0
  · have hF : Hid (numR s = -1) := by
      show _ = _
      unfold numR
      rw [numC_def, if_pos]
      · rfl
      · have : s.data.toList = [] := List.length_eq_zero_iff.1 (by rw [by_len]; exact h0)
        rw [this]; rfl
    have h1 : (s.size : Int) < 1 := by omega
    clear h0
    go_enter Tryz.func92, Tryz.ntmps92
    go_wp2
    go_ret
    exact ⟨ret_i hF.out.symm, rfl⟩
  by_cases h3 : 3 < s.size
  · have hF : Hid (numR s = -1) := by
      show _ = _
      unfold numR
      rw [numC_def, if_pos]
      · rfl
      · rw [decide_eq_true h3]; simp
    have h1 : ¬ (s.size : Int) < 1 := by omega
    have h4 : (3 : Int) < (s.size : Int) := by omega
    clear h0
    go_enter Tryz.func92, Tryz.ntmps92
    go_wp2
    go_ret
    exact ⟨ret_i hF.out.symm, rfl⟩
  have hp : 0 < s.size := by omega
  have hne : ¬ s.data.toList = [] := fun e => by have := by_len s; rw [e] at this; simp at this; omega
  have hhd : s.data.toList.head? = some s[0] := by
    have := by_at s 0 hp
    rw [List.drop_zero] at this
    rw [this]; rfl
  have h1 : ¬ (s.size : Int) < 1 := by omega
  have h4 : ¬ (3 : Int) < (s.size : Int) := by omega
  cases q1 : decide ((1 : Int) < (s.size : Int)) && ((s[0].toNat : Int) == 48)
  case true =>
    simp only [Bool.and_eq_true, decide_eq_true_eq] at q1
    obtain ⟨q2, q3⟩ := q1
    have hF : Hid (numR s = -1) := by
      show _ = _
      unfold numR
      rw [numC_def, if_pos]
      · rfl
      · rw [hhd, decide_eq_true (show 1 < s.size by omega), decide_eq_true (show some s[0] = some 48 by rw [u8_t 48 q3])]; simp
    clear h0 hhd hne
    go_enter Tryz.func92, Tryz.ntmps92
    go_wp2
    go_ret
    exact ⟨ret_i hF.out.symm, rfl⟩
  case false =>
    have HZ : Hid (s.data.toList.all digC = true → numR s = numF s.data.toList) := fun hall => by
      unfold numR
      rw [numC_def, if_neg]
      · rfl
      · rw [hhd, decide_eq_false hne, decide_eq_false h3, hall]
        simp only [Bool.and_eq_false_iff, decide_eq_false_iff_not, Int.not_lt] at q1
        rcases q1 with q1 | q1
        · rw [decide_eq_false (show ¬ 1 < s.size by omega)]; simp
        · rw [decide_eq_false (show ¬ some s[0] = some 48 from fun e => u8_f 48 q1 (Option.some.inj e))]; simp
    have q2 : (¬ (1 : Int) < (s.size : Int)) ∨ ((1 : Int) < (s.size : Int) ∧ ((s[0].toNat : Int) == 48) = false) := by
      by_cases h : (1 : Int) < (s.size : Int)
      · rw [decide_eq_true h, Bool.true_and] at q1
        exact Or.inr ⟨h, q1⟩
      · exact Or.inl h
    clear q1 h0 hhd hne
    rcases q2 with q2 | ⟨q2, q3⟩
    all_goals
      go_enter Tryz.func92, Tryz.ntmps92
      go_wp2
      go_loop [3, 4] (fun nv kv => ∃ (n k : Nat), nv = .int .i64 n ∧ kv = .int .i64 k ∧ k ≤ s.size ∧ n < 10 ^ k ∧ Hid ((n : Int) = numF (s.data.toList.take k) ∧ (s.data.toList.take k).all digC = true)) (fun _ kv => s.size - (intOf kv).toNat)
      case atStart => exact ⟨0, 0, rfl, rfl, by omega, by decide, by show _ ∧ _; exact ⟨rfl, rfl⟩⟩
      case round =>
        obtain ⟨n, k, rfl, rfl, hk, hn, hf⟩ := hrel
        by_cases hlt : k < s.size
        · have hk3 : k = 0 ∨ k = 1 ∨ k = 2 := by omega
          have hn3 : n < 100 := by
            rcases hk3 with rfl | rfl | rfl <;> simp at hn <;> omega
          have hc8 : (s[k].toNat : Int) < 256 := by have := s[k].toNat_lt; omega
          by_cases c1 : (s[k].toNat : Int) < 48
          · have hF : Hid (numR s = -1) := numR_bad hlt (by simp [digC]; omega)
            go_wp2
            go_ret
            exact ⟨ret_i hF.out.symm, rfl⟩
          · by_cases c2 : (57 : Int) < (s[k].toNat : Int)
            · have hF : Hid (numR s = -1) := numR_bad hlt (by simp [digC]; omega)
              go_wp2
              go_ret
              exact ⟨ret_i hF.out.symm, rfl⟩
            · obtain ⟨D, hD⟩ : ∃ D : Nat, s[k].toNat = 48 + D := ⟨s[k].toNat - 48, by omega⟩
              have HD := Lib.hid hD
              have hT := Lib.hid (all_take hlt)
              have hdg : Hid (digC s[k] = true) := by show _ = _; simp [digC]; omega
              have hd9 : D ≤ 9 := by omega
              clear hk3
              go_wp2
              go_round
              case rel =>
                refine ⟨10 * n + D, k + 1, ?_, by go_num, by omega, ?_, ?_⟩
                · congr 1 <;> first | rfl | (simp only [IntKind.wrap_i64]; omega) | omega
                · rw [Nat.pow_succ]; omega
                · show _ ∧ _
                  rw [hT.out, numF_snoc, List.all_append, hf.out.2]
                  refine ⟨?_, by simp [hdg.out]⟩
                  rw [← hf.out.1]
                  have := HD.out
                  push_cast
                  omega
              case measure => simp [intOf]; omega
        · have hF : Hid (numR s = (n : Int)) := by
            show _ = _
            have e : s.data.toList.take k = s.data.toList := List.take_of_length_le (by rw [by_len]; omega)
            have h2 := hf.out
            rw [e] at h2
            rw [HZ.out h2.2, h2.1]
          go_wp2
          go_ret
          exact ⟨ret_i hF.out.symm, rfl⟩
end Go.Proofs.YtaneolfnnkppbaaGreatDoor
namespace Go.Proofs.YtaneolfnnkppbaaGreatDoor
open Go Go.RowKit Go.ChangeShapes
theorem mkS_cat (a b : List UInt8) : mkS a ++ mkS b = mkS (a ++ b) := by
  refine WideShapes.bytes_inj ?_
  simp [mkS]
def SpTab (w : World) : Prop := Lib.TabIs Tryz.prog w "strings.asciiSpace" .u8 Lib.asciiSpaceTab
theorem SpTab.mono {w w' : World} (h : SpTab w) (hb : Below w.heap.size w w') : SpTab w' := by
  unfold SpTab Lib.TabIs at *
  have hg : Tryz.prog.globalNamed "strings.asciiSpace" = some 0 := by kernel_rfl
  refine var?_below hb hg ?_ h
  unfold World.var? at h
  rw [hg] at h
  simp only [Option.bind_some] at h
  rcases Nat.lt_or_ge 0 w.heap.size with h1 | h1
  · exact h1
  · rw [Array.getElem?_eq_none h1] at h; cases h
theorem count_unl : ∀ (ls : List ByteArray), (∀ s ∈ ls, (10 : UInt8) ∉ s.data.toList) → (unl ls).count 10 = ls.length
  | [], _ => rfl
  | s :: r, h => by
    rw [unl_cons, List.count_append, List.count_eq_zero.2 (h s (by simp)), List.count_cons_self, count_unl r fun t ht => h t (by simp [ht])]
    simp
def pieces (ls : List ByteArray) : List ByteArray := ls.map nlB ++ [mkS []]
theorem pieces_len (ls : List ByteArray) : (pieces ls).length = ls.length + 1 := by simp [pieces]
set_option maxRecDepth 100000 in
set_option maxHeartbeats 1000000 in
theorem SplitAfter_unl (ls : List ByteArray) (hc : ∀ s ∈ ls, (10 : UInt8) ∉ s.data.toList) (w : World) (hg : Glob w) (hs : (unl ls).length ≤ 65536) :
    Calls Tryz.prog 90 #[.string (mkS (unl ls)), .string ⟨#[10]⟩] w fun e w' => e = .returned (.slice (some ⟨w.heap.size, 0, none⟩) (ls.length + 1) (ls.length + 1)) ∧ w' = w.alloc (.cells ((pieces ls).map Value.string).toArray 9) := by
  obtain ⟨m, hm⟩ := hg.maxLen
  have hcnt : Lib.countB (mkS (unl ls)) (mkS [10]) = ls.length := by rw [countB_one, mkS_toList]; exact count_unl ls hc
  have hle : ls.length ≤ (unl ls).length := by rw [← count_unl ls hc]; exact List.count_le_length
  have hsp := after_unl ls hc
  rw [hcnt] at hsp
  have hG := fun W : World => Tryz.strings_genSplit (mkS (unl ls)) (mkS [10]) 1 (-1) (ls.length + 1) m W (by rw [mkS_size]; omega)
  have HG : Hid (w.cell? ⟨2, 0, none⟩ = some (.int .i64 m)) := hm
  have HC := Lib.hid hcnt
  have HS := Lib.hid hsp
  have HM : Hid (∀ W : World, W.cell? ⟨2, 0, none⟩ = some (.int .i64 m) → Calls Tryz.prog 93 #[.string (mkS (unl ls)), .string ⟨#[10]⟩, .int .i64 1, .int .i64 (-1)] W fun e w' => e = .returned (.slice (some ⟨W.heap.size, 0, none⟩) (ls.length + 1) (ls.length + 1)) ∧ w' = W.alloc (.cells ((pieces ls).map Value.string).toArray 9)) := fun W hW => by
    refine (hG W hW (by decide) (by decide) (by decide) (by decide) (by rw [mkS_size, HC.out, if_pos (by decide)]; omega)).mono ?_
    rintro e w' ⟨rfl, rfl⟩
    rw [Nat.add_sub_cancel, HS.out]
    refine ⟨by rw [← pieces, pieces_len], ?_⟩
    rw [← pieces, Lib.cellsOf, pieces_len, Nat.sub_self]
    simp
  clear hG hcnt hsp hm
  go_enter Tryz.func90, Tryz.ntmps90
  go_wp2_with fail
  refine (HM.out _ HG.out).mono ?_
  rintro e w' ⟨rfl, rfl⟩
  go_wp2
  go_ret
  exact ⟨rfl, rfl⟩
theorem Fields_line (ws : List ByteArray) (hne : ws ≠ []) (h : ∀ s ∈ ws, NoSp s) (w : World) (hT : SpTab w) (hs : (nlB (lineB ws)).size ≤ 65537) :
    Calls Tryz.prog 91 #[.string (nlB (lineB ws))] w fun e w' => e = .returned (.slice (some ⟨w.heap.size, 0, none⟩) ws.length ws.length) ∧ w' = w.alloc (.cells (ws.map Value.string).toArray 9) := by
  have hf := fields_nl ws hne h
  refine (Tryz.strings_Fields_laid (nlB (lineB ws)) w (by omega) (fun j b hj => ascii_nl ws h b (List.mem_of_getElem? hj)) hT).mono ?_
  rintro e w' ⟨rfl, rfl⟩
  rw [hf, List.length_map]
  refine ⟨rfl, ?_⟩
  rw [List.map_map]
  congr 3
end Go.Proofs.YtaneolfnnkppbaaGreatDoor
namespace Go.Proofs.YtaneolfnnkppbaaGreatDoor
open Go Go.RowKit Go.ChangeShapes
theorem str_sum (A t : ByteArray) (h : A.size + t.size ≤ 4611686018427387904) : ∃ S : ByteArray, (∀ W : World, (Op.stringOp .add A t).run Tryz.prog W = .ok (.string S) W) ∧ Hid (S.data.toList = A.data.toList ++ t.data.toList) ∧ S.size ≤ A.size + t.size :=
  ⟨A ++ t, fun W => run_string_add_sum W A t (by omega), by show _ = _; simp, by simp⟩
def linesOf (bs : List TBlk) : List ByteArray := bs.flatMap (TBlk.lines Lib.itoa)
theorem linesOf_append (a b : List TBlk) : linesOf (a ++ b) = linesOf a ++ linesOf b := by simp [linesOf]
theorem linesOf_cons (b : TBlk) (r : List TBlk) : linesOf (b :: r) = b.lines Lib.itoa ++ linesOf r := by simp [linesOf]
theorem piece_at {ls : List ByteArray} {i : Nat} {x : ByteArray} (h : ls[i]? = some x) : (pieces ls)[i]? = some (nlB x) := by
  unfold pieces
  rw [List.getElem?_append_left (by simpa using lt_get h), List.getElem?_map, h]; rfl
theorem piece_end (ls : List ByteArray) : (pieces ls)[ls.length]? = some (mkS []) := by
  unfold pieces
  rw [List.getElem?_append_right (by simp)]; simp
theorem wl_mem {ls : List ByteArray} {x : ByteArray} (h : x ∈ ls) : x.size + 1 ≤ wl ls := by
  induction ls with
  | nil => simp at h
  | cons a r ih =>
    rw [wl_cons]
    rcases List.mem_cons.1 h with rfl | h
    · omega
    · have := ih h; omega
theorem unl_take {ls : List ByteArray} {k : Nat} {x : ByteArray} (h : ls[k]? = some x) : unl (ls.take (k + 1)) = unl (ls.take k) ++ (nlB x).data.toList := by
  rw [take_at h, unl_append, unl_cons, unl_nil, nlB, mkS_toList]
def BOut (bs : List TBlk) (w : World) (e : Ending) (w' : World) : Prop := ∃ v, e = .returned v ∧ OwnV Value.string w.heap.size 9 w' v (bs.map TBlk.bytes) ∧ Below w.heap.size w w'
set_option maxRecDepth 100000 in
set_option maxHeartbeats 8000000 in
theorem blocks_l (w : World) (bs : List TBlk) (hb : ∀ b ∈ bs, Cut1 b) (hlen : (unl (linesOf bs)).length ≤ 65536) (hg : Glob w) (hT : SpTab w) :
    Calls Tryz.prog 36 #[.string (mkS (unl (linesOf bs)))] w fun e w' => BOut bs w e w' := by
  have hclean : ∀ s ∈ linesOf bs, (10 : UInt8) ∉ s.data.toList := fun s hs => by
    obtain ⟨b, hb', hs⟩ := List.mem_flatMap.1 hs
    exact TBlk.clean num_itoa (hb b hb').ok s hs
  have hwl : wl (linesOf bs) ≤ 65536 := by rw [← unl_len]; exact hlen
  have hnl : (linesOf bs).length ≤ 65536 := by rw [wl_sizes] at hwl; omega
  have HSP := Lib.hid (SplitAfter_unl (linesOf bs) hclean w hg hlen)
  have HWL := Lib.hid hwl
  have HB := Lib.hid hb
  have HT := Lib.hid hT
  clear hb hlen hg hT hclean hwl
  obtain ⟨S, hS⟩ : ∃ S, S = mkS (unl (linesOf bs)) := ⟨_, rfl⟩
  rw [← hS] at HSP ⊢
  clear hS
  obtain ⟨NL, hNL⟩ : ∃ NL, NL = (linesOf bs).length := ⟨_, rfl⟩
  rw [← hNL] at HSP hnl
  have HNL := Lib.hid hNL
  clear hNL
  go_enter Tryz.func36, Tryz.ntmps36
  go_wp2_with fail
  refine HSP.out.mono ?_
  rintro e w1 ⟨rfl, rfl⟩
  have hrow : Is (w.alloc (.cells ((pieces (linesOf bs)).map Value.string).toArray 9)) (.slice (some ⟨w.heap.size, 0, none⟩) (pieces (linesOf bs)).length (pieces (linesOf bs)).length) (pieces (linesOf bs)) :=
    strs_box w _ _ (fun x hx => by
      have h1 := HWL.out
      unfold pieces at hx
      rcases List.mem_append.1 hx with hx | hx
      · obtain ⟨y, hy, rfl⟩ := List.mem_map.1 hx
        have := wl_mem hy
        unfold nlB maxLen
        rw [mkS_size, List.length_append, by_len]
        simp; omega
      · obtain rfl : x = mkS [] := by simpa using hx
        rw [mkS_size]; decide) (by rw [pieces_len, ← HNL.out]; unfold maxLen; omega) rfl rfl
  obtain ⟨pa, pc, he, -, -, hpr⟩ := list_inv hrow
  cases he
  have HP := Lib.hid hpr
  have HB1 : Hid (Below w.heap.size w (w.alloc (.cells ((pieces (linesOf bs)).map Value.string).toArray 9))) := by show Below _ _ _; exact (by first | ((repeat (first | exact Below.refl _ _ | assumption | refine Below.drewN ?_ _ | refine Below.drew ?_ | refine Below.alloc ?_ (by first | exact Nat.le_refl _ | (simp; done) | (simp; omega) | omega) _ | refine Below.setCell ?_ (by first | exact Nat.le_refl _ | (simp; done) | (simp; omega) | omega) _ | refine Below.trans ?_ (Below.mono (by assumption) (by first | exact Nat.le_refl _ | (simp; done) | (simp; omega) | omega)))); done) | fail)
  have HT1 := Lib.hid (HT.out.mono HB1.out)
  have hz1 : w.heap.size < (w.alloc (.cells ((pieces (linesOf bs)).map Value.string).toArray 9)).heap.size := by simp
  clear hrow hpr HSP HT
  generalize w.alloc (.cells ((pieces (linesOf bs)).map Value.string).toArray 9) = w1 at *
  go_wp2
  go_loopw [3, 5] (fun ov iv wr => ∃ (i : Nat) (done rest : List TBlk), iv = .int .i64 i ∧ i ≤ NL + 1 ∧ Hid (bs = done ++ rest) ∧ Hid (i = (linesOf done).length ∨ (rest = [] ∧ i = NL + 1)) ∧ Hid (Below w1.heap.size w1 wr) ∧ Hid (OwnV Value.string w1.heap.size 9 wr ov (done.map TBlk.bytes))) (fun _ iv _ => NL + 1 - (intOf iv).toNat)
  case atStart => exact ⟨0, [], bs, rfl, by omega, Lib.hid rfl, Lib.hid (Or.inl rfl), Lib.hid (Below.refl _ _), Lib.hid (OwnV.nil _ _ _ _)⟩
  case round =>
    obtain ⟨i, done, rest, rfl, hi, HD, HI, hbr, HO⟩ := hrel
    have hwr : w1.heap.size ≤ wr.heap.size := hbr.out.size
    by_cases hin : i < NL + 1
    · have hi0 : (0 : Int) ≤ (i : Int) := by omega
      have hi1 : (i : Int) < ((NL + 1 : Nat) : Int) := by omega
      cases rest with
      | nil =>
        have hie : i = NL := by
          rcases HI.out with h | ⟨-, h⟩
          · have h1 := HD.out
            rw [List.append_nil] at h1
            rw [h, HNL.out, h1]
          · omega
        subst hie
        obtain ⟨b, off, he, hb, u0', -⟩ := str_at HP.out (by have := piece_end (linesOf bs); rw [← HNL.out] at this; exact this)
        cases he
        have u0 := kept hbr.out u0'
        rw [Nat.zero_add] at u0
        have he0 : (mkS []).toList.isEmpty = true := by decide +kernel
        clear u0'
        generalize mkS [] = E0 at *
        go_wp2
        go_roundw
        case rel => exact ⟨i + 1, done, [], by go_num, by omega, HD, Lib.hid (Or.inr ⟨rfl, rfl⟩), hbr, HO⟩
        case measure => first | (simp [intOf]; done) | (simp [intOf]; omega)
      | cons b r =>
        have hie : i = (linesOf done).length := by
          rcases HI.out with h | ⟨h, -⟩
          · exact h
          · cases h
        have hC := HB.out b (by rw [HD.out]; simp)
        obtain ⟨hok, hgap, hwords, hwne, hlines, hsm, hlic⟩ := hC
        have hLL : linesOf bs = linesOf done ++ (lineB b.words :: (b.more ++ linesOf r)) := by
          rw [HD.out, linesOf_append, linesOf_cons, hlines]; rfl
        have hfst : (linesOf bs)[i]? = some (lineB b.words) := by rw [hLL, hie]; simp
        have hmid : i + 1 + b.more.length ≤ NL := by
          rw [HNL.out, hLL, hie]; simp; omega
        have HMORE : Hid (∀ k x, b.more[k]? = some x → (pieces (linesOf bs))[i + 1 + k]? = some (nlB x)) := fun k x hx => by
          refine piece_at ?_
          rw [hLL, List.getElem?_append_right (by omega), hie]
          rw [show (linesOf done).length + 1 + k - (linesOf done).length = k + 1 by omega, List.getElem?_cons_succ, List.getElem?_append_left (lt_get hx)]
          exact hx
        have HWM : Hid (∀ x ∈ b.more, x.size ≤ 65535) := fun x hx => by
          have h1 := HWL.out
          have := wl_mem (ls := linesOf bs) (x := x) (by rw [hLL]; simp [hx])
          omega
        have hfz : (nlB (lineB b.words)).size ≤ 65536 := by
          have h1 := HWL.out
          have := wl_mem (List.mem_of_getElem? hfst)
          unfold nlB
          rw [mkS_size, List.length_append, by_len]
          simp; omega
        have hfe : (nlB (lineB b.words)).toList.isEmpty = false := by
          rw [ByteArray.toList_eq]; unfold nlB; rw [mkS_toList]; simp
        have HFL := Lib.hid (Fields_line b.words hwne hwords)
        have HBY : Hid (b.bytes = mkS ((nlB (lineB b.words)).data.toList ++ unl b.more)) := by
          show _ = _
          unfold TBlk.bytes
          rw [hlines, unl_cons]
          unfold nlB
          simp [mkS_toList]
        have HNX : Hid (bs = (done ++ [b]) ++ r ∧ (i + 1 + b.more.length = (linesOf (done ++ [b])).length)) := by
          refine ⟨by rw [HD.out]; simp, ?_⟩
          rw [linesOf_append, linesOf_cons, hlines, hie]; simp [linesOf]; omega
        have HLIC := Lib.hid hlic
        have HWZ : Hid (wl b.words ≤ 65536) := by
          show _ ≤ _
          have h1 := line_len b.words hwne
          have h2 := hfz
          unfold nlB at h2
          rw [mkS_size, List.length_append, by_len] at h2
          simp at h2; omega
        have HSZ : Hid (b.bytes.size ≤ 65536) := by
          show _ ≤ _
          unfold TBlk.bytes
          rw [mkS_size, unl_len]
          have h1 := HWL.out
          rw [HD.out, linesOf_append, linesOf_cons, wl_append, wl_append] at h1
          omega
        have HDL : Hid (done.length ≤ 65536) := by
          show _ ≤ _
          have h1 : done.length ≤ (linesOf done).length := by
            have key : ∀ l : List TBlk, (∀ x ∈ l, Cut1 x) → l.length ≤ (linesOf l).length := by
              intro l
              induction l with
              | nil => intro _; simp [linesOf]
              | cons x l ih =>
                intro h
                rw [linesOf_cons, (h x (by simp)).lines]
                have := ih fun y hy => h y (by simp [hy])
                simp; omega
            exact key done fun x hx => HB.out x (by rw [HD.out]; simp [hx])
          omega
        obtain ⟨b9, off, he, hb9, u0', -⟩ := str_at HP.out (piece_at hfst)
        cases he
        have u0 := kept hbr.out u0'
        rw [Nat.zero_add] at u0
        obtain ⟨F, hF⟩ : ∃ F, F = nlB (lineB b.words) := ⟨_, rfl⟩
        rw [← hF] at hfz hfe HFL HBY u0
        have HIE := Lib.hid hie
        have hin2 : (i : Int) < (NL : Int) + 1 := by omega
        clear u0' hF hok hgap hwords hwne hlines hLL hfst hlic HI hie
        go_wp2_with fail
        refine (HFL.out _ (HT1.out.mono hbr.out) (by omega)).mono ?_
        rintro e w2 ⟨rfl, rfl⟩
        have hwi : Is (wr.alloc (.cells (b.words.map Value.string).toArray 9)) (.slice (some ⟨wr.heap.size, 0, none⟩) b.words.length b.words.length) b.words :=
          strs_box wr _ _ (fun x hx => by have h1 := HWZ.out; have := wl_mem hx; unfold maxLen; omega) (by have h1 := HWZ.out; rw [wl_sizes] at h1; unfold maxLen; omega) rfl rfl
        obtain ⟨qa, qc, he, -, -, hqr⟩ := list_inv hwi
        cases he
        have HQ := Lib.hid hqr
        have HB2 : Hid (Below wr.heap.size wr (wr.alloc (.cells (b.words.map Value.string).toArray 9))) := by show Below _ _ _; exact (by first | ((repeat (first | exact Below.refl _ _ | assumption | refine Below.drewN ?_ _ | refine Below.drew ?_ | refine Below.alloc ?_ (by first | exact Nat.le_refl _ | (simp; done) | (simp; omega) | omega) _ | refine Below.setCell ?_ (by first | exact Nat.le_refl _ | (simp; done) | (simp; omega) | omega) _ | refine Below.trans ?_ (Below.mono (by assumption) (by first | exact Nat.le_refl _ | (simp; done) | (simp; omega) | omega)))); done) | fail)
        have hz2 : wr.heap.size < (wr.alloc (.cells (b.words.map Value.string).toArray 9)).heap.size := by simp
        have HO2 := Lib.hid (HO.out.below HB2.out)
        have HBR2 := Lib.hid (hbr.out.trans (HB2.out.mono hwr))
        have HP2 := Lib.hid (HP.out.mono HBR2.out)
        clear hwi hqr HO
        generalize wr.alloc (.cells (b.words.map Value.string).toArray 9) = w2 at *
        have hz3 : w1.heap.size ≤ w2.heap.size := by omega
        obtain ⟨NW, hNW⟩ : ∃ NW, NW = b.words.length := ⟨_, rfl⟩
        rw [← hNW]
        obtain ⟨NM, hNM⟩ : ∃ NM, NM = b.more.length := ⟨_, rfl⟩
        rw [← hNM] at hmid
        have HNM := Lib.hid hNM
        have hNM9 : NM ≤ 999 := by rw [hNM]; exact hsm
        have FIN : Hid (∀ w', Below w1.heap.size w1 w' → ∀ v', OwnV Value.string w1.heap.size 9 w' v' (done.map TBlk.bytes ++ [b.bytes]) → OwnV Value.string w1.heap.size 9 w' v' ((done ++ [b]).map TBlk.bytes)) := fun w' _ v' h => by
          rw [List.map_append]; exact h
        rcases HLIC.out with ⟨h5, hh, w4, hw4, hn4⟩ | ⟨hh, hm0⟩
        · rw [h5] at hNW
          subst hNW
          have hh0 : b.words[0]? = some (mkS wLicense) := by rw [← hh]; exact List.head?_eq_getElem?.symm
          obtain ⟨b3, o3, he, hb3, y0', -⟩ := str_at HQ.out hh0
          cases he
          obtain ⟨b4, o4, he, hb4, y4', hy4⟩ := str_at HQ.out hw4
          cases he
          have y0 : w2.cell? ⟨wr.heap.size, 0, none⟩ = some (.string (mkS wLicense)) := by simpa using y0'
          have y4 : w2.cell? ⟨wr.heap.size, 4, none⟩ = some (.string w4) := by simpa using y4'
          have hq0 : ((mkS wLicense).toList == [108, 105, 99, 101, 110, 115, 101]) = true := by decide +kernel
          obtain ⟨L0, hL0⟩ : ∃ L0, L0 = mkS wLicense := ⟨_, rfl⟩
          rw [← hL0] at y0 hq0
          have hnum : Hid (numR w4 = (NM : Int)) := by show _ = _; unfold numR; rw [hn4, hNM]; rfl
          clear y0' y4' hL0 hh0 hh hw4 hn4 hNM
          go_wp2_with fail
          refine (Number_ref w4 _ hy4).mono ?_
          rintro e w5 ⟨rfl, rfl⟩
          rw [hnum.out]
          go_wp2
          go_loopw [5, 6, 9] (fun iv sv kv wr => ∃ (k : Nat) (A : ByteArray), kv = .int .i64 k ∧ iv = .int .i64 ((i + k : Nat) : Int) ∧ sv = .string A ∧ k ≤ NM ∧ A.size ≤ 65536 + k * 65536 ∧ Hid (A.data.toList = F.data.toList ++ unl (b.more.take k)) ∧ wr = w2) (fun _ _ kv _ => NM - (intOf kv).toNat)
          case atStart => exact ⟨0, F, rfl, by go_num, rfl, by omega, by omega, by show _ = _; simp [unl], rfl⟩
          case round =>
            obtain ⟨k, A, rfl, rfl, rfl, hk, hA, hU, rfl⟩ := hrel
            obtain ⟨w2, rfl⟩ : ∃ u : World, u = wr := ⟨_, rfl⟩
            by_cases hkn : k < NM
            · obtain ⟨x, hx⟩ := get_lt (xs := b.more) (k := k) (by rw [← HNM.out]; exact hkn)
              obtain ⟨b7, o7, he, hb7, v0', -⟩ := str_at HP2.out (HMORE.out k x hx)
              cases he
              have hv0 : w2.cell? ⟨w.heap.size, i + k + 1, none⟩ = some (.string (nlB x)) := by
                rw [show i + k + 1 = 0 + (i + 1 + k) by omega]; exact v0'
              have hxz : (nlB x).size ≤ 65536 := by
                have := HWM.out x (List.mem_of_getElem? hx)
                unfold nlB; rw [mkS_size, List.length_append, by_len]; simp; omega
              have hkz : k * 65536 ≤ 999 * 65536 := Nat.mul_le_mul_right _ (by omega)
              obtain ⟨S1, Sr1, Se1, Sz1⟩ := str_sum A (nlB x) (by omega)
              have HU2 : Hid (S1.data.toList = F.data.toList ++ unl (b.more.take (k + 1))) := by
                show _ = _
                rw [Se1.out, hU.out, unl_take hx, List.append_assoc]
              have hk1 : (k : Int) < (NM : Int) := by omega
              have hk2 : ((i + k : Nat) : Int) + 1 < (NL : Int) + 1 := by omega
              have hk3 : (0 : Int) ≤ ((i + k : Nat) : Int) + 1 := by omega
              obtain ⟨Y, hY⟩ : ∃ Y, Y = nlB x := ⟨_, rfl⟩
              rw [← hY] at hv0 Sr1 Sz1 hxz
              obtain ⟨I, hI⟩ : ∃ I, I = i + k := ⟨_, rfl⟩
              have HII := Lib.hid hI
              rw [← hI] at hv0 hk2 hk3 ⊢
              clear hx v0' hY Se1 hI
              go_wp2
              go_roundw
              case rel => exact ⟨k + 1, S1, by go_num, by have := HII.out; go_num, rfl, by omega, by omega, HU2, by first | rfl | trivial⟩
              case measure => simp [intOf]; omega
            · have HKN : Hid (k = NM) := by show _ = _; omega
              have HX : Hid (A = b.bytes) := by
                show _ = _
                rw [HBY.out, ← mkS_self A, hU.out, List.take_of_length_le (by have := HKN.out; rw [← HNM.out]; omega)]
              clear hU
              go_wp2_with (at_builtin; refine app_ow rfl _ _ rfl w1.heap.size _ _ rfl HO2.out A ?cx ?c3 ?c4 ?_)
              case cx => (show Value.slice (some ⟨w2.heap.size, 0, none⟩) 1 1 = _; simp)
              case c3 => have := HDL.out; rw [List.length_map]; omega
              case c4 => omega
              intro v' w6 ho hb6 hsz
              have HO6 : Hid (OwnV Value.string w1.heap.size 9 w6 v' ((done ++ [b]).map TBlk.bytes)) := by
                show OwnV _ _ _ _ _ _
                rw [HX.out] at ho
                exact FIN.out w6 (HBR2.out.trans hb6) v' ho
              have HB6 := Lib.hid (HBR2.out.trans hb6)
              clear ho hb6 hsz
              go_wp2
              go_roundw
              case rel => exact ⟨i + 1 + NM, done ++ [b], r, by have := HKN.out; go_num, by omega, Lib.hid HNX.out.1, Lib.hid (Or.inl (by have := HNX.out.2; rw [← HNM.out] at this; exact this)), HB6, HO6⟩
              case measure => have := HKN.out; simp [intOf]; omega
        · have hNM0 : NM = 0 := by rw [hNM, hm0]; rfl
          subst hNM0
          have HX : Hid (F = b.bytes) := by
            show _ = _
            rw [HBY.out, hm0, unl_nil, List.append_nil, mkS_self]
          cases hnw : decide (NW = 5)
          case false =>
            have q5 : ((NW : Int) == 5) = false := by
              have := of_decide_eq_false hnw
              simp; omega
            clear hnw hNW hh hm0 hNM
            go_wp2_with (at_builtin; refine app_ow rfl _ _ rfl w1.heap.size _ _ rfl HO2.out F ?cx ?c3 ?c4 ?_)
            case cx => (show Value.slice (some ⟨w2.heap.size, 0, none⟩) 1 1 = _; simp)
            case c3 => have := HDL.out; rw [List.length_map]; omega
            case c4 => omega
            intro v' w6 ho hb6 hsz
            have HO6 : Hid (OwnV Value.string w1.heap.size 9 w6 v' ((done ++ [b]).map TBlk.bytes)) := by
              show OwnV _ _ _ _ _ _
              rw [HX.out] at ho
              exact FIN.out w6 (HBR2.out.trans hb6) v' ho
            have HB6 := Lib.hid (HBR2.out.trans hb6)
            clear ho hb6 hsz
            go_wp2
            go_roundw
            case rel => exact ⟨i + 1 + 0, done ++ [b], r, by go_num, by omega, Lib.hid HNX.out.1, Lib.hid (Or.inl (by have := HNX.out.2; rw [← HNM.out] at this; exact this)), HB6, HO6⟩
            case measure => simp [intOf]; omega
          case true =>
            have hw5 := of_decide_eq_true hnw
            subst hw5
            obtain ⟨w0, hw0⟩ := get_lt (xs := b.words) (k := 0) (by omega)
            obtain ⟨b3, o3, he, hb3, y0', -⟩ := str_at HQ.out hw0
            cases he
            have y0 : w2.cell? ⟨wr.heap.size, 0, none⟩ = some (.string w0) := by simpa using y0'
            have hq0 : (w0.toList == [108, 105, 99, 101, 110, 115, 101]) = false := by
              cases h : (w0.toList == [108, 105, 99, 101, 110, 115, 101])
              · rfl
              · exfalso
                apply hh
                rw [List.head?_eq_getElem?, hw0]
                congr 1
                refine WideShapes.bytes_inj ?_
                rw [mkS_toList, ← ByteArray.toList_eq]
                exact beq_iff_eq.1 h
            clear hnw hNW hh hm0 hNM hw0 y0'
            go_wp2_with (at_builtin; refine app_ow rfl _ _ rfl w1.heap.size _ _ rfl HO2.out F ?cx ?c3 ?c4 ?_)
            case cx => (show Value.slice (some ⟨w2.heap.size, 0, none⟩) 1 1 = _; simp)
            case c3 => have := HDL.out; rw [List.length_map]; omega
            case c4 => omega
            intro v' w6 ho hb6 hsz
            have HO6 : Hid (OwnV Value.string w1.heap.size 9 w6 v' ((done ++ [b]).map TBlk.bytes)) := by
              show OwnV _ _ _ _ _ _
              rw [HX.out] at ho
              exact FIN.out w6 (HBR2.out.trans hb6) v' ho
            have HB6 := Lib.hid (HBR2.out.trans hb6)
            clear ho hb6 hsz
            go_wp2
            go_roundw
            case rel => exact ⟨i + 1 + 0, done ++ [b], r, by go_num, by omega, Lib.hid HNX.out.1, Lib.hid (Or.inl (by have := HNX.out.2; rw [← HNM.out] at this; exact this)), HB6, HO6⟩
            case measure => simp [intOf]; omega
    · have HF : Hid (done = bs) := by
        show _ = _
        rcases HI.out with h | ⟨h, -⟩
        · have h1 := HNL.out
          have h2 := congrArg (fun l => (linesOf l).length) HD.out
          simp only [linesOf_append, List.length_append] at h2
          omega
        · have := HD.out
          rw [h, List.append_nil] at this
          exact this.symm
      have HB9 := Lib.hid (HB1.out.trans (hbr.out.mono HB1.out.size))
      clear HI
      go_wp2
      go_ret
      unfold BOut
      exact ⟨_, rfl, by rw [← HF.out]; exact HO.out.weaken (by omega), HB9.out⟩
end Go.Proofs.YtaneolfnnkppbaaGreatDoor
namespace Go.Proofs.YtaneolfnnkppbaaGreatDoor
open Go Go.RowKit Go.ChangeShapes
instance : Lay UInt8 where
  n := 1
  agg := false
  is _ get k := get 0 = some (.int .u8 (k.toNat : Int))
  mono _ h := h
  congr hg h := by rw [← hg 0 (by decide)]; exact h
theorem opens_u8 : Opens UInt8 5 := by
  intro H enc w spare held fuel cs x h
  obtain ⟨n, rfl, -, hw⟩ := DataW.trod_int Tryz.underlying5 h
  refine ⟨rfl, UInt8.ofNat n.toNat, ?_⟩
  have h2 : 0 ≤ n ∧ n ≤ 255 := by simpa [Lit.wf, IntKind.min, IntKind.max, IntKind.signed, IntKind.bits] using hw
  show some (Value.int .u8 n) = some (.int .u8 ((UInt8.ofNat n.toNat).toNat : Int))
  congr 2
  simp
  omega
theorem opens_bytes : Opens (List UInt8) 68 := opens_list Tryz.underlying68 (by kernel_rfl) (by decide) opens_u8
theorem u8_at {w : World} {a : Option Addr} {i : Nat} {xs : List UInt8} {x : UInt8} (h : Row w a xs) (hx : xs[i]? = some x) :
    ∃ b off, a = some ⟨b, off, none⟩ ∧ b < w.heap.size ∧ w.cell? ⟨b, off + i, none⟩ = some (.int .u8 (x.toNat : Int)) := by
  obtain ⟨b, off, ha, hb, hi⟩ := h i x hx
  have h1 : w.cell? ⟨b, off + i * 1 + 0, none⟩ = some (.int .u8 (x.toNat : Int)) := hi
  exact ⟨b, off, ha, hb, by simpa using h1⟩
theorem below_setCells {B b : Nat} (hB : B ≤ b) : ∀ (vs : List Value) (o : Nat) (w0 w : World), Below B w0 w → Below B w0 (w.setCells b o vs)
  | [], _, _, _, h => h
  | v :: r, o, w0, w, h => by
    rw [World.setCells]
    exact below_setCells hB r (o + 1) w0 _ (h.setCell hB _)
def SR (g : Nat) (w : World) (xs : List ByteArray) : Prop := ∀ i x, xs[i]? = some x → w.cell? ⟨g, i, none⟩ = some (.string x) ∧ w.frozen? ⟨g, i, none⟩ = false
theorem SR.below {g : Nat} {w w' : World} {xs : List ByteArray} (h : SR g w xs) (hb : Below w.heap.size w w') : SR g w' xs := fun i x hx =>
  ⟨kept hb (h i x hx).1, keptF hb (h i x hx).1 (h i x hx).2⟩
theorem OwnV.sr {B : Nat} {w : World} {v : Value} {xs : List ByteArray} (h : OwnV Value.string B 9 w v xs) : ∃ a c, v = .slice a xs.length c ∧ (xs ≠ [] → ∃ g, a = some ⟨g, 0, none⟩ ∧ B ≤ g ∧ xs.length ≤ c ∧ c ≤ maxLen ∧ SR g w xs) := by
  obtain ⟨h1, h2⟩ := h
  rcases h2 with ⟨rfl, h0⟩ | ⟨g, cap, cur, rfl, hg, hh, hn, hc, hsz, ht⟩
  · exact ⟨none, 0, by rw [h0], fun hne => absurd (List.length_eq_zero_iff.1 h0) hne⟩
  · refine ⟨_, _, rfl, fun _ => ⟨g, rfl, hg, hn, hc, fun i x hx => ⟨?_, objfrozen hh⟩⟩⟩
    have hi := lt_get hx
    refine objcell hh ?_
    have e2 : (cur.toList.take (xs.length * 1))[i]? = (xs.map Value.string)[i]? := by rw [ht]
    rw [List.getElem?_take, if_pos (by omega), List.getElem?_map, hx] at e2
    simpa using e2
theorem Delete_one (g c k : Nat) (xs : List ByteArray) (w : World) (hk : k < xs.length) (hc : xs.length ≤ c) (hm : c ≤ maxLen) (h : SR g w xs) (B : Nat) (hB : B ≤ g) :
    Calls Tryz.prog 37 #[.slice (some ⟨g, 0, none⟩) xs.length c, .int .i64 (k : Int), .int .i64 ((k + 1 : Nat) : Int)] w fun e w' => e = .returned (.slice (some ⟨g, 0, none⟩) (xs.length - 1) c) ∧ SR g w' (xs.eraseIdx k) ∧ Below B w w' := by
  refine (Tryz.slices_Delete_string_cells g 0 xs.length c k (k + 1) (fun i => xs.getD i ByteArray.empty) w hc hm (by omega) hk (fun i hi => ?_) (fun i hi => ?_)).mono ?_
  · have := (h i xs[i] (by simp [hi])).1
    rw [Nat.zero_add, List.getD_eq_getElem?_getD, List.getElem?_eq_getElem hi]
    exact this
  · have := (h i xs[i] (by simp [hi])).2
    rw [Nat.zero_add]; exact this
  rintro e w' ⟨rfl, q, rfl⟩
  have hst : Lib.strsOf (fun i => xs.getD i ByteArray.empty) xs.length = xs.map (·.data.toList) := by
    unfold Lib.strsOf
    refine List.ext_getElem (by simp) fun i h1 h2 => ?_
    have hi : i < xs.length := by simpa using h1
    simp [hi]
  rw [hst, show k + 1 - k = 1 by omega]
  have hb0 : Below w.heap.size w (w.drewN q) := below_drewN w q
  have h' := h.below hb0
  refine ⟨rfl, fun i x hx => ?_, below_setCells hB _ _ _ _ (Below.drewN (Below.refl _ _) q)⟩
  have hi := lt_get hx
  have hl : (xs.eraseIdx k).length = xs.length - 1 := by rw [List.length_eraseIdx, if_pos hk]
  have hi2 : i < xs.length := by omega
  generalize hvs : ((xs.map (fun y : ByteArray => y.data.toList)).take k ++ (xs.map (fun y : ByteArray => y.data.toList)).drop (k + 1) ++ List.replicate 1 []).map Go.Proofs.encStr = vs
  have hvl : vs.length = xs.length := by rw [← hvs]; simp; omega
  have hin := World.cell?_setCells_in g vs 0 (w.drewN q) (fun j hj => by
    have := (h' j (xs[j]'(by omega)) (by simp [show j < xs.length by omega])).1
    rw [Nat.zero_add, this]; rfl) i (by omega)
  rw [Nat.zero_add] at hin
  have hv : vs[i]'(by omega) = .string x := by
    have h1 : vs[i]? = some (.string x) := by
      rw [← hvs, List.eraseIdx_eq_take_drop_succ] at *
      rw [← List.map_take, ← List.map_drop, ← List.map_append, List.getElem?_map, List.getElem?_append_left (by rw [List.length_map]; exact hi), List.getElem?_map, hx]
      simp [Go.Proofs.encStr]
    simpa [List.getElem?_eq_getElem (show i < vs.length by omega)] using h1
  refine ⟨by rw [hin, hv], ?_⟩
  rw [World.frozen?_setCells]
  exact (h' i (xs[i]'hi2) (by simp [hi2])).2
end Go.Proofs.YtaneolfnnkppbaaGreatDoor
