/- Plain laws of texts: the text of a valid catalog is read as it, in any order of its parts. -/
import Derived.Lib.ItoaMem
import Derived.Test.YtaneolfnnkppbaaGreatDoorJCat
import Derived.Test.YtaneolfnnkppbaaGreatDoorJFmtU
import Derived.Test.YtaneolfnnkppbaaGreatDoorJMerge
import Derived.Test.YtaneolfnnkppbaaGreatDoorJReadW
import Derived.Test.YtaneolfnnkppbaaGreatDoorJFewU
set_option linter.all false
namespace Go.Proofs.YtaneolfnnkppbaaGreatDoor
open Go Go.Sort

theorem sorted_one {α : Type} {lt : α → α → Bool} : ∀ {l m : List α}, l.Perm m → m.Pairwise (fun a b => lt a b = true) → l.Pairwise (fun a b => lt b a = false) → l = m
  | l, [], hp, _, _ => hp.eq_nil
  | [], x :: m, hp, _, _ => absurd hp.symm.eq_nil (by simp)
  | y :: l, x :: m, hp, hm, hl => by
    have e : y = x := by
      have hy := (hp.mem_iff (a := y)).1 (by simp)
      rcases List.mem_cons.1 hy with h | h
      · exact h
      · have hx := (hp.mem_iff (a := x)).2 (by simp)
        rcases List.mem_cons.1 hx with h2 | h2
        · exact h2.symm
        · have h3 := (List.pairwise_cons.1 hm).1 y h
          have h4 := (List.pairwise_cons.1 hl).1 x h2
          rw [h3] at h4; cases h4
    subst e
    rw [sorted_one (List.perm_cons y |>.1 hp) (List.pairwise_cons.1 hm).2 (List.pairwise_cons.1 hl).2]
theorem sort_one {α : Type} {lt : α → α → Bool} (hO : SWO lt) {l m : List α} (hp : l.Perm m) (hm : m.Pairwise (fun a b => lt a b = true)) : sortS lt l = m :=
  sorted_one ((sortS_perm lt l).trans hp) hm (sortS_sorted hO l)
theorem exc_sorted {c : Catalog} (h : checkC c = 0) : c.exceptions.Pairwise fun a b => slt a.name b.name = true := by
  have := firstErr_pairwise (lt := fun a b : Exc => slt a.name b.name) (fun a b d h1 h2 => slt_trans (a := a.name) (b := b.name) (c := d.name) h1 h2)
    (fun pre x h => by rw [← after_behind]; exact (excErr_parts h).2.2) c.exceptions [] (by simp) (check_parts h).2.1
  simpa using this
theorem pair_behind {ls : List License} {pre : List Pair} {x : Pair} (h : pairErr ls pre x = 0) : (¬ findFrom x.a ls 0 < 0 ∧ ¬ findFrom x.b ls 0 < 0) ∧ behind pairLt pre x = true := by
  unfold pairErr at h
  repeat' split at h
  all_goals try (cases h; done)
  rename_i h1 h2
  simp only [Bool.or_eq_true, decide_eq_true_eq, not_or, Bool.not_eq_true', Bool.not_eq_false] at h1 h2
  exact ⟨h1, h2.2⟩
theorem pairLt_trans (a b c : Pair) (h : pairLt a b = true) (k : pairLt b c = true) : pairLt a c = true := swo_pairLt.trans _ _ _ h k
theorem pairs_sorted {c : Catalog} (h : checkC c = 0) : c.apart.Pairwise fun a b => pairLt a b = true := by
  have := firstErr_pairwise (lt := pairLt) pairLt_trans (fun pre x h => (pair_behind h).2) c.apart [] (by simp) (check_parts h).2.2.2.1
  simpa using this
def CatPerm (c d : Catalog) : Prop := c.licenses.Perm d.licenses ∧ c.exceptions.Perm d.exceptions ∧ c.clauses.Perm d.clauses ∧ c.apart.Perm d.apart
theorem sort_valid {c d : Catalog} (h : checkC c = 0) (hp : CatPerm d c) : sortC d = c := by
  obtain ⟨h1, h2, h3, h4⟩ := hp
  unfold sortC
  rw [sort_one (swo_pull swo_slt License.name) h1 (lic_sorted (check_parts h).1), sort_one (swo_pull swo_slt Exc.name) h2 (exc_sorted h), sort_one swo_clauseLt h3 (clauses_sorted h), sort_one swo_pairLt h4 (pairs_sorted h)]
theorem lic_parts {pre : List License} {x : License} (h : licErr pre x = 0) : nameB x.name = true ∧ nameB x.family = true ∧ 0 ≤ x.version ∧ x.version ≤ 999 ∧ ((linesB x.text).length : Int) ≤ 999 := by
  unfold licErr at h
  repeat' split at h
  all_goals try (cases h; done)
  rename_i h1 h2 h3 h4 h5 h6
  simp only [Bool.or_eq_true, decide_eq_true_eq, not_or, Int.not_lt, Bool.not_eq_true', Bool.not_eq_false] at h1 h2 h3
  exact ⟨h1.1, h1.2, h2.1, h2.2, h3.2⟩
theorem found_word {c : Catalog} (h : checkC c = 0) {nm : ByteArray} (hf : ¬ findFrom nm c.licenses 0 < 0) : WordOK nm := by
  obtain ⟨x, hx, rfl⟩ := findFrom_mem hf
  obtain ⟨p, hp⟩ := firstErr_all (check_parts h).1 x hx
  exact name_word (lic_parts hp).1
theorem exc_duties {ls : List License} {pre : List Exc} {x : Exc} (h : excErr ls pre x = 0) : x.lifts.all dutyOK = true ∧ incr ilt x.lifts = true := by
  unfold excErr at h
  repeat' split at h
  all_goals try (cases h; done)
  rename_i h1 h2 h3 h4 h5
  exact ⟨by simpa using h3, by simpa using h5⟩
theorem cla_list {ls : List License} {pre : List Clause} {x : Clause} (h : clauseErr ls pre x = 0) : ∀ s ∈ x.list, ¬ findFrom s ls 0 < 0 := by
  unfold clauseErr at h
  repeat' split at h
  all_goals try (cases h; done)
  rename_i h1 h2 h3 h4 h5 h6
  intro s hs
  have h4 : (x.list.all fun s => !decide (findFrom s ls 0 < 0)) = true := by simpa using h4
  have := List.all_eq_true.1 h4 s hs
  simpa using this
theorem blks_ok {c : Catalog} (h : checkC c = 0) : ∀ b ∈ blksOf c, b.OK := by
  intro b hb
  obtain ⟨k1, k2, k3, k4, -⟩ := check_parts h
  simp only [blksOf, List.mem_append, List.mem_map] at hb
  rcases hb with ⟨x, hx, rfl⟩ | ⟨x, hx, rfl⟩ | ⟨x, hx, rfl⟩ | ⟨x, hx, rfl⟩
  · obtain ⟨p, hp⟩ := firstErr_all k1 x hx
    obtain ⟨a, b, d, e, f⟩ := lic_parts hp
    exact ⟨name_word a, name_word b, d, e, f⟩
  · obtain ⟨p, hp⟩ := firstErr_all k2 x hx
    obtain ⟨a, b, -⟩ := excErr_parts hp
    refine ⟨name_word a, found_word h b, fun n hn => ?_⟩
    have := List.all_eq_true.1 (exc_duties hp).1 n hn
    simpa [dutyOK] using this
  · obtain ⟨p, hp⟩ := firstErr_all k3 x hx
    obtain ⟨a, b, d, e, -⟩ := clauseErr_parts hp
    exact ⟨found_word h a, b, d, e, fun s hs => found_word h (cla_list hp s hs)⟩
  · obtain ⟨p, hp⟩ := firstErr_all k4 x hx
    obtain ⟨⟨a, b⟩, -⟩ := pair_behind hp
    exact ⟨found_word h a, found_word h b⟩
def TBlk.lic? : TBlk → Option License | .lic x => some x | _ => none
def TBlk.exc? : TBlk → Option Exc | .exc x => some x | _ => none
def TBlk.cla? : TBlk → Option Clause | .cla x => some x | _ => none
def TBlk.prs? : TBlk → Option Pair | .prs x => some x | _ => none
theorem fold_blks : ∀ (bs : List TBlk) (c : Catalog), bs.foldl TBlk.add c = ⟨c.licenses ++ bs.filterMap TBlk.lic?, c.exceptions ++ bs.filterMap TBlk.exc?, c.clauses ++ bs.filterMap TBlk.cla?, c.apart ++ bs.filterMap TBlk.prs?⟩
  | [], c => by simp
  | b :: bs, c => by
    rw [List.foldl_cons, fold_blks bs]
    cases b <;> simp [TBlk.add, List.filterMap_cons, TBlk.lic?, TBlk.exc?, TBlk.cla?, TBlk.prs?]
def TBlk.isGap : TBlk → Bool | .gap _ => true | _ => false
theorem filterMap_gap {α : Type} (f : TBlk → Option α) (hf : ∀ s, f (.gap s) = none) (bs : List TBlk) : (bs.filter fun b => !b.isGap).filterMap f = bs.filterMap f := by
  induction bs with
  | nil => rfl
  | cons b bs ih =>
    cases b with
    | gap s => rw [List.filter_cons, if_neg (by simp [TBlk.isGap]), List.filterMap_cons, hf, ih]
    | _ => rw [List.filter_cons, if_pos (by simp [TBlk.isGap]), List.filterMap_cons, List.filterMap_cons, ih]
theorem parse_blks {num : Int → List UInt8} (hN : NumOK num) {c : Catalog} (h : checkC c = 0) {bs : List TBlk} (hb : ∀ b ∈ bs, b.OK) (hp : (bs.filter fun b => !b.isGap).Perm (blksOf c))
    (hlen : (unl (bs.flatMap (TBlk.lines num))).length ≤ 65536) : parseC (mkS (unl (bs.flatMap (TBlk.lines num)))) = (0, 0, c) := by
  have hs : sortC (bs.foldl TBlk.add emptyC) = c := by
    refine sort_valid h ?_
    have hc := fold_of c
    rw [fold_blks] at hc ⊢
    have hl := congrArg Catalog.licenses hc
    have he := congrArg Catalog.exceptions hc
    have hk := congrArg Catalog.clauses hc
    have hp4 := congrArg Catalog.apart hc
    simp only [emptyC, List.nil_append] at hl he hk hp4 ⊢
    refine ⟨?_, ?_, ?_, ?_⟩
    · show List.Perm (bs.filterMap TBlk.lic?) c.licenses
      rw [← hl, ← filterMap_gap TBlk.lic? (fun _ => rfl)]; exact hp.filterMap _
    · show List.Perm (bs.filterMap TBlk.exc?) c.exceptions
      rw [← he, ← filterMap_gap TBlk.exc? (fun _ => rfl)]; exact hp.filterMap _
    · show List.Perm (bs.filterMap TBlk.cla?) c.clauses
      rw [← hk, ← filterMap_gap TBlk.cla? (fun _ => rfl)]; exact hp.filterMap _
    · show List.Perm (bs.filterMap TBlk.prs?) c.apart
      rw [← hp4, ← filterMap_gap TBlk.prs? (fun _ => rfl)]; exact hp.filterMap _
  unfold parseC
  rw [if_neg (by rw [mkS_size]; simp; omega), TBlk.text hN bs hb]
  simp only [hs, h]
  rfl
theorem blks_nogap (c : Catalog) : (blksOf c).filter (fun b => !b.isGap) = blksOf c := by
  rw [List.filter_eq_self]
  intro b hb
  simp only [blksOf, List.mem_append, List.mem_map] at hb
  rcases hb with ⟨x, hx, rfl⟩ | ⟨x, hx, rfl⟩ | ⟨x, hx, rfl⟩ | ⟨x, hx, rfl⟩ <;> rfl
theorem parse_format {num : Int → List UInt8} (hN : NumOK num) {c : Catalog} (h : checkC c = 0) (hlen : (formatL num c).length ≤ 65536) : parseC (mkS (formatL num c)) = (0, 0, c) := by
  rw [format_unl] at hlen ⊢
  exact parse_blks hN h (blks_ok h) (by rw [blks_nogap]) hlen
end Go.Proofs.YtaneolfnnkppbaaGreatDoor
namespace Go.Proofs.YtaneolfnnkppbaaGreatDoor
open Go Go.Sort

def wl (ws : List ByteArray) : Nat := (ws.map fun s => s.size + 1).sum
theorem wl_nil : wl [] = 0 := rfl
theorem wl_cons (s : ByteArray) (r : List ByteArray) : wl (s :: r) = s.size + 1 + wl r := by simp [wl]
theorem wl_append (a b : List ByteArray) : wl (a ++ b) = wl a + wl b := by simp [wl]
theorem wl_sub {l m : List ByteArray} (h : l.Sublist m) : wl l ≤ wl m := by
  induction h with
  | slnil => exact Nat.le_refl _
  | cons a _ ih => rw [wl_cons]; omega
  | cons_cons a _ ih => rw [wl_cons, wl_cons]; omega
theorem unl_len (ls : List ByteArray) : (unl ls).length = wl ls := by
  induction ls with
  | nil => rfl
  | cons s r ih => rw [unl_cons, wl_cons, List.length_append, List.length_cons, ih, by_len]; omega
theorem join_len (d : UInt8) : ∀ (ws : List ByteArray), ws ≠ [] → (joinB [d] ws).length + 1 = wl ws
  | [], h => absurd rfl h
  | [a], _ => by simp [joinB, wl]
  | a :: b :: r, _ => by
    have := join_len d (b :: r) (by simp)
    rw [joinB_cons, wl_cons]
    simp only [List.length_append, List.length_cons, List.length_nil, by_len]
    omega
theorem split_wl (d : UInt8) : ∀ (l cur : List UInt8), wl (splitAt d cur l) = cur.length + l.length + 1
  | [], cur => by simp [splitAt, wl, mkS_size]
  | c :: r, cur => by
    unfold splitAt
    split
    · rw [wl_cons, split_wl d r [], mkS_size]; simp; omega
    · rw [split_wl d r (cur ++ [c])]; simp; omega
theorem words_wl (s : ByteArray) : wl (wordsB s) ≤ s.size + 1 := by
  have h := split_wl 32 s.data.toList []
  rw [by_len] at h
  have := wl_sub (List.filter_sublist (p := fun a => !isW a []) (l := splitAt 32 [] s.data.toList))
  unfold wordsB
  simp at h; omega
theorem line_len (ws : List ByteArray) (h : ws ≠ []) : (lineB ws).size + 1 = wl ws := by
  unfold lineB; rw [mkS_size]; exact join_len 32 ws h
theorem lines_wl (s : ByteArray) : wl (linesB s) ≤ s.size + 1 ∧ (s.size = 0 → wl (linesB s) = 0) := by
  unfold linesB linesL
  split
  · exact ⟨by simp [wl], fun _ => rfl⟩
  · rename_i h
    have := split_wl 10 s.data.toList []
    rw [by_len] at this
    refine ⟨by simp at this; omega, fun h0 => ?_⟩
    exfalso; apply h
    have : s.data.toList.length = 0 := by rw [by_len]; exact h0
    exact List.length_eq_zero_iff.1 this
theorem lines_join_wl (ls : List ByteArray) : wl (linesB (mkS (joinB [10] ls))) ≤ wl ls := by
  cases ls with
  | nil => decide +kernel
  | cons a r =>
    have h1 := join_len 10 (a :: r) (by simp)
    have h2 := (lines_wl (mkS (joinB [10] (a :: r)))).1
    rw [mkS_size] at h2
    omega
theorem count_clean {l : List UInt8} (h : (10 : UInt8) ∉ l) : l.count 10 = 0 := List.count_eq_zero.2 h
theorem join_count : ∀ (ls : List ByteArray), (∀ s ∈ ls, (10 : UInt8) ∉ s.data.toList) → (joinB [10] ls).count 10 + 1 ≤ max 1 ls.length
  | [], _ => by simp [joinB]
  | [a], h => by simp [joinB, count_clean (h a (by simp))]
  | a :: b :: r, h => by
    have ih := join_count (b :: r) fun s hs => h s (by simp [List.mem_cons.1 hs])
    have h1 := count_clean (h a (by simp))
    rw [joinB_cons, List.count_append, List.count_append, h1]
    simp only [List.length_cons, List.count_cons, List.count_nil] at *
    simp at *
    omega
theorem lines_join_count (ls : List ByteArray) (h : ∀ s ∈ ls, (10 : UInt8) ∉ s.data.toList) : (linesB (mkS (joinB [10] ls))).length ≤ ls.length := by
  unfold linesB linesL
  split
  · exact Nat.zero_le _
  · rename_i hne
    rw [splitAt_len, mkS_toList]
    have h2 := join_count ls h
    cases ls with
    | nil => rw [mkS_toList] at hne; exact absurd rfl hne
    | cons a r => simp only [List.length_cons] at *; omega

theorem numV_lt : ∀ (l : List UInt8) (a : Nat), l.all digC = true → ∃ n : Nat, l.foldl (fun n c => 10 * n + ((c.toNat : Int) - 48)) (a : Int) = (n : Int) ∧ n < (a + 1) * 10 ^ l.length
  | [], a, _ => ⟨a, rfl, by simp⟩
  | c :: r, a, h => by
    simp only [List.all_cons, Bool.and_eq_true] at h
    have hc := h.1
    simp only [digC, Bool.and_eq_true, decide_eq_true_eq] at hc
    obtain ⟨n, h1, h2⟩ := numV_lt r (10 * a + (c.toNat - 48)) h.2
    refine ⟨n, ?_, ?_⟩
    · rw [List.foldl_cons, ← h1]
      congr 1
      omega
    · rw [List.length_cons, Nat.pow_succ]
      refine Nat.lt_of_lt_of_le h2 ?_
      rw [show (a + 1) * (10 ^ r.length * 10) = ((a + 1) * 10) * 10 ^ r.length by ac_rfl]
      exact Nat.mul_le_mul_right _ (by omega)
theorem num_size {w : ByteArray} {v : Int} (h : numC w = some v) : 0 ≤ v ∧ v ≤ 999 ∧ (d3 v.toNat).length ≤ w.size := by
  unfold numC at h
  simp only at h
  split at h
  · cases h
  · rename_i hc
    simp only [Bool.or_eq_true, decide_eq_true_eq, not_or, Bool.not_eq_true', Bool.not_eq_false, Nat.not_lt] at hc
    obtain ⟨⟨⟨h1, h2⟩, h3⟩, h4⟩ := hc
    obtain ⟨n, h5, h6⟩ := numV_lt w.data.toList 0 h4
    have hv : v = (n : Int) := by
      rw [← h5]; unfold numV at h; exact (Option.some.inj h).symm
    subst hv
    have hl : 1 ≤ w.data.toList.length := List.length_pos_iff.2 h1
    rw [by_len] at *
    have hcs : w.size = 1 ∨ w.size = 2 ∨ w.size = 3 := by omega
    unfold d3
    rcases hcs with e | e | e <;> rw [e] at h6 ⊢ <;> simp at h6 <;> refine ⟨by omega, by omega, ?_⟩ <;> simp only [Int.toNat_natCast] <;> (repeat' split) <;> first | (simp; done) | (simp; omega) | omega
theorem d3_mono {m n : Nat} (h : m ≤ n) : (d3 m).length ≤ (d3 n).length := by
  unfold d3
  (repeat' split) <;> first | (simp; done) | (simp; omega) | omega
theorem ix_word {ws : List (List UInt8)} {s : ByteArray} {k : Nat} (h : wordIx ws s = (k : Int)) : s.data.toList = ws.getD k [] := by
  unfold wordIx at h
  cases hf : ws.findIdx? (isW s) with
  | none => rw [hf] at h; exact absurd h (by show ¬ (-1 : Int) = (k : Int); omega)
  | some j =>
    rw [hf] at h
    have h : (j : Int) = (k : Int) := h
    obtain rfl : j = k := by omega
    obtain ⟨hj, h2, -⟩ := List.findIdx?_eq_some_iff_getElem.1 hf
    rw [List.getD_eq_getElem?_getD, List.getElem?_eq_getElem hj]
    simpa [isW] using h2
theorem ix_back {ws : List (List UInt8)} {s : ByteArray} (h : ¬ wordIx ws s < 0) : mkS (ws.getD (wordIx ws s).toNat []) = s := by
  rw [← ix_word (ws := ws) (s := s) (k := (wordIx ws s).toNat) (by omega), mkS_self]

def fl (num : Int → List UInt8) (c : Catalog) : Nat := ((blksOf c).map fun b => wl (b.lines num)).sum
theorem fl_format (num : Int → List UInt8) (c : Catalog) : (formatL num c).length = fl num c := by
  rw [format_unl, unl_len]
  unfold fl
  generalize blksOf c = bs
  induction bs with
  | nil => rfl
  | cons b r ih => rw [List.flatMap_cons, wl_append, ih]; simp
theorem fl_parts (num : Int → List UInt8) (c : Catalog) : fl num c = (c.licenses.map fun x => wl ((TBlk.lic x).lines num)).sum + ((c.exceptions.map fun x => wl ((TBlk.exc x).lines num)).sum + ((c.clauses.map fun x => wl ((TBlk.cla x).lines num)).sum + (c.apart.map fun x => wl ((TBlk.prs x).lines num)).sum)) := by
  unfold fl blksOf
  simp [Function.comp_def]
theorem fl_perm (num : Int → List UInt8) {c d : Catalog} (h : CatPerm c d) : fl num c = fl num d := by
  obtain ⟨h1, h2, h3, h4⟩ := h
  rw [fl_parts, fl_parts, (h1.map _).sum_nat, (h2.map _).sum_nat, (h3.map _).sum_nat, (h4.map _).sum_nat]
theorem duty_wl : ∀ {r : List ByteArray} {l : List Int}, dutyIxs r = some l → wl (l.map dutyB) = wl r
  | [], l, h => by cases h; rfl
  | s :: r, l, h => by
    unfold dutyIxs at h
    split at h
    · cases h
    · rename_i hs
      split at h
      · cases h
      · rename_i l' hl
        cases h
        rw [List.map_cons, wl_cons, wl_cons, duty_wl hl]
        unfold dutyB
        rw [ix_back hs]
theorem isW_size {h : ByteArray} {w : List UInt8} (e : isW h w = true) : h.size = w.length := by
  simp only [isW, decide_eq_true_eq] at e
  rw [← by_len, e]
theorem read_fl {num : Int → List UInt8} (hN : NumOK num) {c c' : Catalog} {s : ByteArray} {rest : List ByteArray} {n : Nat} (hr : ∀ x ∈ rest, (10 : UInt8) ∉ x.data.toList) (h : readLine c s rest = .ok c' n) :
    fl num c' ≤ fl num c + (s.size + 1) + wl (rest.take n) := by
  have hw := words_wl s
  unfold readLine at h
  split at h
  · cases h; omega
  · rename_i w ws he
    rw [he, wl_cons] at hw
    split at h
    · cases h; omega
    · split at h
      · rename_i hW
        have hW := isW_size hW
        unfold readLic at h
        split at h
        · rename_i a b v k
          split at h
          · rename_i v' k' hv hk
            split at h
            · cases h
            · cases h
              obtain ⟨hv0, hv1, hv2⟩ := num_size hv
              obtain ⟨hk0, hk1, hk2⟩ := num_size hk
              have ht : ∀ x ∈ rest.take k'.toNat, (10 : UInt8) ∉ x.data.toList := fun x hx => hr x (List.mem_of_mem_take hx)
              have hc := lines_join_count (rest.take k'.toNat) ht
              have hcl : (rest.take k'.toNat).length ≤ k'.toNat := List.length_take_le _ _
              have hl := lines_join_wl (rest.take k'.toNat)
              generalize mkS (joinB [10] (rest.take k'.toNat)) = T at *
              have hm : (d3 (linesB T).length).length ≤ (d3 k'.toNat).length := d3_mono (by omega)
              have hb : wl ((TBlk.lic ⟨a, b, v', T⟩).lines num) ≤ (s.size + 1) + wl (rest.take k'.toNat) := by
                unfold TBlk.lines
                rw [wl_cons, line_len _ (by simp [licWords])]
                simp only [licWords, wl_cons, wl_nil, mkS_size]
                rw [hN v' hv0 hv1, hN ((linesB T).length : Int) (by omega) (by omega), Int.toNat_natCast]
                simp only [wl_cons, wl_nil] at hw
                have : wLicense.length = w.size := hW.symm
                omega
              rw [fl_parts, fl_parts]
              simp only [List.map_append, List.map_cons, List.map_nil, List.sum_append, List.sum_cons, List.sum_nil]
              omega
          · cases h
        · cases h
      · split at h
        · rename_i hW
          have hW := isW_size hW
          unfold readExc at h
          split at h
          · rename_i a b r
            split at h
            · cases h
            · rename_i l hl
              cases h
              have hb : wl ((TBlk.exc ⟨a, b, l⟩).lines num) ≤ s.size + 1 := by
                unfold TBlk.lines
                rw [wl_cons, line_len _ (by simp [excWords])]
                simp only [excWords, wl_append, wl_cons, wl_nil, mkS_size, duty_wl hl]
                simp only [wl_cons, wl_nil] at hw
                have : wException.length = w.size := hW.symm
                omega
              rw [fl_parts, fl_parts]
              simp only [List.map_append, List.map_cons, List.map_nil, List.sum_append, List.sum_cons, List.sum_nil]
              omega
          · cases h
        · split at h
          · rename_i hW
            have hW := isW_size hW
            unfold readClause at h
            split at h
            · rename_i a y r d l
              split at h
              · cases h
              · rename_i hix
                cases h
                simp only [Bool.or_eq_true, decide_eq_true_eq, not_or] at hix
                have hb : wl ((TBlk.cla ⟨a, wordIx wayW y, wordIx relW r, wordIx dutyW d, l⟩).lines num) ≤ s.size + 1 := by
                  unfold TBlk.lines
                  rw [wl_cons, line_len _ (by simp [claWords])]
                  simp only [claWords, wl_append, wl_cons, wl_nil, mkS_size, wayB, relB, dutyB]
                  have e1 := congrArg ByteArray.size (ix_back hix.1.1)
                  have e2 := congrArg ByteArray.size (ix_back hix.1.2)
                  have e3 := congrArg ByteArray.size (ix_back hix.2)
                  rw [mkS_size] at e1 e2 e3
                  rw [e1, e2, e3]
                  simp only [wl_cons, wl_nil] at hw
                  have : wClause.length = w.size := hW.symm
                  omega
                rw [fl_parts, fl_parts]
                simp only [List.map_append, List.map_cons, List.map_nil, List.sum_append, List.sum_cons, List.sum_nil]
                omega
            · cases h
          · split at h
            · rename_i hW
              have hW := isW_size hW
              unfold readApart at h
              split at h
              · rename_i a b
                cases h
                have hb : wl ((TBlk.prs ⟨a, b⟩).lines num) ≤ s.size + 1 := by
                  unfold TBlk.lines
                  rw [wl_cons, line_len _ (by simp [prsWords])]
                  simp only [prsWords, wl_cons, wl_nil, mkS_size]
                  simp only [wl_cons, wl_nil] at hw
                  have : wApart.length = w.size := hW.symm
                  omega
                rw [fl_parts, fl_parts]
                simp only [List.map_append, List.map_cons, List.map_nil, List.sum_append, List.sum_cons, List.sum_nil]
                omega
              · cases h
            · cases h
theorem reads_fl {num : Int → List UInt8} (hN : NumOK num) : ∀ (ls : List ByteArray) (k : Nat) (a a' : Int) (c c' : Catalog), (∀ x ∈ ls, (10 : UInt8) ∉ x.data.toList) → readLines a k c ls = (a', 0, c') → fl num c' ≤ fl num c + wl (ls.drop k)
  | [], k, a, a', c, c', _, h => by
    have h : ((0, 0, c) : Int × Int × Catalog) = (a', 0, c') := by cases k <;> exact h
    cases h
    exact Nat.le_add_right _ _
  | s :: r, k + 1, a, a', c, c', hc, h => by
    rw [List.drop_succ_cons]
    exact reads_fl hN r k (a + 1) a' c c' (fun x hx => hc x (by simp [hx])) h
  | s :: r, 0, a, a', c, c', hc, h => by
    rw [readLines_cons] at h
    rw [List.drop_zero, wl_cons]
    cases hl : readLine c s r with
    | err e =>
      rw [hl] at h
      simp only [Prod.mk.injEq] at h
      exact absurd h.2.1 (readLine_ne hl)
    | ok c2 n =>
      rw [hl] at h
      have h1 := read_fl hN (fun x hx => hc x (by simp [hx])) hl
      have h2 := reads_fl hN r n (a + 1) a' c2 c' (fun x hx => hc x (by simp [hx])) h
      have h3 : wl r = wl (r.take n) + wl (r.drop n) := by rw [← wl_append, List.take_append_drop]
      omega
theorem text_wl (s : ByteArray) : wl (textLines s) ≤ s.size + 1 ∧ ∀ x ∈ textLines s, (10 : UInt8) ∉ x.data.toList := by
  have h := split_wl 10 s.data.toList []
  have hc := split_clean 10 s.data.toList [] (by simp)
  rw [by_len] at h
  simp only [List.length_nil, Nat.zero_add] at h
  unfold textLines
  simp only
  split
  · exact ⟨by simp [wl], fun x hx => by simp at hx⟩
  · split
    · have := wl_sub (List.dropLast_sublist (splitAt 10 [] s.data.toList))
      exact ⟨by omega, fun x hx => hc x ((List.dropLast_sublist _).subset hx)⟩
    · exact ⟨by omega, hc⟩
theorem sort_perm (c : Catalog) : CatPerm (sortC c) c := ⟨sortS_perm _ _, sortS_perm _ _, sortS_perm _ _, sortS_perm _ _⟩
theorem parse_fl {num : Int → List UInt8} (hN : NumOK num) {s : ByteArray} (h : (parseC s).2.1 = 0) : checkC (parseC s).2.2 = 0 ∧ (formatL num (parseC s).2.2).length ≤ s.size + 1 := by
  unfold parseC at h ⊢
  split at h
  · cases h
  · rename_i hs
    rw [if_neg hs]
    rcases hr : readLines 0 0 emptyC (textLines s) with ⟨a, e, c⟩
    rw [hr] at h
    simp only at h ⊢
    split at h
    · rename_i he
      simp only at h; rw [h] at he; cases he
    · rename_i he
      rw [if_neg he]
      split at h
      · rename_i hk; simp only at h; rw [h] at hk; cases hk
      · rename_i hk
        rw [if_neg hk]
        have he : e = 0 := by simpa using he
        subst he
        refine ⟨by simpa using hk, ?_⟩
        show (formatL num (sortC c)).length ≤ _
        rw [fl_format, fl_perm num (sort_perm c)]
        obtain ⟨h1, h2⟩ := text_wl s
        have := reads_fl hN _ _ _ _ _ _ h2 hr
        have h0 : fl num emptyC = 0 := rfl
        rw [List.drop_zero] at this
        omega
theorem parse_err {s : ByteArray} (h : (parseC s).2.1 ≠ 0) : (parseC s).2.2 = emptyC := by
  unfold parseC at h ⊢
  split
  · rfl
  · rename_i hs
    rw [if_neg hs] at h
    rcases hr : readLines 0 0 emptyC (textLines s) with ⟨a, e, c⟩
    rw [hr] at h
    simp only at h ⊢
    split
    · rfl
    · rename_i he
      rw [if_neg he] at h
      split
      · rfl
      · rename_i hk
        rw [if_neg hk] at h
        exact absurd rfl h
theorem sum_le {α : Type} (f g : α → Nat) (k m : Nat) : ∀ (xs : List α), (∀ x ∈ xs, f x ≤ k + m * g x) → (xs.map f).sum ≤ k * xs.length + m * (xs.map g).sum
  | [], _ => by simp
  | x :: r, h => by
    have h1 := h x (by simp)
    have h2 := sum_le f g k m r fun y hy => h y (by simp [hy])
    simp only [List.map_cons, List.sum_cons, List.length_cons, Nat.mul_add, Nat.mul_one]
    omega
theorem wl_sizes (l : List ByteArray) : wl l = (l.map ByteArray.size).sum + l.length := by
  induction l with
  | nil => rfl
  | cons a r ih => rw [wl_cons, ih]; simp; omega
theorem duties_wl : ∀ (l : List Int), (∀ n ∈ l, 0 ≤ n ∧ n ≤ 5) → wl (l.map dutyB) ≤ 8 * l.length
  | [], _ => by simp [wl]
  | n :: l, h => by
    have h1 := (dutyR_at (h n (by simp)).1 (h n (by simp)).2).2.2
    have h2 := duties_wl l fun m hm => h m (by simp [hm])
    rw [List.map_cons, wl_cons, List.length_cons]
    omega
theorem few_fl {num : Int → List UInt8} (hN : NumOK num) {c : Catalog} (h : checkC c = 0) (hf : fewS c ≤ 6000) : (formatL num c).length ≤ 65536 := by
  obtain ⟨k1, k2, k3, k4, n1, n2, n3, n4⟩ := check_parts h
  have hok := blks_ok h
  rw [fl_format, fl_parts]
  have e1 := sum_le (fun x => wl ((TBlk.lic x).lines num)) (fun x => x.name.size + x.family.size + x.text.size) 19 1 c.licenses fun x hx => by
    obtain ⟨h1, h2, h3, h4, h5⟩ := hok (.lic x) (by simp [blksOf, hx])
    have a1 := (num_at hN h3 h4).2.2
    have a2 := (num_at hN (v := ((linesB x.text).length : Int)) (by omega) h5).2.2
    have a3 := (lines_wl x.text).1
    show wl ((TBlk.lic x).lines num) ≤ _
    unfold TBlk.lines
    rw [wl_cons, line_len _ (by simp [licWords])]
    simp only [licWords, wl_cons, wl_nil, mkS_size]
    have : wLicense.length = 7 := rfl
    omega
  have e2 := sum_le (fun x => wl ((TBlk.exc x).lines num)) (fun x => x.name.size + x.license.size + x.lifts.length) 12 8 c.exceptions fun x hx => by
    obtain ⟨h1, h2, h3⟩ := hok (.exc x) (by simp [blksOf, hx])
    have a1 := duties_wl x.lifts h3
    show wl ((TBlk.exc x).lines num) ≤ _
    unfold TBlk.lines
    rw [wl_cons, line_len _ (by simp [excWords])]
    simp only [excWords, wl_append, wl_cons, wl_nil, mkS_size]
    have : wException.length = 9 := rfl
    omega
  have e3 := sum_le (fun x => wl ((TBlk.cla x).lines num)) fewK 29 1 c.clauses fun x hx => by
    obtain ⟨h1, h2, h3, h4, h5⟩ := hok (.cla x) (by simp [blksOf, hx])
    have a1 := (wayR_at h2.1 h2.2).2.2
    have a2 := (relR_at h3.1 h3.2).2.2
    have a3 := (dutyR_at h4.1 h4.2).2.2
    show wl ((TBlk.cla x).lines num) ≤ _
    unfold TBlk.lines fewK
    rw [wl_cons, line_len _ (by simp [claWords])]
    simp only [claWords, wl_append, wl_cons, wl_nil, mkS_size, wl_sizes x.list]
    have : wClause.length = 6 := rfl
    omega
  have e4 := sum_le (fun x => wl ((TBlk.prs x).lines num)) (fun x => x.a.size + x.b.size) 8 1 c.apart fun x hx => by
    show wl ((TBlk.prs x).lines num) ≤ _
    unfold TBlk.lines
    rw [wl_cons, line_len _ (by simp [prsWords])]
    simp only [prsWords, wl_cons, wl_nil, mkS_size]
    have : wApart.length = 5 := rfl
    omega
  unfold fewS fewL fewE fewC fewP at hf
  omega
end Go.Proofs.YtaneolfnnkppbaaGreatDoor
namespace Go.Proofs.YtaneolfnnkppbaaGreatDoor
open Go Go.RowKit Go.ChangeShapes
theorem num_itoa : NumOK Lib.itoa := by
  intro v h0 h1
  obtain ⟨n, rfl⟩ : ∃ n : Nat, v = n := ⟨v.toNat, by omega⟩
  rw [Lib.itoa_nonneg, Int.toNat_natCast]
  unfold d3
  by_cases h : n < 10
  · rw [Lib.decDigits, dif_pos h, if_pos h]
  · rw [Lib.decDigits, dif_neg h, if_neg h]
    by_cases h2 : n < 100
    · rw [Lib.decDigits, dif_pos (by omega), if_pos h2]; rfl
    · rw [Lib.decDigits, dif_neg (by omega), if_neg h2, Lib.decDigits, dif_pos (by omega), Nat.div_div_eq_div_mul]; rfl
theorem nameB_size {s : ByteArray} (h : nameB s = true) : s.size ≤ 32 := by
  rw [← by_len]
  unfold nameB nameL at h
  split at h
  · cases h
  · rename_i c r he
    simp only [Bool.and_eq_true, decide_eq_true_eq] at h
    have := h.1.1.1.1.1
    have e := congrArg List.length he
    simp at e
    first | omega | (simp; omega)
theorem found_size {c : Catalog} (h : checkC c = 0) {nm : ByteArray} (hf : ¬ findFrom nm c.licenses 0 < 0) : nm.size ≤ 32 := by
  obtain ⟨x, hx, rfl⟩ := findFrom_mem hf
  obtain ⟨p, hp⟩ := firstErr_all (check_parts h).1 x hx
  exact nameB_size (lic_parts hp).1
theorem incr_le5 : ∀ (l : List Int) (a : Int), a ≤ 5 → incr ilt (a :: l) = true → (∀ n ∈ a :: l, 0 ≤ n ∧ n ≤ 5) → (l.length : Int) ≤ 5 - a
  | [], a, h, _, _ => by simp; omega
  | b :: r, a, h, hi, hm => by
    simp only [incr, Bool.and_eq_true, ilt, decide_eq_true_eq] at hi
    have hb := hm b (by simp)
    have := incr_le5 r b hb.2 hi.2 fun n hn => hm n (by simp [List.mem_cons.1 hn])
    simp only [List.length_cons]
    omega
theorem small_valid {c : Catalog} (h : checkC c = 0) : SmallC c := by
  obtain ⟨k1, k2, k3, k4, -⟩ := check_parts h
  refine ⟨fun x hx => ?_, fun x hx => ?_, fun x hx => ?_, fun x hx => ?_⟩
  · obtain ⟨p, hp⟩ := firstErr_all k1 x hx
    have hn := lic_parts hp
    have h1 := nameB_size hn.1
    have h2 := nameB_size hn.2.1
    have h3 : x.text.size ≤ 4096 := by
      unfold licErr at hp
      repeat' split at hp
      all_goals try (cases hp; done)
      rename_i _ _ h3 _ _ _
      simp only [Bool.or_eq_true, decide_eq_true_eq, not_or, Int.not_lt] at h3
      omega
    exact ⟨by omega, by omega, h3⟩
  · obtain ⟨p, hp⟩ := firstErr_all k2 x hx
    obtain ⟨a, b, -⟩ := excErr_parts hp
    have h1 := nameB_size a
    have h2 := found_size h b
    obtain ⟨d1, d2⟩ := exc_duties hp
    refine ⟨by omega, by omega, ?_⟩
    cases hl : x.lifts with
    | nil => simp
    | cons n r =>
      rw [hl] at d1 d2
      have hm : ∀ m ∈ n :: r, 0 ≤ m ∧ m ≤ 5 := fun m hm => by
        have := List.all_eq_true.1 d1 m hm
        simpa [dutyOK] using this
      have := incr_le5 r n (hm n (by simp)).2 d2 hm
      have := (hm n (by simp)).1
      simp only [List.length_cons]
      omega
  · obtain ⟨p, hp⟩ := firstErr_all k3 x hx
    obtain ⟨a, -⟩ := clauseErr_parts hp
    have h1 := found_size h a
    have h2 := lists_32 h x hx
    exact ⟨by omega, by omega, fun s hs => by have := found_size h (cla_list hp s hs); omega⟩
  · obtain ⟨p, hp⟩ := firstErr_all k4 x hx
    obtain ⟨⟨a, b⟩, -⟩ := pair_behind hp
    have h1 := found_size h a
    have h2 := found_size h b
    exact ⟨by omega, by omega⟩
def FewB (c : Catalog) (w : World) (e : Ending) (w' : World) : Prop := ∃ b, e = .returned (.bool b) ∧ Below w.heap.size w w' ∧ (b = true → checkC c = 0 → (formatL Lib.itoa c).length ≤ 65536)
theorem Few_any (w : World) (x0 : Value) (c : Catalog) (h : Is w x0 c) : Calls Tryz.prog 15 #[x0] w fun e w' => FewB c w e w' := by
  by_cases hv : checkC c = 0
  · refine (Few_valid w x0 c h (small_valid hv)).mono ?_
    rintro e w' ⟨b, he, hb, hf⟩
    exact ⟨b, he, hb, fun h1 _ => few_fl num_itoa hv (hf h1)⟩
  · refine (Few_ref w x0 c h).mono ?_
    rintro e w' ⟨b, he, hb⟩
    exact ⟨b, he, hb, fun _ h2 => absurd h2 hv⟩
theorem Parse_any (w : World) (s : ByteArray) (hg : Glob w) : Calls Tryz.prog 12 #[.string s] w fun e w' => POut s w e w' := by
  by_cases hs : 65536 < s.size
  · exact Parse_big w s hs
  · exact Parse_p w s hg hs
end Go.Proofs.YtaneolfnnkppbaaGreatDoor
