/- The reader of expressions: its state and its tokens. -/
import Derived.Deep.QuietTactic
import Derived.BigQuiet
import Derived.Test.YtaaobpicaaeiiaaGreatDoorJShelf
import Derived.Test.YtaaobpicaaeiiaaGreatDoorJProV
import Derived.Test.YtaaobpicaaeiiaaGreatDoorJLexU
import Derived.Test.YtaaobpicaaeiiaaGreatDoorJOwnU
set_option linter.all false
namespace Go.Proofs.YtaaobpicaaeiiaaGreatDoor
open Go Go.RowKit Go.ChangeShapes Go.Lib

def Rd (g : Nat) (W : World) (s : ByteArray) (a op : Nat) : Prop := W.heap[g]? = some (.cells #[.string s, .int .i64 a, .int .i64 op, .int .i64 0, .int .i64 0] 136 (0, 0))
def Kx (g : Nat) (W W' : World) : Prop := Below g W W' ∧ Kv (fun k => k = g) W W'
section
variable {g : Nat} {W W' W'' : World} {s : ByteArray} {a op : Nat}
theorem Rd.lt (h : Rd g W s a op) : g < W.heap.size := heap_lt h
theorem Rd.cell (h : Rd g W s a op) {j : Nat} {v : Value} (hv : (#[Value.string s, .int .i64 a, .int .i64 op, .int .i64 0, .int .i64 0] : Array Value)[j]? = some v) : W.cell? ⟨g, j, none⟩ = some v := objcell2 h hv
theorem Rd.frozen (h : Rd g W s a op) (j : Nat) : W.frozen? ⟨g, j, none⟩ = false := objfrozen h
theorem Rd.setAt (h : Rd g W s a op) (b : Nat) : Rd g (W.setCell ⟨g, 1, none⟩ (.int .i64 b)) s b op := setCell_obj W g 1 (.int .i64 b) h
theorem Rd.setOp (h : Rd g W s a op) (b : Nat) : Rd g (W.setCell ⟨g, 2, none⟩ (.int .i64 b)) s a b := setCell_obj W g 2 (.int .i64 b) h
theorem Rd.below (h : Rd g W s a op) (hb : Below W.heap.size W W') : Rd g W' s a op := by unfold Rd; rw [hb.block g h.lt]; exact h
theorem Rd.drewN (h : Rd g W s a op) (n : Nat) : Rd g (W.drewN n) s a op := by unfold Rd at *; simpa using h
theorem Kx.refl (g : Nat) (W : World) : Kx g W W := ⟨Below.refl _ _, Kv.refl _ _⟩
theorem Kx.trans (h : Kx g W W') (k : Kx g W' W'') : Kx g W W'' := ⟨h.1.trans k.1, h.2.trans k.2⟩
theorem Kx.below (hg : g ≤ W.heap.size) (hb : Below W.heap.size W W') : Kx g W W' := ⟨hb.mono hg, Kv.of_below hb⟩
theorem Kx.setCell (g : Nat) (W : World) (j : Nat) (v : Value) : Kx g W (W.setCell ⟨g, j, none⟩ v) := ⟨(Below.refl g W).setCell (p := ⟨g, j, none⟩) (Nat.le_refl g) v, Kv.setCell W v rfl⟩
end
def nmL (l : List UInt8) : List UInt8 := l.takeWhile fun c => nameCs.contains c
def tokL (l : List UInt8) : List UInt8 := if (nmL l).isEmpty then l.take 1 else nmL l
def okL (l : List UInt8) : Bool := l.isEmpty || !(nmL l).isEmpty || (Lib.indexByte [43, 40, 41] (l.headD 0) != -1)
theorem TrimLeft_name (s : ByteArray) (w : World) : Calls Tryz.prog 166 #[.string s, .string ⟨#[97, 98, 99, 100, 101, 102, 103, 104, 105, 106, 107, 108, 109, 110, 111, 112, 113, 114, 115, 116, 117, 118, 119, 120, 121, 122, 48, 49, 50, 51, 52, 53, 54, 55, 56, 57, 45, 46]⟩] w fun e w' => e = .returned (.string (mkS (Lib.trimLeftS s.data.toList nameCs))) ∧ Below w.heap.size w w' :=
 Any.strings_TrimLeft_laid Tryz.lays161 (by kernel_rfl) s _ w (by decide) (ascii_of_all (by decide))
theorem nmL_trim (l : List UInt8) : (nmL l).length + (Lib.trimLeftS l nameCs).length = l.length := by
 unfold nmL Lib.trimLeftS
 rw [← List.length_append, List.takeWhile_append_dropWhile]
theorem indexByte_range : ∀ (l : List UInt8) (c : UInt8), -1 ≤ Lib.indexByte l c
 | [], _ => by simp [Lib.indexByte]
 | b :: l, c => by
  have := indexByte_range l c
  unfold Lib.indexByte
  split
  ·omega
  ·split <;> omega
theorem nmL_take (l : List UInt8) : l.take (nmL l).length = nmL l := by
 unfold nmL
 exact (List.prefix_iff_eq_take.1 (List.takeWhile_prefix _)).symm
set_option maxRecDepth 100000 in
set_option maxHeartbeats 1000000 in
theorem take_p (g : Nat) (W : World) (s t : ByteArray) (a op : Nat) (h : Rd g W s a op) (hs : a + t.size ≤ 2000000) :
  Calls Tryz.prog 163 #[.pointer (some ⟨g, 0, none⟩), .string t] W fun e W' => e = .returned (.tuple #[]) ∧ Rd g W' s (a + t.size) op ∧ Kx g W W' := by
 have HH := Lib.hid h
 have c1 : W.cell? ⟨g, 1, none⟩ = some (.int .i64 a) := h.cell (j := 1) rfl
 have f1 := h.frozen 1
 have hg := h.lt
 clear h
 go_enter Tryz.func163, Tryz.ntmps163
 go_wp2
 go_end0
 exact ⟨rfl, by have := HH.out.setAt (a + t.size); simpa using this, Kx.setCell _ _ _ _⟩
set_option maxRecDepth 100000 in
set_option maxHeartbeats 1000000 in
theorem peek_p (g : Nat) (W : World) (s : ByteArray) (a op : Nat) (l : List UInt8) (h : Rd g W s a op) (ha : a ≤ s.size) (hs : s.size ≤ 1000000) (hl : (s.data.toList.drop a).dropWhile (· == 32) = l) (hok : okL l = true) :
  Calls Tryz.prog 113 #[.pointer (some ⟨g, 0, none⟩)] W fun e W' => e = .returned (.string (mkS (tokL l))) ∧ Rd g W' s (s.size - l.length) op ∧ Kx g W W' := by
 have HH := Lib.hid h
 have HL := Lib.hid hl
 have HK := Lib.hid hok
 clear h hl hok
 go_enter Tryz.func113, Tryz.ntmps113
 go_wp2
 go_loopg [] (s.size) (fun kx wr => ∃ q : Nat, a ≤ q ∧ q ≤ s.size ∧ s.size - q ≤ kx ∧ Hid (Rd g wr s q op) ∧ Hid (Kx g W wr) ∧ Hid ((s.data.toList.drop q).dropWhile (· == 32) = l))
 case atStart => exact ⟨a, Nat.le_refl _, ha, by omega, HH, Lib.hid (Kx.refl _ _), HL⟩
 case round =>
  obtain ⟨q, h1, h2, h3, HR, HX, HD⟩ := hrel
  have c0 : wr.cell? ⟨g, 0, none⟩ = some (.string s) := HR.out.cell (j := 0) rfl
  have c1 : wr.cell? ⟨g, 1, none⟩ = some (.int .i64 q) := HR.out.cell (j := 1) rfl
  have c3 : wr.cell? ⟨g, 3, none⟩ = some (.int .i64 0) := HR.out.cell (j := 3) rfl
  have f1 := HR.out.frozen 1
  have hgl := HR.out.lt
  by_cases hlt : q < s.size
  case neg =>
   have g1 : decide ((q : Int) < (s.size : Int)) = false := by simp; omega
   obtain rfl : q = s.size := by omega
   go_wp2
   go_quiet (fail)
   go_wp2
   go_quiet (fail)
   go_wp2
   go_ret
   have hl : l = [] := by have := HD.out; rw [List.drop_eq_nil_of_le (by rw [by_len]; omega)] at this; exact this.symm
   subst hl
   exact ⟨rfl, HR.out, HX.out.trans (Kx.below (Nat.le_of_lt hgl) (by repeat (first | exact zR _ _ | assumption | refine zN ?_ _ | refine zD ?_ | refine zA ?_ ?_ _ | refine zS ?_ ?_ _ | refine zT ?_ (zM (by assumption) ?_) | exact Nat.le_refl _ | (simp <;> omega) | omega)))⟩
  have hd := Lib.hid (by_at s q hlt)
  have g1 : (q : Int) < (s.size : Int) := by omega
  cases q1 : ((s[q].toNat : Int) == 32)
  case true =>
   have hb : s[q] = 32 := by
    have h32 : (s[q].toNat : Int) = 32 := by simpa using q1
    exact UInt8.toNat_inj.1 (show s[q].toNat = 32 by omega)
   have HD2 : Hid ((s.data.toList.drop (q + 1)).dropWhile (· == 32) = l) := by
    show _ = _
    rw [← HD.out, hd.out, List.dropWhile_cons, hb]; rfl
   clear hb
   go_wp2
   go_quiet (fail)
   go_wp2
   go_roundg (gk - 1)
   case measure => omega
   case rel =>
    exact ⟨q + 1, by omega, by omega, by omega, Lib.hid (by have := (HR.out.drewN nq).setAt (q + 1); simpa using this), HX.out.trans ((Kx.below (Nat.le_of_lt hgl) (by repeat (first | exact zR _ _ | assumption | refine zN ?_ _ | refine zD ?_ | refine zA ?_ ?_ _ | refine zS ?_ ?_ _ | refine zT ?_ (zM (by assumption) ?_) | exact Nat.le_refl _ | (simp <;> omega) | omega))).trans (Kx.setCell _ _ _ _)), HD2⟩
  have hb : ¬ s[q] = 32 := by
   intro h; rw [h] at q1; exact absurd q1 (by decide)
  have HDL : Hid (s.data.toList.drop q = l) := by
   show _ = _
   rw [← HD.out, hd.out, List.dropWhile_cons]
   simp [hb]
  have g2 : ((q : Int) == (s.size : Int)) = false := by simp; omega
  have g4 : (q : Int) ≤ (s.size : Int) := by omega
  clear hb
  go_wp2
  go_quiet (fail)
  go_wp2
  go_quiet (fail)
  go_wp2
  go_quiet (fail)
  have hex : s.extract q s.size = mkS l := by
   rw [extract_mkS, HDL.out, List.take_of_length_le]
   have := congrArg List.length HDL.out
   rw [List.length_drop, by_len] at this; omega
  have hln : l.length = s.size - q := by
   have := congrArg List.length HDL.out
   rw [List.length_drop, by_len] at this; omega
  have h0 : l[0]? = some s[q] := by rw [← HDL.out, hd.out]; rfl
  have HRS : Hid (Rd g wr s (s.size - l.length) op) := by show Rd _ _ _ _ _; have := HR.out; rwa [show q = s.size - l.length by omega] at this
  have hsp := nmL_trim l
  obtain ⟨r, hr⟩ : ∃ r, r = mkS l := ⟨_, rfl⟩
  have hrs : r.size = l.length := by rw [hr, mkS_size]
  have hrt : r.data.toList = l := by rw [hr, mkS_toList]
  obtain ⟨t, ht⟩ : ∃ t, t = mkS (Lib.trimLeftS r.data.toList nameCs) := ⟨_, rfl⟩
  have hts : t.size + (nmL l).length = r.size := by rw [ht, mkS_size, hrt, hrs, ← hsp, Nat.add_comm]
  rw [← hr] at hex
  rw [hex]
  have hrm : r.size ≤ 1000000 := by omega
  cases hn : (nmL l).isEmpty
  case false =>
   have hn0 : 0 < (nmL l).length := by
    cases h : nmL l
    ·rw [h] at hn; cases hn
    ·simp
   have g5 : (0 : Int) < (r.size : Int) - (t.size : Int) := by omega
   have g6 : (r.size : Int) - (t.size : Int) ≤ (r.size : Int) := by omega
   have g7 : wrap64 ((r.size : Int) - (t.size : Int)) = (r.size : Int) - (t.size : Int) := by unfold wrap64; omega
   have HF : Hid (r.extract 0 (r.size - t.size) = mkS (tokL l)) := by
    show _ = _
    rw [extract_mkS, hrt]
    unfold tokL
    rw [hn]
    have : r.size - t.size - 0 = (nmL l).length := by omega
    rw [this, List.drop_zero, nmL_take]; rfl
   have HT := Lib.hid ht
   clear hr ht hrt hrs hex hn h0 hsp HL HK HDL hd HH
   go_wp2_with fail
   refine (TrimLeft_name r _).mono ?_
   rintro e w1 ⟨rfl, hb1⟩
   rw [← HT.out]
   go_wp2
   go_ret
   have hB : Below wr.heap.size wr w1 := (by repeat (first | exact zR _ _ | assumption | refine zN ?_ _ | refine zD ?_ | refine zA ?_ ?_ _ | refine zS ?_ ?_ _ | refine zT ?_ (zM (by assumption) ?_) | exact Nat.le_refl _ | (simp <;> omega) | omega))
   exact ⟨by rw [HF.out]; rfl, HRS.out.below hB, HX.out.trans (Kx.below (Nat.le_of_lt hgl) hB)⟩
  have hn1 : nmL l = [] := by simpa using hn
  have e1 : t.size = r.size := by rw [hn1] at hts; simpa using hts
  have g8 : (0 : Int) < (r.size : Int) := by omega
  have HF : Hid (r.extract 0 1 = mkS (tokL l)) := by
   show _ = _
   rw [extract_mkS, hrt]
   unfold tokL
   rw [hn]
   rfl
  have hl0 : l.headD 0 = s[q] := by
   cases l
   ·cases h0
   ·simpa using h0
  have hr0 : ∀ h, r[0]'h = s[q] := by
   intro h
   have := by_at r 0 h
   rw [List.drop_zero, hrt] at this
   rw [this] at h0; simpa using h0
  have HI : Hid (0 ≤ Lib.indexByte [43, 40, 41] s[q]) := by
   show _ ≤ _
   have hk := HK.out
   unfold okL at hk
   rw [hn, hl0] at hk
   have hne : l.isEmpty = false := by cases l; cases h0; rfl
   rw [hne] at hk
   have := indexByte_range [43, 40, 41] s[q]
   simp at hk
   omega
  have HT := Lib.hid ht
  clear hr ht hrt hrs hex hn h0 hsp HL HK HDL hd HH hl0 hn1 hts
  go_wp2_with fail
  refine (TrimLeft_name r _).mono ?_
  rintro e w1 ⟨rfl, hb1⟩
  rw [← HT.out]
  go_wp2_with fail
  refine (Tryz.strings_IndexByte ⟨#[43, 40, 41]⟩ _ _).mono ?_
  rintro e w2 ⟨rfl, rfl⟩
  have hc : ((s[q].toNat : Int).toNat.toUInt8) = s[q] := by simp
  rw [hc]
  have hi := HI.out
  have hL : ((⟨#[43, 40, 41]⟩ : ByteArray).data.toList) = [43, 40, 41] := rfl
  rw [hL]
  generalize Lib.indexByte [43, 40, 41] s[q] = ix at *
  clear hL hc
  go_wp2
  go_ret
  have hB : Below wr.heap.size wr w2 := (by repeat (first | exact zR _ _ | assumption | refine zN ?_ _ | refine zD ?_ | refine zA ?_ ?_ _ | refine zS ?_ ?_ _ | refine zT ?_ (zM (by assumption) ?_) | exact Nat.le_refl _ | (simp <;> omega) | omega))
  exact ⟨by rw [HF.out]; rfl, HRS.out.below hB, HX.out.trans (Kx.below (Nat.le_of_lt hgl) hB)⟩
set_option maxRecDepth 100000 in
set_option maxHeartbeats 1000000 in
theorem name_p (g : Nat) (W : World) (s : ByteArray) (a op : Nat) (l t : List UInt8) (h : Rd g W s a op) (ha : a ≤ s.size) (hs : s.size ≤ 1000000) (hl : (s.data.toList.drop a).dropWhile (· == 32) = l) (hok : okL l = true) (ht : tokL l = t) (hn : nameB (mkS t) = true) (h0 : t.isEmpty = false) (h1 : (t == [43]) = false) (h2 : (t == [40]) = false) (h3 : (t == [41]) = false) (htl : t.length ≤ 1000) :
  Calls Tryz.prog 165 #[.pointer (some ⟨g, 0, none⟩)] W fun e W' => e = .returned (.string (mkS t)) ∧ Rd g W' s (s.size - l.length + t.length) op ∧ Kx g W W' := by
 have hp := peek_p g W s a op l h ha hs hl hok
 rw [ht] at hp
 have hts : (mkS t).size = t.length := mkS_size t
 have htt : (mkS t).toList = t := by rw [ByteArray.toList_eq, mkS_toList]
 obtain ⟨T, hT⟩ : ∃ T, T = mkS t := ⟨_, rfl⟩
 rw [← hT] at hp hn hts htt
 rw [← htt] at h0 h1 h2 h3
 have hnb : s.size - l.length + T.size ≤ 1001000 := by omega
 have HT := Lib.hid hT
 have HN := Lib.hid hn
 have HTS := Lib.hid hts
 have hTm : T.size ≤ maxLen := by unfold maxLen; omega
 have HTM := Lib.hid hTm
 have HP := Lib.hid hp
 clear h hl hok ht hn hts htt hT hp hTm
 go_enter Tryz.func165, Tryz.ntmps165
 go_wp2_with fail
 refine HP.out.mono ?_
 rintro e w1 ⟨rfl, hr1, hk1⟩
 have HR := Lib.hid hr1
 have HK := Lib.hid hk1
 clear hr1 hk1
 go_wp2_with fail
 refine (isNameX_p T _ HTM.out).mono ?_
 rintro e w2 ⟨rfl, hb2⟩
 rw [HN.out]
 go_wp2_with fail
 refine (take_p g _ s T _ op (HR.out.below hb2) (by have := HTS.out; omega)).mono ?_
 rintro e w3 ⟨rfl, hr3, hk3⟩
 go_wp2
 go_ret
 exact ⟨by rw [← HT.out]; rfl, by rw [← HTS.out]; exact hr3, HK.out.trans ((Kx.below (Nat.le_of_lt HR.out.lt) hb2).trans hk3)⟩
end Go.Proofs.YtaaobpicaaeiiaaGreatDoor
namespace Go.Proofs.YtaaobpicaaeiiaaGreatDoor
open Go Go.RowKit Go.ChangeShapes Go.Lib

theorem Kv.weaken {M M' : Nat → Prop} {W W' : World} (h : Kv M W W') (hm : ∀ k, M k → M' k) : Kv M' W W' := ⟨h.1, fun k cs t fr hk hc => h.2 k cs t fr (fun h => hk (hm k h)) hc⟩
theorem Kx.kv {g lo : Nat} {W W' : World} (h : Kx g W W') (hg : g < lo) : Kv (fun k => k < lo) W W' := h.2.weaken fun k hk => by subst hk; exact hg
theorem Kx.obj {g k : Nat} {W W' : World} {cs : Array Value} {t : TypeId} {fr : Nat × Nat} (h : Kx g W W') (hk : k ≠ g) (ho : W.heap[k]? = some (.cells cs t fr)) : W'.heap[k]? = some (.cells cs t fr) := h.2.2 k cs t fr hk ho
theorem Kx.cell {g : Nat} {W W' : World} {a : Addr} {v : Value} (h : Kx g W W') (hk : a.block ≠ g) (hc : W.cell? a = some v) : W'.cell? a = some v := h.2.cell hk hc
theorem Kx.size {g : Nat} {W W' : World} (h : Kx g W W') : W.heap.size ≤ W'.heap.size := h.2.1
theorem obj2 (w : World) (p q : Array Value) (t s : TypeId) : ((w.alloc (.cells p t)).alloc (.cells q s)).heap[w.heap.size]? = some (.cells p t (0, 0)) ∧ ((w.alloc (.cells p t)).alloc (.cells q s)).heap[w.heap.size + 1]? = some (.cells q s (0, 0)) := by
 have h1 := World.alloc_heap_new w (.cells p t)
 have h2 := World.alloc_heap_new (w.alloc (.cells p t)) (.cells q s)
 have hb : Below (w.alloc (.cells p t)).heap.size (w.alloc (.cells p t)) ((w.alloc (.cells p t)).alloc (.cells q s)) := (Below.refl _ _).alloc (Nat.le_refl _) _
 rw [World.size_alloc] at h2
 exact ⟨obj_below h1 hb, h2⟩
def LE (lo : Nat) (W : World) (v : Value) (x : LExpr) : Prop := ∀ W', Kv (fun k => k < lo) W W' → Is W' v x
section
variable {lo lo' : Nat} {W W' : World} {v : Value} {x : LExpr}
theorem LE.is (h : LE lo W v x) : Is W v x := h W (Kv.refl _ _)
theorem LE.kv (h : LE lo W v x) (k : Kv (fun k => k < lo) W W') : LE lo W' v x := fun _ k2 => h _ (k.trans k2)
theorem LE.low (h : LE lo W v x) (hl : lo' ≤ lo) : LE lo' W v x := fun W' k => h W' (k.weaken fun _ hk => Nat.lt_of_lt_of_le hk hl)
end
theorem Rd.other {g k j a op : Nat} {W : World} {s : ByteArray} {v : Value} (h : Rd g W s a op) (hk : g ≠ k) : Rd g (W.setCell ⟨k, j, none⟩ v) s a op := by
 unfold Rd at *; rw [blk_set_other _ _ _ _ hk]; exact h
theorem Kx.set {g k j : Nat} {W W' : World} {v : Value} (h : Kx g W W') (hg : g < W.heap.size) (hk : W.heap.size ≤ k) : Kx g W (W'.setCell ⟨k, j, none⟩ v) := by
 refine ⟨h.1.setCell (p := ⟨k, j, none⟩) (show g ≤ k by omega) v, ⟨by have := h.2.1; simpa [World.setCell] using this, fun i cs t fr hi hc => ?_⟩⟩
 rw [blk_set_other _ _ _ _ (show i ≠ k by have := heap_lt hc; omega)]; exact h.2.2 i cs t fr hi hc
def set4 (W : World) (k : Nat) (v0 v1 v2 v3 : Value) : World := (((W.setCell ⟨k, 0, none⟩ v0).setCell ⟨k, 1, none⟩ v1).setCell ⟨k, 2, none⟩ v2).setCell ⟨k, 3, none⟩ v3
section
variable {g k : Nat} {W W' : World} {v0 v1 v2 v3 : Value}
theorem set4_obj {u0 u1 u2 u3 : Value} {t : TypeId} {fr : Nat × Nat} (h : W.heap[k]? = some (.cells #[u0, u1, u2, u3] t fr)) : (set4 W k v0 v1 v2 v3).heap[k]? = some (.cells #[v0, v1, v2, v3] t fr) :=
 setCell_obj _ _ 3 _ (setCell_obj _ _ 2 _ (setCell_obj _ _ 1 _ (setCell_obj W k 0 v0 h)))
theorem set4_other {i : Nat} (h : i ≠ k) : (Go.Proofs.YtaaobpicaaeiiaaGreatDoor.set4 W k v0 v1 v2 v3).heap[i]? = W.heap[i]? := by
 unfold Go.Proofs.YtaaobpicaaeiiaaGreatDoor.set4
 rw [blk_set_other _ _ _ _ h, blk_set_other _ _ _ _ h, blk_set_other _ _ _ _ h, blk_set_other _ _ _ _ h]
theorem Rd.set4 {a op : Nat} {s : ByteArray} (h : Rd g W s a op) (hk : g ≠ k) : Rd g (set4 W k v0 v1 v2 v3) s a op := (((h.other hk).other hk).other hk).other hk
theorem Kx.set4 (h : Kx g W W') (hg : g < W.heap.size) (hk : W.heap.size ≤ k) : Kx g W (set4 W' k v0 v1 v2 v3) := (((h.set hg hk).set hg hk).set hg hk).set hg hk
theorem Kv.set4 {M : Nat → Prop} (h : Kv M W W') (hk : M k) : Kv M W (Go.Proofs.YtaaobpicaaeiiaaGreatDoor.set4 W' k v0 v1 v2 v3) := (((h.trans (Kv.setCell _ _ hk)).trans (Kv.setCell _ _ hk)).trans (Kv.setCell _ _ hk)).trans (Kv.setCell _ _ hk)
end
theorem expRow : (Tryz.prog.info? 30).map (fun i => (i.zero, i.size, i.bytes)) = some (some (.agg #[.int .i64 0, .string ByteArray.empty, .string ByteArray.empty, .slice none 0 0]), 4, 64) := by kernel_rfl
theorem obj_grow {w w' : World} {k : Nat} {o : Obj} {row : Option Nat} (h : w.heap[k]? = some o) (hg : w.grownBy w' row) (hne : some k ≠ row) : w'.heap[k]? = some o := by rw [hg.block k (obj_lt h) hne]; exact h
theorem own_four {w : World} {B : Nat} {e : TypeId} {u0 u1 u2 u3 : Value} (h : w.heap[B]? = some (.cells #[u0, u1, u2, u3] e (0, 0))) : w.ownsRow B e 4 (.slice (some ⟨B, 0, none⟩) 1 1) 1 [u0, u1, u2, u3] :=
 ⟨rfl, .inr ⟨B, 1, #[u0, u1, u2, u3], rfl, Nat.le_refl _, h, Nat.le_refl _, by decide, rfl, rfl⟩⟩
theorem own_shape {w : World} {B n : Nat} {e : TypeId} {v : Value} {xs : List Value} (h : w.ownsRow B e 4 v n xs) (hn : 0 < n) : ∃ (G cap : Nat) (cur : Array Value), v = .slice (some ⟨G, 0, none⟩) n cap ∧ B ≤ G ∧ w.heap[G]? = some (.cells cur e (0, 0)) ∧ n ≤ cap ∧ cap ≤ maxLen ∧ cur.toList.take (n * 4) = xs := by
 rcases h.2 with ⟨-, h0⟩ | ⟨G, cap, cur, h1, h2, h3, h4, h5, -, h6⟩
 ·omega
 ·exact ⟨G, cap, cur, h1, h2, h3, h4, h5, h6⟩
theorem Kv.grow {M : Nat → Prop} {W W1 W2 : World} {row : Option Nat} (h : Kv M W W1) (hg : W1.grownBy W2 row) (hr : ∀ r, row = some r → M r) : Kv M W W2 :=
 ⟨Nat.le_trans h.1 hg.size, fun k cs t fr hk hc => obj_grow (h.2 k cs t fr hk hc) hg fun e => hk (hr k e.symm)⟩
theorem Kx.grow {g : Nat} {W W1 W2 : World} {row : Option Nat} (h : Kx g W W1) (hg : W1.grownBy W2 row) (hgW : g < W.heap.size) (hr : ∀ r, row = some r → W.heap.size ≤ r) : Kx g W W2 :=
 ⟨h.1.grown hg (by have := h.2.1; omega) fun r e => Nat.le_trans (Nat.le_of_lt hgW) (hr r e), Nat.le_trans h.2.1 hg.size, fun k cs t fr hk hc => obj_grow (h.2.2 k cs t fr hk hc) hg fun e => by have := hr k e.symm; have := heap_lt hc; omega⟩
theorem two_is {lo : Nat} {w : World} {kind : Int} {G cap : Nat} {cur : Array Value} {t : TypeId} {k1 k2 : Int} {n1 x1 n2 x2 : ByteArray} {ks1 ks2 : List LExpr} {p1 p2 : Option Addr} {c1 c2 : Nat}
  (hk : inI64 kind) (hG : w.heap[G]? = some (.cells cur t (0, 0))) (hlo : lo ≤ G) (hc : 2 ≤ cap) (hm : cap ≤ maxLen) (hcur : cur.toList.take (2 * 4) = [.int .i64 k1, .string n1, .string x1, .slice p1 ks1.length c1, .int .i64 k2, .string n2, .string x2, .slice p2 ks2.length c2])
  (h1 : LE lo w (.agg #[.int .i64 k1, .string n1, .string x1, .slice p1 ks1.length c1]) (.mk k1 n1 x1 ks1)) (h2 : LE lo w (.agg #[.int .i64 k2, .string n2, .string x2, .slice p2 ks2.length c2]) (.mk k2 n2 x2 ks2)) :
  LE lo w (.agg #[.int .i64 kind, .string ByteArray.empty, .string ByteArray.empty, .slice (some ⟨G, 0, none⟩) 2 cap]) (.mk kind ByteArray.empty ByteArray.empty [.mk k1 n1 x1 ks1, .mk k2 n2 x2 ks2]) := by
 intro w' hv
 have hG' := hv.2 G cur t (0, 0) (by omega) hG
 have hcell : ∀ (j : Nat) (u : Value), ([.int .i64 k1, .string n1, .string x1, .slice p1 ks1.length c1, .int .i64 k2, .string n2, .string x2, .slice p2 ks2.length c2] : List Value)[j]? = some u → w'.cell? ⟨G, j, none⟩ = some u := by
  intro j u hj
  refine objcell hG' ?_
  rw [← hcur, List.getElem?_take] at hj
  split at hj
  ·simpa using hj
  ·cases hj
 obtain ⟨b1, d1, e1, i1, m1, m2, m3, m4, r1⟩ := LExpr.inv (h1 w' hv)
 obtain ⟨b2, d2, e2, i2, o1, o2, o3, o4, r2⟩ := LExpr.inv (h2 w' hv)
 simp only [Value.agg.injEq, Array.mk.injEq, List.cons.injEq, Value.slice.injEq, true_and, and_true] at e1 e2
 obtain ⟨rfl, rfl⟩ := e1
 obtain ⟨rfl, rfl⟩ := e2
 refine LExpr.mk' (ks := [LExpr.mk k1 n1 x1 ks1, LExpr.mk k2 n2 x2 ks2]) hk (show ByteArray.empty.size ≤ maxLen by decide) (show ByteArray.empty.size ≤ maxLen by decide) hc hm ?_
 intro i x hx
 refine ⟨G, 0, rfl, heap_lt hG', ?_⟩
 match i, hx with
 | 0, hx =>
  cases hx
  exact LExpr.is_iff.2 ⟨_, _, hcell 0 _ rfl, hcell 1 _ rfl, hcell 2 _ rfl, hcell 3 _ rfl, i1, m1, m2, m3, m4, r1⟩
 | 1, hx =>
  cases hx
  exact LExpr.is_iff.2 ⟨_, _, hcell 4 _ rfl, hcell 5 _ rfl, hcell 6 _ rfl, hcell 7 _ rfl, i2, o1, o2, o3, o4, r2⟩
 | i + 2, hx => simp at hx
theorem step_app4 {ops : Array Oper} {o : Oper} {a : Act} {K : Act → World → Prop} {Q : Exit → Act → World → Prop} {X : Prop} {w : World} (hgd : o.guard = none) (s x : Operand)
  (ho : o.op = .call { callee := .builtin .append, args := #[s, x], argTypes := #[28, 28] })
  (B : Nat) (v : Value) (n : Nat) (xs : List Value) (hs : a.eval s = v) (hown : w.ownsRow B 30 4 v n xs)
  (k : Nat) (news : Array Value) (hx : a.eval x = .slice (some ⟨k, 0, none⟩) 1 1) (hl : news.size = 4) (hk : w.heap[k]? = some (.cells news 30 (0, 0))) (h1 : ∀ u ∈ news.toList, u.oneCell' = true)
  (hb : n ≤ 1000000) (hB : B ≤ w.heap.size)
  (h : ∀ v' w', w'.ownsRow B 30 4 v' (n + 1) (xs ++ news.toList) → w.grownBy w' v.ownBlock → K (a.put o.dst v') w') :
  if Region.wanted o (yielded ops a.tmps) = true then Oper.wp Tryz.prog o a w K Q else X := by
 have hw : Region.wanted o (yielded ops a.tmps) = true := by simp [Region.wanted, hgd]
 rw [if_pos hw]
 obtain ⟨i0, hi, hz0, hz1, hz2⟩ := info_parts expRow
 refine wp_append_own w s x 28 ho B 30 i0 _ 4 64 Tryz.underlying28 hi hz0 hz1 hz2 rfl (by decide) v n xs hs hown ⟨k, 0, none⟩ 1 1 news.toList hx (by simp [hl]) ?_ h1 ?_ ?_ hB ?_
 ·intro j u hj
  have e2 : (⟨k, 0, none⟩ : Addr).add j = ⟨k, j, none⟩ := by
   unfold Addr.add; split
   ·subst j; rfl
   ·simp
  rw [e2]
  exact objcell hk (by simpa using hj)
 ·unfold maxLen; omega
 ·omega
 ·intro v' w' h2 h3 _
  exact h v' w' h2 h3
def PartAt (g f : Nat) (args : Array Value) (W0 : World) (s : ByteArray) (a op a' : Nat) (x : LExpr) : Prop :=
 ∀ W1, Kx g W0 W1 → Rd g W1 s a op → Calls Tryz.prog f args W1 fun e W' => ∃ v, e = .returned v ∧ Rd g W' s a' op ∧ Kx g W1 W' ∧ LE W1.heap.size W' v x
set_option maxRecDepth 100000 in
set_option maxHeartbeats 1000000 in
theorem list_one (g f : Nat) (W : World) (s w : ByteArray) (a op a1 : Nat) (kind : Int) (bd fr : Array Value) (l : List UInt8) (x : LExpr) (h : Rd g W s a op)
  (eg : ∀ args w, (callFunc f args).run Tryz.prog w = .ok (.enter f args) w) (hp : PartAt g f (bd ++ fr) W s a op a1 x) (ha : a1 ≤ s.size) (hs : s.size ≤ 1000000) (hl : (s.data.toList.drop a1).dropWhile (· == 32) = l) (hok : okL l = true) (hw : ((mkS (tokL l)).toList == w.toList) = false) :
  Calls Tryz.prog 110 #[.pointer (some ⟨g, 0, none⟩), .int .i64 kind, .string w, .func (.func f) bd fr] W fun e W' => ∃ v, e = .returned v ∧ Rd g W' s (s.size - l.length) op ∧ Kx g W W' ∧ LE W.heap.size W' v x := by
 have HR := Lib.hid h
 have HP := Lib.hid hp
 have hg := h.lt
 have hpk := fun W h => peek_p g W s a1 op l h ha hs hl hok
 have HPK := Lib.hid hpk
 clear h hp hl hok hpk
 go_enter Tryz.func110, Tryz.ntmps110
 go_wp2_with fail
 have hb0 : Below W.heap.size W (W.alloc (.cells #[.int .i64 0, .string ⟨#[]⟩, .string ⟨#[]⟩, .slice none 0 0] 30)) := (by repeat (first | exact zR _ _ | assumption | refine zN ?_ _ | refine zD ?_ | refine zA ?_ ?_ _ | refine zS ?_ ?_ _ | refine zT ?_ (zM (by assumption) ?_) | exact Nat.le_refl _ | (simp <;> omega) | omega))
 have hsz0 : (W.alloc (.cells #[.int .i64 0, .string ⟨#[]⟩, .string ⟨#[]⟩, .slice none 0 0] 30)).heap.size = W.heap.size + 1 := by simp
 have hbx0 : (W.alloc (.cells #[.int .i64 0, .string ⟨#[]⟩, .string ⟨#[]⟩, .slice none 0 0] 30)).heap[W.heap.size]? = some (.cells #[.int .i64 0, .string ⟨#[]⟩, .string ⟨#[]⟩, .slice none 0 0] 30 (0, 0)) := by first | exact heap_alloc_new W _ | simp
 generalize (W.alloc (.cells #[.int .i64 0, .string ⟨#[]⟩, .string ⟨#[]⟩, .slice none 0 0] 30)) = W0 at *
 refine (HP.out W0 (Kx.below (Nat.le_of_lt hg) hb0) (HR.out.below hb0)).mono ?_
 rintro e w1 ⟨v1, rfl, hr1, hk1, he1⟩
 obtain ⟨k1, n1, x1, ks1⟩ := x
 obtain ⟨a1', c1', rfl, -⟩ := LExpr.inv he1.is
 have HR1 := Lib.hid hr1
 have HK1 := Lib.hid hk1
 have HE1 := Lib.hid he1
 have HB0 := Lib.hid hb0
 have HS0 := Lib.hid hsz0
 have HX0 := Lib.hid hbx0
 clear hr1 hk1 he1 hb0 hsz0 hbx0
 go_wp2_with fail
 have hs1 : W0.heap.size ≤ w1.heap.size := HK1.out.size
 have hX1 := HK1.out.obj (k := W.heap.size) (by omega) HX0.out
 have hbN : Below w1.heap.size w1 ((w1.alloc (.cells #[.int .i64 k1, .string n1, .string x1, .slice a1' ks1.length c1'] 30)).alloc (.cells #[.int .i64 kind, .string ⟨#[]⟩, .string ⟨#[]⟩, .slice (some ⟨w1.heap.size, 0, none⟩) 1 1] 30)) := (by repeat (first | exact zR _ _ | assumption | refine zN ?_ _ | refine zD ?_ | refine zA ?_ ?_ _ | refine zS ?_ ?_ _ | refine zT ?_ (zM (by assumption) ?_) | exact Nat.le_refl _ | (simp <;> omega) | omega))
 have hsN : ((w1.alloc (.cells #[.int .i64 k1, .string n1, .string x1, .slice a1' ks1.length c1'] 30)).alloc (.cells #[.int .i64 kind, .string ⟨#[]⟩, .string ⟨#[]⟩, .slice (some ⟨w1.heap.size, 0, none⟩) 1 1] 30)).heap.size = w1.heap.size + 1 + 1 := by simp
 obtain ⟨hoK, ho9⟩ := obj2 w1 #[.int .i64 k1, .string n1, .string x1, .slice a1' ks1.length c1'] #[.int .i64 kind, .string ⟨#[]⟩, .string ⟨#[]⟩, .slice (some ⟨w1.heap.size, 0, none⟩) 1 1] 30 30
 generalize ((w1.alloc (.cells #[.int .i64 k1, .string n1, .string x1, .slice a1' ks1.length c1'] 30)).alloc (.cells #[.int .i64 kind, .string ⟨#[]⟩, .string ⟨#[]⟩, .slice (some ⟨w1.heap.size, 0, none⟩) 1 1] 30)) = wN at *
 have HX8 := Lib.hid (obj_below hX1 hbN)
 have HOK := Lib.hid hoK
 have HO9 := Lib.hid ho9
 have HBN := Lib.hid hbN
 have HSN := Lib.hid hsN
 have HRN := Lib.hid (HR1.out.below hbN)
 clear hX1 hoK ho9 hbN hsN
 go_loopg [] 0 (fun kx wr => wr = wN)
 case atStart => rfl
 case round =>
  have hrel' := hrel.symm
  subst hrel'
  have c3 : wN.cell? ⟨g, 3, none⟩ = some (.int .i64 0) := HRN.out.cell (j := 3) rfl
  go_wp2_with fail
  refine (HPK.out _ HRN.out).mono ?_
  rintro e w2 ⟨rfl, hr2, hk2⟩
  have hX := hk2.obj (k := W.heap.size) (by omega) HX8.out
  have hK := hk2.obj (k := w1.heap.size) (by have := HS0.out; omega) HOK.out
  have h9 := hk2.obj (k := w1.heap.size + 1) (by have := HS0.out; omega) HO9.out
  have d3 : w2.cell? ⟨w1.heap.size + 1, 3, none⟩ = some (.slice (some ⟨w1.heap.size, 0, none⟩) 1 1) := objcell h9 rfl
  have q0 : w2.cell? ⟨w1.heap.size, 0, none⟩ = some (.int .i64 k1) := objcell hK rfl
  have q1 : w2.cell? ⟨w1.heap.size, 1, none⟩ = some (.string n1) := objcell hK rfl
  have q2 : w2.cell? ⟨w1.heap.size, 2, none⟩ = some (.string x1) := objcell hK rfl
  have q3 : w2.cell? ⟨w1.heap.size, 3, none⟩ = some (.slice a1' ks1.length c1') := objcell hK rfl
  have f0 := objfrozen hX (j := 0)
  have f1 := objfrozen hX (j := 1)
  have f2 := objfrozen hX (j := 2)
  have f3 := objfrozen hX (j := 3)
  have z0 := objcell hX (j := 0) rfl
  have z1 := objcell hX (j := 1) rfl
  have z2 := objcell hX (j := 2) rfl
  have z3 := objcell hX (j := 3) rfl
  have HXX := Lib.hid hX
  have HR2 := Lib.hid hr2
  have HK2 := Lib.hid hk2
  clear hX hK h9 hr2 hk2 c3
  go_wp2
  have hq : ∀ wz, wz = set4 w2 W.heap.size (.int .i64 k1) (.string n1) (.string x1) (.slice a1' ks1.length c1') → wz.heap[W.heap.size]? = some (.cells #[.int .i64 k1, .string n1, .string x1, .slice a1' ks1.length c1'] 30 (0, 0)) ∧ Rd g wz s (s.size - l.length) op ∧ Kx g W wz ∧ LE W.heap.size wz (.agg #[.int .i64 k1, .string n1, .string x1, .slice a1' ks1.length c1']) (LExpr.mk k1 n1 x1 ks1) := by
   rintro wz rfl
   have hs0 := HS0.out
   refine ⟨set4_obj HXX.out, HR2.out.set4 (by omega), ?_, ?_⟩
   ·exact (((Kx.below (Nat.le_of_lt hg) HB0.out).trans HK1.out).trans ((Kx.below (by omega) HBN.out).trans HK2.out)).set4 hg (Nat.le_refl _)
   ·refine (HE1.out.kv ?_).low (by omega)
    exact ((Kv.of_below HBN.out).trans (HK2.out.kv (by omega))).set4 (by omega)
  have hq2 := hq _ rfl
  unfold set4 at hq2
  obtain ⟨hX3, hR3, hK3, hE3⟩ := hq2
  have e0 := objcell hX3 (j := 0) rfl
  have e1 := objcell hX3 (j := 1) rfl
  have e2 := objcell hX3 (j := 2) rfl
  have e3 := objcell hX3 (j := 3) rfl
  refine bodyPost_ret (v := .agg #[.int .i64 k1, .string n1, .string x1, .slice a1' ks1.length c1']) ?_ rfl ⟨_, rfl, hR3, hK3, hE3⟩
  clear hq hX3 hR3 hK3 hE3
  generalize (((w2.setCell ⟨W.heap.size, 0, none⟩ (.int .i64 k1)).setCell ⟨W.heap.size, 1, none⟩ (.string n1)).setCell ⟨W.heap.size, 2, none⟩ (.string x1)).setCell ⟨W.heap.size, 3, none⟩ (.slice a1' ks1.length c1') = w3 at *
  simp [results, Tryz.results110, go_sem, e0, e1, e2, e3]
set_option maxRecDepth 100000 in
set_option maxHeartbeats 1000000 in
theorem list_two (g f : Nat) (W : World) (s w : ByteArray) (a op a1 a2 : Nat) (kind : Int) (bd fr : Array Value) (l l2 : List UInt8) (x y : LExpr) (h : Rd g W s a op)
  (eg : ∀ args w, (callFunc f args).run Tryz.prog w = .ok (.enter f args) w) (hp : PartAt g f (bd ++ fr) W s a op a1 x) (ha : a1 ≤ s.size) (hs : s.size ≤ 1000000) (hl : (s.data.toList.drop a1).dropWhile (· == 32) = l) (hok : okL l = true) (hw : mkS (tokL l) = w) (hp2 : PartAt g f (bd ++ fr) W s (s.size - l.length + w.size) op a2 y) (ha2 : a2 ≤ s.size) (hl2 : (s.data.toList.drop a2).dropWhile (· == 32) = l2) (hok2 : okL l2 = true) (hw2 : ((mkS (tokL l2)).toList == w.toList) = false) (hwm : w.size ≤ 1000000) (hki : inI64 kind) :
  Calls Tryz.prog 110 #[.pointer (some ⟨g, 0, none⟩), .int .i64 kind, .string w, .func (.func f) bd fr] W fun e W' => ∃ v, e = .returned v ∧ Rd g W' s (s.size - l2.length) op ∧ Kx g W W' ∧ LE W.heap.size W' v (.mk kind ByteArray.empty ByteArray.empty [x, y]) := by
 have HR := Lib.hid h
 have HP := Lib.hid hp
 have hg := h.lt
 have hpk := fun W h => peek_p g W s a1 op l h ha hs hl hok
 have hpk2 := fun W h => peek_p g W s a2 op l2 h ha2 hs hl2 hok2
 rw [hw] at hpk
 have HPK := Lib.hid hpk
 have HPK2 := Lib.hid hpk2
 have HP2 := Lib.hid hp2
 clear h hp hp2 hl hl2 hok hok2 hpk hpk2 hw
 go_enter Tryz.func110, Tryz.ntmps110
 go_wp2_with fail
 have hb0 : Below W.heap.size W (W.alloc (.cells #[.int .i64 0, .string ⟨#[]⟩, .string ⟨#[]⟩, .slice none 0 0] 30)) := (by repeat (first | exact zR _ _ | assumption | refine zN ?_ _ | refine zD ?_ | refine zA ?_ ?_ _ | refine zS ?_ ?_ _ | refine zT ?_ (zM (by assumption) ?_) | exact Nat.le_refl _ | (simp <;> omega) | omega))
 have hsz0 : (W.alloc (.cells #[.int .i64 0, .string ⟨#[]⟩, .string ⟨#[]⟩, .slice none 0 0] 30)).heap.size = W.heap.size + 1 := by simp
 have hbx0 : (W.alloc (.cells #[.int .i64 0, .string ⟨#[]⟩, .string ⟨#[]⟩, .slice none 0 0] 30)).heap[W.heap.size]? = some (.cells #[.int .i64 0, .string ⟨#[]⟩, .string ⟨#[]⟩, .slice none 0 0] 30 (0, 0)) := by first | exact heap_alloc_new W _ | simp
 generalize (W.alloc (.cells #[.int .i64 0, .string ⟨#[]⟩, .string ⟨#[]⟩, .slice none 0 0] 30)) = W0 at *
 refine (HP.out W0 (Kx.below (Nat.le_of_lt hg) hb0) (HR.out.below hb0)).mono ?_
 rintro e w1 ⟨v1, rfl, hr1, hk1, he1⟩
 obtain ⟨k1, n1, x1, ks1⟩ := x
 obtain ⟨a1', c1', rfl, -⟩ := LExpr.inv he1.is
 have HR1 := Lib.hid hr1
 have HK1 := Lib.hid hk1
 have HE1 := Lib.hid he1
 have HB0 := Lib.hid hb0
 have HS0 := Lib.hid hsz0
 have HX0 := Lib.hid hbx0
 clear hr1 hk1 he1 hb0 hsz0 hbx0
 go_wp2_with fail
 have hs1 : W0.heap.size ≤ w1.heap.size := HK1.out.size
 have hX1 := HK1.out.obj (k := W.heap.size) (by omega) HX0.out
 have hbN : Below w1.heap.size w1 ((w1.alloc (.cells #[.int .i64 k1, .string n1, .string x1, .slice a1' ks1.length c1'] 30)).alloc (.cells #[.int .i64 kind, .string ⟨#[]⟩, .string ⟨#[]⟩, .slice (some ⟨w1.heap.size, 0, none⟩) 1 1] 30)) := (by repeat (first | exact zR _ _ | assumption | refine zN ?_ _ | refine zD ?_ | refine zA ?_ ?_ _ | refine zS ?_ ?_ _ | refine zT ?_ (zM (by assumption) ?_) | exact Nat.le_refl _ | (simp <;> omega) | omega))
 have hsN : ((w1.alloc (.cells #[.int .i64 k1, .string n1, .string x1, .slice a1' ks1.length c1'] 30)).alloc (.cells #[.int .i64 kind, .string ⟨#[]⟩, .string ⟨#[]⟩, .slice (some ⟨w1.heap.size, 0, none⟩) 1 1] 30)).heap.size = w1.heap.size + 1 + 1 := by simp
 obtain ⟨hoK, ho9⟩ := obj2 w1 #[.int .i64 k1, .string n1, .string x1, .slice a1' ks1.length c1'] #[.int .i64 kind, .string ⟨#[]⟩, .string ⟨#[]⟩, .slice (some ⟨w1.heap.size, 0, none⟩) 1 1] 30 30
 generalize ((w1.alloc (.cells #[.int .i64 k1, .string n1, .string x1, .slice a1' ks1.length c1'] 30)).alloc (.cells #[.int .i64 kind, .string ⟨#[]⟩, .string ⟨#[]⟩, .slice (some ⟨w1.heap.size, 0, none⟩) 1 1] 30)) = wN at *
 have HX8 := Lib.hid (obj_below hX1 hbN)
 have HOK := Lib.hid hoK
 have HO9 := Lib.hid ho9
 have HBN := Lib.hid hbN
 have HSN := Lib.hid hsN
 have HRN := Lib.hid (HR1.out.below hbN)
 clear hX1 hoK ho9 hbN hsN
 have c3 : wN.cell? ⟨g, 3, none⟩ = some (.int .i64 0) := HRN.out.cell (j := 3) rfl
 refine wp_loop_rounds 2 ?_
 rw [rounds_succ]
 go_wp2_with fail
 refine (HPK.out _ HRN.out).mono ?_
 rintro e w2 ⟨rfl, hr2, hk2⟩
 have HR2 := Lib.hid hr2
 have HK2 := Lib.hid hk2
 clear hr2 hk2 c3
 have hts : ((w.toList == w.toList) : Bool) = true := by simp
 go_wp2_with fail
 refine (take_p g _ s w _ op HR2.out (by omega)).mono ?_
 rintro e w3 ⟨rfl, hr3, hk3⟩
 have HR3 := Lib.hid hr3
 have HK3 := Lib.hid hk3
 have h9 := hk3.obj (k := w1.heap.size + 1) (by have := HS0.out; omega) (HK2.out.obj (by have := HS0.out; omega) HO9.out)
 have d3 : w3.cell? ⟨w1.heap.size + 1, 3, none⟩ = some (.slice (some ⟨w1.heap.size, 0, none⟩) 1 1) := objcell h9 rfl
 have f3 := objfrozen h9 (j := 3)
 have H9 := Lib.hid h9
 clear h9 hr3 hk3
 go_wp2_with fail
 have HKW : Hid (Kx g W w3) := Lib.hid ((((Kx.below (Nat.le_of_lt hg) HB0.out).trans HK1.out).trans ((Kx.below (by have := HS0.out; omega) HBN.out).trans HK2.out)).trans HK3.out)
 have HOK3 := Lib.hid (HK3.out.obj (k := w1.heap.size) (by have := HS0.out; omega) (HK2.out.obj (by have := HS0.out; omega) HOK.out))
 have hgw : g < w3.heap.size := HR3.out.lt
 obtain ⟨k2, n2, x2, ks2⟩ := y
 have H93 := H9
 go_region_law (first
  | (refine step_app4 (by rfl) _ _ (by rfl) w1.heap.size (.slice (some ⟨w1.heap.size, 0, none⟩) 1 1) 1 _ (by rfl) (own_four (obj_below HOK4.out (by repeat (first | exact zR _ _ | assumption | refine zN ?_ _ | refine zD ?_ | refine zA ?_ ?_ _ | refine zS ?_ ?_ _ | refine zT ?_ (zM (by assumption) ?_) | exact Nat.le_refl _ | (simp <;> omega) | omega)))) w4.heap.size #[.int .i64 k2, .string n2, .string x2, .slice a2' ks2.length c2'] (by rfl) rfl (World.alloc_heap_new w4 _) (by simp [Value.oneCell']) (by decide) (by simp; omega) ?_
     intro v' w5 ho5 hg5
     obtain ⟨G, cap, cur, rfl, hBG, hGo, hcap, hcm, hcur⟩ := own_shape ho5 (by decide)
     have HGO := Lib.hid hGo
     have HCU := Lib.hid hcur
     have h95 := obj_grow (obj_below H94.out (by repeat (first | exact zR _ _ | assumption | refine zN ?_ _ | refine zD ?_ | refine zA ?_ ?_ _ | refine zS ?_ ?_ _ | refine zT ?_ (zM (by assumption) ?_) | exact Nat.le_refl _ | (simp <;> omega) | omega))) hg5 (by simp [Value.ownBlock])
     have f5 := objfrozen h95 (j := 3)
     have d5 := objcell h95 (j := 3) rfl
     have H95 := Lib.hid h95
     have HG5 := Lib.hid hg5
     clear h95 ho5 hg5 hGo hcur)
  | (go_simp
     refine (HP2.out _ (HKW.out.trans (Kx.below (Nat.le_of_lt hgw) (by repeat (first | exact zR _ _ | assumption | refine zN ?_ _ | refine zD ?_ | refine zA ?_ ?_ _ | refine zS ?_ ?_ _ | refine zT ?_ (zM (by assumption) ?_) | exact Nat.le_refl _ | (simp <;> omega) | omega)))) (HR3.out.below (by repeat (first | exact zR _ _ | assumption | refine zN ?_ _ | refine zD ?_ | refine zA ?_ ?_ _ | refine zS ?_ ?_ _ | refine zT ?_ (zM (by assumption) ?_) | exact Nat.le_refl _ | (simp <;> omega) | omega)))).mono ?_
     rintro e w4 ⟨v2, rfl, hr4, hk4, he4⟩
     obtain ⟨a2', c2', rfl, -⟩ := LExpr.inv he4.is
     have hs4 : w1.heap.size + 2 ≤ w4.heap.size := by have := hk4.size; have := HSN.out; have := HK2.out.size; have := HK3.out.size; simp at *; omega
     have hs5 : w1.heap.size + 1 < w4.heap.size := by omega
     have HOK4 := Lib.hid (hk4.obj (k := w1.heap.size) (by have := HS0.out; omega) (obj_below HOK3.out (by repeat (first | exact zR _ _ | assumption | refine zN ?_ _ | refine zD ?_ | refine zA ?_ ?_ _ | refine zS ?_ ?_ _ | refine zT ?_ (zM (by assumption) ?_) | exact Nat.le_refl _ | (simp <;> omega) | omega))))
     have h94 := hk4.obj (k := w1.heap.size + 1) (by have := HS0.out; omega) (obj_below H9.out (by repeat (first | exact zR _ _ | assumption | refine zN ?_ _ | refine zD ?_ | refine zA ?_ ?_ _ | refine zS ?_ ?_ _ | refine zT ?_ (zM (by assumption) ?_) | exact Nat.le_refl _ | (simp <;> omega) | omega)))
     have d4 := objcell h94 (j := 3) rfl
     have H94 := Lib.hid h94
     have HR4 := Lib.hid hr4
     have HK4 := Lib.hid hk4
     have HE4 := Lib.hid he4
     clear hr4 hk4 he4 h94))
 all_goals
  have hlt1 : W.heap.size < w1.heap.size := by have := HS0.out; omega
  have hltg : g < w1.heap.size := by omega
  have HX4 := Lib.hid (HK4.out.obj (k := W.heap.size) (by omega) (obj_below (HK3.out.obj (by omega) (HK2.out.obj (by omega) HX8.out)) (by repeat (first | exact zR _ _ | assumption | refine zN ?_ _ | refine zD ?_ | refine zA ?_ ?_ _ | refine zS ?_ ?_ _ | refine zT ?_ (zM (by assumption) ?_) | exact Nat.le_refl _ | (simp <;> omega) | omega))))
  have hX5 := obj_grow (obj_below HX4.out (by repeat (first | exact zR _ _ | assumption | refine zN ?_ _ | refine zD ?_ | refine zA ?_ ?_ _ | refine zS ?_ ?_ _ | refine zT ?_ (zM (by assumption) ?_) | exact Nat.le_refl _ | (simp <;> omega) | omega))) HG5.out (by simp [Value.ownBlock]; omega)
  have hR5 : Rd g w5 s a2 op := obj_grow (obj_below HR4.out (by repeat (first | exact zR _ _ | assumption | refine zN ?_ _ | refine zD ?_ | refine zA ?_ ?_ _ | refine zS ?_ ?_ _ | refine zT ?_ (zM (by assumption) ?_) | exact Nat.le_refl _ | (simp <;> omega) | omega))) HG5.out (by simp [Value.ownBlock]; omega)
  have hR6 : Rd g (w5.setCell ⟨w1.heap.size + 1, 3, none⟩ (.slice (some ⟨G, 0, none⟩) 2 cap)) s a2 op := hR5.other (by omega)
  have hX6 : (w5.setCell ⟨w1.heap.size + 1, 3, none⟩ (.slice (some ⟨G, 0, none⟩) 2 cap)).heap[W.heap.size]? = some (.cells #[.int .i64 0, .string ⟨#[]⟩, .string ⟨#[]⟩, .slice none 0 0] 30 (0, 0)) := by
   rw [blk_set_other _ _ _ _ (show W.heap.size ≠ w1.heap.size + 1 by omega)]; exact hX5
  have hO6 : (w5.setCell ⟨w1.heap.size + 1, 3, none⟩ (.slice (some ⟨G, 0, none⟩) 2 cap)).heap[w1.heap.size + 1]? = some (.cells #[.int .i64 kind, .string ⟨#[]⟩, .string ⟨#[]⟩, .slice (some ⟨G, 0, none⟩) 2 cap] 30 (0, 0)) := setCell_obj _ _ 3 _ H95.out
  have hGne : G ≠ w1.heap.size + 1 := by
   intro e
   subst e
   have h1 := HGO.out
   rw [H95.out] at h1
   cases h1
   have h2 := congrArg List.length HCU.out
   simp at h2
  have hG6 : (w5.setCell ⟨w1.heap.size + 1, 3, none⟩ (.slice (some ⟨G, 0, none⟩) 2 cap)).heap[G]? = some (.cells cur 30 (0, 0)) := by
   rw [blk_set_other _ _ _ _ hGne]; exact HGO.out
  have hKa : Kx g W w4 := HKW.out.trans ((Kx.below (Nat.le_of_lt hgw) (by repeat (first | exact zR _ _ | assumption | refine zN ?_ _ | refine zD ?_ | refine zA ?_ ?_ _ | refine zS ?_ ?_ _ | refine zT ?_ (zM (by assumption) ?_) | exact Nat.le_refl _ | (simp <;> omega) | omega))).trans HK4.out)
  have hKb : Kx g w1 w4 := ((Kx.below (Nat.le_of_lt hltg) HBN.out).trans (HK2.out.trans HK3.out)).trans ((Kx.below (Nat.le_of_lt hgw) (by repeat (first | exact zR _ _ | assumption | refine zN ?_ _ | refine zD ?_ | refine zA ?_ ?_ _ | refine zS ?_ ?_ _ | refine zT ?_ (zM (by assumption) ?_) | exact Nat.le_refl _ | (simp <;> omega) | omega))).trans HK4.out)
  have hg4 : g ≤ w4.heap.size := by omega
  have hb4 : Below w4.heap.size w4 (w4.alloc (.cells #[.int .i64 k2, .string n2, .string x2, .slice a2' ks2.length c2'] 30)) := (by repeat (first | exact zR _ _ | assumption | refine zN ?_ _ | refine zD ?_ | refine zA ?_ ?_ _ | refine zS ?_ ?_ _ | refine zT ?_ (zM (by assumption) ?_) | exact Nat.le_refl _ | (simp <;> omega) | omega))
  have hK6 : Kx g W (w5.setCell ⟨w1.heap.size + 1, 3, none⟩ (.slice (some ⟨G, 0, none⟩) 2 cap)) := ((hKa.trans (Kx.below hg4 hb4)).grow HG5.out hg (by intro r e; simp [Value.ownBlock] at e; omega)).set hg (by omega)
  have hL6 : Kx g w1 (w5.setCell ⟨w1.heap.size + 1, 3, none⟩ (.slice (some ⟨G, 0, none⟩) 2 cap)) := ((hKb.trans (Kx.below hg4 hb4)).grow HG5.out hltg (by intro r e; simp [Value.ownBlock] at e; omega)).set hltg (by omega)
  have hs3 : w1.heap.size + 2 ≤ w3.drew.heap.size := by have := HSN.out; have := HK2.out.size; have := HK3.out.size; simp; omega
  have hM6 : Kv (fun k => k < w3.drew.heap.size) w4 (w5.setCell ⟨w1.heap.size + 1, 3, none⟩ (.slice (some ⟨G, 0, none⟩) 2 cap)) := ((Kv.of_below hb4).grow HG5.out (by intro r e; simp [Value.ownBlock] at e; omega)).trans (Kv.setCell _ _ (show w1.heap.size + 1 < _ by omega))
  generalize w5.setCell ⟨w1.heap.size + 1, 3, none⟩ (.slice (some ⟨G, 0, none⟩) 2 cap) = w6 at *
  have c3 : w6.cell? ⟨g, 3, none⟩ = some (.int .i64 0) := hR6.cell (j := 3) rfl
  have HX6 := Lib.hid hX6
  have HO6 := Lib.hid hO6
  have HG6 := Lib.hid hG6
  have HK6 := Lib.hid hK6
  have HL6 := Lib.hid hL6
  have HM6 := Lib.hid hM6
  have HR6 := Lib.hid hR6
  clear hX5 hR5 hX6 hO6 hG6 hKa hKb hb4 hK6 hL6 hM6 hR6 d3 f3 f5 d5 d4 hGne hts
  go_wp2_with fail
  rw [rounds_succ]
  go_wp2_with fail
  refine (HPK2.out _ HR6.out).mono ?_
  rintro e w7 ⟨rfl, hr7, hk7⟩
  have hX := hk7.obj (k := W.heap.size) (by omega) HX6.out
  have h9 := hk7.obj (k := w1.heap.size + 1) (by omega) HO6.out
  have hG7 := hk7.obj (k := G) (by omega) HG6.out
  have d0 : w7.cell? ⟨w1.heap.size + 1, 0, none⟩ = some (.int .i64 kind) := objcell h9 rfl
  have d1 : w7.cell? ⟨w1.heap.size + 1, 1, none⟩ = some (.string ⟨#[]⟩) := objcell h9 rfl
  have d2 : w7.cell? ⟨w1.heap.size + 1, 2, none⟩ = some (.string ⟨#[]⟩) := objcell h9 rfl
  have d3 : w7.cell? ⟨w1.heap.size + 1, 3, none⟩ = some (.slice (some ⟨G, 0, none⟩) 2 cap) := objcell h9 rfl
  have f0 := objfrozen hX (j := 0)
  have f1 := objfrozen hX (j := 1)
  have f2 := objfrozen hX (j := 2)
  have f3 := objfrozen hX (j := 3)
  have z0 := objcell hX (j := 0) rfl
  have z1 := objcell hX (j := 1) rfl
  have z2 := objcell hX (j := 2) rfl
  have z3 := objcell hX (j := 3) rfl
  have HXX := Lib.hid hX
  have HR7 := Lib.hid hr7
  have HK7 := Lib.hid hk7
  have HG7 := Lib.hid hG7
  clear hX h9 hr7 hk7 c3 hG7
  go_wp2
  have hq : ∀ wz, wz = set4 w7 W.heap.size (.int .i64 kind) (.string ⟨#[]⟩) (.string ⟨#[]⟩) (.slice (some ⟨G, 0, none⟩) 2 cap) → wz.heap[W.heap.size]? = some (.cells #[.int .i64 kind, .string ⟨#[]⟩, .string ⟨#[]⟩, .slice (some ⟨G, 0, none⟩) 2 cap] 30 (0, 0)) ∧ Rd g wz s (s.size - l2.length) op ∧ Kx g W wz ∧ LE W.heap.size wz (.agg #[.int .i64 kind, .string ⟨#[]⟩, .string ⟨#[]⟩, .slice (some ⟨G, 0, none⟩) 2 cap]) (LExpr.mk kind ByteArray.empty ByteArray.empty [LExpr.mk k1 n1 x1 ks1, LExpr.mk k2 n2 x2 ks2]) := by
   rintro wz rfl
   have hs0 := HS0.out
   refine ⟨set4_obj HXX.out, HR7.out.set4 (by omega), (HK6.out.trans HK7.out).set4 hg (Nat.le_refl _), ?_⟩
   refine two_is (cur := cur) hki (by rw [set4_other (by omega)]; exact HG7.out) (by omega) hcap hcm HCU.out ?_ ?_
   ·refine (HE1.out.kv ?_).low (by omega)
    exact ((HL6.out.trans HK7.out).kv (by omega)).set4 (by omega)
   ·refine (HE4.out.kv ?_).low (by omega)
    exact (HM6.out.trans (HK7.out.kv (by omega))).set4 (by omega)
  have hq2 := hq _ rfl
  unfold set4 at hq2
  obtain ⟨hX3, hR3, hK3, hE3⟩ := hq2
  have e0 := objcell hX3 (j := 0) rfl
  have e1 := objcell hX3 (j := 1) rfl
  have e2 := objcell hX3 (j := 2) rfl
  have e3 := objcell hX3 (j := 3) rfl
  refine bodyPost_ret (v := .agg #[.int .i64 kind, .string ⟨#[]⟩, .string ⟨#[]⟩, .slice (some ⟨G, 0, none⟩) 2 cap]) ?_ rfl ⟨_, rfl, hR3, hK3, hE3⟩
  clear hq hX3 hR3 hK3 hE3
  generalize (((w7.setCell ⟨W.heap.size, 0, none⟩ (.int .i64 kind)).setCell ⟨W.heap.size, 1, none⟩ (.string ⟨#[]⟩)).setCell ⟨W.heap.size, 2, none⟩ (.string ⟨#[]⟩)).setCell ⟨W.heap.size, 3, none⟩ (.slice (some ⟨G, 0, none⟩) 2 cap) = w8 at *
  simp [results, Tryz.results110, go_sem, e0, e1, e2, e3]
end Go.Proofs.YtaaobpicaaeiiaaGreatDoor
namespace Go.Proofs.YtaaobpicaaeiiaaGreatDoor
open Go Go.RowKit Go.ChangeShapes Go.Lib

theorem leaf_is (lo : Nat) (W : World) {n : ByteArray} (hn : n.size ≤ maxLen) : LE lo W (.agg #[.int .i64 0, .string n, .string ⟨#[]⟩, .slice none 0 0]) (.mk 0 n ByteArray.empty []) :=
 fun _ _ => LExpr.mk' (k := 0) (ks := []) (c := 0) (by unfold inI64; omega) hn (show ByteArray.empty.size ≤ maxLen by decide) (Nat.le_refl _) (by decide) (fun i x h => by simp at h)
theorem dropWhile_twice (p : UInt8 → Bool) : ∀ l : List UInt8, (l.dropWhile p).dropWhile p = l.dropWhile p
 | [] => rfl
 | c :: r => by
  cases h : p c
  ·simp [List.dropWhile_cons, h]
  ·rw [List.dropWhile_cons, h]; exact dropWhile_twice p r
theorem skip_again {s : ByteArray} {a : Nat} {l : List UInt8} (hl : (s.data.toList.drop a).dropWhile (· == 32) = l) (ha : a ≤ s.size) : (s.data.toList.drop (s.size - l.length)).dropWhile (· == 32) = l := by
 have hsuf : l <:+ s.data.toList := by
  rw [← hl]
  exact (List.dropWhile_suffix _).trans (List.drop_suffix _ _)
 have hd : s.data.toList.drop (s.size - l.length) = l := by
  rw [← by_len]
  exact (List.suffix_iff_eq_drop.1 hsuf).symm
 rw [hd, ← hl]
 exact dropWhile_twice _ _
def PartR (g : Nat) (W1 : World) (s : ByteArray) (op a' : Nat) (x : LExpr) (e : Ending) (W' : World) : Prop := ∃ v, e = .returned v ∧ Rd g W' s a' op ∧ Kx g W1 W' ∧ LE W1.heap.size W' v x
theorem fin4 {g op a' lo k : Nat} {W w : World} {s : ByteArray} {x : LExpr} {u0 u1 u2 u3 v0 v1 v2 v3 : Value} {t : TypeId} (hX : w.heap[k]? = some (.cells #[u0, u1, u2, u3] t (0, 0))) (hR : Rd g w s a' op) (hK : Kx g W w) (hg : g < W.heap.size) (hE : LE lo w (.agg #[v0, v1, v2, v3]) x) (hk : W.heap.size ≤ k) (hlo : k < lo) :
  (set4 w k v0 v1 v2 v3).heap[k]? = some (.cells #[v0, v1, v2, v3] t (0, 0)) ∧ PartR g W s op a' x (.returned (.agg #[v0, v1, v2, v3])) (set4 w k v0 v1 v2 v3) :=
 ⟨set4_obj hX, _, rfl, hR.set4 (by omega), hK.set4 hg hk, (hE.kv ((Kv.refl _ _).set4 hlo)).low (by omega)⟩
set_option maxRecDepth 100000 in
set_option maxHeartbeats 1000000 in
theorem atom1_p (g b : Nat) (W : World) (s : ByteArray) (a op a' : Nat) (x : LExpr) (h : Rd g W s a op) (hb : W.cell? ⟨b, 0, none⟩ = some (.pointer (some ⟨g, 0, none⟩)))
  (hL : ∀ W1, Kx g W W1 → Rd g W1 s a op → Calls Tryz.prog 110 #[.pointer (some ⟨g, 0, none⟩), .int .i64 2, .string ⟨#[97, 110, 100]⟩, .func (.func 112) #[.pointer (some ⟨g, 0, none⟩)] #[]] W1 (PartR g W1 s op a' x)) :
  Calls Tryz.prog 164 #[.pointer (some ⟨b, 0, none⟩)] W (PartR g W s op a' x) := by
 have HR := Lib.hid h
 have HL := Lib.hid hL
 have hg := h.lt
 have hbl := cell_lt hb
 clear h hL
 go_enter Tryz.func164, Tryz.ntmps164
 go_wp2_with fail
 have hb0 : Below W.heap.size W (W.alloc (.cells #[.int .i64 0, .string ⟨#[]⟩, .string ⟨#[]⟩, .slice none 0 0] 30)) := (by repeat (first | exact zR _ _ | assumption | refine zN ?_ _ | refine zD ?_ | refine zA ?_ ?_ _ | refine zS ?_ ?_ _ | refine zT ?_ (zM (by assumption) ?_) | exact Nat.le_refl _ | (simp <;> omega) | omega))
 have hsz0 : (W.alloc (.cells #[.int .i64 0, .string ⟨#[]⟩, .string ⟨#[]⟩, .slice none 0 0] 30)).heap.size = W.heap.size + 1 := by simp
 have hbx0 : (W.alloc (.cells #[.int .i64 0, .string ⟨#[]⟩, .string ⟨#[]⟩, .slice none 0 0] 30)).heap[W.heap.size]? = some (.cells #[.int .i64 0, .string ⟨#[]⟩, .string ⟨#[]⟩, .slice none 0 0] 30 (0, 0)) := World.alloc_heap_new W _
 generalize (W.alloc (.cells #[.int .i64 0, .string ⟨#[]⟩, .string ⟨#[]⟩, .slice none 0 0] 30)) = W0 at *
 have hkk : Kx g W W0 := Kx.below (Nat.le_of_lt hg) hb0
 refine (HL.out W0 hkk (HR.out.below hb0)).mono ?_
 rintro e w1 ⟨v1, rfl, hr1, hk1, he1⟩
 obtain ⟨k1, n1, x1, ks1⟩ := x
 obtain ⟨a1', c1', rfl, -⟩ := LExpr.inv he1.is
 have hX := hk1.obj (k := W.heap.size) (by omega) hbx0
 have HR2 := Lib.hid hr1
 have HK2 := Lib.hid (hkk.trans hk1)
 have HE2 := Lib.hid he1
 have hs0 : W.heap.size < W0.heap.size := by omega
 clear hr1 hk1 he1 hb0 hsz0 hbx0 hkk
 have f0 := objfrozen hX (j := 0)
 have f1 := objfrozen hX (j := 1)
 have f2 := objfrozen hX (j := 2)
 have f3 := objfrozen hX (j := 3)
 have z0 := objcell hX (j := 0) rfl
 have z1 := objcell hX (j := 1) rfl
 have z2 := objcell hX (j := 2) rfl
 have z3 := objcell hX (j := 3) rfl
 have HX := Lib.hid hX
 clear hX
 go_wp2
 obtain ⟨hX3, hP3⟩ := fin4 (v0 := .int .i64 k1) (v1 := .string n1) (v2 := .string x1) (v3 := .slice a1' ks1.length c1') HX.out HR2.out HK2.out hg HE2.out (by omega) (by omega)
 unfold set4 at hX3 hP3
 have e0 := objcell hX3 (j := 0) rfl
 have e1 := objcell hX3 (j := 1) rfl
 have e2 := objcell hX3 (j := 2) rfl
 have e3 := objcell hX3 (j := 3) rfl
 refine bodyPost_ret (v := .agg #[.int .i64 k1, .string n1, .string x1, .slice a1' ks1.length c1']) ?_ rfl hP3
 clear hX3 hP3
 generalize (((w1.setCell ⟨W.heap.size, 0, none⟩ (.int .i64 k1)).setCell ⟨W.heap.size, 1, none⟩ (.string n1)).setCell ⟨W.heap.size, 2, none⟩ (.string x1)).setCell ⟨W.heap.size, 3, none⟩ (.slice a1' ks1.length c1') = w8 at *
 simp [results, Tryz.results164, go_sem, e0, e1, e2, e3]
set_option maxRecDepth 100000 in
set_option maxHeartbeats 1000000 in
theorem atom_name (g : Nat) (W : World) (s : ByteArray) (a op : Nat) (l t l2 : List UInt8) (h : Rd g W s a op) (ha : a ≤ s.size) (hs : s.size ≤ 1000000) (hl : (s.data.toList.drop a).dropWhile (· == 32) = l) (hok : okL l = true) (ht : tokL l = t) (hn : nameB (mkS t) = true) (h0 : t.isEmpty = false) (h1 : (t == [43]) = false) (h2 : (t == [40]) = false) (h3 : (t == [41]) = false) (htl : t.length ≤ 1000)
  (hp : s.size - l.length + t.length ≤ s.size) (hl2 : (s.data.toList.drop (s.size - l.length + t.length)).dropWhile (· == 32) = l2) (hok2 : okL l2 = true) (hne1 : (tokL l2 == [43]) = false) (hne2 : (tokL l2 == [119, 105, 116, 104]) = false) :
  Calls Tryz.prog 112 #[.pointer (some ⟨g, 0, none⟩)] W (PartR g W s op (s.size - l2.length) (.mk 0 (mkS t) ByteArray.empty [])) := by
 have HR := Lib.hid h
 have hg := h.lt
 have hpk := fun W h => peek_p g W s a op l h ha hs hl hok
 rw [ht] at hpk
 have HPK := Lib.hid hpk
 have HNM := Lib.hid (fun W h => name_p g W s (s.size - l.length) op l t h (by omega) hs (skip_again hl ha) hok ht hn h0 h1 h2 h3 htl)
 have HPK2 := Lib.hid (fun W h => peek_p g W s (s.size - l.length + t.length) op l2 h hp hs hl2 hok2)
 have htt : (mkS t).toList = t := by rw [ByteArray.toList_eq, mkS_toList]
 have htt2 : (mkS (tokL l2)).toList = tokL l2 := by rw [ByteArray.toList_eq, mkS_toList]
 have hts : (mkS t).size ≤ maxLen := by rw [mkS_size]; unfold maxLen; omega
 generalize mkS t = T at *
 generalize mkS (tokL l2) = T2 at *
 rw [← htt] at h2
 rw [← htt2] at hne1 hne2
 have HTS := Lib.hid hts
 clear h hl hok ht hn h0 h1 h3 hl2 hok2 hpk htt htt2 hts
 go_enter Tryz.func112, Tryz.ntmps112
 go_wp2_with fail
 have hb0 : Below W.heap.size W ((W.alloc (.cells #[.pointer (some ⟨g, 0, none⟩)] 134)).alloc (.cells #[.int .i64 0, .string ⟨#[]⟩, .string ⟨#[]⟩, .slice none 0 0] 30)) := (by repeat (first | exact zR _ _ | assumption | refine zN ?_ _ | refine zD ?_ | refine zA ?_ ?_ _ | refine zS ?_ ?_ _ | refine zT ?_ (zM (by assumption) ?_) | exact Nat.le_refl _ | (simp <;> omega) | omega))
 have hsz0 : ((W.alloc (.cells #[.pointer (some ⟨g, 0, none⟩)] 134)).alloc (.cells #[.int .i64 0, .string ⟨#[]⟩, .string ⟨#[]⟩, .slice none 0 0] 30)).heap.size = W.heap.size + 1 + 1 := by simp
 obtain ⟨hbP, hbx0⟩ := obj2 W #[.pointer (some ⟨g, 0, none⟩)] #[.int .i64 0, .string ⟨#[]⟩, .string ⟨#[]⟩, .slice none 0 0] 134 30
 generalize ((W.alloc (.cells #[.pointer (some ⟨g, 0, none⟩)] 134)).alloc (.cells #[.int .i64 0, .string ⟨#[]⟩, .string ⟨#[]⟩, .slice none 0 0] 30)) = W0 at *
 have HKK : Hid (Kx g W W0) := Lib.hid (Kx.below (Nat.le_of_lt hg) hb0)
 refine (HPK.out W0 (HR.out.below hb0)).mono ?_
 rintro e w1 ⟨rfl, hr1, hk1⟩
 have hP1 := hk1.obj (k := W.heap.size) (by omega) hbP
 have hX1 := hk1.obj (k := W.heap.size + 1) (by omega) hbx0
 have p1 : w1.cell? ⟨W.heap.size, 0, none⟩ = some (.pointer (some ⟨g, 0, none⟩)) := objcell hP1 rfl
 have HP1 := Lib.hid hP1
 have HX1 := Lib.hid hX1
 have HR1 := Lib.hid hr1
 have HK1 := Lib.hid (HKK.out.trans hk1)
 clear hr1 hb0 hbx0 hbP hP1 hX1
 have hs1 : W.heap.size + 1 < w1.heap.size := by have := hk1.size; omega
 clear hk1 hsz0
 go_wp2_with fail
 refine (HNM.out w1 HR1.out).mono ?_
 rintro e w2 ⟨rfl, hr2, hk2⟩
 have hs2 : W.heap.size + 1 < w2.heap.size := by have := hk2.size; omega
 have hg2 : g < w2.heap.size := by omega
 have hs2' : W.heap.size < w2.heap.size := by omega
 have HP2 := Lib.hid (hk2.obj (k := W.heap.size) (by omega) HP1.out)
 have HX2 := Lib.hid (hk2.obj (k := W.heap.size + 1) (by omega) HX1.out)
 have p2 : w2.cell? ⟨W.heap.size, 0, none⟩ = some (.pointer (some ⟨g, 0, none⟩)) := objcell HP2.out rfl
 have HR2' := Lib.hid hr2
 have HK2' := Lib.hid (HK1.out.trans hk2)
 clear hr2 hk2 p1
 go_wp2_with fail
 have hb3 : Below w2.heap.size w2 (w2.alloc (.cells #[.int .i64 0, .string T, .string ⟨#[]⟩, .slice none 0 0] 30)) := (by repeat (first | exact zR _ _ | assumption | refine zN ?_ _ | refine zD ?_ | refine zA ?_ ?_ _ | refine zS ?_ ?_ _ | refine zT ?_ (zM (by assumption) ?_) | exact Nat.le_refl _ | (simp <;> omega) | omega))
 have HO3 := Lib.hid (World.alloc_heap_new w2 (.cells #[.int .i64 0, .string T, .string ⟨#[]⟩, .slice none 0 0] 30))
 generalize (w2.alloc (.cells #[.int .i64 0, .string T, .string ⟨#[]⟩, .slice none 0 0] 30)) = W3 at *
 have HB3 := Lib.hid hb3
 clear hb3 p2
 refine (HPK2.out W3 (HR2'.out.below HB3.out)).mono ?_
 rintro e w3 ⟨rfl, hr3, hk3⟩
 have hX := hk3.obj (k := W.heap.size + 1) (by omega) (obj_below HX2.out HB3.out)
 have hP3 := hk3.obj (k := W.heap.size) (by omega) (obj_below HP2.out HB3.out)
 have hO := hk3.obj (k := w2.heap.size) (by omega) HO3.out
 have p3 : w3.cell? ⟨W.heap.size, 0, none⟩ = some (.pointer (some ⟨g, 0, none⟩)) := objcell hP3 rfl
 have d0 : w3.cell? ⟨w2.heap.size, 0, none⟩ = some (.int .i64 0) := objcell hO rfl
 have d1 : w3.cell? ⟨w2.heap.size, 1, none⟩ = some (.string T) := objcell hO rfl
 have d2 : w3.cell? ⟨w2.heap.size, 2, none⟩ = some (.string ⟨#[]⟩) := objcell hO rfl
 have d3 : w3.cell? ⟨w2.heap.size, 3, none⟩ = some (.slice none 0 0) := objcell hO rfl
 have HR2 := Lib.hid hr3
 have HK2 := Lib.hid (HK2'.out.trans ((Kx.below (Nat.le_of_lt hg2) HB3.out).trans hk3))
 have HE2 := Lib.hid (leaf_is (W.heap.size + 2) w3 HTS.out)
 clear hr3 hk3 hP3 hO
 have f0 := objfrozen hX (j := 0)
 have f1 := objfrozen hX (j := 1)
 have f2 := objfrozen hX (j := 2)
 have f3 := objfrozen hX (j := 3)
 have z0 := objcell hX (j := 0) rfl
 have z1 := objcell hX (j := 1) rfl
 have z2 := objcell hX (j := 2) rfl
 have z3 := objcell hX (j := 3) rfl
 have HX := Lib.hid hX
 clear hX
 go_wp2
 obtain ⟨hX3, hP3⟩ := fin4 (v0 := .int .i64 0) (v1 := .string T) (v2 := .string ⟨#[]⟩) (v3 := .slice none 0 0) HX.out HR2.out HK2.out hg HE2.out (by omega) (by omega)
 unfold set4 at hX3 hP3
 have e0 := objcell hX3 (j := 0) rfl
 have e1 := objcell hX3 (j := 1) rfl
 have e2 := objcell hX3 (j := 2) rfl
 have e3 := objcell hX3 (j := 3) rfl
 refine bodyPost_ret (v := .agg #[.int .i64 0, .string T, .string ⟨#[]⟩, .slice none 0 0]) ?_ rfl hP3
 clear hX3 hP3
 generalize (((w3.setCell ⟨W.heap.size + 1, 0, none⟩ (.int .i64 0)).setCell ⟨W.heap.size + 1, 1, none⟩ (.string T)).setCell ⟨W.heap.size + 1, 2, none⟩ (.string ⟨#[]⟩)).setCell ⟨W.heap.size + 1, 3, none⟩ (.slice none 0 0) = w8 at *
 simp [results, Tryz.results112, go_sem, e0, e1, e2, e3]
end Go.Proofs.YtaaobpicaaeiiaaGreatDoor
namespace Go.Proofs.YtaaobpicaaeiiaaGreatDoor
open Go Go.RowKit Go.ChangeShapes Go.Lib

set_option maxRecDepth 100000 in
set_option maxHeartbeats 1000000 in
theorem atom_paren (g : Nat) (W : World) (s : ByteArray) (a op a1 : Nat) (l l2 : List UInt8) (x : LExpr) (h : Rd g W s a op) (ha : a ≤ s.size) (hs : s.size ≤ 1000000) (hl : (s.data.toList.drop a).dropWhile (· == 32) = l) (hok : okL l = true) (ht : tokL l = [40]) (hop : op < 24)
  (hL : ∀ W1 b, W1.cell? ⟨b, 0, none⟩ = some (.pointer (some ⟨g, 0, none⟩)) → b ≠ g → Rd g W1 s (s.size - l.length + 1) (op + 1) → Calls Tryz.prog 110 #[.pointer (some ⟨g, 0, none⟩), .int .i64 3, .string ⟨#[111, 114]⟩, .func (.func 164) #[] #[.pointer (some ⟨b, 0, none⟩)]] W1 (PartR g W1 s (op + 1) a1 x))
  (ha1 : a1 ≤ s.size) (hl2 : (s.data.toList.drop a1).dropWhile (· == 32) = l2) (hok2 : okL l2 = true) (ht2 : tokL l2 = [41]) :
  Calls Tryz.prog 112 #[.pointer (some ⟨g, 0, none⟩)] W (PartR g W s op (s.size - l2.length + 1) x) := by
 have HR := Lib.hid h
 have hg := h.lt
 have hpk := fun W h => peek_p g W s a op l h ha hs hl hok
 have hpk2 := fun W h => peek_p g W s a1 (op + 1) l2 h ha1 hs hl2 hok2
 rw [ht] at hpk
 rw [ht2] at hpk2
 have hp40 : ((mkS [40]).toList == [40]) = true := by rw [ByteArray.toList_eq, mkS_toList]; rfl
 have hp41 : ((mkS [41]).toList == [41]) = true := by rw [ByteArray.toList_eq, mkS_toList]; rfl
 generalize mkS [40] = P40 at hp40 hpk
 generalize mkS [41] = P41 at hp41 hpk2
 have HPK := Lib.hid hpk
 have HPK2 := Lib.hid hpk2
 have HL := Lib.hid hL
 have hop2 : ((op : Int) == 24) = false := by simp; omega
 have hop3 : (op : Int) < 24 := by omega
 clear h hl hok ht hl2 hok2 ht2 hpk hpk2 hL
 go_enter Tryz.func112, Tryz.ntmps112
 go_wp2_with fail
 have hb0 : Below W.heap.size W ((W.alloc (.cells #[.pointer (some ⟨g, 0, none⟩)] 134)).alloc (.cells #[.int .i64 0, .string ⟨#[]⟩, .string ⟨#[]⟩, .slice none 0 0] 30)) := (by repeat (first | exact zR _ _ | assumption | refine zN ?_ _ | refine zD ?_ | refine zA ?_ ?_ _ | refine zS ?_ ?_ _ | refine zT ?_ (zM (by assumption) ?_) | exact Nat.le_refl _ | (simp <;> omega) | omega))
 have hsz0 : ((W.alloc (.cells #[.pointer (some ⟨g, 0, none⟩)] 134)).alloc (.cells #[.int .i64 0, .string ⟨#[]⟩, .string ⟨#[]⟩, .slice none 0 0] 30)).heap.size = W.heap.size + 1 + 1 := by simp
 obtain ⟨hbP, hbx0⟩ := obj2 W #[.pointer (some ⟨g, 0, none⟩)] #[.int .i64 0, .string ⟨#[]⟩, .string ⟨#[]⟩, .slice none 0 0] 134 30
 generalize ((W.alloc (.cells #[.pointer (some ⟨g, 0, none⟩)] 134)).alloc (.cells #[.int .i64 0, .string ⟨#[]⟩, .string ⟨#[]⟩, .slice none 0 0] 30)) = W0 at *
 have HKK : Hid (Kx g W W0) := Lib.hid (Kx.below (Nat.le_of_lt hg) hb0)
 refine (HPK.out W0 (HR.out.below hb0)).mono ?_
 rintro e w1 ⟨rfl, hr1, hk1⟩
 have hP1 := hk1.obj (k := W.heap.size) (by omega) hbP
 have hX1 := hk1.obj (k := W.heap.size + 1) (by omega) hbx0
 have p1 : w1.cell? ⟨W.heap.size, 0, none⟩ = some (.pointer (some ⟨g, 0, none⟩)) := objcell hP1 rfl
 have o1 : w1.cell? ⟨g, 2, none⟩ = some (.int .i64 op) := hr1.cell (j := 2) rfl
 have HP1 := Lib.hid hP1
 have HX1 := Lib.hid hX1
 have HR1 := Lib.hid hr1
 have HK1 := Lib.hid (HKK.out.trans hk1)
 clear hr1 hb0 hbx0 hbP hP1 hX1
 have hs1 : W.heap.size + 1 < w1.heap.size := by have := hk1.size; omega
 clear hk1 hsz0
 go_wp2_with fail
 refine (take_p g w1 s ⟨#[40]⟩ _ op HR1.out (by show s.size - l.length + 1 ≤ 2000000; omega)).mono ?_
 rintro e w2 ⟨rfl, hr2, hk2⟩
 have hr2' : Rd g w2 s (s.size - l.length + 1) op := hr2
 have hP2 := hk2.obj (k := W.heap.size) (by omega) HP1.out
 have hX2 := hk2.obj (k := W.heap.size + 1) (by omega) HX1.out
 have hs2 : W.heap.size + 1 < w2.heap.size := by have := hk2.size; omega
 have p2 : w2.cell? ⟨W.heap.size, 0, none⟩ = some (.pointer (some ⟨g, 0, none⟩)) := objcell hP2 rfl
 have o2 : w2.cell? ⟨g, 2, none⟩ = some (.int .i64 op) := hr2'.cell (j := 2) rfl
 have of2 := hr2'.frozen 2
 have HR2' := Lib.hid hr2'
 have HK2' := Lib.hid (HK1.out.trans hk2)
 have HP2 := Lib.hid hP2
 have HX2 := Lib.hid hX2
 clear hr2 hr2' hk2 hP2 hX2 p1 o1
 go_wp2_with fail
 have hr3 : Rd g (w2.setCell ⟨g, 2, none⟩ (.int .i64 ((op : Int) + 1))) s (s.size - l.length + 1) (op + 1) := by have := HR2'.out.setOp (op + 1); simpa using this
 have hk3 : Kx g w2 (w2.setCell ⟨g, 2, none⟩ (.int .i64 ((op : Int) + 1))) := Kx.setCell _ _ _ _
 generalize w2.setCell ⟨g, 2, none⟩ (.int .i64 ((op : Int) + 1)) = w3 at *
 have hP3 := hk3.obj (k := W.heap.size) (by omega) HP2.out
 have hX3 := hk3.obj (k := W.heap.size + 1) (by omega) HX2.out
 have hs3 : W.heap.size + 1 < w3.heap.size := by have := hk3.size; omega
 have p3 : w3.cell? ⟨W.heap.size, 0, none⟩ = some (.pointer (some ⟨g, 0, none⟩)) := objcell hP3 rfl
 have HR3 := Lib.hid hr3
 have HK3 := Lib.hid (HK2'.out.trans hk3)
 have HP3 := Lib.hid hP3
 have HX3 := Lib.hid hX3
 clear hr3 hk3 hP3 hX3 p2 o2 of2
 refine (HL.out w3 W.heap.size p3 (by omega) HR3.out).mono ?_
 unfold PartR
 rintro e w4 ⟨v1, rfl, hr4, hk4, he4⟩
 obtain ⟨k1, n1, x1, ks1⟩ := x
 obtain ⟨a1', c1', rfl, -⟩ := LExpr.inv he4.is
 have hs4 : W.heap.size + 1 < w4.heap.size := by have := hk4.size; omega
 have hs4' : W.heap.size < w4.heap.size := by omega
 have hg4 : g < w4.heap.size := by omega
 have HP4 := Lib.hid (hk4.obj (k := W.heap.size) (by omega) HP3.out)
 have HX4 := Lib.hid (hk4.obj (k := W.heap.size + 1) (by omega) HX3.out)
 have p4 : w4.cell? ⟨W.heap.size, 0, none⟩ = some (.pointer (some ⟨g, 0, none⟩)) := objcell HP4.out rfl
 have HR4 := Lib.hid hr4
 have HK4 := Lib.hid (HK3.out.trans hk4)
 have HE4 := Lib.hid he4
 clear hr4 hk4 he4 p3
 go_wp2_with fail
 have hb5 : Below w4.heap.size w4 (w4.alloc (.cells #[.int .i64 k1, .string n1, .string x1, .slice a1' ks1.length c1'] 30)) := (by repeat (first | exact zR _ _ | assumption | refine zN ?_ _ | refine zD ?_ | refine zA ?_ ?_ _ | refine zS ?_ ?_ _ | refine zT ?_ (zM (by assumption) ?_) | exact Nat.le_refl _ | (simp <;> omega) | omega))
 have HO5 := Lib.hid (World.alloc_heap_new w4 (.cells #[.int .i64 k1, .string n1, .string x1, .slice a1' ks1.length c1'] 30))
 generalize (w4.alloc (.cells #[.int .i64 k1, .string n1, .string x1, .slice a1' ks1.length c1'] 30)) = W5 at *
 have HB5 := Lib.hid hb5
 clear hb5 p4
 refine (HPK2.out W5 (HR4.out.below HB5.out)).mono ?_
 rintro e w5 ⟨rfl, hr5, hk5⟩
 have hs5 : W.heap.size + 1 < w5.heap.size := by have := hk5.size; have := HB5.out.size; omega
 have hP5 := hk5.obj (k := W.heap.size) (by omega) (obj_below HP4.out HB5.out)
 have p5 : w5.cell? ⟨W.heap.size, 0, none⟩ = some (.pointer (some ⟨g, 0, none⟩)) := objcell hP5 rfl
 have HP5 := Lib.hid hP5
 have HX5 := Lib.hid (hk5.obj (k := W.heap.size + 1) (by omega) (obj_below HX4.out HB5.out))
 have HO5' := Lib.hid (hk5.obj (k := w4.heap.size) (by omega) HO5.out)
 have HR5 := Lib.hid hr5
 have HK5 := Lib.hid (HK4.out.trans ((Kx.below (Nat.le_of_lt hg4) HB5.out).trans hk5))
 have HE5 := Lib.hid (HE4.out.kv ((Kv.of_below HB5.out).trans (hk5.kv (lo := w3.heap.size) (by omega))))
 clear hr5 hk5 hP5
 go_wp2_with fail
 refine (take_p g w5 s ⟨#[41]⟩ _ (op + 1) HR5.out (by show s.size - l2.length + 1 ≤ 2000000; omega)).mono ?_
 rintro e w6 ⟨rfl, hr6, hk6⟩
 have hr6' : Rd g w6 s (s.size - l2.length + 1) (op + 1) := hr6
 have p6 : w6.cell? ⟨W.heap.size, 0, none⟩ = some (.pointer (some ⟨g, 0, none⟩)) := objcell (hk6.obj (k := W.heap.size) (by omega) HP5.out) rfl
 have o6 : w6.cell? ⟨g, 2, none⟩ = some (.int .i64 ((op : Int) + 1)) := by have := hr6'.cell (j := 2) rfl; simpa using this
 have of6 := hr6'.frozen 2
 have hr7 : Rd g (w6.setCell ⟨g, 2, none⟩ (.int .i64 (op : Int))) s (s.size - l2.length + 1) op := hr6'.setOp op
 have hk7 : Kx g w5 (w6.setCell ⟨g, 2, none⟩ (.int .i64 (op : Int))) := hk6.trans (Kx.setCell _ _ _ _)
 have hX := hk7.obj (k := W.heap.size + 1) (by omega) HX5.out
 have hO := hk7.obj (k := w4.heap.size) (by omega) HO5'.out
 clear hr6 hr6' hk6 p5
 go_upto_region 13 with fail
 generalize w6.setCell ⟨g, 2, none⟩ (.int .i64 (op : Int)) = w7 at *
 have d0 : w7.cell? ⟨w4.heap.size, 0, none⟩ = some (.int .i64 k1) := objcell hO rfl
 have d1 : w7.cell? ⟨w4.heap.size, 1, none⟩ = some (.string n1) := objcell hO rfl
 have d2 : w7.cell? ⟨w4.heap.size, 2, none⟩ = some (.string x1) := objcell hO rfl
 have d3 : w7.cell? ⟨w4.heap.size, 3, none⟩ = some (.slice a1' ks1.length c1') := objcell hO rfl
 have HR2 := Lib.hid hr7
 have HK2 := Lib.hid (HK5.out.trans hk7)
 have HE2 := Lib.hid (HE5.out.kv (hk7.kv (lo := w3.heap.size) (by omega)))
 clear hr7 hk7 hO
 have f0 := objfrozen hX (j := 0)
 have f1 := objfrozen hX (j := 1)
 have f2 := objfrozen hX (j := 2)
 have f3 := objfrozen hX (j := 3)
 have z0 := objcell hX (j := 0) rfl
 have z1 := objcell hX (j := 1) rfl
 have z2 := objcell hX (j := 2) rfl
 have z3 := objcell hX (j := 3) rfl
 have HX := Lib.hid hX
 clear hX
 go_wp2
 obtain ⟨hX3, hP3⟩ := fin4 (v0 := .int .i64 k1) (v1 := .string n1) (v2 := .string x1) (v3 := .slice a1' ks1.length c1') HX.out HR2.out HK2.out hg HE2.out (by omega) (by omega)
 unfold set4 at hX3 hP3
 have e0 := objcell hX3 (j := 0) rfl
 have e1 := objcell hX3 (j := 1) rfl
 have e2 := objcell hX3 (j := 2) rfl
 have e3 := objcell hX3 (j := 3) rfl
 refine bodyPost_ret (v := .agg #[.int .i64 k1, .string n1, .string x1, .slice a1' ks1.length c1']) ?_ rfl hP3
 clear hX3 hP3
 generalize (((w7.setCell ⟨W.heap.size + 1, 0, none⟩ (.int .i64 k1)).setCell ⟨W.heap.size + 1, 1, none⟩ (.string n1)).setCell ⟨W.heap.size + 1, 2, none⟩ (.string x1)).setCell ⟨W.heap.size + 1, 3, none⟩ (.slice a1' ks1.length c1') = w8 at *
 simp [results, Tryz.results112, go_sem, e0, e1, e2, e3]
end Go.Proofs.YtaaobpicaaeiiaaGreatDoor
namespace Go.Proofs.YtaaobpicaaeiiaaGreatDoor
open Go Go.RowKit Go.ChangeShapes Go.Lib

def s33 : ByteArray := ⟨#[40, 97, 108, 100, 101, 114, 32, 111, 114, 32, 98, 105, 114, 99, 104, 41, 32, 97, 110, 100, 32, 99, 101, 100, 97, 114]⟩
theorem p_alder (g : Nat) (W : World) (op : Nat) (h : Rd g W s33 1 op) : Calls Tryz.prog 112 #[.pointer (some ⟨g, 0, none⟩)] W (PartR g W s33 op 7 (.mk 0 (mkS [97, 108, 100, 101, 114]) ByteArray.empty [])) :=
 atom_name g W s33 1 op [97, 108, 100, 101, 114, 32, 111, 114, 32, 98, 105, 114, 99, 104, 41, 32, 97, 110, 100, 32, 99, 101, 100, 97, 114] [97, 108, 100, 101, 114] [111, 114, 32, 98, 105, 114, 99, 104, 41, 32, 97, 110, 100, 32, 99, 101, 100, 97, 114] h (by decide) (by decide) rfl (by decide +kernel) (by decide +kernel) (by decide +kernel) rfl rfl rfl rfl (by decide) (by decide) rfl (by decide +kernel) (by decide +kernel) (by decide +kernel)
theorem p_birch (g : Nat) (W : World) (op : Nat) (h : Rd g W s33 9 op) : Calls Tryz.prog 112 #[.pointer (some ⟨g, 0, none⟩)] W (PartR g W s33 op 15 (.mk 0 (mkS [98, 105, 114, 99, 104]) ByteArray.empty [])) :=
 atom_name g W s33 9 op [98, 105, 114, 99, 104, 41, 32, 97, 110, 100, 32, 99, 101, 100, 97, 114] [98, 105, 114, 99, 104] [41, 32, 97, 110, 100, 32, 99, 101, 100, 97, 114] h (by decide) (by decide) rfl (by decide +kernel) (by decide +kernel) (by decide +kernel) rfl rfl rfl rfl (by decide) (by decide) rfl (by decide +kernel) (by decide +kernel) (by decide +kernel)
theorem p_cedar (g : Nat) (W : World) (op : Nat) (h : Rd g W s33 20 op) : Calls Tryz.prog 112 #[.pointer (some ⟨g, 0, none⟩)] W (PartR g W s33 op 26 (.mk 0 (mkS [99, 101, 100, 97, 114]) ByteArray.empty [])) :=
 atom_name g W s33 20 op [99, 101, 100, 97, 114] [99, 101, 100, 97, 114] [] h (by decide) (by decide) rfl (by decide +kernel) (by decide +kernel) (by decide +kernel) rfl rfl rfl rfl (by decide) (by decide) rfl (by decide +kernel) (by decide +kernel) (by decide +kernel)
theorem l_alder (g : Nat) (W : World) (op : Nat)  (h : Rd g W s33 1 op) : Calls Tryz.prog 110 #[.pointer (some ⟨g, 0, none⟩), .int .i64 2, .string ⟨#[97, 110, 100]⟩, .func (.func 112) #[.pointer (some ⟨g, 0, none⟩)] #[]] W (PartR g W s33 op 7 (.mk 0 (mkS [97, 108, 100, 101, 114]) ByteArray.empty [])) :=
 list_one g 112 W s33 ⟨#[97, 110, 100]⟩ 1 op 7 2 #[.pointer (some ⟨g, 0, none⟩)] #[] [111, 114, 32, 98, 105, 114, 99, 104, 41, 32, 97, 110, 100, 32, 99, 101, 100, 97, 114] (.mk 0 (mkS [97, 108, 100, 101, 114]) ByteArray.empty []) h (enters_of Tryz.func112 (by kernel_rfl) rfl) (fun W1 _ h1 => p_alder g W1 op h1) (by decide) (by decide) rfl (by decide +kernel) (by decide +kernel)
theorem l_birch (g : Nat) (W : World) (op : Nat)  (h : Rd g W s33 9 op) : Calls Tryz.prog 110 #[.pointer (some ⟨g, 0, none⟩), .int .i64 2, .string ⟨#[97, 110, 100]⟩, .func (.func 112) #[.pointer (some ⟨g, 0, none⟩)] #[]] W (PartR g W s33 op 15 (.mk 0 (mkS [98, 105, 114, 99, 104]) ByteArray.empty [])) :=
 list_one g 112 W s33 ⟨#[97, 110, 100]⟩ 9 op 15 2 #[.pointer (some ⟨g, 0, none⟩)] #[] [41, 32, 97, 110, 100, 32, 99, 101, 100, 97, 114] (.mk 0 (mkS [98, 105, 114, 99, 104]) ByteArray.empty []) h (enters_of Tryz.func112 (by kernel_rfl) rfl) (fun W1 _ h1 => p_birch g W1 op h1) (by decide) (by decide) rfl (by decide +kernel) (by decide +kernel)
theorem c_alder (g b : Nat) (W : World) (op : Nat) (hb : W.cell? ⟨b, 0, none⟩ = some (.pointer (some ⟨g, 0, none⟩))) (h : Rd g W s33 1 op) : Calls Tryz.prog 164 #[.pointer (some ⟨b, 0, none⟩)] W (PartR g W s33 op 7 (.mk 0 (mkS [97, 108, 100, 101, 114]) ByteArray.empty [])) :=
 atom1_p g b W s33 1 op 7 (.mk 0 (mkS [97, 108, 100, 101, 114]) ByteArray.empty []) h hb fun W1 _ h1 => l_alder g W1 op h1
theorem c_birch (g b : Nat) (W : World) (op : Nat) (hb : W.cell? ⟨b, 0, none⟩ = some (.pointer (some ⟨g, 0, none⟩))) (h : Rd g W s33 9 op) : Calls Tryz.prog 164 #[.pointer (some ⟨b, 0, none⟩)] W (PartR g W s33 op 15 (.mk 0 (mkS [98, 105, 114, 99, 104]) ByteArray.empty [])) :=
 atom1_p g b W s33 9 op 15 (.mk 0 (mkS [98, 105, 114, 99, 104]) ByteArray.empty []) h hb fun W1 _ h1 => l_birch g W1 op h1
theorem l_or (g : Nat) (W : World) (op : Nat) (b : Nat) (hb : W.cell? ⟨b, 0, none⟩ = some (.pointer (some ⟨g, 0, none⟩))) (hne : b ≠ g) (h : Rd g W s33 1 op) : Calls Tryz.prog 110 #[.pointer (some ⟨g, 0, none⟩), .int .i64 3, .string ⟨#[111, 114]⟩, .func (.func 164) #[] #[.pointer (some ⟨b, 0, none⟩)]] W (PartR g W s33 op 15 (.mk 3 ByteArray.empty ByteArray.empty [(.mk 0 (mkS [97, 108, 100, 101, 114]) ByteArray.empty []), (.mk 0 (mkS [98, 105, 114, 99, 104]) ByteArray.empty [])])) :=
 list_two g 164 W s33 ⟨#[111, 114]⟩ 1 op 7 15 3 #[] #[.pointer (some ⟨b, 0, none⟩)] [111, 114, 32, 98, 105, 114, 99, 104, 41, 32, 97, 110, 100, 32, 99, 101, 100, 97, 114] [41, 32, 97, 110, 100, 32, 99, 101, 100, 97, 114] (.mk 0 (mkS [97, 108, 100, 101, 114]) ByteArray.empty []) (.mk 0 (mkS [98, 105, 114, 99, 104]) ByteArray.empty []) h (enters_of Tryz.func164 (by kernel_rfl) rfl) (fun W1 k h1 => c_alder g b W1 op (k.cell hne hb) h1) (by decide) (by decide) rfl (by decide +kernel) rfl (fun W1 k h1 => c_birch g b W1 op (k.cell hne hb) h1) (by decide) rfl (by decide +kernel) (by decide +kernel) (by decide) (by unfold inI64; omega)
theorem p_paren (g : Nat) (W : World) (op : Nat) (hop : op < 24) (h : Rd g W s33 0 op) : Calls Tryz.prog 112 #[.pointer (some ⟨g, 0, none⟩)] W (PartR g W s33 op 16 (.mk 3 ByteArray.empty ByteArray.empty [(.mk 0 (mkS [97, 108, 100, 101, 114]) ByteArray.empty []), (.mk 0 (mkS [98, 105, 114, 99, 104]) ByteArray.empty [])])) :=
 atom_paren g W s33 0 op 15 [40, 97, 108, 100, 101, 114, 32, 111, 114, 32, 98, 105, 114, 99, 104, 41, 32, 97, 110, 100, 32, 99, 101, 100, 97, 114] [41, 32, 97, 110, 100, 32, 99, 101, 100, 97, 114] (.mk 3 ByteArray.empty ByteArray.empty [(.mk 0 (mkS [97, 108, 100, 101, 114]) ByteArray.empty []), (.mk 0 (mkS [98, 105, 114, 99, 104]) ByteArray.empty [])]) h (by decide) (by decide) rfl (by decide +kernel) (by decide +kernel) hop (fun W1 b hb hne h1 => l_or g W1 (op + 1) b hb hne h1) (by decide) rfl (by decide +kernel) (by decide +kernel)
theorem l_and (g : Nat) (W : World) (op : Nat) (hop : op < 24) (h : Rd g W s33 0 op) : Calls Tryz.prog 110 #[.pointer (some ⟨g, 0, none⟩), .int .i64 2, .string ⟨#[97, 110, 100]⟩, .func (.func 112) #[.pointer (some ⟨g, 0, none⟩)] #[]] W (PartR g W s33 op 26 (.mk 2 ByteArray.empty ByteArray.empty [(.mk 3 ByteArray.empty ByteArray.empty [(.mk 0 (mkS [97, 108, 100, 101, 114]) ByteArray.empty []), (.mk 0 (mkS [98, 105, 114, 99, 104]) ByteArray.empty [])]), (.mk 0 (mkS [99, 101, 100, 97, 114]) ByteArray.empty [])])) :=
 list_two g 112 W s33 ⟨#[97, 110, 100]⟩ 0 op 16 26 2 #[.pointer (some ⟨g, 0, none⟩)] #[] [97, 110, 100, 32, 99, 101, 100, 97, 114] [] (.mk 3 ByteArray.empty ByteArray.empty [(.mk 0 (mkS [97, 108, 100, 101, 114]) ByteArray.empty []), (.mk 0 (mkS [98, 105, 114, 99, 104]) ByteArray.empty [])]) (.mk 0 (mkS [99, 101, 100, 97, 114]) ByteArray.empty []) h (enters_of Tryz.func112 (by kernel_rfl) rfl) (fun W1 _ h1 => p_paren g W1 op hop h1) (by decide) (by decide) rfl (by decide +kernel) rfl (fun W1 _ h1 => p_cedar g W1 op h1) (by decide) rfl (by decide +kernel) (by decide +kernel) (by decide) (by unfold inI64; omega)
end Go.Proofs.YtaaobpicaaeiiaaGreatDoor
namespace Go.Proofs.YtaaobpicaaeiiaaGreatDoor
open Go Go.RowKit Go.ChangeShapes Go.Lib

def x33 : LExpr := .mk 2 ByteArray.empty ByteArray.empty [(.mk 3 ByteArray.empty ByteArray.empty [(.mk 0 (mkS [97, 108, 100, 101, 114]) ByteArray.empty []), (.mk 0 (mkS [98, 105, 114, 99, 104]) ByteArray.empty [])]), (.mk 0 (mkS [99, 101, 100, 97, 114]) ByteArray.empty [])]
set_option maxRecDepth 100000 in
set_option maxHeartbeats 1000000 in
theorem parse1_p (g b : Nat) (W : World) (s : ByteArray) (a op a' : Nat) (x : LExpr) (h : Rd g W s a op) (hb : W.cell? ⟨b, 0, none⟩ = some (.pointer (some ⟨g, 0, none⟩)))
  (hL : ∀ W1, Kx g W W1 → Rd g W1 s a op → Calls Tryz.prog 110 #[.pointer (some ⟨g, 0, none⟩), .int .i64 2, .string ⟨#[97, 110, 100]⟩, .func (.func 112) #[.pointer (some ⟨g, 0, none⟩)] #[]] W1 (PartR g W1 s op a' x)) :
  Calls Tryz.prog 111 #[.pointer (some ⟨b, 0, none⟩)] W (PartR g W s op a' x) := by
 have HR := Lib.hid h
 have HL := Lib.hid hL
 have hg := h.lt
 have hbl := cell_lt hb
 clear h hL
 go_enter Tryz.func111, Tryz.ntmps111
 go_wp2_with fail
 have hb0 : Below W.heap.size W (W.alloc (.cells #[.int .i64 0, .string ⟨#[]⟩, .string ⟨#[]⟩, .slice none 0 0] 30)) := (by repeat (first | exact zR _ _ | assumption | refine zN ?_ _ | refine zD ?_ | refine zA ?_ ?_ _ | refine zS ?_ ?_ _ | refine zT ?_ (zM (by assumption) ?_) | exact Nat.le_refl _ | (simp <;> omega) | omega))
 have hsz0 : (W.alloc (.cells #[.int .i64 0, .string ⟨#[]⟩, .string ⟨#[]⟩, .slice none 0 0] 30)).heap.size = W.heap.size + 1 := by simp
 have hbx0 : (W.alloc (.cells #[.int .i64 0, .string ⟨#[]⟩, .string ⟨#[]⟩, .slice none 0 0] 30)).heap[W.heap.size]? = some (.cells #[.int .i64 0, .string ⟨#[]⟩, .string ⟨#[]⟩, .slice none 0 0] 30 (0, 0)) := World.alloc_heap_new W _
 generalize (W.alloc (.cells #[.int .i64 0, .string ⟨#[]⟩, .string ⟨#[]⟩, .slice none 0 0] 30)) = W0 at *
 have hkk : Kx g W W0 := Kx.below (Nat.le_of_lt hg) hb0
 refine (HL.out W0 hkk (HR.out.below hb0)).mono ?_
 rintro e w1 ⟨v1, rfl, hr1, hk1, he1⟩
 obtain ⟨k1, n1, x1, ks1⟩ := x
 obtain ⟨a1', c1', rfl, -⟩ := LExpr.inv he1.is
 have hX := hk1.obj (k := W.heap.size) (by omega) hbx0
 have HR2 := Lib.hid hr1
 have HK2 := Lib.hid (hkk.trans hk1)
 have HE2 := Lib.hid he1
 have hs0 : W.heap.size < W0.heap.size := by omega
 clear hr1 hk1 he1 hb0 hsz0 hbx0 hkk
 have f0 := objfrozen hX (j := 0)
 have f1 := objfrozen hX (j := 1)
 have f2 := objfrozen hX (j := 2)
 have f3 := objfrozen hX (j := 3)
 have z0 := objcell hX (j := 0) rfl
 have z1 := objcell hX (j := 1) rfl
 have z2 := objcell hX (j := 2) rfl
 have z3 := objcell hX (j := 3) rfl
 have HX := Lib.hid hX
 clear hX
 go_wp2
 obtain ⟨hX3, hP3⟩ := fin4 (v0 := .int .i64 k1) (v1 := .string n1) (v2 := .string x1) (v3 := .slice a1' ks1.length c1') HX.out HR2.out HK2.out hg HE2.out (by omega) (by omega)
 unfold set4 at hX3 hP3
 have e0 := objcell hX3 (j := 0) rfl
 have e1 := objcell hX3 (j := 1) rfl
 have e2 := objcell hX3 (j := 2) rfl
 have e3 := objcell hX3 (j := 3) rfl
 refine bodyPost_ret (v := .agg #[.int .i64 k1, .string n1, .string x1, .slice a1' ks1.length c1']) ?_ rfl hP3
 clear hX3 hP3
 generalize (((w1.setCell ⟨W.heap.size, 0, none⟩ (.int .i64 k1)).setCell ⟨W.heap.size, 1, none⟩ (.string n1)).setCell ⟨W.heap.size, 2, none⟩ (.string x1)).setCell ⟨W.heap.size, 3, none⟩ (.slice a1' ks1.length c1') = w8 at *
 simp [results, Tryz.results111, go_sem, e0, e1, e2, e3]
theorem l_top (g b : Nat) (W : World) (hb : W.cell? ⟨b, 0, none⟩ = some (.pointer (some ⟨g, 0, none⟩))) (hne : b ≠ g) (h : Rd g W s33 0 0) : Calls Tryz.prog 110 #[.pointer (some ⟨g, 0, none⟩), .int .i64 3, .string ⟨#[111, 114]⟩, .func (.func 111) #[] #[.pointer (some ⟨b, 0, none⟩)]] W (PartR g W s33 0 26 x33) :=
 list_one g 111 W s33 ⟨#[111, 114]⟩ 0 0 26 3 #[] #[.pointer (some ⟨b, 0, none⟩)] [] x33 h (enters_of Tryz.func111 (by kernel_rfl) rfl) (fun W1 k h1 => parse1_p g b W1 s33 0 0 26 x33 h1 (k.cell hne hb) fun W2 _ h2 => l_and g W2 0 (by decide) h2) (by decide) (by decide) rfl (by decide +kernel) (by decide +kernel)
theorem obj3 (w : World) (p q r : Array Value) (t s u : TypeId) : Below w.heap.size w (((w.alloc (.cells p t)).alloc (.cells q s)).alloc (.cells r u)) ∧ (((w.alloc (.cells p t)).alloc (.cells q s)).alloc (.cells r u)).heap.size = w.heap.size + 3 ∧ (((w.alloc (.cells p t)).alloc (.cells q s)).alloc (.cells r u)).heap[w.heap.size]? = some (.cells p t (0, 0)) ∧ (((w.alloc (.cells p t)).alloc (.cells q s)).alloc (.cells r u)).heap[w.heap.size + 1]? = some (.cells q s (0, 0)) ∧ (((w.alloc (.cells p t)).alloc (.cells q s)).alloc (.cells r u)).heap[w.heap.size + 1 + 1]? = some (.cells r u (0, 0)) := by
 obtain ⟨h1, h2⟩ := obj2 w p q t s
 have h3 := World.alloc_heap_new ((w.alloc (.cells p t)).alloc (.cells q s)) (.cells r u)
 have hb : Below ((w.alloc (.cells p t)).alloc (.cells q s)).heap.size ((w.alloc (.cells p t)).alloc (.cells q s)) (((w.alloc (.cells p t)).alloc (.cells q s)).alloc (.cells r u)) := (Below.refl _ _).alloc (Nat.le_refl _) _
 simp only [World.size_alloc] at h3
 refine ⟨?_, by simp, obj_below h1 hb, obj_below h2 hb, h3⟩
 exact (((Below.refl _ _).alloc (Nat.le_refl _) _).alloc (by simp) _).alloc (by simp; omega) _
set_option maxRecDepth 100000 in
set_option maxHeartbeats 1000000 in
theorem Parse33 (W : World) : Calls Tryz.prog 43 #[.string s33] W fun e W' => ∃ v, e = .returned (.tuple #[v, .int .i64 0, .int .i64 0]) ∧ Is W' v x33 ∧ Below W.heap.size W W' := by
 have hsz : s33.size = 26 := rfl
 have hp0 : (mkS (tokL [])).toList.isEmpty = true := by rw [ByteArray.toList_eq, mkS_toList]; rfl
 have hpk := fun g W h => peek_p g W s33 26 0 [] h (by decide) (by decide) rfl (by decide +kernel)
 generalize mkS (tokL []) = P0 at hp0 hpk
 have HPK := Lib.hid hpk
 clear hpk
 have HLT := Lib.hid l_top
 have hz : (s33.size : Int) ≤ 1024 := by rw [hsz]; decide
 clear hsz
 generalize hs33 : s33 = S at *
 have HSS := Lib.hid hs33
 clear hs33
 go_enter Tryz.func43, Tryz.ntmps43
 go_wp2_with fail
 obtain ⟨hb0, hsz0, hX0, hR0, hP0⟩ := obj3 W #[.int .i64 0, .string ⟨#[]⟩, .string ⟨#[]⟩, .slice none 0 0] #[.string S, .int .i64 0, .int .i64 0, .int .i64 0, .int .i64 0] #[.pointer (some ⟨W.heap.size + 1, 0, none⟩)] 30 136 134
 generalize (((W.alloc (.cells #[.int .i64 0, .string ⟨#[]⟩, .string ⟨#[]⟩, .slice none 0 0] 30)).alloc (.cells #[.string S, .int .i64 0, .int .i64 0, .int .i64 0, .int .i64 0] 136)).alloc (.cells #[.pointer (some ⟨W.heap.size + 1, 0, none⟩)] 134)) = W0 at *
 refine (HLT.out (W.heap.size + 1) (W.heap.size + 1 + 1) W0 (objcell hP0 rfl) (by omega) hR0).mono ?_
 unfold PartR
 rintro e w1 ⟨v1, rfl, hr1, hk1, he1⟩
 obtain ⟨x, hx⟩ : ∃ x, x = x33 := ⟨_, rfl⟩
 have hx5 : sizeE x = 5 := by rw [hx]; rfl
 have hd3 : depthE x = 3 := by rw [hx]; rfl
 have HXE := Lib.hid hx
 rw [← hx] at he1
 obtain ⟨k1, n1, x1, ks1⟩ := x
 obtain ⟨a1', c1', rfl, -⟩ := LExpr.inv he1.is
 have hs1 : W.heap.size + 1 + 1 < w1.heap.size := by have := hk1.size; omega
 have hP1 := hk1.obj (k := W.heap.size + 1 + 1) (by omega) hP0
 have p1 : w1.cell? ⟨W.heap.size + 1 + 1, 0, none⟩ = some (.pointer (some ⟨W.heap.size + 1, 0, none⟩)) := objcell hP1 rfl
 have HP1 := Lib.hid hP1
 have HX1 := Lib.hid (hk1.obj (k := W.heap.size) (by omega) hX0)
 have HR1 := Lib.hid hr1
 have HB1 := Lib.hid (hb0.trans (hk1.1.mono (by omega)))
 have HE1 := Lib.hid he1
 have HX5 := Lib.hid hx5
 have HD3 := Lib.hid hd3
 have HSZ := Lib.hid hsz0
 clear hr1 hk1 he1 hb0 hX0 hR0 hP0 hP1 hx hx5 hd3 hsz0
 go_wp2_with fail
 have hb2 : Below w1.heap.size w1 (w1.alloc (.cells #[.int .i64 k1, .string n1, .string x1, .slice a1' ks1.length c1'] 30)) := (by repeat (first | exact zR _ _ | assumption | refine zN ?_ _ | refine zD ?_ | refine zA ?_ ?_ _ | refine zS ?_ ?_ _ | refine zT ?_ (zM (by assumption) ?_) | exact Nat.le_refl _ | (simp <;> omega) | omega))
 have hO2 := World.alloc_heap_new w1 (.cells #[.int .i64 k1, .string n1, .string x1, .slice a1' ks1.length c1'] 30)
 generalize (w1.alloc (.cells #[.int .i64 k1, .string n1, .string x1, .slice a1' ks1.length c1'] 30)) = W2 at *
 refine (HPK.out _ W2 (HR1.out.below hb2)).mono ?_
 rintro e w2 ⟨rfl, hr2, hk2⟩
 have hs2 : W.heap.size + 1 + 1 < w2.heap.size := by have := hk2.size; have := hb2.size; omega
 have p2 : w2.cell? ⟨W.heap.size + 1 + 1, 0, none⟩ = some (.pointer (some ⟨W.heap.size + 1, 0, none⟩)) := objcell (hk2.obj (k := W.heap.size + 1 + 1) (by omega) (obj_below HP1.out hb2)) rfl
 have r3 : w2.cell? ⟨W.heap.size + 1, 3, none⟩ = some (.int .i64 0) := hr2.cell (j := 3) rfl
 have hO := hk2.obj (k := w1.heap.size) (by omega) hO2
 have HX2 := Lib.hid (hk2.obj (k := W.heap.size) (by omega) (obj_below HX1.out hb2))
 have HB2 := Lib.hid (HB1.out.trans ((hb2.mono (by omega)).trans (hk2.1.mono (by omega))))
 have HE2 := Lib.hid (HE1.out.kv ((Kv.of_below hb2).trans (hk2.kv (lo := W0.heap.size) (by have := HSZ.out; omega))))
 have HO := Lib.hid hO
 have d0 : w2.cell? ⟨w1.heap.size, 0, none⟩ = some (.int .i64 k1) := objcell hO rfl
 have d1 : w2.cell? ⟨w1.heap.size, 1, none⟩ = some (.string n1) := objcell hO rfl
 have d2 : w2.cell? ⟨w1.heap.size, 2, none⟩ = some (.string x1) := objcell hO rfl
 have d3 : w2.cell? ⟨w1.heap.size, 3, none⟩ = some (.slice a1' ks1.length c1') := objcell hO rfl
 clear hr2 hk2 hb2 hO2 hO p1
 go_wp2_with fail
 refine (Size_p w2 _ _ HE2.out.is (by rw [HX5.out]; decide)).mono ?_
 rintro e w3 ⟨rfl, hb3⟩
 rw [HX5.out]
 have hO3 := obj_below HO.out hb3
 have g0 : w3.cell? ⟨w1.heap.size, 0, none⟩ = some (.int .i64 k1) := objcell hO3 rfl
 have g1 : w3.cell? ⟨w1.heap.size, 1, none⟩ = some (.string n1) := objcell hO3 rfl
 have g2 : w3.cell? ⟨w1.heap.size, 2, none⟩ = some (.string x1) := objcell hO3 rfl
 have g3 : w3.cell? ⟨w1.heap.size, 3, none⟩ = some (.slice a1' ks1.length c1') := objcell hO3 rfl
 have HB3 := Lib.hid hb3
 have HX3 := Lib.hid (obj_below HX2.out hb3)
 have HE3 := Lib.hid (HE2.out.kv (Kv.of_below hb3))
 have HO3 := Lib.hid hO3
 clear hb3 hO3 p2 r3
 go_wp2_with fail
 refine (Depth_p _ (by rw [HX5.out]; decide) w3 _ HE3.out.is).mono ?_
 rintro e w4 ⟨rfl, hb4⟩
 rw [HD3.out]
 have hO4 := obj_below HO3.out hb4
 have m0 : w4.cell? ⟨w1.heap.size, 0, none⟩ = some (.int .i64 k1) := objcell hO4 rfl
 have m1 : w4.cell? ⟨w1.heap.size, 1, none⟩ = some (.string n1) := objcell hO4 rfl
 have m2 : w4.cell? ⟨w1.heap.size, 2, none⟩ = some (.string x1) := objcell hO4 rfl
 have m3 : w4.cell? ⟨w1.heap.size, 3, none⟩ = some (.slice a1' ks1.length c1') := objcell hO4 rfl
 have hX := obj_below HX3.out hb4
 have HB4 := Lib.hid (((HB2.out.trans (HB3.out.mono (by omega))).trans (hb4.mono (by have := HB3.out.size; omega))))
 have HE4 := Lib.hid (HE3.out.kv (Kv.of_below hb4))
 clear hb4 hO4
 have f0 := objfrozen hX (j := 0)
 have f1 := objfrozen hX (j := 1)
 have f2 := objfrozen hX (j := 2)
 have f3 := objfrozen hX (j := 3)
 have z0 := objcell hX (j := 0) rfl
 have z1 := objcell hX (j := 1) rfl
 have z2 := objcell hX (j := 2) rfl
 have z3 := objcell hX (j := 3) rfl
 have HX := Lib.hid hX
 clear hX
 go_wp2
 have hq : ∀ wz, wz = set4 w4 W.heap.size (.int .i64 k1) (.string n1) (.string x1) (.slice a1' ks1.length c1') → wz.heap[W.heap.size]? = some (.cells #[.int .i64 k1, .string n1, .string x1, .slice a1' ks1.length c1'] 30 (0, 0)) ∧ Is wz (.agg #[.int .i64 k1, .string n1, .string x1, .slice a1' ks1.length c1']) x33 ∧ Below W.heap.size W wz := by
  rintro wz rfl
  refine ⟨set4_obj HX.out, ?_, ?_⟩
  ·rw [← HXE.out]
   exact (HE4.out.kv ((Kv.refl _ _).set4 (by have := HSZ.out; omega))).is
  ·exact (((HB4.out.setCell (p := ⟨W.heap.size, 0, none⟩) (Nat.le_refl _) _).setCell (p := ⟨W.heap.size, 1, none⟩) (Nat.le_refl _) _).setCell (p := ⟨W.heap.size, 2, none⟩) (Nat.le_refl _) _).setCell (p := ⟨W.heap.size, 3, none⟩) (Nat.le_refl _) _
 have hq2 := hq _ rfl
 unfold set4 at hq2
 obtain ⟨hX3, hI3, hB3⟩ := hq2
 have e0 := objcell hX3 (j := 0) rfl
 have e1 := objcell hX3 (j := 1) rfl
 have e2 := objcell hX3 (j := 2) rfl
 have e3 := objcell hX3 (j := 3) rfl
 refine bodyPost_ret (v := .tuple #[.agg #[.int .i64 k1, .string n1, .string x1, .slice a1' ks1.length c1'], .int .i64 0, .int .i64 0]) ?_ rfl ⟨_, rfl, hI3, hB3⟩
 clear hq hX3 hI3 hB3
 generalize (((w4.setCell ⟨W.heap.size, 0, none⟩ (.int .i64 k1)).setCell ⟨W.heap.size, 1, none⟩ (.string n1)).setCell ⟨W.heap.size, 2, none⟩ (.string x1)).setCell ⟨W.heap.size, 3, none⟩ (.slice a1' ks1.length c1') = w8 at *
 simp [results, Tryz.results43, go_sem, e0, e1, e2, e3]
end Go.Proofs.YtaaobpicaaeiiaaGreatDoor
