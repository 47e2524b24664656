/- The law of Either and Both: its closures (printed by gen/laws33.py). -/
import Derived.Test.YtaaobpicaaeiiaaGreatDoorJLexU
import Derived.Test.YtaaobpicaaeiiaaGreatDoorJFewA
import Derived.Test.YtaaobpicaaeiiaaGreatDoorJR33U
import Derived.Test.YtaaobpicaaeiiaaGreatDoorJAwG
import Derived.Test.YtaaobpicaaeiiaaGreatDoorJLatL
import Derived.Test.YtaaobpicaaeiiaaGreatDoorJBothP
set_option linter.all false
namespace Go.Proofs.YtaaobpicaaeiiaaGreatDoor
open Go Go.RowKit Go.ChangeShapes Go.Sort Go.Lib

def Flag (g : Nat) (W : World) (b : Bool) : Prop := W.heap[g]? = some (.cells #[.bool b] 4 (0, 0))
theorem Flag.only {g : Nat} {W : World} {b : Bool} (h : Flag g W b) {j : Nat} {v : Value} (hc : W.cell? ⟨g, j, none⟩ = some v) : v = .bool b := by
 match j with
 | 0 =>
  have h2 : W.cell? ⟨g, 0, none⟩ = some (.bool b) := objcell h rfl
  rw [h2] at hc; cases hc; rfl
 | j + 1 =>
  exfalso
  unfold World.cell? at hc
  unfold Flag at h
  simp [h] at hc
theorem flag_alts {g : Nat} {W W' : World} {b : Bool} (hg : Flag g W b) (hk : Kv (· = g) W W') {v : Value} {xs : List (List Term)} (h : Is W v xs) : Is W' v xs := by
 have cell : ∀ {a : Addr} {u : Value}, W.cell? a = some u → (∀ c, u ≠ .bool c) → a.spot = none → W'.cell? a = some u := by
  intro a u hc hu he
  obtain ⟨k, j, e⟩ := a
  cases he
  refine hk.cell ?_ hc
  rintro rfl
  exact hu b (hg.only hc)
 obtain ⟨a, c, rfl, h1, h2, h3⟩ := list_inv h
 refine list_mk h1 h2 fun i x hx => ?_
 obtain ⟨bb, off, ha, hb, a3, c3, h4, h5, h6, h7⟩ := h3 i x hx
 refine ⟨bb, off, ha, Nat.lt_of_lt_of_le hb hk.1, a3, c3, cell h4 (by intro c h; cases h) rfl, h5, h6, fun j t ht => ?_⟩
 obtain ⟨b4, o4, ha4, hb4, hi⟩ := h7 j t ht
 refine ⟨b4, o4, ha4, Nat.lt_of_lt_of_le hb4 hk.1, ?_⟩
 exact ⟨⟨cell hi.1.1 (by intro c h; cases h) rfl, hi.1.2⟩, ⟨cell hi.2.1 (by intro c h; cases h) rfl, hi.2.2⟩⟩
def LO (g : Nat) (large : Bool) (f : List Term → Bool) (W : World) (e : Ending) (W' : World) : Prop :=
 ∃ v l big, e = .returned v ∧ Is W' v l ∧ Flag g W' (large || big) ∧ OkL (large || big) l f ∧ Kv (· = g) W W' ∧ Below g W W'
set_option maxRecDepth 100000 in
set_option maxHeartbeats 1000000 in
theorem Laws1_p (g : Nat) (W : World) (large : Bool) (v1 v2 : Value) (xs ys : List (List Term)) (f1 f2 : List Term → Bool) (hg : Flag g W large) (h1 : Is W v1 xs) (h2 : Is W v2 ys) (o1 : OkL large xs f1) (o2 : OkL large ys f2) :
  Calls Tryz.prog 37 #[v1, v2, .pointer (some ⟨g, 0, none⟩)] W (LO g large (fun ts => f1 ts || f2 ts) W) := by
 have hgl := obj_lt hg
 have HG := Lib.hid hg
 have hcall := Either_p W v1 v2 xs ys h1 h2
 have HO := Lib.hid (o1.either o2)
 obtain ⟨a, c, rfl, -⟩ := list_inv h1
 obtain ⟨b, d, rfl, -⟩ := list_inv h2
 clear h1 h2 o1 o2 hg
 generalize eitherP xs ys = bp at *
 obtain ⟨l, r⟩ := bp
 unfold BO at hcall
 generalize xs.length = N at *
 generalize ys.length = M at *
 go_enter Tryz.func37, Tryz.ntmps37
 go_wp2_with fail
 refine hcall.mono ?_
 rintro e w1 ⟨v3, rfl, ho, hb⟩
 have HB := Lib.hid hb
 have I3 : Hid (Is w1 v3 l) := Lib.hid ho.is
 have hf1 : w1.heap[g]? = some (.cells #[.bool large] 4 (0, 0)) := obj_below HG.out hb
 have HF1 := Lib.hid hf1
 have hgl1 := obj_lt hf1
 have c0 : w1.cell? ⟨g, 0, none⟩ = some (.bool large) := objcell hf1 rfl
 have z0 := objfrozen hf1 (j := 0)
 obtain ⟨a3, c3, rfl, -⟩ := list_inv ho.is
 clear hcall ho hb hf1
 have fin : ∀ (b big : Bool), b = (large || big) → OkL (large || big) l (fun ts => f1 ts || f2 ts) → LO g large (fun ts => f1 ts || f2 ts) W (.returned (.slice a3 l.length c3)) (w1.setCell ⟨g, 0, none⟩ (.bool b)) := by
  intro b big hb hok
  subst hb
  have hk : Kv (· = g) w1 (w1.setCell ⟨g, 0, none⟩ (.bool (large || big))) := Kv.setCell _ _ rfl
  exact ⟨_, l, big, rfl, flag_alts HF1.out hk I3.out, setCell_obj w1 g 0 _ HF1.out, hok, (Kv.of_below HB.out).trans hk, (HB.out.mono (Nat.le_of_lt hgl)).setCell (p := ⟨g, 0, none⟩) (Nat.le_refl _) _⟩
 have FIN := Lib.hid fin
 clear fin
 generalize l.length = L at *
 cases large
 case true =>
  go_wp2
  go_ret
  exact FIN.out true true (by simp) ⟨fun h => by simp at h⟩
 case false =>
  cases q : (r != 0)
  case true =>
   have HQ : Hid ((r == 0) = false) := by show _ = _; simpa using q
   go_wp2
   go_ret
   exact FIN.out true true (by simp) ⟨fun h => by simp at h⟩
  case false =>
   have HQ : Hid ((r == 0) = true) := by show _ = _; simpa using q
   go_wp2
   go_ret
   refine FIN.out false false (by simp) ?_
   have h := HO.out
   rw [HQ.out] at h
   exact h
set_option maxRecDepth 100000 in
set_option maxHeartbeats 1000000 in
theorem Laws2_p (g : Nat) (W : World) (large : Bool) (v1 v2 : Value) (xs ys : List (List Term)) (f1 f2 : List Term → Bool) (hg : Flag g W large) (h1 : Is W v1 xs) (h2 : Is W v2 ys) (o1 : OkL large xs f1) (o2 : OkL large ys f2) :
  Calls Tryz.prog 38 #[v1, v2, .pointer (some ⟨g, 0, none⟩)] W (LO g large (fun ts => f1 ts && f2 ts) W) := by
 have hgl := obj_lt hg
 have HG := Lib.hid hg
 have hcall := Both_p W v1 v2 xs ys h1 h2
 have HO := Lib.hid (o1.both o2)
 obtain ⟨a, c, rfl, -⟩ := list_inv h1
 obtain ⟨b, d, rfl, -⟩ := list_inv h2
 clear h1 h2 o1 o2 hg
 generalize bothP xs ys = bp at *
 obtain ⟨l, r⟩ := bp
 unfold BO at hcall
 generalize xs.length = N at *
 generalize ys.length = M at *
 go_enter Tryz.func38, Tryz.ntmps38
 go_wp2_with fail
 refine hcall.mono ?_
 rintro e w1 ⟨v3, rfl, ho, hb⟩
 have HB := Lib.hid hb
 have I3 : Hid (Is w1 v3 l) := Lib.hid ho.is
 have hf1 : w1.heap[g]? = some (.cells #[.bool large] 4 (0, 0)) := obj_below HG.out hb
 have HF1 := Lib.hid hf1
 have hgl1 := obj_lt hf1
 have c0 : w1.cell? ⟨g, 0, none⟩ = some (.bool large) := objcell hf1 rfl
 have z0 := objfrozen hf1 (j := 0)
 obtain ⟨a3, c3, rfl, -⟩ := list_inv ho.is
 clear hcall ho hb hf1
 have fin : ∀ (b big : Bool), b = (large || big) → OkL (large || big) l (fun ts => f1 ts && f2 ts) → LO g large (fun ts => f1 ts && f2 ts) W (.returned (.slice a3 l.length c3)) (w1.setCell ⟨g, 0, none⟩ (.bool b)) := by
  intro b big hb hok
  subst hb
  have hk : Kv (· = g) w1 (w1.setCell ⟨g, 0, none⟩ (.bool (large || big))) := Kv.setCell _ _ rfl
  exact ⟨_, l, big, rfl, flag_alts HF1.out hk I3.out, setCell_obj w1 g 0 _ HF1.out, hok, (Kv.of_below HB.out).trans hk, (HB.out.mono (Nat.le_of_lt hgl)).setCell (p := ⟨g, 0, none⟩) (Nat.le_refl _) _⟩
 have FIN := Lib.hid fin
 clear fin
 generalize l.length = L at *
 cases large
 case true =>
  go_wp2
  go_ret
  exact FIN.out true true (by simp) ⟨fun h => by simp at h⟩
 case false =>
  cases q : (r != 0)
  case true =>
   have HQ : Hid ((r == 0) = false) := by show _ = _; simpa using q
   go_wp2
   go_ret
   exact FIN.out true true (by simp) ⟨fun h => by simp at h⟩
  case false =>
   have HQ : Hid ((r == 0) = true) := by show _ = _; simpa using q
   go_wp2
   go_ret
   refine FIN.out false false (by simp) ?_
   have h := HO.out
   rw [HQ.out] at h
   exact h
set_option maxRecDepth 100000 in
set_option maxHeartbeats 1000000 in
theorem Laws3_p (g : Nat) (W : World) (large : Bool) (v1 v2 : Value) (xs ys : List (List Term)) (hg : Flag g W large) (h1 : Is W v1 xs) (h2 : Is W v2 ys) (o : large = true ∨ xs = ys) :
  Calls Tryz.prog 39 #[v1, v2, .pointer (some ⟨g, 0, none⟩)] W fun e W' => e = .returned (.bool true) ∧ Below W.heap.size W W' := by
 have hgl := obj_lt hg
 have c0 : W.cell? ⟨g, 0, none⟩ = some (.bool large) := objcell hg rfl
 have hcall := SameA_ref W v1 v2 xs ys h1 h2
 obtain ⟨a, c, rfl, -⟩ := list_inv h1
 obtain ⟨b, d, rfl, -⟩ := list_inv h2
 clear h1 h2 hg
 cases large
 case true =>
  clear hcall
  generalize xs.length = N at *
  generalize ys.length = M at *
  clear o
  go_enter Tryz.func39, Tryz.ntmps39
  go_wp2
  go_ret
  exact ⟨rfl, (by repeat (first | exact zR _ _ | assumption | refine zN ?_ _ | refine zD ?_ | refine zA ?_ ?_ _ | refine zS ?_ ?_ _ | refine zT ?_ (zM (by assumption) ?_) | exact Nat.le_refl _ | (simp <;> omega) | omega))⟩
 case false =>
  obtain rfl : xs = ys := by rcases o with h | h; (· cases h); exact h
  rw [decide_eq_true rfl] at hcall
  clear o
  generalize xs.length = N at *
  go_enter Tryz.func39, Tryz.ntmps39
  go_wp2_with fail
  refine hcall.mono ?_
  rintro e w1 ⟨rfl, hb⟩
  go_wp2
  go_ret
  exact ⟨rfl, hb⟩
end Go.Proofs.YtaaobpicaaeiiaaGreatDoor
