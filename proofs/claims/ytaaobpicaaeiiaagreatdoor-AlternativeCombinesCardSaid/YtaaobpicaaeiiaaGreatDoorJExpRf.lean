/- The reference's Expr (printed by gen/expr.py). -/
import Derived.Test.YtaaobpicaaeiiaaGreatDoorJAEU
import Derived.Test.YtaaobpicaaeiiaaGreatDoorJDecU
import Derived.Test.YtaaobpicaaeiiaaGreatDoorJRfE
set_option linter.all false
namespace Go.Proofs.YtaaobpicaaeiiaaGreatDoor
open Go Go.RowKit Go.ChangeShapes Go.Lib

theorem rowTE_length {y : List Term} {j : Nat} (h : j ≤ y.length) : (rowTE y j).length = j := by unfold rowTE; rw [List.length_map, List.length_take]; omega
theorem rowAE_length {l : List (List Term)} {j : Nat} (h : j ≤ l.length) : (rowAE l j).length = j := by unfold rowAE; rw [List.length_map, List.length_take]; omega
theorem OwnN.slice {B : Nat} {w : World} {v : Value} {xs : List LExpr} (h : OwnN B w v xs) {n : Nat} (hn : xs.length = n) : ∃ a c, v = .slice a n c ∧ c ≤ maxLen ∧ n ≤ c := by
 obtain ⟨a, c, hv, h1, h2, -⟩ := list_inv h.is
 subst hn
 exact ⟨a, c, hv, h2, h1⟩
theorem OwnN.high {B : Nat} {w : World} {v : Value} {xs : List LExpr} {k : Nat} (h : OwnN B w v xs) (hk : v.ownBlock = some k) : B ≤ k := by
 obtain ⟨cs, -, h2, -⟩ := h
 rcases h2.2 with ⟨rfl, -⟩ | ⟨G, cap, cur, rfl, h3, h4, -⟩
 ·simp [Value.ownBlock] at hk
 ·simp only [Value.ownBlock] at hk
  cases hk
  exact h3
theorem step_appN {ops : Array Oper} {o : Oper} {a : Act} {K : Act → World → Prop} {Q : Exit → Act → World → Prop} {X : Prop} {w : World} (hgd : o.guard = none) (s x : Operand)
  (ho : o.op = .call { callee := .builtin .append, args := #[s, x], argTypes := #[28, 28] })
  (B : Nat) (v : Value) (xs : List LExpr) (hs : a.eval s = v) (hown : OwnN B w v xs)
  (k : Nat) (news : Array Value) (y : LExpr) (hx : a.eval x = .slice (some ⟨k, 0, none⟩) 1 1) (hl : news.size = 4) (hk : w.heap[k]? = some (.cells news 30 (0, 0))) (h1 : ∀ u ∈ news.toList, u.oneCell' = true)
  (hy : ∀ w2, Kv (Mr B v) w w2 → Lay.is w2 (fun q => news.toList[q]?) y) (hb : xs.length ≤ 1000000) (hB : B ≤ w.heap.size)
  (h : ∀ v' w', OwnN B w' v' (xs ++ [y]) → w.grownBy w' v.ownBlock → (v'.ownBlock = v.ownBlock ∨ v'.ownBlock = some w.heap.size) → K (a.put o.dst v') w') :
  if Region.wanted o (yielded ops a.tmps) = true then Oper.wp Tryz.prog o a w K Q else X := by
 rw [if_pos (by unfold Region.wanted; rw [hgd])]
 exact wpo_appN s x ho B v xs hs hown k news y hx hl hk h1 hy hb hB h
theorem nodeA_le {B : Nat} {W : World} {a : Option Addr} {c n : Nat} {kind : Int} {ks : List LExpr} (h : OwnN B W (.slice a n c) ks) (hn : ks.length = n) (h1 : n ≠ 1) (hki : inI64 kind) :
  LE B W (.agg #[.int .i64 kind, .string ByteArray.empty, .string ByteArray.empty, .slice a n c]) (nodeA kind ks) := by
 intro w2 k2
 subst hn
 rw [nodeA_ne h1]
 obtain ⟨p2, c2, he, hc2, hm2, hr2⟩ := list_inv (h.kv k2).is
 cases he
 exact LExpr.mk' (ks := ks) hki (show ByteArray.empty.size ≤ maxLen by decide) (show ByteArray.empty.size ≤ maxLen by decide) hc2 hm2 hr2
theorem nodeA_le1 {B : Nat} {W : World} {a : Option Addr} {c : Nat} {kind : Int} {ks : List LExpr} (h : OwnN B W (.slice a 1 c) ks) (hn : ks.length = 1) :
  ∃ (g : Nat) (k1 : Int) (n1 x1 : ByteArray) (ks1 : List LExpr) (a1 : Option Addr) (c1 : Nat), a = some ⟨g, 0, none⟩ ∧ nodeA kind ks = .mk k1 n1 x1 ks1 ∧ W.cell? ⟨g, 0, none⟩ = some (.int .i64 k1) ∧ W.cell? ⟨g, 1, none⟩ = some (.string n1) ∧ W.cell? ⟨g, 2, none⟩ = some (.string x1) ∧ W.cell? ⟨g, 3, none⟩ = some (.slice a1 ks1.length c1) ∧
   LE B W (.agg #[.int .i64 k1, .string n1, .string x1, .slice a1 ks1.length c1]) (.mk k1 n1 x1 ks1) := by
 match ks, hn with
 | [x], _ =>
  obtain ⟨k1, n1, x1, ks1⟩ := x
  obtain ⟨g, cap, a1, c1, he, q0, q1, q2, q3, hE⟩ := OwnN.one (B := B) h
  cases he
  exact ⟨g, k1, n1, x1, ks1, a1, c1, rfl, rfl, q0, q1, q2, q3, fun w2 k2 => hE w2 (k2.weaken fun _ h => Or.inl h)⟩
set_option maxRecDepth 100000 in
set_option maxHeartbeats 8000000 in
theorem ExprR_ref (w : World) (v : Value) (l : List (List Term)) (h : Is w v l) :
  Calls Tryz.prog 35 #[v] w fun e w' => ∃ v', e = .returned (.tuple #[v', .int .i64 (exprA l).2]) ∧ Is w' v' (exprA l).1 ∧ Below w.heap.size w w' := by
 have HI := Lib.hid h
 obtain ⟨a, c, rfl, hnc, hcm, hr⟩ := list_inv h
 simp only [maxLen] at hcm
 have HR := Lib.hid hr
 have hck := fun w h => CheckR_ref w (.slice a l.length c) l h
 rw [← check_same] at hck
 have HCK := Lib.hid hck
 have HE : Hid (exprA l = if checkA l != 0 || (l.length : Int) == 0 || l.any (fun a => (a.length : Int) == 0) then (zeroE, 1) else if decide ((64 : Int) < sizeE (orAll l)) then (zeroE, 10) else (orAll l, 0)) := rfl
 clear hr h hck
 generalize exprA l = EA at *
 obtain ⟨ck, hck⟩ : ∃ ck, ck = checkA l := ⟨_, rfl⟩
 rw [← hck] at HE HCK
 have HCC := Lib.hid hck
 clear hck
 generalize hN : l.length = N at *
 have HN := Lib.hid hN
 clear hN
 go_enter Tryz.func35, Tryz.ntmps35
 go_wp2_with fail
 have hb0 : Below w.heap.size w (w.alloc (.cells #[.int .i64 0, .string ⟨#[]⟩, .string ⟨#[]⟩, .slice none 0 0] 30)) := (by repeat (first | exact zR _ _ | assumption | refine zN ?_ _ | refine zD ?_ | refine zA ?_ ?_ _ | refine zS ?_ ?_ _ | refine zT ?_ (zM (by assumption) ?_) | exact Nat.le_refl _ | (simp <;> omega) | omega))
 have hO0 := World.alloc_heap_new w (.cells #[.int .i64 0, .string ⟨#[]⟩, .string ⟨#[]⟩, .slice none 0 0] 30)
 generalize (w.alloc (.cells #[.int .i64 0, .string ⟨#[]⟩, .string ⟨#[]⟩, .slice none 0 0] 30)) = w0 at *
 refine (HCK.out w0 (HI.out.mono hb0)).mono ?_
 rintro e w1 ⟨rfl, hb1⟩
 have HX7 := Lib.hid (obj_below hO0 hb1)
 have HB7 : Hid (Below w.heap.size w w1) := Lib.hid (hb0.trans (hb1.mono hb0.size))
 have hs1 : w.heap.size < w1.heap.size := heap_lt HX7.out
 clear hb0 hO0 hb1 HCK
 have f0 := objfrozen HX7.out (j := 0)
 have z0 := objcell HX7.out (j := 0) rfl
 have f1 := objfrozen HX7.out (j := 1)
 have z1 := objcell HX7.out (j := 1) rfl
 have f2 := objfrozen HX7.out (j := 2)
 have z2 := objcell HX7.out (j := 2) rfl
 have f3 := objfrozen HX7.out (j := 3)
 have z3 := objcell HX7.out (j := 3) rfl
 cases q0 : (ck != 0)
 case true =>
  have HQ : Hid (EA = (zeroE, 1)) := by show _ = _; rw [HE.out, q0]; rfl
  go_wp2
  have hX3 := set4_obj (v0 := .int .i64 0) (v1 := .string ⟨#[]⟩) (v2 := .string ⟨#[]⟩) (v3 := .slice none 0 0) HX7.out
  have hB3 : Below w.heap.size w (set4 w1 w.heap.size (.int .i64 0) (.string ⟨#[]⟩) (.string ⟨#[]⟩) (.slice none 0 0)) := (((HB7.out.setCell (p := ⟨w.heap.size, 0, none⟩) (Nat.le_refl _) _).setCell (p := ⟨w.heap.size, 1, none⟩) (Nat.le_refl _) _).setCell (p := ⟨w.heap.size, 2, none⟩) (Nat.le_refl _) _).setCell (p := ⟨w.heap.size, 3, none⟩) (Nat.le_refl _) _
  have hP3 : ∃ v', Ending.returned (.tuple #[.agg #[.int .i64 0, .string ⟨#[]⟩, .string ⟨#[]⟩, .slice none 0 0], .int .i64 1]) = .returned (.tuple #[v', .int .i64 EA.2]) ∧ Is (set4 w1 w.heap.size (.int .i64 0) (.string ⟨#[]⟩) (.string ⟨#[]⟩) (.slice none 0 0)) v' EA.1 ∧ Below w.heap.size w (set4 w1 w.heap.size (.int .i64 0) (.string ⟨#[]⟩) (.string ⟨#[]⟩) (.slice none 0 0)) := by
   rw [HQ.out]
   exact ⟨_, rfl, (leaf_is 0 _ (show ByteArray.empty.size ≤ maxLen by decide)).is, hB3⟩
  unfold set4 at hX3 hP3
  have e0 := objcell hX3 (j := 0) rfl
  have e1 := objcell hX3 (j := 1) rfl
  have e2 := objcell hX3 (j := 2) rfl
  have e3 := objcell hX3 (j := 3) rfl
  refine bodyPost_ret (v := .tuple #[.agg #[.int .i64 0, .string ⟨#[]⟩, .string ⟨#[]⟩, .slice none 0 0], .int .i64 1]) ?_ rfl hP3
  clear hX3 hB3 hP3
  generalize ((((w1.setCell ⟨w.heap.size, 0, none⟩ (.int .i64 0)).setCell ⟨w.heap.size, 1, none⟩ (.string ⟨#[]⟩)).setCell ⟨w.heap.size, 2, none⟩ (.string ⟨#[]⟩)).setCell ⟨w.heap.size, 3, none⟩ (.slice none 0 0)) = w8 at *
  simp [results, Tryz.results35, go_sem, e0, e1, e2, e3]
 cases q1 : ((N : Int) == 0)
 case true =>
  have HQ : Hid (EA = (zeroE, 1)) := by show _ = _; rw [HE.out, q0, q1]; rfl
  go_wp2
  have hX3 := set4_obj (v0 := .int .i64 0) (v1 := .string ⟨#[]⟩) (v2 := .string ⟨#[]⟩) (v3 := .slice none 0 0) HX7.out
  have hB3 : Below w.heap.size w (set4 w1 w.heap.size (.int .i64 0) (.string ⟨#[]⟩) (.string ⟨#[]⟩) (.slice none 0 0)) := (((HB7.out.setCell (p := ⟨w.heap.size, 0, none⟩) (Nat.le_refl _) _).setCell (p := ⟨w.heap.size, 1, none⟩) (Nat.le_refl _) _).setCell (p := ⟨w.heap.size, 2, none⟩) (Nat.le_refl _) _).setCell (p := ⟨w.heap.size, 3, none⟩) (Nat.le_refl _) _
  have hP3 : ∃ v', Ending.returned (.tuple #[.agg #[.int .i64 0, .string ⟨#[]⟩, .string ⟨#[]⟩, .slice none 0 0], .int .i64 1]) = .returned (.tuple #[v', .int .i64 EA.2]) ∧ Is (set4 w1 w.heap.size (.int .i64 0) (.string ⟨#[]⟩) (.string ⟨#[]⟩) (.slice none 0 0)) v' EA.1 ∧ Below w.heap.size w (set4 w1 w.heap.size (.int .i64 0) (.string ⟨#[]⟩) (.string ⟨#[]⟩) (.slice none 0 0)) := by
   rw [HQ.out]
   exact ⟨_, rfl, (leaf_is 0 _ (show ByteArray.empty.size ≤ maxLen by decide)).is, hB3⟩
  unfold set4 at hX3 hP3
  have e0 := objcell hX3 (j := 0) rfl
  have e1 := objcell hX3 (j := 1) rfl
  have e2 := objcell hX3 (j := 2) rfl
  have e3 := objcell hX3 (j := 3) rfl
  refine bodyPost_ret (v := .tuple #[.agg #[.int .i64 0, .string ⟨#[]⟩, .string ⟨#[]⟩, .slice none 0 0], .int .i64 1]) ?_ rfl hP3
  clear hX3 hB3 hP3
  generalize ((((w1.setCell ⟨w.heap.size, 0, none⟩ (.int .i64 0)).setCell ⟨w.heap.size, 1, none⟩ (.string ⟨#[]⟩)).setCell ⟨w.heap.size, 2, none⟩ (.string ⟨#[]⟩)).setCell ⟨w.heap.size, 3, none⟩ (.slice none 0 0)) = w8 at *
  simp [results, Tryz.results35, go_sem, e0, e1, e2, e3]
 clear f0 f1 f2 f3 z0 z1 z2 z3
 have hck0 : checkA l = 0 := by have := HCC.out; rw [← this]; simpa using q0
 have HSZ := Lib.hid (check_sizes hck0)
 clear hck0
 have hN64 : N ≤ 64 := by have := HSZ.out.1; rw [HN.out] at this; exact this
 have hO2 := World.alloc_heap_new w1 (.cells #[.int .i64 3, .string ⟨#[]⟩, .string ⟨#[]⟩, .slice none 0 0] 30)
 have hb2 : Below w1.heap.size w1 (w1.alloc (.cells #[.int .i64 3, .string ⟨#[]⟩, .string ⟨#[]⟩, .slice none 0 0] 30)) := (by repeat (first | exact zR _ _ | assumption | refine zN ?_ _ | refine zD ?_ | refine zA ?_ ?_ _ | refine zS ?_ ?_ _ | refine zT ?_ (zM (by assumption) ?_) | exact Nat.le_refl _ | (simp <;> omega) | omega))
 have HX2 := Lib.hid (obj_below HX7.out hb2)
 have HB2 : Hid (Below w.heap.size w (w1.alloc (.cells #[.int .i64 3, .string ⟨#[]⟩, .string ⟨#[]⟩, .slice none 0 0] 30))) := HB7.out.trans (hb2.mono HB7.out.size)
 have hs2 : (w1.alloc (.cells #[.int .i64 3, .string ⟨#[]⟩, .string ⟨#[]⟩, .slice none 0 0] 30)).heap.size = w1.heap.size + 1 := by simp
 have HO2 := Lib.hid hO2
 have HS2 := Lib.hid hs2
 clear hb2 hO2 hs2 HX7 HB7
 go_wp2_with fail
 generalize (w1.alloc (.cells #[.int .i64 3, .string ⟨#[]⟩, .string ⟨#[]⟩, .slice none 0 0] 30)) = w2 at *
 generalize w1.heap.size = g at *
 go_loopw [5] (fun iv wr => ∃ (i : Nat) (a4 : Option Addr) (c4 : Nat), i ≤ N ∧ iv = .int .i64 i ∧ Hid (Below w.heap.size w wr) ∧ Hid (g + 1 ≤ wr.heap.size) ∧ Hid (wr.heap[w.heap.size]? = some (.cells #[.int .i64 0, .string ⟨#[]⟩, .string ⟨#[]⟩, .slice none 0 0] 30 (0, 0))) ∧ Hid (wr.heap[g]? = some (.cells #[.int .i64 3, .string ⟨#[]⟩, .string ⟨#[]⟩, .slice a4 i c4] 30 (0, 0))) ∧ Hid (OwnN (g + 1) wr (.slice a4 i c4) (rowAE l i)) ∧ Hid (∀ x ∈ l.take i, x ≠ [])) (fun iv _ => N - (intOf iv).toNat)
 case atStart => exact ⟨0, none, 0, by omega, rfl, HB2, Lib.hid (Nat.le_of_eq HS2.out.symm), HX2, HO2, Lib.hid (OwnN.nil _ _), Lib.hid (by intro x hx; simp at hx)⟩
 case round =>
  obtain ⟨i, a4, c4, hi, rfl, HB7, HSR, HX7, HG, HO, HNE⟩ := hrel
  have hsr := HSR.out
  have hsx := heap_lt HX7.out
  by_cases hlt : i < N
  case neg =>
   have hiz : ¬ (i : Int) < (N : Int) := by omega
   obtain rfl : i = N := by omega
   have hlen : (l.map altE).length = i := by rw [List.length_map, HN.out]
   have HOA : Hid (OwnN (g + 1) wr (.slice a4 i c4) (l.map altE)) := by have h1 := HO.out; rw [rowAE_all (l := l) (i := i) HN.out] at h1; exact h1
   have hany : (l.any fun a => (a.length : Int) == 0) = false := by
    rw [List.any_eq_false]
    intro x hx
    have h1 := HNE.out x (by rw [List.take_of_length_le (by rw [HN.out]; exact Nat.le_refl _)]; exact hx)
    simp; exact h1
   have HE2 : Hid (EA = if decide ((64 : Int) < sizeE (orAll l)) then (zeroE, 10) else (orAll l, 0)) := by show _ = _; rw [HE.out, q0, q1, hany]; rfl
   have hsz : sizeE (orAll l) ≤ 1000000 := size_orAll HSZ.out.1 HSZ.out.2
   have hgne : w.heap.size ≠ g := by omega
   have f0 := objfrozen HG.out (j := 0)
   have z0 := objcell HG.out (j := 0) rfl
   have f1 := objfrozen HG.out (j := 1)
   have z1 := objcell HG.out (j := 1) rfl
   have f2 := objfrozen HG.out (j := 2)
   have z2 := objcell HG.out (j := 2) rfl
   have f3 := objfrozen HG.out (j := 3)
   have z3 := objcell HG.out (j := 3) rfl
   clear hany HE HO HNE
   by_cases h1 : i = 1
   ·subst h1
    obtain ⟨gr, k1, n1, x1, ks1, a1, c1, rfl, hNA, r0, r1, r2, r3, hLE⟩ := nodeA_le1 (kind := 3) HOA.out hlen
    have hOR : orAll l = .mk k1 n1 x1 ks1 := hNA
    have hsg := cell_lt r0
    have hX4 := set4_obj (v0 := .int .i64 k1) (v1 := .string n1) (v2 := .string x1) (v3 := .slice a1 ks1.length c1) HG.out
    have hXr : (set4 wr g (.int .i64 k1) (.string n1) (.string x1) (.slice a1 ks1.length c1)).heap[w.heap.size]? = some (.cells #[.int .i64 0, .string ⟨#[]⟩, .string ⟨#[]⟩, .slice none 0 0] 30 (0, 0)) := by rw [set4_other hgne]; exact HX7.out
    have hBq : Below w.heap.size w (set4 wr g (.int .i64 k1) (.string n1) (.string x1) (.slice a1 ks1.length c1)) := (((HB7.out.setCell (p := ⟨g, 0, none⟩) (show w.heap.size ≤ g by omega) _).setCell (p := ⟨g, 1, none⟩) (show w.heap.size ≤ g by omega) _).setCell (p := ⟨g, 2, none⟩) (show w.heap.size ≤ g by omega) _).setCell (p := ⟨g, 3, none⟩) (show w.heap.size ≤ g by omega) _
    have hLq : LE (g + 1) (set4 wr g (.int .i64 k1) (.string n1) (.string x1) (.slice a1 ks1.length c1)) (.agg #[.int .i64 k1, .string n1, .string x1, .slice a1 ks1.length c1]) (orAll l) := by rw [hOR]; exact hLE.kv (Kv.set4 (Kv.refl _ _) (Nat.lt_succ_self g))
    go_upto_region 19 with fail
    unfold set4 at hX4 hXr hBq hLq
    generalize ((((wr.setCell ⟨g, 0, none⟩ (.int .i64 k1)).setCell ⟨g, 1, none⟩ (.string n1)).setCell ⟨g, 2, none⟩ (.string x1)).setCell ⟨g, 3, none⟩ (.slice a1 ks1.length c1)) = wq at *
    have HXq := Lib.hid hXr
    have HGq := Lib.hid hX4
    have HBq := Lib.hid hBq
    have HLq := Lib.hid hLq
    clear hX4 hXr hBq hLq hLE r0 r1 r2 r3 z0 z1 z2 z3 f0 f1 f2 f3 hsg hOR hNA
    have hcall := Size_ref (orAll l) hsz wq _ HLq.out.is
    have e0 := objcell HGq.out (j := 0) rfl
    have e1 := objcell HGq.out (j := 1) rfl
    have e2 := objcell HGq.out (j := 2) rfl
    have e3 := objcell HGq.out (j := 3) rfl
    have hsq := heap_lt HGq.out
    go_wp2_with fail
    refine hcall.mono ?_
    rintro e w7 ⟨rfl, hb7⟩
    have HX7 := Lib.hid (obj_below HXq.out hb7)
    have HB7 : Hid (Below w.heap.size w w7) := HBq.out.trans (hb7.mono HBq.out.size)
    have HL7 := Lib.hid (HLq.out.kv (Kv.of_below hb7))
    have hG7 := obj_below HGq.out hb7
    clear hcall hb7 e0 e1 e2 e3 hsq hsz HLq HBq HXq HGq
    have f0 := objfrozen HX7.out (j := 0)
    have z0 := objcell HX7.out (j := 0) rfl
    have f1 := objfrozen HX7.out (j := 1)
    have z1 := objcell HX7.out (j := 1) rfl
    have f2 := objfrozen HX7.out (j := 2)
    have z2 := objcell HX7.out (j := 2) rfl
    have f3 := objfrozen HX7.out (j := 3)
    have z3 := objcell HX7.out (j := 3) rfl
    have g0 := objcell hG7 (j := 0) rfl
    have g1 := objcell hG7 (j := 1) rfl
    have g2 := objcell hG7 (j := 2) rfl
    have g3 := objcell hG7 (j := 3) rfl
    have hsG := heap_lt hG7
    have hsA := heap_lt HX7.out
    clear hG7
    generalize sizeE (orAll l) = Zs at *
    generalize hOL : orAll l = ol at *
    cases qz : decide ((64 : Int) < (Zs : Int))
    case true =>
     have HQ : Hid (EA = (zeroE, 10)) := by show _ = _; rw [HE2.out, qz]; rfl
     go_wp2
     have hX3 := set4_obj (v0 := .int .i64 0) (v1 := .string ⟨#[]⟩) (v2 := .string ⟨#[]⟩) (v3 := .slice none 0 0) HX7.out
     have hB3 : Below w.heap.size w (set4 w7 w.heap.size (.int .i64 0) (.string ⟨#[]⟩) (.string ⟨#[]⟩) (.slice none 0 0)) := (((HB7.out.setCell (p := ⟨w.heap.size, 0, none⟩) (Nat.le_refl _) _).setCell (p := ⟨w.heap.size, 1, none⟩) (Nat.le_refl _) _).setCell (p := ⟨w.heap.size, 2, none⟩) (Nat.le_refl _) _).setCell (p := ⟨w.heap.size, 3, none⟩) (Nat.le_refl _) _
     have hP3 : ∃ v', Ending.returned (.tuple #[.agg #[.int .i64 0, .string ⟨#[]⟩, .string ⟨#[]⟩, .slice none 0 0], .int .i64 10]) = .returned (.tuple #[v', .int .i64 EA.2]) ∧ Is (set4 w7 w.heap.size (.int .i64 0) (.string ⟨#[]⟩) (.string ⟨#[]⟩) (.slice none 0 0)) v' EA.1 ∧ Below w.heap.size w (set4 w7 w.heap.size (.int .i64 0) (.string ⟨#[]⟩) (.string ⟨#[]⟩) (.slice none 0 0)) := by
      rw [HQ.out]
      exact ⟨_, rfl, (leaf_is 0 _ (show ByteArray.empty.size ≤ maxLen by decide)).is, hB3⟩
     unfold set4 at hX3 hP3
     have e0 := objcell hX3 (j := 0) rfl
     have e1 := objcell hX3 (j := 1) rfl
     have e2 := objcell hX3 (j := 2) rfl
     have e3 := objcell hX3 (j := 3) rfl
     refine bodyPost_ret (v := .tuple #[.agg #[.int .i64 0, .string ⟨#[]⟩, .string ⟨#[]⟩, .slice none 0 0], .int .i64 10]) ?_ rfl hP3
     clear hX3 hB3 hP3
     generalize ((((w7.setCell ⟨w.heap.size, 0, none⟩ (.int .i64 0)).setCell ⟨w.heap.size, 1, none⟩ (.string ⟨#[]⟩)).setCell ⟨w.heap.size, 2, none⟩ (.string ⟨#[]⟩)).setCell ⟨w.heap.size, 3, none⟩ (.slice none 0 0)) = w8 at *
     simp [results, Tryz.results35, go_sem, e0, e1, e2, e3]
    case false =>
     have HQ : Hid (EA = (ol, 0)) := by show _ = _; rw [HE2.out, qz]; rfl
     go_wp2
     have hX3 := set4_obj (v0 := .int .i64 k1) (v1 := .string n1) (v2 := .string x1) (v3 := .slice a1 ks1.length c1) HX7.out
     have hB3 : Below w.heap.size w (set4 w7 w.heap.size (.int .i64 k1) (.string n1) (.string x1) (.slice a1 ks1.length c1)) := (((HB7.out.setCell (p := ⟨w.heap.size, 0, none⟩) (Nat.le_refl _) _).setCell (p := ⟨w.heap.size, 1, none⟩) (Nat.le_refl _) _).setCell (p := ⟨w.heap.size, 2, none⟩) (Nat.le_refl _) _).setCell (p := ⟨w.heap.size, 3, none⟩) (Nat.le_refl _) _
     have hP3 : ∃ v', Ending.returned (.tuple #[.agg #[.int .i64 k1, .string n1, .string x1, .slice a1 ks1.length c1], .int .i64 0]) = .returned (.tuple #[v', .int .i64 EA.2]) ∧ Is (set4 w7 w.heap.size (.int .i64 k1) (.string n1) (.string x1) (.slice a1 ks1.length c1)) v' EA.1 ∧ Below w.heap.size w (set4 w7 w.heap.size (.int .i64 k1) (.string n1) (.string x1) (.slice a1 ks1.length c1)) := by
      rw [HQ.out]
      exact ⟨_, rfl, HL7.out _ (Kv.set4 (Kv.refl _ _) (show w.heap.size < g + 1 by omega)), hB3⟩
     unfold set4 at hX3 hP3
     have e0 := objcell hX3 (j := 0) rfl
     have e1 := objcell hX3 (j := 1) rfl
     have e2 := objcell hX3 (j := 2) rfl
     have e3 := objcell hX3 (j := 3) rfl
     refine bodyPost_ret (v := .tuple #[.agg #[.int .i64 k1, .string n1, .string x1, .slice a1 ks1.length c1], .int .i64 0]) ?_ rfl hP3
     clear hX3 hB3 hP3
     generalize ((((w7.setCell ⟨w.heap.size, 0, none⟩ (.int .i64 k1)).setCell ⟨w.heap.size, 1, none⟩ (.string n1)).setCell ⟨w.heap.size, 2, none⟩ (.string x1)).setCell ⟨w.heap.size, 3, none⟩ (.slice a1 ks1.length c1)) = w8 at *
     simp [results, Tryz.results35, go_sem, e0, e1, e2, e3]
   ·have hi1 : ((i : Int) == 1) = false := by simp; omega
    have hLq : LE (g + 1) wr (.agg #[.int .i64 3, .string ⟨#[]⟩, .string ⟨#[]⟩, .slice a4 i c4]) (orAll l) := nodeA_le (kind := 3) HOA.out hlen h1 (by unfold inI64; omega)
    go_upto_region 19 with fail
    obtain ⟨wq, rfl⟩ : ∃ wq : World, wq = wr := ⟨_, rfl⟩
    have HXq := HX7
    have HGq := HG
    have HBq := HB7
    have HLq := Lib.hid hLq
    clear hLq z0 z1 z2 z3 f0 f1 f2 f3 HX7 HG HB7
    have hcall := Size_ref (orAll l) hsz wq _ HLq.out.is
    have e0 := objcell HGq.out (j := 0) rfl
    have e1 := objcell HGq.out (j := 1) rfl
    have e2 := objcell HGq.out (j := 2) rfl
    have e3 := objcell HGq.out (j := 3) rfl
    have hsq := heap_lt HGq.out
    go_wp2_with fail
    refine hcall.mono ?_
    rintro e w7 ⟨rfl, hb7⟩
    have HX7 := Lib.hid (obj_below HXq.out hb7)
    have HB7 : Hid (Below w.heap.size w w7) := HBq.out.trans (hb7.mono HBq.out.size)
    have HL7 := Lib.hid (HLq.out.kv (Kv.of_below hb7))
    have hG7 := obj_below HGq.out hb7
    clear hcall hb7 e0 e1 e2 e3 hsq hsz HLq HBq HXq HGq
    have f0 := objfrozen HX7.out (j := 0)
    have z0 := objcell HX7.out (j := 0) rfl
    have f1 := objfrozen HX7.out (j := 1)
    have z1 := objcell HX7.out (j := 1) rfl
    have f2 := objfrozen HX7.out (j := 2)
    have z2 := objcell HX7.out (j := 2) rfl
    have f3 := objfrozen HX7.out (j := 3)
    have z3 := objcell HX7.out (j := 3) rfl
    have g0 := objcell hG7 (j := 0) rfl
    have g1 := objcell hG7 (j := 1) rfl
    have g2 := objcell hG7 (j := 2) rfl
    have g3 := objcell hG7 (j := 3) rfl
    have hsG := heap_lt hG7
    have hsA := heap_lt HX7.out
    clear hG7
    generalize sizeE (orAll l) = Zs at *
    generalize hOL : orAll l = ol at *
    cases qz : decide ((64 : Int) < (Zs : Int))
    case true =>
     have HQ : Hid (EA = (zeroE, 10)) := by show _ = _; rw [HE2.out, qz]; rfl
     go_wp2
     have hX3 := set4_obj (v0 := .int .i64 0) (v1 := .string ⟨#[]⟩) (v2 := .string ⟨#[]⟩) (v3 := .slice none 0 0) HX7.out
     have hB3 : Below w.heap.size w (set4 w7 w.heap.size (.int .i64 0) (.string ⟨#[]⟩) (.string ⟨#[]⟩) (.slice none 0 0)) := (((HB7.out.setCell (p := ⟨w.heap.size, 0, none⟩) (Nat.le_refl _) _).setCell (p := ⟨w.heap.size, 1, none⟩) (Nat.le_refl _) _).setCell (p := ⟨w.heap.size, 2, none⟩) (Nat.le_refl _) _).setCell (p := ⟨w.heap.size, 3, none⟩) (Nat.le_refl _) _
     have hP3 : ∃ v', Ending.returned (.tuple #[.agg #[.int .i64 0, .string ⟨#[]⟩, .string ⟨#[]⟩, .slice none 0 0], .int .i64 10]) = .returned (.tuple #[v', .int .i64 EA.2]) ∧ Is (set4 w7 w.heap.size (.int .i64 0) (.string ⟨#[]⟩) (.string ⟨#[]⟩) (.slice none 0 0)) v' EA.1 ∧ Below w.heap.size w (set4 w7 w.heap.size (.int .i64 0) (.string ⟨#[]⟩) (.string ⟨#[]⟩) (.slice none 0 0)) := by
      rw [HQ.out]
      exact ⟨_, rfl, (leaf_is 0 _ (show ByteArray.empty.size ≤ maxLen by decide)).is, hB3⟩
     unfold set4 at hX3 hP3
     have e0 := objcell hX3 (j := 0) rfl
     have e1 := objcell hX3 (j := 1) rfl
     have e2 := objcell hX3 (j := 2) rfl
     have e3 := objcell hX3 (j := 3) rfl
     refine bodyPost_ret (v := .tuple #[.agg #[.int .i64 0, .string ⟨#[]⟩, .string ⟨#[]⟩, .slice none 0 0], .int .i64 10]) ?_ rfl hP3
     clear hX3 hB3 hP3
     generalize ((((w7.setCell ⟨w.heap.size, 0, none⟩ (.int .i64 0)).setCell ⟨w.heap.size, 1, none⟩ (.string ⟨#[]⟩)).setCell ⟨w.heap.size, 2, none⟩ (.string ⟨#[]⟩)).setCell ⟨w.heap.size, 3, none⟩ (.slice none 0 0)) = w8 at *
     simp [results, Tryz.results35, go_sem, e0, e1, e2, e3]
    case false =>
     have HQ : Hid (EA = (ol, 0)) := by show _ = _; rw [HE2.out, qz]; rfl
     go_wp2
     have hX3 := set4_obj (v0 := .int .i64 3) (v1 := .string ⟨#[]⟩) (v2 := .string ⟨#[]⟩) (v3 := .slice a4 i c4) HX7.out
     have hB3 : Below w.heap.size w (set4 w7 w.heap.size (.int .i64 3) (.string ⟨#[]⟩) (.string ⟨#[]⟩) (.slice a4 i c4)) := (((HB7.out.setCell (p := ⟨w.heap.size, 0, none⟩) (Nat.le_refl _) _).setCell (p := ⟨w.heap.size, 1, none⟩) (Nat.le_refl _) _).setCell (p := ⟨w.heap.size, 2, none⟩) (Nat.le_refl _) _).setCell (p := ⟨w.heap.size, 3, none⟩) (Nat.le_refl _) _
     have hP3 : ∃ v', Ending.returned (.tuple #[.agg #[.int .i64 3, .string ⟨#[]⟩, .string ⟨#[]⟩, .slice a4 i c4], .int .i64 0]) = .returned (.tuple #[v', .int .i64 EA.2]) ∧ Is (set4 w7 w.heap.size (.int .i64 3) (.string ⟨#[]⟩) (.string ⟨#[]⟩) (.slice a4 i c4)) v' EA.1 ∧ Below w.heap.size w (set4 w7 w.heap.size (.int .i64 3) (.string ⟨#[]⟩) (.string ⟨#[]⟩) (.slice a4 i c4)) := by
      rw [HQ.out]
      exact ⟨_, rfl, HL7.out _ (Kv.set4 (Kv.refl _ _) (show w.heap.size < g + 1 by omega)), hB3⟩
     unfold set4 at hX3 hP3
     have e0 := objcell hX3 (j := 0) rfl
     have e1 := objcell hX3 (j := 1) rfl
     have e2 := objcell hX3 (j := 2) rfl
     have e3 := objcell hX3 (j := 3) rfl
     refine bodyPost_ret (v := .tuple #[.agg #[.int .i64 3, .string ⟨#[]⟩, .string ⟨#[]⟩, .slice a4 i c4], .int .i64 0]) ?_ rfl hP3
     clear hX3 hB3 hP3
     generalize ((((w7.setCell ⟨w.heap.size, 0, none⟩ (.int .i64 3)).setCell ⟨w.heap.size, 1, none⟩ (.string ⟨#[]⟩)).setCell ⟨w.heap.size, 2, none⟩ (.string ⟨#[]⟩)).setCell ⟨w.heap.size, 3, none⟩ (.slice a4 i c4)) = w8 at *
     simp [results, Tryz.results35, go_sem, e0, e1, e2, e3]
  have hiz : (i : Int) < (N : Int) := by omega
  obtain ⟨y, hy⟩ := get_lt (xs := l) (k := i) (by rw [HN.out]; exact hlt)
  have hmem := List.mem_of_getElem? hy
  have hy64 : y.length ≤ 64 := HSZ.out.2 y hmem
  have HRA := Lib.hid (rowAE_succ hy)
  have HTA := Lib.hid (take_at hy)
  obtain ⟨b, off, rfl, hb, a3, c3, y0', hyc, hym, hyr⟩ := list_at HR.out hy
  have y0 := kept HB7.out y0'
  have hsb := cell_lt y0
  have HYR := Lib.hid hyr
  have HY0 := Lib.hid y0'
  clear hy y0' hyr
  generalize hM : y.length = M at *
  have HM := Lib.hid hM
  clear hM
  cases qm : ((M : Int) == 0)
  case true =>
   have hany : (l.any fun a => (a.length : Int) == 0) = true := List.any_eq_true.2 ⟨y, hmem, by rw [HM.out]; exact qm⟩
   have HQ : Hid (EA = (zeroE, 1)) := by show _ = _; rw [HE.out, q0, q1, hany]; rfl
   clear hany hmem
   have f0 := objfrozen HX7.out (j := 0)
   have z0 := objcell HX7.out (j := 0) rfl
   have f1 := objfrozen HX7.out (j := 1)
   have z1 := objcell HX7.out (j := 1) rfl
   have f2 := objfrozen HX7.out (j := 2)
   have z2 := objcell HX7.out (j := 2) rfl
   have f3 := objfrozen HX7.out (j := 3)
   have z3 := objcell HX7.out (j := 3) rfl
   go_wp2
   have hX3 := set4_obj (v0 := .int .i64 0) (v1 := .string ⟨#[]⟩) (v2 := .string ⟨#[]⟩) (v3 := .slice none 0 0) HX7.out
   have hB3 : Below w.heap.size w (set4 wr w.heap.size (.int .i64 0) (.string ⟨#[]⟩) (.string ⟨#[]⟩) (.slice none 0 0)) := (((HB7.out.setCell (p := ⟨w.heap.size, 0, none⟩) (Nat.le_refl _) _).setCell (p := ⟨w.heap.size, 1, none⟩) (Nat.le_refl _) _).setCell (p := ⟨w.heap.size, 2, none⟩) (Nat.le_refl _) _).setCell (p := ⟨w.heap.size, 3, none⟩) (Nat.le_refl _) _
   have hP3 : ∃ v', Ending.returned (.tuple #[.agg #[.int .i64 0, .string ⟨#[]⟩, .string ⟨#[]⟩, .slice none 0 0], .int .i64 1]) = .returned (.tuple #[v', .int .i64 EA.2]) ∧ Is (set4 wr w.heap.size (.int .i64 0) (.string ⟨#[]⟩) (.string ⟨#[]⟩) (.slice none 0 0)) v' EA.1 ∧ Below w.heap.size w (set4 wr w.heap.size (.int .i64 0) (.string ⟨#[]⟩) (.string ⟨#[]⟩) (.slice none 0 0)) := by
    rw [HQ.out]
    exact ⟨_, rfl, (leaf_is 0 _ (show ByteArray.empty.size ≤ maxLen by decide)).is, hB3⟩
   unfold set4 at hX3 hP3
   have e0 := objcell hX3 (j := 0) rfl
   have e1 := objcell hX3 (j := 1) rfl
   have e2 := objcell hX3 (j := 2) rfl
   have e3 := objcell hX3 (j := 3) rfl
   refine bodyPost_ret (v := .tuple #[.agg #[.int .i64 0, .string ⟨#[]⟩, .string ⟨#[]⟩, .slice none 0 0], .int .i64 1]) ?_ rfl hP3
   clear hX3 hB3 hP3
   generalize ((((wr.setCell ⟨w.heap.size, 0, none⟩ (.int .i64 0)).setCell ⟨w.heap.size, 1, none⟩ (.string ⟨#[]⟩)).setCell ⟨w.heap.size, 2, none⟩ (.string ⟨#[]⟩)).setCell ⟨w.heap.size, 3, none⟩ (.slice none 0 0)) = w8 at *
   simp [results, Tryz.results35, go_sem, e0, e1, e2, e3]
  have hM0 : ¬ M = 0 := by simpa using qm
  obtain ⟨W1, rfl⟩ : ∃ W1 : World, W1 = wr := ⟨_, rfl⟩
  have hOp := World.alloc_heap_new W1 (.cells #[.int .i64 2, .string ⟨#[]⟩, .string ⟨#[]⟩, .slice none 0 0] 30)
  have hbp : Below W1.heap.size W1 (W1.alloc (.cells #[.int .i64 2, .string ⟨#[]⟩, .string ⟨#[]⟩, .slice none 0 0] 30)) := (by repeat (first | exact zR _ _ | assumption | refine zN ?_ _ | refine zD ?_ | refine zA ?_ ?_ _ | refine zS ?_ ?_ _ | refine zT ?_ (zM (by assumption) ?_) | exact Nat.le_refl _ | (simp <;> omega) | omega))
  have hsp : (W1.alloc (.cells #[.int .i64 2, .string ⟨#[]⟩, .string ⟨#[]⟩, .slice none 0 0] 30)).heap.size = W1.heap.size + 1 := by simp
  have HBP := Lib.hid hbp
  have HOP := Lib.hid hOp
  have HSP := Lib.hid hsp
  clear hOp hbp hsp hmem
  go_wp2_with fail
  generalize (W1.alloc (.cells #[.int .i64 2, .string ⟨#[]⟩, .string ⟨#[]⟩, .slice none 0 0] 30)) = wo at *
  go_loopw [7] (fun jv wr => ∃ (j : Nat) (a2 : Option Addr) (c2 : Nat), j ≤ M ∧ jv = .int .i64 j ∧ Hid (Below W1.heap.size wo wr) ∧ Hid (wr.heap[W1.heap.size]? = some (.cells #[.int .i64 2, .string ⟨#[]⟩, .string ⟨#[]⟩, .slice a2 j c2] 30 (0, 0))) ∧ Hid (OwnN (W1.heap.size + 1) wr (.slice a2 j c2) (rowTE y j))) (fun jv _ => M - (intOf jv).toNat)
  case atStart => exact ⟨0, none, 0, by omega, rfl, Lib.hid (Below.refl _ _), HOP, Lib.hid (OwnN.nil _ _)⟩
  case round =>
   obtain ⟨j, a2, c2, hj, rfl, HBi, HP, HOi⟩ := hrel
   have hsi := HBi.out.size
   have hsp := heap_lt HP.out
   have HBW : Hid (Below w.heap.size w wr) := HB7.out.trans ((HBP.out.trans HBi.out).mono HB7.out.size)
   have y0 := kept HBW.out HY0.out
   have hsb := cell_lt y0
   have f0 := objfrozen HP.out (j := 0)
   have z0 := objcell HP.out (j := 0) rfl
   have f1 := objfrozen HP.out (j := 1)
   have z1 := objcell HP.out (j := 1) rfl
   have f2 := objfrozen HP.out (j := 2)
   have z2 := objcell HP.out (j := 2) rfl
   have f3 := objfrozen HP.out (j := 3)
   have z3 := objcell HP.out (j := 3) rfl
   by_cases hltj : j < M
   case neg =>
    have hjz : ¬ (j : Int) < (M : Int) := by omega
    obtain rfl : j = M := by omega
    have hlen : (y.map termE).length = j := by rw [List.length_map, HM.out]
    have HOT : Hid (OwnN (W1.heap.size + 1) wr (.slice a2 j c2) (y.map termE)) := by have h1 := HOi.out; rw [rowTE_all (y := y) (j := j) HM.out] at h1; exact h1
    have HUB : Hid (∀ k, (Value.slice a4 i c4).ownBlock = some k → k < W1.heap.size) := fun k hk => HO.out.blk hk
    have HB1 : Hid (Below W1.heap.size W1 wr) := HBP.out.trans HBi.out
    have hg1 : g < W1.heap.size := by omega
    have hw1 : w.heap.size < W1.heap.size := by omega
    by_cases h1 : j = 1
    ·subst h1
     obtain ⟨gr, k1, n1, x1, ks1, a1, c1, rfl, hNA, r0, r1, r2, r3, hLE⟩ := nodeA_le1 (kind := 2) HOT.out hlen
     have hAE : altE y = .mk k1 n1 x1 ks1 := hNA
     have hsg := cell_lt r0
     have hX4 := set4_obj (v0 := .int .i64 k1) (v1 := .string n1) (v2 := .string x1) (v3 := .slice a1 ks1.length c1) HP.out
     have hB1q : Below W1.heap.size W1 (set4 wr W1.heap.size (.int .i64 k1) (.string n1) (.string x1) (.slice a1 ks1.length c1)) := (((HB1.out.setCell (p := ⟨W1.heap.size, 0, none⟩) (Nat.le_refl _) _).setCell (p := ⟨W1.heap.size, 1, none⟩) (Nat.le_refl _) _).setCell (p := ⟨W1.heap.size, 2, none⟩) (Nat.le_refl _) _).setCell (p := ⟨W1.heap.size, 3, none⟩) (Nat.le_refl _) _
     have hLq : LE (W1.heap.size + 1) (set4 wr W1.heap.size (.int .i64 k1) (.string n1) (.string x1) (.slice a1 ks1.length c1)) (.agg #[.int .i64 k1, .string n1, .string x1, .slice a1 ks1.length c1]) (.mk k1 n1 x1 ks1) := hLE.kv (Kv.set4 (Kv.refl _ _) (Nat.lt_succ_self _))
     go_upto_region 16 with fail
     unfold set4 at hX4 hB1q hLq
     generalize ((((wr.setCell ⟨W1.heap.size, 0, none⟩ (.int .i64 k1)).setCell ⟨W1.heap.size, 1, none⟩ (.string n1)).setCell ⟨W1.heap.size, 2, none⟩ (.string x1)).setCell ⟨W1.heap.size, 3, none⟩ (.slice a1 ks1.length c1)) = wq at *
     have HPq := Lib.hid hX4
     have HBq := Lib.hid hB1q
     have HLq := Lib.hid hLq
     have HAE := Lib.hid hAE
     clear hX4 hB1q hLq hLE r0 r1 r2 r3 z0 z1 z2 z3 f0 f1 f2 f3 hsg hAE hNA
     have HGq := Lib.hid (obj_below HG.out HBq.out)
     have HXq := Lib.hid (obj_below HX7.out HBq.out)
     have HOq := Lib.hid (HO.out.below HBq.out)
     have HBw : Hid (Below w.heap.size w wq) := HB7.out.trans (HBq.out.mono HB7.out.size)
     have hsq := HBq.out.size
     have hGq := HGq.out
     have hPq := HPq.out
     have f3 := objfrozen hGq (j := 3)
     have z3 := objcell hGq (j := 3) rfl
     have p0 := objcell hPq (j := 0) rfl
     have p1 := objcell hPq (j := 1) rfl
     have p2 := objcell hPq (j := 2) rfl
     have p3 := objcell hPq (j := 3) rfl
     have hsP := obj_lt hPq
     have hsG := obj_lt hGq
     clear hGq hPq
     have hbA : Below wq.heap.size wq (wq.alloc (.cells #[.int .i64 k1, .string n1, .string x1, .slice a1 ks1.length c1] 30)) := (Below.refl _ _).alloc (Nat.le_refl _) _
     have HNA : Hid ((wq.alloc (.cells #[.int .i64 k1, .string n1, .string x1, .slice a1 ks1.length c1] 30)).heap[wq.heap.size]? = some (.cells #[.int .i64 k1, .string n1, .string x1, .slice a1 ks1.length c1] 30 (0, 0))) := Lib.hid (World.alloc_heap_new wq _)
     have HOA := Lib.hid (HOq.out.below hbA)
     have HGA := Lib.hid (obj_below HGq.out hbA)
     have HXA := Lib.hid (obj_below HXq.out hbA)
     have HBA : Hid (Below w.heap.size w (wq.alloc (.cells #[.int .i64 k1, .string n1, .string x1, .slice a1 ks1.length c1] 30))) := Lib.hid (HBw.out.trans (hbA.mono HBw.out.size))
     have HKA := Lib.hid (Kv.of_below (M := fun k => k < W1.heap.size + 1) hbA)
     have hsA : g + 1 ≤ (wq.alloc (.cells #[.int .i64 k1, .string n1, .string x1, .slice a1 ks1.length c1] 30)).heap.size := by simp; omega
     have hrl := rowAE_length (l := l) (j := i) (by rw [HN.out]; exact hi)
     have HRL := Lib.hid hrl
     have HRL1 := Lib.hid (rowAE_length (l := l) (j := i + 1) (by rw [HN.out]; exact hlt))
     clear hbA hrl
     go_wp2_with (at_builtin; refine wp_appN rfl _ _ rfl (g + 1) (.slice a4 i c4) (rowAE l i) rfl HOA.out wq.heap.size #[.int .i64 k1, .string n1, .string x1, .slice a1 ks1.length c1] (.mk k1 n1 x1 ks1) rfl rfl HNA.out ?p4 ?p5 ?p6 hsA ?_)
     case p4 => simp [Value.oneCell']
     case p5 =>
      have h5 := HLq.out.elem HKA.out (show g + 1 ≤ W1.heap.size + 1 by omega) (u := .slice a4 i c4) (fun k hk => by have := HUB.out k hk; omega)
      exact h5
     case p6 => rw [HRL.out]; omega
     intro v' w5 ho5 hg5 hv5
     rw [← HAE.out, ← HRA.out] at ho5
     obtain ⟨a5, c5, rfl, hc5, hn5⟩ := ho5.slice HRL1.out
     have hne : ∀ k, (Value.slice a4 i c4).ownBlock = some k → g + 1 ≤ k := fun k hk => HOA.out.high hk
     have hG5 := obj_grow HGA.out hg5 (fun e => by have := hne g e.symm; omega)
     have hX5 := obj_grow HXA.out hg5 (fun e => by have := hne _ e.symm; omega)
     have HB5 : Hid (Below w.heap.size w w5) := HBA.out.grown hg5 HBA.out.size (fun r e => by have := hne r e; omega)
     have f3 := objfrozen hG5 (j := 3)
     have z3 := objcell hG5 (j := 3) rfl
     have hsG5 := obj_lt hG5
     have HG5 := Lib.hid hG5
     have HX5 := Lib.hid hX5
     have HO5 := Lib.hid ho5
     have HS5 : Hid (g + 1 ≤ w5.heap.size) := Lib.hid (by have := hg5.size; omega)
     have HNN : Hid (∀ x ∈ l.take (i + 1), x ≠ []) := by
      intro x hx
      rw [HTA.out] at hx
      rcases List.mem_append.1 hx with hx | hx
      ·exact HNE.out x hx
      ·obtain rfl : x = y := by simpa using hx
       rintro rfl; have h9 := HM.out; first | (simp at h9; done) | (simp at h9; omega)
     clear ho5 hg5 hv5 hG5 hX5 hne p0 p1 p2 p3 hsP hsA
     go_wp2
     go_roundw
     case rel =>
      refine ⟨i + 1, a5, c5, by omega, by go_num, ?_, ?_, ?_, ?_, ?_, HNN⟩
      ·exact HB5.out.setCell (p := ⟨g, 3, none⟩) (show w.heap.size ≤ g by omega) _
      ·show _ ≤ _; have h := HS5.out; simpa [World.setCell] using h
      ·show _ = _; rw [blk_set_other _ _ _ _ (show w.heap.size ≠ g by omega)]; exact HX5.out
      ·exact setCell_obj _ _ 3 _ HG5.out
      ·exact HO5.out.kv (Kv.setCell _ _ (show g < g + 1 by omega))
     case measure => simp [intOf]; omega
    ·have hj1 : ((j : Int) == 1) = false := by simp; omega
     have hLq : LE (W1.heap.size + 1) wr (.agg #[.int .i64 2, .string ⟨#[]⟩, .string ⟨#[]⟩, .slice a2 (y.map termE).length c2]) (.mk 2 ByteArray.empty ByteArray.empty (y.map termE)) := by
      have h2 := nodeA_le (kind := 2) HOT.out hlen h1 (by unfold inI64; omega)
      rw [nodeA_ne (by rw [hlen]; exact h1)] at h2
      rw [hlen]; exact h2
     have hAE : altE y = .mk 2 ByteArray.empty ByteArray.empty (y.map termE) := nodeA_ne (by rw [hlen]; exact h1)
     go_upto_region 16 with fail
     obtain ⟨wq, rfl⟩ : ∃ wq : World, wq = wr := ⟨_, rfl⟩
     have HPq := HP
     have HBq := HB1
     have HLq := Lib.hid hLq
     have HAE := Lib.hid hAE
     have HLEN := Lib.hid hlen
     clear hLq z0 z1 z2 z3 f0 f1 f2 f3 HP hAE hlen
     have HGq := Lib.hid (obj_below HG.out HBq.out)
     have HXq := Lib.hid (obj_below HX7.out HBq.out)
     have HOq := Lib.hid (HO.out.below HBq.out)
     have HBw : Hid (Below w.heap.size w wq) := HB7.out.trans (HBq.out.mono HB7.out.size)
     have hsq := HBq.out.size
     have hGq := HGq.out
     have hPq := HPq.out
     have f3 := objfrozen hGq (j := 3)
     have z3 := objcell hGq (j := 3) rfl
     have p0 := objcell hPq (j := 0) rfl
     have p1 := objcell hPq (j := 1) rfl
     have p2 := objcell hPq (j := 2) rfl
     have p3 := objcell hPq (j := 3) rfl
     have hsP := obj_lt hPq
     have hsG := obj_lt hGq
     clear hGq hPq
     have hbA : Below wq.heap.size wq (wq.alloc (.cells #[.int .i64 2, .string ⟨#[]⟩, .string ⟨#[]⟩, .slice a2 j c2] 30)) := (Below.refl _ _).alloc (Nat.le_refl _) _
     have HNA : Hid ((wq.alloc (.cells #[.int .i64 2, .string ⟨#[]⟩, .string ⟨#[]⟩, .slice a2 j c2] 30)).heap[wq.heap.size]? = some (.cells #[.int .i64 2, .string ⟨#[]⟩, .string ⟨#[]⟩, .slice a2 j c2] 30 (0, 0))) := Lib.hid (World.alloc_heap_new wq _)
     have HOA := Lib.hid (HOq.out.below hbA)
     have HGA := Lib.hid (obj_below HGq.out hbA)
     have HXA := Lib.hid (obj_below HXq.out hbA)
     have HBA : Hid (Below w.heap.size w (wq.alloc (.cells #[.int .i64 2, .string ⟨#[]⟩, .string ⟨#[]⟩, .slice a2 j c2] 30))) := Lib.hid (HBw.out.trans (hbA.mono HBw.out.size))
     have HKA := Lib.hid (Kv.of_below (M := fun k => k < W1.heap.size + 1) hbA)
     have hsA : g + 1 ≤ (wq.alloc (.cells #[.int .i64 2, .string ⟨#[]⟩, .string ⟨#[]⟩, .slice a2 j c2] 30)).heap.size := by simp; omega
     have hrl := rowAE_length (l := l) (j := i) (by rw [HN.out]; exact hi)
     have HRL := Lib.hid hrl
     have HRL1 := Lib.hid (rowAE_length (l := l) (j := i + 1) (by rw [HN.out]; exact hlt))
     clear hbA hrl
     go_wp2_with (at_builtin; refine wp_appN rfl _ _ rfl (g + 1) (.slice a4 i c4) (rowAE l i) rfl HOA.out wq.heap.size #[.int .i64 2, .string ⟨#[]⟩, .string ⟨#[]⟩, .slice a2 j c2] (.mk 2 ByteArray.empty ByteArray.empty (y.map termE)) rfl rfl HNA.out ?p4 ?p5 ?p6 hsA ?_)
     case p4 => simp [Value.oneCell']
     case p5 =>
      have h5 := HLq.out.elem HKA.out (show g + 1 ≤ W1.heap.size + 1 by omega) (u := .slice a4 i c4) (fun k hk => by have := HUB.out k hk; omega)
      rw [HLEN.out] at h5; exact h5
     case p6 => rw [HRL.out]; omega
     intro v' w5 ho5 hg5 hv5
     rw [← HAE.out, ← HRA.out] at ho5
     obtain ⟨a5, c5, rfl, hc5, hn5⟩ := ho5.slice HRL1.out
     have hne : ∀ k, (Value.slice a4 i c4).ownBlock = some k → g + 1 ≤ k := fun k hk => HOA.out.high hk
     have hG5 := obj_grow HGA.out hg5 (fun e => by have := hne g e.symm; omega)
     have hX5 := obj_grow HXA.out hg5 (fun e => by have := hne _ e.symm; omega)
     have HB5 : Hid (Below w.heap.size w w5) := HBA.out.grown hg5 HBA.out.size (fun r e => by have := hne r e; omega)
     have f3 := objfrozen hG5 (j := 3)
     have z3 := objcell hG5 (j := 3) rfl
     have hsG5 := obj_lt hG5
     have HG5 := Lib.hid hG5
     have HX5 := Lib.hid hX5
     have HO5 := Lib.hid ho5
     have HS5 : Hid (g + 1 ≤ w5.heap.size) := Lib.hid (by have := hg5.size; omega)
     have HNN : Hid (∀ x ∈ l.take (i + 1), x ≠ []) := by
      intro x hx
      rw [HTA.out] at hx
      rcases List.mem_append.1 hx with hx | hx
      ·exact HNE.out x hx
      ·obtain rfl : x = y := by simpa using hx
       rintro rfl; have h9 := HM.out; first | (simp at h9; done) | (simp at h9; omega)
     clear ho5 hg5 hv5 hG5 hX5 hne p0 p1 p2 p3 hsP hsA
     go_wp2
     go_roundw
     case rel =>
      refine ⟨i + 1, a5, c5, by omega, by go_num, ?_, ?_, ?_, ?_, ?_, HNN⟩
      ·exact HB5.out.setCell (p := ⟨g, 3, none⟩) (show w.heap.size ≤ g by omega) _
      ·show _ ≤ _; have h := HS5.out; simpa [World.setCell] using h
      ·show _ = _; rw [blk_set_other _ _ _ _ (show w.heap.size ≠ g by omega)]; exact HX5.out
      ·exact setCell_obj _ _ 3 _ HG5.out
      ·exact HO5.out.kv (Kv.setCell _ _ (show g < g + 1 by omega))
     case measure => simp [intOf]; omega
   have hjz : (j : Int) < (M : Int) := by omega
   have hj0 : (0 : Int) ≤ (j : Int) := by omega
   have hi0 : (0 : Int) ≤ (i : Int) := by omega
   obtain ⟨t, ht⟩ := get_lt (xs := y) (k := j) (by rw [HM.out]; exact hltj)
   have hLT := rowTE_length (y := y) (j := j) (by rw [HM.out]; exact hj)
   have hLT1 := rowTE_length (y := y) (j := j + 1) (by rw [HM.out]; exact hltj)
   have HRT := Lib.hid (rowTE_succ ht)
   obtain ⟨bt, ot, rfl, hbt, t0', t1', st0, st1⟩ := Term.at_row HYR.out ht
   have t0 := kept HBW.out t0'
   have t1 := kept HBW.out t1'
   have hst := cell_lt t0
   have HT0c := Lib.hid t0'
   have HT1c := Lib.hid t1'
   have HT0 := Lib.hid st0
   have HT1 := Lib.hid st1
   have HLT := Lib.hid hLT
   have HLT1 := Lib.hid hLT1
   clear t0' t1' ht st0 st1 hLT hLT1
   go_wp2
   have hWr : W1.heap.size + 1 ≤ wr.heap.size := by have := HSP.out; omega
   have hhw : w.heap.size ≤ W1.heap.size := HB7.out.size
   have HPD : Hid (wr.drew.heap[W1.heap.size]? = some (.cells #[.int .i64 2, .string ⟨#[]⟩, .string ⟨#[]⟩, .slice a2 j c2] 30 (0, 0))) := HP
   have HOD : Hid (OwnN (W1.heap.size + 1) wr.drew (.slice a2 j c2) (rowTE y j)) := Lib.hid (HOi.out.below (by repeat (first | exact zR _ _ | assumption | refine zN ?_ _ | refine zD ?_ | refine zA ?_ ?_ _ | refine zS ?_ ?_ _ | refine zT ?_ (zM (by assumption) ?_) | exact Nat.le_refl _ | (simp <;> omega) | omega)))
   have HBD : Hid (Below W1.heap.size wo wr.drew) := Lib.hid (HBi.out.trans (show Below W1.heap.size wr wr.drew from ((Below.refl _ _).drew)))
   refine wp_region_held_drew (S := (fun w' : World => Below w.heap.size w w')) (by kernel_rfl) (by exact HBW.out.drew) (fun hH0 => ?_)
   refine wpAnyH_take (i := 2) (oi := _) (v := ?_) rfl (by kernel_rfl) (by kernel_rfl) (by kernel_rfl) (fun _ _ _ h => h) (Or.inl ⟨by kernel_rfl, ?_⟩) hH0 ?_
   rotate_left
   ·intro w hSw; (try dsimp only at hSw); go_simp
    all_goals with_reducible rfl
   try simp only [tkS, Act.put]
   refine wpAnyH_take (i := 3) (oi := _) (v := ?_) rfl (by kernel_rfl) (by kernel_rfl) (by kernel_rfl) (fun _ _ _ h => h) (Or.inl ⟨by kernel_rfl, ?_⟩) hH0 ?_
   rotate_left
   ·intro w hSw; (try dsimp only at hSw); go_simp
    all_goals with_reducible rfl
   try simp only [tkS, Act.put]
   refine wpAnyH_take (i := 4) (oi := _) (v := ?_) rfl (by kernel_rfl) (by kernel_rfl) (by kernel_rfl) (fun _ _ _ h => h) (Or.inl ⟨by kernel_rfl, ?_⟩) hH0 ?_
   rotate_left
   ·intro w hSw; (try dsimp only at hSw); have y0 := kept hSw HY0.out; have t0 := kept hSw HT0c.out; have t1 := kept hSw HT1c.out; have hsb := cell_lt y0; have hst := cell_lt t0; go_simp
    all_goals with_reducible rfl
   try simp only [tkS, Act.put]
   refine wpAnyH_take (i := 5) (oi := _) (v := ?_) rfl (by kernel_rfl) (by kernel_rfl) (by kernel_rfl) (fun _ _ _ h => h) (Or.inl ⟨by kernel_rfl, ?_⟩) hH0 ?_
   rotate_left
   ·intro w hSw; (try dsimp only at hSw); have y0 := kept hSw HY0.out; have t0 := kept hSw HT0c.out; have t1 := kept hSw HT1c.out; have hsb := cell_lt y0; have hst := cell_lt t0; go_simp
    all_goals with_reducible rfl
   try simp only [tkS, Act.put]
   refine wpAnyH_take (i := 6) (oi := _) (v := ?_) rfl (by kernel_rfl) (by kernel_rfl) (by kernel_rfl) (fun _ _ _ h => h) (Or.inl ⟨by kernel_rfl, ?_⟩) hH0 ?_
   rotate_left
   ·intro w hSw; (try dsimp only at hSw); go_simp
    all_goals with_reducible rfl
   try simp only [tkS, Act.put]
   refine wpAnyH_take (i := 7) (oi := _) (v := ?_) rfl (by kernel_rfl) (by kernel_rfl) (by kernel_rfl) (fun _ _ _ h => h) (Or.inl ⟨by kernel_rfl, ?_⟩) hH0 ?_
   rotate_left
   ·intro w hSw; (try dsimp only at hSw); have y0 := kept hSw HY0.out; have t0 := kept hSw HT0c.out; have t1 := kept hSw HT1c.out; have hsb := cell_lt y0; have hst := cell_lt t0; go_simp
    all_goals with_reducible rfl
   try simp only [tkS, Act.put]
   refine wpAnyH_take (i := 8) (oi := _) (v := ?_) rfl (by kernel_rfl) (by kernel_rfl) (by kernel_rfl) (fun _ _ _ h => h) (Or.inl ⟨by kernel_rfl, ?_⟩) hH0 ?_
   rotate_left
   ·intro w hSw; (try dsimp only at hSw); have y0 := kept hSw HY0.out; have t0 := kept hSw HT0c.out; have t1 := kept hSw HT1c.out; have hsb := cell_lt y0; have hst := cell_lt t0; go_simp
    all_goals with_reducible rfl
   try simp only [tkS, Act.put]
   refine wpAnyH_take (i := 9) (oi := _) (v := ?_) rfl (by kernel_rfl) (by kernel_rfl) (by kernel_rfl) (fun _ _ _ h => h) (Or.inl ⟨by kernel_rfl, ?_⟩) hH0 ?_
   rotate_left
   ·intro w hSw; (try dsimp only at hSw); have y0 := kept hSw HY0.out; have t0 := kept hSw HT0c.out; have t1 := kept hSw HT1c.out; have hsb := cell_lt y0; have hst := cell_lt t0; go_simp
    all_goals with_reducible rfl
   try simp only [tkS, Act.put]
   refine wpAnyH_take (i := 10) (oi := _) (v := ?_) rfl (by kernel_rfl) (by kernel_rfl) (by kernel_rfl) (fun _ _ _ h => h) (Or.inl ⟨by kernel_rfl, ?_⟩) hH0 ?_
   rotate_left
   ·intro w hSw; (try dsimp only at hSw); go_simp
    all_goals with_reducible rfl
   try simp only [tkS, Act.put]
   refine wpAnyH_take (i := 11) (oi := _) (v := ?_) rfl (by kernel_rfl) (by kernel_rfl) (by kernel_rfl) (fun _ _ _ h => h) (Or.inl ⟨by kernel_rfl, ?_⟩) hH0 ?_
   rotate_left
   ·intro w hSw; (try dsimp only at hSw); go_simp
    all_goals with_reducible rfl
   try simp only [tkS, Act.put]
   refine wpAnyH_take (i := 12) (oi := _) (v := ?_) rfl (by kernel_rfl) (by kernel_rfl) (by kernel_rfl) (fun _ _ _ h => h) (Or.inl ⟨by kernel_rfl, ?_⟩) hH0 ?_
   rotate_left
   ·intro w hSw; (try dsimp only at hSw); have y0 := kept hSw HY0.out; have t0 := kept hSw HT0c.out; have t1 := kept hSw HT1c.out; have hsb := cell_lt y0; have hst := cell_lt t0; go_simp
    all_goals with_reducible rfl
   try simp only [tkS, Act.put]
   refine wpAnyH_take (i := 13) (oi := _) (v := ?_) rfl (by kernel_rfl) (by kernel_rfl) (by kernel_rfl) (fun _ _ _ h => h) (Or.inl ⟨by kernel_rfl, ?_⟩) hH0 ?_
   rotate_left
   ·intro w hSw; (try dsimp only at hSw); have y0 := kept hSw HY0.out; have t0 := kept hSw HT0c.out; have t1 := kept hSw HT1c.out; have hsb := cell_lt y0; have hst := cell_lt t0; go_simp
    all_goals with_reducible rfl
   try simp only [tkS, Act.put]
   refine wpAnyH_take (i := 14) (oi := _) (v := ?_) rfl (by kernel_rfl) (by kernel_rfl) (by kernel_rfl) (fun _ _ _ h => h) (Or.inl ⟨by kernel_rfl, ?_⟩) hH0 ?_
   rotate_left
   ·intro w hSw; (try dsimp only at hSw); go_simp
    all_goals with_reducible rfl
   try simp only [tkS, Act.put]
   refine wpAnyH_take (i := 15) (oi := _) (v := ?_) rfl (by kernel_rfl) (by kernel_rfl) (by kernel_rfl) (fun _ _ _ h => h) (Or.inl ⟨by kernel_rfl, ?_⟩) hH0 ?_
   rotate_left
   ·intro w hSw; (try dsimp only at hSw); have y0 := kept hSw HY0.out; have t0 := kept hSw HT0c.out; have t1 := kept hSw HT1c.out; have hsb := cell_lt y0; have hst := cell_lt t0; go_simp
    all_goals with_reducible rfl
   try simp only [tkS, Act.put]
   refine wpAnyH_take (i := 16) (oi := _) (v := ?_) rfl (by kernel_rfl) (by kernel_rfl) (by kernel_rfl) (fun _ _ _ h => h) (Or.inl ⟨by kernel_rfl, ?_⟩) hH0 ?_
   rotate_left
   ·intro w hSw; (try dsimp only at hSw); have y0 := kept hSw HY0.out; have t0 := kept hSw HT0c.out; have t1 := kept hSw HT1c.out; have hsb := cell_lt y0; have hst := cell_lt t0; go_simp
    all_goals with_reducible rfl
   try simp only [tkS, Act.put]
   refine wpAnyH_take (i := 17) (oi := _) (v := ?_) rfl (by kernel_rfl) (by kernel_rfl) (by kernel_rfl) (fun _ _ _ h => h) (Or.inl ⟨by kernel_rfl, ?_⟩) hH0 ?_
   rotate_left
   ·intro w hSw; (try dsimp only at hSw); have y0 := kept hSw HY0.out; have t0 := kept hSw HT0c.out; have t1 := kept hSw HT1c.out; have hsb := cell_lt y0; have hst := cell_lt t0; go_simp
    all_goals with_reducible rfl
   try simp only [tkS, Act.put]
   refine wpAnyH_take (i := 18) (oi := _) (v := ?_) rfl (by kernel_rfl) (by kernel_rfl) (by kernel_rfl) (fun _ _ _ h => h) (Or.inl ⟨by kernel_rfl, ?_⟩) hH0 ?_
   rotate_left
   ·intro w hSw; (try dsimp only at hSw); go_simp
    all_goals with_reducible rfl
   try simp only [tkS, Act.put]
   refine wpAnyH_take (i := 0) (oi := _) (v := ?_) rfl (by kernel_rfl) (by kernel_rfl) (by kernel_rfl) (fun _ _ _ h => h) (Or.inl ⟨by kernel_rfl, ?_⟩) hH0 ?_
   rotate_left
   ·intro w hSw; (try dsimp only at hSw); go_simp
    all_goals with_reducible rfl
   try simp only [tkS, Act.put]
   refine wpAnyH_ready (rs := [1, 19]) (by kernel_rfl) (by simp) ?_
   refine AllReadyH.cons (o := _) rfl (fun K hK => ?_) (AllReadyH.cons (o := _) rfl (fun K hK => ?_) AllReadyH.nil)
   ·go_simp
    go_wp2_with fail
    refine hK.out _ _ hH0 (fun hH1 => ?_)
    try simp only [tkS, Act.put]
    clear hK K
    refine wpAnyH_ready (rs := [19]) (by kernel_rfl) (by simp) ?_
    refine AllReadyH.cons (o := _) rfl (fun K hK => ?_) AllReadyH.nil
    go_simp
    go_wp2_with fail
    refine hK.out _ _ ?_ (fun hH2 => ?_)
    ·exact (by first | exact hH1.alloc hH1.size _ | exact (by repeat (first | exact zR _ _ | assumption | refine zN ?_ _ | refine zD ?_ | refine zA ?_ ?_ _ | refine zS ?_ ?_ _ | refine zT ?_ (zM (by assumption) ?_) | exact Nat.le_refl _ | (simp <;> omega) | omega)))
    try simp only [tkS, Act.put]
    clear hK K
    have HNA : Hid ((wr.drew.alloc (.cells #[.int .i64 0, .string t.license, .string t.exception, .slice none 0 0] 30)).heap[wr.heap.size]? = some (.cells #[.int .i64 0, .string t.license, .string t.exception, .slice none 0 0] 30 (0, 0))) := Lib.hid (World.alloc_heap_new wr.drew _)
    have hbA : Below wr.drew.heap.size wr.drew (wr.drew.alloc (.cells #[.int .i64 0, .string t.license, .string t.exception, .slice none 0 0] 30)) := (Below.refl _ _).alloc (Nat.le_refl _) _
    have HPA := Lib.hid (obj_below HPD.out hbA)
    have HOA := Lib.hid (HOD.out.below hbA)
    have HBA : Hid (Below W1.heap.size wo (wr.drew.alloc (.cells #[.int .i64 0, .string t.license, .string t.exception, .slice none 0 0] 30))) := Lib.hid (HBD.out.alloc (by have := HBD.out.size; have := HSP.out; omega) _)
    have hsA : W1.heap.size + 1 ≤ (wr.drew.alloc (.cells #[.int .i64 0, .string t.license, .string t.exception, .slice none 0 0] 30)).heap.size := by simp; omega
    clear hbA
    refine wpAnyH_ready (rs := [20]) (by kernel_rfl) (by simp) ?_
    refine AllReadyH.cons (o := _) rfl (fun K hK => ?_) AllReadyH.nil
    refine step_appN (by rfl) _ _ (by rfl) (W1.heap.size + 1) (.slice a2 j c2) (rowTE y j) (by rfl) HOA.out wr.heap.size #[.int .i64 0, .string t.license, .string t.exception, .slice none 0 0] (termE t) (by rfl) rfl HNA.out (by simp [Value.oneCell']) (fun w2 _ => LExpr.is_iff.2 ⟨none, 0, rfl, rfl, rfl, rfl, by unfold inI64; omega, HT0.out, HT1.out, Nat.le_refl _, by decide, fun i x h => by simp at h⟩) (by rw [HLT.out]; omega) hsA ?_
    intro v' w5 ho5 hg5 hv5
    rw [← HRT.out] at ho5
    obtain ⟨a5, c5, rfl, hc5, hn5⟩ := ho5.slice HLT1.out
    have h95 := obj_grow HPA.out hg5 (fun e => by have h1 := HOA.out.high e.symm; omega)
    have f5 := objfrozen h95 (j := 3)
    have d5 := objcell h95 (j := 3) rfl
    have hs5 := obj_lt h95
    have HB5 : Hid (Below W1.heap.size wo w5) := HBA.out.grown hg5 (by have := HBA.out.size; omega) (fun r e => by have h1 := HOA.out.high e; omega)
    have HB6 : Hid (Below w.heap.size w w5) := HB7.out.trans ((HBP.out.trans HB5.out).mono HB7.out.size)
    have HO5 := Lib.hid ho5
    have H95 := Lib.hid h95
    clear ho5 hg5 hv5 h95
    go_wp2_with fail
    refine hK.out _ _ ?_ (fun hH3 => ?_)
    ·exact HB6.out
    try simp only [tkS, Act.put]
    clear hK K
    refine wpAnyH_take (i := 21) (oi := _) (v := ?_) rfl (by kernel_rfl) (by kernel_rfl) (by kernel_rfl) (fun _ _ _ h => h) (Or.inl ⟨by kernel_rfl, ?_⟩) hH3 ?_
    rotate_left
    ·intro w hSw; (try dsimp only at hSw); go_simp
     all_goals with_reducible rfl
    try simp only [tkS, Act.put]
    refine wpAnyH_ready (rs := [22]) (by kernel_rfl) (by simp) ?_
    refine AllReadyH.cons (o := _) rfl (fun K hK => ?_) AllReadyH.nil
    go_simp
    go_wp2_with fail
    refine hK.out _ _ ?_ (fun hH4 => ?_)
    ·exact HB6.out.setCell (p := ⟨W1.heap.size, 3, none⟩) hhw _
    try simp only [tkS, Act.put]
    clear hK K
    refine wpAnyH_done (by kernel_rfl) ?_ _
    go_wp2
    go_roundw
    case rel =>
     refine ⟨j + 1, a5, c5, by omega, by go_num, ?_, ?_, ?_⟩
     ·exact HB5.out.setCell (p := ⟨W1.heap.size, 3, none⟩) (Nat.le_refl _) _
     ·exact setCell_obj _ _ 3 _ H95.out
     ·exact HO5.out.kv (Kv.setCell _ _ (show W1.heap.size < W1.heap.size + 1 by omega))
    case measure => simp [intOf]; omega
   ·go_simp
    go_wp2_with fail
    refine hK.out _ _ (by first | exact hH0.alloc hH0.size _ | exact (by repeat (first | exact zR _ _ | assumption | refine zN ?_ _ | refine zD ?_ | refine zA ?_ ?_ _ | refine zS ?_ ?_ _ | refine zT ?_ (zM (by assumption) ?_) | exact Nat.le_refl _ | (simp <;> omega) | omega))) (fun hH1 => ?_)
    try simp only [tkS, Act.put]
    clear hK K
    have HNA : Hid ((wr.drew.alloc (.cells #[.int .i64 0, .string t.license, .string t.exception, .slice none 0 0] 30)).heap[wr.heap.size]? = some (.cells #[.int .i64 0, .string t.license, .string t.exception, .slice none 0 0] 30 (0, 0))) := Lib.hid (World.alloc_heap_new wr.drew _)
    have hbA : Below wr.drew.heap.size wr.drew (wr.drew.alloc (.cells #[.int .i64 0, .string t.license, .string t.exception, .slice none 0 0] 30)) := (Below.refl _ _).alloc (Nat.le_refl _) _
    have HPA := Lib.hid (obj_below HPD.out hbA)
    have HOA := Lib.hid (HOD.out.below hbA)
    have HBA : Hid (Below W1.heap.size wo (wr.drew.alloc (.cells #[.int .i64 0, .string t.license, .string t.exception, .slice none 0 0] 30))) := Lib.hid (HBD.out.alloc (by have := HBD.out.size; have := HSP.out; omega) _)
    have hsA : W1.heap.size + 1 ≤ (wr.drew.alloc (.cells #[.int .i64 0, .string t.license, .string t.exception, .slice none 0 0] 30)).heap.size := by simp; omega
    clear hbA
    have p3 := objcell HPA.out (j := 3) rfl
    have hsp9 := obj_lt HPA.out
    refine wpAnyH_ready (rs := [1]) (by kernel_rfl) (by simp) ?_
    refine AllReadyH.cons (o := _) rfl (fun K hK => ?_) AllReadyH.nil
    go_simp
    go_wp2_with fail
    refine hK.out _ _ ?_ (fun hH2 => ?_)
    ·exact hH1
    try simp only [tkS, Act.put]
    clear hK K
    clear p3 hsp9
    refine wpAnyH_ready (rs := [20]) (by kernel_rfl) (by simp) ?_
    refine AllReadyH.cons (o := _) rfl (fun K hK => ?_) AllReadyH.nil
    refine step_appN (by rfl) _ _ (by rfl) (W1.heap.size + 1) (.slice a2 j c2) (rowTE y j) (by rfl) HOA.out wr.heap.size #[.int .i64 0, .string t.license, .string t.exception, .slice none 0 0] (termE t) (by rfl) rfl HNA.out (by simp [Value.oneCell']) (fun w2 _ => LExpr.is_iff.2 ⟨none, 0, rfl, rfl, rfl, rfl, by unfold inI64; omega, HT0.out, HT1.out, Nat.le_refl _, by decide, fun i x h => by simp at h⟩) (by rw [HLT.out]; omega) hsA ?_
    intro v' w5 ho5 hg5 hv5
    rw [← HRT.out] at ho5
    obtain ⟨a5, c5, rfl, hc5, hn5⟩ := ho5.slice HLT1.out
    have h95 := obj_grow HPA.out hg5 (fun e => by have h1 := HOA.out.high e.symm; omega)
    have f5 := objfrozen h95 (j := 3)
    have d5 := objcell h95 (j := 3) rfl
    have hs5 := obj_lt h95
    have HB5 : Hid (Below W1.heap.size wo w5) := HBA.out.grown hg5 (by have := HBA.out.size; omega) (fun r e => by have h1 := HOA.out.high e; omega)
    have HB6 : Hid (Below w.heap.size w w5) := HB7.out.trans ((HBP.out.trans HB5.out).mono HB7.out.size)
    have HO5 := Lib.hid ho5
    have H95 := Lib.hid h95
    clear ho5 hg5 hv5 h95
    go_wp2_with fail
    refine hK.out _ _ ?_ (fun hH3 => ?_)
    ·exact HB6.out
    try simp only [tkS, Act.put]
    clear hK K
    refine wpAnyH_take (i := 21) (oi := _) (v := ?_) rfl (by kernel_rfl) (by kernel_rfl) (by kernel_rfl) (fun _ _ _ h => h) (Or.inl ⟨by kernel_rfl, ?_⟩) hH3 ?_
    rotate_left
    ·intro w hSw; (try dsimp only at hSw); go_simp
     all_goals with_reducible rfl
    try simp only [tkS, Act.put]
    refine wpAnyH_ready (rs := [22]) (by kernel_rfl) (by simp) ?_
    refine AllReadyH.cons (o := _) rfl (fun K hK => ?_) AllReadyH.nil
    go_simp
    go_wp2_with fail
    refine hK.out _ _ ?_ (fun hH4 => ?_)
    ·exact HB6.out.setCell (p := ⟨W1.heap.size, 3, none⟩) hhw _
    try simp only [tkS, Act.put]
    clear hK K
    refine wpAnyH_done (by kernel_rfl) ?_ _
    go_wp2
    go_roundw
    case rel =>
     refine ⟨j + 1, a5, c5, by omega, by go_num, ?_, ?_, ?_⟩
     ·exact HB5.out.setCell (p := ⟨W1.heap.size, 3, none⟩) (Nat.le_refl _) _
     ·exact setCell_obj _ _ 3 _ H95.out
     ·exact HO5.out.kv (Kv.setCell _ _ (show W1.heap.size < W1.heap.size + 1 by omega))
    case measure => simp [intOf]; omega
end Go.Proofs.YtaaobpicaaeiiaaGreatDoor
