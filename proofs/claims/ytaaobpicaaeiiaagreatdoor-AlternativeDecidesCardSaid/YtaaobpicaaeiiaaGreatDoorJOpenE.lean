/- Opening an expression: what reads as data is an expression, whose strings are no longer than memory reaches. -/
import Derived.Test.YtaaobpicaaeiiaaGreatDoorJFrameG
import Derived.Test.YtaaobpicaaeiiaaGreatDoorJRfE
set_option linter.all false
namespace Go.Proofs.YtaaobpicaaeiiaaGreatDoor
open Go Go.RowKit Go.ChangeShapes Go.WideShapes Go.ChangeAt

theorem weights_all {H : Type} {P : Program} {e : TypeId} {d : DataW H} {m : Nat} : ∀ {l : List (DataW H)}, d ∈ l → m ∈ d.weights P e → m ∈ DataW.weightsAll P e l
 | [], h, _ => by simp at h
 | a :: r, h, hm => by
  rw [DataW.weightsAll]
  rcases List.mem_cons.1 h with rfl | h
  ·exact List.mem_append.2 (.inl hm)
  ·exact List.mem_append.2 (.inr (weights_all h hm))
theorem weights_str {H : Type} {P : Program} {t : TypeId} {b : List UInt8} : DataW.weights (H := H) P t (.lit (.string b)) = [b.length] := by rw [DataW.weights]
theorem weights_field {H : Type} {P : Program} {t : TypeId} {fs : Array Field} {xs : List (DataW H × List MemPlace)} {x : DataW H × List MemPlace} {ps : List MemPlace} (ht : P.underlying t = some (.struct fs)) (hx : x = (.agg (xs.map (·.1)), ps)) (hw : ∀ n ∈ x.1.weights P t, n ≤ reachBytes)
  {j : Nat} {f : Field} {d : DataW H × List MemPlace} (hf : fs[j]? = some f) (hd : xs[j]? = some d) : ∀ m ∈ d.1.weights P f.type, m ≤ reachBytes := by
 intro m hm
 refine hw m ?_
 subst hx
 show m ∈ DataW.weights P t (.agg (xs.map (·.1)))
 rw [DataW.weights, ht]
 exact DataW.weights_mem_each (by rw [List.getElem?_map, Array.getElem?_toList, hf]; rfl) (by rw [List.getElem?_map, hd]; rfl) m hm
theorem weights_elem {H : Type} {P : Program} {t e : TypeId} {elems rest : List (DataW H × List MemPlace)} {x : DataW H × List MemPlace} {ps : List MemPlace} (ht : P.underlying t = some (.slice e)) (hx : x = (.slice (elems.map (·.1)) (rest.map (·.1)), ps)) (hw : ∀ n ∈ x.1.weights P t, n ≤ reachBytes)
  {i : Nat} (hi : i < elems.length) : ∀ m ∈ (elems[i]).1.weights P e, m ≤ reachBytes := by
 intro m hm
 refine hw m ?_
 subst hx
 show m ∈ DataW.weights P t (.slice (elems.map (·.1)) (rest.map (·.1)))
 rw [DataW.weights, ht]
 exact List.mem_cons_of_mem _ (List.mem_append.2 (.inl (weights_all (List.mem_map.2 ⟨_, List.getElem_mem hi, rfl⟩) hm)))
theorem field_get {cs : List Value} {off m : Nat} {v : Value} (h : (cs.drop off).take m = [v]) : cs[off]? = some v := by
 have h1 : ((cs.drop off).take m)[0]? = some v := by rw [h]; rfl
 rw [List.getElem?_take] at h1
 split at h1
 ·rw [List.getElem?_drop] at h1; simpa using h1
 ·cases h1
set_option maxRecDepth 100000 in
theorem opens_LExpr {H : Type} {enc : TypeId × Value → H} {w : World} {spare : Nat → Bool} {held : Bool} (fuel : Nat) : ∀ {cs : List Value} {x : DataW H × List MemPlace},
  DataW.trod enc Tryz.prog w 0 spare held fuel 30 cs = some x → (∀ n ∈ x.1.weights Tryz.prog 30, n ≤ reachBytes) → cs.length = 4 ∧ ∃ e : LExpr, ExpIs w (fun j => cs[j]?) e ∧ okE e := by
 induction fuel using Nat.strongRecOn with
 | _ fuel ih =>
 intro cs x h hw
 obtain ⟨xs, n, rfl, hxx, hl, hx, hf⟩ := DataW.trod_struct Tryz.underlying30 h
 have hn : Tryz.prog.cellsOf 30 = 4 := by kernel_rfl
 obtain ⟨k, hk⟩ := opens_field (i := 0) (off := 0) hx rfl rfl rfl hf (opens_int Tryz.underlying3)
 have hx4 : xs.length = 4 := hx
 have g1 := hf 1 _ rfl
 have g2 := hf 2 _ rfl
 have g3 := hf 3 _ rfl
 rw [List.getElem?_eq_getElem (by omega)] at g1 g2 g3
 obtain ⟨s1, q1, r1, z1⟩ := DataW.trod_string Tryz.underlying9 g1
 obtain ⟨s2, q2, r2, z2⟩ := DataW.trod_string Tryz.underlying9 g2
 have w1 := weights_field Tryz.underlying30 hxx hw (j := 1) rfl (List.getElem?_eq_getElem (by omega))
 have w2 := weights_field Tryz.underlying30 hxx hw (j := 2) rfl (List.getElem?_eq_getElem (by omega))
 have w3 := weights_field Tryz.underlying30 hxx hw (j := 3) rfl (List.getElem?_eq_getElem (by omega))
 rw [r1, weights_str] at w1
 rw [r2, weights_str] at w2
 have y1 : s1.size ≤ reachBytes := by have := w1 _ (List.mem_singleton.2 rfl); simpa using this
 have y2 : s2.size ≤ reachBytes := by have := w2 _ (List.mem_singleton.2 rfl); simpa using this
 refine ⟨hl.trans hn, ?_⟩
 have c1 : cs[1]? = some (.string s1) := field_get q1
 have c2 : cs[2]? = some (.string s2) := field_get q2
 have c0 : cs[0]? = some (.int .i64 k) := by simpa using hk.1
 rcases DataW.trod_slice Tryz.underlying28 g3 with ⟨e3, -⟩ | ⟨a, len, cap, elems, rest, m, rfl, e3, ex, hb, hlc, hc, hel, hi, -⟩
 ·have c3 : cs[3]? = some (.slice none 0 0) := field_get e3
  exact ⟨.mk k s1 s2 [], .mk none 0 0 0 c0 hk.2 c1 z1 c2 z2 c3 (Nat.le_refl _) (by decide) (fun h => absurd rfl h) (fun i e h => by simp at h), okE_iff.2 ⟨y1, y2, fun e he => by simp at he⟩⟩
 ·have c3 : cs[3]? = some (.slice (some a) len cap) := field_get e3
  obtain ⟨l, hll, hp⟩ := choose_list (n := len) (P := fun i (x : LExpr) => a.spot = none ∧ a.block < w.heap.size ∧ ExpIs w (fun j => w.cell? ⟨a.block, a.off + i * 4 + j, none⟩) x ∧ okE x) (fun i hil => by
   have h1 := hi i hil
   rw [List.getElem?_eq_getElem (by omega), Option.bind_eq_some_iff] at h1
   obtain ⟨ci, h2, h3⟩ := h1
   obtain ⟨h4, y, h5, h5'⟩ := ih m (by omega) h3 (weights_elem Tryz.underlying28 ex w3 (by omega))
   obtain ⟨h6, h7⟩ := cells_get h2
   rw [hn] at h7 h6
   have hs0 : (a.add (i * 4)).spot = none ∧ (a.add (i * 4)).block < w.heap.size := by
    have h8 := h7 0 (by decide)
    rw [List.getElem?_eq_getElem (by omega)] at h8
    have e0 : (a.add (i * 4)).add 0 = a.add (i * 4) := rfl
    rw [e0] at h8
    exact ⟨cell_spot h8, cell_lt h8⟩
   have hsp : a.spot = none := by
    rcases Nat.eq_zero_or_pos i with h0 | h0
    ·subst h0
     have := hs0.1
     rw [Nat.zero_mul] at this
     exact this
    ·have h8 := hi 0 (by omega)
     rw [List.getElem?_eq_getElem (by omega), Option.bind_eq_some_iff] at h8
     obtain ⟨c0, h9, -⟩ := h8
     obtain ⟨h10, h11⟩ := cells_get h9
     have h12 := h11 0 (by rw [hn]; decide)
     rw [List.getElem?_eq_getElem (by rw [h10, hn]; decide), Nat.zero_mul] at h12
     exact cell_spot (a := a) h12
   have hadd : ∀ m, a.add m = ⟨a.block, a.off + m, none⟩ := fun m => by
    unfold Addr.add
    split
    ·rename_i hm; subst hm; cases a; simp at hsp; subst hsp; rfl
    ·rfl
   have hblk : a.block < w.heap.size := by have := hs0.2; rw [hadd] at this; exact this
   refine ⟨y, hsp, hblk, Lay.congr (α := LExpr) (fun j hj => ?_) h5, h5'⟩
   have h8 := h7 j hj
   have e2 : (a.add (i * 4)).add j = ⟨a.block, a.off + i * 4 + j, none⟩ := by
    rw [hadd (i * 4)]
    unfold Addr.add
    split
    ·rename_i hm; subst hm; rfl
    ·rfl
   rw [e2] at h8
   exact h8.symm)
  refine ⟨.mk k s1 s2 l, .mk (some a) cap a.block a.off c0 hk.2 c1 z1 c2 z2 (by rw [hll]; exact c3) (by rw [hll]; exact hlc) hc (fun hne => ?_) (fun i e he => (hp i e he).2.2.1), okE_iff.2 ⟨y1, y2, fun e he => ?_⟩⟩
  ·obtain ⟨y, r, rfl⟩ : ∃ y r, l = y :: r := by cases l with | nil => exact absurd rfl hne | cons y r => exact ⟨y, r, rfl⟩
   obtain ⟨h1, h2, -⟩ := hp 0 y rfl
   refine ⟨?_, h2⟩
   cases a; simp at h1; subst h1; rfl
  ·obtain ⟨i, hi, rfl⟩ := List.mem_iff_getElem.1 he
   exact (hp i _ (List.getElem?_eq_getElem hi)).2.2.2
set_option maxRecDepth 100000 in
theorem open_expr {H : Type} {enc : TypeId × Value → H} {w : World} {spare : Nat → Bool} {held : Bool} {v : Value} {d : DataW H} {ps : List MemPlace} {r : Reach} {base : Nat}
  (hv : Value.okWide Tryz.prog w r base 30 v) (h : DataW.Trod enc Tryz.prog w 0 spare held 30 v d ps) (hw : ∀ n ∈ d.weights Tryz.prog 30, n ≤ reachBytes) : ∃ x : LExpr, Is w v x ∧ okE x := by
 have hs := WideShapes.okWide_struct (P := Tryz.prog) (w := w) (r := r) (base := base) (t := 30) (v := v) Tryz.underlying30 hv
 obtain ⟨cs, hcs, -⟩ := hs
 subst hcs
 obtain ⟨fuel, h⟩ := h
 have h0 : DataW.trod enc Tryz.prog w 0 spare held fuel 30 cs.toList = some (d, ps) := h
 clear h
 obtain ⟨h1, x, h2, h3⟩ := opens_LExpr fuel h0 hw
 have h4 : cs.size = 4 := by rw [← h1, Array.length_toList]
 exact ⟨x, is_of_cells rfl h4 (Lay.congr (α := LExpr) (fun j _ => Array.getElem?_toList) h2), h3⟩
theorem returns_sized {H : Type} {enc : TypeId × Value → H} {a : Assume} {C : Checked} {os : Os} {f : FuncId} {fn : Func} {s : ChangeSpec} {conds : List PathCond} {apart fresh handsOn again : Bool} {X : World → Array Value → Prop}
  (hX : ∀ (w w' : World) (args : Array Value), w.heap = w'.heap → X w args → X w' args)
  (own : ownKnob C.prog.godebug = none) (started : os.Started) (noInit : C.prog.inits.idxOf? f = none) (hfn : C.prog.funcs[f]? = some fn)
  (witness : ∃ (w : World) (tape : Tape) (i : Input), w.os = os ∧ (w.forCall tape i).Shaped C.prog ∧ i.vars = [] ∧ Input.okWide C.prog (w.forCall tape i) .any w.heap.size f i ∧
   ((s.pre enc C.prog fn conds apart (w.forCall tape i).memory i.args ∧ X (w.forCall tape i).memory i.args) ∧ sizedMet enc C.prog fn (OpenSpec.ofChange s) apart (w.forCall tape i).memory i.args) ∧ a.holds C.prog (lone (Frame.enter C.prog f i.args .normal) [] (w.forCall tape i)))
  (contract : ∀ (W : World) (base : Nat) (args : Array Value) (ds gs : List (DataW H)) (before : List MemPlace),
   (∀ (j : Nat) t v, fn.params[j]? = some t → args[j]? = some v → Value.okWide C.prog W .any base t v) →
   DataW.Whole enc C.prog fn.params.toList s.vars apart W args.toList ds gs before → X W args → W.ShapedOpen C.prog →
   (∀ (j : Nat) t d, (fn.params.toList ++ s.plain.varTypes C.prog)[j]? = some t → (ds ++ gs)[j]? = some d → ∀ m ∈ d.weights C.prog t, m ≤ reachBytes) →
   Calls C.prog f args W fun e W' => ∃ v, e = .returned v ∧ s.post enc C.prog fn apart fresh handsOn again W args v W') :
  ReturnsInHanded a C os f .any (fun w args => (s.pre enc C.prog fn conds apart w args ∧ X w args) ∧ sizedMet enc C.prog fn (OpenSpec.ofChange s) apart w args) (s.post enc C.prog fn apart fresh handsOn again) := by
 refine returnsInHanded_of_calls own started noInit witness ?_
 intro w tape i _ hsh _ hok hpre hholds
 obtain ⟨_, _, _, fn', hfn', _, _, _, _, hval⟩ := hok
 have e : fn' = fn := Option.some.inj (hfn'.symm.trans hfn)
 subst e
 obtain ⟨⟨⟨ds, gs, before, hw, hc⟩, hx⟩, hz⟩ := hpre
 have hz2 := hz.weights hw
 have hw' := DataW.Whole.of_heap (w' := w.forCall tape i) (by rfl) hw
 refine (contract (w.forCall tape i) w.heap.size i.args ds gs before hval hw' (hX _ _ _ (by rfl) hx) hsh (fun j t d ht hd m hm => by
  have := List.all_eq_true.1 hz2 m (DataW.weights_mem_each ht hd m hm)
  simpa using this)).mono fun e W' ⟨v, he, hp⟩ => ?_
 subst he
 exact ChangeSpec.post_blind hp
end Go.Proofs.YtaaobpicaaeiiaaGreatDoor
