/- The frame of the statements' rows: what the listed variables give the walks. -/
import Derived.Test.YtoemmpfcnpdblaaGreatDoorRows
import Derived.Test.YtoemmpfcnpdblaaGreatDoorTie
import Derived.Test.YtoemmpfcnpdblaaGreatDoorCards
import Derived.Lay
import Derived.ShutString
import Derived.SizedLaws
import Derived.Shelf.Vars
import Derived.Lib.LaidTab
import Derived.Lib.LaidU8
import Derived.Test.YtoemmpfcnpdblaaGreatDoorJOpen
import Derived.Test.YtoemmpfcnpdblaaGreatDoorJProV
import Derived.Test.YtoemmpfcnpdblaaGreatDoorJExpG
set_option linter.all false
namespace Go.Proofs.YtoemmpfcnpdblaaGreatDoor
open Go Go.RowKit Go.ChangeShapes Go.WideShapes Go.ChangeAt
theorem own : ownKnob Tryz.prog.godebug = none := by kernel_rfl
theorem laidOut : laidOutB Tryz.prog = true := by kernel_rfl
theorem returns_shaped {H : Type} {enc : TypeId × Value → H} {a : Assume} {C : Checked} {os : Os} {f : FuncId} {fn : Func} {s : ChangeSpec} {conds : List PathCond} {apart fresh handsOn again : Bool} {X : World → Array Value → Prop}
  (hX : ∀ (w w' : World) (args : Array Value), w.heap = w'.heap → X w args → X w' args)
  (own : ownKnob C.prog.godebug = none) (started : os.Started) (noInit : C.prog.inits.idxOf? f = none) (hfn : C.prog.funcs[f]? = some fn)
  (witness : ∃ (w : World) (tape : Tape) (i : Input), w.os = os ∧ (w.forCall tape i).Shaped C.prog ∧ i.vars = [] ∧ Input.okWide C.prog (w.forCall tape i) .any w.heap.size f i ∧
   ((s.pre enc C.prog fn conds apart (w.forCall tape i).memory i.args ∧ X (w.forCall tape i).memory i.args) ∧ sizedMet enc C.prog fn (OpenSpec.ofChange s) apart (w.forCall tape i).memory i.args) ∧ a.holds C.prog (lone (Frame.enter C.prog f i.args .normal) [] (w.forCall tape i)))
  (contract : ∀ (W : World) (base : Nat) (args : Array Value) (ds gs : List (DataW H)) (before : List MemPlace),
   (∀ (j : Nat) t v, fn.params[j]? = some t → args[j]? = some v → Value.okWide C.prog W .any base t v) →
   DataW.Whole enc C.prog fn.params.toList s.vars apart W args.toList ds gs before → X W args → W.ShapedOpen C.prog →
   Calls C.prog f args W fun e W' => ∃ v, e = .returned v ∧ s.post enc C.prog fn apart fresh handsOn again W args v W') :
  ReturnsInHanded a C os f .any (fun w args => (s.pre enc C.prog fn conds apart w args ∧ X w args) ∧ sizedMet enc C.prog fn (OpenSpec.ofChange s) apart w args) (s.post enc C.prog fn apart fresh handsOn again) := by
 refine returnsInHanded_of_calls own started noInit witness ?_
 intro w tape i _ hsh _ hok hpre hholds
 obtain ⟨_, _, _, fn', hfn', _, _, _, _, hval⟩ := hok
 have e : fn' = fn := Option.some.inj (hfn'.symm.trans hfn)
 subst e
 obtain ⟨⟨⟨ds, gs, before, hw, hc⟩, hx⟩, hz⟩ := hpre
 have hw' := DataW.Whole.of_heap (w' := w.forCall tape i) (by rfl) hw
 refine (contract (w.forCall tape i) w.heap.size i.args ds gs before hval hw' (hX _ _ _ (by rfl) hx) hsh).mono fun e W' ⟨v, he, hp⟩ => ?_
 subst he
 exact ChangeSpec.post_blind hp
theorem glob_of {W : World} {l : List (String × DataW Unit)} (h : laidMet Tryz.prog l W) (hm : ("internal/strconv.uint64pow10", Rows.laid_internal_strconv_uint64pow10) ∈ l) (hs : W.ShapedOpen Tryz.prog) : Glob W := by
 refine ⟨cell_of_shapedOpen_int (zero := #[.int .i64 0]) (t := 3) hs (of_decide_eq_true (by kernel_rfl)) (by kernel_rfl) rfl (by kernel_rfl) (by kernel_rfl) Tryz.underlying3, ?_⟩
 obtain ⟨g', t', cs, fuel, p, hg', ht', hvar, hd⟩ := Lib.laidMet.reads h hm
 have hg : Tryz.prog.globalNamed "internal/strconv.uint64pow10" = some 5 := by kernel_rfl
 have hty : (Tryz.prog.globals[5]?).map (·.type) = some 317 := by kernel_rfl
 obtain rfl := Option.some.inj (hg.symm.trans hg')
 obtain rfl := Option.some.inj (hty.symm.trans ht')
 unfold Lib.TabIs
 rw [hvar, ← Lib.cells_of_tab (k := .u64) (zs := Lib.pow10Tab) Tryz.underlying317 Tryz.underlying238 (by kernel_rfl) (by kernel_rfl) hd]
end Go.Proofs.YtoemmpfcnpdblaaGreatDoor
namespace Go.Proofs.YtoemmpfcnpdblaaGreatDoor
open Go Go.RowKit Go.ChangeShapes Go.WideShapes Go.ChangeAt
set_option maxRecDepth 100000 in
theorem open_list {α : Type} [Lay α] {t e : TypeId} (ht : Tryz.prog.underlying t = some (.slice e)) (ho : Opens (List α) t)
  {H : Type} {enc : TypeId × Value → H} {w : World} {spare : Nat → Bool} {held : Bool} {v : Value} {d : DataW H} {ps : List MemPlace} {r : Reach} {base : Nat}
  (hv : Value.okWide Tryz.prog w r base t v) (h : DataW.Trod enc Tryz.prog w 0 spare held t v d ps) : ∃ x : List α, Is w v x := by
 have hs := WideShapes.okWide_slice (P := Tryz.prog) (w := w) (r := r) (base := base) (t := t) (v := v) (e := e) ht hv
 obtain ⟨a, n, c, hq⟩ := hs
 subst hq
 obtain ⟨fuel, h⟩ := h
 have h0 : DataW.trod enc Tryz.prog w 0 spare held fuel t [Value.slice a n c] = some (d, ps) := h
 obtain ⟨-, x, h2⟩ := ho h0
 exact ⟨x, #[.slice a n c], rfl, rfl, Lay.congr (fun j _ => by simp) h2⟩

theorem opens_alt : Opens (List Term) 24 := opens_list Tryz.underlying24 (by kernel_rfl) (by decide) opens_Term
theorem opens_alts : Opens (List (List Term)) 22 := opens_list Tryz.underlying22 (by kernel_rfl) (by decide) opens_alt
end Go.Proofs.YtoemmpfcnpdblaaGreatDoor
