/- Lemmas. -/
import Derived.Test.YtcbopdbbcgdkcaaGreatDoorLFrameG
import Derived.Test.YtcbopdbbcgdkcaaGreatDoorLDuA
import Derived.Test.YtcbopdbbcgdkcaaGreatDoorLRfE
import Derived.Test.YtcbopdbbcgdkcaaGreatDoorLFewU
set_option linter.all false
set_option maxRecDepth 100000
set_option maxHeartbeats 16000000
namespace Go.Proofs.YtcbopdbbcgdkcaaGreatDoor
open Go Go.RowKit Go.ChangeShapes Go.WideShapes Go.ChangeAt

theorem weights_all {H:Type} {P:Program} {e:TypeId} {d:DataW H} {m:Nat}:∀ {l:List (DataW H)},d∈l→m∈d.weights P e→m∈DataW.weightsAll P e l
 | [],h,_=>by simp at h
 | a :: r,h,hm=>by
  rw [DataW.weightsAll];rcases List.mem_cons.1 h with rfl | h
  ·exact List.mem_append.2 (.inl hm)
  ·exact List.mem_append.2 (.inr (weights_all h hm))
theorem weights_str {H:Type} {P:Program} {t:TypeId} {b:List UInt8}:DataW.weights (H:=H) P t (.lit (.string b))=[b.length]:=by rw [DataW.weights]
theorem weights_field {H:Type} {P:Program} {t:TypeId} {fs:Array Field} {xs:List (DataW H×List MemPlace)} {x:DataW H×List MemPlace} {ps:List MemPlace} (ht:P.underlying t=some (.struct fs)) (hx:x=(.agg (xs.map (·.1)),ps)) (hw:∀ n∈x.1.weights P t,n≤reachBytes)
  {j:Nat} {f:Field} {d:DataW H×List MemPlace} (hf:fs[j]?=some f) (hd:xs[j]?=some d):∀ m∈d.1.weights P f.type,m≤reachBytes:=by
 intro m hm;refine hw m ?_;subst hx;show m∈DataW.weights P t (.agg (xs.map (·.1)));rw [DataW.weights,ht];exact DataW.weights_mem_each (by rw [List.getElem?_map,Array.getElem?_toList,hf];rfl) (by rw [List.getElem?_map,hd];rfl) m hm
theorem weights_elem {H:Type} {P:Program} {t e:TypeId} {elems rest:List (DataW H×List MemPlace)} {x:DataW H×List MemPlace} {ps:List MemPlace} (ht:P.underlying t=some (.slice e)) (hx:x=(.slice (elems.map (·.1)) (rest.map (·.1)),ps)) (hw:∀ n∈x.1.weights P t,n≤reachBytes)
  {i:Nat} (hi:i < elems.length):∀ m∈(elems[i]).1.weights P e,m≤reachBytes:=by
 intro m hm;refine hw m ?_;subst hx;show m∈DataW.weights P t (.slice (elems.map (·.1)) (rest.map (·.1)));rw [DataW.weights,ht];exact List.mem_cons_of_mem _ (List.mem_append.2 (.inl (weights_all (List.mem_map.2 ⟨_,List.getElem_mem hi,rfl⟩) hm)))
theorem field_get {cs:List Value} {off m:Nat} {v:Value} (h:(cs.drop off).take m=[v]):cs[off]?=some v:=by
 have h1:((cs.drop off).take m)[0]?=some v:=by rw [h];rfl
 rw [List.getElem?_take] at h1;split at h1
 ·rw [List.getElem?_drop] at h1;simpa using h1
 ·cases h1
theorem opens_LExpr {H:Type} {enc:TypeId×Value→H} {w:World} {spare:Nat→Bool} {held:Bool} (fuel:Nat):∀ {cs:List Value} {x:DataW H×List MemPlace},
  DataW.trod enc Tryz.prog w 0 spare held fuel 68 cs=some x→(∀ n∈x.1.weights Tryz.prog 68,n≤reachBytes)→cs.length=4∧∃ e:LExpr,ExpIs w (fun j=>cs[j]?) e∧okE e:=by
 induction fuel using Nat.strongRecOn with
 | _ fuel ih =>
 intro cs x h hw;obtain ⟨xs,n,rfl,hxx,hl,hx,hf⟩:=DataW.trod_struct Tryz.underlying68 h;have hn:Tryz.prog.cellsOf 68=4:=by kernel_rfl
 obtain ⟨k,hk⟩:=opens_field (i:=0) (off:=0) hx rfl rfl rfl hf (opens_int Tryz.underlying3);have hx4:xs.length=4:=hx;have g1:=hf 1 _ rfl;have g2:=hf 2 _ rfl;have g3:=hf 3 _ rfl;rw [List.getElem?_eq_getElem (by omega)] at g1 g2 g3;obtain ⟨s1,q1,r1,z1⟩:=DataW.trod_string Tryz.underlying9 g1;obtain ⟨s2,q2,r2,z2⟩:=DataW.trod_string Tryz.underlying9 g2;have w1:=weights_field Tryz.underlying68 hxx hw (j:=1) rfl (List.getElem?_eq_getElem (by omega));have w2:=weights_field Tryz.underlying68 hxx hw (j:=2) rfl (List.getElem?_eq_getElem (by omega));have w3:=weights_field Tryz.underlying68 hxx hw (j:=3) rfl (List.getElem?_eq_getElem (by omega));rw [r1,weights_str] at w1;rw [r2,weights_str] at w2;have y1:s1.size≤reachBytes:=by have:=w1 _ (List.mem_singleton.2 rfl);simpa using this
 have y2:s2.size≤reachBytes:=by have:=w2 _ (List.mem_singleton.2 rfl);simpa using this
 refine ⟨hl.trans hn,?_⟩;have c1:cs[1]?=some (.string s1):=field_get q1;have c2:cs[2]?=some (.string s2):=field_get q2;have c0:cs[0]?=some (.int .i64 k):=by simpa using hk.1
 rcases DataW.trod_slice Tryz.underlying66 g3 with ⟨e3,-⟩ | ⟨a,len,cap,elems,rest,m,rfl,e3,ex,hb,hlc,hc,hel,hi,-⟩
 ·have c3:cs[3]?=some (.slice none 0 0):=field_get e3;exact ⟨.mk k s1 s2 [],.mk none 0 0 0 c0 hk.2 c1 z1 c2 z2 c3 (Nat.le_refl _) (by decide) (fun h=>absurd rfl h) (fun i e h=>by simp at h),okE_iff.2 ⟨y1,y2,fun e he=>by simp at he⟩⟩
 ·have c3:cs[3]?=some (.slice (some a) len cap):=field_get e3
  obtain ⟨l,hll,hp⟩:=choose_list (n:=len) (P:=fun i (x:LExpr)=>a.spot=none∧a.block < w.heap.size∧ExpIs w (fun j=>w.cell? ⟨a.block,a.off+i * 4+j,none⟩) x∧okE x) (fun i hil=>by
   have h1:=hi i hil;rw [List.getElem?_eq_getElem (by omega),Option.bind_eq_some_iff] at h1;obtain ⟨ci,h2,h3⟩:=h1;obtain ⟨h4,y,h5,h5'⟩:=ih m (by omega) h3 (weights_elem Tryz.underlying66 ex w3 (by omega));obtain ⟨h6,h7⟩:=cells_get h2;rw [hn] at h7 h6;have hs0:(a.add (i * 4)).spot=none∧(a.add (i * 4)).block < w.heap.size:=by
    have h8:=h7 0 (by decide);rw [List.getElem?_eq_getElem (by omega)] at h8;have e0:(a.add (i * 4)).add 0=a.add (i * 4):=rfl;rw [e0] at h8;exact ⟨cell_spot h8,cell_lt h8⟩
   have hsp:a.spot=none:=by
    rcases Nat.eq_zero_or_pos i with h0 | h0
    ·subst h0;have:=hs0.1;rw [Nat.zero_mul] at this;exact this
    ·have h8:=hi 0 (by omega);rw [List.getElem?_eq_getElem (by omega),Option.bind_eq_some_iff] at h8;obtain ⟨c0,h9,-⟩:=h8;obtain ⟨h10,h11⟩:=cells_get h9;have h12:=h11 0 (by rw [hn];decide);rw [List.getElem?_eq_getElem (by rw [h10,hn];decide),Nat.zero_mul] at h12;exact cell_spot (a:=a) h12
   have hadd:∀ m,a.add m=⟨a.block,a.off+m,none⟩:=fun m=>by
    unfold Addr.add;split
    ·rename_i hm;subst hm;cases a;simp at hsp;subst hsp;rfl
    ·rfl
   have hblk:a.block < w.heap.size:=by have:=hs0.2;rw [hadd] at this;exact this
   refine ⟨y,hsp,hblk,Lay.congr (α:=LExpr) (fun j hj=>?_) h5,h5'⟩;have h8:=h7 j hj;have e2:(a.add (i * 4)).add j=⟨a.block,a.off+i * 4+j,none⟩:=by
    rw [hadd (i * 4)];unfold Addr.add;split
    ·rename_i hm;subst hm;rfl
    ·rfl
   rw [e2] at h8;exact h8.symm)
  refine ⟨.mk k s1 s2 l,.mk (some a) cap a.block a.off c0 hk.2 c1 z1 c2 z2 (by rw [hll];exact c3) (by rw [hll];exact hlc) hc (fun hne=>?_) (fun i e he=>(hp i e he).2.2.1),okE_iff.2 ⟨y1,y2,fun e he=>?_⟩⟩
  ·obtain ⟨y,r,rfl⟩:∃ y r,l=y :: r:=by cases l with | nil=>exact absurd rfl hne | cons y r=>exact ⟨y,r,rfl⟩
   obtain ⟨h1,h2,-⟩:=hp 0 y rfl;refine ⟨?_,h2⟩;cases a;simp at h1;subst h1;rfl
  ·obtain ⟨i,hi,rfl⟩:=List.mem_iff_getElem.1 he;exact (hp i _ (List.getElem?_eq_getElem hi)).2.2.2
theorem returns_sized {H:Type} {enc:TypeId×Value→H} {a:Assume} {C:Checked} {os:Os} {f:FuncId} {fn:Func} {s:ChangeSpec} {conds:List PathCond} {apart fresh handsOn again:Bool} {X:World→Array Value→Prop}
  (hX:∀ (w w':World) (args:Array Value),w.heap=w'.heap→X w args→X w' args)
  (own:ownKnob C.prog.godebug=none) (started:os.Started) (noInit:C.prog.inits.idxOf? f=none) (hfn:C.prog.funcs[f]?=some fn)
  (witness:∃ (w:World) (tape:Tape) (i:Input),w.os=os∧(w.forCall tape i).Shaped C.prog∧i.vars=[]∧Input.okWide C.prog (w.forCall tape i) .any w.heap.size f i ∧
   ((s.pre enc C.prog fn conds apart (w.forCall tape i).memory i.args∧X (w.forCall tape i).memory i.args)∧sizedMet enc C.prog fn (OpenSpec.ofChange s) apart (w.forCall tape i).memory i.args)∧a.holds C.prog (lone (Frame.enter C.prog f i.args .normal) [] (w.forCall tape i)))
  (contract:∀ (W:World) (base:Nat) (args:Array Value) (ds gs:List (DataW H)) (before:List MemPlace),
   (∀ (j:Nat) t v,fn.params[j]?=some t→args[j]?=some v→Value.okWide C.prog W .any base t v) →
   DataW.Whole enc C.prog fn.params.toList s.vars apart W args.toList ds gs before→X W args→W.ShapedOpen C.prog →
   (∀ (j:Nat) t d,(fn.params.toList++s.plain.varTypes C.prog)[j]?=some t→(ds++gs)[j]?=some d→∀ m∈d.weights C.prog t,m≤reachBytes) →
   Calls C.prog f args W fun e W'=>∃ v,e=.returned v∧s.post enc C.prog fn apart fresh handsOn again W args v W') :
  ReturnsInHanded a C os f .any (fun w args=>(s.pre enc C.prog fn conds apart w args∧X w args)∧sizedMet enc C.prog fn (OpenSpec.ofChange s) apart w args) (s.post enc C.prog fn apart fresh handsOn again):=by
 refine returnsInHanded_of_calls own started noInit witness ?_;intro w tape i _ hsh _ hok hpre hholds;obtain ⟨_,_,_,fn',hfn',_,_,_,_,hval⟩:=hok;have e:fn'=fn:=Option.some.inj (hfn'.symm.trans hfn);subst e;obtain ⟨⟨⟨ds,gs,before,hw,hc⟩,hx⟩,hz⟩:=hpre;have hz2:=hz.weights hw;have hw':=DataW.Whole.of_heap (w':=w.forCall tape i) (by rfl) hw
 refine (contract (w.forCall tape i) w.heap.size i.args ds gs before hval hw' (hX _ _ _ (by rfl) hx) hsh (fun j t d ht hd m hm=>by
  have:=List.all_eq_true.1 hz2 m (DataW.weights_mem_each ht hd m hm);simpa using this)).mono fun e W' ⟨v,he,hp⟩=>?_
 subst he;exact ChangeSpec.post_blind hp

def OpensW (α:Type) [Lay α] (ok:α→Prop) (t:TypeId):Prop :=
 ∀ {H:Type} {enc:TypeId×Value→H} {w:World} {spare:Nat→Bool} {held:Bool} {fuel:Nat} {cs:List Value} {x:DataW H×List MemPlace},
  DataW.trod enc Tryz.prog w 0 spare held fuel t cs=some x→(∀ n∈x.1.weights Tryz.prog t,n≤reachBytes)→cs.length=Lay.n α∧∃ a:α,Lay.is w (fun j=>cs[j]?) a∧ok a
theorem opensW_expr:OpensW LExpr okE 68:=fun h hw=>opens_LExpr _ h hw
theorem opensW_list {α:Type} [Lay α] {ok:α→Prop} {t e:TypeId} (ht:Tryz.prog.underlying t=some (.slice e)) (he:Tryz.prog.cellsOf e=Lay.n α) (hn:0 < Lay.n α) (ho:OpensW α ok e):OpensW (List α) (fun l=>∀ x∈l,ok x) t:=by
 intro H enc w spare held fuel cs x h hw;rcases DataW.trod_slice ht h with ⟨rfl,-⟩ | ⟨a,len,cap,elems,rest,n,rfl,rfl,ex,hb,hl,hc,hel,hi,-⟩
 ·exact ⟨rfl,[],⟨none,0,rfl,Nat.le_refl _,by decide,fun i x h=>by simp at h⟩,by simp⟩
 ·refine ⟨rfl,?_⟩
  obtain ⟨l,hll,hp⟩:=choose_list (n:=len) (P:=fun i (x:α)=>a.spot=none∧a.block < w.heap.size∧Lay.is w (fun j=>w.cell? ⟨a.block,a.off+i * Lay.n α+j,none⟩) x∧ok x) (fun i hil=>by
   have h1:=hi i hil;rw [List.getElem?_eq_getElem (by omega),Option.bind_eq_some_iff] at h1;obtain ⟨ci,h2,h3⟩:=h1;obtain ⟨h4,y,h5,h5'⟩:=ho h3 (weights_elem ht ex hw (by omega));obtain ⟨h6,h7⟩:=cells_get h2;rw [he] at h7 h6;have hs0:(a.add (i * Lay.n α)).spot=none∧(a.add (i * Lay.n α)).block < w.heap.size:=by
    have h8:=h7 0 hn;rw [List.getElem?_eq_getElem (by omega)] at h8;have e0:(a.add (i * Lay.n α)).add 0=a.add (i * Lay.n α):=rfl;rw [e0] at h8;exact ⟨cell_spot h8,cell_lt h8⟩
   have hsp:a.spot=none:=by
    rcases Nat.eq_zero_or_pos i with h0 | h0
    ·subst h0;have:=hs0.1;rw [Nat.zero_mul] at this;exact this
    ·have h8:=hi 0 (by omega);rw [List.getElem?_eq_getElem (by omega),Option.bind_eq_some_iff] at h8;obtain ⟨c0,h9,-⟩:=h8;obtain ⟨h10,h11⟩:=cells_get h9;have h12:=h11 0 (by omega);rw [List.getElem?_eq_getElem (by omega),Nat.zero_mul] at h12;exact cell_spot (a:=a) h12
   have hadd:∀ m,a.add m=⟨a.block,a.off+m,none⟩:=fun m=>by
    unfold Addr.add;split
    ·rename_i hm;subst hm;cases a;simp at hsp;subst hsp;rfl
    ·rfl
   have hblk:a.block < w.heap.size:=by have:=hs0.2;rw [hadd] at this;exact this
   refine ⟨y,hsp,hblk,Lay.congr (fun j hj=>?_) h5,h5'⟩;have h8:=h7 j hj;have e2:(a.add (i * Lay.n α)).add j=⟨a.block,a.off+i * Lay.n α+j,none⟩:=by
    rw [hadd (i * Lay.n α)];unfold Addr.add;split
    ·rename_i hm;subst hm;rfl
    ·rfl
   rw [e2] at h8;exact h8.symm)
  refine ⟨l,⟨some a,cap,by rw [hll];rfl,by rw [hll];exact hl,hc,fun i x hx=>?_⟩,fun x hx=>?_⟩
  ·obtain ⟨h1,h2,h3,-⟩:=hp i x hx;refine ⟨a.block,a.off,?_,h2,h3⟩;cases a;simp at h1;subst h1;rfl
  ·obtain ⟨i,hi,rfl⟩:=List.mem_iff_getElem.1 hx;exact (hp i _ (List.getElem?_eq_getElem hi)).2.2.2
theorem opensW_field {β:Type} [Lay β] {ok:β→Prop} {H:Type} {enc:TypeId×Value→H} {w:World} {spare:Nat→Bool} {held:Bool} {n:Nat} {cs:List Value} {x:DataW H×List MemPlace} {xs:List (DataW H×List MemPlace)} {ps:List MemPlace} {fs:Array Field} {f:Field} {i off:Nat} {ty t:TypeId}
  (ht:Tryz.prog.underlying t=some (.struct fs)) (hxx:x=(.agg (xs.map (·.1)),ps)) (hw:∀ n∈x.1.weights Tryz.prog t,n≤reachBytes)
  (hl:xs.length=fs.size) (hf:fs[i]?=some f) (ho:f.offset=off) (hty:f.type=ty) (h:∀ (i:Nat) (f:Field),fs[i]?=some f→DataW.trod enc Tryz.prog w 0 spare held n f.type ((cs.drop f.offset).take (Tryz.prog.cellsOf f.type))=xs[i]?)
  (hop:OpensW β ok ty):∃ b:β,Lay.is w (fun j=>cs[off+j]?) b∧ok b:=by
 have h1:=h i f hf;have hi:i < fs.size:=by
  rcases Nat.lt_or_ge i fs.size with h2 | h2
  ·exact h2
  ·rw [Array.getElem?_eq_none h2] at hf;cases hf
 have hd:xs[i]?=some xs[i]:=List.getElem?_eq_getElem (by omega);have hwf:=weights_field ht hxx hw hf hd;rw [hd,hty,ho] at h1;rw [hty] at hwf;obtain ⟨h2,b,h3,h4⟩:=hop h1 hwf;refine ⟨b,Lay.congr (fun j hj=>?_) h3,h4⟩;rw [List.getElem?_take,List.getElem?_drop];rw [List.length_take] at h2;rw [if_pos (by omega)]
theorem open_listW {α:Type} [Lay α] {ok:List α→Prop} {t e:TypeId} (ht:Tryz.prog.underlying t=some (.slice e)) (ho:OpensW (List α) ok t)
  {H:Type} {enc:TypeId×Value→H} {w:World} {spare:Nat→Bool} {held:Bool} {v:Value} {d:DataW H} {ps:List MemPlace} {r:Reach} {base:Nat}
  (hv:Value.okWide Tryz.prog w r base t v) (h:DataW.Trod enc Tryz.prog w 0 spare held t v d ps) (hw:∀ n∈d.weights Tryz.prog t,n≤reachBytes):∃ x:List α,Is w v x∧ok x:=by
 have hs:=WideShapes.okWide_slice (P:=Tryz.prog) (w:=w) (r:=r) (base:=base) (t:=t) (v:=v) (e:=e) ht hv;obtain ⟨a,n,c,hq⟩:=hs;subst hq;obtain ⟨fuel,h⟩:=h;have h0:DataW.trod enc Tryz.prog w 0 spare held fuel t [Value.slice a n c]=some (d,ps):=h;obtain ⟨-,x,h2,h3⟩:=ho h0 hw;exact ⟨x,⟨#[.slice a n c],rfl,rfl,Lay.congr (fun j _=>by simp) h2⟩,h3⟩
theorem opens_bool:Opens Bool 4:=by
 intro H enc w spare held fuel cs x h;obtain ⟨b,rfl,-⟩:=DataW.trod_bool Tryz.underlying4 h;exact ⟨rfl,b,rfl⟩
end Go.Proofs.YtcbopdbbcgdkcaaGreatDoor
namespace Go.Proofs.YtcbopdbbcgdkcaaGreatDoor
open Go Go.RowKit Go.ChangeShapes Go.Lib

def FewLO (c:Catalog) (w:World) (e:Ending) (w':World):Prop:=∃ b,e=.returned (.bool b)∧(b=true→c.licenses.length≤40∧c.clauses.length≤140)∧Below w.heap.size w w'
theorem zrduj0 {p:Prop} (h:p:=by
 clear HS;go_enter Tryz.func48,Tryz.ntmps48;go_wp2;go_ret;exact HF.out true):p:=h
theorem FewL_ref (w:World) (x0:Value) (c:Catalog) (h:Is w x0 c):Calls Tryz.prog 48 #[x0] w fun e w'=>FewLO c w e w':=by
 by_cases hs:c.licenses.length≤40∧c.clauses.length≤140
 ·refine (Few_ref w x0 c h).mono ?_;rintro e w' ⟨b,he,hb⟩;exact ⟨b,he,fun _=>hs,hb⟩
 have HS:=zh hs;clear hs;obtain ⟨a0,c0,a1,c1,a2,c2,a3,c3,rfl,l0,m0,r0,l1,m1,r1,l2,m2,r2,l3,m3,r3⟩:=Catalog.inv h;clear h r0 r1 r2 r3;generalize hL0:c.licenses.length=N0 at *;generalize hL1:c.exceptions.length=N1 at *;generalize hL2:c.clauses.length=N2 at *;generalize hL3:c.apart.length=N3 at *;have HF:Hid (∀ b:Bool,FewLO c w (.returned (.bool false)) (w.alloc (.cells #[.slice a0 N0 c0,.slice a1 N1 c1,.slice a2 N2 c2,.slice a3 N3 c3] 27))):=fun _=>⟨false,rfl,(fun h=>by cases h),bw⟩
 simp only [maxLen] at m0 m1 m2 m3;clear hL0 hL1 hL2 hL3;cases q1:decide ((40:Int) < N0);case true =>
  exact zrduj0
 cases q2:decide ((40:Int) < N1);case true =>
  exact zrduj0
 have p1:(140:Int) < (N2:Int):=by have h1:=HS.out;have:=of_decide_eq_false q1;omega
 have p2:(40:Int) < (N2:Int):=by omega
 have p3:¬ (N2:Int)≤128:=by omega
 exact zrduj0
def okF (f:Fact):Prop:=f.component.size≤140737488351232∧f.output.size≤140737488351232∧(∀ s∈f.list,s.size≤140737488351232)∧okE f.expr
def smF (f:Fact):Prop:=f.component.size≤400∧f.output.size≤400∧sizeE f.expr≤120
def FewX (c:Catalog) (x:List Fact):Prop:=c.licenses.length≤40∧c.clauses.length≤140∧x.length≤260∧∀ f∈x,smF f
def FewDO (c:Catalog) (x:List Fact) (w:World) (e:Ending) (w':World):Prop:=∃ b,e=.returned (.bool b)∧(b=true→FewX c x)∧Below w.heap.size w w'
theorem FewDO.no {c:Catalog} {x:List Fact} {w w':World} (h:Below w.heap.size w w'):FewDO c x w (.returned (.bool false)) w':=⟨false,rfl,(fun h=>by cases h),h⟩
theorem sm_snoc {x:List Fact} {k:Nat} {f:Fact} (h:∀ g∈x.take k,smF g) (hx:x[k]?=some f) (hf:smF f):∀ g∈x.take (k+1),smF g:=by
 rw [take_at hx];intro g hg;rcases List.mem_append.1 hg with hg | hg
 ·exact h g hg
 ·rw [List.mem_singleton.1 hg];exact hf
theorem FewD_ref (w:World) (vc vx:Value) (c:Catalog) (x:List Fact) (hc:Is w vc c) (h:Is w vx x) (hok:∀ f∈x,okF f):Calls Tryz.prog 12 #[vc,vx] w fun e w'=>FewDO c x w e w':=by
 obtain ⟨a,n,rfl,hn,hm,hr⟩:=list_inv h;simp only [maxLen] at hm;have hm':x.length≤9223372036854775807:=by omega
 have HR:=zh hr;have HC:=zh hc;have HOK:=zh hok;obtain ⟨a0,N0,c0,a1,N1,c1,a2,N2,c2,a3,N3,c3,rfl⟩:=catBox hc;have hba:Below w.heap.size w (w.alloc (.cells #[.slice a0 N0 c0,.slice a1 N1 c1,.slice a2 N2 c2,.slice a3 N3 c3] 27)):=zb;have hcall:=FewL_ref (w.alloc (.cells #[.slice a0 N0 c0,.slice a1 N1 c1,.slice a2 N2 c2,.slice a3 N3 c3] 27)) _ c (hc.mono hba);have HBA:=zh hba;generalize hL:x.length=L at *;have HL:=zh hL;clear h hr hc hok hn hm hL hba;go_enter Tryz.func12,Tryz.ntmps12;go_wp2_with fail
 refine hcall.mono ?_;rintro e w1 ⟨fb,rfl,hfb,hb1⟩;clear hcall;have d0:=kb w hb1 0 (.slice a0 N0 c0);have d1:=kb w hb1 1 (.slice a1 N1 c1);have d2:=kb w hb1 2 (.slice a2 N2 c2);have d3:=kb w hb1 3 (.slice a3 N3 c3);have hs1:w.heap.size < w1.heap.size:=cell_lt d0;have HB1:=zh (HBA.out.trans (hb1.mono (by simp)));have HFB:=zh hfb;clear hb1 hfb HBA;cases fb;case false =>
  go_wp2;go_ret;exact FewDO.no HB1.out
 have HCS:=zh (HFB.out rfl);clear HFB;cases q3:decide ((16:Int) < L∧(L:Int)≤256);case true =>
  obtain ⟨p1,p2⟩:=of_decide_eq_true q3;clear q3;go_wp2;go_ret;exact FewDO.no HB1.out
 cases q5:decide ((260:Int) < L);case true =>
  have p1:=of_decide_eq_true q5;have p2:(16:Int) < (L:Int):=by omega
  have p3:¬ (L:Int)≤256:=by omega
  clear q3 q5;go_wp2;go_ret;exact FewDO.no HB1.out
 have p0:=of_decide_eq_false q3;have p1:=of_decide_eq_false q5;have p2:¬ (260:Int) < (L:Int):=p1;have hl260:L≤260:=by omega
 have p4:(¬ (16:Int) < (L:Int))∨((16:Int) < (L:Int)∧¬ (L:Int)≤256):=by omega
 clear q3 q5 p0 p1;have D0:=zh d0;have D1:=zh d1;have D2:=zh d2;have D3:=zh d3;rcases p4 with p4 | ⟨p4,p5⟩
 case' inr =>
  go_wp2;clear p2 p4 p5 d0 d1 d2 d3
 case' inl =>
  go_wp2;clear p2 p4 d0 d1 d2 d3
 all_goals
  go_loopw [5,6] (fun pv kv wr=>∃ (p:Int) (k:Nat),k≤L∧kv=.int .i64 k∧pv=.int .i64 p∧Hid (∀ g∈x.take k,smF g)∧Hid (Below w1.heap.size w1 wr)) (fun _ kv _=>L - (intOf kv).toNat)
  case atStart=>exact ⟨0,0,by omega,rfl,rfl,zh (by simp),zh (Below.refl _ _)⟩
  case round =>
   obtain ⟨p,k,hk,rfl,rfl,HSM,HB⟩:=hrel;have HBW:Hid (Below w.heap.size w wr):=HB1.out.trans (HB.out.mono HB1.out.size);by_cases hki:k < L
   ·have hkz:(k:Int) < (L:Int):=by omega
    have hk0:(0:Int)≤(k:Int):=by omega
    obtain ⟨f,hx⟩:=get_lt (xs:=x) (k:=k) (by rw [HL.out];exact hki);have hmem:=List.mem_of_getElem? hx;have HX:=zh hx;obtain ⟨ki,co,ou,re,wa,du,ch,⟨ek,en,ex,eks⟩,li⟩:=f;obtain ⟨o1,o2,o3,o4⟩:=HOK.out _ hmem;obtain ⟨bx,ox,rfl,hbx,ae,ce,al,cl,x0',x1',x2',x3',x4',x5',x6',x7',x8',x9',x10',x11',hrest⟩:=Fact.at_row HR.out hx;have HXV:=zh (LExpr.mk' hrest.2.2.2.2.2.2.1 hrest.2.2.2.2.2.2.2.1 hrest.2.2.2.2.2.2.2.2.1 hrest.2.2.2.2.2.2.2.2.2.1 hrest.2.2.2.2.2.2.2.2.2.2.1 hrest.2.2.2.2.2.2.2.2.2.2.2.1);have HLI:=zh hrest.2.2.2.2.2.2.2.2.2.2.2.2.2.2;have hli:li.length≤9223372036854775807:=by have h1:=hrest.2.2.2.2.2.2.2.2.2.2.2.2.1;have h2:=hrest.2.2.2.2.2.2.2.2.2.2.2.2.2.1;simp only [maxLen] at h2;omega
    have hli0:li.length≤cl:=hrest.2.2.2.2.2.2.2.2.2.2.2.2.1;have HO3:Hid (∀ s∈li,s.size≤140737488351232):=o3;have HO4:Hid (okE (.mk ek en ex eks)):=o4;have g1:co.size≤140737488351232:=o1;have g2:ou.size≤140737488351232:=o2;have x1:=kept HBW.out x1';have x2:=kept HBW.out x2';have x7:=kept HBW.out x7';have x8:=kept HBW.out x8';have x9:=kept HBW.out x9';have x10:=kept HBW.out x10';have x11:=kept HBW.out x11';have hbs:bx < wr.heap.size:=cell_lt x1;clear x0' x1' x2' x3' x4' x5' x6' x7' x8' x9' x10' x11' hx hrest hbx o1 o2 o3 o4 hmem;generalize hM:li.length=M at *;have HM:=zh hM;clear hM;generalize eks.length=E at *;generalize hco:co.size=C1 at *;generalize hou:ou.size=C2 at *;have HCO:=zh (And.intro hco hou);go_wp2;go_quiet (fail)
    go_wp2;have HBV:Hid (Below w1.heap.size w1 (wr.drewN nq)):=zh (HB.out.drewN _);have hbk:Below wr.heap.size wr (wr.drewN nq):=bw;have z7:=zh (kept hbk x7);have z8:=zh (kept hbk x8);have z9:=zh (kept hbk x9);have z10:=zh (kept hbk x10);have z11:=zh (kept hbk x11);have hbs4:bx < (wr.drewN nq).heap.size:=Nat.lt_of_lt_of_le hbs hbk.size;have HBW4:Hid (Below w.heap.size w (wr.drewN nq)):=zh (HBW.out.drewN _);clear x1 x2 x7 x8 x9 x10 x11 HB HBW hbs hbk;generalize wr.drewN nq=w4 at *;go_loopw [7,8] (fun nv jv wr=>∃ (n j:Nat),j≤M∧jv=.int .i64 j∧nv=.int .i64 n∧n≤562949953428480∧C1≤n∧C2≤n∧wr=w4) (fun _ jv _=>M - (intOf jv).toNat)
    case atStart=>exact ⟨C1+C2,0,by omega,rfl,by first | rfl | (congr 1),by omega,by omega,by omega,rfl⟩
    case round =>
     obtain ⟨nn,j,hj,rfl,rfl,hn1,hn2,hn3,rfl⟩:=hrel;have y11:=z11.out;by_cases hji:j < M
     ·have hjz:(j:Int) < (M:Int):=by omega
      have hj0:(0:Int)≤(j:Int):=by omega
      by_cases hle:nn≤400
      ·have hlz:(nn:Int)≤400:=by omega
       obtain ⟨s,hs⟩:=get_lt (xs:=li) (k:=j) (by rw [HM.out];exact hji);have hss:=HO3.out s (List.mem_of_getElem? hs);obtain ⟨b2,o2,rfl,hb2,u0',-⟩:=str_at HLI.out hs;have u0:=kept HBW4.out u0';clear hs u0' hb2;go_wp2;go_roundw
       case rel=>exact ⟨nn+s.size+1,j+1,by omega,by go_num,by first | rfl | go_num,by omega,by omega,by omega,by first | rfl | trivial⟩
       case measure=>exact zm
      ·have hlz:¬ (nn:Int)≤400:=by omega
       have hlz2:(400:Int) < (nn:Int):=by omega
       go_wp2;go_ret;exact FewDO.no HBW4.out
     ·have hjz:¬ (j:Int) < (M:Int):=by omega
      by_cases hle:nn≤400
      case neg =>
       have hlz2:(400:Int) < (nn:Int):=by omega
       go_wp2;go_ret;exact FewDO.no HBW4.out
      have hlz2:¬ (400:Int) < (nn:Int):=by omega
      have y7:=z7.out;have y8:=z8.out;have y9:=z9.out;have y10:=z10.out;go_wp2_with fail
      refine (FewE_ref _ HO4.out wr _ (HXV.out.mono HBW4.out)).mono ?_;rintro e w5 ⟨fe,rfl,hfe,hb5⟩;have HFE:=zh hfe;have HB5:=zh (HBV.out.trans (hb5.mono HBV.out.size));have HBW5:=zh (HBW4.out.trans (hb5.mono HBW4.out.size));cases fe;case false =>
       clear hb5 hfe;go_wp2;go_ret;exact FewDO.no HBW5.out
      have v7:=kept hb5 y7;have v8:=kept hb5 y8;have v9:=kept hb5 y9;have v10:=kept hb5 y10;have d0:=kept HB5.out D0.out;have d1:=kept HB5.out D1.out;have d2:=kept HB5.out D2.out;have d3:=kept HB5.out D3.out;have hs5:w.heap.size < w5.heap.size:=cell_lt d0;have hbs5:bx < w5.heap.size:=cell_lt v7;have HSMF:Hid (∀ g∈x.take (k+1),smF g):=zh (sm_snoc HSM.out HX.out ⟨by show co.size≤400;rw [HCO.out.1];omega,by show ou.size≤400;rw [HCO.out.2];omega,HFE.out rfl⟩);have hcall:=fun W (hbb:Below w5.heap.size w5 W)=>Weight_p c (.mk ek en ex eks) W _ _ ((HC.out.mono HBW5.out).mono hbb) ((HXV.out.mono HBW5.out).mono hbb);clear hb5 hfe y7 y8 y9 y10 y11 HFE;go_wp2;refine wp_region_held_drew (S:=(fun w':World=>w'.cell? ⟨w.heap.size,0,none⟩=some (.slice a0 N0 c0)∧w'.cell? ⟨w.heap.size,1,none⟩=some (.slice a1 N1 c1)∧w'.cell? ⟨w.heap.size,2,none⟩=some (.slice a2 N2 c2)∧w'.cell? ⟨w.heap.size,3,none⟩=some (.slice a3 N3 c3)∧w'.cell? ⟨bx,ox+k * 12+7,none⟩=some (.int .i64 ek)∧w'.cell? ⟨bx,ox+k * 12+8,none⟩=some (.string en)∧w'.cell? ⟨bx,ox+k * 12+9,none⟩=some (.string ex)∧w'.cell? ⟨bx,ox+k * 12+10,none⟩=some (.slice ae E ce))) (by kernel_rfl) (by exact ⟨d0,d1,d2,d3,v7,v8,v9,v10⟩) (fun hH0=>?_);refine tkB 0 hH0 rfl ?_;try simp only [tkS,Act.put]
      refine tkB 1 hH0 rfl ?_;try simp only [tkS,Act.put]
      refine tkB 2 hH0 rfl ?_;try simp only [tkS,Act.put]
      refine tkB 3 hH0 rfl ?_;try simp only [tkS,Act.put]
      refine tkB 4 hH0 rfl ?_;try simp only [tkS,Act.put]
      refine tkB 5 hH0 rfl ?_;try simp only [tkS,Act.put]
      refine tkB 6 hH0 rfl ?_;try simp only [tkS,Act.put]
      refine rd1 7 rfl (fun K hK=>?_);go_simp;go_at_call 50
      refine (hcall _ bw).mono ?_;rintro e w6 ⟨p6,rfl,hb6⟩;have HQ6:Hid (Below w5.heap.size w5 w6):=zh (by exact bw);have HB6:=zh (HB5.out.trans (HQ6.out.mono HB5.out.size));go_wp2_with fail
      refine hK.out _ _ ?_ (fun hH1=>?_)
      ·exact ⟨kept HQ6.out d0,kept HQ6.out d1,kept HQ6.out d2,kept HQ6.out d3,kept HQ6.out v7,kept HQ6.out v8,kept HQ6.out v9,kept HQ6.out v10⟩
      try simp only [tkS,Act.put]
      clear hK K;refine tkB 8 hH1 rfl ?_;try simp only [tkS,Act.put]
      refine tkB 9 hH1 rfl ?_;try simp only [tkS,Act.put]
      refine wpAnyH_done (by kernel_rfl) ?_ _;clear hb6 hcall d0 d1 d2 d3 v7 v8 v9 v10;go_wp2;go_roundw
      case rel=>exact ⟨_,k+1,by omega,by go_num,rfl,HSMF,HB6⟩
      case measure=>exact zm
   ·have hkz:¬ (k:Int) < (L:Int):=by omega
    go_wp2;go_ret;refine ⟨_,rfl,fun _=>⟨HCS.out.1,HCS.out.2,by rw [HL.out];exact hl260,?_⟩,HBW.out⟩;have h1:=HSM.out;rw [List.take_of_length_le (by rw [HL.out];omega)] at h1;exact h1
end Go.Proofs.YtcbopdbbcgdkcaaGreatDoor
namespace Go.Proofs.YtcbopdbbcgdkcaaGreatDoor
open Go Go.RowKit Go.ChangeShapes Go.WideShapes Go.ChangeAt

theorem opensW_str {t:TypeId} (ht:Tryz.prog.underlying t=some .string):OpensW ByteArray (fun s=>s.size≤140737488351232) t:=by
 intro H enc w spare held fuel cs x h hw;obtain ⟨s,rfl,r1,hs⟩:=DataW.trod_string ht h;rw [r1,weights_str] at hw;exact ⟨rfl,s,⟨rfl,hs⟩,by have:=hw _ (List.mem_singleton.2 rfl);simpa [reachBytes] using this⟩
theorem opensW_strs:OpensW (List ByteArray) (fun l=>∀ s∈l,s.size≤140737488351232) 36:=opensW_list Tryz.underlying36 (by kernel_rfl) (by decide) (opensW_str Tryz.underlying9)
theorem opensW_Fact:OpensW Fact okF 70:=by
 intro H enc w spare held fuel cs x h hw;obtain ⟨xs,n,rfl,hxx,hl,hx,hf⟩:=DataW.trod_struct Tryz.underlying70 h;have hn:Tryz.prog.cellsOf 70=12:=by kernel_rfl
 obtain ⟨ki,h0⟩:=opens_field (i:=0) (off:=0) hx rfl rfl rfl hf (opens_int Tryz.underlying3);obtain ⟨co,h1,o1⟩:=opensW_field (i:=1) (off:=1) Tryz.underlying70 hxx hw hx rfl rfl rfl hf (opensW_str Tryz.underlying9);obtain ⟨ou,h2,o2⟩:=opensW_field (i:=2) (off:=2) Tryz.underlying70 hxx hw hx rfl rfl rfl hf (opensW_str Tryz.underlying9);obtain ⟨re,h3⟩:=opens_field (i:=3) (off:=3) hx rfl rfl rfl hf (opens_int Tryz.underlying3);obtain ⟨wa,h4⟩:=opens_field (i:=4) (off:=4) hx rfl rfl rfl hf (opens_int Tryz.underlying3);obtain ⟨du,h5⟩:=opens_field (i:=5) (off:=5) hx rfl rfl rfl hf (opens_int Tryz.underlying3);obtain ⟨ch,h6⟩:=opens_field (i:=6) (off:=6) hx rfl rfl rfl hf opens_bool;obtain ⟨ex,h7,o7⟩:=opensW_field (i:=7) (off:=7) Tryz.underlying70 hxx hw hx rfl rfl rfl hf opensW_expr;obtain ⟨li,h8,o8⟩:=opensW_field (i:=8) (off:=11) Tryz.underlying70 hxx hw hx rfl rfl rfl hf opensW_strs;exact ⟨hl.trans hn,⟨ki,co,ou,re,wa,du,ch,ex,li⟩,⟨by simpa using h0,h1,h2,h3,h4,h5,h6,h7,h8⟩,⟨o1,o2,o8,o7⟩⟩
theorem opensW_case:OpensW (List Fact) (fun l=>∀ x∈l,okF x) 29:=opensW_list Tryz.underlying29 (by kernel_rfl) (by decide) opensW_Fact

theorem opens_ownS:Opens (List ByteArray) 36:=opens_list Tryz.underlying36 (by kernel_rfl) (by decide) (opens_str Tryz.underlying9)
theorem opens_Choice:Opens Choice 43:=by
 intro H enc w spare held fuel cs x h;obtain ⟨xs,n,rfl,-,hl,hx,hf⟩:=DataW.trod_struct Tryz.underlying43 h;have hn:Tryz.prog.cellsOf 43=2:=by kernel_rfl
 obtain ⟨te,h0⟩:=opens_field (i:=0) (off:=0) hx rfl rfl rfl hf opens_alts;obtain ⟨ow,h1⟩:=opens_field (i:=1) (off:=1) hx rfl rfl rfl hf opens_ownS;exact ⟨hl.trans hn,⟨te,ow⟩,⟨by simpa using h0,h1⟩⟩
end Go.Proofs.YtcbopdbbcgdkcaaGreatDoor
