/- Lemmas. -/
import Derived.Maps.OwnIn
import Derived.DeepKeys4
import Derived.Test.YtcbopdbbcgdkcaaGreatDoorLDutT
set_option linter.all false
set_option maxRecDepth 100000
set_option maxHeartbeats 16000000
namespace Go.Proofs.YtcbopdbbcgdkcaaGreatDoor
open Go Go.RowKit Go.ChangeShapes Go.Lib Go.Shelf
theorem law_due (laid_due:laidOutB Tryz.prog=true) (key_type_due:Tryz.prog.keyType 63=true):Maps.Keyed Tryz.prog 63:=by
 have h1:Tryz.prog.types.size+2≤10000:=of_decide_eq_true (by as_aux_lemma=>kernel_rfl);have h2:63 < Tryz.prog.types.size:=of_decide_eq_true (by as_aux_lemma=>kernel_rfl);exact Maps.Keyed.of_law (deep_law_laid laid_due (m:=Tryz.prog.types.size+1) h1 h2 key_type_due (by rw [Tryz.underlying63]))
theorem lits_struct {P : Program} {d : Nat} {t : TypeId} {fs : Array Field} (hu : P.underlying t = some (.struct fs)) (hn : fs.all (·.name != "_") = true) {cs : List Value} (hl : cs.length = P.cellsOf t) :
  P.keyLits (d+1) t cs=((fs.toList.map fun f=>(f.type,f.offset)).mapM fun p=>P.keyLits d p.1 ((cs.drop p.2).take (P.cellsOf p.1))).map List.flatten:=by
 have h1:P.keyLits (d+1) t cs=(fs.toList.mapM fun f=>P.keyLits d f.type ((cs.drop f.offset).take (P.cellsOf f.type))).map List.flatten:=by
  rw [Program.keyLits.eq_def P (d+1) t cs];dsimp only
  rw [hu];exact if_pos ⟨hl,hn⟩
 rw [h1,List.mapM_map];rfl
theorem key_gen {P:Program} {kd kt ks ki:TypeId} {fd ft:Array Field} (ud:P.underlying kd=some (.struct fd)) (ut:P.underlying kt=some (.struct ft)) (us:P.underlying ks=some .string) (ui:P.underlying ki=some (.int .i64))
  (nd : fd.all (·.name != "_") = true) (nt : ft.all (·.name != "_") = true) (hd : (fd.toList.map fun f => (f.type, f.offset)) = [(ks, 0), (ks, 1), (kt, 2), (ki, 4), (ki, 5), (ki, 6)]) (ht : (ft.toList.map fun f => (f.type, f.offset)) = [(ks, 0), (ks, 1)])
  (c0:P.cellsOf kd=7) (c1:P.cellsOf kt=2) (c2:P.cellsOf ks=1) (c3:P.cellsOf ki=1) (hk:P.keyType kd=true) (m:Nat) (hm:P.types.size=m+2)
  {o c t0 t1:ByteArray} {way rel du:Int} (h0:o.size≤maxLen) (h1:c.size≤maxLen) (h2:t0.size≤maxLen) (h3:t1.size≤maxLen) (w4:(Lit.int .i64 way).wf=true) (w5:(Lit.int .i64 rel).wf=true) (w6:(Lit.int .i64 du).wf=true) :
  ∃ l,keyOf P kd (.agg #[.string o,.string c,.string t0,.string t1,.int .i64 way,.int .i64 rel,.int .i64 du])=some l:=by
 have s:∀ d (b:ByteArray),b.size≤maxLen→P.keyLits (d+1) ks [.string b]=some [.string b.data.toList]:=fun d b hb=>by
  unfold Program.keyLits;rw [us];simp [hb]
 have i:∀ d (n:Int),(Lit.int .i64 n).wf=true→P.keyLits (d+1) ki [.int .i64 n]=some [.int .i64 n]:=fun d n hn=>by
  unfold Program.keyLits;rw [ui];simp [hn]
 have hterm:P.keyLits (m+2) kt [.string t0,.string t1]=some [.string t0.data.toList,.string t1.data.toList]:=by
  rw [lits_struct ut nt (by rw [c1];rfl),ht];simp [c2,s,h2,h3]
 unfold keyOf;rw [ud];simp only [hk,Bool.true_and,hm,Value.cells];rw [if_pos (by simp [Value.formed,ud,c0]),lits_struct ud nd (by rw [c0];rfl),hd];simp [c1,c2,c3,s,i,h0,h1,w4,w5,w6,hterm]
theorem cells_due:(Tryz.prog.cellsOf 63,Tryz.prog.cellsOf 61,Tryz.prog.cellsOf 9,Tryz.prog.cellsOf 3)=(7,2,1,1):=by kernel_rfl
theorem types_two:∃ m,Tryz.prog.types.size=m+2:=⟨Tryz.prog.types.size - 2,by kernel_rfl⟩
theorem key_type_due:Tryz.prog.keyType 63=true:=by kernel_rfl
theorem wf_i64 {i:Int} (h:inI64 i):(Lit.int .i64 i).wf=true:=by
 simp only [Lit.wf,Bool.and_eq_true,decide_eq_true_eq];exact h
theorem key_due (d:OkD):∃ l,keyOf Tryz.prog 63 (dueV d.1)=some l:=by
 obtain ⟨⟨o,c,⟨t0,t1⟩,way,rel,du⟩,h0,h1,h2,h3,h4,h5,h6⟩:=d;obtain ⟨m,hm⟩:=types_two;have hc:=cells_due;simp only [Prod.mk.injEq] at hc;exact key_gen Tryz.underlying63 Tryz.underlying61 Tryz.underlying9 Tryz.underlying3 (by kernel_rfl) (by kernel_rfl) rfl rfl hc.1 hc.2.1 hc.2.2.1 hc.2.2.2 key_type_due m hm h0 h1 h2 h3 (wf_i64 h4) (wf_i64 h5) (wf_i64 h6)
theorem laid_due:laidOutB Tryz.prog=true:=by kernel_rfl
theorem dueV_inj {d e:Due} (h:dueV d=dueV e):d=e:=by
 obtain ⟨o,c,⟨t0,t1⟩,way,rel,du⟩:=d;obtain ⟨o',c',⟨t0',t1'⟩,way',rel',du'⟩:=e;simp only [dueV,Value.agg.injEq,Array.mk.injEq,List.cons.injEq,Value.string.injEq,Value.int.injEq,and_true,true_and] at h;obtain ⟨rfl,rfl,rfl,rfl,rfl,rfl,rfl⟩:=h;rfl
noncomputable def keyD (d:OkD):Lit:=(key_due d).choose
theorem keyD_is (d:OkD):keyOf Tryz.prog 63 (dueV d.1)=some (keyD d):=(key_due d).choose_spec
def unD (v:Value):Option (DataW Unit×List MemPlace):=match v with
 | .bool x=>some (.lit (.bool x),[])
 | _=>none
theorem unD_inv {v:Value} {x:Bool} {ps:List MemPlace} (h:unD v=some (.lit (.bool x),ps)):v=.bool x:=by
 unfold unD at h;cases v <;> simp at h
 rw [h.1]
def SeenD (W:World) (b n:Nat) (out:List Due):Prop :=
 ∃ D:DataW Unit,W.ownsMap Tryz.prog 63 unD b n D∧Maps.IsMap D∧∀ d:OkD,D.atKey (keyD d) (.lit (.bool false))=.lit (.bool (out.contains d.1))
theorem SeenD.made (w:World):SeenD (w.alloc (.map #[] 0)) w.heap.size 0 [] :=
 ⟨_,World.ownsMap_made _ _ _ _,Maps.isMap_empty,fun _=>rfl⟩
theorem SeenD.kept {W W':World} {b n:Nat} {out:List Due} {row:Option Nat} (h:SeenD W b n out) (hg:W.grownBy W' row) (hne:some b≠row):SeenD W' b n out:=by
 obtain ⟨D,h1,h2⟩:=h;exact ⟨D,h1.kept hg hne,h2⟩
theorem SeenD.look {W:World} {b n:Nat} {out:List Due} (h:SeenD W b n out) (d:OkD):(Instr.lookup 115 (.map (some b)) (dueV d.1) false).run Tryz.prog W=.ok (.bool (out.contains d.1)) W:=by
 obtain ⟨D,h1,h2,h3⟩:=h;obtain ⟨v,ps,hr,hv⟩:=h1.lookup (law_due laid_due key_type_due) Tryz.underlying115 (z:=.bool false) (by kernel_rfl) (zd:=.lit (.bool false)) (zp:=[]) rfl (keyD_is d);rw [h3 d] at hv;rw [hr,unD_inv hv]
theorem SeenD.put {W:World} {b n:Nat} {out:List Due} (h:SeenD W b n out) (hn:n < maxLen) (d:OkD):∃ W',(Instr.mapUpdate 115 (.map (some b)) (dueV d.1) (.bool true)).run Tryz.prog W=.ok () W'∧SeenD W' b (n+1) (out++[d.1])∧W.grownBy W' (some b):=by
 obtain ⟨D,h1,h2,h3⟩:=h;have K:=law_due laid_due key_type_due;obtain ⟨W',hr,hm,hg⟩:=h1.update (val:=.bool true) (d:=.lit (.bool true)) (ps:=[]) K Tryz.underlying115 hn (keyD_is d) rfl;refine ⟨W',hr,⟨_,hm,h2.put _ _,fun e=>?_⟩,hg⟩;by_cases he:e.1=d.1
 ·have:e=d:=Subtype.ext he;subst this;rw [Maps.atKey_put_same h2 (K.key (keyD_is e))];simp
 ·rw [Maps.atKey_put_other (fun q:keyD e=keyD d=>he (dueV_inj (K.inj ((keyD_is e).trans (congrArg some q)) (keyD_is d)))) ,h3 e];simp [he]
open Go.Sort

def encD (d:Due):List Value:=[.string d.output,.string d.component,.string d.term.license,.string d.term.exception,.int .i64 d.way,.int .i64 d.relation,.int .i64 d.duty]
def RowD (B:Nat) (w:World) (v:Value) (xs:List Due):Prop:=w.ownsRow B 63 7 v xs.length (xs.map encD).flatten∧∀ x∈xs,okD x
theorem ownD_mk {B:Nat} {E:TypeId→Prop} {w:World} {v:Value} {xs:List Due} (h:w.ownsRow B 63 7 v xs.length (xs.map encD).flatten) (hs:∀ x∈xs,okD x):OwnL B E 63 w v xs:=by
 refine ⟨xs.map encD,by simp,h,fun i y x hy hx=>?_⟩;rw [List.getElem?_map,hx] at hy;cases hy;obtain ⟨h0,h1,h2,h3,h4,h5,h6⟩:=hs x (List.mem_of_getElem? hx);exact ⟨rfl,fun w' _=>Due.is_iff.2 ⟨rfl,rfl,rfl,rfl,rfl,rfl,rfl,h0,h1,h2,h3,h4,h5,h6⟩⟩
theorem RowD.own {B:Nat} {w:World} {v:Value} {xs:List Due} (h:RowD B w v xs) (E:TypeId→Prop):OwnL B E 63 w v xs:=ownD_mk h.1 h.2
theorem RowD.is {B:Nat} {w:World} {v:Value} {xs:List Due} (h:RowD B w v xs):Is w v xs:=(h.own fun _=>True).is
theorem RowD.nil (B:Nat) (w:World):RowD B w (.slice none 0 0) []:=⟨⟨by simp,.inl ⟨rfl,rfl⟩⟩,fun x hx=>by simp at hx⟩
theorem RowD.shape {B:Nat} {w:World} {v:Value} {xs:List Due} (h:RowD B w v xs):∃ a c,v=.slice a xs.length c:=by
 rcases h.1.2 with ⟨rfl,h0⟩ | ⟨g,cap,cur,rfl,-⟩
 ·rw [h0];exact ⟨_,_,rfl⟩
 ·exact ⟨_,_,rfl⟩
theorem RowD.keep {B:Nat} {w w':World} {v:Value} {xs:List Due} (h:RowD B w v xs) (hk:∀ g,B≤g→g < w.heap.size→(∃ cs,w.heap[g]?=some (.cells cs 63 (0,0)))→w'.heap[g]?=w.heap[g]?):RowD B w' v xs:=by
 refine ⟨⟨h.1.1,h.1.2.imp id ?_⟩,h.2⟩;rintro ⟨g,cap,cur,a,b,c,d⟩;have hg:g < w.heap.size:=by
  rcases Nat.lt_or_ge g w.heap.size with h | h
  ·exact h
  ·rw [Array.getElem?_eq_none h] at c;cases c
 exact ⟨g,cap,cur,a,b,by rw [hk g b hg ⟨_,c⟩];exact c,d⟩
theorem RowD.below {B:Nat} {w w':World} {v:Value} {xs:List Due} (h:RowD B w v xs) (hb:Below w.heap.size w w'):RowD B w' v xs:=h.keep fun g _ hg _=>hb.block g hg
theorem RowD.weaken {B B':Nat} {w:World} {v:Value} {xs:List Due} (h:RowD B w v xs) (hB:B'≤B):RowD B' w v xs:=⟨ownsRow_weaken h.1 hB,h.2⟩
theorem RowD.grown {B:Nat} {w w':World} {v:Value} {xs:List Due} (h:RowD B w v xs) {row:Option Nat} (hg:w.grownBy w' row) (hr:∀ r,row=some r→∃ o:Obj,w.heap[r]?=some o∧o.isCells=false):RowD B w' v xs :=
 h.keep fun g _ hlt ⟨cs,hc⟩=>hg.block g hlt fun e=>by
  obtain ⟨o,ho,hn⟩:=hr g e.symm;rw [hc] at ho;cases ho;cases hn
theorem RowD.setBox {B b:Nat} {t:TypeId} {sv u:Value} {W:World} {v:Value} {xs:List Due} (h:RowD B W v xs) (hb:Boxed W b t sv) (ht:t≠63):RowD B (W.setCell ⟨b,0,none⟩ u) v xs :=
 h.keep fun g _ _ ⟨cs,hc⟩=>blk_set_other W _ u g (fun e=>by
  have e':b=g:=e.symm;subst e';rw [show W.heap[b]?=_ from hb] at hc;cases hc;exact ht rfl)
theorem RowD.snoc {B:Nat} {w:World} {v:Value} {xs:List Due} {d:Due} (h:w.ownsRow B 63 7 v (xs.length+1) ((xs.map encD).flatten++encD d)) (hs:∀ x∈xs,okD x) (hd:okD d):RowD B w v (xs++[d]):=by
 refine ⟨?_,fun x hx=>?_⟩
 ·rw [List.length_append,List.map_append,List.flatten_append];simpa using h
 ·rcases List.mem_append.1 hx with h | h
  ·exact hs x h
  ·simp at h;subst h;exact hd
theorem once_len:∀ (l out:List Due),(onceD out l).length≤out.length+l.length
 | [],out=>by simp [onceD]
 | a :: r,out=>by
  rw [onceD];by_cases q:out.contains a=true
  ·rw [if_pos q];have:=once_len r out;simp;omega
  ·rw [if_neg q];have:=once_len r (out++[a]);simp at this ⊢;omega
theorem once_snoc (l:List Due) (d:Due):onceD [] (l++[d])=if (onceD [] l).contains d then onceD [] l else onceD [] l++[d]:=by
 rw [once_append];rfl
def DJ (w:World) (bo bm bb:Nat) (pre:List OkD) (W:World):Prop :=
 ∃ v,Boxed W bo 50 v∧RowD w.heap.size W v (onceD [] (pre.map (·.1)))∧SeenD W bm (onceD [] (pre.map (·.1))).length (onceD [] (pre.map (·.1)))∧Boxed W bb 115 (.map (some bm))∧Below w.heap.size w W
theorem dj_own (w:World) (bo bm bb:Nat) {B:Nat} (hB:w.heap.size≤B) (hm:bm < B):OwnFrom B (DJ w bo bm bb):=by
 rintro s X Y row ⟨v,h1,h2,h3,h4,h5⟩ hg hr
 have hne:∀ k cs t fr,X.heap[k]?=some (.cells cs t fr)→some k≠row:=fun k cs t fr hk e=>by
  obtain ⟨-,o,ho,hc⟩:=hr _ e.symm;rw [hk] at ho;cases ho;cases hc
 exact ⟨v,h1.kept hg (hne _ _ _ _ h1),h2.grown hg fun r e=>(hr r e).2,h3.kept hg (fun e=>by have:=(hr _ e.symm).1;omega),h4.kept hg (hne _ _ _ _ h4),h5.grown hg h5.size fun k e=>Nat.le_trans hB (hr k e).1⟩
theorem dj_below {w:World} {bo bm bb:Nat} {pre:List OkD} {W W':World} (h:DJ w bo bm bb pre W) (hb:Below W.heap.size W W'):DJ w bo bm bb pre W':=by
 obtain ⟨v,h1,h2,h3,h4,h5⟩:=h;exact ⟨v,h1.kept (grown_below hb) (by simp),h2.below hb,h3.kept (grown_below hb) (by simp),h4.kept (grown_below hb) (by simp),h5.trans (hb.mono h5.size)⟩
theorem KvD.app {lo:Nat} {M:Nat→Prop} {W W':World} {v:Value} {n:Nat} {xs:List Value} (hlo:lo≤W.heap.size) (hg:W.grownBy W' v.ownBlock) (ho:W.ownsRow lo 63 7 v n xs):KvD lo M W W':=by
 refine ⟨(Below.refl lo W).grown hg hlo (own_block ho),fun k cs t fr _ hv hc=>(hg.block k (heap_lt hc) fun e=>?_).trans hc⟩;have h1:=own_block ho k e.symm;obtain ⟨cur,h2⟩:=own_block_at ho e.symm;rw [hc] at h2;cases h2;rcases hv with h | h
 ·omega
 ·exact h rfl
theorem dj_step {w W W1 W2 W3:World} {bo bm bb B:Nat} {v v':Value} {l:List Due} {d:Due} (hlo:w.heap.size≤bo) (hlm:w.heap.size≤bm) (hmB:bm < B)
  (hb:Boxed W bo 50 v) (hr:RowD w.heap.size W v l) (hbb:Boxed W bb 115 (.map (some bm))) (hw:Below w.heap.size w W) (hmap:∃ n out,SeenD W bm n out)
  (hm1:SeenD W1 bm (l.length+1) (l++[d])) (g1:W.grownBy W1 (some bm)) (ha:W2=W1.alloc (.cells (encD d).toArray 63)) (hd:okD d) (g3:W2.grownBy W3 v.ownBlock)
  (r3:W3.ownsRow w.heap.size 63 7 v' (l.length+1) ((l.map encD).flatten++encD d)) :
  Boxed W3 bo 50 v∧Boxed (W3.setCell ⟨bo,0,none⟩ v') bo 50 v'∧RowD w.heap.size (W3.setCell ⟨bo,0,none⟩ v') v' (l++[d])∧SeenD (W3.setCell ⟨bo,0,none⟩ v') bm (l++[d]).length (l++[d])∧Boxed (W3.setCell ⟨bo,0,none⟩ v') bb 115 (.map (some bm)) ∧
   Below w.heap.size w (W3.setCell ⟨bo,0,none⟩ v')∧KeepsFrom B W (W3.setCell ⟨bo,0,none⟩ v')∧KvD w.heap.size (·=bo) W (W3.setCell ⟨bo,0,none⟩ v'):=by
 subst ha;have hmo:∃ o:Obj,W.heap[bm]?=some o∧o.isCells=false:=by
  obtain ⟨n,out,D,⟨es,clock,h,-⟩,-⟩:=hmap;exact ⟨_,h,rfl⟩
 have hn1:∀ k cs ty fr,W.heap[k]?=some (.cells cs ty fr)→some k≠some bm:=fun k cs ty fr hk e=>by
  cases e;obtain ⟨o,ho,hc⟩:=hmo;rw [hk] at ho;cases ho;cases hc
 have b1:=hb.kept g1 (hn1 _ _ _ _ hb);have bb1:=hbb.kept g1 (hn1 _ _ _ _ hbb);have r1:=hr.grown g1 (fun r e=>by cases e;exact hmo);have w1:=hw.grown g1 hw.size (fun k e=>by cases e;exact hlm);have hba:Below W1.heap.size W1 (W1.alloc (.cells (encD d).toArray 63)):=zb;have b2:=b1.kept (grown_below hba) (by simp);have bb2:=bb1.kept (grown_below hba) (by simp);have r2:=r1.below hba;have m2:=hm1.kept (grown_below hba) (by simp);have w2:=w1.trans (hba.mono w1.size)
 have hn2:∀ k cs ty fr,(W1.alloc (.cells (encD d).toArray 63)).heap[k]?=some (.cells cs ty fr)→ty≠63→some k≠v.ownBlock:=fun k cs ty fr hk ht e=>by
  obtain ⟨cur,h2⟩:=own_block_at r2.1 e.symm;rw [hk] at h2;cases h2;exact ht rfl
 have b3:=b2.kept g3 (hn2 _ _ _ _ b2 (by decide));have bb3:=bb2.kept g3 (hn2 _ _ _ _ bb2 (by decide))
 have m3:SeenD W3 bm (l.length+1) (l++[d]):=m2.kept g3 (fun e=>by
  obtain ⟨cur,h2⟩:=own_block_at r2.1 e.symm;obtain ⟨D,⟨es,clock,h,-⟩,-⟩:=m2;rw [h2] at h;cases h)
 have r3':RowD w.heap.size W3 v' (l++[d]):=RowD.snoc r3 hr.2 hd;have w3:=w2.grown g3 w2.size (own_block r2.1)
 have hnb:bo≠bb:=fun e=>by
  subst e;have h1:=b3;unfold Boxed at h1 bb3;rw [h1] at bb3;cases bb3
 have hset:W3.grownBy (W3.setCell ⟨bo,0,none⟩ v') (some bo):=grownBy_setCell' W3 bo v';refine ⟨b3,b3.set _,r3'.setBox b3 (by decide),?_,?_,w3.setCell (p:=⟨bo,0,none⟩) hlo _,?_,?_⟩
 ·rw [List.length_append];refine m3.kept hset (fun e=>?_);cases e;obtain ⟨D,⟨es,clock,h,-⟩,-⟩:=m3;rw [show W3.heap[bo]?=_ from b3] at h;cases h
 ·exact bb3.kept hset (fun e=>by cases e;exact hnb rfl)
 ·refine (((KeepsFrom.of_grownBy g1 (fun j e=>by cases e;exact hmB)).trans (keeps_below hba)).trans (keepsFrom_app g3 r2.1)).trans ((KeepsOthers.setCell _ _ _).from _)
 ·have k1:KvD w.heap.size (·=bo) W W1:=⟨(Below.refl _ _).grown g1 hw.size (fun k e=>by cases e;exact hlm),fun k cs t fr _ _ hc=>(g1.block k (heap_lt hc) (hn1 _ _ _ _ hc)).trans hc⟩
  have k2:KvD w.heap.size (·=bo) W1 (W1.alloc (.cells (encD d).toArray 63)):=KvD.of_below w1.size hba;have k3:KvD w.heap.size (·=bo) (W1.alloc (.cells (encD d).toArray 63)) W3:=KvD.app w2.size g3 r2.1;have k4:KvD w.heap.size (·=bo) W3 (W3.setCell ⟨bo,0,none⟩ v'):=⟨(Below.refl _ _).setCell (p:=⟨bo,0,none⟩) hlo _,fun k cs t fr hm _ hc=>by rw [blk_set_other _ _ _ _ (show k≠bo from hm)];exact hc⟩
  exact ((k1.trans k2).trans k3).trans k4
theorem once_cases {pre:List OkD} {d:OkD} (h:(onceD [] (pre.map (·.1))).contains d.1=true):onceD [] ((pre++[d]).map (·.1))=onceD [] (pre.map (·.1)):=by
 rw [List.map_append,List.map_cons,List.map_nil,once_snoc,if_pos h]
theorem once_add {pre:List OkD} {d:OkD} (h:(onceD [] (pre.map (·.1))).contains d.1=false):onceD [] ((pre++[d]).map (·.1))=onceD [] (pre.map (·.1))++[d.1]:=by
 rw [List.map_append,List.map_cons,List.map_nil,once_snoc,if_neg (by rw [h];decide)]
theorem valsF_len (c:Catalog):∀ (x:List Fact) (ts:List (List (List Term))) (os:List ByteArray),(valsF c ts os x).2.2=0→(valsF c ts os x).1.length=ts.length+cntF x
 | [],ts,os,_=>by simp [valsF,cntF]
 | f :: r,ts,os,h=>by
  rw [valsF] at h ⊢;rw [cntF_cons];by_cases q:(f.kind == 1)=true
  ·rw [if_pos q] at h ⊢;rw [if_pos q];by_cases q2:((ofP c f.expr).2 == 0)=true
   ·rw [if_pos q2] at h ⊢;rw [valsF_len c r _ _ h,List.length_append];simp;omega
   ·rw [if_neg q2] at h;exact absurd (by simpa using h) q2
  ·rw [if_neg q] at h ⊢;rw [if_neg q];by_cases q2:(f.kind == 2 && !os.any (seq f.output))=true
   ·rw [if_pos q2] at h ⊢;rw [valsF_len c r _ _ h];omega
   ·rw [if_neg q2] at h ⊢;rw [valsF_len c r _ _ h];omega
theorem choice_cnt {c:Catalog} {x:List Fact} {y:Choice} {p:Bool} (h:choiceE c x y p=0):cntF x=y.terms.length:=by
 unfold choiceE at h;by_cases q:((valuesC c x).2.2 == 0)=true
 ·rw [if_pos q] at h;have q':(valuesC c x).2.2=0:=by simpa using q
  by_cases q2:(decide (y.terms.length≠(valuesC c x).1.length) || decide (y.own.length≠(valuesC c x).2.1.length))=true
  ·rw [if_pos q2] at h;cases h
  ·have q3:y.terms.length=(valuesC c x).1.length:=by
    simp at q2;exact q2.1
   rw [q3];unfold valuesC at q' ⊢;by_cases q4:((caseE c x).2 == 0)=true
   ·rw [if_pos q4] at q' ⊢;rw [valsF_len c x _ _ q'];simp
   ·rw [if_neg q4] at q';exact absurd (by simpa using q') q4
 ·rw [if_neg q] at h;exact absurd (by simpa using h) q
attribute [local go_sem] Oper.semAt_some

theorem six_blk (W:World) (o0 o1 o2 o3 o4 o5:Obj):Below W.heap.size W ((((((W.alloc o0).alloc o1).alloc o2).alloc o3).alloc o4).alloc o5)∧((((((W.alloc o0).alloc o1).alloc o2).alloc o3).alloc o4).alloc o5).heap.size=W.heap.size+1+1+1+1+1+1 ∧
  ((((((W.alloc o0).alloc o1).alloc o2).alloc o3).alloc o4).alloc o5).heap[W.heap.size]?=some o0∧((((((W.alloc o0).alloc o1).alloc o2).alloc o3).alloc o4).alloc o5).heap[W.heap.size+1+1]?=some o2∧((((((W.alloc o0).alloc o1).alloc o2).alloc o3).alloc o4).alloc o5).heap[W.heap.size+1+1+1]?=some o3 ∧
  ((((((W.alloc o0).alloc o1).alloc o2).alloc o3).alloc o4).alloc o5).heap[W.heap.size+1+1+1+1]?=some o4∧((((((W.alloc o0).alloc o1).alloc o2).alloc o3).alloc o4).alloc o5).heap[W.heap.size+1+1+1+1+1]?=some o5:=by
 have h:∀ (V:World) (o:Obj),Below V.heap.size V (V.alloc o):=fun V o=>zb;have k:∀ (V:World) (o:Obj),(V.alloc o).heap.size=V.heap.size+1:=fun V o=>by simp
 have n:∀ (V:World) (o:Obj),(V.alloc o).heap[V.heap.size]?=some o:=fun V o=>World.alloc_heap_new V o
 have st:∀ (V:World) (o:Obj) {g:Nat} {q:Obj},V.heap[g]?=some q→(V.alloc o).heap[g]?=some q:=fun V o g q hq=>((h V o).block g (by
  rcases Nat.lt_or_ge g V.heap.size with h | h
  ·exact h
  ·rw [Array.getElem?_eq_none h] at hq;cases hq)).trans hq
 refine ⟨(((((h W o0).trans ((h _ o1).mono (by simp))).trans ((h _ o2).mono (by simp;omega))).trans ((h _ o3).mono (by simp;omega))).trans ((h _ o4).mono (by simp;omega))).trans ((h _ o5).mono (by simp;omega)),by simp,?_,?_,?_,?_,?_⟩
 ·exact st _ _ (st _ _ (st _ _ (st _ _ (st _ _ (n _ _)))))
 ·have:=n ((W.alloc o0).alloc o1) o2;rw [k,k] at this;exact st _ _ (st _ _ (st _ _ this))
 ·have:=n (((W.alloc o0).alloc o1).alloc o2) o3;rw [k,k,k] at this;exact st _ _ (st _ _ this)
 ·have:=n ((((W.alloc o0).alloc o1).alloc o2).alloc o3) o4;rw [k,k,k,k] at this;exact st _ _ this
 ·have:=n (((((W.alloc o0).alloc o1).alloc o2).alloc o3).alloc o4) o5;rw [k,k,k,k,k] at this;exact this
theorem boxD (w:World) (p q:Array Value) (t s:TypeId):Below w.heap.size w ((w.alloc (.cells p t)).alloc (.cells q s))∧((w.alloc (.cells p t)).alloc (.cells q s)).heap[w.heap.size]?=some (.cells p t (0,0))∧((w.alloc (.cells p t)).alloc (.cells q s)).heap[w.heap.size+1]?=some (.cells q s (0,0)):=by
 have h1:=World.alloc_heap_new w (.cells p t);have h2:=World.alloc_heap_new (w.alloc (.cells p t)) (.cells q s);have hb:Below (w.alloc (.cells p t)).heap.size (w.alloc (.cells p t)) ((w.alloc (.cells p t)).alloc (.cells q s)):=zb;rw [World.size_alloc] at h2;exact ⟨zb.trans (hb.mono (by simp)),below_blk hb h1,h2⟩
theorem clauses_le (c:Catalog) (t:Term) (way rel:Int):(clausesC c t way rel).length≤c.clauses.length:=by
 unfold clausesC;split
 ·exact Nat.zero_le _
 ·exact List.length_filter_le _ _
theorem infoDue:(Tryz.prog.info? 63).map (fun i=>(i.zero,i.size,i.bytes))=some (some (.agg #[.string ByteArray.empty,.string ByteArray.empty,.string ByteArray.empty,.string ByteArray.empty,.int .i64 0,.int .i64 0,.int .i64 0]),7,88):=by kernel_rfl
def DuO (l:List Due) (e0:Int) (w:World) (e:Ending) (w':World):Prop:=∃ v,e=.returned (.tuple #[v,.int .i64 e0])∧RowD w.heap.size w' v l∧Below w.heap.size w w'
theorem Of_in (w:World) (vc vx vy:Value) (c:Catalog) (x:List Fact) (y:Choice) (hg:Glob w) (hc:Is w vc c) (h:Is w vx x) (hy:Is w vy y) (hfit:∀ f∈x,fitF f)
  (A:Nat) (hA:∀ t∈y.terms,t.length≤A) (hB:x.length * (x.length * x.length * (A * c.clauses.length))≤1000000000000) :
  CallsIn Fence.wide 3 Tryz.prog 27 #[vc,vx,vy] w (DuO (dutiesC c x y).1 (dutiesC c x y).2 w):=by
 have HCK:=zh (fun V (hb:Below w.heap.size w V)=>CheckChoice_p V vc vx vy c x y true (hg.mono hb) (hc.mono hb) (h.mono hb) (hy.mono hb) hfit);have HG:=zh hg;have HC:=zh hc;have HX:=zh h;have HYI:=zh hy;have HAA:=zh hA;have HBB:=zh hB;obtain ⟨a0,N0,c0,a1,N1,c1,a2,N2,c2,a3,N3,c3,rfl⟩:=catBox2 hc;obtain ⟨ax,cx,rfl,-⟩:=list_inv h;obtain ⟨yt,yo⟩:=y;obtain ⟨at',ct,ao,co,rfl,lt,mt,rt,lo,mo,ro⟩:=Choice.inv hy;have HYT:Hid (Is w (.slice at' yt.length ct) yt):=zh (list_mk lt mt rt);have HD:Hid (dutiesC c x ⟨yt,yo⟩=if choiceE c x ⟨yt,yo⟩ true == 0 then (onceD [] (duesF c x x yt),0) else ([],choiceE c x ⟨yt,yo⟩ true)):=rfl;have HCT:Hid (choiceE c x ⟨yt,yo⟩ true=0→cntF x=yt.length):=zh (fun e=>choice_cnt e);simp only at HAA HBB;clear h hy hc hg hA hB hfit lt mt rt lo mo ro;generalize choiceE c x ⟨yt,yo⟩ true=ec at *;generalize dutiesC c x ⟨yt,yo⟩=DD at *;generalize hYO:yo.length=YO at *;clear hYO;refine callsIn_of_wp_marks Tryz.func27 rfl trivial ?_ rfl;simp only [Tryz.ntmps27,List.size_toArray,List.length_cons,List.length_nil,Nat.reduceAdd,Nat.reduceSub,Array.replicate_succ,Array.replicate_zero,List.push_toArray,List.append_toArray,List.nil_append,List.cons_append];obtain ⟨hb1,bc,be⟩:=boxD w #[.slice a0 N0 c0,.slice a1 N1 c1,.slice a2 N2 c2,.slice a3 N3 c3] #[.slice at' yt.length ct,.slice ao YO co] 27 43;have HB1:=zh hb1;have BC:=zh bc;have BE:=zh be;have hC1:=HCK.out _ hb1;have d0:=objcell bc (j:=0) rfl;have d1:=objcell bc (j:=1) rfl;have d2:=objcell bc (j:=2) rfl;have d3:=objcell bc (j:=3) rfl;have e0:=objcell be (j:=0) rfl;have e1:=objcell be (j:=1) rfl;clear hb1 bc be HCK;gi_wp2_with fail
 refine ⟨trivial,?_⟩;refine (callsIn_wide.2 hC1).mono ?_;clear hC1 d0 d1 d2 d3 e0 e1;rintro e W1 ⟨rfl,hb2⟩;have HB2:=zh (HB1.out.trans (hb2.mono HB1.out.size));have BC1:=zh (below_blk hb2 BC.out);have BE1:=zh (below_blk hb2 BE.out);clear hb2 HB1 BC BE;have hmm:=@run_makeMap Tryz.prog;cases q:(ec == 0);case false =>
  have q':(ec != 0)=true:=by rw [show (ec != 0)=!(ec == 0) from rfl,q];rfl
  have HDD:Hid (DD=([],ec)):=by show _=_;rw [HD.out,q];rfl
  clear q HD;gi_wp2
  refine ⟨.tuple #[.slice none 0 0,.int .i64 ec],?_,.slice none 0 0,by rw [HDD.out],by rw [HDD.out];exact RowD.nil _ _,HB2.out⟩;simp [results,Tryz.results27,go_sem]
 case true =>
  have hec:ec=0:=by simpa using q
  have q':(ec != 0)=false:=by rw [show (ec != 0)=!(ec == 0) from rfl,q];rfl
  have HDD:Hid (DD=(onceD [] (duesF c x x yt),0)):=by show _=_;rw [HD.out,q];rfl
  have hcnt:=HCT.out hec;have hb3:Below W1.heap.size W1 (((W1.alloc (.cells #[.slice none 0 0] 50)).alloc (.map #[] 0)).alloc (.cells #[.map (some (W1.heap.size+1))] 115)):=(zb |>.alloc (by simp) _).alloc (by simp;omega) _;have BC2:=zh (below_blk hb3 BC1.out);have BE2:=zh (below_blk hb3 BE1.out);have d0:=objcell BC2.out (j:=0) rfl;have d1:=objcell BC2.out (j:=1) rfl;have d2:=objcell BC2.out (j:=2) rfl;have d3:=objcell BC2.out (j:=3) rfl;have e0:=objcell BE2.out (j:=0) rfl;have e1:=objcell BE2.out (j:=1) rfl;have HB3:=zh hb3;clear hb3;have hsw:w.heap.size+1 < W1.heap.size:=heap_lt BE1.out;clear q HD HCT;gi_wp2_with (refine ⟨trivial,?_⟩;gi_at_call 71;refine (callsIn_wide.2 (dues_p _ _ _ _ _ _ _ _ _ _ ⟨_,_,_,rfl⟩ ⟨_,_,_,rfl⟩ ⟨_,_,_,rfl⟩ ⟨_,_,_,rfl⟩ ⟨_,_,_,rfl⟩ ⟨_,_,_,rfl⟩)).mono ?_;rintro e w' ⟨rfl,rfl⟩)
  obtain ⟨hbR,hzR,n0,n2,n3,n4,n5⟩:=six_blk W1 (.cells #[.slice none 0 0] 50) (.map #[] 0) (.cells #[.map (some (W1.heap.size+1))] 115) (.cells #[.slice a0 N0 c0,.slice a1 N1 c1,.slice a2 N2 c2,.slice a3 N3 c3] 27) (.cells #[.slice ax x.length cx] 29) (.cells #[.slice at' yt.length ct,.slice ao YO co] 43);have hseen:SeenD ((((((W1.alloc (.cells #[.slice none 0 0] 50)).alloc (.map #[] 0)).alloc (.cells #[.map (some (W1.heap.size+1))] 115)).alloc (.cells #[.slice a0 N0 c0,.slice a1 N1 c1,.slice a2 N2 c2,.slice a3 N3 c3] 27)).alloc (.cells #[.slice ax x.length cx] 29)).alloc (.cells #[.slice at' yt.length ct,.slice ao YO co] 43)) (W1.heap.size+1) 0 []:=by
   have h1:=SeenD.made (W1.alloc (.cells #[.slice none 0 0] 50));rw [World.size_alloc] at h1;exact (((h1.kept (World.grownBy_alloc _ _ none) (by simp)).kept (World.grownBy_alloc _ _ none) (by simp)).kept (World.grownBy_alloc _ _ none) (by simp)).kept (World.grownBy_alloc _ _ none) (by simp)
  have hbw:Below w.heap.size w ((((((W1.alloc (.cells #[.slice none 0 0] 50)).alloc (.map #[] 0)).alloc (.cells #[.map (some (W1.heap.size+1))] 115)).alloc (.cells #[.slice a0 N0 c0,.slice a1 N1 c1,.slice a2 N2 c2,.slice a3 N3 c3] 27)).alloc (.cells #[.slice ax x.length cx] 29)).alloc (.cells #[.slice at' yt.length ct,.slice ao YO co] 43)):=HB2.out.trans (hbR.mono HB2.out.size);clear hbR hmm BC2 BE2 HB3 d0 d1 d2 d3 e0 e1 BC1 BE1;generalize ((((((W1.alloc (.cells #[.slice none 0 0] 50)).alloc (.map #[] 0)).alloc (.cells #[.map (some (W1.heap.size+1))] 115)).alloc (.cells #[.slice a0 N0 c0,.slice a1 N1 c1,.slice a2 N2 c2,.slice a3 N3 c3] 27)).alloc (.cells #[.slice ax x.length cx] 29)).alloc (.cells #[.slice at' yt.length ct,.slice ao YO co] 43))=WR at *;have hw1:=HB2.out.size;clear HB2;generalize W1.heap.size=s1 at *;have hlo:w.heap.size≤WR.heap.size:=hbw.size;have hseq:=dues1_all 2 (by decide) w WR (s1+1+1+1+1) (s1+1+1+1+1+1) (s1+1+1+1) (·=s1) (fun k e=>by rw [e];exact hw1) (by omega) (by omega) (by omega) (fun k e=>by rw [e];omega) hbw HG.out c a0 N0 c0 a1 N1 c1 a2 N2 c2 a3 N3 c3 HC.out ax cx x HX.out at' ct yt (.slice ao YO co) HYT.out hcnt A c.clauses.length HAA.out (clauses_le c) n4 n5 n3
  refine wpIn_range_allO (by decide) (gf:=129) (lb:=#[.pointer (some ⟨s1+1+1+1+1,0,none⟩),.pointer (some ⟨s1+1+1+1+1+1,0,none⟩),.pointer (some ⟨s1+1+1+1,0,none⟩)]) rfl (enters_of Tryz.func129 (by kernel_rfl) rfl)
   hseq KvD.trans (KvD.b hlo) (Below.refl _ _) (fun _=>rfl) (DJ w s1 (s1+1) (s1+1+1)) (dj_own w _ _ _ hlo (by omega)) ⟨_,n0,RowD.nil _ _,hseen,n2,hbw⟩
   (fun d a' W=>∃ B11,W.heap[B11]?=some (.cells (encD d.1).toArray 63 (0,0))∧a'={ tmps:=#[.agg #[.slice a0 N0 c0,.slice a1 N1 c1,.slice a2 N2 c2,.slice a3 N3 c3],.slice ax x.length cx,.agg #[.slice at' yt.length ct,.slice ao YO co],.pointer (some ⟨w.heap.size,0,none⟩),undef,.pointer (some ⟨w.heap.size+1,0,none⟩),.slice none 0 0,.int .i64 0,.int .i64 0,.pointer (some ⟨s1,0,none⟩),.pointer (some ⟨s1+1+1,0,none⟩),.pointer (some ⟨B11,0,none⟩),.agg #[.slice a0 N0 c0,.slice a1 N1 c1,.slice a2 N2 c2,.slice a3 N3 c3],.slice ax x.length cx,.agg #[.slice at' yt.length ct,.slice ao YO co],.int .i64 0,.int .i64 0,.bool false,undef,.map (some (s1+1)),.agg #[.slice a0 N0 c0,.slice a1 N1 c1,.slice a2 N2 c2,.slice a3 N3 c3],.slice ax x.length cx,.agg #[.slice at' yt.length ct,.slice ao YO co],.func (.func 129) #[] #[.pointer (some ⟨s1+1+1+1+1,0,none⟩),.pointer (some ⟨s1+1+1+1+1+1,0,none⟩),.pointer (some ⟨s1+1+1+1,0,none⟩)],dueV d.1,undef,undef,undef,undef,undef,undef,undef,undef,undef,undef,undef],defers:=[] })
   (fun d a' _ X Y row hs hgr hrow=>by
    obtain ⟨B11,i1,i2⟩:=hs;refine ⟨B11,(hgr.block _ (heap_lt i1) fun e=>?_).trans i1,i2⟩;obtain ⟨-,o,ho,hc'⟩:=hrow _ e.symm;rw [i1] at ho;cases ho;cases hc') ?assign ?body ?done
  case assign =>
   rintro l pre ⟨⟨o,cc,⟨t0,t1⟩,way,rel,du⟩,hd⟩ W K hI hK;have hbv:Below W.heap.size W (W.alloc (.cells #[.string o,.string cc,.string t0,.string t1,.int .i64 way,.int .i64 rel,.int .i64 du] 63)):=zb;have hlw:w.heap.size≤W.heap.size:=by obtain ⟨v,-,-,-,-,h⟩:=id hI;exact h.size
   simp only [dueV];gi_wp2
   exact hK _ _ (keeps_of_below hbv) (KvD.of_below hlw hbv) (dj_below hI hbv) ⟨W.heap.size,World.alloc_heap_new W _,rfl⟩
  case body =>
   rintro l pre d a' W hI ⟨B11,hb11,rfl⟩ hlt;have HNEW:=zh (fun q=>once_add (pre:=pre) (d:=d) q);have HOLD:=zh (fun q=>once_cases (pre:=pre) (d:=d) q);obtain ⟨v,hB,hR,hS,hBB,hW⟩:=hI;have hlook:=hS.look d;have hlen:(onceD [] (pre.map (·.1))).length < 1000000000000:=by
    have h1:=once_len (pre.map (·.1)) [];rw [List.length_map] at h1;have h2:=HBB.out;simp only [List.length_nil,Nat.zero_add] at h1;omega
   have hput:=hS.put (by unfold maxLen;omega) d;generalize hL:onceD [] (pre.map (·.1))=L at *;clear hL;obtain ⟨⟨o,cc,⟨t0,t1⟩,way,rel,du⟩,hd⟩:=d;simp only [dueV] at hlook hput ⊢;simp only [encD] at hb11;simp only at HNEW HOLD;have hmo:∃ ob:Obj,W.heap[s1+1]?=some ob∧ob.isCells=false:=by
    obtain ⟨D,⟨es,clock,h,-⟩,-⟩:=hS;exact ⟨_,h,rfl⟩
   have HMO:=zh hmo;have HBD:=zh hb11;have HBO:=zh hB;have HBM:=zh hBB;have HRO:=zh hR;have HSO:=zh hS;have HWO:=zh hW;have HLEN:=zh hlen;have HPUT:=zh hput;have HLK:=zh hlook;obtain ⟨asv,csv,rfl⟩:=hR.shape;have c0:=hBB.cell;have cl0:=hBB.lt;have g0:=objcell hb11 (j:=0) rfl;have g1:=objcell hb11 (j:=1) rfl;have g2:=objcell hb11 (j:=2) rfl;have g3:=objcell hb11 (j:=3) rfl;have g4:=objcell hb11 (j:=4) rfl;have g5:=objcell hb11 (j:=5) rfl;have g6:=objcell hb11 (j:=6) rfl;have gl:=heap_lt hb11;clear hmo hb11 hB hBB hR hS hW hlen hput hseq;cases qc:L.contains ⟨o,cc,⟨t0,t1⟩,way,rel,du⟩;case true =>
    rw [qc] at hlook;have HQ:=HOLD.out qc;clear HNEW HOLD qc HPUT;gi_wp2
    exact ⟨KeepsFrom.refl _ _,KvD.refl _ _ _,_,HBO.out,by rw [HQ];exact HRO.out,by rw [HQ];exact HSO.out,HBM.out,HWO.out⟩
   case false =>
    rw [qc] at hlook;have HQ:=HNEW.out qc;clear HNEW HOLD qc;obtain ⟨V1,hrun,hm1,hg1⟩:=HPUT.out
    have hn1:∀ k cs ty fr,W.heap[k]?=some (.cells cs ty fr)→some k≠some (s1+1):=fun k cs ty fr hk e=>by
     cases e;obtain ⟨ob,ho,hc⟩:=HMO.out;rw [hk] at ho;cases ho;cases hc
    have HBO1:=zh (HBO.out.kept hg1 (hn1 _ _ _ _ HBO.out));have hbd1:=(hg1.block _ gl (hn1 _ _ _ _ HBD.out)).trans HBD.out;have hr1:=HRO.out.grown hg1 (fun r e=>by cases e;exact HMO.out);have hw1':=HWO.out.grown hg1 HWO.out.size (fun k e=>by cases e;omega);clear HPUT;have f0:=objcell hbd1 (j:=0) rfl;have f1:=objcell hbd1 (j:=1) rfl;have f2:=objcell hbd1 (j:=2) rfl;have f3:=objcell hbd1 (j:=3) rfl;have f4:=objcell hbd1 (j:=4) rfl;have f5:=objcell hbd1 (j:=5) rfl;have f6:=objcell hbd1 (j:=6) rfl;have fl:=heap_lt hbd1;have bc0:=HBO1.out.cell;have bf0:=HBO1.out.frozen;have bl0:=HBO1.out.lt;have hba:Below V1.heap.size V1 (V1.alloc (.cells #[.string o,.string cc,.string t0,.string t1,.int .i64 way,.int .i64 rel,.int .i64 du] 63)):=zb;have hro:=(hr1.below hba).1;have hc1:∀ j q,[Value.string o,Value.string cc,Value.string t0,Value.string t1,Value.int .i64 way,Value.int .i64 rel,Value.int .i64 du][j]?=some q→(V1.alloc (.cells #[.string o,.string cc,.string t0,.string t1,.int .i64 way,.int .i64 rel,.int .i64 du] 63)).cell? ((⟨V1.heap.size,0,none⟩:Addr).add j)=some q:=by
     intro j q hj;rw [addr_add];exact objcell (World.alloc_heap_new V1 (.cells #[.string o,.string cc,.string t0,.string t1,.int .i64 way,.int .i64 rel,.int .i64 du] 63)) (by rw [Nat.zero_add,List.getElem?_toArray];exact hj)
    have hc2:∀ q∈[Value.string o,Value.string cc,Value.string t0,Value.string t1,Value.int .i64 way,Value.int .i64 rel,Value.int .i64 du],q.oneCell'=true:=by intro q hq;simp at hq;rcases hq with rfl | rfl | rfl | rfl | rfl | rfl | rfl <;> rfl
    have hc3:L.length+1≤maxLen:=by have:=HLEN.out;unfold maxLen;omega
    have hc4:(L.length+1) * 88≤140737488355328:=by have:=HLEN.out;omega
    have hc5:w.heap.size≤(V1.alloc (.cells #[.string o,.string cc,.string t0,.string t1,.int .i64 way,.int .i64 rel,.int .i64 du] 63)).heap.size:=by have:=hw1'.size;simp;omega
    obtain ⟨i0,hi,hz0,hz1,hz2⟩:=info_parts infoDue;have HST:=zh (fun W3 v' g3 r3=>dj_step (w:=w) (W:=W) (W1:=V1) (W2:=(V1.alloc (.cells #[.string o,.string cc,.string t0,.string t1,.int .i64 way,.int .i64 rel,.int .i64 du] 63))) (W3:=W3) (bo:=s1) (bm:=s1+1) (bb:=s1+1+1) (B:=WR.heap.size) (v':=v') (d:=⟨o,cc,⟨t0,t1⟩,way,rel,du⟩) hw1 (by omega) (by omega) HBO.out HRO.out HBM.out HWO.out ⟨_,_,HSO.out⟩ hm1 hg1 rfl hd g3 r3);have c0':=(HBM.out.kept hg1 (hn1 _ _ _ _ HBM.out)).cell;clear hm1 hg1 hn1 HBO HRO HBM HWO HSO HBD HBO1 HMO hr1 hbd1 HLEN hw1' hba;simp only [encD] at HST;generalize hPL:L.length=PL at *;have HPL:=zh hPL;clear hPL;gi_wp2_with (gi_at_builtin;refine wpListIn_append_own _ rfl _ _ 50 rfl w.heap.size 63 i0 _ 7 88 Tryz.underlying50 hi hz0 hz1 hz2 rfl (by decide) (.slice asv PL csv) PL _ rfl hro ⟨V1.heap.size,0,none⟩ 1 1 [Value.string o,Value.string cc,Value.string t0,Value.string t1,Value.int .i64 way,Value.int .i64 rel,Value.int .i64 du] rfl rfl hc1 hc2 hc3 hc4 hc5 ?_)
    intro v' w2 k2 k3 _;obtain ⟨j0,j1,j2,j3,j4,j5,j6,j7⟩:=HST.out w2 v' k3 k2;rw [← HQ] at j2 j3;obtain ⟨a6,c6,hv6⟩:=j2.shape;subst hv6;have bc2:=j0.cell;have bf2:=j0.frozen;have bl2:=j0.lt;have J:=zh (And.intro j1 (And.intro j2 (And.intro j3 (And.intro j4 (And.intro j5 (And.intro j6 j7))))));generalize hVL:(onceD [] (List.map (fun z:OkD=>z.1) (pre++[(⟨⟨o,cc,⟨t0,t1⟩,way,rel,du⟩,hd⟩:OkD)]))).length=VL at *;have HVL:=zh hVL;clear hVL;clear HST k2 k3 hc1 hc2 hc3 hc4 hc5 hro j0 j1 j2 j3 j4 j5 j6 j7 hi hz0 hz1 hz2 bc0 bf0 bl0 f0 f1 f2 f3 f4 f5 f6 g0 g1 g2 g3 g4 g5 g6 fl gl hlook hrun c0 c0' cl0 HLK;gi_wp2
    exact ⟨J.out.2.2.2.2.2.1,J.out.2.2.2.2.2.2,_,J.out.1,J.out.2.1,by rw [HVL.out];exact J.out.2.2.1,J.out.2.2.2.1,J.out.2.2.2.2.1⟩
  case done =>
   rintro D zs V hD hzs ⟨v,hB,hR,hS,hBB,hW⟩ hK;rw [hzs] at hR;obtain ⟨asv,csv,rfl⟩:=hR.shape;have bc0:=hB.cell;have bl0:=hB.lt;have HR:=zh hR;have HW:=zh hW;have HK:=zh hK;have hwD:w.heap.size≤D:=by omega
   clear hseq hB hR hS hBB hW hK hzs;generalize onceD [] (duesF c x x yt)=L at *;generalize L.length=VL at *;gi_wp2
   refine ⟨by simp,.inl ⟨_,_,rfl,run_takeDeferred HK.out,?_⟩⟩;refine ⟨.tuple #[.slice asv VL csv,.int .i64 0],?_,_,by rw [HDD.out],by rw [HDD.out];exact HR.out.grown (grownBy_putObj' _ D (.deferred none)) (fun r e=>by cases e;exact ⟨_,HK.out,rfl⟩),HW.out.trans (belowK_b (w:=w) (Nat.le_refl _) _ D _ _ hwD HK.out rfl rfl)⟩;simp [results,Tryz.results27,go_sem]
theorem DutyOf_p (w:World) (vc vx vy:Value) (c:Catalog) (x:List Fact) (y:Choice) (hg:Glob w) (hc:Is w vc c) (h:Is w vx x) (hy:Is w vy y) (hfit:∀ f∈x,fitF f)
  (A:Nat) (hA:∀ t∈y.terms,t.length≤A) (hB:x.length * (x.length * x.length * (A * c.clauses.length))≤1000000000000) :
  Calls Tryz.prog 27 #[vc,vx,vy] w (DuO (dutiesC c x y).1 (dutiesC c x y).2 w):=callsIn_wide.1 (Of_in w vc vx vy c x y hg hc h hy hfit A hA hB)
end Go.Proofs.YtcbopdbbcgdkcaaGreatDoor
