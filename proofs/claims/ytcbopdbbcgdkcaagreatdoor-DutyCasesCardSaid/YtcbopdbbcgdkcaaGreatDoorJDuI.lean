/- Layer 39: slices.Clone of a case: a row of the call's own. -/
import Derived.OrdersHeld
import Derived.Test.YtcbopdbbcgdkcaaGreatDoorJEntU
import Derived.Test.YtcbopdbbcgdkcaaGreatDoorJDuC
import Derived.Test.YtcbopdbbcgdkcaaGreatDoorJDuH
set_option linter.all false
set_option maxRecDepth 100000
set_option maxHeartbeats 16000000
namespace Go.Proofs.YtcbopdbbcgdkcaaGreatDoor
open Go Go.RowKit Go.ChangeShapes Go.Sort Go.Lib
theorem tkBDuI {P:Program} {ops:Array Oper} {Q:Exit→Act→World→Prop} {md:Region.Mode} {S:World→Prop} {oi:Oper} {v:Value} {fuel:Nat} {listed:Array Bool} {a:Act} {w:World} (i:Nat) (hS:S w) (hi:ops[i]?=some oi)
  (h:wpAnyH P md ops Q S fuel (listed.setIfInBounds i true) (a.put oi.dst v) w) (hy:∀ w,S w→(execOp a.eval oi).run P w=.ok (.value v) w:=by intro w hSw;(try dsimp only at hSw);go_simp;all_goals with_reducible rfl) (hs:Region.noSelect ops=true:=by kernel_rfl) (hf:Region.free md ops listed i=true:=by kernel_rfl) (hr:(Region.ready md ops listed).contains i=true:=by kernel_rfl) (hw:Region.wanted oi (yielded ops a.tmps)=true:=by kernel_rfl)
  (hQ:∀ c a w,Q (.panic c) (a.put oi.dst v) w→Q (.panic c) a w:=by exact fun _ _ _ h=>h):wpAnyH P md ops Q S (fuel+1) listed a w:=wpAnyH_take hi hs hf hr hQ (.inl ⟨hw,hy⟩) hS h

def Tryz.cloneFact_ren:Go.Shelf.Ren:=⟨fun | 41=>40 | n=>n,fun | 22=>29 | 23=>70 | 4=>4 | n=>n,fun | n=>n⟩
theorem Tryz.cloneFact:Go.Proofs.SlLaysE0.n41 Tryz.prog Tryz.cloneFact_ren:={
 mixed:=by kernel_rfl
 f41:=⟨Tryz.f40.name,by decide,Tryz.func40.trans (congrArg some (by kernel_rfl))⟩
 t4:=Tryz.underlying4
 a4:=Tryz.isAgg4
 z4:=Tryz.sizeOf4
 v4:=Tryz.zeroValue4
 t22:=Tryz.underlying29
 a22:=Tryz.isAgg29
 z22:=Tryz.sizeOf29
 v22:=Tryz.zeroValue29 }
theorem infoFact:(Tryz.prog.info? 70).map (fun i=>(i.zero,i.size,i.bytes))=some (some (.agg #[.int .i64 0,.string ByteArray.empty,.string ByteArray.empty,.int .i64 0,.int .i64 0,.int .i64 0,.bool false,.int .i64 0,.string ByteArray.empty,.string ByteArray.empty,.slice none 0 0,.slice none 0 0]),12,160):=by kernel_rfl
theorem sizeFact:∀ w,(Go.sizeOf 70).run Tryz.prog w=.ok 12 w:=Tryz.sizeOf70
def CellsF (w:World) (b off:Nat) (xs:List Fact) (ys:List (List Value)):Prop :=
 ys.length=xs.length∧∀ (i:Nat) (y:List Value) (x:Fact),ys[i]?=some y→xs[i]?=some x→y.length=12∧(∀ j u,y[j]?=some u→w.cell? ⟨b,off+i * 12+j,none⟩=some u)∧(∀ u∈y,u.oneCell'=true)∧Lay.is w (fun j=>y[j]?) x
theorem fact_cells {w:World} {b off i:Nat} {xs:List Fact} (h:Row w (some ⟨b,off,none⟩) xs) {x:Fact} (hx:xs[i]?=some x) :
  ∃ y:List Value,y.length=12∧(∀ j u,y[j]?=some u→w.cell? ⟨b,off+i * 12+j,none⟩=some u)∧(∀ u∈y,u.oneCell'=true)∧Lay.is w (fun j=>y[j]?) x:=by
 obtain ⟨ki,co,ou,re,wa,du,ch,⟨ek,en,ex,eks⟩,li⟩:=x;obtain ⟨b',off',he,hb,ae,ce,al,cl,x0,x1,x2,x3,x4,x5,x6,x7,x8,x9,x10,x11,hrest⟩:=Fact.at_row h hx;cases he;refine ⟨[.int .i64 ki,.string co,.string ou,.int .i64 re,.int .i64 wa,.int .i64 du,.bool ch,.int .i64 ek,.string en,.string ex,.slice ae eks.length ce,.slice al li.length cl],rfl,fun j u hj=>?_,fun u hu=>?_,Fact.is_iff.2 ⟨ae,ce,al,cl,rfl,rfl,rfl,rfl,rfl,rfl,rfl,rfl,rfl,rfl,rfl,rfl,hrest⟩⟩
 ·match j,hj with
  | 0,hj=>cases hj;exact x0
  | 1,hj=>cases hj;exact x1
  | 2,hj=>cases hj;exact x2
  | 3,hj=>cases hj;exact x3
  | 4,hj=>cases hj;exact x4
  | 5,hj=>cases hj;exact x5
  | 6,hj=>cases hj;exact x6
  | 7,hj=>cases hj;exact x7
  | 8,hj=>cases hj;exact x8
  | 9,hj=>cases hj;exact x9
  | 10,hj=>cases hj;exact x10
  | 11,hj=>cases hj;exact x11
  | j+12,hj=>simp at hj
 ·simp at hu;rcases hu with rfl | rfl | rfl | rfl | rfl | rfl | rfl | rfl | rfl | rfl | rfl | rfl <;> rfl
theorem cells_row {w:World} {b off:Nat} {xs:List Fact} (h:Row w (some ⟨b,off,none⟩) xs):∃ ys,CellsF w b off xs ys:=by
 have hch:∀ i:Fin xs.length,∃ y:List Value,y.length=12∧(∀ j u,y[j]?=some u→w.cell? ⟨b,off+i * 12+j,none⟩=some u)∧(∀ u∈y,u.oneCell'=true)∧Lay.is w (fun j=>y[j]?) xs[i]:=fun i=>fact_cells h (by simp);refine ⟨List.ofFn fun i=>(hch i).choose,by simp,fun i y x hy hx=>?_⟩;have hi:i < xs.length:=lt_get hx;have e:y=(hch ⟨i,hi⟩).choose:=by
  rw [List.getElem?_ofFn] at hy;simp [hi] at hy;exact hy.symm
 have ex:x=xs[i]:=by
  rw [List.getElem?_eq_getElem hi] at hx;cases hx;rfl
 have hs:=(hch ⟨i,hi⟩).choose_spec;rw [← e] at hs;rw [ex];exact hs
theorem cellsF_len {ys:List (List Value)} (h:∀ y∈ys,y.length=12):ys.flatten.length=ys.length * 12:=by
 induction ys with
 | nil=>rfl
 | cons a r ih=>rw [List.flatten_cons,List.length_append,ih (fun y hy=>h y (List.mem_cons_of_mem _ hy)),h a (List.mem_cons_self ..),List.length_cons];omega
theorem cellsF_get {w:World} {b off:Nat} {ys:List (List Value)} (h:∀ (i:Nat) (y:List Value),ys[i]?=some y→y.length=12∧∀ j u,y[j]?=some u→w.cell? ⟨b,off+i * 12+j,none⟩=some u) :
  ∀ j u,ys.flatten[j]?=some u→w.cell? ⟨b,off+j,none⟩=some u:=by
 induction ys generalizing off with
 | nil=>intro j u hj;simp at hj
 | cons a r ih =>
  intro j u hj;have h0:=h 0 a rfl;rw [List.flatten_cons] at hj;rcases Nat.lt_or_ge j 12 with hlt | hge
  ·rw [List.getElem?_append_left (by rw [h0.1];exact hlt)] at hj;have:=h0.2 j u hj;simpa using this
  ·rw [List.getElem?_append_right (by rw [h0.1];exact hge),h0.1] at hj
   have:=ih (off:=off+12) (fun i y hy=>by
    have h1:=h (i+1) y hy;refine ⟨h1.1,fun q v hq=>?_⟩;have h2:=h1.2 q v hq;rw [show off+12+i * 12+q=off+(i+1) * 12+q by omega];exact h2) (j - 12) u hj
   rw [show off+j=off+12+(j - 12) by omega];exact this
theorem row_is {α:Type} [Lay α] {B:Nat} {e:TypeId} {w:World} {v:Value} {xs:List α} {ys:List (List Value)} (h1:ys.length=xs.length) (h:w.ownsRow B e (Lay.n α) v xs.length ys.flatten) (h3:∀ (i:Nat) (y:List Value) (x:α),ys[i]?=some y→xs[i]?=some x→y.length=Lay.n α∧Lay.is w (fun j=>y[j]?) x):Is w v xs:=by
 obtain ⟨h2,h2'⟩:=h;have hall:=OwnL.all (P:=fun z=>z.length=Lay.n α) h1 (fun i y x hy hx=>(h3 i y x hy hx).1);rcases h2' with ⟨rfl,h0⟩ | ⟨g,cap,cur,rfl,hg,hh,hn',hc,hsz,ht⟩
 ·obtain rfl:xs=[]:=List.length_eq_zero_iff.1 h0;exact nil_mk w
 ·refine list_mk hn' hc fun i x hx=>⟨g,0,rfl,?_,?_⟩
  ·rcases Nat.lt_or_ge g w.heap.size with h | h
   ·exact h
   ·rw [Array.getElem?_eq_none h] at hh;cases hh
  ·have hi:i < xs.length:=lt_get hx;obtain ⟨y,hy⟩:=get_lt (xs:=ys) (k:=i) (by omega);obtain ⟨hl,hr⟩:=h3 i y x hy hx;refine Lay.congr (fun j hj=>?_) hr;show y[j]?=w.cell? ⟨g,0+i * Lay.n α+j,none⟩;simp only [World.cell?,hh];have e1:i * Lay.n α+j < xs.length * Lay.n α:=by
    have:(i+1) * Lay.n α≤xs.length * Lay.n α:=Nat.mul_le_mul_right _ hi;rw [Nat.succ_mul] at this;omega
   rw [show 0+i * Lay.n α+j=i * Lay.n α+j by omega];have e2:=flatten_get ys i j y hall hy hj;rw [← ht,List.getElem?_take,if_pos e1] at e2;simpa using e2.symm
def RowFa (B:Nat) (w0 w:World) (v:Value) (xs:List Fact):Prop :=
 ∃ ys:List (List Value),ys.length=xs.length∧w.ownsRow B 70 12 v xs.length ys.flatten∧∀ (i:Nat) (y:List Value) (x:Fact),ys[i]?=some y→xs[i]?=some x→y.length=12∧(∀ u∈y,u.oneCell'=true)∧∀ W,Below w0.heap.size w0 W→Lay.is W (fun j=>y[j]?) x
theorem RowFa.is {B:Nat} {w0 w:World} {v:Value} {xs:List Fact} (h:RowFa B w0 w v xs) (hb:Below w0.heap.size w0 w):Is w v xs:=by
 obtain ⟨ys,h1,h2,h3⟩:=h;exact row_is h1 h2 (fun i y x hy hx=>⟨(h3 i y x hy hx).1,(h3 i y x hy hx).2.2 w hb⟩)
theorem CloneFact_p (w:World) (v:Value) (xs:List Fact) (h:Is w v xs) (hn:xs.length≤1000000) (hne:xs≠[]) :
  Calls Tryz.prog 40 #[v] w fun e w'=>∃ v',e=.returned v'∧RowFa w.heap.size w w' v' xs∧Below w.heap.size w w':=by
 obtain ⟨a,c,rfl,hnc,hcm,hr⟩:=list_inv h;obtain ⟨i0,hi,hz0,hz1,hz2⟩:=info_parts infoFact;obtain ⟨x,r,rfl⟩:∃ x r,xs=x :: r:=by cases xs with | nil=>exact absurd rfl hne | cons x r=>exact ⟨x,r,rfl⟩
 obtain ⟨b,off,he,-⟩:=hr 0 x rfl;cases he;obtain ⟨ys,hl,hys⟩:=cells_row hr
 have h12:∀ y∈ys,y.length=12∧∀ u∈y,u.oneCell'=true:=fun y hy=>by
  obtain ⟨i,hi,rfl⟩:=List.mem_iff_getElem.1 hy;obtain ⟨q1,q2,q3,q4⟩:=hys i ys[i] _ (by simp) (List.getElem?_eq_getElem (by omega));exact ⟨q1,q3⟩
 have hcl:ys.flatten.length=(x :: r).length * 12:=by rw [cellsF_len (fun y hy=>(h12 y hy).1),hl]
 refine (AnyE.slices_Clone Tryz.cloneFact i0 _ 12 160 hi hz0 hz1 hz2 rfl (by decide) sizeFact b off (x :: r).length c ys.flatten w ?_ (by unfold maxLen;omega) (by omega) ?_ ?_).mono ?_
 ·exact hcl
 ·exact cellsF_get (fun i y hy=>by
   have hi:i < (x :: r).length:=by rw [← hl];exact lt_get hy
   obtain ⟨q1,q2,q3,q4⟩:=hys i y _ hy (List.getElem?_eq_getElem hi);exact ⟨q1,q2⟩)
 ·intro u hu;obtain ⟨y,hy,hu⟩:=List.mem_flatten.1 hu;exact (h12 y hy).2 u hu
 ·rintro e w' ⟨v',rfl,ho,-,hb⟩;refine ⟨v',rfl,⟨ys,hl,ho,fun i y z hy hz=>?_⟩,hb⟩;obtain ⟨q1,q2,q3,q4⟩:=hys i y z hy hz;exact ⟨q1,q3,fun W hW=>Lay.mono hW q4⟩
theorem wpo_appFa {o:Oper} {a:Act} {K:Act→World→Prop} {Q:Exit→Act→World→Prop} {w:World} (s x:Operand)
  (ho:o.op=.call { callee:=.builtin .append,args:=#[s,x],argTypes:=#[29,29] })
  (B:Nat) (w0:World) (v:Value) (xs:List Fact) (y:Fact) (g:Nat) (cs:List Value) (hs:a.eval s=v) (hx:a.eval x=.slice (some ⟨g,0,none⟩) 1 1) (hl:cs.length=12) (hg:w.heap[g]?=some (.cells cs.toArray 70 (0,0))) (h1:∀ u∈cs,u.oneCell'=true)
  (hy:∀ W,Below w0.heap.size w0 W→Lay.is W (fun j=>cs[j]?) y) (hown:RowFa B w0 w v xs) (hb:xs.length≤1000000) (hB:B≤w.heap.size) (hB0:w0.heap.size≤B) (hw0:Below w0.heap.size w0 w)
  (h:∀ v' w',RowFa B w0 w' v' (xs++[y])→Below w0.heap.size w0 w'→Below B w w'→K (a.put o.dst v') w'):o.wp Tryz.prog a w K Q:=by
 obtain ⟨i0,hi,hz0,hz1,hz2⟩:=info_parts infoFact;obtain ⟨ys,k1,k2,k3⟩:=hown;refine wp_append_own w s x 29 ho B 70 i0 _ 12 160 Tryz.underlying29 hi hz0 hz1 hz2 rfl (by decide) v xs.length ys.flatten hs k2 ⟨g,0,none⟩ 1 1 cs hx (by rw [hl]) ?_ h1 (by unfold maxLen;omega) (by omega) hB ?_
 ·intro j q hj;rw [addr_add];exact objcell hg (by rw [Nat.zero_add,List.getElem?_toArray];exact hj)
 ·intro v' w' h2 h3 _;have hbb:Below B w w':=(Below.refl _ _).app h3 hB k2;refine h v' w' ⟨ys++[cs],by simp [k1],?_,fun i z q hz hq=>?_⟩ (hw0.trans (hbb.mono hB0)) hbb
  ·rw [List.length_append,List.flatten_append];simpa using h2
  ·rcases Nat.lt_or_ge i ys.length with hlt | hge
   ·rw [List.getElem?_append_left hlt] at hz;rw [List.getElem?_append_left (by omega)] at hq;exact k3 i z q hz hq
   ·rw [List.getElem?_append_right hge] at hz;rw [List.getElem?_append_right (by omega)] at hq;rcases Nat.lt_or_ge 0 (i - ys.length) with h9 | h9
    ·rw [List.getElem?_eq_none (by simp;omega)] at hz;cases hz
    ·have e0:i - ys.length=0:=by omega
     have e1:i - xs.length=0:=by omega
     rw [e0] at hz;rw [e1] at hq;simp at hz hq;subst hz;subst hq;exact ⟨hl,h1,hy⟩
theorem step_appFa {ops:Array Oper} {o:Oper} {a:Act} {K:Act→World→Prop} {Q:Exit→Act→World→Prop} {X:Prop} {w:World} (hgd:o.guard=none) (s x:Operand)
  (ho:o.op=.call { callee:=.builtin .append,args:=#[s,x],argTypes:=#[29,29] })
  (B:Nat) (w0:World) (v:Value) (xs:List Fact) (y:Fact) (g:Nat) (cs:List Value) (hs:a.eval s=v) (hx:a.eval x=.slice (some ⟨g,0,none⟩) 1 1) (hl:cs.length=12) (hg:w.heap[g]?=some (.cells cs.toArray 70 (0,0))) (h1:∀ u∈cs,u.oneCell'=true)
  (hy:∀ W,Below w0.heap.size w0 W→Lay.is W (fun j=>cs[j]?) y) (hown:RowFa B w0 w v xs) (hb:xs.length≤1000000) (hB:B≤w.heap.size) (hB0:w0.heap.size≤B) (hw0:Below w0.heap.size w0 w)
  (h:∀ v' w',RowFa B w0 w' v' (xs++[y])→Below w0.heap.size w0 w'→Below B w w'→K (a.put o.dst v') w') :
  if Region.wanted o (yielded ops a.tmps)=true then Oper.wp Tryz.prog o a w K Q else X:=by
 rw [if_pos (by unfold Region.wanted;rw [hgd])];exact wpo_appFa s x ho B w0 v xs y g cs hs hx hl hg h1 hy hown hb hB hB0 hw0 h
theorem RowFa.keep {B:Nat} {w0 w w':World} {v:Value} {xs:List Fact} (h:RowFa B w0 w v xs) (hb:Below w.heap.size w w'):RowFa B w0 w' v xs:=by
 obtain ⟨ys,k1,⟨k2,k3⟩,k4⟩:=h;refine ⟨ys,k1,⟨k2,k3.imp id ?_⟩,k4⟩;rintro ⟨g,cap,cur,a,b,c,d⟩;exact ⟨g,cap,cur,a,b,by rw [hb.block g (heap_lt c)];exact c,d⟩

theorem zero_row (w:World) {α:Type} [Lay α]:Row w none ([]:List α):=fun i x h=>by simp at h
theorem dX_is (v:World):Is ((v.alloc (.cells #[.int .i64 0,.string ⟨#[97]⟩,.string ⟨#[]⟩,.slice none 0 0,.int .i64 0,.string ⟨#[98]⟩,.string ⟨#[]⟩,.slice none 0 0] 68)).alloc (.cells #[.int .i64 1,.string ⟨#[120,47,102]⟩,.string ⟨#[]⟩,.int .i64 0,.int .i64 0,.int .i64 0,.bool false,.int .i64 3,.string ⟨#[]⟩,.string ⟨#[]⟩,.slice (some ⟨v.heap.size,0,none⟩) 2 2,.slice none 0 0,.int .i64 0,.string ⟨#[120,47,102]⟩,.string ⟨#[120,47,111,117,116]⟩,.int .i64 0,.int .i64 0,.int .i64 0,.bool false,.int .i64 0,.string ⟨#[]⟩,.string ⟨#[]⟩,.slice none 0 0,.slice none 0 0,.int .i64 2,.string ⟨#[]⟩,.string ⟨#[120,47,111,117,116]⟩,.int .i64 0,.int .i64 1,.int .i64 0,.bool false,.int .i64 0,.string ⟨#[]⟩,.string ⟨#[]⟩,.slice none 0 0,.slice none 0 0] 70)) (.slice (some ⟨v.heap.size+1,0,none⟩) 3 3) dX:=by
 have h1:((v.alloc (.cells #[.int .i64 0,.string ⟨#[97]⟩,.string ⟨#[]⟩,.slice none 0 0,.int .i64 0,.string ⟨#[98]⟩,.string ⟨#[]⟩,.slice none 0 0] 68)).alloc (.cells #[.int .i64 1,.string ⟨#[120,47,102]⟩,.string ⟨#[]⟩,.int .i64 0,.int .i64 0,.int .i64 0,.bool false,.int .i64 3,.string ⟨#[]⟩,.string ⟨#[]⟩,.slice (some ⟨v.heap.size,0,none⟩) 2 2,.slice none 0 0,.int .i64 0,.string ⟨#[120,47,102]⟩,.string ⟨#[120,47,111,117,116]⟩,.int .i64 0,.int .i64 0,.int .i64 0,.bool false,.int .i64 0,.string ⟨#[]⟩,.string ⟨#[]⟩,.slice none 0 0,.slice none 0 0,.int .i64 2,.string ⟨#[]⟩,.string ⟨#[120,47,111,117,116]⟩,.int .i64 0,.int .i64 1,.int .i64 0,.bool false,.int .i64 0,.string ⟨#[]⟩,.string ⟨#[]⟩,.slice none 0 0,.slice none 0 0] 70)).heap[v.heap.size]?=some (.cells #[.int .i64 0,.string ⟨#[97]⟩,.string ⟨#[]⟩,.slice none 0 0,.int .i64 0,.string ⟨#[98]⟩,.string ⟨#[]⟩,.slice none 0 0] 68 (0,0)):=(Below.heap_alloc _ _ _ (by simp)).trans (World.alloc_heap_new v _);have h2:((v.alloc (.cells #[.int .i64 0,.string ⟨#[97]⟩,.string ⟨#[]⟩,.slice none 0 0,.int .i64 0,.string ⟨#[98]⟩,.string ⟨#[]⟩,.slice none 0 0] 68)).alloc (.cells #[.int .i64 1,.string ⟨#[120,47,102]⟩,.string ⟨#[]⟩,.int .i64 0,.int .i64 0,.int .i64 0,.bool false,.int .i64 3,.string ⟨#[]⟩,.string ⟨#[]⟩,.slice (some ⟨v.heap.size,0,none⟩) 2 2,.slice none 0 0,.int .i64 0,.string ⟨#[120,47,102]⟩,.string ⟨#[120,47,111,117,116]⟩,.int .i64 0,.int .i64 0,.int .i64 0,.bool false,.int .i64 0,.string ⟨#[]⟩,.string ⟨#[]⟩,.slice none 0 0,.slice none 0 0,.int .i64 2,.string ⟨#[]⟩,.string ⟨#[120,47,111,117,116]⟩,.int .i64 0,.int .i64 1,.int .i64 0,.bool false,.int .i64 0,.string ⟨#[]⟩,.string ⟨#[]⟩,.slice none 0 0,.slice none 0 0] 70)).heap[v.heap.size+1]?=some (.cells #[.int .i64 1,.string ⟨#[120,47,102]⟩,.string ⟨#[]⟩,.int .i64 0,.int .i64 0,.int .i64 0,.bool false,.int .i64 3,.string ⟨#[]⟩,.string ⟨#[]⟩,.slice (some ⟨v.heap.size,0,none⟩) 2 2,.slice none 0 0,.int .i64 0,.string ⟨#[120,47,102]⟩,.string ⟨#[120,47,111,117,116]⟩,.int .i64 0,.int .i64 0,.int .i64 0,.bool false,.int .i64 0,.string ⟨#[]⟩,.string ⟨#[]⟩,.slice none 0 0,.slice none 0 0,.int .i64 2,.string ⟨#[]⟩,.string ⟨#[120,47,111,117,116]⟩,.int .i64 0,.int .i64 1,.int .i64 0,.bool false,.int .i64 0,.string ⟨#[]⟩,.string ⟨#[]⟩,.slice none 0 0,.slice none 0 0] 70 (0,0)):=by
  have:=World.alloc_heap_new (v.alloc (.cells #[.int .i64 0,.string ⟨#[97]⟩,.string ⟨#[]⟩,.slice none 0 0,.int .i64 0,.string ⟨#[98]⟩,.string ⟨#[]⟩,.slice none 0 0] 68)) (.cells #[.int .i64 1,.string ⟨#[120,47,102]⟩,.string ⟨#[]⟩,.int .i64 0,.int .i64 0,.int .i64 0,.bool false,.int .i64 3,.string ⟨#[]⟩,.string ⟨#[]⟩,.slice (some ⟨v.heap.size,0,none⟩) 2 2,.slice none 0 0,.int .i64 0,.string ⟨#[120,47,102]⟩,.string ⟨#[120,47,111,117,116]⟩,.int .i64 0,.int .i64 0,.int .i64 0,.bool false,.int .i64 0,.string ⟨#[]⟩,.string ⟨#[]⟩,.slice none 0 0,.slice none 0 0,.int .i64 2,.string ⟨#[]⟩,.string ⟨#[120,47,111,117,116]⟩,.int .i64 0,.int .i64 1,.int .i64 0,.bool false,.int .i64 0,.string ⟨#[]⟩,.string ⟨#[]⟩,.slice none 0 0,.slice none 0 0] 70);rw [World.size_alloc] at this;exact this
 have hs:v.heap.size+1 < ((v.alloc (.cells #[.int .i64 0,.string ⟨#[97]⟩,.string ⟨#[]⟩,.slice none 0 0,.int .i64 0,.string ⟨#[98]⟩,.string ⟨#[]⟩,.slice none 0 0] 68)).alloc (.cells #[.int .i64 1,.string ⟨#[120,47,102]⟩,.string ⟨#[]⟩,.int .i64 0,.int .i64 0,.int .i64 0,.bool false,.int .i64 3,.string ⟨#[]⟩,.string ⟨#[]⟩,.slice (some ⟨v.heap.size,0,none⟩) 2 2,.slice none 0 0,.int .i64 0,.string ⟨#[120,47,102]⟩,.string ⟨#[120,47,111,117,116]⟩,.int .i64 0,.int .i64 0,.int .i64 0,.bool false,.int .i64 0,.string ⟨#[]⟩,.string ⟨#[]⟩,.slice none 0 0,.slice none 0 0,.int .i64 2,.string ⟨#[]⟩,.string ⟨#[120,47,111,117,116]⟩,.int .i64 0,.int .i64 1,.int .i64 0,.bool false,.int .i64 0,.string ⟨#[]⟩,.string ⟨#[]⟩,.slice none 0 0,.slice none 0 0] 70)).heap.size:=by simp
 generalize ((v.alloc (.cells #[.int .i64 0,.string ⟨#[97]⟩,.string ⟨#[]⟩,.slice none 0 0,.int .i64 0,.string ⟨#[98]⟩,.string ⟨#[]⟩,.slice none 0 0] 68)).alloc (.cells #[.int .i64 1,.string ⟨#[120,47,102]⟩,.string ⟨#[]⟩,.int .i64 0,.int .i64 0,.int .i64 0,.bool false,.int .i64 3,.string ⟨#[]⟩,.string ⟨#[]⟩,.slice (some ⟨v.heap.size,0,none⟩) 2 2,.slice none 0 0,.int .i64 0,.string ⟨#[120,47,102]⟩,.string ⟨#[120,47,111,117,116]⟩,.int .i64 0,.int .i64 0,.int .i64 0,.bool false,.int .i64 0,.string ⟨#[]⟩,.string ⟨#[]⟩,.slice none 0 0,.slice none 0 0,.int .i64 2,.string ⟨#[]⟩,.string ⟨#[120,47,111,117,116]⟩,.int .i64 0,.int .i64 1,.int .i64 0,.bool false,.int .i64 0,.string ⟨#[]⟩,.string ⟨#[]⟩,.slice none 0 0,.slice none 0 0] 70))=W at *;have hk:Row W (some ⟨v.heap.size,0,none⟩) [LExpr.mk 0 dA dE [],LExpr.mk 0 dB dE []]:=by
  intro i x hx;refine ⟨v.heap.size,0,rfl,by omega,?_⟩;match i,hx with
  | 0,hx =>
   cases hx;exact LExpr.is_iff.2 ⟨none,0,objcell h1 (j:=0) rfl,objcell h1 (j:=1) rfl,objcell h1 (j:=2) rfl,objcell h1 (j:=3) rfl,by unfold inI64;omega,by decide,by decide,Nat.le_refl _,by decide,zero_row _⟩
  | 1,hx =>
   cases hx;exact LExpr.is_iff.2 ⟨none,0,objcell h1 (j:=4) rfl,objcell h1 (j:=5) rfl,objcell h1 (j:=6) rfl,objcell h1 (j:=7) rfl,by unfold inI64;omega,by decide,by decide,Nat.le_refl _,by decide,zero_row _⟩
  | i+2,hx=>simp at hx
 have hI:∀ k:Int,0≤k→k≤9→inI64 k:=fun k h1 h2=>by unfold inI64;omega
 refine list_mk (xs:=dX) (Nat.le_refl _) (by decide) (fun i x hx=>⟨v.heap.size+1,0,rfl,hs,?_⟩);match i,hx with
 | 0,hx =>
  cases hx;refine Fact.is_iff.2 ⟨some ⟨v.heap.size,0,none⟩,2,none,0,objcell h2 (j:=0) rfl,objcell h2 (j:=1) rfl,objcell h2 (j:=2) rfl,objcell h2 (j:=3) rfl,objcell h2 (j:=4) rfl,objcell h2 (j:=5) rfl,objcell h2 (j:=6) rfl,objcell h2 (j:=7) rfl,objcell h2 (j:=8) rfl,objcell h2 (j:=9) rfl,objcell h2 (j:=10) rfl,objcell h2 (j:=11) rfl,?_⟩;exact ⟨hI _ (by omega) (by omega),by decide,by decide,hI _ (by omega) (by omega),hI _ (by omega) (by omega),hI _ (by omega) (by omega),hI _ (by omega) (by omega),by decide,by decide,Nat.le_refl _,by decide,hk,Nat.le_refl _,by decide,zero_row _⟩
 | 1,hx =>
  cases hx;refine Fact.is_iff.2 ⟨none,0,none,0,objcell h2 (j:=12) rfl,objcell h2 (j:=13) rfl,objcell h2 (j:=14) rfl,objcell h2 (j:=15) rfl,objcell h2 (j:=16) rfl,objcell h2 (j:=17) rfl,objcell h2 (j:=18) rfl,objcell h2 (j:=19) rfl,objcell h2 (j:=20) rfl,objcell h2 (j:=21) rfl,objcell h2 (j:=22) rfl,objcell h2 (j:=23) rfl,?_⟩;exact ⟨hI _ (by omega) (by omega),by decide,by decide,hI _ (by omega) (by omega),hI _ (by omega) (by omega),hI _ (by omega) (by omega),hI _ (by omega) (by omega),by decide,by decide,Nat.le_refl _,by decide,zero_row _,Nat.le_refl _,by decide,zero_row _⟩
 | 2,hx =>
  cases hx;refine Fact.is_iff.2 ⟨none,0,none,0,objcell h2 (j:=24) rfl,objcell h2 (j:=25) rfl,objcell h2 (j:=26) rfl,objcell h2 (j:=27) rfl,objcell h2 (j:=28) rfl,objcell h2 (j:=29) rfl,objcell h2 (j:=30) rfl,objcell h2 (j:=31) rfl,objcell h2 (j:=32) rfl,objcell h2 (j:=33) rfl,objcell h2 (j:=34) rfl,objcell h2 (j:=35) rfl,?_⟩;exact ⟨hI _ (by omega) (by omega),by decide,by decide,hI _ (by omega) (by omega),hI _ (by omega) (by omega),hI _ (by omega) (by omega),hI _ (by omega) (by omega),by decide,by decide,Nat.le_refl _,by decide,zero_row _,Nat.le_refl _,by decide,zero_row _⟩
 | i+3,hx=>simp [dX] at hx
theorem dBad_is (W:World):Lay.is W (fun j=>([.int .i64 9,.string ⟨#[]⟩,.string ⟨#[]⟩,.int .i64 0,.int .i64 0,.int .i64 0,.bool false,.int .i64 0,.string ⟨#[]⟩,.string ⟨#[]⟩,.slice none 0 0,.slice none 0 0]:List Value)[j]?) dBad:=by
 have hI:∀ k:Int,0≤k→k≤9→inI64 k:=fun k h1 h2=>by unfold inI64;omega
 exact Fact.is_iff.2 ⟨none,0,none,0,rfl,rfl,rfl,rfl,rfl,rfl,rfl,rfl,rfl,rfl,rfl,rfl,hI _ (by omega) (by omega),by decide,by decide,hI _ (by omega) (by omega),hI _ (by omega) (by omega),hI _ (by omega) (by omega),hI _ (by omega) (by omega),by decide,by decide,Nat.le_refl _,by decide,zero_row _,Nat.le_refl _,by decide,zero_row _⟩
theorem dX_fit:∀ f∈dX,fitF f:=by
 intro f hf;simp only [dX,List.mem_cons,List.not_mem_nil,or_false] at hf;rcases hf with rfl | rfl | rfl <;> exact ⟨by decide,by decide,by decide +kernel⟩
theorem dXb_fit:∀ f∈dX++[dBad],fitF f:=by
 intro f hf;rcases List.mem_append.1 hf with h | h
 ·exact dX_fit f h
 ·simp only [List.mem_cons,List.not_mem_nil,or_false] at h;subst h;exact ⟨by decide,by decide,by decide +kernel⟩
theorem dC_lic:dC.licenses.length≤1000000:=by decide
theorem awakeD_p (w:World) (hg:Glob w):Calls Tryz.prog 11 #[] w fun e w'=>e=.returned (.bool true)∧Below w.heap.size w w':=by
 have HG:=zh hg;clear hg;go_enter Tryz.func11,Tryz.ntmps11;go_wp2_with fail
 refine (dParse w HG.out).mono ?_;rintro e w1 ⟨vc,rfl,hc,hb1⟩;obtain ⟨p0,m0,k0,p1,m1,k1,p2,m2,k2,p3,m3,k3,rfl⟩:=catBox2 hc;have hba:Below w1.heap.size w1 (w1.alloc (.cells #[.slice p0 m0 k0,.slice p1 m1 k1,.slice p2 m2 k2,.slice p3 m3 k3] 27)):=bw;have hO:=World.alloc_heap_new w1 (.cells #[.slice p0 m0 k0,.slice p1 m1 k1,.slice p2 m2 k2,.slice p3 m3 k3] 27);have HB2:Hid (Below w.heap.size w (w1.alloc (.cells #[.slice p0 m0 k0,.slice p1 m1 k1,.slice p2 m2 k2,.slice p3 m3 k3] 27))):=hb1.trans (hba.mono hb1.size);have HC:=zh (hc.mono hba);have HO:=zh hO;clear hb1 hba hc hO;have hx:=dX_is (w1.alloc (.cells #[.slice p0 m0 k0,.slice p1 m1 k1,.slice p2 m2 k2,.slice p3 m3 k3] 27));have hbx:Below (w1.alloc (.cells #[.slice p0 m0 k0,.slice p1 m1 k1,.slice p2 m2 k2,.slice p3 m3 k3] 27)).heap.size (w1.alloc (.cells #[.slice p0 m0 k0,.slice p1 m1 k1,.slice p2 m2 k2,.slice p3 m3 k3] 27)) (((w1.alloc (.cells #[.slice p0 m0 k0,.slice p1 m1 k1,.slice p2 m2 k2,.slice p3 m3 k3] 27)).alloc (.cells #[.int .i64 0,.string ⟨#[97]⟩,.string ⟨#[]⟩,.slice none 0 0,.int .i64 0,.string ⟨#[98]⟩,.string ⟨#[]⟩,.slice none 0 0] 68)).alloc (.cells #[.int .i64 1,.string ⟨#[120,47,102]⟩,.string ⟨#[]⟩,.int .i64 0,.int .i64 0,.int .i64 0,.bool false,.int .i64 3,.string ⟨#[]⟩,.string ⟨#[]⟩,.slice (some ⟨(w1.alloc (.cells #[.slice p0 m0 k0,.slice p1 m1 k1,.slice p2 m2 k2,.slice p3 m3 k3] 27)).heap.size,0,none⟩) 2 2,.slice none 0 0,.int .i64 0,.string ⟨#[120,47,102]⟩,.string ⟨#[120,47,111,117,116]⟩,.int .i64 0,.int .i64 0,.int .i64 0,.bool false,.int .i64 0,.string ⟨#[]⟩,.string ⟨#[]⟩,.slice none 0 0,.slice none 0 0,.int .i64 2,.string ⟨#[]⟩,.string ⟨#[120,47,111,117,116]⟩,.int .i64 0,.int .i64 1,.int .i64 0,.bool false,.int .i64 0,.string ⟨#[]⟩,.string ⟨#[]⟩,.slice none 0 0,.slice none 0 0] 70)):=zb.alloc (by simp) _;simp only [World.size_alloc] at hx;have hbx':Below (w1.alloc (.cells #[.slice p0 m0 k0,.slice p1 m1 k1,.slice p2 m2 k2,.slice p3 m3 k3] 27)).heap.size (w1.alloc (.cells #[.slice p0 m0 k0,.slice p1 m1 k1,.slice p2 m2 k2,.slice p3 m3 k3] 27)) (((w1.alloc (.cells #[.slice p0 m0 k0,.slice p1 m1 k1,.slice p2 m2 k2,.slice p3 m3 k3] 27)).alloc (.cells #[.int .i64 0,.string ⟨#[97]⟩,.string ⟨#[]⟩,.slice none 0 0,.int .i64 0,.string ⟨#[98]⟩,.string ⟨#[]⟩,.slice none 0 0] 68)).alloc (.cells #[.int .i64 1,.string ⟨#[120,47,102]⟩,.string ⟨#[]⟩,.int .i64 0,.int .i64 0,.int .i64 0,.bool false,.int .i64 3,.string ⟨#[]⟩,.string ⟨#[]⟩,.slice (some ⟨w1.heap.size+1,0,none⟩) 2 2,.slice none 0 0,.int .i64 0,.string ⟨#[120,47,102]⟩,.string ⟨#[120,47,111,117,116]⟩,.int .i64 0,.int .i64 0,.int .i64 0,.bool false,.int .i64 0,.string ⟨#[]⟩,.string ⟨#[]⟩,.slice none 0 0,.slice none 0 0,.int .i64 2,.string ⟨#[]⟩,.string ⟨#[120,47,111,117,116]⟩,.int .i64 0,.int .i64 1,.int .i64 0,.bool false,.int .i64 0,.string ⟨#[]⟩,.string ⟨#[]⟩,.slice none 0 0,.slice none 0 0] 70)):=by
  have h9:=hbx;simp only [World.size_alloc] at h9;simp only [World.size_alloc];exact h9
 clear hbx;go_wp2_with fail
 have HB3:Hid (Below w.heap.size w (((w1.alloc (.cells #[.slice p0 m0 k0,.slice p1 m1 k1,.slice p2 m2 k2,.slice p3 m3 k3] 27)).alloc (.cells #[.int .i64 0,.string ⟨#[97]⟩,.string ⟨#[]⟩,.slice none 0 0,.int .i64 0,.string ⟨#[98]⟩,.string ⟨#[]⟩,.slice none 0 0] 68)).alloc (.cells #[.int .i64 1,.string ⟨#[120,47,102]⟩,.string ⟨#[]⟩,.int .i64 0,.int .i64 0,.int .i64 0,.bool false,.int .i64 3,.string ⟨#[]⟩,.string ⟨#[]⟩,.slice (some ⟨w1.heap.size+1,0,none⟩) 2 2,.slice none 0 0,.int .i64 0,.string ⟨#[120,47,102]⟩,.string ⟨#[120,47,111,117,116]⟩,.int .i64 0,.int .i64 0,.int .i64 0,.bool false,.int .i64 0,.string ⟨#[]⟩,.string ⟨#[]⟩,.slice none 0 0,.slice none 0 0,.int .i64 2,.string ⟨#[]⟩,.string ⟨#[120,47,111,117,116]⟩,.int .i64 0,.int .i64 1,.int .i64 0,.bool false,.int .i64 0,.string ⟨#[]⟩,.string ⟨#[]⟩,.slice none 0 0,.slice none 0 0] 70))):=zh (HB2.out.trans (hbx'.mono HB2.out.size));have HC:=zh (HC.out.mono hbx');have HO:=zh (below_blk hbx' HO.out);have HX:=zh hx;have hg1:w1.heap.size < (((w1.alloc (.cells #[.slice p0 m0 k0,.slice p1 m1 k1,.slice p2 m2 k2,.slice p3 m3 k3] 27)).alloc (.cells #[.int .i64 0,.string ⟨#[97]⟩,.string ⟨#[]⟩,.slice none 0 0,.int .i64 0,.string ⟨#[98]⟩,.string ⟨#[]⟩,.slice none 0 0] 68)).alloc (.cells #[.int .i64 1,.string ⟨#[120,47,102]⟩,.string ⟨#[]⟩,.int .i64 0,.int .i64 0,.int .i64 0,.bool false,.int .i64 3,.string ⟨#[]⟩,.string ⟨#[]⟩,.slice (some ⟨w1.heap.size+1,0,none⟩) 2 2,.slice none 0 0,.int .i64 0,.string ⟨#[120,47,102]⟩,.string ⟨#[120,47,111,117,116]⟩,.int .i64 0,.int .i64 0,.int .i64 0,.bool false,.int .i64 0,.string ⟨#[]⟩,.string ⟨#[]⟩,.slice none 0 0,.slice none 0 0,.int .i64 2,.string ⟨#[]⟩,.string ⟨#[120,47,111,117,116]⟩,.int .i64 0,.int .i64 1,.int .i64 0,.bool false,.int .i64 0,.string ⟨#[]⟩,.string ⟨#[]⟩,.slice none 0 0,.slice none 0 0] 70)).heap.size:=heap_lt HO.out;clear hx hbx' HB2;generalize (((w1.alloc (.cells #[.slice p0 m0 k0,.slice p1 m1 k1,.slice p2 m2 k2,.slice p3 m3 k3] 27)).alloc (.cells #[.int .i64 0,.string ⟨#[97]⟩,.string ⟨#[]⟩,.slice none 0 0,.int .i64 0,.string ⟨#[98]⟩,.string ⟨#[]⟩,.slice none 0 0] 68)).alloc (.cells #[.int .i64 1,.string ⟨#[120,47,102]⟩,.string ⟨#[]⟩,.int .i64 0,.int .i64 0,.int .i64 0,.bool false,.int .i64 3,.string ⟨#[]⟩,.string ⟨#[]⟩,.slice (some ⟨w1.heap.size+1,0,none⟩) 2 2,.slice none 0 0,.int .i64 0,.string ⟨#[120,47,102]⟩,.string ⟨#[120,47,111,117,116]⟩,.int .i64 0,.int .i64 0,.int .i64 0,.bool false,.int .i64 0,.string ⟨#[]⟩,.string ⟨#[]⟩,.slice none 0 0,.slice none 0 0,.int .i64 2,.string ⟨#[]⟩,.string ⟨#[120,47,111,117,116]⟩,.int .i64 0,.int .i64 1,.int .i64 0,.bool false,.int .i64 0,.string ⟨#[]⟩,.string ⟨#[]⟩,.slice none 0 0,.slice none 0 0] 70))=w3 at *;generalize w1.heap.size=g1 at *;refine (Count_p w3 _ _ dC dX (HG.out.mono HB3.out) HC.out HX.out dX_fit dC_lic).mono ?_;rw [d_count];rintro e w4 ⟨rfl,hb⟩;have HB_w4:Hid (Below w.heap.size w w4):=zh (HB3.out.trans (hb.mono HB3.out.size));have HC:=zh (HC.out.mono hb);have HX:=zh (HX.out.mono hb);have HO:=zh (below_blk hb HO.out);have hg1:g1 < w4.heap.size:=heap_lt HO.out;clear hb HB3;have d0:=objcell HO.out (j:=0) rfl;have d1:=objcell HO.out (j:=1) rfl;have d2:=objcell HO.out (j:=2) rfl;have d3:=objcell HO.out (j:=3) rfl;go_wp2_with fail
 refine (Nth_p w4 _ _ dC dX 0 (HG.out.mono HB_w4.out) HC.out HX.out dX_fit dC_lic).mono ?_;rw [d_n0.1,d_n0.2];rintro e w5 ⟨v1,v2,rfl,hch,hb⟩;obtain ⟨a1,c1,a2,c2,rfl,rfl⟩:=hch.shape;have hy:=hch.is;have hl1:dY0.terms.length=1:=rfl;have hl2:dY0.own.length=1:=rfl;rw [hl1,hl2] at hy ⊢;have hb6:Below w4.heap.size w4 (w5.alloc (.cells #[.slice a1 1 c1,.slice a2 1 c2] 43)):=hb.alloc hb.size _;have hO:=World.alloc_heap_new w5 (.cells #[.slice a1 1 c1,.slice a2 1 c2] 43);have HY:=zh (hy.mono (show Below w5.heap.size w5 (w5.alloc (.cells #[.slice a1 1 c1,.slice a2 1 c2] 43)) from zb));have HOY:=zh hO;clear hch hy hO hl1 hl2 d0 d1 d2 d3;have HB_w6:Hid (Below w.heap.size w (w5.alloc (.cells #[.slice a1 1 c1,.slice a2 1 c2] 43))):=zh (HB_w4.out.trans (hb6.mono HB_w4.out.size));have HC:=zh (HC.out.mono hb6);have HX:=zh (HX.out.mono hb6);have HO:=zh (below_blk hb6 HO.out);have hg1:g1 < (w5.alloc (.cells #[.slice a1 1 c1,.slice a2 1 c2] 43)).heap.size:=heap_lt HO.out;clear hb hb6 HB_w4;have d0:=objcell HO.out (j:=0) rfl;have d1:=objcell HO.out (j:=1) rfl;have d2:=objcell HO.out (j:=2) rfl;have d3:=objcell HO.out (j:=3) rfl;go_wp2_with fail
 generalize (w5.alloc (.cells #[.slice a1 1 c1,.slice a2 1 c2] 43))=w6 at *;generalize w5.heap.size=g2 at *;refine (Nth_p w6 _ _ dC dX 3 (HG.out.mono HB_w6.out) HC.out HX.out dX_fit dC_lic).mono ?_;rw [d_n3.1,d_n3.2];rintro e w7 ⟨v1,v2,rfl,hch,hb⟩;obtain ⟨a3,c3,a4,c4,rfl,rfl⟩:=hch.shape;have hy:=hch.is;have hl1:dY3.terms.length=1:=rfl;have hl2:dY3.own.length=1:=rfl;rw [hl1,hl2] at hy ⊢;have hb8:Below w6.heap.size w6 (w7.alloc (.cells #[.slice a3 1 c3,.slice a4 1 c4] 43)):=hb.alloc hb.size _;have hO:=World.alloc_heap_new w7 (.cells #[.slice a3 1 c3,.slice a4 1 c4] 43);have HZ:=zh (hy.mono (show Below w7.heap.size w7 (w7.alloc (.cells #[.slice a3 1 c3,.slice a4 1 c4] 43)) from zb));have HOZ:=zh hO;clear hch hy hO hl1 hl2 d0 d1 d2 d3;have HB_w8:Hid (Below w.heap.size w (w7.alloc (.cells #[.slice a3 1 c3,.slice a4 1 c4] 43))):=zh (HB_w6.out.trans (hb8.mono HB_w6.out.size));have HC:=zh (HC.out.mono hb8);have HX:=zh (HX.out.mono hb8);have HO:=zh (below_blk hb8 HO.out);have hg1:g1 < (w7.alloc (.cells #[.slice a3 1 c3,.slice a4 1 c4] 43)).heap.size:=heap_lt HO.out;have HY:=zh (HY.out.mono hb8);have HOY:=zh (below_blk hb8 HOY.out);clear hb hb8 HB_w6;have d0:=objcell HO.out (j:=0) rfl;have d1:=objcell HO.out (j:=1) rfl;have d2:=objcell HO.out (j:=2) rfl;have d3:=objcell HO.out (j:=3) rfl;have e0:=objcell HOY.out (j:=0) rfl;have e1:=objcell HOY.out (j:=1) rfl;have hg2:=heap_lt HOY.out;go_wp2_with fail
 generalize (w7.alloc (.cells #[.slice a3 1 c3,.slice a4 1 c4] 43))=w8 at *;generalize w7.heap.size=g3 at *;refine (DutyOf_p w8 _ _ _ dC dX dY0 (HG.out.mono HB_w8.out) HC.out HX.out HY.out dX_fit 1 (by intro t ht;simp [dY0] at ht;subst ht;decide) (by decide)).mono ?_;rw [d_dues.1];unfold DuO;rintro e w9 ⟨v,rfl,hr,hb⟩;obtain ⟨a5,c5,rfl⟩:=hr.shape;have HL:=zh hr.is;have hl1:[dDue].length=1:=rfl;rw [hl1] at HL ⊢;have HB_w9:Hid (Below w.heap.size w w9):=zh (HB_w8.out.trans (hb.mono HB_w8.out.size));have HC:=zh (HC.out.mono hb);have HX:=zh (HX.out.mono hb);have HO:=zh (below_blk hb HO.out);have hg1:g1 < w9.heap.size:=heap_lt HO.out;have HZ:=zh (HZ.out.mono hb);have HOZ:=zh (below_blk hb HOZ.out);clear hr hb HB_w8 HY HOY hl1 d0 d1 d2 d3 e0 e1 hg2;have d0:=objcell HO.out (j:=0) rfl;have d1:=objcell HO.out (j:=1) rfl;have d2:=objcell HO.out (j:=2) rfl;have d3:=objcell HO.out (j:=3) rfl;have e0:=objcell HOZ.out (j:=0) rfl;have e1:=objcell HOZ.out (j:=1) rfl;have hg3:=heap_lt HOZ.out;go_wp2_with fail
 refine (DutyOf_p w9 _ _ _ dC dX dY3 (HG.out.mono HB_w9.out) HC.out HX.out HZ.out dX_fit 1 (by intro t ht;simp [dY3] at ht;subst ht;decide) (by decide)).mono ?_;rw [d_dues.2];unfold DuO;rintro e w10 ⟨v,rfl,hr,hb⟩;obtain ⟨a6,c6,rfl⟩:=hr.shape;have hl1:([]:List Due).length=0:=rfl;rw [hl1];have HB_w10:Hid (Below w.heap.size w w10):=zh (HB_w9.out.trans (hb.mono HB_w9.out.size));have HC:=zh (HC.out.mono hb);have HX:=zh (HX.out.mono hb);have HO:=zh (below_blk hb HO.out);have hg1:g1 < w10.heap.size:=heap_lt HO.out;have HZ:=zh (HZ.out.mono hb);have HOZ:=zh (below_blk hb HOZ.out);have HL:=zh (HL.out.mono hb);clear hr hb HB_w9 hl1 d0 d1 d2 d3 e0 e1;have d0:=objcell HO.out (j:=0) rfl;have d1:=objcell HO.out (j:=1) rfl;have d2:=objcell HO.out (j:=2) rfl;have d3:=objcell HO.out (j:=3) rfl;go_wp2_with fail
 refine (Values_p w10 _ _ dC dX (HG.out.mono HB_w10.out) HC.out HX.out dX_fit).mono ?_;rw [d_values];unfold VO;rintro e w11 ⟨v1,v2,rfl,ho1,ho2,ho3,hb⟩;have HV:=zh (ho2.strs ho3);have hv1:=ho1.is;obtain ⟨a7,c7,rfl,-⟩:=list_inv hv1;obtain ⟨a8,c8,rfl,-⟩:=list_inv HV.out;simp only [List.length_cons,List.length_nil,Nat.reduceAdd] at HV ⊢;have HB_w11:Hid (Below w.heap.size w w11):=zh (HB_w10.out.trans (hb.mono HB_w10.out.size));have HC:=zh (HC.out.mono hb);have HX:=zh (HX.out.mono hb);have HO:=zh (below_blk hb HO.out);have hg1:g1 < w11.heap.size:=heap_lt HO.out;have HZ:=zh (HZ.out.mono hb);have HOZ:=zh (below_blk hb HOZ.out);have HL:=zh (HL.out.mono hb);clear hb HB_w10 ho1 ho2 ho3 hv1 d0 d1 d2 d3;go_wp2_with fail
 refine wp_region_held_drew (S:=(fun w':World=>Below w11.heap.size w11 w')) (by kernel_rfl) (by exact bw) (fun hH0=>?_);generalize w11.drew=wd at *;refine tkBDuI 0 hH0 rfl ?_ (by intro w hSw;(try dsimp only at hSw);have hO:=below_blk hSw HO.out;have d0:=objcell hO (j:=0) rfl;have d1:=objcell hO (j:=1) rfl;have d2:=objcell hO (j:=2) rfl;have d3:=objcell hO (j:=3) rfl;go_simp;all_goals with_reducible rfl);try simp only [tkS,Act.put]
 refine tkBDuI 1 hH0 rfl ?_;try simp only [tkS,Act.put]
 refine tkBDuI 3 hH0 rfl ?_;try simp only [tkS,Act.put]
 refine wpAnyH_ready (rs:=[2,4]) (by kernel_rfl) (by simp) ?_;refine AllReadyH.cons (o:=_) rfl (fun K hK=>?_) (AllReadyH.cons (o:=_) rfl (fun K hK=>?_) AllReadyH.nil)
 ·go_simp;go_at_call 40
  refine (CloneFact_p _ _ dX (HX.out.mono hH0) (by decide) (by decide)).mono ?_;rintro e wA ⟨v',rfl,hrow,hb⟩;go_wp2_with fail
  refine hK.out _ _ ?_ (fun hH1=>?_)
  ·exact hH0.trans (hb.mono hH0.size)
  try simp only [tkS,Act.put]
  clear hK K;have hbA:Below wA.heap.size wA (wA.alloc (.cells #[.int .i64 9,.string ⟨#[]⟩,.string ⟨#[]⟩,.int .i64 0,.int .i64 0,.int .i64 0,.bool false,.int .i64 0,.string ⟨#[]⟩,.string ⟨#[]⟩,.slice none 0 0,.slice none 0 0] 70)):=zb;have hOA:=World.alloc_heap_new wA (.cells #[.int .i64 9,.string ⟨#[]⟩,.string ⟨#[]⟩,.int .i64 0,.int .i64 0,.int .i64 0,.bool false,.int .i64 0,.string ⟨#[]⟩,.string ⟨#[]⟩,.slice none 0 0,.slice none 0 0] 70);refine wpAnyH_ready (rs:=[4]) (by kernel_rfl) (by simp) ?_;refine AllReadyH.cons (o:=_) rfl (fun K hK=>?_) AllReadyH.nil;go_simp;go_wp2_with fail
  refine hK.out _ _ ?_ (fun hH2=>?_)
  ·exact hH1.trans (hbA.mono hH1.size)
  try simp only [tkS,Act.put]
  clear hK K;have hrA:=hrow.keep hbA;have hbA1:=hb.trans (hbA.mono hb.size);refine wpAnyH_ready (rs:=[5]) (by kernel_rfl) (by simp) ?_;refine AllReadyH.cons (o:=_) rfl (fun K hK=>?_) AllReadyH.nil;refine step_appFa (by rfl) _ _ (by rfl) wd.heap.size wd v' dX dBad wA.heap.size [.int .i64 9,.string ⟨#[]⟩,.string ⟨#[]⟩,.int .i64 0,.int .i64 0,.int .i64 0,.bool false,.int .i64 0,.string ⟨#[]⟩,.string ⟨#[]⟩,.slice none 0 0,.slice none 0 0] (by rfl) (by rfl) rfl hOA (fun u hu=>by simp at hu;rcases hu with rfl | rfl | rfl | rfl | rfl | rfl | rfl | rfl | rfl <;> rfl) (fun W _=>dBad_is W) hrA (by decide) hbA1.size (Nat.le_refl _) hbA1 ?_;intro v'' wC hrow2 hbC hbC2;have HXC:=zh (hrow2.is hbC);refine hK.out _ _ ?_ (fun hH3=>?_)
  ·exact hH0.trans (hbC.mono hH0.size)
  try simp only [tkS,Act.put]
  clear hK K;clear hrow2 hbC2 hrA hbA1 hrow hOA;refine wpAnyH_ready (rs:=[6]) (by kernel_rfl) (by simp) ?_;refine AllReadyH.cons (o:=_) rfl (fun K hK=>?_) AllReadyH.nil;have hcall:=CheckD_p wC _ _ dC (dX++[dBad]) (HG.out.mono (HB_w11.out.trans (hH3.mono HB_w11.out.size))) (HC.out.mono hH3) HXC.out dXb_fit;rw [d_check] at hcall;go_simp;go_at_call 13
  refine hcall.mono ?_;clear hcall;rintro e wD ⟨rfl,hbD⟩;go_wp2_with fail
  refine hK.out _ _ ?_ (fun hH4=>?_)
  ·exact hH3.trans (hbD.mono hH3.size)
  try simp only [tkS,Act.put]
  clear hK K;refine tkBDuI 7 hH4 rfl ?_;try simp only [tkS,Act.put]
  refine tkBDuI 8 hH4 rfl ?_;try simp only [tkS,Act.put]
  refine tkBDuI 9 hH4 rfl ?_;try simp only [tkS,Act.put]
  refine tkBDuI 10 hH4 rfl ?_;try simp only [tkS,Act.put]
  refine tkBDuI 11 hH4 rfl ?_;try simp only [tkS,Act.put]
  refine wpAnyH_done (by kernel_rfl) ?_ _;have HB_wD:Hid (Below w.heap.size w wD):=zh (HB_w11.out.trans (hH4.mono HB_w11.out.size));have HC:=zh (HC.out.mono hH4);have HX:=zh (HX.out.mono hH4);have HO:=zh (below_blk hH4 HO.out);have HZ:=zh (HZ.out.mono hH4);have HOZ:=zh (below_blk hH4 HOZ.out);have HL:=zh (HL.out.mono hH4);have HV:=zh (HV.out.mono hH4);have hg1:g1 < wD.heap.size:=heap_lt HO.out;have hg3:g3 < wD.heap.size:=heap_lt HOZ.out;clear hH0 hH1 hH2 hH3 hH4 hbA hbC hbD HXC hb HB_w11;generalize wA.heap.size=gA at *;clear wA;go_wp2_with fail
  have hbE:Below wD.heap.size wD (wD.alloc (.cells #[.string ⟨#[120,47,111,117,116]⟩,.string ⟨#[120,47,102]⟩,.string ⟨#[97]⟩,.string ⟨#[]⟩,.int .i64 1,.int .i64 0,.int .i64 0] 63)):=zb;have hdu:=due_one wD dDue ⟨by decide,by decide,by decide,by decide,by unfold inI64;decide,by unfold inI64;decide,by unfold inI64;decide⟩;refine (EqualDue_p _ _ _ [dDue] [dDue] (HL.out.mono hbE) hdu).mono ?_;rw [decide_eq_true (rfl:[dDue]=[dDue])];rintro e wE ⟨rfl,hb⟩;have hb1:=hbE.trans (hb.mono hbE.size);have HB_wE:Hid (Below w.heap.size w wE):=zh (HB_wD.out.trans (hb1.mono HB_wD.out.size));have HC:=zh (HC.out.mono hb1);have HX:=zh (HX.out.mono hb1);have HO:=zh (below_blk hb1 HO.out);have HZ:=zh (HZ.out.mono hb1);have HOZ:=zh (below_blk hb1 HOZ.out);have HV:=zh (HV.out.mono hb1);clear hb hb1 hbE hdu HL HB_wD hg1 hg3;go_wp2_with fail
  have hbE:Below wE.heap.size wE (wE.alloc (.cells #[.string ⟨#[120,47,111,117,116]⟩] 9)):=zb;refine (EqualS_p _ _ _ [dOut] [dOut] (HV.out.mono hbE) (str_one wE dOut (by decide))).mono ?_;rw [decide_eq_true (rfl:[dOut]=[dOut])];rintro e wF ⟨rfl,hb⟩;have hb1:=hbE.trans (hb.mono hbE.size);have HB_wF:Hid (Below w.heap.size w wF):=zh (HB_wE.out.trans (hb1.mono HB_wE.out.size));have HC:=zh (HC.out.mono hb1);have HX:=zh (HX.out.mono hb1);have HO:=zh (below_blk hb1 HO.out);have HZ:=zh (HZ.out.mono hb1);have HOZ:=zh (below_blk hb1 HOZ.out);have hg1:g1 < wF.heap.size:=heap_lt HO.out;have hg3:g3 < wF.heap.size:=heap_lt HOZ.out;clear hb hb1 hbE HV HB_wE;have d0:=objcell HO.out (j:=0) rfl;have d1:=objcell HO.out (j:=1) rfl;have d2:=objcell HO.out (j:=2) rfl;have d3:=objcell HO.out (j:=3) rfl;have e0:=objcell HOZ.out (j:=0) rfl;have e1:=objcell HOZ.out (j:=1) rfl;go_wp2_with fail
  have hcall:=CheckChoice_p wF _ _ _ dC dX dY3 false (HG.out.mono HB_wF.out) HC.out HX.out HZ.out dX_fit;rw [d_choice] at hcall;refine hcall.mono ?_;rintro e wG ⟨rfl,hb⟩;have HB_wG:Hid (Below w.heap.size w wG):=zh (HB_wF.out.trans (hb.mono HB_wF.out.size));have HZ:=zh (HZ.out.mono hb);have HOZ:=zh (below_blk hb HOZ.out);clear hb HB_wF hcall d0 d1 d2 d3 e0 e1 hg1 hg3;have e1:=objcell HOZ.out (j:=1) rfl;have hg3:g3 < wG.heap.size:=heap_lt HOZ.out;have hown:Is wG (.slice a4 1 c4) [dB]:=by
   obtain ⟨_,_,_,_,he,-,-,-,h1,h2,h3⟩:=Choice.inv (te0:=[[⟨dB,dE⟩]]) (ow1:=[dB]) HZ.out;simp only [Value.agg.injEq,Array.mk.injEq,List.cons.injEq,Value.slice.injEq,and_true,List.length_cons,List.length_nil,Nat.zero_add,true_and] at he;obtain ⟨-,rfl,rfl⟩:=he;exact list_mk (xs:=[dB]) h1 h2 h3
  go_wp2_with fail
  have hbE:Below wG.heap.size wG (wG.alloc (.cells #[.string ⟨#[98]⟩] 9)):=zb;refine (EqualS_p _ _ _ [dB] [dB] (hown.mono hbE) (str_one wG dB (by decide))).mono ?_;rw [decide_eq_true (rfl:[dB]=[dB])];rintro e wH ⟨rfl,hb⟩;have hb1:=hbE.trans (hb.mono hbE.size);have HB_wH:Hid (Below w.heap.size w wH):=zh (HB_wG.out.trans (hb1.mono HB_wG.out.size));clear hb hb1 hbE HZ HOZ HB_wG e1 hg3;go_wp2;go_ret;exact ⟨by first | rfl | trivial | simp,HB_wH.out⟩
 ·go_simp;go_wp2_with fail
  refine hK.out _ _ ?_ (fun hH1=>?_)
  ·exact hH0.trans ((zb:Below wd.heap.size wd (wd.alloc (.cells #[.int .i64 9,.string ⟨#[]⟩,.string ⟨#[]⟩,.int .i64 0,.int .i64 0,.int .i64 0,.bool false,.int .i64 0,.string ⟨#[]⟩,.string ⟨#[]⟩,.slice none 0 0,.slice none 0 0] 70))).mono hH0.size)
  try simp only [tkS,Act.put]
  clear hK K;have hOA:=World.alloc_heap_new wd (.cells #[.int .i64 9,.string ⟨#[]⟩,.string ⟨#[]⟩,.int .i64 0,.int .i64 0,.int .i64 0,.bool false,.int .i64 0,.string ⟨#[]⟩,.string ⟨#[]⟩,.slice none 0 0,.slice none 0 0] 70);generalize (wd.alloc (.cells #[.int .i64 9,.string ⟨#[]⟩,.string ⟨#[]⟩,.int .i64 0,.int .i64 0,.int .i64 0,.bool false,.int .i64 0,.string ⟨#[]⟩,.string ⟨#[]⟩,.slice none 0 0,.slice none 0 0] 70))=wB at *;refine wpAnyH_ready (rs:=[2]) (by kernel_rfl) (by simp) ?_;refine AllReadyH.cons (o:=_) rfl (fun K hK=>?_) AllReadyH.nil;go_simp;go_at_call 40
  refine (CloneFact_p _ _ dX (HX.out.mono hH1) (by decide) (by decide)).mono ?_;rintro e wA ⟨v',rfl,hrow,hb⟩;go_wp2_with fail
  refine hK.out _ _ ?_ (fun hH2=>?_)
  ·exact hH1.trans (hb.mono hH1.size)
  try simp only [tkS,Act.put]
  clear hK K;have hOA:=below_blk hb hOA;generalize wd.heap.size=gA at *;refine wpAnyH_ready (rs:=[5]) (by kernel_rfl) (by simp) ?_;refine AllReadyH.cons (o:=_) rfl (fun K hK=>?_) AllReadyH.nil;refine step_appFa (by rfl) _ _ (by rfl) wB.heap.size wB v' dX dBad gA [.int .i64 9,.string ⟨#[]⟩,.string ⟨#[]⟩,.int .i64 0,.int .i64 0,.int .i64 0,.bool false,.int .i64 0,.string ⟨#[]⟩,.string ⟨#[]⟩,.slice none 0 0,.slice none 0 0] (by rfl) (by rfl) rfl hOA (fun u hu=>by simp at hu;rcases hu with rfl | rfl | rfl | rfl | rfl | rfl | rfl | rfl | rfl <;> rfl) (fun W _=>dBad_is W) hrow (by decide) hb.size (Nat.le_refl _) hb ?_;intro v'' wC hrow2 hbC hbC2;have HXC:=zh (hrow2.is hbC);refine hK.out _ _ ?_ (fun hH3=>?_)
  ·exact hH1.trans (hbC.mono hH1.size)
  try simp only [tkS,Act.put]
  clear hK K;clear hrow2 hbC2 hrow hOA;refine wpAnyH_ready (rs:=[6]) (by kernel_rfl) (by simp) ?_;refine AllReadyH.cons (o:=_) rfl (fun K hK=>?_) AllReadyH.nil;have hcall:=CheckD_p wC _ _ dC (dX++[dBad]) (HG.out.mono (HB_w11.out.trans (hH3.mono HB_w11.out.size))) (HC.out.mono hH3) HXC.out dXb_fit;rw [d_check] at hcall;go_simp;go_at_call 13
  refine hcall.mono ?_;clear hcall;rintro e wD ⟨rfl,hbD⟩;go_wp2_with fail
  refine hK.out _ _ ?_ (fun hH4=>?_)
  ·exact hH3.trans (hbD.mono hH3.size)
  try simp only [tkS,Act.put]
  clear hK K;refine tkBDuI 7 hH4 rfl ?_;try simp only [tkS,Act.put]
  refine tkBDuI 8 hH4 rfl ?_;try simp only [tkS,Act.put]
  refine tkBDuI 9 hH4 rfl ?_;try simp only [tkS,Act.put]
  refine tkBDuI 10 hH4 rfl ?_;try simp only [tkS,Act.put]
  refine tkBDuI 11 hH4 rfl ?_;try simp only [tkS,Act.put]
  refine wpAnyH_done (by kernel_rfl) ?_ _;have HB_wD:Hid (Below w.heap.size w wD):=zh (HB_w11.out.trans (hH4.mono HB_w11.out.size));have HC:=zh (HC.out.mono hH4);have HX:=zh (HX.out.mono hH4);have HO:=zh (below_blk hH4 HO.out);have HZ:=zh (HZ.out.mono hH4);have HOZ:=zh (below_blk hH4 HOZ.out);have HL:=zh (HL.out.mono hH4);have HV:=zh (HV.out.mono hH4);have hg1:g1 < wD.heap.size:=heap_lt HO.out;have hg3:g3 < wD.heap.size:=heap_lt HOZ.out;clear hH0 hH1 hH2 hH3 hH4 hbC hbD HXC hb HB_w11;go_wp2_with fail
  have hbE:Below wD.heap.size wD (wD.alloc (.cells #[.string ⟨#[120,47,111,117,116]⟩,.string ⟨#[120,47,102]⟩,.string ⟨#[97]⟩,.string ⟨#[]⟩,.int .i64 1,.int .i64 0,.int .i64 0] 63)):=zb;have hdu:=due_one wD dDue ⟨by decide,by decide,by decide,by decide,by unfold inI64;decide,by unfold inI64;decide,by unfold inI64;decide⟩;refine (EqualDue_p _ _ _ [dDue] [dDue] (HL.out.mono hbE) hdu).mono ?_;rw [decide_eq_true (rfl:[dDue]=[dDue])];rintro e wE ⟨rfl,hb⟩;have hb1:=hbE.trans (hb.mono hbE.size);have HB_wE:Hid (Below w.heap.size w wE):=zh (HB_wD.out.trans (hb1.mono HB_wD.out.size));have HC:=zh (HC.out.mono hb1);have HX:=zh (HX.out.mono hb1);have HO:=zh (below_blk hb1 HO.out);have HZ:=zh (HZ.out.mono hb1);have HOZ:=zh (below_blk hb1 HOZ.out);have HV:=zh (HV.out.mono hb1);clear hb hb1 hbE hdu HL HB_wD hg1 hg3;go_wp2_with fail
  have hbE:Below wE.heap.size wE (wE.alloc (.cells #[.string ⟨#[120,47,111,117,116]⟩] 9)):=zb;refine (EqualS_p _ _ _ [dOut] [dOut] (HV.out.mono hbE) (str_one wE dOut (by decide))).mono ?_;rw [decide_eq_true (rfl:[dOut]=[dOut])];rintro e wF ⟨rfl,hb⟩;have hb1:=hbE.trans (hb.mono hbE.size);have HB_wF:Hid (Below w.heap.size w wF):=zh (HB_wE.out.trans (hb1.mono HB_wE.out.size));have HC:=zh (HC.out.mono hb1);have HX:=zh (HX.out.mono hb1);have HO:=zh (below_blk hb1 HO.out);have HZ:=zh (HZ.out.mono hb1);have HOZ:=zh (below_blk hb1 HOZ.out);have hg1:g1 < wF.heap.size:=heap_lt HO.out;have hg3:g3 < wF.heap.size:=heap_lt HOZ.out;clear hb hb1 hbE HV HB_wE;have d0:=objcell HO.out (j:=0) rfl;have d1:=objcell HO.out (j:=1) rfl;have d2:=objcell HO.out (j:=2) rfl;have d3:=objcell HO.out (j:=3) rfl;have e0:=objcell HOZ.out (j:=0) rfl;have e1:=objcell HOZ.out (j:=1) rfl;go_wp2_with fail
  have hcall:=CheckChoice_p wF _ _ _ dC dX dY3 false (HG.out.mono HB_wF.out) HC.out HX.out HZ.out dX_fit;rw [d_choice] at hcall;refine hcall.mono ?_;rintro e wG ⟨rfl,hb⟩;have HB_wG:Hid (Below w.heap.size w wG):=zh (HB_wF.out.trans (hb.mono HB_wF.out.size));have HZ:=zh (HZ.out.mono hb);have HOZ:=zh (below_blk hb HOZ.out);clear hb HB_wF hcall d0 d1 d2 d3 e0 e1 hg1 hg3;have e1:=objcell HOZ.out (j:=1) rfl;have hg3:g3 < wG.heap.size:=heap_lt HOZ.out;have hown:Is wG (.slice a4 1 c4) [dB]:=by
   obtain ⟨_,_,_,_,he,-,-,-,h1,h2,h3⟩:=Choice.inv (te0:=[[⟨dB,dE⟩]]) (ow1:=[dB]) HZ.out;simp only [Value.agg.injEq,Array.mk.injEq,List.cons.injEq,Value.slice.injEq,and_true,List.length_cons,List.length_nil,Nat.zero_add,true_and] at he;obtain ⟨-,rfl,rfl⟩:=he;exact list_mk (xs:=[dB]) h1 h2 h3
  go_wp2_with fail
  have hbE:Below wG.heap.size wG (wG.alloc (.cells #[.string ⟨#[98]⟩] 9)):=zb;refine (EqualS_p _ _ _ [dB] [dB] (hown.mono hbE) (str_one wG dB (by decide))).mono ?_;rw [decide_eq_true (rfl:[dB]=[dB])];rintro e wH ⟨rfl,hb⟩;have hb1:=hbE.trans (hb.mono hbE.size);have HB_wH:Hid (Below w.heap.size w wH):=zh (HB_wG.out.trans (hb1.mono HB_wG.out.size));clear hb hb1 hbE HZ HOZ HB_wG e1 hg3;go_wp2;go_ret;exact ⟨by first | rfl | trivial | simp,HB_wH.out⟩
end Go.Proofs.YtcbopdbbcgdkcaaGreatDoor
