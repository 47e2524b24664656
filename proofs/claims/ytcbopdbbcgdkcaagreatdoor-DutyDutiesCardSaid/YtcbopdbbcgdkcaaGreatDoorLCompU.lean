/- Lemmas. -/
import Derived.Test.YtcbopdbbcgdkcaaGreatDoorLEntU
import Derived.Test.YtcbopdbbcgdkcaaGreatDoorLLiftU
set_option linter.all false
set_option maxRecDepth 100000
set_option maxHeartbeats 16000000
namespace Go.Proofs.YtcbopdbbcgdkcaaGreatDoor
open Go Go.RowKit Go.ChangeShapes Go.Sort

def Elt (α:Type) [Lay α] (B:Nat) (E:TypeId→Prop) (w:World):Type :=
 { p:Value×List α // p.1.oneCell'=true∧∀ w',Agree B E w w'→Is w' p.1 p.2 }
instance {α:Type} [Lay α] {B:Nat} {E:TypeId→Prop} {w:World}:Inhabited (Elt α B E w):=⟨⟨(.slice none 0 0,[]),rfl,fun w' _=>nil_mk w'⟩⟩
def Elt.enc {α:Type} [Lay α] {B:Nat} {E:TypeId→Prop} {w:World} (x:Elt α B E w):Value:=x.1.1
def Elt.dat {α:Type} [Lay α] {B:Nat} {E:TypeId→Prop} {w:World} (x:Elt α B E w):List α:=x.1.2
theorem putRow_heap {β:Type} [Inhabited β] (enc:β→Value) (w:World) (g:Nat) (d:Array β) {cur:Array Value} {e:TypeId} {fr:Nat×Nat} (h:w.heap[g]?=some (.cells cur e fr)) :
  (putRow enc w g 0 d).heap[g]?=some (.cells (putCells enc 0 d cur) e fr):=by
 unfold putRow mapBlock;simp only [Array.getElem?_modify,if_pos rfl,h];rfl
theorem putRow_heap_other {β:Type} [Inhabited β] (enc:β→Value) (w:World) (g i:Nat) (d:Array β) (h:i≠g):(putRow enc w g 0 d).heap[i]?=w.heap[i]?:=by
 unfold putRow mapBlock;simp only [Array.getElem?_modify,if_neg (Ne.symm h)]
theorem size_putRow1 {β:Type} [Inhabited β] (enc:β→Value) (w:World) (g:Nat) (d:Array β):(putRow enc w g 0 d).heap.size=w.heap.size:=by
 unfold putRow mapBlock;simp
theorem sortWorld_heap {β:Type} [Inhabited β] (enc:β→Value) (w:World) (g m:Nat) (d:Array β) (os:Array Obj) {i:Nat} (hi:i < w.heap.size) :
  (sortWorld enc w g 0 m d os).heap[i]?=(putRow enc w g 0 d).heap[i]?:=by
 unfold sortWorld;rw [heap_grow_old _ _ (by rw [size_putRow1];exact hi)];rfl
theorem sortWorld_size {β:Type} [Inhabited β] (enc:β→Value) (w:World) (g m:Nat) (d:Array β) (os:Array Obj):w.heap.size≤(sortWorld enc w g 0 m d os).heap.size:=by
 unfold sortWorld;rw [size_grow,size_putRow1];exact Nat.le_add_right _ _
theorem putCells_take1 {β:Type} [Inhabited β] (enc:β→Value) (d:Array β) (cur:Array Value) (hc:d.size≤cur.size):(putCells enc 0 d cur).toList.take d.size=d.toList.map enc:=by
 refine List.ext_getElem? fun t=>?_;rw [List.getElem?_take];by_cases ht:t < d.size
 ·rw [if_pos ht];simp only [putCells,Array.toList_mapIdx,List.getElem?_mapIdx,Array.getElem?_toList,List.getElem?_map];rw [Array.getElem?_eq_getElem (by omega:t < cur.size),Array.getElem?_eq_getElem ht];simp [ht,getElem!_pos d t ht]
 ·rw [if_neg ht,List.getElem?_eq_none (by simp;omega)]
theorem OwnL.sorted1 {α:Type} [Lay α] {B:Nat} {E:TypeId→Prop} {e:TypeId} {w:World} {v:Value} {xs:List (List α)} (h:OwnL B E e w v xs) (hE:E e) (hne:xs≠[]) :
  ∃ g cap,∃ d:Array (Elt α B E w),v=.slice (some ⟨g,0,none⟩) d.size cap∧g < w.heap.size∧B≤g∧d.toList.map Elt.dat=xs∧Holds Elt.enc w g 0 d ∧
   (∀ (d':Array (Elt α B E w)) (m:Nat) (os:Array Obj),Agree B (·=e) w (sortWorld Elt.enc w g 0 m d' os)) ∧
   ∀ (d':Array (Elt α B E w)) (m:Nat) (os:Array Obj),d'.toList.Perm d.toList→OwnL B E e (sortWorld Elt.enc w g 0 m d' os) v (d'.toList.map Elt.dat) ∧
    Below B w (sortWorld Elt.enc w g 0 m d' os):=by
 obtain ⟨ys,h1,⟨h2,h2'⟩,h3⟩:=h;rcases h2' with ⟨_,h0⟩ | ⟨g,cap,cur,rfl,hB,hh,hn',hc,hsz,ht⟩
 ·exact absurd (List.length_eq_zero_iff.1 h0) hne
 have hn1:Lay.n (List α)=1:=rfl;rw [hn1] at hsz ht;have hcs:xs.length≤cur.size:=by omega
 have hg:g < w.heap.size:=by
  rcases Nat.lt_or_ge g w.heap.size with h | h
  ·exact h
  ·rw [Array.getElem?_eq_none h] at hh;cases hh
 have hd0:∃ l:List (Elt α B E w),l.map Elt.dat=xs∧l.map (fun x=>[Elt.enc x])=ys:=by
  have aux:∀ (xs:List (List α)) (ys:List (List Value)),ys.length=xs.length→(∀ (i:Nat) (y:List Value) (x:List α),ys[i]?=some y→xs[i]?=some x→∃ z:Elt α B E w,z.dat=x∧[z.enc]=y)→∃ l:List (Elt α B E w),l.map Elt.dat=xs∧l.map (fun x=>[Elt.enc x])=ys:=by
   intro xs;induction xs with
   | nil=>intro ys hl _;exact ⟨[],rfl,by simpa using (List.length_eq_zero_iff.1 hl).symm⟩
   | cons x r ih =>
    intro ys hl hy;match ys,hl with
    | y :: s,hl =>
     obtain ⟨z,z1,z2⟩:=hy 0 y x rfl rfl;obtain ⟨l,la,lb⟩:=ih s (by simpa using hl) (fun i y' x' hy' hx'=>hy (i+1) y' x' (by simpa using hy') (by simpa using hx'));exact ⟨z :: l,by simp [la,z1],by simp [lb,z2]⟩
  refine aux xs ys h1 fun i y x hy hx=>?_;obtain ⟨hl,hr⟩:=h3 i y x hy hx;match y,hl with
  | [u],_ =>
   refine ⟨⟨(u,x),?_,fun w' hw=>?_⟩,rfl,rfl⟩
   ·obtain ⟨a,c,h0,-⟩:=hr w (Agree.refl _ _ _);simp at h0;subst h0;rfl
   ·exact ⟨#[u],rfl,rfl,Lay.congr (fun j _=>by simp) (hr w' hw)⟩
 obtain ⟨l,la,lb⟩:=hd0;have hll:l.length=xs.length:=by rw [← la];simp
 have hag:∀ (d':Array (Elt α B E w)) (m:Nat) (os:Array Obj),Agree B (·=e) w (sortWorld Elt.enc w g 0 m d' os):=by
  intro d' m os;refine ⟨sortWorld_size _ _ _ _ _ _,fun k hk' hc'=>?_⟩;rw [sortWorld_heap _ _ _ _ _ _ hk'];refine putRow_heap_other _ _ _ _ _ ?_;rintro rfl;rcases hc' with hc' | hc'
  ·omega
  ·exact hc' ⟨_,_,_,rfl,hh⟩
 have hfl:∀ l:List (Elt α B E w),(l.map (fun x=>[Elt.enc x])).flatten=l.map Elt.enc:=by
  intro l;induction l with
  | nil=>rfl
  | cons a r ih=>simp [ih]
 refine ⟨g,cap,l.toArray,by simp [hll],hg,hB,by simpa using la,?_,hag,?_⟩
 ·intro j hj;have hj':j < xs.length:=by simpa [hll] using hj
  refine ⟨?_,?_⟩
  ·simp only [World.cell?,hh];have e2:(cur.toList.take (xs.length * 1))[j]?=(l.map Elt.enc)[j]?:=by rw [ht,← lb,hfl]
   rw [List.getElem?_take,if_pos (by omega),List.getElem?_map] at e2;have hjl:j < l.length:=by omega
   rw [List.getElem?_eq_getElem hjl] at e2;rw [getElem!_pos l.toArray j hj,Nat.zero_add];simpa using e2
  ·simp [World.frozen?,hh]
 ·intro d' m os hp;have hlen':d'.size=xs.length:=by have:=hp.length_eq;simpa [hll] using this
  refine ⟨⟨d'.toList.map (fun x=>[Elt.enc x]),by simp,?_,?_⟩,?_⟩
  ·refine ⟨by rw [hfl];simp [hn1],.inr ⟨g,cap,putCells Elt.enc 0 d' cur,by simp [hlen'],hB,?_,by simpa [hlen'] using hn',hc,by rw [putCells_size,hn1];exact hsz,?_⟩⟩
   ·rw [sortWorld_heap _ _ _ _ _ _ hg];exact putRow_heap _ _ _ _ hh
   ·rw [hfl,hn1];have:=putCells_take1 Elt.enc d' cur (by omega);simpa using this
  ·intro i y x hy hx;obtain ⟨hi,rfl⟩:=List.getElem?_eq_some_iff.1 hy;obtain ⟨hi2,rfl⟩:=List.getElem?_eq_some_iff.1 hx;simp only [List.getElem_map];have hz:=(d'.toList[i]'(by simpa using hi)).2.2;refine ⟨rfl,fun w' hw=>?_⟩;obtain ⟨cs,c1,c2,c3⟩:=hz w' (((hag d' m os).mono (fun x hx=>hx ▸ hE)).trans hw);refine Lay.congr (fun j hj=>?_) c3;have hj0:j=0:=by have:j < 1:=hj;omega
   subst hj0;have c1':cs.size=1:=c1;have e3:Elt.enc (d'.toList[i]'(by simpa using hi))=cs.getD 0 undef:=c2;show cs[0]?=[Elt.enc (d'.toList[i]'(by simpa using hi))][0]?;rw [e3,Array.getD_eq_getD_getElem?,Array.getElem?_eq_getElem (by omega)];rfl
  ·refine ⟨rfl,rfl,rfl,sortWorld_size _ _ _ _ _ _,fun k hk'=>?_⟩;rcases Nat.lt_or_ge k w.heap.size with hkw | hkw
   ·rw [sortWorld_heap _ _ _ _ _ _ hkw];exact putRow_heap_other _ _ _ _ _ (by omega)
   ·omega
open Go.Lib

theorem TO.swo {α β:Type} {c:α→α→Int} (S:TO c) (f:β→α):SWO (ltOf fun x y=>c (f x) (f y)):=by
 refine ⟨fun x=>?_,fun x y z h k=>?_,fun x y z h k=>?_⟩
 ·show decide (c (f x) (f x) < 0)=false;exact decide_eq_false (S.irr _)
 ·exact decide_eq_true (S.tr _ _ _ (of_decide_eq_true h) (of_decide_eq_true k))
 ·have h1:¬ c (f x) (f y) < 0:=of_decide_eq_false h;have h2:¬ c (f y) (f z) < 0:=of_decide_eq_false k;have e1:=S.sw (f x) (f y);have e2:=S.sw (f y) (f z);have h3:=S.le_tr (a:=f z) (b:=f y) (d:=f x) (by omega) (by omega);have e3:=S.sw (f x) (f z);show decide (c (f x) (f z) < 0)=false;exact decide_eq_false (by omega)
theorem sorted_dat {α β:Type} [Inhabited β] {c:α→α→Int} (S:TO c) {f:β→α} {d d':Array β} {xs:List α} (hd:d.toList.map f=xs) (hp:d'.toList.Perm d.toList) (hs:SortedIn (ltOf fun x y=>c (f x) (f y)) 0 d.size d') (hz:d'.size=d.size) :
  d'.toList.map f=sortS (ltC c) xs:=by
 refine sort_unique S (by rw [← hd];exact hp.map _) ?_;rw [List.pairwise_map,List.pairwise_iff_getElem];intro i j hi hj hij;have h1:=hs i j (Nat.zero_le _) hij (by simpa [hz] using hj);rw [getElem!_pos d' j (by simpa using hj),getElem!_pos d' i (by simpa using hi)] at h1;have h2:¬ c (f d'[j]) (f d'[i]) < 0:=of_decide_eq_false h1;have:=S.sw (f d'[j]) (f d'[i]);simp only [Array.getElem_toList];omega
theorem perm_of {β:Type} {d d':Array β} (h:d'.size=d.size) (hp:(d'.extract 0 d.size).toList.Perm (d.extract 0 d.size).toList):d'.toList.Perm d.toList:=by
 have e1:∀ (a:Array β) (n:Nat),n=a.size→(a.extract 0 n).toList=a.toList:=by intro a n hn;subst hn;simp
 rw [e1 d' _ h.symm,e1 d _ rfl] at hp;exact hp
def encTh (x:Term×Hd):List Value:=[.string x.1.license,.string x.1.exception]
theorem ofTerm (w:World) (y:List Value) (x:Term) (hl:y.length=Lay.n Term) (h:Lay.is w (fun j=>y[j]?) x):∃ hd,y=encTh (x,hd):=by
 obtain ⟨g0,g1,-⟩:=Term.is_iff.1 h;refine ⟨(none,0,0),list_of (n:=2) hl rfl fun j hj=>?_⟩;match j,hj with
 | 0,_=>exact g0
 | 1,_=>exact g1
theorem ownT_row {B:Nat} {E:TypeId→Prop} {w:World} {v:Value} {xs:List Term} (h:OwnL B E 61 w v xs):RowT B w v xs:=by
 have hi:=h.is;obtain ⟨ys,h1,h2,h3⟩:=h;have e:ys=xs.map encT:=by
  refine List.ext_getElem? fun i=>?_;rw [List.getElem?_map];by_cases hi:i < xs.length
  ·obtain ⟨x,hx⟩:=get_lt hi;obtain ⟨y,hy⟩:=get_lt (xs:=ys) (k:=i) (by omega);obtain ⟨hl,hs⟩:=h3 i y x hy hx;obtain ⟨hd,rfl⟩:=ofTerm w y x hl (hs w (Agree.refl _ _ _));rw [hx,hy];rfl
  ·rw [List.getElem?_eq_none (by omega),List.getElem?_eq_none (by omega)];rfl
 subst e;refine ⟨h2,fun x hx=>?_⟩;obtain ⟨i,hi,rfl⟩:=List.mem_iff_getElem.1 hx;obtain ⟨hl,hs⟩:=h3 i (encT xs[i]) xs[i] (by rw [List.getElem?_map,List.getElem?_eq_getElem hi];rfl) (List.getElem?_eq_getElem hi);exact (Term.is_iff.1 (hs w (Agree.refl _ _ _))).2.2
theorem sortNilTerm (a:Option Addr) (c:Nat) (w:World) (fv:Value):Calls Tryz.prog 257 #[.slice a 0 c,.int .i64 0,.int .i64 0,.int .i64 0,fv] w fun e w'=>e=.returned (.tuple #[])∧w'=w :=
 AnyF.pdqsortCmpFunc_none Tryz.pdqTerm a c 0 fv w
theorem SortTerm_p {B:Nat} {w:World} {v:Value} {xs:List Term} (h:RowT B w v xs) (hlen:xs.length < 4611686018427387904) :
  Calls Tryz.prog 222 #[v,.func (.func 88) #[] #[]] w fun e w'=>e=.returned (.tuple #[])∧RowT B w' v (sortS (ltC tcmp) xs)∧Below B w w':=by
 by_cases hne:xs=[]
 ·subst hne;obtain ⟨a,c,rfl⟩:=h.shape;have hb:=Tryz.bits_Len 0 w (by decide) (by decide);have hl0:Lib.bitLen ((0:Int).toNat)=0:=by decide
  rw [hl0] at hb;have hn:=sortNilTerm a c w (.func (.func 88) #[] #[]);have H:=zh h;clear h hl0;go_enter Tryz.func222,Tryz.ntmps222;go_wp2_with fail
  refine hb.mono ?_;rintro e w1 ⟨rfl,rfl⟩;go_wp2_with fail
  refine hn.mono ?_;rintro e w2 ⟨rfl,rfl⟩;go_wp2;go_end0
  exact ⟨rfl,H.out,Below.refl _ _⟩
 ·obtain ⟨g,cap,d,rfl,hg,hB,hd,hH,hpost⟩:=(h.own fun _=>True).sorted trivial encTh (fun _=>rfl) (by decide) ofTerm hne;have hds:d.size=xs.length:=by rw [← hd];simp
  have h62:d.size < 4611686018427387904:=by omega
  have hlim:Lib.bitLen d.size < 4611686018427387904:=Nat.lt_of_le_of_lt (Lib.bitLen_le d.size 62 (by omega) (by omega)) (by omega);have hO:=tcmp_to.swo (Prod.fst:Term×Hd→Term)
  have hp:=AnyQ.pdqsortCmpFunc_all Tryz.pdqTerm (Lay.n Term) Tryz.isAgg61 Tryz.sizeOf61 encTh (fun x y=>tcmp x.1 y.1) 88 #[] hO g 0 cap d w
   (enters_of Tryz.func88 (by kernel_rfl) rfl) (fun _ _ _ _ x y=>(compareTerms_p x.1 y.1 _).mono fun _ _ h=>h)
   ⟨fun _=>rfl,fun x v hv=>by simp [encTh] at hv;rcases hv with rfl | rfl <;> rfl,hH,hg⟩ (d.size+1) 0 d.size (Lib.bitLen d.size) d w (by omega) rfl (SWK.start hH) (Nat.zero_le _) (Nat.le_refl _) h62 hlim (Or.inl rfl)
  have hs:=pdq_sorts (ltOf fun (x y:Term×Hd)=>tcmp x.1 y.1) hO d 0 d.size (Lib.bitLen d.size) true true (Nat.zero_le _) (Nat.le_refl _) (Or.inl rfl);have hb:=Tryz.bits_Len (d.size:Int) w (by omega) (by omega);rw [Int.toNat_natCast] at hb;have HP:=zh hpost;have HS:=zh hs;have HD:=zh hd;generalize pdq (ltOf fun (x y:Term×Hd)=>tcmp x.1 y.1) d 0 d.size (Lib.bitLen d.size) true true=d' at *;have wr:IntKind.u64.wrap (d.size:Int)=d.size:=by simp [IntKind.wrap,IntKind.bits,IntKind.signed];omega
  clear hpost hs hd hH h hO hds hne;generalize hbl:Lib.bitLen d.size=bl at *;clear hbl;generalize hdz:d.size=n at *;have HZ:=zh hdz;clear hdz;go_enter Tryz.func222,Tryz.ntmps222;go_wp2_with fail
  refine hb.mono ?_;rintro e w1 ⟨rfl,rfl⟩;go_wp2_with fail
  refine hp.mono ?_;rintro e w2 ⟨rfl,m,os,rfl⟩;have HS2:=HS.out;rw [← HZ.out] at HS2;have hperm:=perm_of HS2.1.1 HS2.1.2.2;obtain ⟨p1,p2,p3⟩:=HP.out d' m os hperm;rw [sorted_dat tcmp_to HD.out hperm HS2.2 HS2.1.1] at p1;clear hp hb wr;go_wp2;go_end0
  exact ⟨rfl,ownT_row p1,p2⟩
theorem elt_one {α:Type} [Lay α] {B:Nat} {E:TypeId→Prop} {w:World}:OneCell (Elt.enc (α:=α) (B:=B) (E:=E) (w:=w)):=fun x=>x.2.1

theorem compact_eq {α:Type} [DecidableEq α] {a b:α} (r:List α) (h:a=b):compact (a :: b :: r)=compact (b :: r):=by rw [compact,if_pos h]
theorem compact_ne {α:Type} [DecidableEq α] {a b:α} (r:List α) (h:¬ a=b):compact (a :: b :: r)=a :: compact (b :: r):=by rw [compact,if_neg h]
theorem compact_head {α:Type} [DecidableEq α]:∀ (r:List α) (a:α),compact (a :: r)=a :: (compact (a :: r)).tail
 | [],a=>by simp [compact]
 | b :: r,a=>by
  by_cases h:a=b
  ·subst h;rw [compact_eq r rfl];exact compact_head r a
  ·rw [compact_ne r h];rfl
def Upto1 {α:Type} [DecidableEq α] (xs:List α) (k:Nat):Prop:=compact xs=xs.take k++compact (xs.drop k)
theorem upto_step {α:Type} [DecidableEq α] {xs:List α} {k:Nat} {a b:α} (h:Upto1 xs k) (ha:xs[k]?=some a) (hb:xs[k+1]?=some b) (hn:¬ a=b):Upto1 xs (k+1):=by
 unfold Upto1 at *;rw [h,drop_at ha,drop_at hb,compact_ne _ hn,take_at ha];simp
theorem upto_last {α:Type} [DecidableEq α] {xs:List α} {k:Nat} {a:α} (h:Upto1 xs k) (ha:xs[k]?=some a) (hk:k+1=xs.length):compact xs=xs:=by
 unfold Upto1 at h;rw [h,drop_at ha,hk,List.drop_length,show compact [a]=[a] from by simp [compact]];have:=take_at ha;rw [hk,List.take_length] at this;exact this.symm
def Seen1 {α:Type} [DecidableEq α] (xs ys:List α) (k m:Nat):Prop:=compact xs=ys.take k++(compact (xs.drop m)).tail∧ys.drop m=xs.drop m∧ys.length=xs.length
theorem seen_start {α:Type} [DecidableEq α] {xs:List α} {k:Nat} {a b:α} (h:Upto1 xs k) (ha:xs[k]?=some a) (hb:xs[k+1]?=some b) (hn:a=b):Seen1 xs xs (k+1) (k+1):=by
 refine ⟨?_,rfl,rfl⟩;unfold Upto1 at h;subst hn;rw [h,drop_at ha,drop_at hb,compact_eq _ rfl,take_at ha];conv=>lhs;rw [compact_head]
 simp
theorem seen_skip {α:Type} [DecidableEq α] {xs ys:List α} {k m:Nat} {a b:α} (h:Seen1 xs ys k m) (ha:xs[m]?=some a) (hb:xs[m+1]?=some b) (hn:a=b):Seen1 xs ys k (m+1):=by
 obtain ⟨h1,h2,h3⟩:=h;refine ⟨?_,by rw [← List.drop_drop,h2,List.drop_drop],h3⟩;subst hn;rw [h1,drop_at ha,drop_at hb,compact_eq _ rfl]
theorem seen_put {α:Type} [DecidableEq α] {xs ys:List α} {k m:Nat} {a b:α} (h:Seen1 xs ys k m) (ha:xs[m]?=some a) (hb:xs[m+1]?=some b) (hn:¬ a=b) (hk:k≤m):Seen1 xs (ys.set k b) (k+1) (m+1):=by
 obtain ⟨h1,h2,h3⟩:=h;have hm:=lt_get hb;refine ⟨?_,by rw [List.drop_set_of_lt (by omega),← List.drop_drop,h2,List.drop_drop],by rw [List.length_set];exact h3⟩;rw [h1,drop_at ha,drop_at hb,compact_ne _ hn,take_at (x:=b) (List.getElem?_set_self (by omega)),List.take_set,List.set_eq_of_length_le (by rw [List.length_take];omega)];conv=>lhs;rw [List.tail_cons,compact_head]
 simp
theorem seen_last {α:Type} [DecidableEq α] {xs ys:List α} {k m:Nat} {a:α} (h:Seen1 xs ys k m) (ha:xs[m]?=some a) (hm:m+1=xs.length):compact xs=ys.take k:=by
 obtain ⟨h1,-⟩:=h;rw [h1,drop_at ha,hm,List.drop_length,show compact [a]=[a] from by simp [compact]];simp
theorem seen_at {α:Type} [DecidableEq α] {xs ys:List α} {k m j:Nat} (h:Seen1 xs ys k m) (hj:m≤j):ys[j]?=xs[j]?:=by
 have:=congrArg (fun z=>z[j - m]?) h.2.1;simp only [List.getElem?_drop] at this;rwa [show m+(j - m)=j by omega] at this
def tmV0:Value:=.agg #[.string ⟨#[]⟩,.string ⟨#[]⟩]
theorem zeroTm (w:World):(zeroValue 61).run Tryz.prog w=.ok tmV0 w:=by kernel_rfl
theorem elemT {B g n c:Nat} {w:World} {xs:List Term} (h:OwnL B (·=61) 61 w (.slice (some ⟨g,0,none⟩) n c) xs) {j:Nat} {x:Term} (hx:xs[j]?=some x) :
  w.cell? ⟨g,j * 2,none⟩=some (.string x.license)∧w.cell? ⟨g,j * 2+1,none⟩=some (.string x.exception)∧w.frozen? ⟨g,j * 2,none⟩=false∧w.frozen? ⟨g,j * 2+1,none⟩=false∧B≤g∧∀ w',Agree B (·=61) w w'→Lay.is w' (fun q=>[Value.string x.license,Value.string x.exception][q]?) x:=by
 obtain ⟨_,y,he,-,hB,-,hl,hc,hs,-⟩:=h.elem hx;cases he;obtain ⟨hd,rfl⟩:=ofTerm w y x hl (hs w (Agree.refl _ _ _));have c0:=hc 0 _ rfl;have c1:=hc 1 _ rfl;exact ⟨c0.1,c1.1,c0.2,c1.2,hB,hs⟩
theorem Compact_o {B:Nat} {w:World} {v:Value} {xs:List Term} (h:OwnL B (·=61) 61 w v xs) :
  Calls Tryz.prog 223 #[v] w fun e w'=>∃ v',e=.returned v'∧OwnL B (·=61) 61 w' v' (compact xs)∧Below B w w':=by
 obtain ⟨a,c,rfl,hnc,hcm,-⟩:=list_inv h.is;simp only [maxLen] at hcm;have HO:=zh h;clear h;generalize hN:xs.length=N at *;have HN:=zh hN;clear hN;by_cases h2:N < 2
 ·have h2z:(N:Int) < 2:=by omega
  have HC:Hid (compact xs=xs):=by
   have:=HN.out;show _=_;match xs,this with
   | [],_=>simp [compact]
   | [a],_=>simp [compact]
   | a :: b :: r,h=>simp at h;omega
  go_enter Tryz.func223,Tryz.ntmps223;go_wp2;go_ret;exact ⟨_,rfl,by rw [HC.out];exact HO.out,Below.refl _ _⟩
 ·have h2z:¬ (N:Int) < 2:=by omega
  obtain ⟨x0,hx0⟩:=get_lt (xs:=xs) (k:=0) (by rw [HN.out];omega);obtain ⟨g,-,rfl,-,hg0,-,-⟩:=HO.out.elem hx0;clear hx0 x0;go_enter Tryz.func223,Tryz.ntmps223;go_wp2;go_loopw [3] (fun kv wr=>∃ i k:Nat,i≤N∧kv=.int .i64 (i:Nat)∧Hid (i=k+1)∧(∃ n,wr=w.drewN n)∧Hid (Upto1 xs k)) (fun kv _=>N - (intOf kv).toNat)
  case atStart=>exact ⟨1,0,by omega,rfl,rfl,⟨0,rfl⟩,by show _=_;simp⟩
  case round =>
   obtain ⟨i,k,hi,rfl,hik,⟨n,rfl⟩,hf⟩:=hrel;by_cases hki:i < N
   ·have hkz:(i:Int) < (N:Int):=by omega
    have hi0:(0:Int)≤(i:Int):=by omega
    have hk0:(0:Int)≤(k:Int):=by omega
    have hkn:(k:Int) < (N:Int):=by have:=hik.out;omega
    have ek:(i:Int) - 1=(k:Int):=by have:=hik.out;omega
    obtain ⟨x,hx⟩:=get_lt (xs:=xs) (k:=k) (by rw [HN.out];omega);obtain ⟨y,hy⟩:=get_lt (xs:=xs) (k:=i) (by rw [HN.out];omega);obtain ⟨x0,x1,-⟩:=elemT HO.out hx;obtain ⟨y0,y1,-⟩:=elemT HO.out hy;have HX:=zh hx;have HY:=zh hy;rw [hik.out] at HY;clear hx hy;have hq:=fun W=>eqTerm.1 y x W;rw [teq_eq] at hq;simp only [encT] at hq;cases e9:decide (x=y);case false =>
     rw [e9] at hq;have HF:Hid (Upto1 xs (k+1)):=upto_step hf.out HX.out HY.out (of_decide_eq_false e9);clear hf e9;go_wp2;go_quiet (fail)
     go_wp2;go_roundw
     case rel=>exact ⟨i+1,k+1,by omega,by go_num,by have:=hik.out;show _=_;omega,⟨_,rfl⟩,HF⟩
     case measure=>exact zm
    case true =>
     rw [e9] at hq;have HS:Hid (Seen1 xs xs i i):=by show Seen1 _ _ _ _;rw [hik.out];exact seen_start hf.out HX.out HY.out (of_decide_eq_true e9)
     clear hf e9;obtain ⟨L,hL⟩:∃ L,N - i=L:=⟨_,rfl⟩
     obtain ⟨D,hD⟩:∃ D,c - i=D:=⟨_,rfl⟩
     have HLH:=zh hL;have HDH:=zh hD;have hic:i≤c:=by omega
     have hNc:N≤c:=by omega
     have hLm:L≤9223372036854775807:=by omega
     go_wp2;go_quiet (fail)
     go_wp2;clear hq hL hD HX HY x0 x1 y0 y1 ek hkn hkz;go_loopw [3,5] (fun kv jv wr=>∃ (q j m:Nat) (ys:List Term),kv=.int .i64 q∧jv=.int .i64 j∧q≤m∧j≤L∧Hid (j=(m - i)+1)∧Hid (i≤m)∧Hid (Below B w wr)∧Hid (OwnL B (·=61) 61 wr (.slice (some ⟨g,0,none⟩) N c) ys)∧Hid (Seen1 xs ys q m)) (fun _ jv _=>L - (intOf jv).toNat)
     case atStart =>
      refine ⟨i,1,i,xs,rfl,rfl,Nat.le_refl _,by have:=HLH.out;omega,by show _=_;omega,Nat.le_refl _,?_,?_,HS⟩
      ·show Below _ _ _;exact bw
      ·show OwnL _ _ _ _ _ _;exact HO.out.below bw
     case round =>
      obtain ⟨q,j,m,ys,rfl,rfl,hqm,hjL,hjm,him,HB,HO2,HS⟩:=hrel;by_cases hlt:j < L
      ·have hltz:(j:Int) < (L:Int):=by omega
       have hj0:(0:Int)≤(j:Int):=by omega
       obtain ⟨p,hp⟩:∃ p,m - i=p:=⟨_,rfl⟩
       have hmp:m=i+p:=by have:=him.out;omega
       have hjp:j=p+1:=by have:=hjm.out;omega
       have hp0:(0:Int)≤(p:Int):=by omega
       have hpn:(p:Int) < (L:Int):=by omega
       have ej:(j:Int) - 1=(p:Int):=by omega
       have hpm:p≤9223372036854775807:=by omega
       have HP:=zh hp;have HMP:=zh hmp;have HJP:=zh hjp;clear hp hmp hjp;obtain ⟨x,hx⟩:=get_lt (xs:=xs) (k:=m) (by rw [HN.out];have:=HLH.out;have:=HMP.out;have:=HJP.out;omega);obtain ⟨y,hy⟩:=get_lt (xs:=xs) (k:=m+1) (by rw [HN.out];have:=HLH.out;have:=HMP.out;have:=HJP.out;omega);have hx':ys[m]?=some x:=by rw [seen_at HS.out (Nat.le_refl _)];exact hx
       have hy':ys[m+1]?=some y:=by rw [seen_at HS.out (by omega)];exact hy
       obtain ⟨x0,x1,-⟩:=elemT HO2.out hx';obtain ⟨y0,y1,-,-,-,hys⟩:=elemT HO2.out hy';have HX:=zh hx;have HY:=zh hy;have HYS:=zh hys;rw [show m * 2=i * 2+p * 2 by have:=HMP.out;omega] at x0 x1;rw [show (m+1) * 2=i * 2+j * 2 by have:=HMP.out;have:=HJP.out;omega] at y0 y1;clear hx hy hx' hy' hys;have hq:=fun W=>neqTerm y x W;cases e9:decide (y=x);case true =>
        rw [e9] at hq;have HS2:Hid (Seen1 xs ys q (m+1)):=seen_skip HS.out HX.out HY.out (of_decide_eq_true e9).symm;clear e9;go_wp2;go_quiet (fail)
        go_wp2;go_roundw
        case rel =>
         refine ⟨q,j+1,m+1,ys,rfl,by go_num,by omega,by omega,by have:=hjm.out;have:=him.out;show _=_;omega,by have:=him.out;show _≤_;omega,?_,?_,HS2⟩
         ·show Below _ _ _;exact HB.out.trans bw
         ·show OwnL _ _ _ _ _ _;exact HO2.out.below bw
        case measure=>exact zm
       case false =>
        rw [e9] at hq;have HE:=zh (show ¬ x=y from fun h=>of_decide_eq_false e9 h.symm);clear e9;obtain ⟨u,hu⟩:=get_lt (xs:=ys) (k:=q) (by rw [HS.out.2.2];have:=lt_get HX.out;omega);obtain ⟨u0,u1,f0,f1,-⟩:=elemT HO2.out hu;have hq0:(0:Int)≤(q:Int):=by omega
        have hqn:(q:Int) < (N:Int):=by have:=lt_get HX.out;have:=HN.out;omega
        clear hu;go_wp2;go_quiet (fail)
        go_wp2;go_roundw
        case rel =>
         have HO3:∀ n,OwnL B (·=61) 61 (wr.drewN n) (.slice (some ⟨g,0,none⟩) N c) ys:=fun n=>HO2.out.below bw;have HB3:∀ n,Below B w (wr.drewN n):=fun n=>HB.out.trans bw;refine ⟨q+1,j+1,m+1,ys.set q y,by go_num,by go_num,by omega,by omega,by have:=hjm.out;have:=him.out;show _=_;omega,by have:=him.out;show _≤_;omega,below_setCellsO hg0 [.string y.license,.string y.exception] (q * 2) w _ (HB3 _),(HO3 _).put rfl (i:=q) (y:=[.string y.license,.string y.exception]) (x:=y) (by rw [HS.out.2.2];have:=HN.out;omega) rfl (fun w' hA=>HYS.out w' ((Agree.of_below bw).trans hA)),seen_put HS.out HX.out HY.out HE.out (by omega)⟩
        case measure=>exact zm
      ·have hltz:¬ (j:Int) < (L:Int):=by omega
       obtain ⟨x,hx⟩:=get_lt (xs:=xs) (k:=m) (by have:=HLH.out;have:=hjm.out;have:=him.out;have:=HN.out;omega);have HC:Hid (compact xs=ys.take q):=seen_last HS.out hx (by have:=HLH.out;have:=hjm.out;have:=him.out;have:=HN.out;omega);have hqN:q < N:=by have:=lt_get hx;have:=HN.out;omega
       have hYN:ys.length=N:=HS.out.2.2.trans HN.out;have HYN:=zh hYN;clear hx hYN;obtain ⟨zs,hzs⟩:∃ zs,(Builtin.zeroCells tmV0.cells (N - q)).toList=zs:=⟨_,rfl⟩
       have hzl:zs.length=(N - q) * 2:=by rw [← hzs,zeroCells_len];rfl
       have hzo:∀ v∈zs,v.oneCell'=true:=fun v hv=>zeroCells_mem (z:=tmV0.cells) (by decide) (by intro v hv;simp [tmV0,Value.cells] at hv;rcases hv with rfl | rfl <;> rfl) (by rw [hzs];exact hv)
       have hcu:∀ r,r < zs.length→∃ z,wr.cell? ⟨g,q * 2+r,none⟩=some z∧wr.frozen? ⟨g,q * 2+r,none⟩=false:=fun r hr=>by
        obtain ⟨u,hu⟩:=get_lt (xs:=ys) (k:=q+r / 2) (by rw [HYN.out];rw [hzl] at hr;omega);obtain ⟨_,yu,he,-,-,-,hul,hucell,-,-⟩:=HO2.out.elem hu;cases he;obtain ⟨z,hz⟩:=get_lt (xs:=yu) (k:=r % 2) (by rw [hul];exact Nat.mod_lt _ (by decide));have:=hucell _ z hz;rw [show (q+r / 2) * Lay.n Term+r % 2=q * 2+r by show (q+r / 2) * 2+r % 2=_;omega] at this;exact ⟨z,this⟩
       have hclear:∀ ty,(Builtin.clear_ #[59] ty #[.slice (some ⟨g,q * 2,none⟩) (N - q) (c - q)]).run Tryz.prog wr=.ok (.tuple #[]) (wr.setCells g (q * 2) zs):=fun ty =>
        run_clear_k wr 59 61 ty tmV0 Tryz.underlying59 zeroTm zs g (q * 2) (N - q) (c - q) (by omega) hzs hzo (fun r hr=>by obtain ⟨z,h1,-⟩:=hcu r hr;rw [h1];rfl) (fun r hr=>by obtain ⟨z,-,h2⟩:=hcu r hr;exact h2)
       have HCUT:=zh (HO2.out.cut rfl (m:=q) (by rw [HYN.out];omega) zs (by rw [hzl,HYN.out];show q * 2+_≤N * 2;omega));have HBS:=zh (below_setCellsO hg0 zs (q * 2) w wr HB.out);clear hcu hzo hzl hzs;go_wp2_with fail
       go_ret;refine ⟨_,rfl,?_,HBS.out⟩;rw [HC.out];exact HCUT.out
   ·have hkz:¬ (i:Int) < (N:Int):=by omega
    have HC:Hid (compact xs=xs):=by
     obtain ⟨x,hx⟩:=get_lt (xs:=xs) (k:=k) (by have:=hik.out;have:=HN.out;omega);exact upto_last hf.out hx (by have:=hik.out;have:=HN.out;omega)
    go_wp2;go_ret;refine ⟨_,rfl,?_,bw⟩;rw [HC.out];exact HO.out.below bw
theorem Compact_p {B:Nat} {w:World} {v:Value} {xs:List Term} (h:RowT B w v xs) :
  Calls Tryz.prog 223 #[v] w fun e w'=>∃ v',e=.returned v'∧RowT B w' v' (compact xs)∧Below B w w' :=
 (Compact_o (h.own _)).mono fun _ _ ⟨v',he,h1,h2⟩=>⟨v',he,ownT_row h1,h2⟩

def Ez (_e t:TypeId):Prop:=t≠61
theorem Ez_alt:Ez 59 59:=by unfold Ez;decide
def OwnZ {α:Type} [Lay α] (B:Nat) (e:TypeId) (w:World) (v:Value) (xs:List α):Prop:=OwnL 0 (Ez e) e w v xs∧∃ cs,w.ownsRow B e (Lay.n α) v xs.length cs
section
variable {α:Type} [Lay α] {B:Nat} {e:TypeId} {w w':World} {v:Value} {xs:List α}
theorem OwnZ.nil (B:Nat) (e:TypeId) (w:World):OwnZ B e w (.slice none 0 0) ([]:List α):=⟨OwnL.nil _ _ _ _,(OwnL.nil B (Ez e) e w).row⟩
theorem OwnZ.own (h:OwnZ B e w v xs) {B0:Nat} (hB:B0≤B):OwnL B0 (Ez e) e w v xs:=by
 obtain ⟨⟨ys,h1,h2,h3⟩,cs,hc⟩:=h;have hc0:=ownsRow_weaken hc (Nat.zero_le _);have e1:=OwnL.row_unique hc0 h2;subst e1;exact ⟨ys,h1,ownsRow_weaken hc hB,fun i y x hy hx=>⟨(h3 i y x hy hx).1,fun w' hA=>(h3 i y x hy hx).2 w' (hA.lower (Nat.zero_le _))⟩⟩
theorem OwnZ.is (h:OwnZ B e w v xs):Is w v xs:=h.1.is
theorem OwnZ.below (h:OwnZ B e w v xs) (hb:Below w.heap.size w w'):OwnZ B e w' v xs:=⟨h.1.below hb,((h.own (Nat.le_refl _)).below hb).row⟩
theorem OwnZ.weaken (h:OwnZ B e w v xs) {B0:Nat} (hB:B0≤B):OwnZ B0 e w v xs:=⟨h.1,(h.own hB).row⟩
end
theorem altRow:(Tryz.prog.info? 59).map (fun i=>(i.zero,i.size,i.bytes))=some (some (.slice none 0 0),1,24):=by kernel_rfl
theorem app_alt {ops:Array Oper} {rest:List Oper} {o:Oper} {a:Act} {Q:Exit→Act→World→Prop} {w:World} (hgd:o.guard=none) (s x:Operand)
  (ho:o.op=.call { callee:=.builtin .append,args:=#[s,x],argTypes:=#[41,41] })
  (B:Nat) (v:Value) (xs:List (List Term)) (hs:a.eval s=v) (hown:OwnZ B 59 w v xs)
  {u:Value} (y:List Term) (hx:a.eval x=.slice (some ⟨w.heap.size,0,none⟩) 1 1)
  (hy:∀ w'',Agree 0 (Ez 59) (w.alloc (.cells #[u] 59)) w''→Is w'' u y)
  (hb:xs.length≤1000000000) (hB:B≤w.heap.size)
  (h:∀ v' w',OwnZ B 59 w' v' (xs++[y])→Below B w w'→Agree B (·=59) w w'→w.heap.size < w'.heap.size→wpList Tryz.prog ops Q rest (a.put o.dst v') w') :
  wpList Tryz.prog ops Q (o :: rest) a (w.alloc (.cells #[u] 59)):=by
 obtain ⟨cs,hrow⟩:=hown.2;have hal:Below w.heap.size w (w.alloc (.cells #[u] 59)):=zb;obtain ⟨ua,uc,rfl,-⟩:=list_inv (hy _ (Agree.refl _ _ _));refine wp_app altRow rfl (by decide) Tryz.underlying41 hgd s x ho B v xs.length cs hs hrow #[.slice ua y.length uc] hx rfl (by intro q hq;simp at hq;subst hq;rfl) (by omega) hB fun v' w' h2 h3 _=>?_;have hcells:∀ w'',Agree 0 (Ez 59) (w.alloc (.cells #[.slice ua y.length uc] 59)) w''→Lay.is w'' (fun j=>(#[Value.slice ua y.length uc].toList)[j]?) y:=by
  intro w'' hA;obtain ⟨a',c',he,h1,h2,h3⟩:=list_inv (hy _ hA);cases he;exact ⟨_,_,rfl,h1,h2,h3⟩
 refine h v' w' ⟨OwnL.snoc (E:=Ez 59) Ez_alt hown.1 hal rfl hcells h3 fun cs2 h4=>?_,⟨cs++[.slice ua y.length uc],?_⟩⟩ ?_ ?_ ?_
 ·rw [OwnL.row_unique (ownsRow_weaken hrow (Nat.zero_le _)) h4] at h2;exact ownsRow_weaken h2 (Nat.zero_le _)
 ·rw [List.length_append];exact h2
 ·exact ((Below.refl _ _).alloc (by omega) _).app h3 (by simp;omega) hrow
 ·exact (Agree.of_below hal).trans (Agree.app (E:=(·=59)) rfl (((hown.own (Nat.le_refl _)).below hal).row.choose_spec) h3)
 ·have:=h3.size;simp at this;omega
theorem SortAlt_z {B:Nat} {w:World} {v:Value} {xs:List (List Term)} (h:OwnZ B 59 w v xs) (hlen:xs.length < 4611686018427387904) :
  Calls Tryz.prog 224 #[v,.func (.func 90) #[] #[]] w fun e w'=>e=.returned (.tuple #[])∧OwnZ B 59 w' v (sortS (ltC acmp) xs)∧Below B w w':=by
 by_cases hne:xs=[]
 ·subst hne;obtain ⟨cs,-,hv⟩:=h.2;obtain ⟨a,c,rfl⟩:∃ a c,v=.slice a 0 c:=by
   rcases hv with ⟨rfl,-⟩ | ⟨g,cap,cur,rfl,-⟩
   ·exact ⟨_,_,rfl⟩
   ·exact ⟨_,_,rfl⟩
  refine (AnyF.slices_SortFunc_none { Tryz.sortAlt with } a c _ w).mono ?_;rintro e w' ⟨rfl,rfl⟩;exact ⟨rfl,h,Below.refl _ _⟩
 ·obtain ⟨g,cap,d,rfl,hg,-,hd,hH,hag,hpost⟩:=h.1.sorted1 Ez_alt hne;have hds:d.size=xs.length:=by rw [← hd];simp
  have hBg:B≤g:=by
   obtain ⟨cs,-,hv⟩:=h.2;rcases hv with ⟨he,-⟩ | ⟨g',cap',cur,he,hb,-⟩
   ·cases he
   ·obtain ⟨e1,-⟩:=Value.slice.inj he;cases e1;exact hb
  have hO:=acmp_to.swo (Elt.dat:Elt Term 0 (Ez 59) w→List Term);refine (Any.slices_SortFunc Tryz.sortAlt Elt.enc elt_one (fun x y=>acmp x.dat y.dat) hO 90 #[] g 0 cap d w (enters_of Tryz.func90 (by kernel_rfl) rfl) ?_ hH hg (by omega)).mono ?_
  ·intro m os dk _ x y;exact Compare_p _ _ _ x.dat y.dat (x.2.2 _ ((hag dk m os).mono fun _ h=>h ▸ Ez_alt)) (y.2.2 _ ((hag dk m os).mono fun _ h=>h ▸ Ez_alt))
  ·rintro e w' ⟨rfl,d',m,os,hp,hs,rfl⟩;have hperm:=perm_of hp.1 hp.2.2;obtain ⟨p1,p2⟩:=hpost d' m os hperm;rw [sorted_dat acmp_to hd hperm hs hp.1] at p1;refine ⟨rfl,⟨p1,?_⟩,rfl,rfl,rfl,sortWorld_size _ _ _ _ _ _,fun k hk'=>?_⟩
   ·obtain ⟨cs,q1,q2⟩:=p1.row;refine ⟨cs,q1,q2.imp id ?_⟩;rintro ⟨g',cap',cur,he,-,hh⟩;obtain ⟨e1,-⟩:=Value.slice.inj he;cases e1;exact ⟨_,_,cur,he,hBg,hh⟩
   ·rcases Nat.lt_or_ge k w.heap.size with hkw | hkw
    ·rw [sortWorld_heap _ _ _ _ _ _ hkw];exact putRow_heap_other _ _ _ _ _ (by omega)
    ·omega

theorem elemA {B:Nat} {w:World} {a:Option Addr} {n c:Nat} {xs:List (List Term)} (h:OwnZ B 59 w (.slice a n c) xs) {j:Nat} {x:List Term} (hx:xs[j]?=some x) :
  ∃ (g:Nat) (ax:Option Addr) (cx:Nat),a=some ⟨g,0,none⟩∧w.cell? ⟨g,j,none⟩=some (.slice ax x.length cx)∧∀ w',Agree 0 (Ez 59) w w'→Is w' (.slice ax x.length cx) x:=by
 obtain ⟨g,y,rfl,-,-,-,hl,hc,hs,-⟩:=h.1.elem hx;match y,hl with
 | [u],_ =>
  obtain ⟨ax,cx,g0,g1,g2,g3⟩:=hs w (Agree.refl _ _ _);simp at g0;subst g0;refine ⟨g,ax,cx,rfl,?_,fun w' hA=>?_⟩
  ·have:=(hc 0 _ rfl).1;simpa [Lay.n] using this
  ·obtain ⟨a',c',k0,k1,k2,k3⟩:=hs w' hA;simp at k0;obtain ⟨rfl,rfl⟩:=k0;exact list_mk k1 k2 k3
theorem rowT_agree {B:Nat} {w w':World} {v:Value} {xs:List Term} (h:RowT B w v xs) (hA:Agree 0 (Ez 59) w w'):RowT B w' v xs :=
 h.keep fun g _ hg ⟨cs,hc⟩=>hA.2 g hg (.inr fun ⟨cs',e',fr',he,hh⟩=>by rw [hc] at hh;cases hh;exact he rfl)
theorem Minimal1_p (w:World) (g:Nat) (v1 v2:Value) (xs ys:List Term) (hc:w.cell? ⟨g,0,none⟩=some v1) (h1:Is w v1 xs) (h2:Is w v2 ys) :
  Calls Tryz.prog 225 #[v2,.pointer (some ⟨g,0,none⟩)] w fun e w'=>e=.returned (.bool (conA xs ys))∧Below w.heap.size w w':=by
 have hg:=cell_lt hc;have HF:=Contains_p w v1 v2 xs ys h1 h2;obtain ⟨a,c,rfl,-⟩:=list_inv h1;obtain ⟨b,d,rfl,-⟩:=list_inv h2;clear h1 h2;generalize conA xs ys=r at *;generalize xs.length=N at *;generalize ys.length=M at *;go_enter Tryz.func225,Tryz.ntmps225;go_wp2_with fail
 refine HF.mono ?_;rintro e w1 ⟨rfl,hb⟩;go_wp2;go_ret;exact ⟨rfl,hb⟩
def MO (B:Nat) (xs:List (List Term)) (w:World) (e:Ending) (w':World):Prop:=∃ v,e=.returned v∧OwnZ B 59 w' v xs∧Below w.heap.size w w'
theorem keepMin_le:∀ (l out:List (List Term)),(keepMin out l).length≤out.length+l.length
 | [],out=>by simp [keepMin]
 | a :: r,out=>by
  rw [keepMin];split
  ·have:=keepMin_le r out;simp;omega
  ·have:=keepMin_le r (out++[a]);simp at this ⊢;omega
theorem Minimal_p (w:World) (v:Value) (xs:List (List Term)) (h:Is w v xs) (hn:∀ x∈xs,x.length≤1000000) (hl:xs.length≤1000000000) :
  Calls Tryz.prog 179 #[v] w fun e w'=>MO w.heap.size (minimalP xs) w e w':=by
 obtain ⟨a,c,rfl,hnc,hcm,hr⟩:=list_inv h;simp only [maxLen] at hcm;have HR:=zh hr;have HNN:=zh hn;have HL:=zh hl;clear hr h hn;generalize hN:xs.length=N at *;have HN:=zh hN;clear hN;go_enter Tryz.func179,Tryz.ntmps179;go_wp2;go_loopw [3,12] (fun sv kv wr=>∃ k:Nat,k≤N∧kv=.int .i64 k∧Hid (Below w.heap.size w wr)∧Hid (OwnZ w.heap.size 59 wr sv ((xs.take k).map normT))) (fun _ kv _=>N - (intOf kv).toNat)
 case atStart=>exact ⟨0,by omega,rfl,zh (Below.refl _ _),zh (OwnZ.nil _ _ _)⟩
 case round =>
  obtain ⟨k,hk,rfl,HB,HO⟩:=hrel;by_cases hki:k < N
  ·have hkz:(k:Int) < (N:Int):=by omega
   obtain ⟨x,hx⟩:=get_lt (xs:=xs) (k:=k) (by rw [HN.out];exact hki);obtain ⟨bx,ox,rfl,hbx,ax,cx,x0',hx1,hx2,hx3⟩:=list_at HR.out hx;have x0:=kept HB.out x0';have hsx:=cell_lt x0;have hxl:=HNN.out x (List.mem_of_getElem? hx);have hcall:=CloneTerm_p wr (.slice ax x.length cx) x (list_mk hx1 hx2 (hx3.mono HB.out)) hxl;have HX:=zh hx;clear hx x0' hx3 hx1 hx2;go_wp2_with fail
   refine hcall.mono ?_;rintro e w2 ⟨v2,rfl,ho2,hb2⟩;have hcall2:=SortTerm_p ho2 (by omega);have HB2:=zh hb2;clear hcall ho2 hb2;go_wp2_with fail
   refine hcall2.mono ?_;rintro e w3 ⟨rfl,ho3,hb3⟩;have HB3:Hid (Below wr.heap.size wr w3):=HB2.out.trans hb3;have hcall3:=Compact_p ho3;clear hcall2 ho3 hb3;go_wp2_with fail
   refine hcall3.mono ?_;rintro e w4 ⟨v4,rfl,ho4,hb4⟩;obtain ⟨a4,c4,rfl⟩:=ho4.shape;have HB4:Hid (Below wr.heap.size wr w4):=HB3.out.trans hb4;have HO4:Hid (RowT wr.heap.size w4 _ (normT x)):=ho4;have HOB:=zh (HO.out.below HB4.out);have hz1:w.heap.size≤wr.heap.size:=HB.out.size;have hz2:wr.heap.size≤w4.heap.size:=HB4.out.size;clear hcall3 ho4 hb4 HB3 HB2 HO;go_wp2_with (at_builtin;go_loud (refine app_alt rfl _ _ rfl w.heap.size _ _ rfl HOB.out (normT x) ?cx ?c1 ?c2 ?c3 ?_))
   case cx=>show Value.slice (some ⟨w4.heap.size,0,none⟩) 1 1=_;simp
   case c1=>intro w'' hA;exact (rowT_agree (HO4.out.below bw) hA).is
   case c2=>rw [List.length_map,List.length_take];omega
   case c3=>omega
   intro v5 w5 ho5 hb5 hA5 hs5;have HB5:Hid (Below w.heap.size w w5):=(HB.out.trans (HB4.out.mono hz1)).trans hb5;have HO5:=zh ho5;clear ho5 hb5 hA5 HOB HO4;go_wp2;go_roundw
   case rel =>
    refine ⟨k+1,by omega,by go_num,HB5,?_⟩;show OwnZ _ _ _ _ _;rw [take_at HX.out,List.map_append,List.map_take];exact HO5.out
   case measure=>exact zm
  ·have hkz:¬ (k:Int) < (N:Int):=by omega
   obtain rfl:N=k:=by omega
   have HO1:Hid (OwnZ w.heap.size 59 wr u3 (xs.map normT)):=by
    have:=HO.out;rw [List.take_of_length_le (by rw [HN.out];exact Nat.le_refl _)] at this;exact this
   clear HO;have hcall:=SortAlt_z HO1.out (by rw [List.length_map,HN.out];omega);have HLen:Hid ((xs.map normT).length=N):=by show _=_;rw [List.length_map,HN.out]
   obtain ⟨a3,c3,he3,-⟩:=list_inv HO1.out.is;rw [HLen.out] at he3;subst he3;have hle:Hid ((minimalP xs)=keepMin [] (sortS (ltC acmp) (xs.map normT))):=rfl;generalize xs.map normT=ys at *;clear HNN HR HO1;go_wp2_with fail
   refine hcall.mono ?_;rintro e w2 ⟨rfl,ho2,hb2⟩;have HB2:Hid (Below w.heap.size w w2):=HB.out.trans hb2;have HO2:=zh ho2;have HSL:Hid ((sortS (ltC acmp) ys).length=N):=by show _=_;rw [(sortS_permA (ltC acmp) ys).length_eq,HLen.out]
   clear hcall ho2 hb2;generalize sortS (ltC acmp) ys=ls at *;have hz12:w.heap.size≤w2.heap.size:=HB2.out.size;go_wp2;go_loopw [7,30] (fun sv kv wr=>∃ (k:Nat) (out:List (List Term)),k≤N∧kv=.int .i64 k∧Hid (Below w2.heap.size w2 wr)∧Hid (OwnZ w2.heap.size 59 wr sv out)∧Hid (minimalP xs=keepMin out (ls.drop k))∧Hid (out.length≤k)) (fun _ kv _=>N - (intOf kv).toNat)
   case atStart=>exact ⟨0,[],by omega,rfl,zh (Below.refl _ _),zh (OwnZ.nil _ _ _),hle,Nat.le_refl _⟩
   case round =>
    obtain ⟨k,out,hk,rfl,HB3,HO3,HZ,HKL⟩:=hrel;by_cases hki:k < N
    ·have hkz:(k:Int) < (N:Int):=by omega
     obtain ⟨x,hx⟩:=get_lt (xs:=ls) (k:=k) (by rw [HSL.out];exact hki);obtain ⟨g,ax,cx,rfl,x0',hst⟩:=elemA HO2.out hx;have x0:=kept HB3.out x0';have hsx:=cell_lt x0;have HD:=zh (drop_at hx);have HST:=zh hst;obtain ⟨ao,co,rfl,-⟩:=list_inv HO3.out.is;have hba:Below wr.heap.size wr (wr.alloc (.cells #[.slice ax x.length cx] 59)):=bw;have hcell:(wr.alloc (.cells #[.slice ax x.length cx] 59)).cell? ⟨wr.heap.size,0,none⟩=some (.slice ax x.length cx):=by simp
     have hxi:Is (wr.alloc (.cells #[.slice ax x.length cx] 59)) (.slice ax x.length cx) x:=HST.out _ ((Agree.of_below HB3.out).trans (Agree.of_below hba));have eg2:∀ args w,(callFunc 225 args).run Tryz.prog w=.ok (.enter 225 args) w:=enters_of Tryz.func225 (by kernel_rfl) rfl
     have hcall:=ContainsFuncAlt (wr.alloc (.cells #[.slice ax x.length cx] 59)) (.slice ao out.length co) out (conA x) 225 #[.pointer (some ⟨wr.heap.size,0,none⟩)] eg2 (HO3.out.is.mono hba) (fun i y _ W v hb hv =>
      Minimal1_p W wr.heap.size (.slice ax x.length cx) v x y (kept hb hcell) (hxi.mono hb) hv)
     have HS:=zh (show keepMin out (x :: ls.drop (k+1))=if out.any (conA x) then keepMin out (ls.drop (k+1)) else keepMin (out++[x]) (ls.drop (k+1)) by rw [keepMin]);clear hx x0' hst hcell hxi eg2;have HBA:=zh hba;clear hba;generalize out.any (conA x)=bb at hcall HS;cases bb;case true =>
      have HT:Hid (minimalP xs=keepMin out (ls.drop (k+1))):=by show _=_;rw [HZ.out,HD.out,HS.out];rfl
      go_wp2_with fail
      refine hcall.mono ?_;rintro e w3 ⟨rfl,hb3⟩;have HB5:Hid (Below wr.heap.size wr w3):=HBA.out.trans (hb3.mono (by simp));clear hb3 hcall;go_wp2;go_roundw
      case rel=>exact ⟨k+1,out,by omega,by go_num,HB3.out.trans (HB5.out.mono HB3.out.size),HO3.out.below HB5.out,HT,Nat.le_succ_of_le HKL.out⟩
      case measure=>exact zm
     case false =>
      have HT:Hid (minimalP xs=keepMin (out++[x]) (ls.drop (k+1))):=by show _=_;rw [HZ.out,HD.out,HS.out];rfl
      go_wp2_with fail
      refine hcall.mono ?_;rintro e w3 ⟨rfl,hb3⟩;have HB5:Hid (Below wr.heap.size wr w3):=HBA.out.trans (hb3.mono (by simp));have c9:=kept hb3 (a:=⟨wr.heap.size,0,none⟩) (v:=.slice ax x.length cx) (by simp);have hz9:wr.heap.size < w3.heap.size:=cell_lt c9;have hz8:w2.heap.size≤wr.heap.size:=HB3.out.size;have HO5:=zh (HO3.out.below HB5.out);clear hb3 hcall HO3;go_wp2_with (at_builtin;go_loud (refine app_alt rfl _ _ rfl w2.heap.size _ _ rfl HO5.out x ?cx ?c1 ?c2 ?c3 ?_))
      case cx=>show Value.slice (some ⟨w3.heap.size,0,none⟩) 1 1=_;simp
      case c1=>intro w'' hA;exact HST.out _ ((((Agree.of_below HB3.out).trans (Agree.of_below HB5.out)).trans (Agree.of_below bw)).trans hA)
      case c2=>have:=HKL.out;have:=HL.out;omega
      case c3=>omega
      intro v5 w5 ho5 hb5 hA5 hs5;have HB6:Hid (Below w2.heap.size w2 w5):=(HB3.out.trans (HB5.out.mono hz8)).trans hb5;have HO6:=zh ho5;clear ho5 hb5 hA5 HO5 c9;go_wp2;go_roundw
      case rel=>exact ⟨k+1,out++[x],by omega,by go_num,HB6,HO6,HT,by show _≤_;have:=HKL.out;simp;omega⟩
      case measure=>exact zm
    ·have hkz:¬ (k:Int) < (N:Int):=by omega
     have HT:Hid (minimalP xs=out):=by
      have:=HZ.out;rw [List.drop_eq_nil_of_le (by rw [HSL.out];omega),keepMin] at this;exact this
     go_wp2;go_ret;refine ⟨_,rfl,?_,HB2.out.trans (HB3.out.mono hz12)⟩;rw [HT.out];exact HO3.out.weaken hz12
end Go.Proofs.YtcbopdbbcgdkcaaGreatDoor
