/- Lemmas. -/
import Derived.Test.YtcbopdbbcgdkcaaGreatDoorLExpG
import Derived.Test.YtcbopdbbcgdkcaaGreatDoorLProX
set_option linter.all false
set_option maxRecDepth 100000
set_option maxHeartbeats 16000000
namespace Go.Proofs.YtcbopdbbcgdkcaaGreatDoor
open Go Go.RowKit Go.ChangeShapes
theorem row_size {w:World} {a:Option Addr} {xs:List ByteArray} (h:Row w a xs):∀ x∈xs,x.size≤maxLen:=by
 intro x hx;obtain ⟨i,hi⟩:=List.getElem?_of_mem hx;obtain ⟨_,_,_,_,_,h⟩:=str_at h hi;exact h
theorem Clone_p (w:World) (v:Value) (xs:List ByteArray) (h:Is w v xs) (hn:xs.length * 16≤140737488355328) :
  Calls Tryz.prog 84 #[v] w fun e w'=>∃ a c,e=.returned (.slice a xs.length c)∧OwnV Value.string w.heap.size 9 w' (.slice a xs.length c) xs∧Below w.heap.size w w':=by
 obtain ⟨a,c,rfl,hnc,hc,hr⟩:=list_inv h;have hsz:=row_size hr;by_cases h0:xs.length=0
 ·obtain rfl:xs=[]:=List.length_eq_zero_iff.1 h0;cases a with
  | none =>
   refine (Tryz.slices_Clone_string_nil _ c w).mono ?_;rintro e w' ⟨rfl,rfl⟩;exact ⟨none,0,rfl,OwnV.nil _ _ _ _,Below.refl _ _⟩
  | some a =>
   refine (Tryz.slices_Clone_string_zero a c w).mono ?_;rintro e w' ⟨v',rfl,ho,hne,hb⟩;obtain ⟨a2,c2,rfl⟩:∃ a c,v'=.slice a 0 c:=by
    rcases ho.2 with ⟨rfl,-⟩ | ⟨g,cap,cur,rfl,-⟩
    ·exact ⟨_,_,rfl⟩
    ·exact ⟨_,_,rfl⟩
   exact ⟨a2,c2,rfl,ho,hb⟩
 ·obtain ⟨x0,hx⟩:=get_lt (xs:=xs) (k:=0) (by omega);obtain ⟨b,off,rfl,-⟩:=str_at hr hx;refine (Tryz.slices_Clone_string b off xs.length c xs w (Nat.le_refl _) hn ?_).mono ?_
  ·intro j hj;obtain ⟨b',off',he,-,h0,-⟩:=str_at hr (List.getElem?_eq_getElem hj);cases he;rw [h0,List.getD_eq_getElem?_getD,List.getElem?_eq_getElem hj];rfl
  ·rintro e w' ⟨v',rfl,ho,hne,hb⟩;rw [List.take_length] at ho;obtain ⟨a2,c2,rfl⟩:∃ a c,v'=.slice a xs.length c:=by
    rcases ho.2 with ⟨rfl,h⟩ | ⟨g,cap,cur,rfl,-⟩
    ·exact absurd h h0
    ·exact ⟨_,_,rfl⟩
   exact ⟨a2,c2,rfl,ho,hb⟩
theorem ContainsInt_p (w:World) (v:Value) (xs:List Int) (x:Int) (h:Is w v xs) :
  Calls Tryz.prog 83 #[v,.int .i64 x] w fun e w'=>e=.returned (.bool (xs.contains x))∧w'=w:=by
 obtain ⟨a,c,rfl,hnc,hc,hr⟩:=list_inv h;simp only [maxLen] at hc;by_cases h0:xs.length=0
 ·obtain rfl:xs=[]:=List.length_eq_zero_iff.1 h0;exact Tryz.slices_Contains_int_empty a c x w
 ·obtain ⟨x0,hx⟩:=get_lt (xs:=xs) (k:=0) (by omega);obtain ⟨b,off,rfl,-⟩:=int_at hr hx
  have:=Tryz.slices_Contains_int b off xs.length c xs x w (Nat.le_refl _) (by omega) (by
   intro j hj;obtain ⟨b',off',he,-,h0,-⟩:=int_at hr (List.getElem?_eq_getElem hj);cases he;rw [h0,List.getD_eq_getElem?_getD,List.getElem?_eq_getElem hj];rfl)
  rw [List.take_length] at this;exact this
def clauseIs (t:Term) (way rel:Int) (l:List Int) (x:Clause):Bool:=seq x.license t.license && (x.way == way) && (x.relation == rel) && !l.contains x.duty
def clausesC (c:Catalog) (t:Term) (way rel:Int):List Clause :=
 match liftsC c t with
 | none=>[]
 | some l=>c.clauses.filter (clauseIs t way rel l)
theorem lifts_check {c:Catalog} {t:Term} {l:List Int} (h:liftsC c t=some l):checkC c=0:=by
 unfold liftsC at h;split at h
 ·rename_i h1
  unfold findC at h1;split at h1
  ·cases h1
  ·rename_i h2;simpa using h2
 ·cases h
theorem clauses_128 {c:Catalog} (h:checkC c=0):c.clauses.length≤128:=by
 unfold checkC at h;split at h
 ·cases h
 ·rename_i h1;simp at h1;omega
theorem firstErr_all {α:Type} {f:List α→α→Int}:∀ {pre xs:List α},firstErr f pre xs=0→∀ x∈xs,∃ p,f p x=0
 | pre,[],_,x,hx=>by simp at hx
 | pre,y :: r,h,x,hx=>by
  unfold firstErr at h;split at h
  ·rename_i h1;rw [h] at h1;cases h1
  ·rename_i h1
   rcases List.mem_cons.1 hx with rfl | hx
   ·exact ⟨pre,by simpa using h1⟩
   ·exact firstErr_all h x hx
theorem orElse_zero {a b:Int} (h:orElse a b=0):a=0∧b=0:=by
 unfold orElse at h;split at h
 ·rename_i h1;rw [h] at h1;cases h1
 ·rename_i h1;exact ⟨by simpa using h1,h⟩
theorem check_parts {c:Catalog} (h:checkC c=0):firstErr licErr [] c.licenses=0∧firstErr (excErr c.licenses) [] c.exceptions=0∧firstErr (clauseErr c.licenses) [] c.clauses=0∧firstErr (pairErr c.licenses) [] c.apart=0 ∧
  c.licenses.length≤32∧c.exceptions.length≤16∧c.clauses.length≤128∧c.apart.length≤64:=by
 unfold checkC at h;split at h
 ·cases h
 ·rename_i h1
  simp only [Bool.or_eq_true,decide_eq_true_eq,not_or,Int.not_lt] at h1;obtain ⟨p1,h⟩:=orElse_zero h;obtain ⟨p2,h⟩:=orElse_zero h;obtain ⟨p3,p4⟩:=orElse_zero h;exact ⟨p1,p2,p3,p4,by omega,by omega,by omega,by omega⟩
theorem incr_lt:∀ {l:List ByteArray} {a:ByteArray},incr slt (a :: l)=true→∀ b∈l,slt a b=true
 | [],a,_,b,hb=>by simp at hb
 | c :: r,a,h,b,hb=>by
  simp only [incr,Bool.and_eq_true] at h;rcases List.mem_cons.1 hb with rfl | hb
  ·exact h.1
  ·exact slt_trans h.1 (incr_lt h.2 b hb)
theorem incr_tail {α:Type} {lt:α→α→Bool} {a:α} {l:List α} (h:incr lt (a :: l)=true):incr lt l=true:=by
 cases l with
 | nil=>rfl
 | cons b r=>simp only [incr,Bool.and_eq_true] at h;exact h.2
theorem incr_sub:∀ (l m:List ByteArray),incr slt l=true→(∀ x∈l,x∈m)→l.length≤m.length
 | [],_,_,_=>Nat.zero_le _
 | a :: l,m,h,hm=>by
  have ha:=hm a (by simp)
  have h1:=incr_sub l (m.filter fun x=>decide (x≠a)) (incr_tail h) (fun x hx=>by
   have hne:x≠a:=fun e=>by subst e;have:=incr_lt h x hx;exact slt_ne this rfl
   exact List.mem_filter.2 ⟨hm x (by simp [hx]),by simpa using hne⟩)
  have h2:(m.filter fun x=>decide (x≠a)).length < m.length:=List.length_filter_lt_length_iff_exists.2 ⟨a,ha,by simp⟩;simp only [List.length_cons];omega
theorem find_mem {nm:ByteArray}:∀ {ls:List License} {i:Int},0≤i→(decide (findFrom nm ls i < 0))=false→nm∈ls.map License.name
 | [],i,_,h=>by simp [findFrom] at h
 | x :: r,i,hi,h=>by
  unfold findFrom at h;by_cases he:x.name=nm
  ·simp [he]
  ·rw [if_neg he] at h;simp only [List.map_cons,List.mem_cons];exact .inr (find_mem (by omega) h)
theorem lists_32 {c:Catalog} (h:checkC c=0):∀ x∈c.clauses,x.list.length≤32:=by
 intro x hx;obtain ⟨-,-,p3,-,h32,-⟩:=check_parts h;obtain ⟨pre,hp⟩:=firstErr_all p3 x hx;unfold clauseErr at hp;repeat' split at hp
 all_goals try (cases hp;done)
 rename_i ha hi hb
 have ha':(x.list.all fun s=>!decide (findFrom s c.licenses 0 < 0))=true:=by simpa using ha
 have hi':incr slt x.list=true:=by simpa using hi
 have:=incr_sub x.list (c.licenses.map License.name) hi' (fun s hs=>find_mem (i:=0) (by omega) (by have:=List.all_eq_true.1 ha' s hs;simpa using this));simp at this;omega
theorem clRow:(Tryz.prog.info? 74).map (fun i=>(i.zero,i.size,i.bytes))=some (some (.agg #[.string ByteArray.empty,.int .i64 0,.int .i64 0,.int .i64 0,.slice none 0 0]),5,64):=by kernel_rfl
open Go.Sort

theorem insR_sorted {α:Type} {lt:α→α→Bool} (hO:SWO lt) (x:α):∀ l:List α,l.Pairwise (fun a b=>lt a b=false)→(insR lt x l).Pairwise (fun a b=>lt a b=false)
 | [],_=>by simp [insR]
 | y :: r,h=>by
  obtain ⟨h1,h2⟩:=List.pairwise_cons.1 h;unfold insR;split
  ·rename_i hl
   refine List.pairwise_cons.2 ⟨fun z hz=>?_,insR_sorted hO x r h2⟩;rcases List.mem_cons.1 ((insR_perm lt x r).mem_iff.1 hz) with rfl | hz
   ·cases hc:lt y z
    ·rfl
    ·have:=hO.trans _ _ _ hl hc;rw [hO.irrefl] at this;cases this
   ·exact h1 z hz
  ·rename_i hl
   refine List.pairwise_cons.2 ⟨fun z hz=>?_,h⟩;have hl':lt x y=false:=by simpa using hl
   rcases List.mem_cons.1 hz with rfl | hz
   ·exact hl'
   ·exact hO.ntrans _ _ _ hl' (h1 z hz)
theorem sortR_sorted {α:Type} {lt:α→α→Bool} (hO:SWO lt):∀ (R L:List α),L.Pairwise (fun a b=>lt a b=false)→(sortR lt L R).Pairwise (fun a b=>lt a b=false)
 | [],L,h=>h
 | x :: R,L,h=>sortR_sorted hO R _ (insR_sorted hO x L h)
theorem sortS_sorted {α:Type} {lt:α→α→Bool} (hO:SWO lt) (xs:List α):(sortS lt xs).Pairwise (fun a b=>lt b a=false):=by
 unfold sortS;rw [List.pairwise_reverse];exact sortR_sorted hO xs [] List.Pairwise.nil
def verLt (a b:License):Bool:=decide (a.version < b.version)
theorem nodup_inj {α β:Type} {f:α→β}:∀ {l:List α},(l.map f).Nodup→∀ a∈l,∀ b∈l,f a=f b→a=b
 | [],_,a,ha,_,_,_=>by simp at ha
 | x :: r,h,a,ha,b,hb,hf=>by
  rw [List.map_cons,List.nodup_cons] at h;rcases List.mem_cons.1 ha with rfl | ha' <;> rcases List.mem_cons.1 hb with rfl | hb'
  ·rfl
  ·exact absurd (List.mem_map.2 ⟨b,hb',hf.symm⟩) h.1
  ·exact absurd (List.mem_map.2 ⟨a,ha',hf⟩) h.1
  ·exact nodup_inj h.2 a ha' b hb' hf
theorem sorted_unique_ver {xs ys:List License} (hp:ys.Perm xs) (hs:ys.Pairwise (fun a b=>verLt b a=false)) (hn:(xs.map License.version).Nodup):ys=sortS verLt xs:=by
 have hO:SWO verLt:=⟨fun x=>by simp [verLt],fun x y z h1 h2=>by simp [verLt] at *;omega,fun x y z h1 h2=>by simp [verLt] at *;omega⟩
 refine List.Perm.eq_of_pairwise (le:=fun a b=>verLt b a=false) ?_ hs (sortS_sorted hO xs) (hp.trans (sortS_perm verLt xs).symm);intro a b ha hb h1 h2;refine nodup_inj hn a (hp.mem_iff.1 ha) b ((sortS_perm verLt xs).mem_iff.1 hb) ?_;simp [verLt] at h1 h2;omega
theorem sortVer {B:Nat} {E:TypeId→Prop} {w:World} {v:Value} {xs:List License} (h:OwnL B E 106 w v xs) (hE:E 106) (hne:xs≠[]) (hn:(xs.map License.version).Nodup) (hlen:xs.length < 4611686018427387904) :
  Calls Tryz.prog 220 #[v,.func (.func 221) #[] #[]] w fun e w'=>e=.returned (.tuple #[])∧OwnL B E 106 w' v (sortS verLt xs)∧Below B w w'∧Agree B (·=106) w w':=by
 obtain ⟨g,cap,d,rfl,hg,hB,hd,hH,hpost⟩:=h.sorted hE encLic (fun _=>rfl) (by decide) ofLic hne;have hds:d.size=xs.length:=by rw [← hd];simp
 have hO:SWO (ltOf fun (x y:License×Hd)=>cmpI x.1.version y.1.version):=by
  have e:(ltOf fun (x y:License×Hd)=>cmpI x.1.version y.1.version)=fun x y=>verLt x.1 y.1:=by funext x y;exact cmpI_neg _ _
  rw [e];exact ⟨fun x=>by simp [verLt],fun x y z h1 h2=>by simp [verLt] at *;omega,fun x y z h1 h2=>by simp [verLt] at *;omega⟩
 refine (AnyQ.slices_SortFunc Tryz.sortLicense (Lay.n License) Tryz.isAgg106 Tryz.sizeOf106 encLic (fun _=>rfl) (fun x v hv=>by simp [encLic] at hv;rcases hv with rfl | rfl | rfl | rfl <;> rfl) (fun x y=>cmpI x.1.version y.1.version) hO 221 #[] g 0 cap d w
  (enters_of Tryz.func221 (by kernel_rfl) rfl) (fun _ _ _ _ x y=>(lessVer x y _).mono fun _ _ h=>h) hH hg (by omega)).mono ?_
 rintro e w' ⟨rfl,d',m,os,hp,hs,rfl⟩;obtain ⟨hp1,-,hp2⟩:=hp;have e1:∀ (a:Array (License×Hd)) (n:Nat),n=a.size→(a.extract 0 n).toList=a.toList:=by intro a n hn;subst hn;simp
 rw [e1 d' _ hp1.symm,e1 d _ rfl] at hp2;obtain ⟨p1,p2,p3⟩:=hpost d' m os hp2;refine ⟨rfl,?_,p2,p3⟩;have e2:d'.toList.map Prod.fst=sortS verLt xs:=by
  refine sorted_unique_ver (by rw [← hd];exact hp2.map _) ?_ hn;rw [List.pairwise_map,List.pairwise_iff_getElem];intro i j hi hj hij;have h1:=hs i j (Nat.zero_le _) hij (by simpa [hp1] using hj);rw [getElem!_pos d' j (by simpa using hj),getElem!_pos d' i (by simpa using hi)] at h1;have h2:decide (cmpI d'[j].1.version d'[i].1.version < 0)=false:=h1;rw [cmpI_neg] at h2;simpa [verLt] using h2
 rw [e2] at p1;exact p1
end Go.Proofs.YtcbopdbbcgdkcaaGreatDoor
namespace Go.Proofs.YtcbopdbbcgdkcaaGreatDoor
open Go Go.RowKit Go.ChangeShapes

def laterIs (x y:License):Bool:=seq y.family x.family && decide (x.version≤y.version)
def laterL (c:Catalog) (x:License):List License:=sortS verLt (c.licenses.filter (laterIs x))
def laterC (c:Catalog) (nm:ByteArray):Option (List ByteArray):=(findC c nm).map fun x=>(laterL c x).map License.name
def laterE (c:Catalog) (nm:ByteArray):Int :=
 match findC c nm with
 | none=>7
 | some _=>0
theorem find_check {c:Catalog} {nm:ByteArray} {x:License} (h:findC c nm=some x):checkC c=0∧lookL nm c.licenses=some x:=by
 unfold findC at h;split at h
 ·cases h
 ·rename_i h2;exact ⟨by simpa using h2,h⟩
theorem look_mem {nm:ByteArray} {x:License}:∀ {ls:List License},lookL nm ls=some x→x∈ls∧x.name=nm
 | y :: r,h=>by
  unfold lookL at h;split at h
  ·rename_i he;cases h;exact ⟨by simp,he⟩
  ·obtain ⟨a,b⟩:=look_mem h;exact ⟨by simp [a],b⟩
theorem lic_pairs:∀ {xs pre:List License},firstErr licErr pre xs=0→xs.Pairwise (fun a b=>¬ (a.family=b.family∧a.version=b.version))∧∀ x∈xs,∀ y∈pre,¬ (y.family=x.family∧y.version=x.version)
 | [],_,_=>⟨List.Pairwise.nil,fun x hx=>by simp at hx⟩
 | x :: r,pre,h=>by
  unfold firstErr at h;split at h
  ·rename_i h1;rw [h] at h1;cases h1
  ·rename_i h1
   obtain ⟨i1,i2⟩:=lic_pairs h;have h0:licErr pre x=0:=by simpa using h1
   have hx:∀ y∈pre,¬ (y.family=x.family∧y.version=x.version):=by
    unfold licErr at h0;repeat' split at h0
    all_goals try (cases h0;done)
    rename_i ha
    intro y hy hc;apply ha;rw [List.any_eq_true];exact ⟨y,hy,by simp [hc.1,hc.2]⟩
   refine ⟨List.pairwise_cons.2 ⟨fun b hb hc=>i2 b hb x (by simp) hc,i1⟩,fun z hz y hy=>?_⟩;rcases List.mem_cons.1 hz with rfl | hz
   ·exact hx y hy
   ·exact i2 z hz y (by simp [hy])
theorem later_versions {c:Catalog} (h:checkC c=0) (x:License):((c.licenses.filter (laterIs x)).map License.version).Nodup:=by
 rw [List.nodup_iff_pairwise_ne,List.pairwise_map];refine List.Pairwise.imp_of_mem ?_ ((lic_pairs (check_parts h).1).1.filter _);intro a b ha hb hp he;have fa:=(List.mem_filter.1 ha).2;have fb:=(List.mem_filter.1 hb).2;simp only [laterIs,Bool.and_eq_true,seq_eq,decide_eq_true_eq] at fa fb;exact hp ⟨by rw [fa.1,fb.1],he⟩
theorem later_self {c:Catalog} {nm:ByteArray} {x:License} (h:lookL nm c.licenses=some x):c.licenses.filter (laterIs x)≠[]:=by
 intro he;have:x∈c.licenses.filter (laterIs x):=List.mem_filter.2 ⟨(look_mem h).1,by simp [laterIs,seq_eq]⟩;rw [he] at this;simp at this
theorem licRow:(Tryz.prog.info? 106).map (fun i=>(i.zero,i.size,i.bytes))=some (some (.agg #[.string ByteArray.empty,.string ByteArray.empty,.int .i64 0,.string ByteArray.empty]),4,56):=by kernel_rfl
theorem app_lic {ops:Array Oper} {rest:List Oper} {o:Oper} {a:Act} {Q:Exit→Act→World→Prop} {w:World} (hgd:o.guard=none) (s x:Operand)
  (ho:o.op=.call { callee:=.builtin .append,args:=#[s,x],argTypes:=#[22,22] })
  (B:Nat) (E:TypeId→Prop) (v:Value) (xs:List License) (hs:a.eval s=v) (hE:E 106) (hown:OwnL B E 106 w v xs)
  (news:Array Value) (y:License) (hx:a.eval x=.slice (some ⟨w.heap.size,0,none⟩) 1 1) (hn:news.size=Lay.n License) (h1:∀ u∈news.toList,u.oneCell'=true)
  (hy:∀ w'',Agree B E (w.alloc (.cells news 106)) w''→Lay.is w'' (fun j=>news.toList[j]?) y)
  (hb:xs.length≤1000000000) (hB:B≤w.heap.size)
  (h:∀ v' w',OwnL B E 106 w' v' (xs++[y])→Below B w w'→Agree B (·=106) w w'→w.heap.size < w'.heap.size→wpList Tryz.prog ops Q rest (a.put o.dst v') w') :
  wpList Tryz.prog ops Q (o :: rest) a (w.alloc (.cells news 106)) :=
 wp_appL licRow rfl (by decide) Tryz.underlying22 hgd s x ho B E v xs hs hE hown news y hx hn h1 hy (by omega) hB h
theorem zqproy0 {p:Prop} (h:p:=by
 refine ⟨k+1,by omega,by go_num,by have hq:=hbr.out;exact bw,?_⟩;show OwnL _ _ _ _ _ _;rw [HT.out,HP.out];simpa using HO.out.below bw):p:=h
theorem Later_p (w:World) (x0:Value) (c:Catalog) (nm:ByteArray) (hg:Glob w) (h:Is w x0 c) :
  Calls Tryz.prog 177 #[x0,.string nm] w fun e w'=>∃ s,e=.returned (.tuple #[s,.int .i64 (laterE c nm)])∧Is w' s ((laterC c nm).getD [])∧Below w.heap.size w w':=by
 have HI:=zh h;obtain ⟨a0,c0,a1,c1,a2,c2,a3,c3,rfl,l0,m0,r0,l1,m1,r1,l2,m2,r2,l3,m3,r3⟩:=Catalog.inv h;have R0:=zh r0;have n0:c.licenses.length≤9223372036854775807:=by simp only [maxLen] at m0;omega
 clear h r0 r1 r2 r3 m0 m1 m2 m3 l1 l2 l3 l0;go_enter Tryz.func177,Tryz.ntmps177;go_wp2_with fail
 refine (Find_p _ _ c _ (hg.mono bw) (HI.out.mono bw)).mono ?_;rintro e w1 ⟨rfl,hb1⟩;have d0:=kb w hb1 0 (.slice a0 c.licenses.length c0);have hbw:Below w.heap.size w w1:=bw;have HB1:=zh hbw;have hz1:w.heap.size < w1.heap.size:=cell_lt d0;clear hb1 hbw;unfold licV;cases q1:findC c nm with
 | none =>
  have HF:Hid (laterC c nm=none):=by show _=_;unfold laterC;rw [q1];rfl
  have HE:Hid (laterE c nm=7):=by show _=_;unfold laterE;rw [q1]
  simp only [Option.isSome_none,Option.getD_none];go_wp2;refine bodyPost_ret (v:=.tuple #[.slice none 0 0,.int .i64 7]) (by simp [results,Tryz.results177,go_sem]) rfl ⟨.slice none 0 0,by rw [HE.out],by rw [HF.out];exact nil_mk _,by have hq:=HB1.out;have hqs:=hq.size;exact bw⟩
 | some z =>
 simp only [Option.isSome_some,Option.getD_some];have HF:Hid (laterC c nm=some ((laterL c z).map License.name)):=by show _=_;unfold laterC;rw [q1];rfl
 have HE:Hid (laterE c nm=0):=by show _=_;unfold laterE;rw [q1]
 obtain ⟨hck,hlk⟩:=find_check q1;have h32:c.licenses.length≤32:=(check_parts hck).2.2.2.2.1;have HNE:=zh (later_self hlk);have HND:=zh (later_versions hck z);clear q1 hck hlk;go_wp2;have hbA:Below w1.heap.size w1 (w1.alloc (.cells #[.string z.name,.string z.family,.int .i64 z.version,.string z.text] 106)):=bw;have d0':=kept hbA d0;have e1':(w1.alloc (.cells #[.string z.name,.string z.family,.int .i64 z.version,.string z.text] 106)).cell? ⟨w1.heap.size,1,none⟩=some (.string z.family):=by simp
 have e2':(w1.alloc (.cells #[.string z.name,.string z.family,.int .i64 z.version,.string z.text] 106)).cell? ⟨w1.heap.size,2,none⟩=some (.int .i64 z.version):=by simp
 have hbw2:Below w.heap.size w (w1.alloc (.cells #[.string z.name,.string z.family,.int .i64 z.version,.string z.text] 106)):=by have hq:=HB1.out;have hqs:=hq.size;exact bw
 have HB2:=zh hbw2;clear hbA hbw2 d0;generalize w1.alloc (.cells #[.string z.name,.string z.family,.int .i64 z.version,.string z.text] 106)=w2 at *;have hy1:w.heap.size < w2.heap.size:=cell_lt d0';have hy2:w1.heap.size < w2.heap.size:=cell_lt e1';go_loopw [8,25] (fun vo kv wr=>∃ k:Nat,k≤c.licenses.length∧kv=.int .i64 k∧Below w2.heap.size w2 wr∧Hid (OwnL w2.heap.size (·=106) 106 wr vo ((c.licenses.take k).filter (laterIs z)))) (fun _ kv _=>c.licenses.length - (intOf kv).toNat)
 case atStart=>exact ⟨0,by omega,rfl,Below.refl _ _,OwnL.nil _ _ _ _⟩
 case round =>
  obtain ⟨k,hk,rfl,hbr0,HO⟩:=hrel;have hbr:=zh hbr0;have hwr:w2.heap.size≤wr.heap.size:=hbr0.size;clear hbr0;by_cases hki:k < c.licenses.length
  ·have g0:=kept hbr.out d0';have g1:=kept hbr.out e1';have g2:=kept hbr.out e2';have hs1:w.heap.size < wr.heap.size:=cell_lt g0;have hs2:w1.heap.size < wr.heap.size:=cell_lt g1;obtain ⟨x,hx⟩:=get_lt hki;have HT:Hid ((c.licenses.take (k+1)).filter (laterIs z)=(c.licenses.take k).filter (laterIs z)++(if laterIs z x then [x] else [])):=by
    show _=_;rw [take_at hx,List.filter_append];simp [List.filter_cons]
   obtain ⟨b,off,rfl,hb,y0',y1',y2',y3',ys0,ys1,ys2,ys3⟩:=License.at_row (R0.out.mono HB2.out) hx;have y0:=kept hbr.out y0';have y1:=kept hbr.out y1';have y2:=kept hbr.out y2';have y3:=kept hbr.out y3';have HS:=zh (And.intro ys0 (And.intro ys1 (And.intro ys2 ys3)));have hs3:b < wr.heap.size:=cell_lt y0;clear hx y0' y1' y2' y3' ys0 ys1 ys2 ys3;cases q1:(x.family.toList == z.family.toList);case true =>
    cases q2:decide (z.version≤x.version);case true =>
     have HP:Hid (laterIs z x=true):=by show _=_;unfold laterIs seq;rw [q1,q2];rfl
     go_wp2_with (at_builtin;refine app_lic rfl _ _ rfl w2.heap.size (·=106) _ _ rfl rfl (HO.out.below ?c0) _ x ?cx rfl ?c1 ?c2 ?c3 ?c4 ?_)
     case c0=>exact bw
     case cx=>show Value.slice (some ⟨wr.heap.size+1,0,none⟩) 1 1=_;simp
     case c1=>exact ⟨rfl,rfl,rfl,rfl⟩
     case c2 =>
      intro w'' hA;obtain ⟨s0,s1,s2,s3⟩:=HS.out;exact License.is_iff.2 ⟨rfl,rfl,rfl,rfl,s0,s1,s2,s3⟩
     case c3=>exact Nat.le_trans (List.length_filter_le _ _) (by rw [List.length_take];omega)
     case c4=>simp;omega
     intro v' w3 ho hb4 hag hsz;have hsz':wr.heap.size < w3.heap.size:=by first | omega | (simp at hsz;omega)
     have HO3:=zh ho;have hb5:Below w2.heap.size w2 w3:=by
      have hq:=hbr.out;have h6:Below w2.heap.size w2 (wr.alloc (.cells #[.string x.name,.string x.family,.int .i64 x.version,.string x.text] 106)):=bw;exact h6.trans hb4
     have HB5:=zh hb5;clear ho hb4 hag hsz hb5;go_wp2;go_roundw
     case rel =>
      refine ⟨k+1,by omega,by go_num,HB5.out,?_⟩;show OwnL _ _ _ _ _ _;rw [HT.out,HP.out];exact HO3.out
     case measure=>exact zm
    have HP:Hid (laterIs z x=false):=by show _=_;unfold laterIs seq;rw [q1,q2];rfl
    go_wp2;go_roundw
    case rel =>exact zqproy0
    case measure=>exact zm
   have HP:Hid (laterIs z x=false):=by show _=_;unfold laterIs seq;rw [q1];rfl
   go_wp2;go_roundw
   case rel =>exact zqproy0
   case measure=>exact zm
  ·have HQ:Hid ((c.licenses.take k).filter (laterIs z)=c.licenses.filter (laterIs z)):=by
    show _=_;rw [List.take_of_length_le (by omega)]
   rw [HQ.out] at HO;have HB3:=zh (HB2.out.trans (hbr.out.mono HB2.out.size));have hle:(c.licenses.filter (laterIs z)).length≤32:=Nat.le_trans (List.length_filter_le _ _) h32;clear HQ;go_wp2_with fail
   refine (sortVer HO.out rfl HNE.out HND.out (by omega)).mono ?_;rintro e w4 ⟨rfl,ho4,hb4,-⟩;have hlen:(laterL c z).length≤32:=by unfold laterL;rw [(sortS_perm _ _).length_eq];exact hle
   have HI4:=zh (ho4.is);have HB4:=zh (HB3.out.trans (hb4.mono (Nat.le_of_lt hy1)));clear ho4 hb4 HO hle;change Hid (Is w4 _ (laterL c z)) at HI4;generalize laterL c z=ls at *;obtain ⟨la,lc,hv,hlc,hcm,hlr⟩:=list_inv HI4.out;subst hv;have LR:=zh hlr;clear hlr HI4;go_wp2;go_loopw [11,50] (fun vo kv wr=>∃ k:Nat,k≤ls.length∧kv=.int .i64 k∧Below w4.heap.size w4 wr∧Hid (wr.ownsRow w4.heap.size 9 1 vo k ((ls.map fun x=>Value.string x.name).take k))) (fun _ kv _=>ls.length - (intOf kv).toNat)
   case atStart=>exact ⟨0,by omega,rfl,Below.refl _ _,by show World.ownsRow _ _ _ _ _ _ _;exact ⟨rfl,.inl ⟨rfl,rfl⟩⟩⟩
   case round =>
    obtain ⟨j,hj,rfl,hbr1,HO⟩:=hrel;have hbs:=zh hbr1;have hws:w4.heap.size≤wr.heap.size:=hbr1.size;clear hbr1;by_cases hji:j < ls.length
    ·obtain ⟨x,hx⟩:=get_lt hji;have HT:Hid ((ls.map fun x=>Value.string x.name).take (j+1)=(ls.map fun x=>Value.string x.name).take j++[.string x.name]):=by
      show _=_;exact take_at (by simp [hx])
     obtain ⟨b,off,rfl,hb,y0',y1',y2',y3',ys0,ys1,ys2,ys3⟩:=License.at_row LR.out hx;have y0:=kept hbs.out y0';have y1:=kept hbs.out y1';have y2:=kept hbs.out y2';have y3:=kept hbs.out y3';have hs3:b < wr.heap.size:=cell_lt y0;clear hx y0' y1' y2' y3';go_wp2_with (at_builtin;refine app_str rfl _ _ rfl w4.heap.size _ _ _ rfl (World.ownsRow.alloc HO.out _) x.name ?e0 ?e1 ?e2 ?_)
     case e0=>show Value.slice (some ⟨wr.heap.size+1,0,none⟩) 1 1=_;simp
     case e1=>omega
     case e2=>simp;omega
     intro v' w5 ho hgr _;have hb5:Below w4.heap.size w4 w5:=by
      have hq:=hbs.out;have h6:Below w4.heap.size w4 (wr.alloc (.cells #[.string x.name,.string x.family,.int .i64 x.version,.string x.text] 106)):=bw;exact (h6.alloc (by simp;omega) _).app hgr (by simp;omega) HO.out
     have HB5:=zh hb5;have HO5:=zh ho;clear ho hgr hb5;go_wp2;go_roundw
     case rel =>
      refine ⟨j+1,by omega,by go_num,HB5.out,?_⟩;show World.ownsRow _ _ _ _ _ _ _;rw [HT.out];exact HO5.out
     case measure=>exact zm
    ·obtain rfl:j=ls.length:=by omega
     go_wp2;refine bodyPost_ret (v:=.tuple #[u11,.int .i64 0]) (by simp [results,Tryz.results177,go_sem]) rfl ⟨u11,by rw [HE.out],?_,by have hq:=HB4.out;have hqs:=hq.size;have hr:=hbs.out;have hrs:=hr.size;exact bw⟩;rw [HF.out];have ho:=HO.out;rw [List.take_of_length_le (by simp)] at ho;refine own_str (B:=w4.heap.size) (by simpa [List.map_map,Function.comp_def] using ho) ?_;intro s hs;obtain ⟨x,hx,rfl⟩:=List.mem_map.1 hs;obtain ⟨i,hi⟩:=List.getElem?_of_mem hx;obtain ⟨_,_,_,_,_,_,_,_,h,-⟩:=License.at_row LR.out hi;exact h
end Go.Proofs.YtcbopdbbcgdkcaaGreatDoor
namespace Go.Proofs.YtcbopdbbcgdkcaaGreatDoor
open Go

def knownN (c:Catalog) (e:LExpr):Bool:=emp e.name || (liftsC c ⟨e.name,e.exc⟩).isSome
def checkE (c:Catalog) (e:LExpr):Int :=
 if !(checkC c == 0) then 1 else if !(formE e == 0) then formE e else if (nodesE e).all (knownN c) then 0 else 7
mutual
def meanP (c:Catalog):LExpr→List (List Term)×Int
 | .mk k n x ks =>
  if k == 0 then ([[⟨n,x⟩]],0)
  else if k == 1 then sizedP (minimalP (((laterC c n).getD []).map fun s=>[⟨s,ByteArray.empty⟩]))
  else meanKs c k true [] ks
def meanKs (c:Catalog) (k:Int) (first:Bool) (out:List (List Term)):List LExpr→List (List Term)×Int
 | []=>sizedP (minimalP out)
 | e :: r =>
  let l:=meanP c e
  if !(l.2 == 0) then ([],l.2)
  else if k == 3 then meanKs c k false (out++l.1) r
  else if first then meanKs c k false l.1 r
  else
   let p:=sizedP (minimalP (pairsA out l.1))
   if !(p.2 == 0) then ([],p.2) else meanKs c k false p.1 r
end
def ofP (c:Catalog) (e:LExpr):List (List Term)×Int:=if !(checkE c e == 0) then ([],checkE c e) else meanP c e
end Go.Proofs.YtcbopdbbcgdkcaaGreatDoor
