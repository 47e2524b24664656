/- Lemmas. -/
import Derived.Test.YtcbopdbbcgdkcaaGreatDoorLDuE
set_option linter.all false
set_option maxRecDepth 100000
set_option maxHeartbeats 16000000
namespace Go.Proofs.YtcbopdbbcgdkcaaGreatDoor
open Go Go.RowKit Go.ChangeShapes Go.Lib Go.Shelf
attribute [local go_sem] Oper.semAt_some

def MarksD (B:Nat):List Deferred→World→Prop
 | [],_=>True
 | d :: ds,W=>(∃ D,d={ target:=.collected D,args:=#[] }∧B≤D∧W.heap[D]?=some (.deferred (some [])))∧d ∉ ds∧MarksD B ds W
theorem MarksD.keep {B B':Nat} {W W':World} (hB:B'≤B) (hk:KeepsFrom B' W W'):∀ {ds:List Deferred},MarksD B ds W→MarksD B ds W'
 | [],_=>trivial
 | d :: ds,⟨⟨D,h1,h2,h3⟩,h4,h5⟩=>⟨⟨D,h1,h2,hk.same _ _ (Nat.le_trans hB h2) h3 rfl⟩,h4,MarksD.keep hB hk h5⟩
theorem MarksD.lt {B:Nat} {W:World}:∀ {ds:List Deferred},MarksD B ds W→∀ D,({ target:=.collected D,args:=#[] }:Deferred)∈ds→D < W.heap.size
 | d :: ds,⟨⟨D,h1,h2,h3⟩,h4,h5⟩,D',hm=>by
  rcases List.mem_cons.1 hm with h | h
  ·rw [h1] at h;cases h;exact heap_lt h3
  ·exact MarksD.lt h5 D' h
theorem MarksD.put {B D:Nat} {W:World} {o:Obj}:∀ {ds:List Deferred},({ target:=.collected D,args:=#[] }:Deferred) ∉ ds→MarksD B ds W→MarksD B ds (W.putObj D o)
 | [],_,_=>trivial
 | d :: ds,hn,⟨⟨E,h1,h2,h3⟩,h4,h5⟩=>by
  rw [List.mem_cons,not_or] at hn;have hne:E≠D:=fun e=>hn.1 (by rw [h1,e]);exact ⟨⟨E,h1,h2,(World.putObj_heap_other hne).trans h3⟩,h4,MarksD.put hn.2 h5⟩
theorem leaves_marks {F:Fence} {n:Nat} {P:Program} {fn:Func} {tmps:Array Value} {R:Ending→World→Prop} {B:Nat} {β:Type} {I:β→World→Prop} (hI:OwnFrom B I) (s:β)
  (hr:∀ W,I s W→LeavesInM F n P fn tmps R [] .returning W):∀ (ds:List Deferred) (W:World),MarksD B ds W→I s W→LeavesInM F n P fn tmps R ds .returning W
 | [],W,_,h=>hr W h
 | d :: ds,W,⟨⟨D,h1,h2,h3⟩,h4,h5⟩,h=>by
  refine ⟨by simp,.inl ⟨D,_,by rw [h1],run_takeDeferred h3,?_⟩⟩;exact leaves_marks hI s hr ds _ (MarksD.put (h1 ▸ h4) h5) (hI.putObj _ h h2 h3 rfl)
theorem flatMap_len {α β:Type} {f:α→List β} {m:Nat}:∀ (l:List α),(∀ a∈l,(f a).length≤m)→(l.flatMap f).length≤l.length * m
 | [],_=>by simp
 | a :: l,h=>by
  have h1:=flatMap_len (f:=f) (m:=m) l (fun b hb=>h b (List.mem_cons_of_mem _ hb));have h2:=h a (List.mem_cons_self ..);rw [List.flatMap_cons,List.length_append,List.length_cons,Nat.succ_mul];omega
theorem pairsF_len (x:List Fact) (co:ByteArray):(pairsF x co).length≤x.length * x.length:=by
 unfold pairsF;refine Nat.le_trans (flatMap_len (m:=x.length) _ (fun a _=>?_)) (Nat.mul_le_mul_right _ (List.length_filter_le _ _));rw [List.length_map];exact List.length_filter_le _ _
theorem keeps_of_below {B:Nat} {W W':World} (h:Below W.heap.size W W'):KeepsFrom B W W':=⟨h.size,fun k o _ h0 _=>by rw [h.block k (heap_lt h0)];exact h0⟩
def KqD (lo:Nat) (M:Nat→Prop) (B:Nat) (A A':World):Prop:=KvD lo M A A'∧KeepsFrom B A A'
theorem KqD.refl (lo:Nat) (M:Nat→Prop) (B:Nat) (A:World):KqD lo M B A A:=⟨KvD.refl _ _ _,KeepsFrom.refl _ _⟩
theorem KqD.trans {lo:Nat} {M:Nat→Prop} {B:Nat} {X Y Z:World} (h:KqD lo M B X Y) (k:KqD lo M B Y Z):KqD lo M B X Z:=⟨h.1.trans k.1,h.2.trans k.2⟩
theorem KqD.of_below {lo:Nat} {M:Nat→Prop} {B:Nat} {W W':World} (hlo:lo≤W.heap.size) (h:Below W.heap.size W W'):KqD lo M B W W':=⟨KvD.of_below hlo h,keeps_of_below h⟩
theorem kqd_own {β:Type} {lo:Nat} {M:Nat→Prop} {B B':Nat} {w₀:World} (hlo:lo≤w₀.heap.size) (hB:w₀.heap.size≤B'):OwnFrom B' (fun (_:β) W=>KqD lo M B w₀ W):=fun s X Y row hs hg hr=>by
 refine ⟨⟨hs.1.1.grown hg (Nat.le_trans hlo hs.1.1.size) (fun k e=>Nat.le_trans hlo (Nat.le_trans hB (hr k e).1)),fun k cs t fr hm ht hc=>?_⟩,?_⟩
 ·have h1:=hs.1.2 k cs t fr hm ht hc;refine (hg.block k (heap_lt h1) fun e=>?_).trans h1;obtain ⟨-,o,ho,hc'⟩:=hr k e.symm;rw [h1] at ho;cases ho;cases hc'
 ·refine ⟨Nat.le_trans hs.2.size hg.size,fun k o hk h0 hc=>?_⟩;have h1:=hs.2.same k o hk h0 hc;refine (hg.block k (heap_lt h1) fun e=>?_).trans h1;have:=(hr k e.symm).1;have:=heap_lt h0;omega
theorem blk4_0 (w:World) (o0:Array Value) (t0:TypeId) (o1:Array Value) (t1:TypeId) (o2:Array Value) (t2:TypeId) (o3:Array Value) (t3:TypeId):((((w.alloc (.cells o0 t0)).alloc (.cells o1 t1)).alloc (.cells o2 t2)).alloc (.cells o3 t3)).heap[w.heap.size]?=some (.cells o0 t0 (0,0)) :=
 below_blk ((zb.alloc (by simp) _).alloc (by simp) _) (World.alloc_heap_new w _)
theorem blk4_1 (w:World) (o0:Array Value) (t0:TypeId) (o1:Array Value) (t1:TypeId) (o2:Array Value) (t2:TypeId) (o3:Array Value) (t3:TypeId):((((w.alloc (.cells o0 t0)).alloc (.cells o1 t1)).alloc (.cells o2 t2)).alloc (.cells o3 t3)).heap[w.heap.size+1]?=some (.cells o1 t1 (0,0)):=by
 have h:=World.alloc_heap_new (w.alloc (.cells o0 t0)) (.cells o1 t1);rw [World.size_alloc] at h;exact below_blk (zb.alloc (by simp) _) h
theorem blk4_2 (w:World) (o0:Array Value) (t0:TypeId) (o1:Array Value) (t1:TypeId) (o2:Array Value) (t2:TypeId) (o3:Array Value) (t3:TypeId):((((w.alloc (.cells o0 t0)).alloc (.cells o1 t1)).alloc (.cells o2 t2)).alloc (.cells o3 t3)).heap[w.heap.size+1+1]?=some (.cells o2 t2 (0,0)):=by
 have h:=World.alloc_heap_new ((w.alloc (.cells o0 t0)).alloc (.cells o1 t1)) (.cells o2 t2);rw [World.size_alloc,World.size_alloc] at h;exact below_blk zb h
theorem blk4_3 (w:World) (o0:Array Value) (t0:TypeId) (o1:Array Value) (t1:TypeId) (o2:Array Value) (t2:TypeId) (o3:Array Value) (t3:TypeId):((((w.alloc (.cells o0 t0)).alloc (.cells o1 t1)).alloc (.cells o2 t2)).alloc (.cells o3 t3)).heap[w.heap.size+1+1+1]?=some (.cells o3 t3 (0,0)):=by
 have h:=World.alloc_heap_new (((w.alloc (.cells o0 t0)).alloc (.cells o1 t1)).alloc (.cells o2 t2)) (.cells o3 t3);rw [World.size_alloc,World.size_alloc,World.size_alloc] at h;exact h
theorem roundInR {n:Nat} {P:Program} {l:Nat} {f:FuncId} {tmps:Array Value} {assign body:Code} {w:World} {R:Ending→World→Prop} (l2:Nat) (h:RoundIn Fence.wide n P l f tmps assign body w R):RoundIn (Fence.wide.inRound l2) n P l f tmps assign body w R:=h
theorem cell_same {W W':World} {g j:Nat} (h:W'.heap[g]?=W.heap[g]?):W'.cell? ⟨g,j,none⟩=W.cell? ⟨g,j,none⟩:=by unfold World.cell?;rw [h]
theorem lenCl (V:World) (a:Option Addr) (n c:Nat) (hn:n≤9223372036854775807):(Builtin.len_ #[24] 3 #[.slice a n c]).run Tryz.prog V=.ok (.int .i64 n) V:=by
 simp [go_sem,Builtin.len_,Tryz.underlying24,hn]
theorem zrdutt0 {p:Prop} (h:p:=by
 clear hk2 hp;gi_wp2_with ((try refine ⟨hdd _,?_⟩);refine hR.mono ?_;clear hR;rintro e w5 ⟨rfl,hJ5,hk5,hf5⟩)
 have HKe:Hid (KqD w.heap.size M W.heap.size w4 w5):=zh (HKd.out.trans ⟨hk5,hf5⟩);have HJe:=zh hJ5;clear hk5 hf5 hJ5 hyy;go_roundw
 case rel=>exact ⟨q+1,_,by omega,by go_num,HP5,zh (by rw [List.length_append];have:=HL4.out;simp;omega),HJe,HKe⟩
 case measure=>exact zm):p:=h
theorem dues1_all (n:Nat) (hn:1≤n) (w W0:World) (gx gy gc:Nat) (M:Nat→Prop) (hM:∀ k,M k→w.heap.size≤k) (hgx:¬ M gx) (hgy:¬ M gy) (hgc:¬ M gc) (hMb:∀ k,M k→k < W0.heap.size) (hb:Below w.heap.size w W0) (hg:Glob w)
  (c:Catalog) (a0:Option Addr) (N0 c0:Nat) (a1:Option Addr) (N1 c1:Nat) (a2:Option Addr) (N2 c2:Nat) (a3:Option Addr) (N3 c3:Nat) (hc:Is w (.agg #[.slice a0 N0 c0,.slice a1 N1 c1,.slice a2 N2 c2,.slice a3 N3 c3]) c)
  (a:Option Addr) (cx:Nat) (x:List Fact) (hx:Is w (.slice a x.length cx) x) (at':Option Addr) (ct:Nat) (yt:List (List Term)) (yo:Value) (hy:Is w (.slice at' yt.length ct) yt)
  (hcnt:cntF x=yt.length) (A C:Nat) (hA:∀ t∈yt,t.length≤A) (hC:∀ t way rel,(clausesC c t way rel).length≤C)
  (bx:W0.heap[gx]?=some (.cells #[.slice a x.length cx] 29 (0,0))) (by':W0.heap[gy]?=some (.cells #[.slice at' yt.length ct,yo] 43 (0,0))) (bc:W0.heap[gc]?=some (.cells #[.slice a0 N0 c0,.slice a1 N1 c1,.slice a2 N2 c2,.slice a3 N3 c3] 27 (0,0))) :
  SeqAllO n Tryz.prog 129 #[.pointer (some ⟨gx,0,none⟩),.pointer (some ⟨gy,0,none⟩),.pointer (some ⟨gc,0,none⟩)] (fun d:OkD=>#[dueV d.1]) (KvD w.heap.size M) (fun zs=>zs.map (·.1)=duesF c x x yt) (x.length * (x.length * x.length * (A * C))) W0:=by
 intro l J W hW hJ hY h0;obtain ⟨_,_,hex,hnx,hmx,hrx⟩:=list_inv hx;cases hex;obtain ⟨_,_,hey,hny,hmy,hry⟩:=list_inv hy;cases hey;have hNx:x.length≤9223372036854775807:=by simp only [maxLen] at hmx;omega
 have hNy:yt.length≤9223372036854775807:=by simp only [maxLen] at hmy;omega
 have HR:=zh hrx;have HRY:=zh hry;have HXI:=zh hx;have HJ:=zh hJ;have HY:=zh hY;have H0:=zh h0;have HM:=zh hM;have HMB:Hid (∀ k,M k→k < W.heap.size):=zh (fun k hk=>Nat.lt_of_lt_of_le (hMb k hk) hW.size);have HGX:=zh hgx;have HGY:=zh hgy;have HGC:=zh hgc;have HX:=zh (below_blk hW bx);have HYB:=zh (below_blk hW by');have HCB:=zh (below_blk hW bc);have HBW:Hid (Below w.heap.size w W):=zh (hb.trans (hW.mono hb.size));have hzw:w.heap.size≤W.heap.size:=HBW.out.size;have HCN:=zh hcnt;have HA:=zh hA;have HCL:Hid (∀ V (t:Term) (way rel:Int),Below w.heap.size w V→W.heap.size≤V.heap.size→Calls Tryz.prog 37 #[.agg #[.slice a0 N0 c0,.slice a1 N1 c1,.slice a2 N2 c2,.slice a3 N3 c3],.agg #[.string t.license,.string t.exception],.int .i64 way,.int .i64 rel] V fun e w'=>CO W.heap.size (clausesC c t way rel) V e w') :=
  zh (fun V t way rel hbv hzv=>Clauses_o W.heap.size V _ c t way rel (hg.mono hbv) (hc.mono hbv) hzv)
 have HCC:=zh hC;have hdd:∀ k:Nat,(Fence.wide.depth.isSome=true→1≤k):=fun k h=>by cases h
 clear hrx hry hx hy hJ hY h0 hM hgx hgy hgc bx by' bc hb hW hMb hg hc hcnt hA hC hnx hmx hny hmy
 generalize hN:x.length=N at *;have HN:=zh hN;generalize hNY:yt.length=NY at *;have HNY:=zh hNY;clear hN hNY;obtain ⟨B1,hB1⟩:∃ B1,B1=A * C:=⟨_,rfl⟩
 obtain ⟨B2,hB2⟩:∃ B2,B2=N * N * B1:=⟨_,rfl⟩
 rw [← hB1,← hB2] at HY;have HB1:=zh hB1;have HB2:=zh hB2;clear hB1 hB2;have x0:=objcell HX.out (j:=0) rfl;have hsx:=heap_lt HX.out;refine callsIn_of_wp_marks Tryz.func129 rfl trivial ?_ rfl;simp only [Tryz.ntmps129,List.size_toArray,List.length_cons,List.length_nil,Nat.reduceAdd,Nat.reduceSub,Array.replicate_succ,Array.replicate_zero,List.push_toArray,List.append_toArray,List.nil_append,List.cons_append];gi_wp2
 clear x0 hsx;have hba:Below W.heap.size W (W.alloc (.cells #[.func (.yield l) #[] #[]] 80)):=zb;have HXa:=zh (below_blk hba HX.out);have HYa:=zh (below_blk hba HYB.out);have HCa:=zh (below_blk hba HCB.out);have HYL:Hid ((W.alloc (.cells #[.func (.yield l) #[] #[]] 80)).heap[W.heap.size]?=some (.cells #[.func (.yield l) #[] #[]] 80 (0,0))):=zh (World.alloc_heap_new W _);have HJa:Hid (J [] (W.alloc (.cells #[.func (.yield l) #[] #[]] 80))):=zh (HJ.out [] W _ none H0.out (grown_below hba) (fun r e=>by cases e));have HBa:Hid (Below w.heap.size w (W.alloc (.cells #[.func (.yield l) #[] #[]] 80))):=zh (HBW.out.trans (hba.mono hzw));have HZa:Hid (W.heap.size < (W.alloc (.cells #[.func (.yield l) #[] #[]] 80)).heap.size):=zh (heap_lt HYL.out);have HMY:Hid (¬ M W.heap.size):=zh (fun hm=>Nat.lt_irrefl _ (HMB.out _ hm));clear hba HX HYB HCB H0 HBW;generalize (W.alloc (.cells #[.func (.yield l) #[] #[]] 80))=Wa at *
 obtain ⟨I,hI⟩:∃ I:Act→World→Prop,∀ a' W',I a' W'↔∃ (u7 u8 u19 u20 u21 u22 u23 u24 u25 u26 u27 u28 u29 u30 u31 u32 u33 u34 u35 u81:Value) (ds:List Deferred) (k:Nat) (pre:List OkD),
   Hid (a'={ tmps:=#[.func (.yield l) #[] #[],.pointer (some ⟨gx,0,none⟩),.pointer (some ⟨gy,0,none⟩),.pointer (some ⟨gc,0,none⟩),.pointer (some ⟨W.heap.size,0,none⟩),.int .i64 (cntF (x.take k):Int),undef,u7,u8,undef,undef,undef,undef,undef,undef,undef,.slice a N cx,.int .i64 N,.int .i64 (k:Int),u19,u20,u21,u22,u23,u24,u25,u26,u27,u28,u29,u30,u31,u32,u33,u34,u35,undef,undef,undef,undef,undef,undef,undef,undef,undef,undef,undef,undef,undef,undef,undef,undef,undef,undef,undef,undef,undef,undef,undef,undef,undef,undef,undef,undef,undef,undef,undef,undef,undef,undef,undef,undef,undef,undef,undef,undef,undef,undef,undef,undef,undef,u81],defers:=ds }) ∧
   k≤N∧Hid (pre.map (·.1)=duesF c x (x.take k) yt)∧Hid (pre.length≤k * B2)∧Hid (J pre W')∧Hid (KqD w.heap.size M W.heap.size Wa W')∧Hid (MarksD W.heap.size ds W'):=⟨_,fun _ _=>Iff.rfl⟩
 have HII:=zh hI;clear hI;refine wpIn_loop I (fun a' _=>N - (intOf (a'.tmps.getD 18 undef)).toNat) ?start ?round;case start=>exact (HII.out _ _).2 ⟨_,_,_,_,_,_,_,_,_,_,_,_,_,_,_,_,_,_,_,_,[],0,[],zh rfl,by omega,zh (by simp [duesF]),zh (Nat.zero_le _),HJa,zh (KqD.refl _ _ _ _),trivial⟩
 case round =>
  intro a' wr hi;obtain ⟨u7,u8,u19,u20,u21,u22,u23,u24,u25,u26,u27,u28,u29,u30,u31,u32,u33,u34,u35,u81,ds,k,pre,hact,hk,HP,HPL,HJs,HK,HMK⟩:=(HII.out _ _).1 hi;clear hi;obtain rfl:=hact.out;clear hact;have HBr:Hid (Below w.heap.size w wr):=zh (HBa.out.trans HK.out.1.1);have hzr:W.heap.size < wr.heap.size:=Nat.lt_of_lt_of_le HZa.out HK.out.1.1.size;by_cases hki:k < N
  ·have hkz:(k:Int) < (N:Int):=by omega
   have hk0:(0:Int)≤(k:Int):=by omega
   obtain ⟨f,hf⟩:=get_lt (xs:=x) (k:=k) (by rw [HN.out];exact hki);have HSN:Hid (duesF c x (x.take (k+1)) yt=duesF c x (x.take k) yt++(if f.kind == 1 then duePart c x f ((yt.drop (cntF (x.take k))).headD []) else [])):=by show _=_;rw [take_at hf,duesF_snoc]
   have HCS:Hid (cntF (x.take (k+1))=cntF (x.take k)+if f.kind == 1 then 1 else 0):=by show _=_;rw [take_at hf,cntF_snoc]
   have HCLE:Hid (cntF (x.take (k+1))≤NY):=by
    show _≤_;rw [← HCN.out];unfold cntF;exact List.Sublist.length_le (List.Sublist.filter _ (List.take_sublist _ _))
   obtain ⟨ki,co,ou,re,wa,du,ch,⟨ek,en,ex,eks⟩,li⟩:=f;obtain ⟨bx,ox,rfl,hbx,ae,ce,al,cl,x0',x1',x2',x3',x4',x5',x6',x7',x8',x9',x10',x11',hrest⟩:=Fact.at_row HR.out hf;simp only at HSN HCS;have hsco:co.size≤maxLen:=hrest.2.1;have x0:=kept HBr.out x0';have x1:=kept HBr.out x1';have x2:=kept HBr.out x2';have x3:=kept HBr.out x3';have x4:=kept HBr.out x4';have x5:=kept HBr.out x5';have x6:=kept HBr.out x6';have x7:=kept HBr.out x7';have x8:=kept HBr.out x8';have x9:=kept HBr.out x9';have x10:=kept HBr.out x10';have x11:=kept HBr.out x11';have hsx0:=cell_lt x0;clear x0' x1' x2' x3' x4' x5' x6' x7' x8' x9' x10' x11' hf hrest hbx;generalize eks.length=E at *;generalize li.length=LI at *;generalize duesF c x (x.take k) yt=base at *;have hba:Below wr.heap.size wr (wr.alloc (.cells #[.int .i64 ki,.string co,.string ou,.int .i64 re,.int .i64 wa,.int .i64 du,.bool ch,.int .i64 ek,.string en,.string ex,.slice ae E ce,.slice al LI cl] 70)):=zb;have HKa:Hid (KqD w.heap.size M W.heap.size Wa (wr.alloc (.cells #[.int .i64 ki,.string co,.string ou,.int .i64 re,.int .i64 wa,.int .i64 du,.bool ch,.int .i64 ek,.string en,.string ex,.slice ae E ce,.slice al LI cl] 70))):=zh (HK.out.trans (KqD.of_below (by omega) hba));have HJa2:Hid (J pre (wr.alloc (.cells #[.int .i64 ki,.string co,.string ou,.int .i64 re,.int .i64 wa,.int .i64 du,.bool ch,.int .i64 ek,.string en,.string ex,.slice ae E ce,.slice al LI cl] 70))):=zh (HJ.out pre wr _ none HJs.out (grown_below hba) (fun r e=>by cases e));have HMKa:Hid (MarksD W.heap.size ds (wr.alloc (.cells #[.int .i64 ki,.string co,.string ou,.int .i64 re,.int .i64 wa,.int .i64 du,.bool ch,.int .i64 ek,.string en,.string ex,.slice ae E ce,.slice al LI cl] 70))):=zh (HMK.out.keep (Nat.le_refl _) (keeps_of_below hba));cases q0:(ki == 1);case false =>
    have q0':(ki != 1)=true:=by rw [show (ki != 1)=!(ki == 1) from rfl,q0];rfl
    have HP2:Hid (pre.map (·.1)=duesF c x (x.take (k+1)) yt):=by show _=_;rw [HSN.out,HP.out,q0];simp
    have HC2:Hid (cntF (x.take (k+1))=cntF (x.take k)):=by show _=_;rw [HCS.out,q0];rfl
    have HPL2:Hid (pre.length≤(k+1) * B2):=zh (Nat.le_trans HPL.out (Nat.mul_le_mul_right _ (by omega)));clear HSN HCS HP HPL hba HJs HK HMK;gi_wp2
    rw [← HC2.out];refine ⟨(HII.out _ _).2 ⟨_,_,_,_,_,_,_,_,_,_,_,_,_,_,_,_,_,_,_,_,ds,k+1,pre,zh rfl,by omega,HP2,HPL2,HJa2,HKa,HMKa⟩,?_⟩;simp [intOf];omega
   have hq0:ki=1:=by simpa using q0
   have HC2:Hid (cntF (x.take (k+1))=cntF (x.take k)+1):=by show _=_;rw [HCS.out,q0];rfl
   obtain ⟨alt,halt⟩:=get_lt (xs:=yt) (k:=cntF (x.take k)) (by have h1:=HCLE.out;have h2:=HC2.out;have h3:=HNY.out;omega);have HPT:Hid (duesF c x (x.take (k+1)) yt=base++duePart c x (.mk ki co ou re wa du ch (.mk ek en ex eks) li) alt):=by
    show _=_;rw [HSN.out,q0,drop_at halt];rfl
   have HAL:Hid (alt.length≤A):=zh (HA.out alt (List.mem_of_getElem? halt));have hcn:cntF (x.take k) < NY:=by have h1:=HCLE.out;have h2:=HC2.out;omega
   obtain ⟨bq,oq,rfl,hbq,aa,ca,y0',hy1,hy2,hy3⟩:=list_at HRY.out halt;have y0:=kept HBr.out y0';have hsy0:=cell_lt y0;have HTR:=zh hy3;have hT:alt.length≤9223372036854775807:=by simp only [maxLen] at hy2;omega
   clear halt hbq y0' hy1 hy2 hy3 HSN HCS;generalize cntF (x.take k)=cn at *;have HXr:=zh (HK.out.1.kept HGX.out (by decide) HXa.out);have HYr:=zh (HK.out.1.kept HGY.out (by decide) HYa.out);have gx0:=objcell HXr.out (j:=0) rfl;have gy0:=objcell HYr.out (j:=0) rfl;have hgxl:=heap_lt HXr.out;have hgyl:=heap_lt HYr.out;have hkz2:((1:Int) != 1)=false:=rfl;subst hq0;gi_wp2_with (refine ⟨trivial,?_⟩;gi_at_call 130;refine (callsIn_wide.2 (pairsP_p _ _ _ _ _)).mono ?_;rintro e w' ⟨rfl,rfl⟩)
   have hW10:Below wr.heap.size wr ((((wr.alloc (.cells #[.int .i64 1,.string co,.string ou,.int .i64 re,.int .i64 wa,.int .i64 du,.bool ch,.int .i64 ek,.string en,.string ex,.slice ae E ce,.slice al LI cl] 70)).alloc (.cells #[.slice aa alt.length ca] 59)).alloc (.cells #[.slice (some ⟨bx,ox,none⟩) N cx] 29)).alloc (.cells #[.string co] 9)):=bw;have hF7:((((wr.alloc (.cells #[.int .i64 1,.string co,.string ou,.int .i64 re,.int .i64 wa,.int .i64 du,.bool ch,.int .i64 ek,.string en,.string ex,.slice ae E ce,.slice al LI cl] 70)).alloc (.cells #[.slice aa alt.length ca] 59)).alloc (.cells #[.slice (some ⟨bx,ox,none⟩) N cx] 29)).alloc (.cells #[.string co] 9)).heap[wr.heap.size]?=some (.cells #[.int .i64 1,.string co,.string ou,.int .i64 re,.int .i64 wa,.int .i64 du,.bool ch,.int .i64 ek,.string en,.string ex,.slice ae E ce,.slice al LI cl] 70 (0,0)):=blk4_0 wr _ _ _ _ _ _ _ _;have hF8:((((wr.alloc (.cells #[.int .i64 1,.string co,.string ou,.int .i64 re,.int .i64 wa,.int .i64 du,.bool ch,.int .i64 ek,.string en,.string ex,.slice ae E ce,.slice al LI cl] 70)).alloc (.cells #[.slice aa alt.length ca] 59)).alloc (.cells #[.slice (some ⟨bx,ox,none⟩) N cx] 29)).alloc (.cells #[.string co] 9)).heap[wr.heap.size+1]?=some (.cells #[.slice aa alt.length ca] 59 (0,0)):=blk4_1 wr _ _ _ _ _ _ _ _;have hGX2:((((wr.alloc (.cells #[.int .i64 1,.string co,.string ou,.int .i64 re,.int .i64 wa,.int .i64 du,.bool ch,.int .i64 ek,.string en,.string ex,.slice ae E ce,.slice al LI cl] 70)).alloc (.cells #[.slice aa alt.length ca] 59)).alloc (.cells #[.slice (some ⟨bx,ox,none⟩) N cx] 29)).alloc (.cells #[.string co] 9)).heap[wr.heap.size+1+1]?=some (.cells #[.slice (some ⟨bx,ox,none⟩) N cx] 29 (0,0)):=blk4_2 wr _ _ _ _ _ _ _ _;have hGC2:((((wr.alloc (.cells #[.int .i64 1,.string co,.string ou,.int .i64 re,.int .i64 wa,.int .i64 du,.bool ch,.int .i64 ek,.string en,.string ex,.slice ae E ce,.slice al LI cl] 70)).alloc (.cells #[.slice aa alt.length ca] 59)).alloc (.cells #[.slice (some ⟨bx,ox,none⟩) N cx] 29)).alloc (.cells #[.string co] 9)).heap[wr.heap.size+1+1+1]?=some (.cells #[.string co] 9 (0,0)):=blk4_3 wr _ _ _ _ _ _ _ _;have HK10:Hid (KqD w.heap.size M W.heap.size Wa ((((wr.alloc (.cells #[.int .i64 1,.string co,.string ou,.int .i64 re,.int .i64 wa,.int .i64 du,.bool ch,.int .i64 ek,.string en,.string ex,.slice ae E ce,.slice al LI cl] 70)).alloc (.cells #[.slice aa alt.length ca] 59)).alloc (.cells #[.slice (some ⟨bx,ox,none⟩) N cx] 29)).alloc (.cells #[.string co] 9))):=zh (HK.out.trans (KqD.of_below (by omega) hW10));have HJ10:Hid (J pre ((((wr.alloc (.cells #[.int .i64 1,.string co,.string ou,.int .i64 re,.int .i64 wa,.int .i64 du,.bool ch,.int .i64 ek,.string en,.string ex,.slice ae E ce,.slice al LI cl] 70)).alloc (.cells #[.slice aa alt.length ca] 59)).alloc (.cells #[.slice (some ⟨bx,ox,none⟩) N cx] 29)).alloc (.cells #[.string co] 9))):=zh (HJ.out pre wr _ none HJs.out (grown_below hW10) (fun r e=>by cases e));have HM10:Hid (MarksD W.heap.size ds ((((wr.alloc (.cells #[.int .i64 1,.string co,.string ou,.int .i64 re,.int .i64 wa,.int .i64 du,.bool ch,.int .i64 ek,.string en,.string ex,.slice ae E ce,.slice al LI cl] 70)).alloc (.cells #[.slice aa alt.length ca] 59)).alloc (.cells #[.slice (some ⟨bx,ox,none⟩) N cx] 29)).alloc (.cells #[.string co] 9))):=zh (HMK.out.keep (Nat.le_refl _) (keeps_of_below hW10));have hz10:wr.heap.size+1+1+1 < ((((wr.alloc (.cells #[.int .i64 1,.string co,.string ou,.int .i64 re,.int .i64 wa,.int .i64 du,.bool ch,.int .i64 ek,.string en,.string ex,.slice ae E ce,.slice al LI cl] 70)).alloc (.cells #[.slice aa alt.length ca] 59)).alloc (.cells #[.slice (some ⟨bx,ox,none⟩) N cx] 29)).alloc (.cells #[.string co] 9)).heap.size:=heap_lt hGC2;clear hW10 hba HKa HJa2 HMKa HJs HK HMK x0 x1 x2 x3 x4 x5 x6 x7 x8 x9 x10 x11 y0 gx0 gy0 HXr HYr hgxl hgyl hkz2;generalize ((((wr.alloc (.cells #[.int .i64 1,.string co,.string ou,.int .i64 re,.int .i64 wa,.int .i64 du,.bool ch,.int .i64 ek,.string en,.string ex,.slice ae E ce,.slice al LI cl] 70)).alloc (.cells #[.slice aa alt.length ca] 59)).alloc (.cells #[.slice (some ⟨bx,ox,none⟩) N cx] 29)).alloc (.cells #[.string co] 9))=W10 at *;have HB10:Hid (Below w.heap.size w W10):=zh (HBa.out.trans HK10.out.1.1);have hzz:w.heap.size≤W10.heap.size:=HB10.out.size;have hseq:=pairs1_stops (n - 1) w W10 (wr.heap.size+1+1) (wr.heap.size+1+1+1) M HM.out (fun hm=>by have:=HMB.out _ hm;omega) (fun hm=>by have:=HMB.out _ hm;omega) (fun q hm=>by have:=HMB.out _ hm;omega) hzz _ cx x co (by rw [HN.out];exact HXI.out) (fun q v hv=>kept HB10.out hv) (by rw [HN.out];exact hGX2) hGC2;rw [HN.out] at hseq;have HF7:=zh hF7;have HF8:=zh hF8;clear hF7 hF8 hGX2 hGC2;have HM7:Hid (¬ M wr.heap.size):=zh (fun hm=>by have:=HMB.out _ hm;omega);have HM8:Hid (¬ M (wr.heap.size+1)):=zh (fun hm=>by have:=HMB.out _ hm;omega);generalize wr.heap.size=g7 at *
   refine wpIn_rangeFunc_ownH rfl hn (gf:=185) (lb:=#[.pointer (some ⟨g7+1+1,0,none⟩),.pointer (some ⟨g7+1+1+1,0,none⟩)]) rfl trivial (enters_of Tryz.func185 (by kernel_rfl) rfl)
    hseq KvD.trans (KvD.b hzz) (Below.refl _ _) (fun _=>rfl)
    (fun zs W'=>∃ pre2:List OkD,Hid (pre2.map (·.1)=base++(zs.map (fun z=>(z.1.1.2,z.2.1))).flatMap (fun p=>alt.flatMap fun t=>dueT c co p.1 p.2 t))∧Hid (pre2.length≤k * B2+zs.length * B1)∧J pre2 W'∧KqD w.heap.size M W.heap.size W10 W')
    (fun _ _ _=>False) ?own (fun _ _ _ _ _ hs _ _=>hs) ⟨pre,zh (by rw [HP.out];simp),zh (by have:=HPL.out;simp;omega),HJ10.out,KqD.refl _ _ _ _⟩
    (fun z a' W'=>∃ (ki2:Int) (co2 ou2:ByteArray) (re2 wa2 du2:Int) (ch2:Bool) (ek2:Int) (en2 ex2:ByteArray) (eks2:List LExpr) (li2:List ByteArray) (ae2:Option Addr) (ce2:Nat) (al2:Option Addr) (cl2:Nat) (B9:Nat) (v5 v16 v17 v18 v19 v20 v21 v22 v23 v24 v25 v26 v27 v28 v29 v30 v31 v32 v33 v34 v35 v36 v37 v81:Value),z.1.1.1=.agg #[.int .i64 ki2,.string co2,.string ou2,.int .i64 re2,.int .i64 wa2,.int .i64 du2,.bool ch2,.int .i64 ek2,.string en2,.string ex2,.slice ae2 eks2.length ce2,.slice al2 li2.length cl2]∧z.1.1.2=.mk ki2 co2 ou2 re2 wa2 du2 ch2 (.mk ek2 en2 ex2 eks2) li2∧inI64 re2∧ou2.size≤maxLen∧W10.heap.size≤B9∧W'.heap[B9]?=some (.cells #[.int .i64 ki2,.string co2,.string ou2,.int .i64 re2,.int .i64 wa2,.int .i64 du2,.bool ch2,.int .i64 ek2,.string en2,.string ex2,.slice ae2 eks2.length ce2,.slice al2 li2.length cl2] 70 (0,0))∧Hid (a'={ tmps:=#[.func (.yield l) #[] #[],.pointer (some ⟨gx,0,none⟩),.pointer (some ⟨gy,0,none⟩),.pointer (some ⟨gc,0,none⟩),.pointer (some ⟨W.heap.size,0,none⟩),v5,undef,.pointer (some ⟨g7,0,none⟩),.pointer (some ⟨g7+1,0,none⟩),.pointer (some ⟨B9,0,none⟩),.int .i64 z.2.1,undef,undef,undef,undef,undef,v16,v17,v18,v19,v20,v21,v22,v23,v24,v25,v26,v27,v28,v29,v30,v31,v32,v33,v34,v35,v36,v37,undef,undef,undef,undef,undef,undef,undef,undef,undef,undef,undef,undef,undef,undef,undef,undef,undef,undef,undef,undef,undef,undef,undef,undef,undef,undef,undef,undef,undef,undef,undef,undef,undef,undef,undef,undef,undef,undef,undef,undef,undef,undef,undef,v81],defers:=[] }))
    ?ownA ?assign ?body ?done ?stop
   case own =>
    rintro zs X Y row ⟨pre2,i1,i2,i3,i4⟩ hg hr;exact ⟨pre2,i1,i2,HJ.out pre2 X Y row i3 hg (fun r e=>⟨Nat.le_trans (by omega) (hr r e).1,(hr r e).2⟩),kqd_own (β:=Unit) hzz (Nat.le_refl _) () X Y row i4 hg hr⟩
   case ownA =>
    rintro z a' _ X Y row ⟨ki2,co2,ou2,re2,wa2,du2,ch2,ek2,en2,ex2,eks2,li2,ae2,ce2,al2,cl2,B9,v5,v16,v17,v18,v19,v20,v21,v22,v23,v24,v25,v26,v27,v28,v29,v30,v31,v32,v33,v34,v35,v36,v37,v81,i1,i2,i3,i4,i5,i6,i7⟩ hg hr;refine ⟨ki2,co2,ou2,re2,wa2,du2,ch2,ek2,en2,ex2,eks2,li2,ae2,ce2,al2,cl2,B9,v5,v16,v17,v18,v19,v20,v21,v22,v23,v24,v25,v26,v27,v28,v29,v30,v31,v32,v33,v34,v35,v36,v37,v81,i1,i2,i3,i4,i5,(hg.block _ (heap_lt i6) fun e=>?_).trans i6,i7⟩;obtain ⟨-,o,ho,hc'⟩:=hr _ e.symm;rw [i6] at ho;cases ho;cases hc'
   case assign =>
    rintro l2 zs ⟨⟨⟨v,u⟩,hu⟩,⟨way,hway⟩⟩ V K ⟨pre2,i1,i2,i3,i4⟩ hK;obtain ⟨ki2,co2,ou2,re2,wa2,du2,ch2,⟨ek2,en2,ex2,eks2⟩,li2⟩:=u;obtain ⟨ae2,ce2,al2,cl2,rfl,q0,q1,q2,q3,-⟩:=Fact.inv hu;have hzV:W10.heap.size≤V.heap.size:=i4.1.1.size;gi_wp2
    have hbv:Below V.heap.size V (V.alloc (.cells #[.int .i64 ki2,.string co2,.string ou2,.int .i64 re2,.int .i64 wa2,.int .i64 du2,.bool ch2,.int .i64 ek2,.string en2,.string ex2,.slice ae2 eks2.length ce2,.slice al2 li2.length cl2] 70)):=zb;refine hK _ _ (keeps_of_below hbv) (KvD.of_below (by omega) hbv) ⟨pre2,i1,i2,HJ.out pre2 V _ none i3 (grown_below hbv) (fun r e=>by cases e),i4.trans (KqD.of_below (by omega) hbv)⟩ ⟨ki2,co2,ou2,re2,wa2,du2,ch2,ek2,en2,ex2,eks2,li2,ae2,ce2,al2,cl2,V.heap.size,_,_,_,_,_,_,_,_,_,_,_,_,_,_,_,_,_,_,_,_,_,_,_,_,rfl,rfl,q3,q2,hzV,World.alloc_heap_new V _,zh rfl⟩
   case body =>
    rintro l2 zs ⟨⟨⟨v,u⟩,hu⟩,⟨way,hway⟩⟩ a' V hl2 hrec ⟨pre2,i1,i2,i3,i4⟩ ⟨ki2,co2,ou2,re2,wa2,du2,ch2,ek2,en2,ex2,eks2,li2,ae2,ce2,al2,cl2,B9,v5,v16,v17,v18,v19,v20,v21,v22,v23,v24,v25,v26,v27,v28,v29,v30,v31,v32,v33,v34,v35,v36,v37,v81,e1,e2,e3,e4,e5,e6,e7⟩ hlt;simp only at e1 e2;subst e1;subst e2;obtain rfl:=e7.out;clear e7;obtain ⟨ae2',ce2',al2',cl2',hveq,q0,q1,q2,q3,-⟩:=Fact.inv hu;have HVB:Hid (Below w.heap.size w V):=zh (HB10.out.trans i4.1.1);have HZV:Hid (W10.heap.size≤V.heap.size):=zh i4.1.1.size;have HF7V:=zh (i4.1.kept HM7.out (by decide) HF7.out);have HF8V:=zh (i4.1.kept HM8.out (by decide) HF8.out);have HYLV:=zh (i4.1.kept HMY.out (by decide) (HK10.out.1.kept HMY.out (by decide) HYL.out));have HCV:=zh (i4.1.kept HGC.out (by decide) (HK10.out.1.kept HGC.out (by decide) HCa.out));have HM9:Hid (¬ M B9):=zh (fun hm=>by have:=HMB.out _ hm;omega);have HB9:=zh e6;have HRE:=zh e3;have HOU:=zh e4;have HWY:=zh hway;have HI1:=i1;have HI2:=i2;have HIJ:=zh i3;have HI4:=zh i4;have HLT:=zh hlt;have HZL:Hid (zs.length=zs.length):=rfl;clear i1 i2 i3 i4 e6 e3 e4 hveq q0 q1 q2 q3 hrec hseq;have c8:=objcell HF8V.out (j:=0) rfl;have hl8:=heap_lt HF8V.out;generalize hTN:alt.length=TN at *;have HTN:=zh hTN;clear hTN;gi_wp2
    clear c8 hl8;gi_loopw [40] (fun kv wr=>∃ (m:Nat) (pre3:List OkD),m≤TN∧kv=.int .i64 m∧Hid (pre3.map (·.1)=(base++(zs.map (fun z=>(z.1.1.2,z.2.1))).flatMap (fun p=>alt.flatMap fun t=>dueT c co p.1 p.2 t))++(alt.take m).flatMap (fun t=>dueT c co (.mk ki2 co2 ou2 re2 wa2 du2 ch2 (.mk ek2 en2 ex2 eks2) li2) way t))∧Hid (pre3.length≤k * B2+zs.length * B1+m * C)∧Hid (J pre3 wr)∧Hid (KqD w.heap.size M W.heap.size V wr)) (fun kv _=>TN - (intOf kv).toNat)
    case atStart=>exact ⟨0,pre2,by omega,rfl,zh (by rw [HI1.out];simp),zh (by have:=HI2.out;omega),HIJ,zh (KqD.refl _ _ _ _)⟩
    case round =>
     obtain ⟨m,pre3,hm,rfl,HP3,HL3,HJ3,HK3⟩:=hrel;have HBr3:Hid (Below w.heap.size w wr):=zh (HVB.out.trans HK3.out.1.1);have hz3:V.heap.size≤wr.heap.size:=HK3.out.1.1.size;have hz3b:W10.heap.size≤wr.heap.size:=Nat.le_trans HZV.out hz3;by_cases hmi:m < TN
     ·have hmz:(m:Int) < (TN:Int):=by omega
      have hm0:(0:Int)≤(m:Int):=by omega
      obtain ⟨t,ht⟩:=get_lt (xs:=alt) (k:=m) (by rw [HTN.out];exact hmi);have HFA:=zh (flat_at (fun t=>dueT c co (.mk ki2 co2 ou2 re2 wa2 du2 ch2 (.mk ek2 en2 ex2 eks2) li2) way t) ht);obtain ⟨bt,ot,rfl,hbt,t0',t1',ts0,ts1⟩:=Term.at_row HTR.out ht;have t0:=kept HBr3.out t0';have t1:=kept HBr3.out t1';have hst:=cell_lt t0;have HB9r:=zh (HK3.out.1.kept HM9.out (by decide) HB9.out);have HCr:=zh (HK3.out.1.kept HGC.out (by decide) HCV.out);have c0':=objcell HCr.out (j:=0) rfl;have c1':=objcell HCr.out (j:=1) rfl;have c2':=objcell HCr.out (j:=2) rfl;have c3':=objcell HCr.out (j:=3) rfl;have hlc:=heap_lt HCr.out;have f3:=objcell HB9r.out (j:=3) rfl;have hl9:=heap_lt HB9r.out;have HTS:=zh (And.intro ts0 ts1);clear ht t0' t1' hbt ts0 ts1;have hbb:Below wr.heap.size wr (wr.alloc (.cells #[.string t.license,.string t.exception] 61)):=zb;have hB12:(wr.alloc (.cells #[.string t.license,.string t.exception] 61)).heap[wr.heap.size]?=some (.cells #[.string t.license,.string t.exception] 61 (0,0)):=World.alloc_heap_new wr _;have hcall:=HCL.out _ t way re2 (HBr3.out.trans (hbb.mono HBr3.out.size)) (Nat.le_trans (show W.heap.size≤wr.heap.size by omega) hbb.size);have HBB:=zh hbb;have HB12:=zh hB12;have HCB2:=zh (HCC.out t way re2);have HDQ:=zh (dueQ_all c co (.mk ki2 co2 ou2 re2 wa2 du2 ch2 (.mk ek2 en2 ex2 eks2) li2) way t);simp only at HDQ;clear hbb hB12;generalize hCLS:clausesC c t way re2=cls at *;clear hCLS;unfold CO at hcall;gi_wp2_with (refine ⟨trivial,hdd _,?_⟩;gi_at_call 37;refine (CallsIn.inRound l2 (callsIn_wide.2 hcall)).mono ?_;clear hcall;rintro e w4 ⟨s4,rfl,ho4,hb4⟩)
      have HB4:=zh (HBB.out.trans (hb4.mono (by simp)));have HK4:Hid (KqD w.heap.size M W.heap.size V w4):=zh (HK3.out.trans (KqD.of_below (by omega) HB4.out));have HJ4:Hid (J pre3 w4):=zh (HJ.out pre3 wr _ none HJ3.out (grown_below HB4.out) (fun r e=>by cases e));have HB12b:=zh (below_blk hb4 HB12.out);have HO4:=zh ho4;obtain ⟨as4,cs4,hse,hcl1,hcl2,-⟩:=list_inv ho4.is;subst hse;have hCQ:cls.length≤9223372036854775807:=by simp only [maxLen] at hcl2;omega
      have hM12:¬ M wr.heap.size:=fun hm=>by have:=HMB.out _ hm;omega
      have HM12:=zh hM12;have hz4:wr.heap.size < w4.heap.size:=heap_lt HB12b.out;clear hb4 ho4 hcl1 hcl2 HBB HB12 hM12 t0 t1 c0' c1' c2' c3' f3 hst hlc hl9;generalize wr.heap.size=g12 at *;generalize hQN:cls.length=QN at *;have HQN:=zh hQN;clear hQN;have hln:=lenCl w4 as4 QN cs4 hCQ;gi_wp2
      rw [hln];gi_wp2
      clear hln;gi_loopw [51] (fun kv wr=>∃ (q:Nat) (pre4:List OkD),q≤QN∧kv=.int .i64 q∧Hid (pre4.map (·.1)=((base++(zs.map (fun z=>(z.1.1.2,z.2.1))).flatMap (fun p=>alt.flatMap fun t=>dueT c co p.1 p.2 t))++(alt.take m).flatMap (fun t=>dueT c co (.mk ki2 co2 ou2 re2 wa2 du2 ch2 (.mk ek2 en2 ex2 eks2) li2) way t))++dueQ co (.mk ki2 co2 ou2 re2 wa2 du2 ch2 (.mk ek2 en2 ex2 eks2) li2) way t (cls.take q))∧Hid (pre4.length≤k * B2+zs.length * B1+m * C+q)∧Hid (J pre4 wr)∧Hid (KqD w.heap.size M W.heap.size w4 wr)) (fun kv _=>QN - (intOf kv).toNat)
      case atStart=>exact ⟨0,pre3,by omega,rfl,zh (by rw [HP3.out];simp [dueQ]),zh (by have:=HL3.out;omega),HJ4,zh (KqD.refl _ _ _ _)⟩
      case round =>
       obtain ⟨q,pre4,hq,rfl,HP4,HL4,HJ5,HK5⟩:=hrel;have hz5:w4.heap.size≤wr.heap.size:=HK5.out.1.1.size;by_cases hqi:q < QN
       ·have hqz:(q:Int) < (QN:Int):=by omega
        have hq0:(0:Int)≤(q:Int):=by omega
        obtain ⟨κ,hκ⟩:=get_lt (xs:=cls) (k:=q) (by rw [HQN.out];exact hqi);obtain ⟨gk,yk,rfl,-,hgk,hgk2,-,hyc,hyl,cur,hgkb⟩:=HO4.out.elem hκ;obtain ⟨a4',c4',z0,z1,z2,z3,z4,-,-,-,hdu,-⟩:=Clause.is_iff.1 (hyl w4 (Agree.refl _ _ _));have hsame:wr.heap[gk]?=w4.heap[gk]?:=by rw [hgkb];exact HK5.out.1.kept (fun hm=>by have:=HMB.out _ hm;omega) (by decide) hgkb
        have k0:=(cell_same hsame).trans (hyc 0 _ z0).1;have k1:=(cell_same hsame).trans (hyc 1 _ z1).1;have k2:=(cell_same hsame).trans (hyc 2 _ z2).1;have k3:=(cell_same hsame).trans (hyc 3 _ z3).1;have k4:=(cell_same hsame).trans (hyc 4 _ z4).1;have hcl5:Lay.n Clause=5:=rfl;rw [hcl5] at k0 k1 k2 k3 k4;simp only [Nat.add_zero] at k0;clear hcl5;have hsk:=cell_lt k0;have HHIT:=zh (fun hp=>dueQ_hit (comp:=co) (u:=(.mk ki2 co2 ou2 re2 wa2 du2 ch2 (.mk ek2 en2 ex2 eks2) li2)) (way:=way) (t:=t) hκ hp);have HMISS:=zh (fun hp=>dueQ_miss (comp:=co) (u:=(.mk ki2 co2 ou2 re2 wa2 du2 ch2 (.mk ek2 en2 ex2 eks2) li2)) (way:=way) (t:=t) hκ hp);simp only at HHIT HMISS;have HDU:=zh hdu;clear hκ hyc hyl z0 z1 z2 z3 z4 hsame hgkb hdu;have HB9r:=zh (HK5.out.1.kept HM9.out (by decide) (HK4.out.1.kept HM9.out (by decide) HB9.out));have HF7r:=zh (HK5.out.1.kept HM7.out (by decide) (HK4.out.1.kept HM7.out (by decide) HF7V.out));have HYLr:=zh (HK5.out.1.kept HMY.out (by decide) (HK4.out.1.kept HMY.out (by decide) HYLV.out));have HB12r:=zh (HK5.out.1.kept HM12.out (by decide) HB12b.out);have b2:=objcell HB9r.out (j:=2) rfl;have b3:=objcell HB9r.out (j:=3) rfl;have b6:=objcell HB9r.out (j:=6) rfl;have b71:=objcell HF7r.out (j:=1) rfl;have by0:=objcell HYLr.out (j:=0) rfl;have bt0:=objcell HB12r.out (j:=0) rfl;have bt1:=objcell HB12r.out (j:=1) rfl;have hl9:=heap_lt HB9r.out;have hl7:=heap_lt HF7r.out;have hly:=heap_lt HYLr.out;have hl12:=heap_lt HB12r.out;generalize κ.license=κl at *;generalize κ.way=κw at *;generalize κ.relation=κr at *;generalize κ.duty=κd at *;generalize κ.list.length=κn at *;have hbb:Below wr.heap.size wr ((wr.alloc (.cells #[.string κl,.int .i64 κw,.int .i64 κr,.int .i64 κd,.slice a4' κn c4'] 74)).alloc (.cells #[.string ou2,.string co,.string t.license,.string t.exception,.int .i64 way,.int .i64 re2,.int .i64 κd] 63)):=bw;have HKd:Hid (KqD w.heap.size M W.heap.size w4 ((wr.alloc (.cells #[.string κl,.int .i64 κw,.int .i64 κr,.int .i64 κd,.slice a4' κn c4'] 74)).alloc (.cells #[.string ou2,.string co,.string t.license,.string t.exception,.int .i64 way,.int .i64 re2,.int .i64 κd] 63))):=zh (HK5.out.trans (KqD.of_below (by omega) hbb));have HJd:Hid (J pre4 ((wr.alloc (.cells #[.string κl,.int .i64 κw,.int .i64 κr,.int .i64 κd,.slice a4' κn c4'] 74)).alloc (.cells #[.string ou2,.string co,.string t.license,.string t.exception,.int .i64 way,.int .i64 re2,.int .i64 κd] 63))):=zh (HJ.out pre4 wr _ none HJ5.out (grown_below hbb) (fun r e=>by cases e));clear hbb;cases hp:(!(κd == 2) || ch2);case false =>
         have HP5:=zh (HP4.out.trans (congrArg _ (HMISS.out hp).symm));obtain ⟨hκ2,hch⟩:(κd == 2)=true∧ch2=false:=by simpa using hp
         have hκ3:(κd != 2)=false:=by rw [show (κd != 2)=!(κd == 2) from rfl,hκ2];rfl
         subst hch;clear HHIT HMISS hp HP4;gi_wp2
         refine ⟨(fun f h=>by cases h),?_⟩;gi_wp2
         go_roundw
         case rel=>exact ⟨q+1,pre4,by omega,by go_num,HP5,Nat.le_succ_of_le HL4.out,HJd,HKd⟩
         case measure=>exact zm
        case true =>
         have hok:okD ⟨ou2,co,t,way,re2,κd⟩:=⟨HOU.out,hsco,HTS.out.1,HTS.out.2,HWY.out,HRE.out,HDU.out⟩
         have HP5:Hid ((pre4++[(⟨_,hok⟩:OkD)]).map (·.1)=((base++(zs.map (fun z=>(z.1.1.2,z.2.1))).flatMap (fun p=>alt.flatMap fun t=>dueT c co p.1 p.2 t))++(alt.take m).flatMap (fun t=>dueT c co (.mk ki2 co2 ou2 re2 wa2 du2 ch2 (.mk ek2 en2 ex2 eks2) li2) way t))++dueQ co (.mk ki2 co2 ou2 re2 wa2 du2 ch2 (.mk ek2 en2 ex2 eks2) li2) way t (cls.take (q+1))):=by
          show _=_;rw [List.map_append,HP4.out,HHIT.out hp,List.append_assoc];rfl
         have hlt2:pre4.length < N * B2:=by
          have h1:=HL4.out;have h2:(m+1) * C≤B1:=by rw [HB1.out];exact Nat.mul_le_mul_right _ (Nat.le_trans hmi HAL.out)
          have h3:(zs.length+1) * B1≤B2:=by rw [HB2.out];exact Nat.mul_le_mul_right _ HLT.out
          have h4:(k+1) * B2≤N * B2:=Nat.mul_le_mul_right _ hki;have h5:=HCB2.out;rw [Nat.succ_mul] at h2 h3 h4;omega
         have hy:=HY.out pre4 (⟨_,hok⟩:OkD) _ HJd.out hlt2;obtain ⟨fn,tmps,assign,body,hyy,hR0⟩:=YieldAt_any (n - 1 - 1 - 1) hy;have hR:=roundInR l2 hR0;simp only [dueV] at hyy;clear hR0 hy hlt2 HHIT HMISS HP4;cases hk2:(κd == 2);case false =>
          have hκ3:(κd != 2)=true:=by rw [show (κd != 2)=!(κd == 2) from rfl,hk2];rfl
          exact zrdutt0
         case true =>
          have hκ3:(κd != 2)=false:=by rw [show (κd != 2)=!(κd == 2) from rfl,hk2];rfl
          obtain rfl:ch2=true:=by rw [hk2] at hp;simpa using hp
          exact zrdutt0
       ·have hqz:¬ (q:Int) < (QN:Int):=by omega
        have hqe:q=QN:=by omega
        have HP5:Hid (pre4.map (·.1)=(base++(zs.map (fun z=>(z.1.1.2,z.2.1))).flatMap (fun p=>alt.flatMap fun t=>dueT c co p.1 p.2 t))++(alt.take (m+1)).flatMap (fun t=>dueT c co (.mk ki2 co2 ou2 re2 wa2 du2 ch2 (.mk ek2 en2 ex2 eks2) li2) way t)):=by
         show _=_;rw [HP4.out,hqe,List.take_of_length_le (Nat.le_of_eq HQN.out),HDQ.out,HFA.out,List.append_assoc]
        have HL5:Hid (pre4.length≤k * B2+zs.length * B1+(m+1) * C):=zh (by rw [Nat.succ_mul];have h1:=HL4.out;have h2:=HCB2.out;omega);have HKe:Hid (KqD w.heap.size M W.heap.size V wr):=zh (HK4.out.trans HK5.out);clear HP4 HL4 hqe;gi_wp2
        go_roundw
        case rel=>exact ⟨m+1,pre4,by omega,by go_num,HP5,HL5,HJ5,HKe⟩
        case measure=>exact zm
     ·have hmz:¬ (m:Int) < (TN:Int):=by omega
      have hme:m=TN:=by omega
      have HP5:Hid (pre3.map (·.1)=base++((zs++[((⟨(.agg #[.int .i64 ki2,.string co2,.string ou2,.int .i64 re2,.int .i64 wa2,.int .i64 du2,.bool ch2,.int .i64 ek2,.string en2,.string ex2,.slice ae2 eks2.length ce2,.slice al2 li2.length cl2],.mk ki2 co2 ou2 re2 wa2 du2 ch2 (.mk ek2 en2 ex2 eks2) li2),hu⟩:AtF w),(⟨way,hway⟩:I64))]).map (fun z=>(z.1.1.2,z.2.1))).flatMap (fun p=>alt.flatMap fun t=>dueT c co p.1 p.2 t)):=by
       show _=_;rw [HP3.out,hme,List.take_of_length_le (Nat.le_of_eq HTN.out),List.map_append,List.flatMap_append,List.append_assoc];simp
      have HL5:Hid (pre3.length≤k * B2+(zs.length+1) * B1):=zh (by
       have h1:=HL3.out;have h2:m * C≤B1:=by rw [HB1.out];exact Nat.mul_le_mul_right _ (by have:=HAL.out;omega)
       rw [Nat.succ_mul];omega)
      have HKe:Hid (KqD w.heap.size M W.heap.size W10 wr):=zh (HI4.out.trans HK3.out);have hK3:=HK3.out;have hzW:W.heap.size≤W10.heap.size:=by omega
      clear HP3 HL3 hme;gi_wp2
      refine ⟨KeepsFrom.up hK3.2 hzW,hK3.1,pre3,HP5,?_,HJ3.out,HKe.out⟩;rw [List.length_append];exact HL5
   case done =>
    rintro D zs V hD hS ⟨pre2,i1,i2,i3,i4⟩ hDB;have hzl:zs.length≤N * N:=by
     have h1:=congrArg List.length hS;rw [List.length_map] at h1;have h2:=pairsF_len x co;rw [HN.out] at h2;omega
    have hP6:Hid (pre2.map (·.1)=duesF c x (x.take (k+1)) yt):=by
     show _=_;rw [i1.out,HPT.out,hS];rfl
    have hL6:Hid (pre2.length≤(k+1) * B2):=zh (by
     have h1:=i2.out;have h2:zs.length * B1≤B2:=by rw [HB2.out];exact Nat.mul_le_mul_right _ hzl
     rw [Nat.succ_mul];omega)
    have hM6:Hid (MarksD W.heap.size ({ target:=.collected D,args:=#[] } :: ds) V):=zh ⟨⟨D,rfl,by omega,hDB⟩,fun hm=>by have:=HM10.out.lt D hm;omega,HM10.out.keep (Nat.le_refl _) i4.2⟩;have hK6:Hid (KqD w.heap.size M W.heap.size Wa V):=zh (HK10.out.trans i4);have hJ6:Hid (J pre2 V):=zh i3;have hc9:(cn:Int)+1=((cntF (x.take (k+1)):Nat):Int):=by rw [HC2.out];rfl
    clear hzl i1 i2 i3 i4 hS hD hDB hseq;gi_wp2
    rw [hc9];refine ⟨(HII.out _ _).2 ⟨_,_,_,_,_,_,_,_,_,_,_,_,_,_,_,_,_,_,_,_,_,k+1,pre2,zh rfl,by omega,hP6,hL6,hJ6,hK6,hM6⟩,?_⟩;simp [intOf];omega
   case stop =>
    rintro D cd pre2 V _ _ hh _;exact hh.elim
  ·have hkz:¬ (k:Int) < (N:Int):=by omega
   have hke:k=N:=by omega
   have HP5:Hid (pre.map (·.1)=duesF c x x yt):=by
    show _=_;rw [HP.out,hke,List.take_of_length_le (Nat.le_of_eq HN.out)]
   clear HP HPL hke;gi_wp2
   refine leaves_marks HJ.out pre (fun W' h=>?_) ds wr HMK.out HJs.out;exact ⟨_,results_none rfl _ _ _,⟨_,rfl⟩,pre,HP5.out,h⟩
end Go.Proofs.YtcbopdbbcgdkcaaGreatDoor
