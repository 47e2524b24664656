/- Lemmas. -/
import Derived.Test.YtcbopdbbcgdkcaaGreatDoorLHedU
import Derived.Test.YtcbopdbbcgdkcaaGreatDoorLRfY
set_option linter.all false
set_option maxRecDepth 100000
set_option maxHeartbeats 16000000
namespace Go.Proofs.YtcbopdbbcgdkcaaGreatDoor
open Go Go.RowKit Go.ChangeShapes Go.Lib Go.Shelf

theorem app_dueO {ops:Array Oper} {rest:List Oper} {o:Oper} {a:Act} {Q:Exit→Act→World→Prop} {w:World} (hgd:o.guard=none) (s x:Operand)
  (ho:o.op=.call { callee:=.builtin .append,args:=#[s,x],argTypes:=#[50,50] })
  (B:Nat) (v:Value) (xs:List Due) (hs:a.eval s=v) (hown:RowD B w v xs)
  {o1 m1 t1 s1:ByteArray} {p1 r1 v1:Int} (hd:okD ⟨o1,m1,⟨t1,s1⟩,p1,r1,v1⟩) (hx:a.eval x=.slice (some ⟨w.heap.size,0,none⟩) 1 1)
  (hb:xs.length≤1000000000000) (hB:B≤w.heap.size)
  (h:∀ v' w',RowD B w' v' (xs++[⟨o1,m1,⟨t1,s1⟩,p1,r1,v1⟩])→Below B w w'→Agree B (·=63) w w'→w.heap.size < w'.heap.size→wpList Tryz.prog ops Q rest (a.put o.dst v') w') :
  wpList Tryz.prog ops Q (o :: rest) a (w.alloc (.cells #[.string o1,.string m1,.string t1,.string s1,.int .i64 p1,.int .i64 r1,.int .i64 v1] 63)):=by
 have hal:Below w.heap.size w (w.alloc (.cells #[.string o1,.string m1,.string t1,.string s1,.int .i64 p1,.int .i64 r1,.int .i64 v1] 63)):=zb;have hro:=(hown.below hal).1;have hnew:∀ (i:Nat) (u:Value),[Value.string o1,Value.string m1,Value.string t1,Value.string s1,Value.int .i64 p1,Value.int .i64 r1,Value.int .i64 v1][i]?=some u→(w.alloc (.cells #[.string o1,.string m1,.string t1,.string s1,.int .i64 p1,.int .i64 r1,.int .i64 v1] 63)).cell? ((⟨w.heap.size,0,none⟩:Addr).add i)=some u:=by
  intro i u hi;rw [addr_add,Nat.zero_add];exact objcell (World.alloc_heap_new w (.cells #[.string o1,.string m1,.string t1,.string s1,.int .i64 p1,.int .i64 r1,.int .i64 v1] 63)) (by rw [List.getElem?_toArray];exact hi)
 have hc3:∀ u∈[Value.string o1,Value.string m1,Value.string t1,Value.string s1,Value.int .i64 p1,Value.int .i64 r1,Value.int .i64 v1],u.oneCell'=true:=by simp [Value.oneCell']
 obtain ⟨i0,hi0,hz0,hz1,hz2⟩:=info_parts infoDue;have hB2:B≤(w.alloc (.cells #[.string o1,.string m1,.string t1,.string s1,.int .i64 p1,.int .i64 r1,.int .i64 v1] 63)).heap.size:=by simp;omega
 refine wpList_append_lies _ hgd s x 50 ho B 63 i0 _ 7 88 Tryz.underlying50 hi0 hz0 hz1 hz2 rfl (by decide) v xs.length _ hs hro ⟨w.heap.size,0,none⟩ 1 1 [Value.string o1,Value.string m1,Value.string t1,Value.string s1,Value.int .i64 p1,Value.int .i64 r1,Value.int .i64 v1] hx rfl hnew hc3 (by decide) (by simp only [maxLen];omega) (by omega) hB2 _ rfl ?_;intro g cap w' hown2 hgrow hat hlt;refine h _ w' (RowD.snoc (d:=⟨o1,m1,⟨t1,s1⟩,p1,r1,v1⟩) hown2 hown.2 hd) ?_ ?_ ?_
 ·exact ((Below.refl _ _).alloc (by omega) _).app hgrow hB2 hro
 ·exact (Agree.of_below hal).trans (Agree.app (E:=(·=63)) rfl hro hgrow)
 ·have:=hgrow.size;simp at this;omega
theorem contains_due (xs:List Due) (d:Due):xs.contains d=xs.any fun x=>decide (x=d):=by
 rw [Bool.eq_iff_iff];simp
theorem add_ref (w:World) (B:Nat) (vl:Value) (xs:List Due) (d:Due) (hown:RowD B w vl xs) (hd:okD d) (hb:xs.length≤1000000000000) (hB:B≤w.heap.size) :
  Calls Tryz.prog 132 #[vl,.agg #[.string d.output,.string d.component,.string d.term.license,.string d.term.exception,.int .i64 d.way,.int .i64 d.relation,.int .i64 d.duty]] w fun e w'=>∃ v',e=.returned v'∧RowD B w' v' (if xs.contains d then xs else xs++[d])∧Below B w w'∧Agree B (·=63) w w':=by
 obtain ⟨o1,m1,⟨t1,s1⟩,p1,r1,v1⟩:=d;obtain ⟨a,n,rfl,hn,hm,hr⟩:=list_inv hown.is;simp only [maxLen] at hm;have HR:=zh hr;have HO:=zh hown;have HD:=zh hd;have HOK:=zh hown.2;have HCA:=zh (contains_due xs ⟨o1,m1,⟨t1,s1⟩,p1,r1,v1⟩);generalize xs.contains ⟨o1,m1,⟨t1,s1⟩,p1,r1,v1⟩=cb at *;clear hown hr hd;obtain ⟨res,hres⟩:∃ r,r=if cb=true then xs else xs++[(⟨o1,m1,⟨t1,s1⟩,p1,r1,v1⟩:Due)]:=⟨_,rfl⟩
 rw [← hres];have HRES:=zh hres;clear hres;generalize hL:xs.length=L at *;have HL:=zh hL;clear hL;go_enter Tryz.func132,Tryz.ntmps132;go_wp2_with fail
 have hba:Below w.heap.size w (w.alloc (.cells #[.string o1,.string m1,.string t1,.string s1,.int .i64 p1,.int .i64 r1,.int .i64 v1] 63)):=zb;have d0:(w.alloc (.cells #[.string o1,.string m1,.string t1,.string s1,.int .i64 p1,.int .i64 r1,.int .i64 v1] 63)).cell? ⟨w.heap.size,0,none⟩=some (.string o1):=by simp
 have d1:(w.alloc (.cells #[.string o1,.string m1,.string t1,.string s1,.int .i64 p1,.int .i64 r1,.int .i64 v1] 63)).cell? ⟨w.heap.size,1,none⟩=some (.string m1):=by simp
 have d2:(w.alloc (.cells #[.string o1,.string m1,.string t1,.string s1,.int .i64 p1,.int .i64 r1,.int .i64 v1] 63)).cell? ⟨w.heap.size,2,none⟩=some (.string t1):=by simp
 have d3:(w.alloc (.cells #[.string o1,.string m1,.string t1,.string s1,.int .i64 p1,.int .i64 r1,.int .i64 v1] 63)).cell? ⟨w.heap.size,3,none⟩=some (.string s1):=by simp
 have d4:(w.alloc (.cells #[.string o1,.string m1,.string t1,.string s1,.int .i64 p1,.int .i64 r1,.int .i64 v1] 63)).cell? ⟨w.heap.size,4,none⟩=some (.int .i64 p1):=by simp
 have d5:(w.alloc (.cells #[.string o1,.string m1,.string t1,.string s1,.int .i64 p1,.int .i64 r1,.int .i64 v1] 63)).cell? ⟨w.heap.size,5,none⟩=some (.int .i64 r1):=by simp
 have d6:(w.alloc (.cells #[.string o1,.string m1,.string t1,.string s1,.int .i64 p1,.int .i64 r1,.int .i64 v1] 63)).cell? ⟨w.heap.size,6,none⟩=some (.int .i64 v1):=by simp
 have HBA:=zh hba;have hs1:w.heap.size < (w.alloc (.cells #[.string o1,.string m1,.string t1,.string s1,.int .i64 p1,.int .i64 r1,.int .i64 v1] 63)).heap.size:=by simp
 generalize (w.alloc (.cells #[.string o1,.string m1,.string t1,.string s1,.int .i64 p1,.int .i64 r1,.int .i64 v1] 63))=w1 at *;have HO1:=zh (HO.out.below HBA.out);clear hba;go_loopw [5] (fun kv wr=>∃ k:Nat,k≤L∧kv=.int .i64 k∧(∃ q,wr=w1.drewN q)∧Hid ((xs.take k).any (fun x=>decide (x=⟨o1,m1,⟨t1,s1⟩,p1,r1,v1⟩))=false)) (fun kv _=>L - (intOf kv).toNat)
 case atStart=>exact ⟨0,by omega,rfl,⟨0,rfl⟩,rfl⟩
 case round =>
  obtain ⟨k,hk,rfl,⟨q,rfl⟩,HK⟩:=hrel;by_cases hki:k < L
  ·have hkz:(k:Int) < (L:Int):=by omega
   have hk0:(0:Int)≤(k:Int):=by omega
   obtain ⟨⟨o2,m2,⟨t2,s2⟩,p2,r2,v2⟩,hx⟩:=get_lt (xs:=xs) (k:=k) (by rw [HL.out];exact hki);have hk2:=HOK.out _ (List.mem_of_getElem? hx);have HN:=zh (any_none_at (p:=fun x=>decide (x=⟨o1,m1,⟨t1,s1⟩,p1,r1,v1⟩)) hx);have HM:=zh (any_hit_at (p:=fun x=>decide (x=⟨o1,m1,⟨t1,s1⟩,p1,r1,v1⟩)) hx);have hq:=fun W=>eqlDue ⟨⟨o2,m2,⟨t2,s2⟩,p2,r2,v2⟩,hk2⟩ ⟨⟨o1,m1,⟨t1,s1⟩,p1,r1,v1⟩,HD.out⟩ W;simp only [dueV] at hq;obtain ⟨bx,ox,rfl,hbx,y0,y1,y2,y3,y4,y5,y6,-⟩:=Due.at_row HR.out hx;have u0:=kept HBA.out y0;have u1:=kept HBA.out y1;have u2:=kept HBA.out y2;have u3:=kept HBA.out y3;have u4:=kept HBA.out y4;have u5:=kept HBA.out y5;have u6:=kept HBA.out y6;clear hx y0 y1 y2 y3 y4 y5 y6 hbx;cases e9:decide ((⟨o2,m2,⟨t2,s2⟩,p2,r2,v2⟩:Due)=⟨o1,m1,⟨t1,s1⟩,p1,r1,v1⟩);case true =>
    rw [e9] at hq;have HT:Hid (cb=true):=by show _=_;rw [HCA.out];exact HM.out e9
    clear HK HN HM HCA e9;go_wp2_with fail
    go_quiet (fail)
    go_wp2_with fail
    go_ret;refine ⟨_,rfl,?_,((HBA.out.mono hB).drewN q).drewN _,Agree.of_below ((HBA.out.drewN q).drewN _)⟩;rw [HRES.out,HT.out,if_pos rfl];exact HO.out.below ((HBA.out.drewN q).drewN nq)
   case false =>
    rw [e9] at hq;have HK2:Hid ((xs.take (k+1)).any (fun x=>decide (x=⟨o1,m1,⟨t1,s1⟩,p1,r1,v1⟩))=false):=by show _=_;rw [HN.out,HK.out,e9];rfl
    clear HK HN HM e9;go_wp2_with fail
    go_quiet (fail)
    go_wp2_with fail
    go_roundw
    case rel=>exact ⟨k+1,by omega,by go_num,⟨_,rfl⟩,HK2⟩
    case measure=>exact zm
  ·have hkz:¬ (k:Int) < (L:Int):=by omega
   have HT:Hid (cb=false):=by
    show _=_;have h9:=HK.out;rw [List.take_of_length_le (by rw [HL.out];omega)] at h9;rw [HCA.out];exact h9
   have HO2:Hid (RowD B (w1.drewN q) (.slice a L n) xs):=zh (HO.out.below (HBA.out.drewN q));clear HK HCA;have hB2:B≤(w1.drewN q).heap.size:=Nat.le_trans hB (HBA.out.drewN q).size;have HBQ:=zh (HBA.out.drewN q);generalize hwq:w1.drewN q=wq at *;have d0:wq.cell? ⟨w.heap.size,0,none⟩=some (.string o1):=by rw [← hwq];exact d0
   have d1:wq.cell? ⟨w.heap.size,1,none⟩=some (.string m1):=by rw [← hwq];exact d1
   have d2:wq.cell? ⟨w.heap.size,2,none⟩=some (.string t1):=by rw [← hwq];exact d2
   have d3:wq.cell? ⟨w.heap.size,3,none⟩=some (.string s1):=by rw [← hwq];exact d3
   have d4:wq.cell? ⟨w.heap.size,4,none⟩=some (.int .i64 p1):=by rw [← hwq];exact d4
   have d5:wq.cell? ⟨w.heap.size,5,none⟩=some (.int .i64 r1):=by rw [← hwq];exact d5
   have d6:wq.cell? ⟨w.heap.size,6,none⟩=some (.int .i64 v1):=by rw [← hwq];exact d6
   have hs2:w.heap.size < wq.heap.size:=cell_lt d0;go_wp2_with (at_builtin;go_loud (refine app_dueO rfl _ _ rfl B _ _ rfl HO2.out HD.out ?cx ?c2 ?c3 ?_))
   case c2=>rw [HL.out];exact hb
   intro v5 w5 ho5 hb5 hA5 hs5;obtain ⟨a5,c5,hv5⟩:=ho5.shape;subst hv5;have HO5:=zh ho5;have HB5:=zh hb5;have HA5:=zh hA5;clear ho5 hb5 hA5 d0 d1 d2 d3 d4 d5 d6;go_wp2;go_ret;refine ⟨_,rfl,?_,(HBQ.out.mono hB).trans HB5.out,(Agree.of_below HBQ.out).trans HA5.out⟩;rw [HRES.out,HT.out,if_neg Bool.false_ne_true];exact HO5.out
theorem SameDues_ref (w:World) (va vb:Value) (xs:List Due) (ha:Is w va xs) (hb:Is w vb xs) (hok:∀ d∈xs,okD d):Calls Tryz.prog 29 #[va,vb] w fun e w'=>e=.returned (.bool true)∧Below w.heap.size w w':=by
 obtain ⟨a,n,rfl,hn,hm,hr⟩:=list_inv ha;obtain ⟨b,m,rfl,hn2,hm2,hr2⟩:=list_inv hb;simp only [maxLen] at hm;have HR:=zh hr;have HR2:=zh hr2;have HOK:=zh hok;clear ha hb hr hr2 hok hn2 hm2;generalize hL:xs.length=L at *;have HL:=zh hL;clear hL;have q0:((L:Int) != (L:Int))=false:=by simp
 go_enter Tryz.func29,Tryz.ntmps29;go_wp2_with fail
 go_loopw [5] (fun kv wr=>∃ k:Nat,k≤L∧kv=.int .i64 k∧∃ q,wr=w.drewN q) (fun kv _=>L - (intOf kv).toNat)
 case atStart=>exact ⟨0,by omega,rfl,0,rfl⟩
 case round =>
  obtain ⟨k,hk,rfl,q,rfl⟩:=hrel;clear q0;by_cases hki:k < L
  ·have hkz:(k:Int) < (L:Int):=by omega
   have hk0:(0:Int)≤(k:Int):=by omega
   obtain ⟨⟨o2,m2,⟨t2,s2⟩,p2,r2,v2⟩,hx⟩:=get_lt (xs:=xs) (k:=k) (by rw [HL.out];exact hki);have hk2:=HOK.out _ (List.mem_of_getElem? hx);have hq:=fun W=>neqDue ⟨⟨o2,m2,⟨t2,s2⟩,p2,r2,v2⟩,hk2⟩ ⟨⟨o2,m2,⟨t2,s2⟩,p2,r2,v2⟩,hk2⟩ W;simp only [dueV,decide_eq_true rfl,Bool.not_true] at hq;obtain ⟨bx,ox,rfl,hbx,u0,u1,u2,u3,u4,u5,u6,-⟩:=Due.at_row HR.out hx;obtain ⟨by',oy,rfl,hby,y0,y1,y2,y3,y4,y5,y6,-⟩:=Due.at_row HR2.out hx;clear hx;go_wp2_with fail
   go_quiet (fail)
   go_wp2_with fail
   go_roundw
   case rel=>exact ⟨k+1,by omega,by go_num,_,rfl⟩
   case measure=>exact zm
  ·have hkz:¬ (k:Int) < (L:Int):=by omega
   go_wp2_with fail
   go_ret;exact ⟨rfl,bw⟩

theorem flat_leD {f:Term→List Due} {M:Nat} (h:∀ t,(f t).length≤M):∀ al:List Term,(al.flatMap f).length≤al.length * M
 | []=>by simp
 | t :: r=>by
  rw [List.flatMap_cons,List.length_append,List.length_cons,Nat.succ_mul];have:=flat_leD h r;have:=h t;omega
theorem dueT_len (c:Catalog) (comp:ByteArray) (u:Fact) (way:Int) (t:Term):(dueT c comp u way t).length≤c.clauses.length:=by
 unfold dueT;rw [List.length_map];exact Nat.le_trans (List.length_filter_le _ _) (clauses_le c t way u.relation)
theorem once_one (l:List Due) (d:Due) (o:List Due):onceD o (l++[d])=if (onceD o l).contains d then onceD o l else onceD o l++[d]:=by
 rw [once_append];rfl
theorem cell_of_blk {W W':World} {g k:Nat} {o:Obj} {v:Value} (h1:W.heap[g]?=some o) (h2:W'.heap[g]?=some o) (h:W.cell? ⟨g,k,none⟩=some v):W'.cell? ⟨g,k,none⟩=some v:=by
 simp only [World.cell?,h1,h2] at h ⊢;exact h
theorem own_clause {B:Nat} {E:TypeId→Prop} {W:World} {a:Option Addr} {n c:Nat} {xs:List Clause} (h:OwnL B E 74 W (.slice a n c) xs):xs=[]∨∃ g cur,a=some ⟨g,0,none⟩∧W.heap[g]?=some (.cells cur 74 (0,0)):=by
 obtain ⟨cs,-,h2⟩:=h.row;rcases h2 with ⟨-,h0⟩ | ⟨g,cap,cur,he,-,hh,-⟩
 ·exact .inl (List.length_eq_zero_iff.1 h0)
 ·cases he;exact .inr ⟨g,cur,rfl,hh⟩
theorem zrrfo0 {p:Prop} (h:p:=by
 clear hkeep e1;go_wp2_with fail
 refine still_tail 18 (by kernel_rfl) (by kernel_rfl) ?_;simp only [zt];repeat still_step
 refine wpStill_nil ?_;go_wp2_with fail
 refine hcall.mono ?_;rintro e w6 ⟨v6,rfl,ho6,hb6,hA6⟩;have HO6:=zh ho6;have HB6:Hid (Below B wv w6):=zh (hbs.out.drew.trans hb6);have HA6:Hid (Agree B (·=63) wv w6):=zh ((hAs.out.trans (Agree.of_below (Below.refl _ _).drew)).trans hA6);clear hcall ho6 hb6 hA6 f1 f2 f3 f6 x0 x1 k3;go_wp2_with fail
 go_roundw
 case rel=>exact ⟨q+1,by omega,by go_num,zh (by rw [HO3.out];exact HO6.out),HB6,HA6⟩
 case measure=>exact zm):p:=h
theorem due_ref (w0 w:World) (B:Nat) (c:Catalog) (vc va vl vu:Value) (out:List Due) (al:List Term) (u:Fact) (way:Int) (hb0:Below w0.heap.size w0 w) (hB0:w0.heap.size≤B) (hB:B≤w.heap.size)
  (hc:Is w0 vc c) (ha:Is w0 va al) (hu:Is w0 vu u) (hown:RowD B w vl out) (hway:inI64 way) (hlen:out.length+al.length * c.clauses.length≤1000000000000) :
  Calls Tryz.prog 72 #[vc,vl,va,vu,.int .i64 way] w fun e w'=>∃ v',e=.returned v'∧RowD B w' v' (onceD out (al.flatMap fun t=>dueT c u.component u way t))∧Below B w w'∧Agree B (·=63) w w':=by
 have HC:=zh hc;have HDL:=zh (fun t=>dueT_len c u.component u way t);have HDQ:Hid (∀ t,dueQ u.component u way t (clausesC c t way u.relation)=dueT c u.component u way t):=zh (fun t=>dueQ_all c u.component u way t);obtain ⟨DT,hDT⟩:∃ f:Term→List Due,f=fun t=>dueT c u.component u way t:=⟨_,rfl⟩
 have HDT:=zh hDT;rw [← hDT];have HDL2:Hid (∀ t,(DT t).length≤c.clauses.length):=zh (by rw [hDT];exact HDL.out);have HDQ2:Hid (∀ t,dueQ u.component u way t (clausesC c t way u.relation)=DT t):=zh (by rw [hDT];exact HDQ.out);have HCL:=zh (fun t=>clauses_le c t way u.relation);clear HDL HDQ hDT HDT;obtain ⟨ki,co,ou,re,wa,du,ch,⟨ek,en,ex,eks⟩,li⟩:=u;have HCO:Hid (∀ (W:World) (t:Term),Below w0.heap.size w0 W→Calls Tryz.prog 131 #[vc,.agg #[.string t.license,.string t.exception],.int .i64 way,.int .i64 re] W fun e w'=>CW w0 (clausesC c t way re) W e w'):=fun W t hb=>ClausesR_o w0 W vc c t way re HC.out hb;obtain ⟨a0,N0,c0,a1,N1,c1,a2,N2,c2,a3,N3,c3,rfl⟩:=catBox2 hc;obtain ⟨aa,na,rfl,hna,hma,hra⟩:=list_inv ha;obtain ⟨ae,ce,al',cl,rfl,s0,s1,s2,s3,s4,s5,s6,-⟩:=Fact.inv hu;simp only [maxLen] at hma;have HRA:=zh hra;have HOW:=zh hown;have HSZ:=zh (And.intro s1 (And.intro s2 s3));have HWY:=zh hway;have HB0:=zh hb0;generalize hM:c.clauses.length=M at *;clear hc ha hu hra hown s0 s1 s2 s3 s4 s5 s6 hway hb0 hM HC;simp only at HDQ2 HCL;generalize hL:al.length=L at *;have HL:=zh hL;clear hL;generalize eks.length=E at *;generalize li.length=LI at *;go_enter Tryz.func72,Tryz.ntmps72;go_wp2_with fail
 obtain ⟨hbW,bc,bf⟩:=boxD w #[.slice a0 N0 c0,.slice a1 N1 c1,.slice a2 N2 c2,.slice a3 N3 c3] #[.int .i64 ki,.string co,.string ou,.int .i64 re,.int .i64 wa,.int .i64 du,.bool ch,.int .i64 ek,.string en,.string ex,.slice ae E ce,.slice al' LI cl] 27 70;have HBW:=zh hbW;have HBC:=zh bc;have HBF:=zh bf;clear hbW bc bf;generalize ((w.alloc (.cells #[.slice a0 N0 c0,.slice a1 N1 c1,.slice a2 N2 c2,.slice a3 N3 c3] 27)).alloc (.cells #[.int .i64 ki,.string co,.string ou,.int .i64 re,.int .i64 wa,.int .i64 du,.bool ch,.int .i64 ek,.string en,.string ex,.slice ae E ce,.slice al' LI cl] 70))=W0 at *;have HO0:=zh (HOW.out.below HBW.out);have hBW0:B≤W0.heap.size:=Nat.le_trans hB HBW.out.size;have HBW2:=zh (HB0.out.trans (HBW.out.mono HB0.out.size));have HBWB:Hid (Below B w W0):=zh (HBW.out.mono hB);go_loopw [1,11] (fun lv kv wr=>∃ k:Nat,k≤L∧kv=.int .i64 k∧Hid (RowD B wr lv (onceD out ((al.take k).flatMap DT)))∧Hid (Below B W0 wr)∧Hid (Agree B (·=63) W0 wr)) (fun _ kv _=>L - (intOf kv).toNat)
 case atStart=>exact ⟨0,by omega,rfl,HO0,zh (Below.refl _ _),zh (Agree.refl _ _ _)⟩
 case round =>
  obtain ⟨k,hk,rfl,HO,hbr,hAr⟩:=hrel;by_cases hki:k < L
  ·have hkz:(k:Int) < (L:Int):=by omega
   have hk0:(0:Int)≤(k:Int):=by omega
   obtain ⟨⟨tl,tx⟩,hx⟩:=get_lt (xs:=al) (k:=k) (by rw [HL.out];exact hki);have HFL:=zh (flat_at DT hx);obtain ⟨bx,ox,rfl,hbx,x0',x1',z0,z1⟩:=Term.at_row HRA.out hx;have HBR:=zh (HBW2.out.trans (hbr.out.mono hB0));have X0:=zh (kept HBR.out x0');have X1:=zh (kept HBR.out x1');have x0:=X0.out;have x1:=X1.out;have HTS:=zh (And.intro z0 z1);have hbxB:bx < B:=Nat.lt_of_lt_of_le hbx hB0;have BCr:=zh (agree_blk hAr.out HBC.out (by decide));have BFr:=zh (agree_blk hAr.out HBF.out (by decide));have d0:=objcell BCr.out (j:=0) rfl;have d1:=objcell BCr.out (j:=1) rfl;have d2:=objcell BCr.out (j:=2) rfl;have d3:=objcell BCr.out (j:=3) rfl;have f3:=objcell BFr.out (j:=3) rfl;have hzc:=cell_lt d0;have hzf:=cell_lt f3;have hzx:=cell_lt x0;have hcall:=HCO.out wr.drew ⟨tl,tx⟩ (HBR.out.drewN 1);have HKS:=zh (HDQ2.out ⟨tl,tx⟩);have HKL:=zh (HCL.out ⟨tl,tx⟩);unfold CW at hcall;clear hx x0' x1' z0 z1 hbx;generalize hks:clausesC c ⟨tl,tx⟩ way re=ks at *;clear hks;simp only at hcall x0 x1;go_wp2_with fail
   refine still_tail 8 (by kernel_rfl) (by kernel_rfl) ?_;simp only [zt];repeat still_step
   refine wpStill_nil ?_;go_wp2_with fail
   refine hcall.mono ?_;rintro e w4 ⟨s,rfl,hok4,hb4⟩;clear hcall;obtain ⟨ak,ck,rfl,hck,hckm,hrk⟩:=list_inv hok4.is;simp only [maxLen] at hckm;have HRK:=zh hrk;have HOC:=zh (own_clause hok4);have hb4w:Below wr.heap.size wr w4:=(Below.refl _ _).drew.trans hb4;have HBR4:=zh hb4w;have HO4:=zh (HO.out.below hb4w);have BF4:=zh (below_blk hb4w BFr.out);have X04:=zh (kept hb4w X0.out);have X14:=zh (kept hb4w X1.out);have hB4:B≤w4.heap.size:=Nat.le_trans (Nat.le_trans hBW0 hbr.out.size) hb4w.size;have HB4:=zh (hbr.out.trans (hb4w.mono (Nat.le_trans hBW0 hbr.out.size)));have HA4:Hid (Agree B (·=63) W0 w4):=zh (hAr.out.trans (Agree.of_below hb4w));have HBR04:=zh (HBW2.out.trans (HB4.out.mono hB0));clear d0 d1 d2 d3 f3 x0 x1 hzc hzf hzx hrk hok4 hb4 hb4w HO BCr BFr X0 X1 HBR HBR4;generalize hO1:onceD out ((al.take k).flatMap DT)=o1 at *;have HO1L:Hid (o1.length≤out.length+k * M):=by
    show _≤_;rw [← hO1];refine Nat.le_trans (once_len _ _) ?_;have h1:=flat_leD HDL2.out (al.take k);have h2:(al.take k).length=k:=by rw [List.length_take,HL.out];omega
    rw [h2] at h1;omega
   have HOE:=zh hO1;clear hO1;generalize hK:ks.length=K at *;have HK:=zh hK;clear hK;have hKM:K≤M:=HKL.out;have hmul:(k+1) * M≤L * M:=Nat.mul_le_mul_right _ hki;have hmul2:(k+1) * M=k * M+M:=Nat.succ_mul k M;go_wp2_with fail
   obtain ⟨wv,hwv⟩:∃ W,W=w4:=⟨_,rfl⟩
   subst hwv;go_loopw [1,13] (fun lv kv ws=>∃ q:Nat,q≤K∧kv=.int .i64 q∧Hid (RowD B ws lv (onceD o1 (dueQ co ⟨ki,co,ou,re,wa,du,ch,.mk ek en ex eks,li⟩ way ⟨tl,tx⟩ (ks.take q))))∧Hid (Below B wv ws)∧Hid (Agree B (·=63) wv ws)) (fun _ kv _=>K - (intOf kv).toNat)
   case atStart=>exact ⟨0,by omega,rfl,HO4,zh (Below.refl _ _),zh (Agree.refl _ _ _)⟩
   case round =>
    obtain ⟨q,hq,rfl,HOq,hbs,hAs⟩:=hrel;by_cases hqi:q < K
    ·have hqz:(q:Int) < (K:Int):=by omega
     have hq0:(0:Int)≤(q:Int):=by omega
     obtain ⟨kq,hx⟩:=get_lt (xs:=ks) (k:=q) (by rw [HK.out];exact hqi);obtain ⟨g,cur,rfl,hblk⟩:∃ g cur,ak=some ⟨g,0,none⟩∧wv.heap[g]?=some (.cells cur 74 (0,0)):=by
      rcases HOC.out with h0 | h0
      ·subst h0;simp at hx
      ·exact h0
     obtain ⟨b',off',e1,-,a4,c4,-,-,-,k3',-,-,-,-,kd,-⟩:=Clause.at_row HRK.out hx;cases e1;have hblk2:=agree_blk hAs.out hblk (by decide);have k3:wr.cell? ⟨g,q * 5+3,none⟩=some (.int .i64 kq.duty):=by
      have h9:=cell_of_blk hblk hblk2 k3';rw [Nat.zero_add] at h9;exact h9
     have hHIT:=zh (fun h=>dueQ_hit (comp:=co) (u:=⟨ki,co,ou,re,wa,du,ch,.mk ek en ex eks,li⟩) (way:=way) (t:=⟨tl,tx⟩) hx h);have hMIS:=zh (fun h=>dueQ_miss (comp:=co) (u:=⟨ki,co,ou,re,wa,du,ch,.mk ek en ex eks,li⟩) (way:=way) (t:=⟨tl,tx⟩) hx h);have BFs:=zh (agree_blk hAs.out BF4.out (by decide));have f6:=objcell BFs.out (j:=6) rfl;have HKD:=zh kd;have hzf:=cell_lt f6;have hzk:=cell_lt k3;have hBs:B≤wr.heap.size:=Nat.le_trans hB4 hbs.out.size;simp only at hHIT hMIS;clear hx k3' kd hblk hblk2;generalize kq.duty=dq at *;generalize hO2:onceD o1 (dueQ co ⟨ki,co,ou,re,wa,du,ch,.mk ek en ex eks,li⟩ way ⟨tl,tx⟩ (ks.take q))=o2 at *;have HO2:=zh hO2;have HO2L:Hid (o2.length≤1000000000000):=by
      show _≤_;rw [← hO2];refine Nat.le_trans (once_len _ _) ?_;have h1:(dueQ co ⟨ki,co,ou,re,wa,du,ch,.mk ek en ex eks,li⟩ way ⟨tl,tx⟩ (ks.take q)).length≤q:=by
       unfold dueQ;rw [List.length_map];refine Nat.le_trans (List.length_filter_le _ _) ?_;rw [List.length_take];omega
      have h2:=HO1L.out;omega
     clear hO2;cases hkeep:(!(dq == 2) || ch);case false =>
      have HM:Hid (onceD o1 (dueQ co ⟨ki,co,ou,re,wa,du,ch,.mk ek en ex eks,li⟩ way ⟨tl,tx⟩ (ks.take (q+1)))=o2):=by
       show _=_;rw [hMIS.out hkeep,HO2.out]
      obtain ⟨e1,rfl⟩:(dq == 2)=true∧ch=false:=by
       cases ch <;> simp_all
      have e2:(dq != 2)=false:=by rw [show (dq != 2)=!(dq == 2) from rfl,e1];rfl
      clear hHIT hMIS hkeep HO2;go_wp2_with fail
      go_roundw
      case rel=>exact ⟨q+1,by omega,by go_num,zh (by rw [HM.out];exact HOq.out),hbs,hAs⟩
      case measure=>exact zm
     case true =>
      have HM:Hid (onceD o1 (dueQ co ⟨ki,co,ou,re,wa,du,ch,.mk ek en ex eks,li⟩ way ⟨tl,tx⟩ (ks.take (q+1)))=if o2.contains ⟨ou,co,⟨tl,tx⟩,way,re,dq⟩ then o2 else o2++[⟨ou,co,⟨tl,tx⟩,way,re,dq⟩]):=by
       show _=_;rw [hHIT.out hkeep,once_one,HO2.out]
      have hcall:=add_ref wr.drew B _ o2 ⟨ou,co,⟨tl,tx⟩,way,re,dq⟩ (HOq.out.below (Below.refl _ _).drew) ⟨HSZ.out.2.1,HSZ.out.1,HTS.out.1,HTS.out.2,HWY.out,HSZ.out.2.2,HKD.out⟩ HO2L.out hBs;rw [← HM.out] at hcall;generalize hO3:onceD o1 (dueQ co ⟨ki,co,ou,re,wa,du,ch,.mk ek en ex eks,li⟩ way ⟨tl,tx⟩ (ks.take (q+1)))=o3 at *;have HO3:=zh hO3;clear hO3;have f1:=objcell BFs.out (j:=1) rfl;have f2:=objcell BFs.out (j:=2) rfl;have f3:=objcell BFs.out (j:=3) rfl;have x0:=kept_in hbs.out (a:=⟨bx,ox+k * 2,none⟩) (by show bx < B;exact hbxB) X04.out;have x1:=kept_in hbs.out (a:=⟨bx,ox+k * 2+1,none⟩) (by show bx < B;exact hbxB) X14.out;simp only at x0 x1 hcall;clear hHIT hMIS HM HO2;cases e1:(dq == 2);case false =>
       have e2:(dq != 2)=true:=by rw [show (dq != 2)=!(dq == 2) from rfl,e1];rfl
       exact zrrfo0
      case true =>
       have e2:(dq != 2)=false:=by rw [show (dq != 2)=!(dq == 2) from rfl,e1];rfl
       obtain rfl:ch=true:=by rw [e1] at hkeep;exact hkeep
       exact zrrfo0
    ·have hqz:¬ (q:Int) < (K:Int):=by omega
     have HM:Hid (onceD o1 (dueQ co ⟨ki,co,ou,re,wa,du,ch,.mk ek en ex eks,li⟩ way ⟨tl,tx⟩ (ks.take q))=onceD out ((al.take (k+1)).flatMap DT)):=by
      show _=_;rw [List.take_of_length_le (by rw [HK.out];omega),HFL.out,once_append,HOE.out];rw [← HKS.out]
     have HOF:Hid (RowD B wr u1 (onceD out ((al.take (k+1)).flatMap DT))):=by
      have h9:=HOq.out;rw [HM.out] at h9;exact zh h9
     clear HM HOq;go_wp2_with fail
     go_roundw
     case rel=>exact ⟨k+1,by omega,by go_num,HOF,zh (HB4.out.trans hbs.out),zh (HA4.out.trans hAs.out)⟩
     case measure=>exact zm
  ·have hkz:¬ (k:Int) < (L:Int):=by omega
   have HOF:Hid (RowD B wr u1 (onceD out (al.flatMap DT))):=by
    have h9:=HO.out;rw [List.take_of_length_le (by rw [HL.out];omega)] at h9;exact zh h9
   clear HO;go_wp2_with fail
   go_ret;exact ⟨_,rfl,HOF.out,HBWB.out.trans hbr.out,(Agree.of_below HBW.out).trans hAr.out⟩

theorem flat_leA {α β:Type} {f:α→List β} {M:Nat}:∀ xs:List α,(∀ x∈xs,(f x).length≤M)→(xs.flatMap f).length≤xs.length * M
 | [],_=>by simp
 | t :: r,h=>by
  rw [List.flatMap_cons,List.length_append,List.length_cons,Nat.succ_mul];have:=flat_leA r fun x hx=>h x (List.mem_cons_of_mem _ hx);have:=h t (List.mem_cons_self ..);omega
theorem filter_flat {α β:Type} (p:α→Bool) (f:α→List β):∀ xs:List α,(xs.filter p).flatMap f=xs.flatMap fun x=>if p x then f x else []
 | []=>rfl
 | a :: r=>by
  rw [List.filter_cons,List.flatMap_cons,← filter_flat p f r];split
  ·rw [List.flatMap_cons]
  ·rfl
def shipD (c:Catalog) (comp:ByteArray) (al:List Term) (u s:Fact):List Due:=if s.kind == 2 && seq s.output u.output then al.flatMap fun t=>dueT c comp u s.way t else []
def useD (c:Catalog) (x:List Fact) (comp:ByteArray) (al:List Term) (u:Fact):List Due:=if u.kind == 0 && seq u.component comp then x.flatMap (shipD c comp al u) else []
theorem map_flat {α β γ:Type} (f:α→β) (g:β→List γ):∀ xs:List α,(xs.map f).flatMap g=xs.flatMap fun a=>g (f a)
 | []=>rfl
 | a :: r=>by rw [List.map_cons,List.flatMap_cons,List.flatMap_cons,map_flat f g r]
theorem flat_flat {α β γ:Type} (f:α→List β) (g:β→List γ):∀ xs:List α,(xs.flatMap f).flatMap g=xs.flatMap fun a=>(f a).flatMap g
 | []=>rfl
 | a :: r=>by rw [List.flatMap_cons,List.flatMap_append,List.flatMap_cons,flat_flat f g r]
theorem part_uses (c:Catalog) (x:List Fact) (f:Fact) (al:List Term):duePart c x f al=x.flatMap (useD c x f.component al):=by
 unfold duePart pairsF;rw [flat_flat,filter_flat];congr 1;funext u
 unfold useD;split
 ·rw [map_flat,filter_flat];rfl
 ·rfl
theorem cnt_lt {x:List Fact} {i:Nat} {f:Fact} (h:x[i]?=some f) (hk:(f.kind == 1)=true):cntF (x.take i) < cntF x:=by
 have h1:cntF x=cntF (x.take i)+cntF (x.drop i):=by
  unfold cntF;rw [← List.length_append,← List.filter_append,List.take_append_drop]
 rw [h1,drop_at h,cntF_cons,if_pos hk];omega
theorem head_at {α:Type} {xs:List α} {n:Nat} {a d:α} (h:xs[n]?=some a):(xs.drop n).headD d=a:=by
 rw [drop_at h];rfl
theorem zrrfo3 {p:Prop} (h:p:=by
 refine Nat.le_trans (flat_leA (M:=140) al fun t _=>Nat.le_trans (dueT_len c comp u s.way t) h.2.1) ?_;omega):p:=h
theorem use_len {c:Catalog} {x:List Fact} {comp:ByteArray} {al:List Term} {u:Fact} (h:FewX c x) (ha:al.length≤65):(useD c x comp al u).length≤2366000:=by
 unfold useD;split
 ·refine Nat.le_trans (flat_leA (M:=9100) x fun s _=>?_) ?_
  ·unfold shipD;split
   ·exact zrrfo3
   ·simp
  ·have:=h.2.2.1;omega
 ·simp
theorem ship_len {c:Catalog} {x:List Fact} {comp:ByteArray} {al:List Term} {u s:Fact} (h:FewX c x) (ha:al.length≤65):(shipD c comp al u s).length≤9100:=by
 unfold shipD;split
 ·exact zrrfo3
 ·simp
def DRO (r:List Due×Int) (w:World) (e:Ending) (w':World):Prop:=∃ v,e=.returned (.tuple #[v,.int .i64 r.2])∧RowD w.heap.size w' v r.1∧Below w.heap.size w w'
theorem zrrfo1 {p:Prop} (h:p:=by
 go_wp2_with fail
 go_quiet (fail)
 go_wp2_with fail
 go_roundw
 case rel=>exact ⟨j+1,by omega,by go_num,zh (by rw [HF2.out];exact HOj.out.below ((Below.refl _ _).drewN _)),HOL3,zh (hbj.out.drewN _)⟩
 case measure=>exact zm):p:=h
theorem zrrfo2 {p:Prop} (h:p:=by
 go_wp2_with fail
 go_quiet (fail)
 go_wp2_with fail
 go_roundw
 case rel=>exact ⟨k+1,by omega,by go_num,zh (by rw [HF4.out];exact HOk.out.below ((Below.refl _ _).drewN _)),zh (hbk.out.drewN _)⟩
 case measure=>exact zm):p:=h
theorem OfD_ref (w:World) (vc vx vy:Value) (c:Catalog) (x:List Fact) (y:Choice) (hc:Is w vc c) (h:Is w vx x) (hy:Is w vy y) (hf:FewX c x) (hsz:∀ f∈x,sizeE f.expr≤5000) (hA:∀ t∈y.terms,t.length≤65) :
  Calls Tryz.prog 28 #[vc,vx,vy] w fun e w'=>DRO (dutiesC c x y) w e w':=by
 have HD:Hid (dutiesC c x y=if choiceE c x y true == 0 then (onceD [] (duesF c x x y.terms),0) else ([],choiceE c x y true)):=rfl;have HCT:Hid (choiceE c x y true=0→cntF x=y.terms.length):=zh (fun e=>choice_cnt e);have HC:=zh hc;have HX:=zh h;have HFW:=zh hf;have HAA:=zh hA;have HFIT:Hid (∀ f∈x,fitF f):=zh hf.fits;obtain ⟨a0,N0,c0,a1,N1,c1,a2,N2,c2,a3,N3,c3,rfl⟩:=catBox2 hc;obtain ⟨ax,nx,rfl,hnx,hmx,hr⟩:=list_inv h;obtain ⟨yt,yo⟩:=y;obtain ⟨at',ct,ao,co',rfl,lt,mt,rt,lo,mo,ro⟩:=Choice.inv hy;simp only [maxLen] at hmx mt;have HR:=zh hr;have HRT:=zh rt;have hLTm:yt.length≤9223372036854775807:=by omega
 obtain ⟨hb0,bc,be⟩:=boxD w #[.slice a0 N0 c0,.slice a1 N1 c1,.slice a2 N2 c2,.slice a3 N3 c3] #[.slice at' yt.length ct,.slice ao yo.length co'] 27 43;have hcall:=CheckChoice_ref _ _ _ _ c x ⟨yt,yo⟩ true (hc.mono hb0) (h.mono hb0) (hy.mono hb0) hf.fits hsz;have HB0:=zh hb0;have BC:=zh bc;have BE:=zh be;have d0:=objcell bc (j:=0) rfl;have d1:=objcell bc (j:=1) rfl;have d2:=objcell bc (j:=2) rfl;have d3:=objcell bc (j:=3) rfl;have e0:=objcell be (j:=0) rfl;have e1:=objcell be (j:=1) rfl;simp only at HD HCT HAA;generalize choiceE c x ⟨yt,yo⟩ true=ce at *;generalize dutiesC c x ⟨yt,yo⟩=R at *;clear h hc hy hf hsz hA hb0 bc be hr rt lt lo mo ro;generalize hL:x.length=L at *;have HL:=zh hL;generalize hLT:yt.length=LT at *;have HLT:=zh hLT;generalize yo.length=LO at *;clear hL hLT;go_enter Tryz.func28,Tryz.ntmps28;go_wp2_with fail
 generalize ((w.alloc (.cells #[.slice a0 N0 c0,.slice a1 N1 c1,.slice a2 N2 c2,.slice a3 N3 c3] 27)).alloc (.cells #[.slice at' LT ct,.slice ao LO co'] 43))=w0 at *;refine hcall.mono ?_;rintro e w1 ⟨rfl,hb1⟩;clear hcall d0 d1 d2 d3 e0 e1;have BC1:=zh (below_blk hb1 BC.out);have BE1:=zh (below_blk hb1 BE.out);have HB1:=zh (HB0.out.trans (hb1.mono HB0.out.size));have hs1:w.heap.size+1 < w1.heap.size:=heap_lt BE1.out;clear hb1 HB0 BC BE;cases q:(ce == 0);case false =>
  have q':(ce != 0)=true:=by rw [show (ce != 0)=!(ce == 0) from rfl,q];rfl
  have HT:Hid (R=([],ce)):=by show _=_;rw [HD.out,q];rfl
  clear HD HCT;go_wp2_with fail
  go_ret2;exact ⟨_,by rw [HT.out];rfl,by rw [HT.out];exact RowD.nil _ _,HB1.out⟩
 have q':(ce != 0)=false:=by rw [show (ce != 0)=!(ce == 0) from rfl,q];rfl
 have HT:Hid (R=(onceD [] (duesF c x x yt),0)):=by show _=_;rw [HD.out,q];rfl
 have HCN:=zh (HCT.out (by simpa using q));have hL260:L≤260:=by have:=HFW.out.2.2.1;rw [HL.out] at this;exact this
 clear HD HCT q;go_wp2_with fail
 clear q';go_loopw [9,10,11] (fun lv nv kv wr=>∃ i:Nat,i≤L∧kv=.int .i64 i∧nv=.int .i64 (cntF (x.take i):Int)∧Hid (RowD w1.heap.size wr lv (onceD [] (duesF c x (x.take i) yt)))∧Hid ((onceD [] (duesF c x (x.take i) yt)).length≤i * 615160000)∧Hid (Below w1.heap.size w1 wr)) (fun _ _ kv _=>L - (intOf kv).toNat)
 case atStart=>exact ⟨0,by omega,rfl,rfl,zh (RowD.nil _ _),zh (by simp [duesF,onceD]),zh (Below.refl _ _)⟩
 case round =>
  obtain ⟨i,hi,rfl,rfl,HO,HOL,hbr⟩:=hrel;by_cases hii:i < L
  ·have hiz:(i:Int) < (L:Int):=by omega
   have hi0:(0:Int)≤(i:Int):=by omega
   obtain ⟨f,hx⟩:=get_lt (xs:=x) (k:=i) (by rw [HL.out];exact hii);have HXI:=zh hx;have HSN:Hid (duesF c x (x.take (i+1)) yt=duesF c x (x.take i) yt++(if f.kind == 1 then duePart c x f ((yt.drop (cntF (x.take i))).headD []) else [])):=by
    show _=_;rw [take_at hx];exact duesF_snoc c x _ yt f
   have HCS:Hid (cntF (x.take (i+1))=cntF (x.take i)+if f.kind == 1 then 1 else 0):=by
    show _=_;rw [take_at hx];exact cntF_snoc f _
   have HCL:=zh (fun hk=>cnt_lt hx hk);have HBR:=zh (HB1.out.trans (hbr.out.mono HB1.out.size));obtain ⟨fki,fco,fou,fre,fwa,fdu,fch,⟨fek,fen,fex,feks⟩,fli⟩:=f;obtain ⟨bx,ox,rfl,hbx,fae,fce,fal,fcl,x0',x1',-⟩:=Fact.at_row HR.out hx;have x0:=kept HBR.out x0';have hzx:=cell_lt x0;simp only at HSN HCS HCL;have BEr:=zh (below_blk (hbr.out.mono (Nat.le_refl _)) BE1.out);have e0:=objcell BEr.out (j:=0) rfl;have hze:=cell_lt e0;clear hx x1';cases k1:(fki == 1);case false =>
    have k1':(fki != 1)=true:=by rw [show (fki != 1)=!(fki == 1) from rfl,k1];rfl
    have HS2:Hid (duesF c x (x.take (i+1)) yt=duesF c x (x.take i) yt):=by show _=_;rw [HSN.out,k1];simp
    have HC2:Hid (cntF (x.take (i+1))=cntF (x.take i)):=by show _=_;rw [HCS.out,k1];simp
    have HOL2:Hid ((onceD [] (duesF c x (x.take (i+1)) yt)).length≤(i+1) * 615160000):=by
     show _≤_;rw [HS2.out];exact Nat.le_trans HOL.out (Nat.mul_le_mul_right _ (Nat.le_succ _))
    clear HSN HCS HCL k1;go_wp2_with fail
    go_roundw
    case rel=>exact ⟨i+1,by omega,by go_num,by rw [HC2.out],zh (by rw [HS2.out];exact HO.out),HOL2,hbr⟩
    case measure=>exact zm
   case true =>
    have k1':(fki != 1)=false:=by rw [show (fki != 1)=!(fki == 1) from rfl,k1];rfl
    have hcl:=HCL.out k1;rw [HCN.out] at hcl;have HC2:Hid (cntF (x.take (i+1))=cntF (x.take i)+1):=by show _=_;rw [HCS.out,k1];simp
    generalize hcn:cntF (x.take i)=cn at *;obtain ⟨al,hal⟩:=get_lt (xs:=yt) (k:=cn) (by rw [HLT.out];exact hcl);have HS2:Hid (duesF c x (x.take (i+1)) yt=duesF c x (x.take i) yt++x.flatMap (useD c x fco al)):=by
     show _=_;rw [HSN.out,k1,if_pos rfl,head_at hal,part_uses]
    have hal65:al.length≤65:=HAA.out al (List.mem_of_getElem? hal);obtain ⟨by',oy,rfl,hby,aa,ca,y0',hy1,hy2,hy3⟩:=list_at HRT.out hal;have HIA:Hid (Is w (.slice aa al.length ca) al):=zh (list_mk hy1 hy2 hy3);have y0:=kept HBR.out y0';have hzy:=cell_lt y0;have hcn0:(0:Int)≤(cn:Int):=by omega
    have hcnL:(cn:Int) < (LT:Int):=by omega
    have hcn1:cn+1≤9223372036854775807:=by omega
    clear HSN HCS HCL k1 hal y0' hy1 hy2 hy3 hby hcn;generalize hALN:al.length=AL at *;have HALN:=zh hALN;generalize hO1:onceD [] (duesF c x (x.take i) yt)=o1 at *;have HO1:=zh hO1;clear hALN hO1;go_wp2_with fail
    clear x0 y0 e0 hzx hzy hze;obtain ⟨wi,hwi⟩:∃ W,W=wr:=⟨_,rfl⟩
    subst hwi;go_loopw [9,13] (fun lv kv wr=>∃ j:Nat,j≤L∧kv=.int .i64 j∧Hid (RowD w1.heap.size wr lv (onceD o1 ((x.take j).flatMap (useD c x fco al))))∧Hid ((onceD o1 ((x.take j).flatMap (useD c x fco al))).length≤o1.length+j * 2366000)∧Hid (Below w1.heap.size wi wr)) (fun _ kv _=>L - (intOf kv).toNat)
    case atStart=>exact ⟨0,by omega,rfl,HO,zh (by simp [onceD]),zh (Below.refl _ _)⟩
    case round =>
     obtain ⟨j,hj,rfl,HOj,HOjL,hbj⟩:=hrel;have HBJ:=zh (HBR.out.trans (hbj.out.mono (by omega)));by_cases hji:j < L
     ·have hjz:(j:Int) < (L:Int):=by omega
      have hj0:(0:Int)≤(j:Int):=by omega
      obtain ⟨u,hxu⟩:=get_lt (xs:=x) (k:=j) (by rw [HL.out];exact hji);have HXJ:=zh hxu;have HFJ:=zh (flat_at (useD c x fco al) hxu);have HUL:Hid (∀ v,(useD c x fco al v).length≤2366000):=zh (fun v=>use_len HFW.out (by rw [HALN.out];exact hal65));obtain ⟨uki,uco,uou,ure,uwa,udu,uch,⟨uek,uen,uex,ueks⟩,uli⟩:=u;obtain ⟨bx2,ox2,e2,-,uae,uce,ual,ucl,u0',u1',-⟩:=Fact.at_row HR.out hxu;cases e2;obtain ⟨bx3,ox3,e3,-,fae3,fce3,fal3,fcl3,x0',x1',-⟩:=Fact.at_row HR.out HXI.out;cases e3;have u0:=kept HBJ.out u0';have u1:=kept HBJ.out u1';have x1:=kept HBJ.out x1';have hzu:=cell_lt u0;have HUD:Hid (useD c x fco al ⟨uki,uco,uou,ure,uwa,udu,uch,.mk uek uen uex ueks,uli⟩=if uki == 0 && seq uco fco then x.flatMap (shipD c fco al ⟨uki,uco,uou,ure,uwa,udu,uch,.mk uek uen uex ueks,uli⟩) else []):=rfl;have hseq:seq uco fco=(uco.toList == fco.toList):=rfl;have HSE:=zh (seq_eq uco fco);clear hxu u0' u1' x0' x1';generalize hO2:onceD o1 ((x.take j).flatMap (useD c x fco al))=o2 at *;have HO2:=zh hO2;clear hO2;cases kk:(uki == 0 && seq uco fco);case false =>
       have HF2:Hid (onceD o1 ((x.take (j+1)).flatMap (useD c x fco al))=o2):=by
        show _=_;rw [HFJ.out,HUD.out,kk,if_neg Bool.false_ne_true,List.append_nil,HO2.out]
       have HOL3:Hid ((onceD o1 ((x.take (j+1)).flatMap (useD c x fco al))).length≤o1.length+(j+1) * 2366000):=by
        show _≤_;rw [HF2.out];exact Nat.le_trans HOjL.out (Nat.add_le_add_left (Nat.mul_le_mul_right _ (Nat.le_succ _)) _)
       clear HFJ HUD HUL;cases k2:(uki == 0);case false =>
        have k2':(uki != 0)=true:=by rw [show (uki != 0)=!(uki == 0) from rfl,k2];rfl
        clear kk k2 hseq;exact zrrfo1
       case true =>
        have k2':(uki != 0)=false:=by rw [show (uki != 0)=!(uki == 0) from rfl,k2];rfl
        rw [k2,Bool.true_and,hseq] at kk;have kk2:(!(uco.toList == fco.toList))=true:=by rw [kk];rfl
        clear k2 hseq;exact zrrfo1
      case true =>
       obtain ⟨k2,k3⟩:(uki == 0)=true∧seq uco fco=true:=by simpa using kk
       have k2':(uki != 0)=false:=by rw [show (uki != 0)=!(uki == 0) from rfl,k2];rfl
       have hceq:uco=fco:=by
        have h9:=HSE.out;rw [k3] at h9;exact of_decide_eq_true h9.symm
       have k3':(!(uco.toList == fco.toList))=false:=by rw [← hseq,k3];rfl
       have HF2:Hid (onceD o1 ((x.take (j+1)).flatMap (useD c x fco al))=onceD o2 (x.flatMap (shipD c fco al ⟨uki,uco,uou,ure,uwa,udu,uch,.mk uek uen uex ueks,uli⟩))):=by
        show _=_;rw [HFJ.out,HUD.out,kk,if_pos rfl,once_append,HO2.out]
       have HF3:Hid ((onceD o2 (x.flatMap (shipD c fco al ⟨uki,uco,uou,ure,uwa,udu,uch,.mk uek uen uex ueks,uli⟩))).length≤o2.length+2366000):=by
        show _≤_;refine Nat.le_trans (once_len _ _) ?_;have h9:=HUL.out ⟨uki,uco,uou,ure,uwa,udu,uch,.mk uek uen uex ueks,uli⟩;rw [HUD.out,kk,if_pos rfl] at h9;omega
       clear HFJ HUD HUL kk k2 k3;have HCE:=zh hceq;clear hceq hseq;go_wp2_with fail
       go_quiet (fail)
       have HOj2:=zh (HOj.out.below ((Below.refl _ _).drewN nq));have hbj2:=zh (hbj.out.drewN nq);have HBJ2:=zh (HBJ.out.drewN nq);clear HOj hbj HBJ u0 u1 x1 hzu;generalize wr.drewN nq=wj at *;clear k2' k3';go_wp2_with fail
       go_loopw [9,14] (fun lv kv wr=>∃ k:Nat,k≤L∧kv=.int .i64 k∧Hid (RowD w1.heap.size wr lv (onceD o2 ((x.take k).flatMap (shipD c fco al ⟨uki,uco,uou,ure,uwa,udu,uch,.mk uek uen uex ueks,uli⟩))))∧Hid (Below w1.heap.size wj wr)) (fun _ kv _=>L - (intOf kv).toNat)
       case atStart=>exact ⟨0,by omega,rfl,HOj2,zh (Below.refl _ _)⟩
       case round =>
        obtain ⟨k,hk,rfl,HOk,hbk⟩:=hrel;have hbkw:Below w.heap.size w wr:=HBJ2.out.trans (hbk.out.mono (by omega));have HBK:=zh hbkw;by_cases hki:k < L
        ·have hkz:(k:Int) < (L:Int):=by omega
         have hk0:(0:Int)≤(k:Int):=by omega
         obtain ⟨s,hxs⟩:=get_lt (xs:=x) (k:=k) (by rw [HL.out];exact hki);have HFK:=zh (flat_at (shipD c fco al ⟨uki,uco,uou,ure,uwa,udu,uch,.mk uek uen uex ueks,uli⟩) hxs);obtain ⟨ski,sco,sou,sre,swa,sdu,sch,⟨sek,sen,sex,seks⟩,sli⟩:=s;obtain ⟨bx4,ox4,e4,-,sae,sce,sal,scl,s0',s1',s2',s3',s4',s5',s6',s7',s8',s9',s10',s11',-,-,-,-,hsway,-⟩:=Fact.at_row HR.out hxs;cases e4;obtain ⟨bx5,ox5,e5,-,uae5,uce5,ual5,ucl5,u0',u1',u2',u3',u4',u5',u6',u7',u8',u9',u10',u11',hur⟩:=Fact.at_row HR.out HXJ.out;cases e5;have HUV:=zh (Fact.mk' (ch6:=uch) hur);have HSW:=zh hsway;have s0:=kept HBK.out s0';have s2:=kept HBK.out s2';have u2:=kept HBK.out u2';have S4:=zh (kept HBK.out s4');have U0:=zh (kept HBK.out u0');have U1:=zh (kept HBK.out u1');have U2:=zh u2;have U3:=zh (kept HBK.out u3');have U4:=zh (kept HBK.out u4');have U5:=zh (kept HBK.out u5');have U6:=zh (kept HBK.out u6');have U7:=zh (kept HBK.out u7');have U8:=zh (kept HBK.out u8');have U9:=zh (kept HBK.out u9');have U10:=zh (kept HBK.out u10');have U11:=zh (kept HBK.out u11');have hzs:=cell_lt s0;have HSD:Hid (shipD c fco al ⟨uki,uco,uou,ure,uwa,udu,uch,.mk uek uen uex ueks,uli⟩ ⟨ski,sco,sou,sre,swa,sdu,sch,.mk sek sen sex seks,sli⟩=if ski == 2 && seq sou uou then al.flatMap fun t=>dueT c fco ⟨uki,uco,uou,ure,uwa,udu,uch,.mk uek uen uex ueks,uli⟩ swa t else []):=rfl;have hseq:seq sou uou=(sou.toList == uou.toList):=rfl;have HKL:Hid ((onceD o2 ((x.take k).flatMap (shipD c fco al ⟨uki,uco,uou,ure,uwa,udu,uch,.mk uek uen uex ueks,uli⟩))).length≤o2.length+k * 9100):=by
          show _≤_;refine Nat.le_trans (once_len _ _) ?_;have h9:=flat_leA (M:=9100) (x.take k) fun s _=>ship_len (c:=c) (x:=x) (comp:=fco) (al:=al) (u:=⟨uki,uco,uou,ure,uwa,udu,uch,.mk uek uen uex ueks,uli⟩) (s:=s) HFW.out (by rw [HALN.out];exact hal65);rw [List.length_take] at h9;have h8:min k x.length * 9100≤k * 9100:=Nat.mul_le_mul_right _ (Nat.min_le_left _ _);omega
         clear hxs s0' s1' s2' s3' s4' s5' s6' s7' s8' s9' s10' s11' u0' u1' u2' u3' u4' u5' u6' u7' u8' u9' u10' u11' hur hsway hbkw;generalize hO3:onceD o2 ((x.take k).flatMap (shipD c fco al ⟨uki,uco,uou,ure,uwa,udu,uch,.mk uek uen uex ueks,uli⟩))=o3 at *;have HO3:=zh hO3;clear hO3;generalize ueks.length=UE at *;generalize uli.length=UL at *;generalize seks.length=SE at *;generalize sli.length=SL at *;cases kk:(ski == 2 && seq sou uou);case false =>
          have HF4:Hid (onceD o2 ((x.take (k+1)).flatMap (shipD c fco al ⟨uki,uco,uou,ure,uwa,udu,uch,.mk uek uen uex ueks,uli⟩))=o3):=by
           show _=_;rw [HFK.out,HSD.out,kk,if_neg Bool.false_ne_true,List.append_nil,HO3.out]
          clear HFK HSD;cases k2:(ski == 2);case false =>
           clear kk hseq;exact zrrfo2
          case true =>
           rw [k2,Bool.true_and,hseq] at kk;clear hseq;exact zrrfo2
         case true =>
          obtain ⟨k2,k3⟩:(ski == 2)=true∧seq sou uou=true:=by simpa using kk
          rw [hseq] at k3;have HF4:Hid (onceD o2 ((x.take (k+1)).flatMap (shipD c fco al ⟨uki,uco,uou,ure,uwa,udu,uch,.mk uek uen uex ueks,uli⟩))=onceD o3 (al.flatMap fun t=>dueT c uco ⟨uki,uco,uou,ure,uwa,udu,uch,.mk uek uen uex ueks,uli⟩ swa t)):=by
           show _=_;rw [HFK.out,HSD.out,kk,if_pos rfl,once_append,HO3.out,HCE.out]
          have hlen:o3.length+al.length * c.clauses.length≤1000000000000:=by
           have h1:=HKL.out;have h2:=HOjL.out;have h3:=HOL.out;have h4:al.length * c.clauses.length≤65 * 140:=Nat.mul_le_mul (by rw [HALN.out];exact hal65) HFW.out.2.1;omega
          have BCk:=zh (below_blk (show Below w1.heap.size w1 wr from (hbr.out.trans hbj2.out).trans hbk.out) BC1.out);clear HFK HSD kk hseq;go_wp2_with fail
          go_quiet (fail)
          clear s0 s2 u2;have hbq:Below wr.heap.size wr (wr.drewN nq):=(Below.refl _ _).drewN nq;have HBQ:Hid (Below w1.heap.size wj (wr.drewN nq)):=zh (hbk.out.drewN nq);have HBW:Hid (Below w.heap.size w (wr.drewN nq)):=zh (HBK.out.drewN nq);have HOq:=zh (HOk.out.below hbq);have hB1:w1.heap.size≤(wr.drewN nq).heap.size:=Nat.le_trans (Nat.le_trans hbr.out.size hbj2.out.size) hbk.out.size;have BCq:=zh (below_blk hbq BCk.out);have s4:=kept hbq S4.out;have u0:=kept hbq U0.out;have u1:=kept hbq U1.out;have u2:=kept hbq U2.out;have u3:=kept hbq U3.out;have u4:=kept hbq U4.out;have u5:=kept hbq U5.out;have u6:=kept hbq U6.out;have u7:=kept hbq U7.out;have u8:=kept hbq U8.out;have u9:=kept hbq U9.out;have u10:=kept hbq U10.out;have u11:=kept hbq U11.out;have d0:=objcell BCq.out (j:=0) rfl;have d1:=objcell BCq.out (j:=1) rfl;have d2:=objcell BCq.out (j:=2) rfl;have d3:=objcell BCq.out (j:=3) rfl;clear HOk hbk HBK BCk U0 U1 U2 U3 U4 U5 U6 U7 U8 U9 U10 U11 S4 hbq k2 k3;generalize wr.drewN nq=wk at *;have hzd:=cell_lt d0;have hzu:=cell_lt u0;have hcall:=due_ref w wk.drew w1.heap.size c _ (.slice aa AL ca) _ _ o3 al ⟨uki,uco,uou,ure,uwa,udu,uch,.mk uek uen uex ueks,uli⟩ swa (HBW.out.drewN 1) HB1.out.size hB1 HC.out HIA.out HUV.out (HOq.out.below (Below.refl _ _).drew) HSW.out hlen;rw [← HF4.out] at hcall;generalize hO4:onceD o2 ((x.take (k+1)).flatMap (shipD c fco al ⟨uki,uco,uou,ure,uwa,udu,uch,.mk uek uen uex ueks,uli⟩))=o4 at *;have HO4:=zh hO4;clear hO4 HF4 hlen;go_wp2_with fail
          refine still_tail 12 (by kernel_rfl) (by kernel_rfl) ?_;simp only [zt];repeat still_step
          refine wpStill_nil ?_;go_wp2_with fail
          refine hcall.mono ?_;rintro e w6 ⟨v6,rfl,ho6,hb6,-⟩;have HO6:=zh ho6;have HB6:Hid (Below w1.heap.size wj w6):=zh (HBQ.out.drew.trans hb6);clear hcall ho6 hb6 d0 d1 d2 d3 u0 u1 u2 u3 u4 u5 u6 u7 u8 u9 u10 u11 s4;go_wp2_with fail
          go_roundw
          case rel=>exact ⟨k+1,by omega,by go_num,zh (by rw [HO4.out];exact HO6.out),HB6⟩
          case measure=>exact zm
        ·have hkz:¬ (k:Int) < (L:Int):=by omega
         have HO5:Hid (RowD w1.heap.size wr u9 (onceD o1 ((x.take (j+1)).flatMap (useD c x fco al)))):=by
          have h9:=HOk.out;rw [List.take_of_length_le (by rw [HL.out];omega),← HF2.out] at h9;exact zh h9
         have HO5L:Hid ((onceD o1 ((x.take (j+1)).flatMap (useD c x fco al))).length≤o1.length+(j+1) * 2366000):=by
          show _≤_;rw [HF2.out];have h1:=HF3.out;have h2:=HOjL.out;omega
         clear HOk HF2 HF3;go_wp2_with fail
         go_roundw
         case rel=>exact ⟨j+1,by omega,by go_num,HO5,HO5L,zh (hbj2.out.trans hbk.out)⟩
         case measure=>exact zm
     ·have hjz:¬ (j:Int) < (L:Int):=by omega
      have hjL:j=L:=by omega
      have HE1:Hid (onceD [] (duesF c x (x.take (i+1)) yt)=onceD o1 (x.flatMap (useD c x fco al))):=by
       show _=_;rw [HS2.out,once_append,HO1.out]
      have HO5:Hid (RowD w1.heap.size wr u9 (onceD [] (duesF c x (x.take (i+1)) yt))):=by
       have h9:=HOj.out;rw [List.take_of_length_le (by rw [HL.out];omega),← HE1.out] at h9;exact zh h9
      have HO5L:Hid ((onceD [] (duesF c x (x.take (i+1)) yt)).length≤(i+1) * 615160000):=by
       show _≤_;have h9:=HOjL.out;rw [List.take_of_length_le (by rw [HL.out];omega),← HE1.out] at h9;have h8:=HOL.out;omega
      clear HOj HOjL HE1 HS2;go_wp2_with fail
      go_roundw
      case rel=>exact ⟨i+1,by omega,by go_num,by rw [HC2.out];go_num,HO5,HO5L,zh (hbr.out.trans hbj.out)⟩
      case measure=>exact zm
  ·have hiz:¬ (i:Int) < (L:Int):=by omega
   have HOF:Hid (RowD w1.heap.size wr u9 (onceD [] (duesF c x x yt))):=by
    have h9:=HO.out;rw [List.take_of_length_le (by rw [HL.out];omega)] at h9;exact zh h9
   clear HO HOL;go_wp2_with fail
   go_ret2;exact ⟨_,by rw [HT.out];rfl,by rw [HT.out];exact HOF.out.weaken HB1.out.size,HB1.out.trans (hbr.out.mono HB1.out.size)⟩
end Go.Proofs.YtcbopdbbcgdkcaaGreatDoor
