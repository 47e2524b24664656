/- Lemmas. -/
import Derived.Test.YtcbopdbbcgdkcaaGreatDoorLMeanU
import Derived.Test.YtcbopdbbcgdkcaaGreatDoorLLookU
import Derived.Test.YtcbopdbbcgdkcaaGreatDoorLR33U
set_option linter.all false
set_option maxRecDepth 100000
set_option maxHeartbeats 16000000
namespace Go.Proofs.YtcbopdbbcgdkcaaGreatDoor
open Go Go.RowKit Go.ChangeShapes
abbrev Ec (t:TypeId):Prop:=t=74∨t=24
theorem app_clauseZ {ops:Array Oper} {rest:List Oper} {o:Oper} {a:Act} {Q:Exit→Act→World→Prop} {w:World} (hgd:o.guard=none) (s x:Operand)
  (ho:o.op=.call { callee:=.builtin .append,args:=#[s,x],argTypes:=#[24,24] })
  (B B0:Nat) (hB0:B0≤B) (v:Value) (xs:List Clause) (hs:a.eval s=v) (hown:OwnL B Ec 74 w v xs) (hown0:OwnL B0 Ec 74 w v xs)
  (news:Array Value) (y:Clause) (hx:a.eval x=.slice (some ⟨w.heap.size,0,none⟩) 1 1) (hn:news.size=Lay.n Clause) (h1:∀ u∈news.toList,u.oneCell'=true)
  (hy:∀ w'',Agree B0 Ec (w.alloc (.cells news 74)) w''→Lay.is w'' (fun j=>news.toList[j]?) y)
  (hb:xs.length≤1000000000) (hB:B≤w.heap.size)
  (h:∀ v' w',OwnL B Ec 74 w' v' (xs++[y])→OwnL B0 Ec 74 w' v' (xs++[y])→Below B w w'→w.heap.size < w'.heap.size→wpList Tryz.prog ops Q rest (a.put o.dst v') w') :
  wpList Tryz.prog ops Q (o :: rest) a (w.alloc (.cells news 74)):=by
 obtain ⟨cs,hrow⟩:=hown.row;have hal:Below w.heap.size w (w.alloc (.cells news 74)):=zb;refine wp_app clRow rfl (by decide) Tryz.underlying24 hgd s x ho B v xs.length cs hs hrow news hx hn h1 (by omega) hB fun v' w' h2 h3 _=>?_;refine h v' w' (OwnL.snoc (E:=Ec) (.inl rfl) hown hal (by rw [Array.length_toList];exact hn) (fun w'' hA=>hy w'' (hA.lower hB0)) h3 fun cs2 h4=>?_) (OwnL.snoc (E:=Ec) (.inl rfl) hown0 hal (by rw [Array.length_toList];exact hn) hy h3 fun cs2 h4=>?_) ?_ ?_
 ·rw [OwnL.row_unique hrow h4] at h2;exact h2
 ·rw [OwnL.row_unique (ownsRow_weaken hrow hB0) h4] at h2;exact ownsRow_weaken h2 hB0
 ·exact ((Below.refl _ _).alloc (by omega) _).app h3 (by simp;omega) hrow
 ·have:=h3.size;simp at this;omega
open Go.Sort Go.Lib

section
variable {α:Type} [Lay α] {B:Nat} {E:TypeId→Prop} {e:TypeId} {w w':World} {v:Value} {xs:List α}
end

end Go.Proofs.YtcbopdbbcgdkcaaGreatDoor
namespace Go.Proofs.YtcbopdbbcgdkcaaGreatDoor
open Go Go.RowKit Go.ChangeShapes
def CW (w0:World) (xs:List Clause) (w:World) (e:Ending) (w':World):Prop:=∃ s,e=.returned s∧OwnL w0.heap.size Ec 74 w' s xs∧Below w.heap.size w w'
theorem zrlookv0 {p:Prop} (h:p:=by
 go_wp2;go_roundw
 case rel=>exact ⟨k+1,by omega,by go_num,HR6.out,(NO.out HP.out).1,(NO.out HP.out).2⟩
 case measure=>exact zm):p:=h
theorem Due_o (w0 w:World) (x0:Value) (c:Catalog) (t:Term) (way rel:Int) (h0:Is w0 x0 c) (hb0:Below w0.heap.size w0 w) (h128:c.clauses.length≤128) :
  Calls Tryz.prog 187 #[x0,.agg #[.string t.license,.string t.exception],.int .i64 way,.int .i64 rel] w fun e w'=>CW w0 (c.clauses.filter (clauseIs t way rel ((liftsR c t).getD []))) w e w':=by
 have h:=h0.mono hb0;have HB0:=zh hb0;obtain ⟨_,_,_,_,_,_,_,_,he0,-,-,-,-,-,-,-,-,r20,-⟩:=Catalog.inv h0;have R20:Hid (∃ a2 c2,(∃ q0 q1 q3,x0=.agg #[q0,q1,.slice a2 c.clauses.length c2,q3])∧Row w0 a2 c.clauses):=⟨_,_,⟨_,_,_,he0⟩,r20⟩
 clear he0 r20 hb0 h0;have HI:=zh h;obtain ⟨a0,c0,a1,c1,a2,c2,a3,c3,rfl,l0,m0,r0,l1,m1,r1,l2,m2,r2,l3,m3,r3⟩:=Catalog.inv h;have R2:=zh r2;have n2:c.clauses.length≤9223372036854775807:=by simp only [maxLen] at m2;omega
 have R0W:Hid (Row w0 a2 c.clauses):=by
  obtain ⟨_,_,⟨_,_,_,he⟩,hr⟩:=R20.out;cases he;exact hr
 clear h r0 r1 r2 r3 m0 m1 m2 m3 l1 l2 l3 l0 R20;generalize hN:c.clauses.length=N2 at *;have HN:=zh hN;clear hN;generalize c.licenses.length=N0 at *;generalize c.exceptions.length=N1 at *;generalize c.apart.length=N3 at *;go_enter Tryz.func187,Tryz.ntmps187;go_wp2_with fail
 refine (lifts_ref _ _ c t (HI.out.mono bw)).mono ?_;unfold LOut;rintro e w1 ⟨s,rfl,hs,hb1⟩;have d2:=kb w hb1 2 (.slice a2 N2 c2);have e0:=kb1 w hb1 0 (.string t.license);have hbw:Below w.heap.size w w1:=bw;have HB1:=zh hbw;have hz1:w.heap.size < w1.heap.size:=cell_lt d2;have hz2:w.heap.size+1 < w1.heap.size:=cell_lt e0;generalize (liftsR c t).isSome=sm;obtain ⟨l,hleq⟩:∃ l,l=(liftsR c t).getD []:=⟨_,rfl⟩
 rw [← hleq] at hs;have HLQ:=zh hleq;clear hleq;obtain ⟨la,lc,rfl,hl0,hlc,hlr⟩:=list_inv hs;simp only [maxLen] at hlc;have HL:=zh hlr;have hln:l.length≤9223372036854775807:=by omega
 generalize hM:l.length=M at *;have HM:=zh hM;clear hb1 hbw hs hlr hM hl0 hlc;go_wp2;go_loopw [11,12] (fun vo kv wr=>∃ k:Nat,k≤N2∧kv=.int .i64 k∧Below w1.heap.size w1 wr∧Hid (OwnL w1.heap.size Ec 74 wr vo ((c.clauses.take k).filter (clauseIs t way rel l)))∧Hid (OwnL w0.heap.size Ec 74 wr vo ((c.clauses.take k).filter (clauseIs t way rel l)))) (fun _ kv _=>N2 - (intOf kv).toNat)
 case atStart=>exact ⟨0,by omega,rfl,Below.refl _ _,OwnL.nil _ _ _ _,OwnL.nil _ _ _ _⟩
 case round =>
  obtain ⟨k,hk,rfl,hbr0,HO,HO0⟩:=hrel;have hbr:=zh hbr0;have hwr:w1.heap.size≤wr.heap.size:=hbr0.size;clear hbr0;have H0r:Hid (Below w0.heap.size w0 wr):=HB0.out.trans ((HB1.out.trans (hbr.out.mono HB1.out.size)).mono HB0.out.size);have hz0:w0.heap.size≤w1.heap.size:=Nat.le_trans HB0.out.size HB1.out.size;have g2:=kept hbr.out d2;have g3:=kept hbr.out e0;have hs1:w.heap.size < wr.heap.size:=cell_lt g2;have hs2:w.heap.size+1 < wr.heap.size:=cell_lt g3;by_cases hki:k < N2
  ·obtain ⟨x,hx⟩:=get_lt (xs:=c.clauses) (k:=k) (by rw [HN.out];exact hki);have HT:Hid ((c.clauses.take (k+1)).filter (clauseIs t way rel l)=(c.clauses.take k).filter (clauseIs t way rel l)++(if clauseIs t way rel l x then [x] else [])):=by
    show _=_;rw [take_at hx,List.filter_append];simp [List.filter_cons]
   obtain ⟨b,off,rfl,hb,ya,yc,y0',y1',y2',y3',y4',ys0,ys1,ys2,ys3,hyl,hyc,hyr⟩:=Clause.at_row R0W.out hx;have y0:=kept H0r.out y0';have y1:=kept H0r.out y1';have y2:=kept H0r.out y2';have y3:=kept H0r.out y3';have y4:=kept H0r.out y4';have HY:=zh (And.intro hyl (And.intro hyc hyr));have HS:=zh (And.intro ys0 (And.intro ys1 (And.intro ys2 ys3)));have hs3:b < wr.heap.size:=cell_lt y0;clear hx hyr y0' y1' y2' y3' y4' hyl hyc ys0 ys1 ys2 ys3;generalize hX:x.list.length=NX at *;have HX:=zh hX;clear hX;go_wp2;have HB5:Hid (Below wr.heap.size wr (wr.alloc (.cells #[.string x.license,.int .i64 x.way,.int .i64 x.relation,.int .i64 x.duty,.slice ya NX yc] 74))):=zh bw;have z0:(wr.alloc (.cells #[.string x.license,.int .i64 x.way,.int .i64 x.relation,.int .i64 x.duty,.slice ya NX yc] 74)).cell? ⟨wr.heap.size,0,none⟩=some (.string x.license):=by simp
   have z1:(wr.alloc (.cells #[.string x.license,.int .i64 x.way,.int .i64 x.relation,.int .i64 x.duty,.slice ya NX yc] 74)).cell? ⟨wr.heap.size,1,none⟩=some (.int .i64 x.way):=by simp
   have z2:(wr.alloc (.cells #[.string x.license,.int .i64 x.way,.int .i64 x.relation,.int .i64 x.duty,.slice ya NX yc] 74)).cell? ⟨wr.heap.size,2,none⟩=some (.int .i64 x.relation):=by simp
   have z3:(wr.alloc (.cells #[.string x.license,.int .i64 x.way,.int .i64 x.relation,.int .i64 x.duty,.slice ya NX yc] 74)).cell? ⟨wr.heap.size,3,none⟩=some (.int .i64 x.duty):=by simp
   have z4:(wr.alloc (.cells #[.string x.license,.int .i64 x.way,.int .i64 x.relation,.int .i64 x.duty,.slice ya NX yc] 74)).cell? ⟨wr.heap.size,4,none⟩=some (.slice ya NX yc):=by simp
   have G2:=kept HB5.out g2;have G3:=kept HB5.out g3;generalize wr.alloc (.cells #[.string x.license,.int .i64 x.way,.int .i64 x.relation,.int .i64 x.duty,.slice ya NX yc] 74)=w5 at *;have hs5:wr.heap.size < w5.heap.size:=cell_lt z0;clear y0 y1 y2 y3 y4 g2 g3;go_loopw [14,15] (fun bv kv ws=>∃ (b:Bool) (j:Nat),bv=.bool b∧j≤M∧kv=.int .i64 j∧(∃ n,ws=w5.drewN n)∧Hid (b=(l.take j).contains x.duty)) (fun _ kv _=>M - (intOf kv).toNat)
   case atStart=>exact ⟨false,0,rfl,by omega,rfl,(by first | exact ⟨_,rfl⟩ | exact ⟨0,rfl⟩),rfl⟩
   case round =>
    obtain ⟨bb,j,rfl,hj,rfl,⟨n,rfl⟩,hbb⟩:=hrel;by_cases hji:j < M
    ·obtain ⟨y,hy⟩:=get_lt (xs:=l) (k:=j) (by rw [HM.out];exact hji);obtain ⟨b6,off6,rfl,hb6,u0',-⟩:=int_at HL.out hy;have u0:w5.cell? ⟨b6,off6+j,none⟩=some (.int .i64 y):=kept (W:=w1) (by have hq:=hbr.out;have hq5:=HB5.out;have hh:=hq.size;exact bw) u0';have HTJ:Hid ((l.take (j+1)).contains x.duty=((l.take j).contains x.duty || (y == x.duty))):=by
      show _=_;rw [take_at hy,Bool.eq_iff_iff];simp only [List.contains_eq_mem,List.mem_append,List.mem_singleton,decide_eq_true_eq,Bool.or_eq_true,beq_iff_eq];exact ⟨fun h=>h.imp id Eq.symm,fun h=>h.imp id Eq.symm⟩
     clear hy u0';cases bb;case true =>
      go_wp2;go_quiet (fail)
      go_wp2;go_roundw
      case rel=>exact ⟨true,j+1,rfl,by omega,by go_num,⟨_,rfl⟩,by show _=_;rw [HTJ.out,← hbb.out];rfl⟩
      case measure=>exact zm
     case false =>
      cases q5:(y == x.duty)
      all_goals
       go_wp2;go_quiet (fail)
       go_wp2;go_roundw
       case rel=>exact ⟨_,j+1,rfl,by omega,by go_num,⟨_,rfl⟩,by show _=_;rw [HTJ.out,← hbb.out,q5];rfl⟩
       case measure=>exact zm
    ·have HBB:Hid (bb=l.contains x.duty):=by show _=_;rw [hbb.out,List.take_of_length_le (by rw [HM.out];omega)]
     have HBn:Hid (Below wr.heap.size wr (w5.drewN n)):=by have hq:=HB5.out;show Below _ _ _;exact bw
     clear hbb;have hsn:w5.heap.size=(w5.drewN n).heap.size:=rfl;have Z0:(w5.drewN n).cell? ⟨wr.heap.size,0,none⟩=some (.string x.license):=z0;have Z1:(w5.drewN n).cell? ⟨wr.heap.size,1,none⟩=some (.int .i64 x.way):=z1;have Z2:(w5.drewN n).cell? ⟨wr.heap.size,2,none⟩=some (.int .i64 x.relation):=z2;have Z3:(w5.drewN n).cell? ⟨wr.heap.size,3,none⟩=some (.int .i64 x.duty):=z3;have Z4:(w5.drewN n).cell? ⟨wr.heap.size,4,none⟩=some (.slice ya NX yc):=z4;have H2:(w5.drewN n).cell? ⟨w.heap.size,2,none⟩=some (.slice (some ⟨b,off,none⟩) N2 c2):=G2;have H3:(w5.drewN n).cell? ⟨w.heap.size+1,0,none⟩=some (.string t.license):=G3;clear z0 z1 z2 z3 z4 G2 G3 HB5;rw [hsn] at hs5;clear hsn;generalize w5.drewN n=w6 at *
     have NO:Hid (clauseIs t way rel l x=false→OwnL w1.heap.size Ec 74 w6 _ ((c.clauses.take (k+1)).filter (clauseIs t way rel l))∧OwnL w0.heap.size Ec 74 w6 _ ((c.clauses.take (k+1)).filter (clauseIs t way rel l))):=fun h=>by
      rw [HT.out,h];exact ⟨by simpa using HO.out.below HBn.out,by simpa using HO0.out.below HBn.out⟩
     have HR6:Hid (Below w1.heap.size w1 w6):=by have hq:=hbr.out;exact hq.trans (HBn.out.mono hq.size)
     cases q1:(x.license.toList == t.license.toList);case false =>
      have HP:Hid (clauseIs t way rel l x=false):=by show _=_;unfold clauseIs seq;rw [q1];rfl
      exact zrlookv0
     cases q2:(x.way == way);case false =>
      have HP:Hid (clauseIs t way rel l x=false):=by show _=_;unfold clauseIs seq;rw [q1,q2];rfl
      exact zrlookv0
     cases q3:(x.relation == rel);case false =>
      have HP:Hid (clauseIs t way rel l x=false):=by show _=_;unfold clauseIs seq;rw [q1,q2,q3];rfl
      exact zrlookv0
     cases bb;case true =>
      have HP:Hid (clauseIs t way rel l x=false):=by show _=_;unfold clauseIs seq;rw [q1,q2,q3,← HBB.out];rfl
      exact zrlookv0
     case false =>
      have HP:Hid (clauseIs t way rel l x=true):=by show _=_;unfold clauseIs seq;rw [q1,q2,q3,← HBB.out];rfl
      clear NO;go_wp2_with (at_builtin;go_loud (refine app_clauseZ rfl _ _ rfl w1.heap.size w0.heap.size hz0 _ _ rfl (HO.out.below HBn.out) (HO0.out.below HBn.out) _ ⟨x.license,x.way,x.relation,x.duty,x.list⟩ ?cx rfl ?c1 ?c2 ?c3 ?c4 ?_))
      case cx=>show Value.slice (some ⟨w6.heap.size,0,none⟩) 1 1=_;simp
      case c1=>exact ⟨rfl,rfl,rfl,rfl,rfl⟩
      case c2 =>
       intro w'' hA;obtain ⟨s0,s1,s2,s3⟩:=HS.out;obtain ⟨h1,h2,h3⟩:=HY.out;have hq:Below w0.heap.size w0 w6:=H0r.out.trans (HBn.out.mono H0r.out.size);have hr:=row_str_agree h3 (hq.trans (((Below.refl w6.heap.size w6).alloc (Nat.le_refl _) (.cells #[.string x.license,.int .i64 x.way,.int .i64 x.relation,.int .i64 x.duty,.slice ya NX yc] 74)).mono hq.size)) hA;exact Clause.is_iff.2 ⟨ya,yc,rfl,rfl,rfl,rfl,by rw [HX.out];rfl,s0,s1,s2,s3,by rw [HX.out];exact h1,h2,hr⟩
      case c3=>exact Nat.le_trans (List.length_filter_le _ _) (by rw [List.length_take];omega)
      case c4=>omega
      intro v' w3 ho ho0 hb4 hsz;have HO3:=zh ho;have HO30:=zh ho0;have HB5:=zh (HR6.out.trans hb4);clear ho ho0 hb4 hsz;go_wp2;go_roundw
      case rel =>
       refine ⟨k+1,by omega,by go_num,HB5.out,?_,?_⟩
       ·show OwnL _ _ _ _ _ _;rw [HT.out,HP.out];exact HO3.out
       ·show OwnL _ _ _ _ _ _;rw [HT.out,HP.out];exact HO30.out
      case measure=>exact zm
  ·have HQ:Hid ((c.clauses.take k).filter (clauseIs t way rel l)=c.clauses.filter (clauseIs t way rel ((liftsR c t).getD []))):=by
    show _=_;rw [← HLQ.out,List.take_of_length_le (by rw [HN.out];omega)]
   go_wp2;go_ret;unfold CW;exact ⟨_,rfl,by have:=HO0.out;rw [HQ.out] at this;exact this,by have hq:=HB1.out;have hqs:=hq.size;have hr:=hbr.out;have hrs:=hr.size;exact bw⟩
theorem ClausesR_o (w0 w:World) (x0:Value) (c:Catalog) (t:Term) (way rel:Int) (h0:Is w0 x0 c) (hb0:Below w0.heap.size w0 w) :
  Calls Tryz.prog 131 #[x0,.agg #[.string t.license,.string t.exception],.int .i64 way,.int .i64 rel] w fun e w'=>CW w0 (clausesC c t way rel) w e w':=by
 have h:=h0.mono hb0;have HH0:=zh h0;have HB0:=zh hb0;clear h0 hb0;have HI:=zh h;obtain ⟨a0,c0,a1,c1,a2,c2,a3,c3,rfl,l0,m0,r0,l1,m1,r1,l2,m2,r2,l3,m3,r3⟩:=Catalog.inv h;clear h r0 r1 r2 r3 m0 m1 m2 m3 l1 l2 l3 l0;generalize c.licenses.length=N0 at *;generalize c.exceptions.length=N1 at *;generalize hN:c.clauses.length=N2 at *;have HN:=zh hN;clear hN;generalize c.apart.length=N3 at *;go_enter Tryz.func131,Tryz.ntmps131;go_wp2_with fail
 refine (Known_ref _ _ c t (HI.out.mono bw)).mono ?_;rintro e w1 ⟨rfl,hb1⟩;have d0:=kb w hb1 0 (.slice a0 N0 c0);have d1:=kb w hb1 1 (.slice a1 N1 c1);have d2:=kb w hb1 2 (.slice a2 N2 c2);have d3:=kb w hb1 3 (.slice a3 N3 c3);have e0:=kb1 w hb1 0 (.string t.license);have e1:=kb1 w hb1 1 (.string t.exception);have hbw:Below w.heap.size w w1:=bw;have HB1:=zh hbw;have hz1:w.heap.size+1 < w1.heap.size:=cell_lt e0;clear hb1 hbw;cases q1:(liftsC c t).isSome;case false =>
  have HF:Hid (clausesC c t way rel=[]):=clauses_none (by simpa using q1) way rel;go_wp2;go_ret;unfold CW;exact ⟨_,rfl,by rw [HF.out];exact OwnL.nil _ _ _ _,by have hq:=HB1.out;have hqs:=hq.size;exact bw⟩
 obtain ⟨l,hl⟩:=Option.isSome_iff_exists.1 q1;have HF:=zh (clauses_due hl way rel);have h128:=clauses_128 (lifts_check hl);rw [HN.out] at h128;have H128:=zh h128;clear hl h128;go_wp2_with fail
 refine (Due_o w0 _ _ c t way rel HH0.out (HB0.out.trans (HB1.out.mono HB0.out.size)) (by rw [HN.out];exact H128.out)).mono ?_;unfold CW;rintro e w2 ⟨s,rfl,hs,hb2⟩;rw [← HF.out] at hs;have HS:=zh hs;have HB2:=zh (HB1.out.trans (hb2.mono HB1.out.size));clear hs hb2;go_wp2;go_ret;exact ⟨_,rfl,HS.out,HB2.out⟩
open Go.Lib

def OwnW {α:Type} [Lay α] (B0 B:Nat) (E:TypeId→Prop) (e:TypeId) (w:World) (v:Value) (xs:List α):Prop:=OwnL B0 E e w v xs∧∃ cs,w.ownsRow B e (Lay.n α) v xs.length cs
section
variable {α:Type} [Lay α] {B0 B:Nat} {E:TypeId→Prop} {e:TypeId} {w w':World} {v:Value} {xs:List α}
theorem OwnW.is (h:OwnW B0 B E e w v xs):Is w v xs:=h.1.is
theorem wpo_appW {P:Program} {t:TypeId} {z:Value} {bytes:Nat} (hinfo:(P.info? e).map (fun i=>(i.zero,i.size,i.bytes))=some (some z,Lay.n α,bytes))
  (hz:z.cells.size=Lay.n α) (hsz:0 < Lay.n α) (ht:P.underlying t=some (.slice e)) (hone:∀ (y:List Value) (x:α) (w:World),y.length=Lay.n α→Lay.is w (fun j=>y[j]?) x→∀ u∈y,u.oneCell'=true)
  {o:Oper} {a:Act} {K:Act→World→Prop} {Q:Exit→Act→World→Prop} (s x:Operand)
  (ho:o.op=.call { callee:=.builtin .append,args:=#[s,x],argTypes:=#[t,t] })
  (B0 B:Nat) (hB0:B0≤B) (v u:Value) (xs ys:List α) (hs:a.eval s=v) (hx:a.eval x=u) (hE:E e) (hown:OwnW B0 B E e w v xs) (hu:OwnL B0 E e w u ys)
  (hb:(xs.length+ys.length) * (bytes+1)≤140737488355328) (hB:B≤w.heap.size)
  (h:∀ v' w',OwnW B0 B E e w' v' (xs++ys)→Below B w w'→K (a.put o.dst v') w'):o.wp P a w K Q:=by
 obtain ⟨i0,hi,hz0,hz1,hz2⟩:=info_parts hinfo;have e1:(xs.length+ys.length) * (bytes+1)=(xs.length+ys.length) * bytes+(xs.length+ys.length):=by rw [Nat.mul_add,Nat.mul_one]
 obtain ⟨us,k1,k2,k3⟩:=id hu;obtain ⟨cs,hcs⟩:=hown.2;rcases k2.2 with ⟨rfl,h0⟩ | ⟨g,cap,cur,rfl,hg,hh,hn',hc,hsz',htk⟩
 ·obtain rfl:ys=[]:=List.length_eq_zero_iff.1 h0;obtain ⟨va,vc,rfl,hvc,-⟩:=list_inv hown.is;have hrun:=run_append_nothing (P:=P) w t t o.type e i0 ht hi va xs.length vc hvc (.slice none 0 0) (Src.ofNil w ht 0);have hk:=h (.slice va xs.length vc) w (by simpa using hown) (Below.refl _ _);unfold Oper.wp execOp;simp only [ho,resolve,invoke,builtin,Sem.run_bind,Sem.run_pure,Result.andThen_ok,List.map_toArray,List.map_cons,List.map_nil,hs,hx,hrun];exact hk
 ·have hall:=OwnL.all (P:=fun z=>∀ u∈z,u.oneCell'=true) k1 (fun i y x hy hx=>hone y x w (k3 i y x hy hx).1 ((k3 i y x hy hx).2 w (Agree.refl _ _ _)));refine wp_append_own w s x t ho B e i0 z (Lay.n α) bytes ht hi hz0 hz1 hz2 hz hsz v xs.length cs hs hcs ⟨g,0,none⟩ ys.length cap us.flatten hx k2.1 ?_ ?_ ?_ ?_ hB ?_
  ·intro j q hj;have e2:(⟨g,0,none⟩:Addr).add j=⟨g,j,none⟩:=by
    unfold Addr.add;split
    ·subst j;rfl
    ·simp
   rw [e2];refine objcell hh ?_;rw [← htk,List.getElem?_take] at hj;split at hj
   ·simpa using hj
   ·cases hj
  ·intro q hq;obtain ⟨y,hy,hqy⟩:=List.mem_flatten.1 hq;exact hall y hy q hqy
  ·unfold maxLen;omega
  ·omega
  ·intro v' w' h2 h3 h4;refine h v' w' ⟨OwnL.join hE hown.1 hu h3 fun cs' ds' r1 r2=>?_,⟨cs++us.flatten,?_⟩⟩ ((Below.refl _ _).app h3 (by omega) hcs)
   ·rw [OwnL.row_unique r1 (ownsRow_weaken hcs (hB0)),OwnL.row_unique r2 k2];exact ownsRow_weaken h2 (hB0)
   ·rw [List.length_append];exact h2
end
end Go.Proofs.YtcbopdbbcgdkcaaGreatDoor
