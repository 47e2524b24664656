/- Lemmas. -/
import Derived.Deep.DeepCutAuto
import Derived.Test.YtcbopdbbcgdkcaaGreatDoorLDuB
import Derived.Test.YtcbopdbbcgdkcaaGreatDoorLPairU
set_option linter.all false
set_option maxRecDepth 100000
set_option maxHeartbeats 16000000
namespace Go.Proofs.YtcbopdbbcgdkcaaGreatDoor
open Go Go.RowKit Go.ChangeShapes Go.Lib

theorem catBox2 {w:World} {c:Catalog} {v:Value} (h:Is w v c):∃ a0 n0 c0 a1 n1 c1 a2 n2 c2 a3 n3 c3,v=.agg #[.slice a0 n0 c0,.slice a1 n1 c1,.slice a2 n2 c2,.slice a3 n3 c3]:=by
 obtain ⟨a0,c0,a1,c1,a2,c2,a3,c3,rfl,-⟩:=Catalog.inv h;exact ⟨_,_,_,_,_,_,_,_,_,_,_,_,rfl⟩
def fitF (f:Fact):Prop:=f.component.size < 4294967281∧f.output.size < 4294967281∧sizeE f.expr≤1000000
theorem usesB_parts (k:Int):∃ u0 u1 u2 u3 u4 u5 u6 u7:Bool,usesB k=#[.bool u0,.bool u1,.bool u2,.bool u3,.bool u4,.bool u5,.bool u6,.bool u7]∧u0=(k == 0 || k == 1 || k == 4)∧u1=(k == 0 || k == 2 || k == 3)∧u4=(k == 1):=⟨_,_,_,_,_,_,_,_,rfl,rfl,rfl,rfl⟩
theorem any_none_at {α:Type} {p:α→Bool} {xs:List α} {k:Nat} {x:α} (hx:xs[k]?=some x):(xs.take (k+1)).any p=((xs.take k).any p || p x):=by
 rw [take_at hx,List.any_append];simp
theorem any_hit_at {α:Type} {p:α→Bool} {xs:List α} {k:Nat} {x:α} (hx:xs[k]?=some x) (hp:p x=true):xs.any p=true:=List.any_eq_true.2 ⟨x,List.mem_of_getElem? hx,hp⟩
def listE (c:Catalog) (l:List ByteArray):Int:=if l.any fun s=>(findC c s).isNone then 7 else if !incr slt l then 5 else 0
theorem zrduc0 {p:Prop} (h:p:=by
 clear HF3;go_wp2_with fail
 go_ret;exact ⟨by rw [HT.out];rfl,HB3.out⟩):p:=h
theorem zrduc1 {p:Prop} (h:p:=by
 go_wp2_with fail
 go_meet
 case rel=>exact ⟨by first | rfl | (rw [q2];rfl) | (rw [q1];rfl) | (rw [q1,q2];rfl) | (rw [q1];cases u1 <;> rfl),zh hb3⟩):p:=h
theorem checkFact_p (w:World) (vc v:Value) (c:Catalog) (f:Fact) (hg:Glob w) (hc:Is w vc c) (h:Is w v f) (hfit:fitF f) :
  Calls Tryz.prog 52 #[vc,v] w fun e w'=>e=.returned (.int .i64 (factE c f))∧Below w.heap.size w w':=by
 obtain ⟨ki,co,ou,re,wa,du,ch,⟨ek,en,ex,eks⟩,li⟩:=f;obtain ⟨ht1,ht2,ht3⟩:=hfit;simp only at ht1 ht2 ht3
 have HF:Hid (factE c (.mk ki co ou re wa du ch (.mk ek en ex eks) li) =
   if decide (ki < 0) || decide (4 < ki) || extraF (.mk ki co ou re wa du ch (.mk ek en ex eks) li) then 1
   else if (ki == 0 || ki == 1 || ki == 4) && !(pathE co == 0) || (ki == 0 || ki == 2 || ki == 3) && !(pathE ou == 0) then 2
   else if decide (re < 0) || decide (2 < re) || decide (wa < 0) || decide (2 < wa) || decide (du < 0) || decide (3 < du) then 3
   else if ki == 1 then checkE c (.mk ek en ex eks) else listE c li):=rfl
 obtain ⟨ae,ce,al,cl,rfl,s0,s1,s2,s3,s4,s5,s6,s7,s8,le,me,hre,ll,ml,hrl⟩:=Fact.inv h;have HX:Hid (Is w (.agg #[.int .i64 ek,.string en,.string ex,.slice ae eks.length ce]) (LExpr.mk ek en ex eks)):=zh (LExpr.mk' s6 s7 s8 le me hre);have HC:=zh hc;have HG:=zh hg;have HRL:=zh hrl;have ml':li.length≤9223372036854775807:=by simp only [maxLen] at ml;omega
 obtain ⟨a0,N0,c0,a1,N1,c1,a2,N2,c2,a3,N3,c3,rfl⟩:=catBox2 hc;have HCF:Hid (∀ W,Below w.heap.size w W→Calls Tryz.prog 115 #[.agg #[.slice a0 N0 c0,.slice a1 N1 c1,.slice a2 N2 c2,.slice a3 N3 c3],.agg #[.int .i64 ek,.string en,.string ex,.slice ae eks.length ce]] W fun e w'=>e=.returned (.int .i64 (checkE c (LExpr.mk ek en ex eks)))∧Below W.heap.size W w') :=
  fun W hb=>CheckX_p W _ _ c _ (HG.out.mono hb) (HC.out.mono hb) (HX.out.mono hb) ht3
 have HEX:Hid (∀ W,0≤ki→ki≤4→Calls Tryz.prog 113 #[.agg #[.int .i64 ki,.string co,.string ou,.int .i64 re,.int .i64 wa,.int .i64 du,.bool ch,.int .i64 ek,.string en,.string ex,.slice ae eks.length ce,.slice al li.length cl],.agg (usesB ki)] W
   fun e w'=>e=.returned (.bool (extraF (.mk ki co ou re wa du ch (.mk ek en ex eks) li)))∧Below W.heap.size W w') :=
  fun W h1 h2=>extra_p W ki co ou en ex re wa du ek ch eks li ae al ce cl h1 h2
 have HP1:Hid (∀ W,Below w.heap.size w W→Calls Tryz.prog 114 #[.string co] W fun e w'=>e=.returned (.int .i64 (pathE co))∧Below W.heap.size W w'):=fun W hb=>Path_p co W (HG.out.mono hb) ht1;have HP2:Hid (∀ W,Below w.heap.size w W→Calls Tryz.prog 114 #[.string ou] W fun e w'=>e=.returned (.int .i64 (pathE ou))∧Below W.heap.size W w'):=fun W hb=>Path_p ou W (HG.out.mono hb) ht2;have HFI:Hid (∀ W s,Below w.heap.size w W→Calls Tryz.prog 116 #[.agg #[.slice a0 N0 c0,.slice a1 N1 c1,.slice a2 N2 c2,.slice a3 N3 c3],.string s] W fun e w'=>e=.returned (.tuple #[licV ((findC c s).getD noLic),.bool (findC c s).isSome])∧Below W.heap.size W w') :=
  fun W s hb=>Find_p W _ c s (HG.out.mono hb) (HC.out.mono hb)
 generalize extraF (.mk ki co ou re wa du ch (.mk ek en ex eks) li)=xt at *;generalize checkE c (.mk ek en ex eks)=cx at *;generalize pathE co=p1 at *;generalize pathE ou=p2 at *;generalize eks.length=E at *;generalize hL:li.length=L at *;have HL:=zh hL;clear h hc hg hre hrl HX ht1 ht2 ht3 s0 s1 s2 s3 s4 s5 s6 s7 s8 le me ll ml hL;go_enter Tryz.func52,Tryz.ntmps52;go_wp2_with fail
 have hb0:Below w.heap.size w ((w.alloc (.cells #[.slice a0 N0 c0,.slice a1 N1 c1,.slice a2 N2 c2,.slice a3 N3 c3] 27)).alloc (.cells #[.int .i64 ki,.string co,.string ou,.int .i64 re,.int .i64 wa,.int .i64 du,.bool ch,.int .i64 ek,.string en,.string ex,.slice ae E ce,.slice al L cl] 70)):=bw;obtain ⟨u0,u1,u2,u3,u4,u5,u6,u7,hu,hu0,hu1,hu4⟩:=usesB_parts ki;rw [hu] at HEX;have huse:=uses_p ((w.alloc (.cells #[.slice a0 N0 c0,.slice a1 N1 c1,.slice a2 N2 c2,.slice a3 N3 c3] 27)).alloc (.cells #[.int .i64 ki,.string co,.string ou,.int .i64 re,.int .i64 wa,.int .i64 du,.bool ch,.int .i64 ek,.string en,.string ex,.slice ae E ce,.slice al L cl] 70)) ki;rw [hu] at huse;have HU:=zh (And.intro hu0 (And.intro hu1 hu4));clear hu hu0 hu1 hu4;refine huse.mono ?_;rintro e w1 ⟨rfl,hb1⟩;clear huse;have d0:=kb w hb1 0 (.slice a0 N0 c0);have d1:=kb w hb1 1 (.slice a1 N1 c1);have d2:=kb w hb1 2 (.slice a2 N2 c2);have d3:=kb w hb1 3 (.slice a3 N3 c3);have f0:=kb1 w hb1 0 (.int .i64 ki);have f1:=kb1 w hb1 1 (.string co);have f2:=kb1 w hb1 2 (.string ou);have f3:=kb1 w hb1 3 (.int .i64 re);have f4:=kb1 w hb1 4 (.int .i64 wa);have f5:=kb1 w hb1 5 (.int .i64 du);have f6:=kb1 w hb1 6 (.bool ch);have f7:=kb1 w hb1 7 (.int .i64 ek);have f8:=kb1 w hb1 8 (.string en);have f9:=kb1 w hb1 9 (.string ex);have f10:=kb1 w hb1 10 (.slice ae E ce);have f11:=kb1 w hb1 11 (.slice al L cl);have hs1:w.heap.size+1 < w1.heap.size:=cell_lt f0;have HB1:Hid (Below w.heap.size w w1):=zh (hb0.trans (hb1.mono (by simp;omega)));clear hb0 hb1;cases hok:(decide (0≤ki) && decide (ki≤4));case false =>
  have HT:Hid (factE c (.mk ki co ou re wa du ch (.mk ek en ex eks) li)=1):=by
   show _=_;rw [HF.out,if_pos];rw [Bool.and_eq_false_iff] at hok;simp only [decide_eq_false_iff_not] at hok;simp;omega
  clear hok;go_wp2_with fail
  go_ret;exact ⟨by rw [HT.out];rfl,by have hq:=HB1.out;exact bw⟩
 obtain ⟨hk0,hk4⟩:0≤ki∧ki≤4:=by simpa using hok
 have HF1:Hid (factE c (.mk ki co ou re wa du ch (.mk ek en ex eks) li)=if xt then 1 else if (u0 && !(p1 == 0) || u1 && !(p2 == 0)) then 2
   else if decide (re < 0) || decide (2 < re) || decide (wa < 0) || decide (2 < wa) || decide (du < 0) || decide (3 < du) then 3 else if u4 then cx else listE c li):=by
  show _=_;rw [HF.out,HU.out.1,HU.out.2.1,HU.out.2.2,decide_eq_false (by omega:¬ ki < 0),decide_eq_false (by omega:¬ 4 < ki)];rfl
 clear HF HU;have hex:=HEX.out (w1.alloc (.cells #[.bool u0,.bool u1,.bool u2,.bool u3,.bool u4,.bool u5,.bool u6,.bool u7] 163)) hk0 hk4;clear HEX;go_wp2_with fail
 refine hex.mono ?_;rintro e w2 ⟨rfl,hb2⟩;clear hex hok hk0 hk4;have hbx:Below w1.heap.size w1 (w1.alloc (.cells #[.bool u0,.bool u1,.bool u2,.bool u3,.bool u4,.bool u5,.bool u6,.bool u7] 163)):=zb;have u0c:=kept hb2 (a:=⟨w1.heap.size,0,none⟩) (v:=.bool u0) (by simp);have u1c:=kept hb2 (a:=⟨w1.heap.size,1,none⟩) (v:=.bool u1) (by simp);have u2c:=kept hb2 (a:=⟨w1.heap.size,2,none⟩) (v:=.bool u2) (by simp);have u3c:=kept hb2 (a:=⟨w1.heap.size,3,none⟩) (v:=.bool u3) (by simp);have u4c:=kept hb2 (a:=⟨w1.heap.size,4,none⟩) (v:=.bool u4) (by simp);have u5c:=kept hb2 (a:=⟨w1.heap.size,5,none⟩) (v:=.bool u5) (by simp);have u6c:=kept hb2 (a:=⟨w1.heap.size,6,none⟩) (v:=.bool u6) (by simp);have u7c:=kept hb2 (a:=⟨w1.heap.size,7,none⟩) (v:=.bool u7) (by simp);have hby:Below w1.heap.size w1 w2:=hbx.trans (hb2.mono (by simp));have d0x:=kept hby d0;have d1x:=kept hby d1;have d2x:=kept hby d2;have d3x:=kept hby d3;have f0x:=kept hby f0;have f1x:=kept hby f1;have f2x:=kept hby f2;have f3x:=kept hby f3;have f4x:=kept hby f4;have f5x:=kept hby f5;have f6x:=kept hby f6;have f7x:=kept hby f7;have f8x:=kept hby f8;have f9x:=kept hby f9;have f10x:=kept hby f10;have f11x:=kept hby f11;clear d0 d1 d2 d3 f0 f1 f2 f3 f4 f5 f6 f7 f8 f9 f10 f11;have hs2:w1.heap.size < w2.heap.size:=cell_lt u0c;have HB2:=zh (HB1.out.trans (hby.mono HB1.out.size));have hz2:w.heap.size < w2.heap.size:=by omega
 clear hbx hby hb2 HB1;generalize w1.heap.size=g at *;cases xt;case true =>
  have HT:=HF1;simp only [if_true] at HT;clear HF1;go_wp2_with fail
  go_ret;exact ⟨by rw [HT.out];rfl,HB2.out⟩
 have HF2:Hid (factE c (.mk ki co ou re wa du ch (.mk ek en ex eks) li)=if (u0 && !(p1 == 0) || u1 && !(p2 == 0)) then 2
   else if decide (re < 0) || decide (2 < re) || decide (wa < 0) || decide (2 < wa) || decide (du < 0) || decide (3 < du) then 3 else if u4 then cx else listE c li):=HF1.out
 clear HF1;go_upto_region 4 with (fail)
 go_cut [42] (fun v42 wx=>v42=.bool (u0 && !(p1 == 0) || u1 && !(p2 == 0))∧Hid (Below w2.heap.size w2 wx))
 case first =>
  clear HF2;cases u0;case false =>
   cases u1;case false =>
    go_wp2_with fail
    go_meet
    case rel=>exact ⟨rfl,zh (Below.refl _ _)⟩
   case true =>
    go_wp2_with fail
    refine (HP2.out _ HB2.out).mono ?_;rintro e w3 ⟨rfl,hb3⟩;cases q2:(p2 == 0)
    all_goals
     have q2':(p2 != 0)=!(p2 == 0):=rfl;rw [q2] at q2';go_wp2_with fail
     go_meet
     case rel=>exact ⟨by first | rfl | (rw [q2];rfl) | (rw [q1];rfl) | (rw [q1,q2];rfl) | (rw [q1];cases u1 <;> rfl),zh hb3⟩
  case true =>
   go_wp2_with fail
   refine (HP1.out _ HB2.out).mono ?_;rintro e w3 ⟨rfl,hb3⟩;have u1y:=kept hb3 u1c;clear u1c;have HB3:=zh (HB2.out.trans (hb3.mono HB2.out.size));have f2y:=kept hb3 f2x;cases q1:(p1 == 0);case false =>
    have q1':(p1 != 0)=true:=by rw [show (p1 != 0)=!(p1 == 0) from rfl,q1];rfl
    exact zrduc1
   case true =>
    have q1':(p1 != 0)=false:=by rw [show (p1 != 0)=!(p1 == 0) from rfl,q1];rfl
    cases u1;case false =>
     exact zrduc1
    case true =>
     go_wp2_with fail
     refine (HP2.out _ HB3.out).mono ?_;rintro e w4 ⟨rfl,hb4⟩;have HB4:Hid (Below w2.heap.size w2 w4):=zh (hb3.trans (hb4.mono hb3.size));cases q2:(p2 == 0)
     all_goals
      have q2':(p2 != 0)=!(p2 == 0):=rfl;rw [q2] at q2';go_wp2_with fail
      go_meet
      case rel=>exact ⟨by first | rfl | (rw [q2];rfl) | (rw [q1];rfl) | (rw [q1,q2];rfl) | (rw [q1];cases u1 <;> rfl),HB4⟩
 case rest =>
  obtain ⟨rfl,hbc⟩:=hcut;have d0:=kept hbc.out d0x;have d1:=kept hbc.out d1x;have d2:=kept hbc.out d2x;have d3:=kept hbc.out d3x;have f0:=kept hbc.out f0x;have f1:=kept hbc.out f1x;have f2:=kept hbc.out f2x;have f3:=kept hbc.out f3x;have f4:=kept hbc.out f4x;have f5:=kept hbc.out f5x;have f6:=kept hbc.out f6x;have f7:=kept hbc.out f7x;have f8:=kept hbc.out f8x;have f9:=kept hbc.out f9x;have f10:=kept hbc.out f10x;have f11:=kept hbc.out f11x;clear d0x d1x d2x d3x f0x f1x f2x f3x f4x f5x f6x f7x f8x f9x f10x f11x;have u4k:=kept hbc.out u4c;clear u4c;have HB3:=zh (HB2.out.trans (hbc.out.mono HB2.out.size));clear hbc HB2 HP1 HP2;cases q42:(u0 && !(p1 == 0) || u1 && !(p2 == 0));case true =>
   have HT:Hid (factE c (.mk ki co ou re wa du ch (.mk ek en ex eks) li)=2):=by
    show _=_;rw [HF2.out,q42];rfl
   clear HF2 q42;go_wp2_with fail
   go_ret;exact ⟨by rw [HT.out];rfl,HB3.out⟩
  have HF3:Hid (factE c (.mk ki co ou re wa du ch (.mk ek en ex eks) li)=if decide (re < 0) || decide (2 < re) || decide (wa < 0) || decide (2 < wa) || decide (du < 0) || decide (3 < du) then 3 else if u4 then cx else listE c li):=by
   show _=_;rw [HF2.out,q42];rfl
  clear HF2 q42;by_cases r0:re < 0
  case pos =>
   have HT:Hid (factE c (.mk ki co ou re wa du ch (.mk ek en ex eks) li)=3):=by
    show _=_;rw [HF3.out,if_pos];simp [r0]
   exact zrduc0
  by_cases r1:2 < re
  case pos =>
   have HT:Hid (factE c (.mk ki co ou re wa du ch (.mk ek en ex eks) li)=3):=by
    show _=_;rw [HF3.out,if_pos];simp [r0,r1]
   exact zrduc0
  by_cases r2:wa < 0
  case pos =>
   have HT:Hid (factE c (.mk ki co ou re wa du ch (.mk ek en ex eks) li)=3):=by
    show _=_;rw [HF3.out,if_pos];simp [r0,r1,r2]
   exact zrduc0
  by_cases r3:2 < wa
  case pos =>
   have HT:Hid (factE c (.mk ki co ou re wa du ch (.mk ek en ex eks) li)=3):=by
    show _=_;rw [HF3.out,if_pos];simp [r0,r1,r2,r3]
   exact zrduc0
  by_cases r4:du < 0
  case pos =>
   have HT:Hid (factE c (.mk ki co ou re wa du ch (.mk ek en ex eks) li)=3):=by
    show _=_;rw [HF3.out,if_pos];simp [r0,r1,r2,r3,r4]
   exact zrduc0
  by_cases r5:3 < du
  case pos =>
   have HT:Hid (factE c (.mk ki co ou re wa du ch (.mk ek en ex eks) li)=3):=by
    show _=_;rw [HF3.out,if_pos];simp [r0,r1,r2,r3,r4,r5]
   exact zrduc0
  have HF4:Hid (factE c (.mk ki co ou re wa du ch (.mk ek en ex eks) li)=if u4 then cx else listE c li):=by
   show _=_;rw [HF3.out,if_neg];simp only [decide_eq_false r0,decide_eq_false r1,decide_eq_false r2,decide_eq_false r3,decide_eq_false r4,decide_eq_false r5];decide
  clear HF3;cases u4;case true =>
   have HT:Hid (factE c (.mk ki co ou re wa du ch (.mk ek en ex eks) li)=cx):=HF4.out;clear HF4;go_wp2_with fail
   refine (HCF.out _ HB3.out).mono ?_;rintro e w3 ⟨rfl,hb3⟩;go_wp2_with fail
   go_ret;exact ⟨by rw [HT.out];rfl,HB3.out.trans (hb3.mono HB3.out.size)⟩
  have HT:Hid (factE c (.mk ki co ou re wa du ch (.mk ek en ex eks) li)=listE c li):=HF4.out;clear HF4 HCF;have D0:=zh d0;have D1:=zh d1;have D2:=zh d2;have D3:=zh d3;have F11:=zh f11;have hzw:w.heap.size+1 < wc.heap.size:=cell_lt f0;go_wp2_with fail
  clear d0 d1 d2 d3 f0 f1 f2 f3 f4 f5 f6 f7 f8 f9 f10 f11 u4k r0 r1 r2 r3 r4 r5;go_loopw [80] (fun kv wr=>∃ k:Nat,k≤L∧kv=.int .i64 k∧Hid ((li.take k).any (fun s=>(findC c s).isNone)=false)∧Hid (Below wc.heap.size wc wr)) (fun kv _=>L - (intOf kv).toNat)
  case atStart=>exact ⟨0,by omega,rfl,rfl,zh (Below.refl _ _)⟩
  case round =>
   obtain ⟨k,hk,rfl,HK,hbr⟩:=hrel;have HBR:=zh (HB3.out.trans (hbr.out.mono HB3.out.size));by_cases hki:k < L
   ·have hkz:(k:Int) < (L:Int):=by omega
    have hk0:(0:Int)≤(k:Int):=by omega
    obtain ⟨x,hx⟩:=get_lt (xs:=li) (k:=k) (by rw [HL.out];exact hki);obtain ⟨bx,ox,rfl,hbx,x0',-⟩:=str_at HRL.out hx;have x0:=kept HBR.out x0';have d0:=kept hbr.out D0.out;have d1:=kept hbr.out D1.out;have d2:=kept hbr.out D2.out;have d3:=kept hbr.out D3.out;have HS:=zh (any_none_at (p:=fun s=>(findC c s).isNone) hx);have HM:=zh (any_hit_at (p:=fun s=>(findC c s).isNone) hx);have hcall:=HFI.out wr x HBR.out;have hzr:wc.heap.size≤wr.heap.size:=hbr.out.size;clear hx x0' hbx;generalize (findC c x)=o at *;have hob:o.isNone=!o.isSome:=by cases o <;> rfl
    generalize hlv:licV (o.getD noLic)=lv at *;obtain ⟨l0,l1,l2,l3,rfl⟩:∃ l0 l1 l2 l3,lv=.agg #[.string l0,.string l1,.int .i64 l2,.string l3]:=⟨_,_,_,_,hlv.symm⟩
    clear hlv;cases q:o.isSome;case false =>
     rw [q] at hcall;have HT2:Hid (listE c li=7):=by
      show _=_;unfold listE;rw [if_pos];exact HM.out (by rw [hob,q];rfl)
     clear HM HS hob q;go_wp2_with fail
     refine hcall.mono ?_;rintro e w4 ⟨rfl,hb4⟩;clear hcall;go_wp2_with fail
     go_ret;exact ⟨by rw [HT.out,HT2.out];rfl,(HBR.out.trans (hb4.mono HBR.out.size)).trans (by refine Below.mono ?_ (Nat.le_trans HBR.out.size hb4.size);exact zb)⟩
    case true =>
     rw [q] at hcall;have HK2:Hid ((li.take (k+1)).any (fun s=>(findC c s).isNone)=false):=by
      show _=_;rw [HS.out,HK.out,hob,q];rfl
     clear HM HS hob q HK;go_wp2_with fail
     refine hcall.mono ?_;rintro e w4 ⟨rfl,hb4⟩;clear hcall;have hz4:wr.heap.size≤w4.heap.size:=hb4.size;have hb5:Below wc.heap.size wc (w4.alloc (.cells #[.string l0,.string l1,.int .i64 l2,.string l3] 106)) :=
      (hbr.out.trans (hb4.mono hbr.out.size)).trans (by refine Below.mono ?_ (Nat.le_trans hbr.out.size hb4.size);exact zb)
     have HB5:=zh hb5;clear hb4 hb5;go_wp2_with fail
     go_roundw
     case rel=>exact ⟨k+1,by omega,by go_num,HK2,HB5⟩
     case measure=>exact zm
   ·have hkz:¬ (k:Int) < (L:Int):=by omega
    have HA:Hid (li.any (fun s=>(findC c s).isNone)=false):=by
     show _=_;have:=HK.out;rwa [List.take_of_length_le (by rw [HL.out];omega)] at this
    have HT2:Hid (listE c li=if !incr slt li then 5 else 0):=by
     show _=_;unfold listE;rw [HA.out];rfl
    have F11r:=zh (kept hbr.out F11.out);clear HK HA hbr;go_wp2_with fail
    have hzr:w.heap.size+1 < wr.heap.size:=cell_lt F11r.out;go_loopw [11] (fun kv ws=>∃ k:Nat,1≤k∧k≤L+1∧kv=.int .i64 k∧(∃ n,ws=wr.drewN n)∧Hid (incr slt li=incr slt (li.drop (k - 1)))) (fun kv _=>L - (intOf kv).toNat)
    case atStart=>exact ⟨1,by omega,by omega,rfl,⟨0,rfl⟩,rfl⟩
    case round =>
     obtain ⟨m1,hlo,hm1,rfl,⟨n,rfl⟩,hf⟩:=hrel;have f11:=F11r.out;by_cases hmi:m1 < L
     ·obtain ⟨m,rfl⟩:∃ m,m1=m+1:=⟨m1 - 1,by omega⟩
      obtain ⟨u,hu⟩:=get_lt (xs:=li) (k:=m) (by rw [HL.out];omega);obtain ⟨y,hy⟩:=get_lt (xs:=li) (k:=m+1) (by rw [HL.out];omega);obtain ⟨b3,off3,rfl,hb3,g0',-⟩:=str_at HRL.out hu;obtain ⟨b5,off5,he5,hb5,g1',-⟩:=str_at HRL.out hy;obtain ⟨rfl,rfl⟩:b3=b5∧off3=off5:=by simpa using he5
      have g0:=kept HBR.out g0';have g1:=kept HBR.out g1';have hd:=zh (show li.drop (m+1 - 1)=u :: li.drop (m+1) from drop_at hu);have hd2:=zh (drop_at hy);clear hu hy he5 g0' g1';cases q1:(Op.bytesLess y.toList u.toList || y.toList == u.toList);case true =>
       have HT3:Hid (listE c li=5):=by
        show _=_;rw [HT2.out,hf.out,hd.out,hd2.out,incr_cons,slt_le,q1];rfl
       clear HT2 hf hd hd2;go_wp2_with fail
       go_quiet (fail)
       go_wp2_with fail
       go_ret;exact ⟨by rw [HT.out,HT3.out];rfl,by have hq:=HBR.out;exact bw⟩
      have HF2:Hid (incr slt li=incr slt (li.drop (m+1+1 - 1))):=by
       show _=_;rw [hf.out,hd.out,hd2.out,incr_cons,slt_le,q1,Bool.not_false,Bool.true_and,← hd2.out];rfl
      clear hf hd hd2;go_wp2_with fail
      go_quiet (fail)
      go_wp2_with fail
      go_roundw
      case rel=>exact ⟨m+1+1,by omega,by omega,by go_num,⟨_,rfl⟩,HF2⟩
      case measure=>exact zm
     ·have HT3:Hid (listE c li=0):=by
       show _=_;rw [HT2.out,hf.out,incr_short _ _ (by simp [HL.out];omega)];rfl
      clear HT2 hf;go_wp2_with fail
      go_ret;exact ⟨by rw [HT.out,HT3.out];rfl,by have hq:=HBR.out;exact bw⟩

theorem factsE_step (c:Catalog) {x:List Fact} {k:Nat} {f:Fact} (hx:x[k]?=some f):factsE c k (x.drop k)=if factE c f == 0 then factsE c (k+1) (x.drop (k+1)) else ((k:Int),factE c f):=by
 rw [drop_at hx,factsE]
theorem CheckD_p (w:World) (vc vx:Value) (c:Catalog) (x:List Fact) (hg:Glob w) (hc:Is w vc c) (h:Is w vx x) (hfit:∀ f∈x,fitF f) :
  Calls Tryz.prog 13 #[vc,vx] w fun e w'=>e=.returned (.tuple #[.int .i64 (caseE c x).1,.int .i64 (caseE c x).2])∧Below w.heap.size w w':=by
 have HF:Hid (caseE c x=if !(checkC c == 0) then (-1,1) else if decide ((256:Int) < x.length) then (-1,10) else factsE c 0 x):=rfl;obtain ⟨a,n,rfl,hn,hm,hr⟩:=list_inv h;have hm':x.length≤9223372036854775807:=by simp only [maxLen] at hm;omega
 have HR:=zh hr;have HG:=zh hg;have HC:=zh hc;obtain ⟨a0,N0,c0,a1,N1,c1,a2,N2,c2,a3,N3,c3,rfl⟩:=catBox2 hc;have HFA:Hid (∀ (W:World) (v:Value) (f:Fact),Below w.heap.size w W→f∈x→Is W v f→Calls Tryz.prog 52 #[.agg #[.slice a0 N0 c0,.slice a1 N1 c1,.slice a2 N2 c2,.slice a3 N3 c3],v] W fun e w'=>e=.returned (.int .i64 (factE c f))∧Below W.heap.size W w') :=
  fun W v f hb hf hi=>checkFact_p W _ v c f (HG.out.mono hb) (HC.out.mono hb) hi (hfit f hf)
 have hcall:=Check_p (w.alloc (.cells #[.slice a0 N0 c0,.slice a1 N1 c1,.slice a2 N2 c2,.slice a3 N3 c3] 27)) _ c (hg.mono zb) (hc.mono zb);generalize checkC c=cc at *;generalize hL:x.length=L at *;have HL:=zh hL;clear h hr hg hc hfit hn hm hL;go_enter Tryz.func13,Tryz.ntmps13;go_wp2_with fail
 refine hcall.mono ?_;rintro e w1 ⟨rfl,hb1⟩;clear hcall;have d0:=kb w hb1 0 (.slice a0 N0 c0);have d1:=kb w hb1 1 (.slice a1 N1 c1);have d2:=kb w hb1 2 (.slice a2 N2 c2);have d3:=kb w hb1 3 (.slice a3 N3 c3);have hs1:w.heap.size < w1.heap.size:=cell_lt d0;have HB1:Hid (Below w.heap.size w w1):=zh (zb.trans (hb1.mono (by simp)));clear hb1;cases q:(cc == 0);case false =>
  have q':(cc != 0)=true:=by rw [show (cc != 0)=!(cc == 0) from rfl,q];rfl
  have HT:Hid (caseE c x=(-1,1)):=by show _=_;rw [HF.out,q];rfl
  clear HF;go_wp2_with fail
  go_ret2;exact ⟨by rw [HT.out];rfl,HB1.out⟩
 have q':(cc != 0)=false:=by rw [show (cc != 0)=!(cc == 0) from rfl,q];rfl
 by_cases q2:(256:Int) < (L:Int)
 case pos =>
  have HT:Hid (caseE c x=(-1,10)):=by show _=_;rw [HF.out,q,decide_eq_true q2];rfl
  clear HF;go_wp2_with fail
  go_ret2;exact ⟨by rw [HT.out];rfl,HB1.out⟩
 have HT:Hid (caseE c x=factsE c 0 x):=by show _=_;rw [HF.out,q,decide_eq_false q2];rfl
 clear HF;have D0:=zh d0;have D1:=zh d1;have D2:=zh d2;have D3:=zh d3;go_wp2_with fail
 clear d0 d1 d2 d3 q;go_loopw [17] (fun kv wr=>∃ k:Nat,k≤L∧kv=.int .i64 k∧Hid (caseE c x=factsE c k (x.drop k))∧Hid (Below w1.heap.size w1 wr)) (fun kv _=>L - (intOf kv).toNat)
 case atStart=>exact ⟨0,by omega,rfl,zh HT.out,zh (Below.refl _ _)⟩
 case round =>
  obtain ⟨k,hk,rfl,HK,hbr⟩:=hrel;have HBR:=zh (HB1.out.trans (hbr.out.mono HB1.out.size));by_cases hki:k < L
  ·have hkz:(k:Int) < (L:Int):=by omega
   have hk0:(0:Int)≤(k:Int):=by omega
   obtain ⟨f,hx⟩:=get_lt (xs:=x) (k:=k) (by rw [HL.out];exact hki);have hmem:=List.mem_of_getElem? hx;have hstep:=zh (factsE_step c hx);obtain ⟨ki,co,ou,re,wa,du,ch,⟨ek,en,ex,eks⟩,li⟩:=f;obtain ⟨bx,ox,rfl,hbx,ae,ce,al,cl,x0',x1',x2',x3',x4',x5',x6',x7',x8',x9',x10',x11',hrest⟩:=Fact.at_row HR.out hx;have hval:=zh (Fact.mk' (ch6:=ch) hrest);have hzr:w1.heap.size≤wr.heap.size:=hbr.out.size;have hzs:w.heap.size < wr.heap.size:=Nat.lt_of_lt_of_le hs1 hzr;have d0:=kept hbr.out D0.out;have d1:=kept hbr.out D1.out;have d2:=kept hbr.out D2.out;have d3:=kept hbr.out D3.out;have x0:=kept HBR.out x0';have x1:=kept HBR.out x1';have x2:=kept HBR.out x2';have x3:=kept HBR.out x3';have x4:=kept HBR.out x4';have x5:=kept HBR.out x5';have x6:=kept HBR.out x6';have x7:=kept HBR.out x7';have x8:=kept HBR.out x8';have x9:=kept HBR.out x9';have x10:=kept HBR.out x10';have x11:=kept HBR.out x11';clear x0' x1' x2' x3' x4' x5' x6' x7' x8' x9' x10' x11' hx hrest hbx;generalize eks.length=E at *;generalize li.length=M at *;have hba:Below wr.heap.size wr (wr.alloc (.cells #[.int .i64 ki,.string co,.string ou,.int .i64 re,.int .i64 wa,.int .i64 du,.bool ch,.int .i64 ek,.string en,.string ex,.slice ae E ce,.slice al M cl] 70)):=zb;have hcall:=HFA.out _ _ _ (HBR.out.trans (hba.mono HBR.out.size)) hmem (hval.out.mono (HBR.out.trans (hba.mono HBR.out.size)));have HBA:=zh hba;clear hba hmem hval;generalize factE c _=fe at *;go_wp2_with fail
   refine hcall.mono ?_;rintro e w4 ⟨rfl,hb4⟩;clear hcall;have HB4:Hid (Below w1.heap.size w1 w4):=zh ((hbr.out.trans (HBA.out.mono hzr)).trans (hb4.mono (Nat.le_trans hzr HBA.out.size)));clear hb4 HBA;cases q3:(fe == 0);case false =>
    have q3':(fe != 0)=true:=by rw [show (fe != 0)=!(fe == 0) from rfl,q3];rfl
    have HT2:Hid (caseE c x=((k:Int),fe)):=by show _=_;rw [HK.out,hstep.out,q3];rfl
    clear HK hstep HT;go_wp2_with fail
    go_ret2;exact ⟨by rw [HT2.out];rfl,HB1.out.trans (HB4.out.mono HB1.out.size)⟩
   case true =>
    have q3':(fe != 0)=false:=by rw [show (fe != 0)=!(fe == 0) from rfl,q3];rfl
    have HK2:Hid (caseE c x=factsE c (k+1) (x.drop (k+1))):=by show _=_;rw [HK.out,hstep.out,q3];rfl
    clear HK hstep HT q3;go_wp2_with fail
    go_roundw
    case rel=>exact ⟨k+1,by omega,by go_num,HK2,HB4⟩
    case measure=>exact zm
  ·have hkz:¬ (k:Int) < (L:Int):=by omega
   have HT2:Hid (caseE c x=(0,0)):=by
    show _=_;rw [HK.out,List.drop_eq_nil_of_le (by rw [HL.out];omega)];rfl
   clear HK HT;go_wp2_with fail
   go_ret2;exact ⟨by rw [HT2.out];rfl,HBR.out⟩

def Ev (t:TypeId):Prop:=t≠61∧t≠59
theorem Ev_lists:Ev 41:=by unfold Ev;decide
def OwnT (B:Nat) (w:World) (v:Value) (xs:List (List (List Term))):Prop:=OwnL 0 Ev 41 w v xs∧∃ cs,w.ownsRow B 41 1 v xs.length cs
theorem OwnT.nil (B:Nat) (w:World):OwnT B w (.slice none 0 0) []:=⟨OwnL.nil _ _ _ _,(OwnL.nil (α:=List (List Term)) B Ev 41 w).row⟩
theorem OwnT.is {B:Nat} {w:World} {v:Value} {xs:List (List (List Term))} (h:OwnT B w v xs):Is w v xs:=h.1.is
theorem OwnT.weaken {B B0:Nat} {w:World} {v:Value} {xs:List (List (List Term))} (h:OwnT B w v xs) (hB:B0≤B):OwnT B0 w v xs:=⟨h.1,h.2.imp fun _ hc=>ownsRow_weaken hc hB⟩
theorem OwnT.congr {B:Nat} {w w':World} {v:Value} {xs:List (List (List Term))} (h:OwnT B w v xs) (h1:OwnL 0 Ev 41 w' v xs) (hk:∀ g,B≤g→g < w.heap.size→(∃ cs,w.heap[g]?=some (.cells cs 41 (0,0)))→w'.heap[g]?=w.heap[g]?):OwnT B w' v xs:=by
 refine ⟨h1,?_⟩;obtain ⟨cs,k1,k2⟩:=h.2;refine ⟨cs,k1,k2.imp id ?_⟩;rintro ⟨g,cap,cur,a,b,c,d⟩;have hg:g < w.heap.size:=by
  rcases Nat.lt_or_ge g w.heap.size with h | h
  ·exact h
  ·rw [Array.getElem?_eq_none h] at c;cases c
 exact ⟨g,cap,cur,a,b,by rw [hk g b hg ⟨_,c⟩];exact c,d⟩
theorem OwnT.below {B:Nat} {w w':World} {v:Value} {xs:List (List (List Term))} (h:OwnT B w v xs) (hb:Below w.heap.size w w'):OwnT B w' v xs:=h.congr (h.1.below hb) fun g _ hg _=>hb.block g hg
theorem OwnT.other {B B':Nat} {E':TypeId→Prop} {w w':World} {v:Value} {xs:List (List (List Term))} (h:OwnT B w v xs) (hA:Agree B' E' w w') (hs:∀ x,E' x→Ev x) (hne:¬ E' 41):OwnT B w' v xs :=
 h.congr (h.1.other (hA.lower (Nat.zero_le _)) hs hne) fun g _ hg ⟨cs,hc⟩=>hA.2 g hg (.inr fun ⟨cs',e',fr',he,hh⟩=>by rw [hc] at hh;cases hh;exact hne he)
theorem altsRow2:(Tryz.prog.info? 41).map (fun i=>(i.zero,i.size,i.bytes))=some (some (.slice none 0 0),1,24):=by kernel_rfl
theorem app_lists {ops:Array Oper} {rest:List Oper} {o:Oper} {a:Act} {Q:Exit→Act→World→Prop} {w:World} (hgd:o.guard=none) (s x:Operand)
  (ho:o.op=.call { callee:=.builtin .append,args:=#[s,x],argTypes:=#[35,35] })
  (B:Nat) (v:Value) (xs:List (List (List Term))) (hs:a.eval s=v) (hown:OwnT B w v xs)
  {u:Value} (y:List (List Term)) (hx:a.eval x=.slice (some ⟨w.heap.size,0,none⟩) 1 1)
  (hy:∀ w'',Agree 0 Ev (w.alloc (.cells #[u] 41)) w''→Is w'' u y)
  (hb:xs.length≤1000000000) (hB:B≤w.heap.size)
  (h:∀ v' w',OwnT B w' v' (xs++[y])→Below B w w'→Agree B (·=41) w w'→w.heap.size < w'.heap.size→wpList Tryz.prog ops Q rest (a.put o.dst v') w') :
  wpList Tryz.prog ops Q (o :: rest) a (w.alloc (.cells #[u] 41)):=by
 obtain ⟨cs,hrow⟩:=hown.2;have hal:Below w.heap.size w (w.alloc (.cells #[u] 41)):=zb;obtain ⟨ua,uc,rfl,-⟩:=list_inv (hy _ (Agree.refl _ _ _));refine wp_app altsRow2 rfl (by decide) Tryz.underlying35 hgd s x ho B v xs.length cs hs hrow #[.slice ua y.length uc] hx rfl (by intro q hq;simp at hq;subst hq;rfl) (by omega) hB fun v' w' h2 h3 _=>?_;have hcells:∀ w'',Agree 0 Ev (w.alloc (.cells #[.slice ua y.length uc] 41)) w''→Lay.is w'' (fun j=>(#[Value.slice ua y.length uc].toList)[j]?) y:=by
  intro w'' hA;obtain ⟨a',c',he,h1,h2,h3⟩:=list_inv (hy _ hA);cases he;exact ⟨_,_,rfl,h1,h2,h3⟩
 refine h v' w' ⟨OwnL.snoc (E:=Ev) Ev_lists hown.1 hal rfl hcells h3 fun cs2 h4=>?_,⟨cs++[.slice ua y.length uc],?_⟩⟩ ?_ ?_ ?_
 ·rw [OwnL.row_unique (ownsRow_weaken hrow (Nat.zero_le _)) h4] at h2;exact ownsRow_weaken h2 (Nat.zero_le _)
 ·rw [List.length_append];exact h2
 ·exact ((Below.refl _ _).alloc (by omega) _).app h3 (by simp;omega) hrow
 ·exact (Agree.of_below hal).trans (Agree.app (E:=(·=41)) rfl (hown.below hal).2.choose_spec h3)
 ·have:=h3.size;simp at this;omega
theorem app_strA {ops:Array Oper} {rest:List Oper} {o:Oper} {a:Act} {Q:Exit→Act→World→Prop} {w:World} (hgd:o.guard=none) (s x:Operand)
  (ho:o.op=.call { callee:=.builtin .append,args:=#[s,x],argTypes:=#[36,36] })
  (B:Nat) (v:Value) (xs:List ByteArray) (hs:a.eval s=v) (hown:OwnV Value.string B 9 w v xs)
  (y:ByteArray) (hx:a.eval x=.slice (some ⟨w.heap.size,0,none⟩) 1 1)
  (hb:xs.length≤4294967296) (hB:B≤w.heap.size)
  (h:∀ v' w',OwnV Value.string B 9 w' v' (xs++[y])→Below B w w'→Agree B (·=9) w w'→w.heap.size < w'.heap.size→wpList Tryz.prog ops Q rest (a.put o.dst v') w') :
  wpList Tryz.prog ops Q (o :: rest) a (w.alloc (.cells #[.string y] 9)):=by
 have hal:Below w.heap.size w (w.alloc (.cells #[.string y] 9)):=zb;refine app_str hgd s x ho B v xs.length _ hs hown y hx hb hB fun v' w' h1 h2 _=>h v' w' ?_ ?_ ?_ ?_
 ·show World.ownsRow _ _ _ _ _ _ _;simpa using h1
 ·exact ((Below.refl _ _).alloc (by omega) _).app h2 (by simp;omega) hown
 ·exact (Agree.of_below hal).trans (Agree.app (E:=(·=9)) rfl (hown.below hal) h2)
 ·have:=h2.size;simp at this;omega
theorem valsF_lic (c:Catalog) (ts:List (List (List Term))) (os:List ByteArray) {f:Fact} {r:List Fact} (h:(f.kind == 1)=true) :
  valsF c ts os (f :: r)=if (ofP c f.expr).2 == 0 then valsF c (ts++[(ofP c f.expr).1]) os r else ([],[],(ofP c f.expr).2):=by rw [valsF,if_pos h]
theorem valsF_ship (c:Catalog) (ts:List (List (List Term))) (os:List ByteArray) {f:Fact} {r:List Fact} (h:(f.kind == 1)=false) (h2:(f.kind == 2)=true) :
  valsF c ts os (f :: r)=if os.any (seq f.output) then valsF c ts os r else valsF c ts (os++[f.output]) r:=by
 rw [valsF,if_neg (by rw [h];decide),h2];cases os.any (seq f.output) <;> rfl
theorem valsF_other (c:Catalog) (ts:List (List (List Term))) (os:List ByteArray) {f:Fact} {r:List Fact} (h:(f.kind == 1)=false) (h2:(f.kind == 2)=false):valsF c ts os (f :: r)=valsF c ts os r:=by
 rw [valsF,if_neg (by rw [h];decide),h2];rfl
theorem lists_stable {w w':World} {v:Value} {xs:List (List Term)} {B0:Nat} (h:OwnZ B0 59 w v xs) (hA:Agree 0 Ev w w'):Is w' v xs :=
 (h.1.other (E':=Ev) hA (fun _ hx=>hx.1) (fun hx=>hx.2 rfl)).is
def VO (r:List (List (List Term))×List ByteArray×Int) (w:World) (e:Ending) (w':World):Prop :=
 ∃ v1 v2,e=.returned (.tuple #[v1,v2,.int .i64 r.2.2])∧OwnT w.heap.size w' v1 r.1∧OwnV Value.string w.heap.size 9 w' v2 r.2.1∧(∀ o∈r.2.1,o.size≤maxLen)∧Below w.heap.size w w'
theorem zrduc2 {p:Prop} (h:p:=by
 go_wp2_with fail
 go_roundw
 case rel=>exact ⟨k+1,_,_,by omega,by go_num,HK2,HTS4,HOS4,HSM,HLE5,HB5⟩
 case measure=>exact zm):p:=h
theorem Values_p (w:World) (vc vx:Value) (c:Catalog) (x:List Fact) (hg:Glob w) (hc:Is w vc c) (h:Is w vx x) (hfit:∀ f∈x,fitF f) :
  Calls Tryz.prog 15 #[vc,vx] w fun e w'=>VO (valuesC c x) w e w':=by
 have HF:Hid (valuesC c x=if (caseE c x).2 == 0 then valsF c [] [] x else ([],[],(caseE c x).2)):=rfl;have HF2:Hid ((caseE c x).2=0→x.length≤256):=by
  show _→_;intro h0;unfold caseE at h0;split at h0
  ·cases h0
  ·split at h0
   ·cases h0
   ·rename_i h1;simp at h1;omega
 obtain ⟨a,n,rfl,hn,hm,hr⟩:=list_inv h;have hm':x.length≤9223372036854775807:=by simp only [maxLen] at hm;omega
 have HR:=zh hr;have HG:=zh hg;have HC:=zh hc;have HFIT:=zh hfit;obtain ⟨a0,N0,c0,a1,N1,c1,a2,N2,c2,a3,N3,c3,rfl⟩:=catBox2 hc;have HOF:Hid (∀ (W:World) (v:Value) (f:Fact),Below w.heap.size w W→f∈x→Is W v f.expr→Calls Tryz.prog 55 #[.agg #[.slice a0 N0 c0,.slice a1 N1 c1,.slice a2 N2 c2,.slice a3 N3 c3],v] W fun e w'=>MeO (ofP c f.expr) W e w') :=
  fun W v f hb hf hi=>Of_p c f.expr (.inl pairsC) (hfit f hf).2.2 W _ v (HG.out.mono hb) (HC.out.mono hb) hi
 have hcall:=CheckD_p (w.alloc (.cells #[.slice a0 N0 c0,.slice a1 N1 c1,.slice a2 N2 c2,.slice a3 N3 c3] 27)) _ _ c x (hg.mono zb) (hc.mono zb) (h.mono zb) hfit;generalize caseE c x=ce at *;obtain ⟨ce1,ce2⟩:=ce;simp only at hcall HF HF2;generalize hL:x.length=L at *;have HL:=zh hL;clear h hr hg hc hfit hn hm hL;go_enter Tryz.func15,Tryz.ntmps15;go_wp2_with fail
 refine hcall.mono ?_;rintro e w1 ⟨rfl,hb1⟩;clear hcall;have d0:=kb w hb1 0 (.slice a0 N0 c0);have d1:=kb w hb1 1 (.slice a1 N1 c1);have d2:=kb w hb1 2 (.slice a2 N2 c2);have d3:=kb w hb1 3 (.slice a3 N3 c3);have hs1:w.heap.size < w1.heap.size:=cell_lt d0;have HB1:Hid (Below w.heap.size w w1):=zh (zb.trans (hb1.mono (by simp)));clear hb1;cases q:(ce2 == 0);case false =>
  have q':(ce2 != 0)=true:=by rw [show (ce2 != 0)=!(ce2 == 0) from rfl,q];rfl
  have HT:Hid (valuesC c x=([],[],ce2)):=by show _=_;rw [HF.out,q];rfl
  clear HF;go_wp2_with fail
  go_ret3;exact ⟨_,_,by rw [HT.out];rfl,by rw [HT.out];exact OwnT.nil _ _,by rw [HT.out];exact OwnV.nil _ _ _ _,by rw [HT.out];simp,HB1.out⟩
 have q':(ce2 != 0)=false:=by rw [show (ce2 != 0)=!(ce2 == 0) from rfl,q];rfl
 have HT:Hid (valuesC c x=valsF c [] [] x):=by show _=_;rw [HF.out,q];rfl
 have hL256:L≤256:=HF2.out (by simpa using q);clear HF HF2;have D0:=zh d0;have D1:=zh d1;have D2:=zh d2;have D3:=zh d3;go_wp2_with fail
 clear d0 d1 d2 d3 q;go_loopw [9,10,26] (fun v1 v2 kv wr=>∃ (k:Nat) (ts:List (List (List Term))) (os:List ByteArray),k≤L∧kv=.int .i64 k∧Hid (valuesC c x=valsF c ts os (x.drop k))∧Hid (OwnT w1.heap.size wr v1 ts)∧Hid (OwnV Value.string w1.heap.size 9 wr v2 os)∧Hid (∀ o∈os,o.size≤maxLen)∧Hid (ts.length≤k∧os.length≤k)∧Hid (Below w1.heap.size w1 wr)) (fun _ _ kv _=>L - (intOf kv).toNat)
 case atStart=>exact ⟨0,[],[],by omega,rfl,zh HT.out,zh (OwnT.nil _ _),zh (OwnV.nil _ _ _ _),zh (by simp),zh ⟨Nat.le_refl _,Nat.le_refl _⟩,zh (Below.refl _ _)⟩
 case round =>
  obtain ⟨k,ts,os,hk,rfl,HK,HTS,HOS,HSM,HLE,hbr⟩:=hrel;have HBR:=zh (HB1.out.trans (hbr.out.mono HB1.out.size));have hzr:w1.heap.size≤wr.heap.size:=hbr.out.size;have hzs:w.heap.size < wr.heap.size:=Nat.lt_of_lt_of_le hs1 hzr;obtain ⟨at',ct,hvt,-⟩:=list_inv HTS.out.is;obtain ⟨ao,co',hvo,-⟩:=list_inv (HOS.out.strs HSM.out);subst hvt;subst hvo;by_cases hki:k < L
  ·have hkz:(k:Int) < (L:Int):=by omega
   have hk0:(0:Int)≤(k:Int):=by omega
   obtain ⟨f,hx⟩:=get_lt (xs:=x) (k:=k) (by rw [HL.out];exact hki);have hmem:=List.mem_of_getElem? hx;have HD:=zh (drop_at hx);have HTK:=zh (take_at hx);obtain ⟨ki,co,ou,re,wa,du,ch,⟨ek,en,ex,eks⟩,li⟩:=f;obtain ⟨bx,ox,rfl,hbx,ae,ce,al,cl,x0',x1',x2',x3',x4',x5',x6',x7',x8',x9',x10',x11',hrest⟩:=Fact.at_row HR.out hx;have hval:=zh (Fact.mk' (ch6:=ch) hrest);have HXV:=zh (LExpr.mk' hrest.2.2.2.2.2.2.1 hrest.2.2.2.2.2.2.2.1 hrest.2.2.2.2.2.2.2.2.1 hrest.2.2.2.2.2.2.2.2.2.1 hrest.2.2.2.2.2.2.2.2.2.2.1 hrest.2.2.2.2.2.2.2.2.2.2.2.1);have HSZ:=zh (And.intro hrest.2.1 hrest.2.2.1);have x0:=kept HBR.out x0';have x1:=kept HBR.out x1';have x2:=kept HBR.out x2';have x3:=kept HBR.out x3';have x4:=kept HBR.out x4';have x5:=kept HBR.out x5';have x6:=kept HBR.out x6';have x7:=kept HBR.out x7';have x8:=kept HBR.out x8';have x9:=kept HBR.out x9';have x10:=kept HBR.out x10';have x11:=kept HBR.out x11';clear x0' x1' x2' x3' x4' x5' x6' x7' x8' x9' x10' x11' hx hrest hbx;generalize eks.length=E at *;generalize li.length=M at *;have d0:=kept hbr.out D0.out;have d1:=kept hbr.out D1.out;have d2:=kept hbr.out D2.out;have d3:=kept hbr.out D3.out;have hba:Below wr.heap.size wr (wr.alloc (.cells #[.int .i64 ki,.string co,.string ou,.int .i64 re,.int .i64 wa,.int .i64 du,.bool ch,.int .i64 ek,.string en,.string ex,.slice ae E ce,.slice al M cl] 70)):=zb;have HBA:=zh hba;have HZA:Hid (wr.heap.size≤(wr.alloc (.cells #[.int .i64 ki,.string co,.string ou,.int .i64 re,.int .i64 wa,.int .i64 du,.bool ch,.int .i64 ek,.string en,.string ex,.slice ae E ce,.slice al M cl] 70)).heap.size):=hba.size;cases k1:(ki == 1);case true =>
    have hcall:=HOF.out (wr.alloc (.cells #[.int .i64 ki,.string co,.string ou,.int .i64 re,.int .i64 wa,.int .i64 du,.bool ch,.int .i64 ek,.string en,.string ex,.slice ae E ce,.slice al M cl] 70)) _ _ (HBR.out.trans (hba.mono HBR.out.size)) hmem (HXV.out.mono (HBR.out.trans (hba.mono HBR.out.size)));have HV:=zh (valsF_lic c ts os (f:=⟨ki,co,ou,re,wa,du,ch,.mk ek en ex eks,li⟩) (r:=x.drop (k+1)) k1);simp only at hcall;have HV2:Hid (valuesC c x=if (ofP c (.mk ek en ex eks)).2 == 0 then valsF c (ts++[(ofP c (.mk ek en ex eks)).1]) os (x.drop (k+1)) else ([],[],(ofP c (.mk ek en ex eks)).2)):=by
     show _=_;rw [HK.out,HD.out];exact HV.out
    clear HV HK hba hmem hval HXV;generalize ofP c (.mk ek en ex eks)=op at *;obtain ⟨ol,oe⟩:=op;simp only at HV2;unfold MeO at hcall;go_wp2_with fail
    refine hcall.mono ?_;rintro e w4 ⟨v4,rfl,ho4,hb4⟩;have HB4:=zh (HBA.out.trans (hb4.mono HBA.out.size));have HO4:=zh ho4;obtain ⟨a4,c4,hv4,-⟩:=list_inv ho4.is;subst hv4;have hz4:wr.heap.size≤w4.heap.size:=HB4.out.size;clear hcall ho4 hb4 HBA HZA x0 x1 x2 x3 x4 x5 x6 x7 x8 x9 x10 x11 d0 d1 d2 d3;cases q3:(oe == 0);case false =>
     have q3':(oe != 0)=true:=by rw [show (oe != 0)=!(oe == 0) from rfl,q3];rfl
     have HT2:Hid (valuesC c x=([],[],oe)):=by show _=_;rw [HV2.out,q3];rfl
     clear HV2 HT;go_wp2_with fail
     go_ret3;exact ⟨_,_,by rw [HT2.out];rfl,by rw [HT2.out];exact OwnT.nil _ _,by rw [HT2.out];exact OwnV.nil _ _ _ _,by rw [HT2.out];simp,HBR.out.trans (HB4.out.mono HBR.out.size)⟩
    case true =>
     have q3':(oe != 0)=false:=by rw [show (oe != 0)=!(oe == 0) from rfl,q3];rfl
     have HK2:Hid (valuesC c x=valsF c (ts++[ol]) os (x.drop (k+1))):=by show _=_;rw [HV2.out,q3];rfl
     have HTS4:=zh (HTS.out.below HB4.out);clear HV2 HT q3 HTS;go_wp2_with (at_builtin;go_loud (refine app_lists rfl _ _ rfl w1.heap.size _ _ rfl HTS4.out ol ?cx ?c1 ?c2 ?c3 ?_))
     case cx=>show Value.slice (some ⟨w4.heap.size,0,none⟩) 1 1=_;simp
     case c1=>intro w'' hA;exact lists_stable (HO4.out.below bw) hA
     case c2=>have:=HLE.out.1;omega
     case c3=>omega
     intro v5 w5 ho5 hb5 hA5 hs5;have HB5:Hid (Below w1.heap.size w1 w5):=zh ((hbr.out.trans (HB4.out.mono hzr)).trans hb5);have HOS5:=zh ((HOS.out.below HB4.out).agree hA5 (by decide));have HO5:=zh ho5;have HLE5:Hid ((ts++[ol]).length≤k+1∧os.length≤k+1):=by have:=HLE.out;show _∧_;simp;omega
     clear ho5 hb5 hA5 HTS4;go_wp2;go_roundw
     case rel=>exact ⟨k+1,_,_,by omega,by go_num,HK2,HO5,HOS5,HSM,HLE5,HB5⟩
     case measure=>exact zm
   case false =>
    cases k2:(ki == 2);case false =>
     have HK2:Hid (valuesC c x=valsF c ts os (x.drop (k+1))):=by
      show _=_;rw [HK.out,HD.out];exact valsF_other c ts os k1 k2
     have HB5:Hid (Below w1.heap.size w1 (wr.alloc (.cells #[.int .i64 ki,.string co,.string ou,.int .i64 re,.int .i64 wa,.int .i64 du,.bool ch,.int .i64 ek,.string en,.string ex,.slice ae E ce,.slice al M cl] 70))):=zh (hbr.out.trans (hba.mono hzr));have HTS4:=zh (HTS.out.below HBA.out);have HOS4:=zh (HOS.out.below HBA.out);have HLE5:Hid (ts.length≤k+1∧os.length≤k+1):=by have:=HLE.out;show _∧_;omega
     clear HK HT hba hmem hval HXV HOF HTS HOS;exact zrduc2
    case true =>
     have hcall:=ContainsS_p (wr.alloc (.cells #[.int .i64 ki,.string co,.string ou,.int .i64 re,.int .i64 wa,.int .i64 du,.bool ch,.int .i64 ek,.string en,.string ex,.slice ae E ce,.slice al M cl] 70)) _ os ou ((HOS.out.strs HSM.out).mono hba);have HV2:Hid (valuesC c x=if os.any (seq ou) then valsF c ts os (x.drop (k+1)) else valsF c ts (os++[ou]) (x.drop (k+1))):=by
      show _=_;rw [HK.out,HD.out];exact valsF_ship c ts os k1 k2
     have HTS4:=zh (HTS.out.below HBA.out);have HOS4:=zh (HOS.out.below HBA.out);clear HK HT hmem hval HXV HOF HTS HOS;generalize os.any (seq ou)=bb at *;cases bb;case true =>
      have HK2:Hid (valuesC c x=valsF c ts os (x.drop (k+1))):=HV2.out;have HB5:Hid (Below w1.heap.size w1 (wr.alloc (.cells #[.int .i64 ki,.string co,.string ou,.int .i64 re,.int .i64 wa,.int .i64 du,.bool ch,.int .i64 ek,.string en,.string ex,.slice ae E ce,.slice al M cl] 70))):=zh (hbr.out.trans (hba.mono hzr));have HLE5:Hid (ts.length≤k+1∧os.length≤k+1):=by have:=HLE.out;show _∧_;omega
      clear HV2 hba;go_wp2_with fail
      refine hcall.mono ?_;rintro e w4 ⟨rfl,rfl⟩;clear hcall;exact zrduc2
     case false =>
      have HK2:Hid (valuesC c x=valsF c ts (os++[ou]) (x.drop (k+1))):=HV2.out;have HLE5:Hid (ts.length≤k+1∧(os++[ou]).length≤k+1):=by have:=HLE.out;show _∧_;simp;omega
      have HSM5:Hid (∀ o∈os++[ou],o.size≤maxLen):=by
       show ∀ o∈os++[ou],_;intro o ho;rcases List.mem_append.1 ho with ho | ho
       ·exact HSM.out o ho
       ·simp at ho;subst ho;exact HSZ.out.2
      clear HV2;go_wp2_with fail
      refine hcall.mono ?_;rintro e w4 ⟨rfl,rfl⟩;clear hcall;have HZ9:Hid ((wr.alloc (.cells #[.int .i64 ki,.string co,.string ou,.int .i64 re,.int .i64 wa,.int .i64 du,.bool ch,.int .i64 ek,.string en,.string ex,.slice ae E ce,.slice al M cl] 70)).heap.size=wr.heap.size+1):=by show _=_;simp
      generalize hwa:(wr.alloc (.cells #[.int .i64 ki,.string co,.string ou,.int .i64 re,.int .i64 wa,.int .i64 du,.bool ch,.int .i64 ek,.string en,.string ex,.slice ae E ce,.slice al M cl] 70))=W9 at *;have y2:W9.cell? ⟨wr.heap.size,2,none⟩=some (.string ou):=by rw [← hwa];simp
      clear hwa;go_wp2_with (at_builtin;go_loud (refine app_strA rfl _ _ rfl w1.heap.size _ _ rfl HOS4.out ou ?cx ?c2 ?c3 ?_))
      case cx=>show Value.slice (some ⟨W9.heap.size,0,none⟩) 1 1=_;simp
      case c2=>have:=HLE.out.2;omega
      case c3=>have:=HZ9.out;omega
      intro v5 w5 ho5 hb5 hA5 hs5;have HB5:Hid (Below w1.heap.size w1 w5):=zh ((hbr.out.trans (hba.mono hzr)).trans hb5);have HTS5:=zh (HTS4.out.other (E':=(·=9)) hA5 (fun x hx=>by subst hx;unfold Ev;decide) (by decide));have HO5:=zh ho5;clear ho5 hb5 hA5 hba HTS4 HOS4;go_wp2;go_roundw
      case rel=>exact ⟨k+1,_,_,by omega,by go_num,HK2,HTS5,HO5,HSM5,HLE5,HB5⟩
      case measure=>exact zm
  ·have hkz:¬ (k:Int) < (L:Int):=by omega
   have HT2:Hid (valuesC c x=(ts,os,0)):=by
    show _=_;rw [HK.out,List.drop_eq_nil_of_le (by rw [HL.out];omega)];rfl
   clear HK HT;go_wp2_with fail
   go_ret3;exact ⟨_,_,by rw [HT2.out];rfl,by rw [HT2.out];exact HTS.out.weaken (by omega),by rw [HT2.out];exact HOS.out.weaken (by omega),by rw [HT2.out];exact HSM.out,HBR.out⟩
end Go.Proofs.YtcbopdbbcgdkcaaGreatDoor
