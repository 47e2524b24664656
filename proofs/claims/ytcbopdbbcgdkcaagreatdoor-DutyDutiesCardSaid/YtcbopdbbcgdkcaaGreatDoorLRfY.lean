/- Lemmas. -/
import Derived.Test.YtcbopdbbcgdkcaaGreatDoorLDuE
import Derived.Test.YtcbopdbbcgdkcaaGreatDoorLFewU
import Derived.Test.YtcbopdbbcgdkcaaGreatDoorLRfD
set_option linter.all false
set_option maxRecDepth 100000
set_option maxHeartbeats 16000000
namespace Go.Proofs.YtcbopdbbcgdkcaaGreatDoor
open Go Go.RowKit Go.ChangeShapes Go.Lib

theorem lookL_any (nm:ByteArray):∀ ls:List License,(lookL nm ls).isSome=ls.any fun l=>seq l.name nm
 | []=>rfl
 | l :: r=>by
  rw [lookL,List.any_cons];by_cases h:l.name=nm
  ·rw [if_pos h,seq_eq,decide_eq_true h];rfl
  ·rw [if_neg h,seq_eq,decide_eq_false h,lookL_any nm r];rfl
theorem find_any (c:Catalog) (s:ByteArray) (h:checkC c=0):(findC c s).isSome=c.licenses.any fun l=>seq l.name s:=by
 unfold findC;rw [h,if_neg (by decide),lookL_any]
theorem values_ok0 {c:Catalog} {x:List Fact} (h:(valuesC c x).2.2=0):checkC c=0:=by
 unfold valuesC at h;split at h
 ·rename_i h1
  unfold caseE at h1;split at h1
  ·cases h1
  ·rename_i h2;simpa using h2
 ·rename_i h1
  exact absurd h (by simpa using h1)
theorem has_ref (w:World) (v va:Value) (l:List (List Term)) (b:List Term) (h:Is w v l) (hb:Is w va b) :
  Calls Tryz.prog 69 #[v,va] w fun e w'=>e=.returned (.bool (l.contains b))∧Below w.heap.size w w':=by
 obtain ⟨a,n,rfl,hn,hm,hr⟩:=list_inv h;simp only [maxLen] at hm;obtain ⟨ab,nb,rfl,-⟩:=list_inv hb;have HR:=zh hr;have HB:=zh hb;have HCA:=zh (contains_any l b);clear h hr hb;generalize l.contains b=cb at *;generalize hL:l.length=L at *;have HL:=zh hL;generalize hM:b.length=M at *;clear hL hM;go_enter Tryz.func69,Tryz.ntmps69;go_wp2_with fail
 go_loopw [5] (fun kv wr=>∃ k:Nat,k≤L∧kv=.int .i64 k∧Hid ((l.take k).any (fun x=>decide (b=x))=false)∧Hid (Below w.heap.size w wr)) (fun kv _=>L - (intOf kv).toNat)
 case atStart=>exact ⟨0,by omega,rfl,rfl,zh (Below.refl _ _)⟩
 case round =>
  obtain ⟨k,hk,rfl,HK,hbr⟩:=hrel;by_cases hki:k < L
  ·have hkz:(k:Int) < (L:Int):=by omega
   have hk0:(0:Int)≤(k:Int):=by omega
   obtain ⟨x,hx⟩:=get_lt (xs:=l) (k:=k) (by rw [HL.out];exact hki);obtain ⟨bx,ox,rfl,hbx,ax,cx,x0',hx1,hx2,hx3⟩:=list_at HR.out hx;have x0:=kept hbr.out x0';have hcall:=SameTerms_ref wr _ _ x b ((list_mk hx1 hx2 hx3).mono hbr.out) (HB.out.mono hbr.out);have HN:=zh (any_none_at (p:=fun x=>decide (b=x)) hx);have HM:=zh (any_hit_at (p:=fun x=>decide (b=x)) hx);have hsym:decide (b=x)=decide (x=b):=by
    by_cases q:x=b
    ·subst q;rfl
    ·rw [decide_eq_false q,decide_eq_false (fun h=>q h.symm)]
   rw [hsym] at HN HM;clear hx x0' hbx hx1 hx2 hx3 hsym;generalize x.length=K at *;generalize decide (x=b)=d at *;go_wp2_with fail
   refine hcall.mono ?_;rintro e w4 ⟨rfl,hb4⟩;clear hcall;have HB4:=zh (hbr.out.trans (hb4.mono hbr.out.size));clear hb4;cases d;case true =>
    have HT:Hid (cb=true):=by show _=_;rw [HCA.out];exact HM.out rfl
    clear HK HN HM HCA;go_wp2_with fail
    go_ret;exact ⟨by rw [HT.out];rfl,HB4.out⟩
   case false =>
    have HK2:Hid ((l.take (k+1)).any (fun x=>decide (b=x))=false):=by show _=_;rw [HN.out,HK.out];rfl
    clear HK HN HM;go_wp2_with fail
    go_roundw
    case rel=>exact ⟨k+1,by omega,by go_num,HK2,HB4⟩
    case measure=>exact zm
  ·have hkz:¬ (k:Int) < (L:Int):=by omega
   have HT:Hid (cb=false):=by
    show _=_;have h9:=HK.out;rw [List.take_of_length_le (by rw [HL.out];omega)] at h9;rw [HCA.out];exact h9
   clear HK HCA;go_wp2_with fail
   go_ret;exact ⟨by rw [HT.out];rfl,hbr.out⟩
theorem zrrfy0 {p:Prop} (h:p:=by
 refine tkB 12 hH3 rfl ?_;try simp only [tkS,Act.put]
 refine wpAnyH_done (by kernel_rfl) ?_ _;go_wp2_with fail
 go_meet
 case rel=>exact ⟨rfl,zh hb6⟩):p:=h
theorem zrrfy1 {p:Prop} (h:p:=by
 go_wp2_with fail
 go_ret;exact ⟨by rw [HT.out];rfl,HB1.out⟩):p:=h
theorem CheckChoice_ref (w:World) (vc vx vy:Value) (c:Catalog) (x:List Fact) (y:Choice) (partly:Bool) (hc:Is w vc c) (h:Is w vx x) (hy:Is w vy y) (hfit:∀ f∈x,fitF f) (hsz:∀ f∈x,sizeE f.expr≤5000) :
  Calls Tryz.prog 25 #[vc,vx,vy,.bool partly] w fun e w'=>e=.returned (.int .i64 (choiceE c x y partly))∧Below w.heap.size w w':=by
 have HF:Hid (choiceE c x y partly=if (valuesC c x).2.2 == 0 then
  (if decide (y.terms.length≠(valuesC c x).1.length) || decide (y.own.length≠(valuesC c x).2.1.length) then 9
   else if !termsOk partly (valuesC c x).1 y.terms then 1
   else if y.own.any fun s=>!(partly && emp s || c.licenses.any fun l=>seq l.name s) then 7 else 0)
 else (valuesC c x).2.2):=rfl
 have HFA:Hid ((valuesC c x).2.2=0→∀ s,(findC c s).isSome=c.licenses.any fun l=>seq l.name s):=fun h s=>find_any c s (values_ok0 h);have HC:=zh hc;obtain ⟨a0,c0,a1,c1,a2,c2,a3,c3,rfl,-⟩:=Catalog.inv hc;obtain ⟨ax,nx,rfl,-⟩:=list_inv h;obtain ⟨yt,yo⟩:=y;obtain ⟨at',ct,ao,co,rfl,lt,mt,rt,lo,mo,ro⟩:=Choice.inv hy;have hmt:yt.length≤9223372036854775807:=by simp only [maxLen] at mt;omega
 have hmo:yo.length≤9223372036854775807:=by simp only [maxLen] at mo;omega
 have HRT:=zh rt;have HRO:=zh ro;simp only at HF;have hba:Below w.heap.size w ((w.alloc (.cells #[.slice a0 c.licenses.length c0,.slice a1 c.exceptions.length c1,.slice a2 c.clauses.length c2,.slice a3 c.apart.length c3] 27)).alloc (.cells #[.slice at' yt.length ct,.slice ao yo.length co] 43)):=bw;have hcall:=Values_ref _ _ _ c x (hc.mono hba) (h.mono hba) hfit hsz;have HBA:=zh hba;clear h hc hfit hsz hba hy lt mt rt lo mo ro;generalize c.exceptions.length=N1 at *;generalize c.clauses.length=N2 at *;generalize c.apart.length=N3 at *;generalize c.licenses.length=N0 at *;have HFI:Hid (∀ W s,Below w.heap.size w W→Calls Tryz.prog 70 #[.agg #[.slice a0 N0 c0,.slice a1 N1 c1,.slice a2 N2 c2,.slice a3 N3 c3],.string s] W fun e w'=>e=.returned (.tuple #[licV ((findC c s).getD noLic),.bool (findC c s).isSome])∧Below W.heap.size W w') :=
  fun W s hb=>Find_ref W _ c s (HC.out.mono hb)
 unfold VO at hcall;generalize valuesC c x=V at *;obtain ⟨ts,os,ve⟩:=V;simp only at hcall HF HFA;generalize hLT:yt.length=LT at *;generalize hLO:yo.length=LO at *;have HLT:=zh hLT;have HLO:=zh hLO;clear hLT hLO HC;generalize choiceE c x ⟨yt,yo⟩ partly=R at *;go_enter Tryz.func25,Tryz.ntmps25;go_wp2_with fail
 refine hcall.mono ?_;rintro e w1 ⟨v1,v2,rfl,hi1,hi2,hi3,hb1⟩;clear hcall;have d0:=kb w hb1 0 (.slice a0 N0 c0);have d1:=kb w hb1 1 (.slice a1 N1 c1);have d2:=kb w hb1 2 (.slice a2 N2 c2);have d3:=kb w hb1 3 (.slice a3 N3 c3);have e0:=kb1 w hb1 0 (.slice at' LT ct);have e1:=kb1 w hb1 1 (.slice ao LO co);have HB1:=zh (HBA.out.trans (hb1.mono (by simp;omega)));obtain ⟨bt,kt,hv1,hkt,hmkt,hrt⟩:=list_inv hi1.is;obtain ⟨bo,ko,hv2,-⟩:=hi2.shape;subst hv1;subst hv2;have HTR:=zh hrt;have hs1:w.heap.size+1 < w1.heap.size:=cell_lt e0;clear hb1 hi1 hi2 hi3 HBA hkt hmkt hrt;cases q:(ve == 0);case false =>
  have q':(ve != 0)=true:=by rw [show (ve != 0)=!(ve == 0) from rfl,q];rfl
  have HT:Hid (R=ve):=by show _=_;rw [HF.out,q];rfl
  clear q HF;exact zrrfy1
 have q':(ve != 0)=false:=by rw [show (ve != 0)=!(ve == 0) from rfl,q];rfl
 have HF2:Hid (R=(if decide (LT≠ts.length) || decide (LO≠os.length) then 9
    else if !termsOk partly ts yt then 1
    else if yo.any fun s=>!(partly && emp s || c.licenses.any fun l=>seq l.name s) then 7 else 0)):=by show _=_;rw [HF.out,q];rfl
 have HFB:=zh (HFA.out (by simpa using q));clear q HF HFA;by_cases q1:LT=ts.length
 case neg =>
  have HT:Hid (R=9):=by show _=_;rw [HF2.out,decide_eq_true q1];rfl
  have q2:((LT:Int) != (ts.length:Int))=true:=by simp;omega
  clear HF2;exact zrrfy1
 by_cases q2:LO=os.length
 case neg =>
  have HT:Hid (R=9):=by show _=_;rw [HF2.out,decide_eq_true q2];simp
  have q3:((LO:Int) != (os.length:Int))=true:=by simp;omega
  have q4:((LT:Int) != (ts.length:Int))=false:=by simp;omega
  clear HF2;exact zrrfy1
 have HF3:Hid (R=if !termsOk partly ts yt then 1 else if yo.any fun s=>!(partly && emp s || c.licenses.any fun l=>seq l.name s) then 7 else 0):=by
  show _=_;rw [HF2.out,if_neg];simp [q1,q2]
 have HTL:=zh q1;rw [← q1,← q2];clear HF2 q1 q2;have q3:((LT:Int) != (LT:Int))=false:=by simp
 have q4:((LO:Int) != (LO:Int))=false:=by simp
 have E0:=zh e0;have E1:=zh e1;have D0:=zh d0;have D1:=zh d1;have D2:=zh d2;have D3:=zh d3;go_wp2_with fail
 clear e0 e1 d0 d1 d2 d3 q3 q4;go_loopw [12] (fun kv wr=>∃ k:Nat,k≤LT∧kv=.int .i64 k∧Hid (termsOk partly ts yt=termsOk partly (ts.drop k) (yt.drop k))∧Hid (Below w1.heap.size w1 wr)) (fun kv _=>LT - (intOf kv).toNat)
 case atStart=>exact ⟨0,by omega,rfl,rfl,zh (Below.refl _ _)⟩
 case round =>
  obtain ⟨k,hk,rfl,HK,hbr⟩:=hrel;have HBR:=zh (HB1.out.trans (hbr.out.mono HB1.out.size));by_cases hki:k < LT
  ·have hkz:(k:Int) < (LT:Int):=by omega
   have hk0:(0:Int)≤(k:Int):=by omega
   obtain ⟨a,hx⟩:=get_lt (xs:=yt) (k:=k) (by rw [HLT.out];exact hki);obtain ⟨l,hl⟩:=get_lt (xs:=ts) (k:=k) (by rw [← HTL.out];exact hki);obtain ⟨bx,ox,rfl,hbx,aa,ca,x0',hx1,hx2,hx3⟩:=list_at HRT.out hx;obtain ⟨by',oy,rfl,hby,ay,cy,y0',hy1,hy2,hy3⟩:=list_at HTR.out hl;have x0:=kept HBR.out x0';have y0:=kept hbr.out y0';have HST:=zh (termsOk_at (partly:=partly) hl hx);have hia:Is wr (.slice aa a.length ca) a:=(list_mk hx1 hx2 hx3).mono HBR.out;have hil:Is wr (.slice ay l.length cy) l:=(list_mk hy1 hy2 hy3).mono hbr.out;have hla:a.length≤9223372036854775807:=by simp only [maxLen] at hx2;omega
   have e0:=kept hbr.out E0.out;have HCALL:Hid (∀ W,Below wr.heap.size wr W→Calls Tryz.prog 69 #[.slice ay l.length cy,.slice aa a.length ca] W fun e w'=>e=.returned (.bool (l.contains a))∧Below W.heap.size W w'):=fun W hb=>has_ref W _ _ l a (hil.mono hb) (hia.mono hb);clear hx hl x0' y0' hx1 hx2 hx3 hy1 hy2 hy3 hbx hby hia hil;generalize l.contains a=cb at *;have HEM:Hid (a.isEmpty=((a.length:Int) == 0)):=by show _=_;cases a <;> simp;omega
   generalize a.length=LA at *;generalize l.length=NL at *;have hzr:w.heap.size+1 < wr.heap.size:=cell_lt e0;have hzx:=cell_lt x0;have hzy:=cell_lt y0;have HX0:=zh x0;have HY0:=zh y0;have HE0:=zh e0;clear e0 x0 y0;go_wp2_with fail
   go_upto_region 9 with (fail)
   go_cut [69] (fun vv wx=>vv=.bool (!(partly && ((LA:Int) == 0)) && !cb)∧Hid (Below wr.heap.size wr wx))
   case first =>
    clear HST HK HF3;cases partly;case false =>
     refine wp_region_held_drew (S:=(fun w':World=>Below wr.heap.size wr w')) (by kernel_rfl) (by exact (Below.refl _ _).drew) (fun hH0=>?_);refine tkB 0 hH0 rfl ?_;try simp only [tkS,Act.put]
     refine tkB 1 hH0 rfl ?_;try simp only [tkS,Act.put]
     refine wpAnyH_take (i:=2) (oi:=_) (v:=undef) rfl (by kernel_rfl) (by kernel_rfl) (by kernel_rfl) (fun _ _ _ h=>h) (Or.inr ⟨by kernel_rfl,rfl⟩) hH0 ?_;try simp only [tkS,Act.put]
     refine wpAnyH_take (i:=3) (oi:=_) (v:=undef) rfl (by kernel_rfl) (by kernel_rfl) (by kernel_rfl) (fun _ _ _ h=>h) (Or.inr ⟨by kernel_rfl,rfl⟩) hH0 ?_;try simp only [tkS,Act.put]
     refine wpAnyH_take (i:=4) (oi:=_) (v:=undef) rfl (by kernel_rfl) (by kernel_rfl) (by kernel_rfl) (fun _ _ _ h=>h) (Or.inr ⟨by kernel_rfl,rfl⟩) hH0 ?_;try simp only [tkS,Act.put]
     refine wpAnyH_take (i:=5) (oi:=_) (v:=undef) rfl (by kernel_rfl) (by kernel_rfl) (by kernel_rfl) (fun _ _ _ h=>h) (Or.inr ⟨by kernel_rfl,rfl⟩) hH0 ?_;try simp only [tkS,Act.put]
     refine wpAnyH_take (i:=6) (oi:=_) (v:=undef) rfl (by kernel_rfl) (by kernel_rfl) (by kernel_rfl) (fun _ _ _ h=>h) (Or.inr ⟨by kernel_rfl,rfl⟩) hH0 ?_;try simp only [tkS,Act.put]
     refine wpAnyH_take (i:=7) (oi:=_) (v:=undef) rfl (by kernel_rfl) (by kernel_rfl) (by kernel_rfl) (fun _ _ _ h=>h) (Or.inr ⟨by kernel_rfl,rfl⟩) hH0 ?_;try simp only [tkS,Act.put]
     refine wpAnyH_take (i:=8) (oi:=_) (v:=undef) rfl (by kernel_rfl) (by kernel_rfl) (by kernel_rfl) (fun _ _ _ h=>h) (Or.inr ⟨by kernel_rfl,rfl⟩) hH0 ?_;try simp only [tkS,Act.put]
     refine tkB 9 hH0 rfl ?_;try simp only [tkS,Act.put]
     refine tkB 10 hH0 rfl ?_;try simp only [tkS,Act.put]
     refine tkB 11 hH0 rfl ?_;try simp only [tkS,Act.put]
     refine tkB 12 hH0 rfl ?_;try simp only [tkS,Act.put]
     refine tkB 13 hH0 rfl ?_;try simp only [tkS,Act.put]
     refine tkB 14 hH0 rfl ?_;try simp only [tkS,Act.put]
     refine tkB 15 hH0 rfl ?_ (by intro w hSw;(try dsimp only at hSw);have e0:=kept hSw HE0.out;have x0:=kept hSw HX0.out;have y0:=kept hSw HY0.out;have z1:=cell_lt e0;have z2:=cell_lt x0;have z3:=cell_lt y0;go_simp;all_goals with_reducible rfl);try simp only [tkS,Act.put]
     refine tkB 16 hH0 rfl ?_;try simp only [tkS,Act.put]
     refine tkB 17 hH0 rfl ?_ (by intro w hSw;(try dsimp only at hSw);have e0:=kept hSw HE0.out;have x0:=kept hSw HX0.out;have y0:=kept hSw HY0.out;have z1:=cell_lt e0;have z2:=cell_lt x0;have z3:=cell_lt y0;go_simp;all_goals with_reducible rfl);try simp only [tkS,Act.put]
     refine tkB 18 hH0 rfl ?_;try simp only [tkS,Act.put]
     refine tkB 19 hH0 rfl ?_;try simp only [tkS,Act.put]
     refine tkB 20 hH0 rfl ?_ (by intro w hSw;(try dsimp only at hSw);have e0:=kept hSw HE0.out;have x0:=kept hSw HX0.out;have y0:=kept hSw HY0.out;have z1:=cell_lt e0;have z2:=cell_lt x0;have z3:=cell_lt y0;go_simp;all_goals with_reducible rfl);try simp only [tkS,Act.put]
     refine rd1 21 rfl (fun K hK=>?_);go_simp;go_at_call 69
     refine (HCALL.out _ hH0).mono ?_;rintro e w5 ⟨rfl,hb⟩;have hb5:Below wr.heap.size wr w5:=hH0.trans (hb.mono hH0.size);go_wp2_with fail
     refine hK.out _ _ ?_ (fun hH1=>?_)
     ·exact hb5
     try simp only [tkS,Act.put]
     clear hK K;refine tkB 22 hH1 rfl ?_;try simp only [tkS,Act.put]
     refine tkB 23 hH1 rfl ?_;try simp only [tkS,Act.put]
     refine wpAnyH_done (by kernel_rfl) ?_ _;have HB5:=zh hb5;clear hb5 hb;go_wp2_with fail
     go_meet
     case rel=>exact ⟨by simp,HB5⟩
    case true =>
     cases he:((LA:Int) == 0);case true =>
      have e0:=HE0.out;have x0:=HX0.out;have y0:=HY0.out;go_quiet (fail)
      go_wp2_with fail
      go_meet
      case rel=>exact ⟨by rw [he];rfl,zh ((Below.refl _ _).drewN _)⟩
     case false =>
      refine wp_region_held_drew (S:=(fun w':World=>Below wr.heap.size wr w')) (by kernel_rfl) (by exact (Below.refl _ _).drew) (fun hH0=>?_);refine tkB 0 hH0 rfl ?_;try simp only [tkS,Act.put]
      refine tkB 1 hH0 rfl ?_;try simp only [tkS,Act.put]
      refine tkB 2 hH0 rfl ?_;try simp only [tkS,Act.put]
      refine tkB 3 hH0 rfl ?_ (by intro w hSw;(try dsimp only at hSw);have e0:=kept hSw HE0.out;have x0:=kept hSw HX0.out;have y0:=kept hSw HY0.out;have z1:=cell_lt e0;have z2:=cell_lt x0;have z3:=cell_lt y0;go_simp;all_goals with_reducible rfl);try simp only [tkS,Act.put]
      refine tkB 4 hH0 rfl ?_;try simp only [tkS,Act.put]
      refine tkB 5 hH0 rfl ?_;try simp only [tkS,Act.put]
      refine tkB 6 hH0 rfl ?_ (by intro w hSw;(try dsimp only at hSw);have e0:=kept hSw HE0.out;have x0:=kept hSw HX0.out;have y0:=kept hSw HY0.out;have z1:=cell_lt e0;have z2:=cell_lt x0;have z3:=cell_lt y0;go_simp;all_goals with_reducible rfl);try simp only [tkS,Act.put]
      refine tkB 7 hH0 rfl ?_;try simp only [tkS,Act.put]
      refine tkB 8 hH0 rfl ?_;try simp only [tkS,Act.put]
      refine tkB 9 hH0 rfl ?_;try simp only [tkS,Act.put]
      refine tkB 10 hH0 rfl ?_;try simp only [tkS,Act.put]
      refine tkB 11 hH0 rfl ?_;try simp only [tkS,Act.put]
      refine tkB 12 hH0 rfl ?_;try simp only [tkS,Act.put]
      refine tkB 13 hH0 rfl ?_;try simp only [tkS,Act.put]
      refine tkB 14 hH0 rfl ?_;try simp only [tkS,Act.put]
      refine tkB 15 hH0 rfl ?_ (by intro w hSw;(try dsimp only at hSw);have e0:=kept hSw HE0.out;have x0:=kept hSw HX0.out;have y0:=kept hSw HY0.out;have z1:=cell_lt e0;have z2:=cell_lt x0;have z3:=cell_lt y0;go_simp;all_goals with_reducible rfl);try simp only [tkS,Act.put]
      refine tkB 16 hH0 rfl ?_;try simp only [tkS,Act.put]
      refine tkB 17 hH0 rfl ?_ (by intro w hSw;(try dsimp only at hSw);have e0:=kept hSw HE0.out;have x0:=kept hSw HX0.out;have y0:=kept hSw HY0.out;have z1:=cell_lt e0;have z2:=cell_lt x0;have z3:=cell_lt y0;go_simp;all_goals with_reducible rfl);try simp only [tkS,Act.put]
      refine tkB 18 hH0 rfl ?_;try simp only [tkS,Act.put]
      refine tkB 19 hH0 rfl ?_;try simp only [tkS,Act.put]
      refine tkB 20 hH0 rfl ?_ (by intro w hSw;(try dsimp only at hSw);have e0:=kept hSw HE0.out;have x0:=kept hSw HX0.out;have y0:=kept hSw HY0.out;have z1:=cell_lt e0;have z2:=cell_lt x0;have z3:=cell_lt y0;go_simp;all_goals with_reducible rfl);try simp only [tkS,Act.put]
      refine rd1 21 rfl (fun K hK=>?_);go_simp;go_at_call 69
      refine (HCALL.out _ hH0).mono ?_;rintro e w5 ⟨rfl,hb⟩;have hb5:Below wr.heap.size wr w5:=hH0.trans (hb.mono hH0.size);go_wp2_with fail
      refine hK.out _ _ ?_ (fun hH1=>?_)
      ·exact hb5
      try simp only [tkS,Act.put]
      clear hK K;refine tkB 22 hH1 rfl ?_;try simp only [tkS,Act.put]
      refine tkB 23 hH1 rfl ?_;try simp only [tkS,Act.put]
      refine wpAnyH_done (by kernel_rfl) ?_ _;have HB5:=zh hb5;clear hb5 hb;go_wp2_with fail
      go_meet
      case rel=>exact ⟨by rw [he];rfl,HB5⟩
   case rest =>
    obtain ⟨rfl,hbc⟩:=hcut;obtain ⟨w5,hw5⟩:∃ w2,w2=wc:=⟨_,rfl⟩
    subst hw5;have HB5:=zh (hbr.out.trans (hbc.out.mono hbr.out.size));have HST2:Hid (termsOk partly (ts.drop k) (yt.drop k)=(!(!(partly && ((LA:Int) == 0)) && !cb) && termsOk partly (ts.drop (k+1)) (yt.drop (k+1)))):=by
     show _=_;rw [HST.out,HEM.out];cases partly <;> cases cb <;> simp
    clear HST hbc;generalize (!(partly && ((LA:Int) == 0)) && !cb)=bv at *;cases bv;case false =>
     have HK2:Hid (termsOk partly ts yt=termsOk partly (ts.drop (k+1)) (yt.drop (k+1))):=by show _=_;rw [HK.out,HST2.out];rfl
     clear HST2 HK;go_wp2_with fail
     go_roundw
     case rel=>exact ⟨k+1,by omega,by go_num,HK2,HB5⟩
     case measure=>exact zm
    case true =>
     have HT2:Hid (R=1):=by
      show _=_;rw [HF3.out,HK.out,HST2.out];rfl
     clear HST2 HK HF3;go_wp2_with fail
     go_ret;exact ⟨by rw [HT2.out];rfl,HB1.out.trans (HB5.out.mono HB1.out.size)⟩
  ·have hkz:¬ (k:Int) < (LT:Int):=by omega
   have HT:Hid (R=if yo.any fun s=>!(partly && emp s || c.licenses.any fun l=>seq l.name s) then 7 else 0):=by
    show _=_;have h9:=HK.out;rw [List.drop_eq_nil_of_le (by rw [← HTL.out];omega),List.drop_eq_nil_of_le (by rw [HLT.out];omega)] at h9;rw [HF3.out,h9];rfl
   have E1q:=zh (kept hbr.out E1.out);have D0q:=zh (kept hbr.out D0.out);have D1q:=zh (kept hbr.out D1.out);have D2q:=zh (kept hbr.out D2.out);have D3q:=zh (kept hbr.out D3.out);have HBQ:=HBR;clear HK HF3 HBR hbr D0 D1 D2 D3 E0 E1;go_wp2_with fail
   obtain ⟨wq,hwq⟩:∃ W,W=wr:=⟨_,rfl⟩
   subst hwq;go_loopw [13] (fun kv wr=>∃ j:Nat,j≤LO∧kv=.int .i64 j∧Hid ((yo.take j).any (fun s=>!(partly && emp s || c.licenses.any fun l=>seq l.name s))=false)∧Hid (Below wq.heap.size wq wr)) (fun kv _=>LO - (intOf kv).toNat)
   case atStart=>exact ⟨0,by omega,rfl,rfl,zh (Below.refl _ _)⟩
   case round =>
    obtain ⟨j,hj,rfl,HK,hbr⟩:=hrel;have HBR:=zh (HBQ.out.trans (hbr.out.mono HBQ.out.size));by_cases hji:j < LO
    ·have hjz:(j:Int) < (LO:Int):=by omega
     have hj0:(0:Int)≤(j:Int):=by omega
     obtain ⟨s,hx⟩:=get_lt (xs:=yo) (k:=j) (by rw [HLO.out];exact hji);obtain ⟨bx,ox,rfl,hbx,x0',-⟩:=str_at HRO.out hx;have x0:=kept HBR.out x0';have X0:=zh x0;have HS:=zh (any_none_at (p:=fun s=>!(partly && emp s || c.licenses.any fun l=>seq l.name s)) hx);have HM:=zh (any_hit_at (p:=fun s=>!(partly && emp s || c.licenses.any fun l=>seq l.name s)) hx);have E1R:=zh (kept hbr.out E1q.out);have D0R:=zh (kept hbr.out D0q.out);have D1R:=zh (kept hbr.out D1q.out);have D2R:=zh (kept hbr.out D2q.out);have D3R:=zh (kept hbr.out D3q.out);have e1:=E1R.out;have hzr:w.heap.size+1 < wr.heap.size:=cell_lt e1;have HCALL:Hid (∀ W,Below wr.heap.size wr W→Calls Tryz.prog 70 #[.agg #[.slice a0 N0 c0,.slice a1 N1 c1,.slice a2 N2 c2,.slice a3 N3 c3],.string s] W fun e w'=>e=.returned (.tuple #[licV ((findC c s).getD noLic),.bool (findC c s).isSome])∧Below W.heap.size W w'):=fun W hb=>HFI.out W s (HBR.out.trans (hb.mono HBR.out.size));have hcb:=HFB.out s;rw [← hcb] at HS HM;clear hx x0' hbx hcb;generalize (findC c s)=fo at *;generalize hlv:licV (fo.getD noLic)=lv at *;obtain ⟨l0,l1,l2,l3,rfl⟩:∃ l0 l1 l2 l3,lv=.agg #[.string l0,.string l1,.int .i64 l2,.string l3]:=⟨_,_,_,_,hlv.symm⟩
     clear hlv;generalize fo.isSome=sm at *;have hes:emp s=s.toList.isEmpty:=rfl;rw [hes] at HS HM;go_upto_region 14 with (fail)
     go_cut [84] (fun vv wx=>vv=.bool (partly && s.toList.isEmpty)∧wr=wx)
     case first =>
      clear HS HM HK HT;cases partly
      all_goals
       go_wp2_with fail
       go_meet
       case rel=>exact ⟨rfl,rfl⟩
     case rest =>
      obtain ⟨rfl,hwc⟩:=hcut;subst hwc;cases hp:(partly && s.toList.isEmpty);case true =>
       have HK2:Hid ((yo.take (j+1)).any (fun s=>!(partly && emp s || c.licenses.any fun l=>seq l.name s))=false):=by show _=_;rw [HS.out,HK.out,hp];rfl
       clear HS HM hp HK hes;go_wp2_with fail
       go_roundw
       case rel=>exact ⟨j+1,by omega,by go_num,HK2,hbr⟩
       case measure=>exact zm
      case false =>
       rw [hp,Bool.false_or] at HS HM;have HSM:Hid (if sm then (yo.take (j+1)).any (fun s=>!(partly && emp s || c.licenses.any fun l=>seq l.name s))=false else R=7):=by
        show if sm then _ else _;cases sm
        ·rw [if_neg Bool.false_ne_true,HT.out,if_pos (HM.out rfl)]
        ·rw [if_pos rfl,HS.out,HK.out];rfl
       clear HS HM hp HK hes;go_upto_region 15 with (fail)
       go_cut [15] (fun vv wx=>vv=.bool sm∧Hid (Below wr.heap.size wr wx))
       case first =>
        refine wp_region_held_drew (S:=(fun w':World=>Below wr.heap.size wr w')) (by kernel_rfl) (by exact (Below.refl _ _).drew) (fun hH0=>?_);generalize wr.drew=wd at *;refine tkB 0 hH0 rfl ?_ (by intro w hSw;(try dsimp only at hSw);have y0:=kept hSw D0R.out;have y1:=kept hSw D1R.out;have y2:=kept hSw D2R.out;have y3:=kept hSw D3R.out;have y9:=cell_lt y0;go_simp;all_goals with_reducible rfl);try simp only [tkS,Act.put]
        refine tkB 1 hH0 rfl ?_ (by intro w hSw;(try dsimp only at hSw);have e1:=kept hSw E1R.out;have x0:=kept hSw X0.out;have y9:=cell_lt e1;have y8:=cell_lt x0;go_simp;all_goals with_reducible rfl);try simp only [tkS,Act.put]
        refine tkB 2 hH0 rfl ?_ (by intro w hSw;(try dsimp only at hSw);have e1:=kept hSw E1R.out;have x0:=kept hSw X0.out;have y9:=cell_lt e1;have y8:=cell_lt x0;go_simp;all_goals with_reducible rfl);try simp only [tkS,Act.put]
        refine tkB 3 hH0 rfl ?_;try simp only [tkS,Act.put]
        refine tkB 4 hH0 rfl ?_ (by intro w hSw;(try dsimp only at hSw);have e1:=kept hSw E1R.out;have x0:=kept hSw X0.out;have y9:=cell_lt e1;have y8:=cell_lt x0;go_simp;all_goals with_reducible rfl);try simp only [tkS,Act.put]
        refine tkB 5 hH0 rfl ?_ (by intro w hSw;(try dsimp only at hSw);have e1:=kept hSw E1R.out;have x0:=kept hSw X0.out;have y9:=cell_lt e1;have y8:=cell_lt x0;go_simp;all_goals with_reducible rfl);try simp only [tkS,Act.put]
        refine rd2 6 10 rfl rfl (fun K hK=>?_) (fun K hK=>?_)
        ·go_simp;go_at_call 70
         refine (HCALL.out _ hH0).mono ?_;rintro e w5 ⟨rfl,hb⟩;have hbb:Below wr.heap.size wr w5:=hH0.trans (hb.mono hH0.size);go_wp2_with fail
         refine hK.out _ _ ?_ (fun hH1=>?_)
         ·exact hbb
         try simp only [tkS,Act.put]
         clear hK K;refine tkB 7 hH1 rfl ?_;try simp only [tkS,Act.put]
         refine tkB 8 hH1 rfl ?_;try simp only [tkS,Act.put]
         refine tkB 9 hH1 rfl ?_;try simp only [tkS,Act.put]
         refine rd1 10 rfl (fun K hK=>?_);go_simp;go_wp2_with fail
         refine hK.out _ _ ?_ (fun hH2=>?_)
         ·exact hbb.alloc hbb.size _
         try simp only [tkS,Act.put]
         clear hK K;refine rd1 11 rfl (fun K hK=>?_);go_simp;have hb6:Below wr.heap.size wr (w5.alloc (.cells #[.string l0,.string l1,.int .i64 l2,.string l3] 106)):=hbb.alloc hbb.size _;go_wp2_with fail
         refine hK.out _ _ ?_ (fun hH3=>?_)
         ·exact hb6
         try simp only [tkS,Act.put]
         clear hK K;generalize (w5.alloc (.cells #[.string l0,.string l1,.int .i64 l2,.string l3] 106))=w6 at *;exact zrrfy0
        ·go_simp;have hOB:=World.alloc_heap_new wd (.cells #[.string ByteArray.empty,.string ByteArray.empty,.int .i64 0,.string ByteArray.empty] 106);have hbA2:Below wr.heap.size wr (wd.alloc (.cells #[.string ByteArray.empty,.string ByteArray.empty,.int .i64 0,.string ByteArray.empty] 106)):=hH0.alloc hH0.size _;have hge:wr.heap.size≤wd.heap.size:=hH0.size;go_wp2_with fail
         refine hK.out _ _ ?_ (fun hH1=>?_)
         ·exact hbA2
         try simp only [tkS,Act.put]
         clear hK K;clear hH0 hbA2;refine rd1 6 rfl (fun K hK=>?_);go_simp;go_at_call 70
         refine (HCALL.out _ hH1).mono ?_;rintro e w5 ⟨rfl,hb⟩;have hbb:Below wr.heap.size wr w5:=hH1.trans (hb.mono hH1.size);have hOA:=obj_below hOB hb;go_wp2_with fail
         refine hK.out _ _ ?_ (fun hH2=>?_)
         ·exact hbb
         try simp only [tkS,Act.put]
         clear hK K;refine tkB 7 hH2 rfl ?_;try simp only [tkS,Act.put]
         refine tkB 8 hH2 rfl ?_;try simp only [tkS,Act.put]
         refine tkB 9 hH2 rfl ?_;try simp only [tkS,Act.put]
         refine rd1 11 rfl (fun K hK=>?_);have z0:=objcell hOA (j:=0) rfl;have f0:=objfrozen hOA (j:=0);have z1:=objcell hOA (j:=1) rfl;have f1:=objfrozen hOA (j:=1);have z2:=objcell hOA (j:=2) rfl;have f2:=objfrozen hOA (j:=2);have z3:=objcell hOA (j:=3) rfl;have f3:=objfrozen hOA (j:=3);have hlg:wd.heap.size < w5.heap.size:=cell_lt z0;go_simp;have hb6:Below wr.heap.size wr ((((w5.setCell ⟨wd.heap.size,0,none⟩ (.string l0)).setCell ⟨wd.heap.size,1,none⟩ (.string l1)).setCell ⟨wd.heap.size,2,none⟩ (.int .i64 l2)).setCell ⟨wd.heap.size,3,none⟩ (.string l3)):=((((hbb.setCell (by exact hge) _).setCell (by exact hge) _).setCell (by exact hge) _).setCell (by exact hge) _)
         go_wp2_with fail
         refine hK.out _ _ ?_ (fun hH3=>?_)
         ·exact hb6
         try simp only [tkS,Act.put]
         clear hK K;generalize ((((w5.setCell ⟨wd.heap.size,0,none⟩ (.string l0)).setCell ⟨wd.heap.size,1,none⟩ (.string l1)).setCell ⟨wd.heap.size,2,none⟩ (.int .i64 l2)).setCell ⟨wd.heap.size,3,none⟩ (.string l3))=w6 at *;exact zrrfy0
       case rest =>
        obtain ⟨rfl,hbc⟩:=hcut;obtain ⟨w6,hw2⟩:∃ w2,w2=wc:=⟨_,rfl⟩
        subst hw2;have HB6:=zh (hbr.out.trans (hbc.out.mono hbr.out.size));clear hbc;cases sm;case false =>
         have HT2:Hid (R=7):=HSM.out;clear HSM HT;go_wp2_with fail
         go_ret;exact ⟨by rw [HT2.out];rfl,HBQ.out.trans (HB6.out.mono HBQ.out.size)⟩
        case true =>
         have HK2:Hid ((yo.take (j+1)).any _=false):=HSM.out;clear HSM;go_wp2_with fail
         go_roundw
         case rel=>exact ⟨j+1,by omega,by go_num,HK2,HB6⟩
         case measure=>exact zm
    ·have hjz:¬ (j:Int) < (LO:Int):=by omega
     have HT2:Hid (R=0):=by
      show _=_;have h9:=HK.out;rw [List.take_of_length_le (by rw [HLO.out];omega)] at h9;rw [HT.out,h9];rfl
     clear HK HT;go_wp2_with fail
     go_ret;exact ⟨by rw [HT2.out];rfl,HBR.out⟩

def FewCO (y:Choice) (w:World) (e:Ending) (w':World):Prop:=∃ b,e=.returned (.bool b)∧(b=true→y.terms.length≤70∧∀ x∈y.terms,x.length≤65)∧Below w.heap.size w w'
theorem FewChoice_ref (w:World) (vy:Value) (y:Choice) (hy:Is w vy y):Calls Tryz.prog 21 #[vy] w fun e w'=>FewCO y w e w':=by
 obtain ⟨yt,yo⟩:=y;obtain ⟨at',ct,ao,co,rfl,lt,mt,rt,lo,mo,ro⟩:=Choice.inv hy;have hmo:yo.length≤9223372036854775807:=by simp only [maxLen] at mo;omega
 have HRO:=zh ro;have hba:Below w.heap.size w (w.alloc (.cells #[.slice at' yt.length ct,.slice ao yo.length co] 43)):=zb;have hcall:=FewA_ref (w.alloc (.cells #[.slice at' yt.length ct,.slice ao yo.length co] 43)) _ yt ((list_mk lt mt rt).mono hba);have HBA:=zh hba;clear hy lt mt rt lo mo ro hba;unfold FewO at hcall;generalize hLT:yt.length=LT at *;have HLT:=zh hLT;clear hLT;generalize hLO:yo.length=LO at *;have HLO:=zh hLO;clear hLO;go_enter Tryz.func21,Tryz.ntmps21;go_wp2_with fail
 refine hcall.mono ?_;rintro e w1 ⟨b,rfl,hb1,hf⟩;clear hcall;have e1:=kb w hb1 1 (.slice ao LO co);have hs1:w.heap.size < w1.heap.size:=cell_lt e1;have HB1:=zh (HBA.out.trans (hb1.mono (by simp)));have HF:=zh hf;clear hb1 HBA hf;cases b;case false =>
  clear e1;go_wp2;go_ret;exact ⟨false,rfl,(fun h=>by cases h),HB1.out⟩
 have HF2:=zh (HF.out rfl);clear HF;have E1:=zh e1;by_cases q:(20:Int) < (LO:Int)
 ·go_wp2_with fail
  go_ret;exact ⟨false,rfl,(fun h=>by cases h),HB1.out⟩
 go_wp2_with fail
 clear e1;go_loopw [3] (fun kv wr=>∃ k:Nat,k≤LO∧kv=.int .i64 k∧wr=w1) (fun kv _=>LO - (intOf kv).toNat)
 case atStart=>exact ⟨0,by omega,rfl,rfl⟩
 case round =>
  obtain ⟨k,hk,rfl,rfl⟩:=hrel;have e1:=E1.out;by_cases hki:k < LO
  ·have hkz:(k:Int) < (LO:Int):=by omega
   have hk0:(0:Int)≤(k:Int):=by omega
   obtain ⟨s,hx⟩:=get_lt (xs:=yo) (k:=k) (by rw [HLO.out];exact hki);obtain ⟨bx,ox,rfl,hbx,x0',hsz⟩:=str_at HRO.out hx;have x0:=kept HB1.out x0';have hzx:=cell_lt x0;clear hx x0' hbx;by_cases q2:(200:Int) < (s.size:Int)
   ·go_wp2_with fail
    go_ret;exact ⟨false,rfl,(fun h=>by cases h),HB1.out⟩
   ·go_wp2_with fail
    go_roundw
    case rel=>exact ⟨k+1,by omega,by go_num,by first | rfl | trivial⟩
    case measure=>exact zm
  ·have hkz:¬ (k:Int) < (LO:Int):=by omega
   go_wp2_with fail
   go_ret;exact ⟨true,rfl,fun _=>⟨by show yt.length≤70;rw [HLT.out];exact HF2.out.1,HF2.out.2⟩,HB1.out⟩

end Go.Proofs.YtcbopdbbcgdkcaaGreatDoor
