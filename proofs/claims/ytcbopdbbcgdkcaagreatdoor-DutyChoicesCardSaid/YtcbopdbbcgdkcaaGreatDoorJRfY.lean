/- Lemmas. -/
import Derived.Test.YtcbopdbbcgdkcaaGreatDoorJDuE
import Derived.Test.YtcbopdbbcgdkcaaGreatDoorJFewU
import Derived.Test.YtcbopdbbcgdkcaaGreatDoorJRfD
set_option linter.all false
set_option maxRecDepth 100000
set_option maxHeartbeats 16000000
namespace Go.Proofs.YtcbopdbbcgdkcaaGreatDoor
open Go Go.RowKit Go.ChangeShapes Go.Lib

theorem lookL_any (nm:ByteArray):∀ ls:List License,(lookL nm ls).isSome=ls.any fun l=>seq l.name nm
 | []=>rfl
 | l :: r=>by
  rw [lookL,List.any_cons];by_cases h:l.name=nm
  ·rw [if_pos h,seq_eq,decide_eq_true h];rfl
  ·rw [if_neg h,seq_eq,decide_eq_false h,lookL_any nm r];rfl
theorem find_any (c:Catalog) (s:ByteArray) (h:checkC c=0):(findC c s).isSome=c.licenses.any fun l=>seq l.name s:=by
 unfold findC;rw [h,if_neg (by decide),lookL_any]
theorem values_ok0 {c:Catalog} {x:List Fact} (h:(valuesC c x).2.2=0):checkC c=0:=by
 unfold valuesC at h;split at h
 ·rename_i h1
  unfold caseE at h1;split at h1
  ·cases h1
  ·rename_i h2;simpa using h2
 ·rename_i h1
  exact absurd h (by simpa using h1)
theorem has_ref (w:World) (v va:Value) (l:List (List Term)) (b:List Term) (h:Is w v l) (hb:Is w va b) :
  Calls Tryz.prog 69 #[v,va] w fun e w'=>e=.returned (.bool (l.contains b))∧Below w.heap.size w w':=by
 obtain ⟨a,n,rfl,hn,hm,hr⟩:=list_inv h;simp only [maxLen] at hm;obtain ⟨ab,nb,rfl,-⟩:=list_inv hb;have HR:=zh hr;have HB:=zh hb;have HCA:=zh (contains_any l b);clear h hr hb;generalize l.contains b=cb at *;generalize hL:l.length=L at *;have HL:=zh hL;generalize hM:b.length=M at *;clear hL hM;go_enter Tryz.func69,Tryz.ntmps69;go_wp2_with fail
 go_loopw [5] (fun kv wr=>∃ k:Nat,k≤L∧kv=.int .i64 k∧Hid ((l.take k).any (fun x=>decide (b=x))=false)∧Hid (Below w.heap.size w wr)) (fun kv _=>L - (intOf kv).toNat)
 case atStart=>exact ⟨0,by omega,rfl,rfl,zh (Below.refl _ _)⟩
 case round =>
  obtain ⟨k,hk,rfl,HK,hbr⟩:=hrel;by_cases hki:k < L
  ·have hkz:(k:Int) < (L:Int):=by omega
   have hk0:(0:Int)≤(k:Int):=by omega
   obtain ⟨x,hx⟩:=get_lt (xs:=l) (k:=k) (by rw [HL.out];exact hki);obtain ⟨bx,ox,rfl,hbx,ax,cx,x0',hx1,hx2,hx3⟩:=list_at HR.out hx;have x0:=kept hbr.out x0';have hcall:=SameTerms_ref wr _ _ x b ((list_mk hx1 hx2 hx3).mono hbr.out) (HB.out.mono hbr.out);have HN:=zh (any_none_at (p:=fun x=>decide (b=x)) hx);have HM:=zh (any_hit_at (p:=fun x=>decide (b=x)) hx);have hsym:decide (b=x)=decide (x=b):=by
    by_cases q:x=b
    ·subst q;rfl
    ·rw [decide_eq_false q,decide_eq_false (fun h=>q h.symm)]
   rw [hsym] at HN HM;clear hx x0' hbx hx1 hx2 hx3 hsym;generalize x.length=K at *;generalize decide (x=b)=d at *;go_wp2_with fail
   refine hcall.mono ?_;rintro e w4 ⟨rfl,hb4⟩;clear hcall;have HB4:=zh (hbr.out.trans (hb4.mono hbr.out.size));clear hb4;cases d;case true =>
    have HT:Hid (cb=true):=by show _=_;rw [HCA.out];exact HM.out rfl
    clear HK HN HM HCA;go_wp2_with fail
    go_ret;exact ⟨by rw [HT.out];rfl,HB4.out⟩
   case false =>
    have HK2:Hid ((l.take (k+1)).any (fun x=>decide (b=x))=false):=by show _=_;rw [HN.out,HK.out];rfl
    clear HK HN HM;go_wp2_with fail
    go_roundw
    case rel=>exact ⟨k+1,by omega,by go_num,HK2,HB4⟩
    case measure=>exact zm
  ·have hkz:¬ (k:Int) < (L:Int):=by omega
   have HT:Hid (cb=false):=by
    show _=_;have h9:=HK.out;rw [List.take_of_length_le (by rw [HL.out];omega)] at h9;rw [HCA.out];exact h9
   clear HK HCA;go_wp2_with fail
   go_ret;exact ⟨by rw [HT.out];rfl,hbr.out⟩
theorem zrrfy1 {p:Prop} (h:p:=by
 refine tkB 12 hH3 rfl ?_;try simp only [tkS,Act.put]
 refine wpAnyH_done (by kernel_rfl) ?_ _;go_wp2_with fail
 go_meet
 case rel=>exact ⟨rfl,zh hb6⟩):p:=h
theorem zrrfy2 {p:Prop} (h:p:=by
 go_wp2_with fail
 go_ret;exact ⟨by rw [HT.out];rfl,HB1.out⟩):p:=h
theorem CheckChoice_ref (w:World) (vc vx vy:Value) (c:Catalog) (x:List Fact) (y:Choice) (partly:Bool) (hc:Is w vc c) (h:Is w vx x) (hy:Is w vy y) (hfit:∀ f∈x,fitF f) (hsz:∀ f∈x,sizeE f.expr≤5000) :
  Calls Tryz.prog 25 #[vc,vx,vy,.bool partly] w fun e w'=>e=.returned (.int .i64 (choiceE c x y partly))∧Below w.heap.size w w':=by
 have HF:Hid (choiceE c x y partly=if (valuesC c x).2.2 == 0 then
  (if decide (y.terms.length≠(valuesC c x).1.length) || decide (y.own.length≠(valuesC c x).2.1.length) then 9
   else if !termsOk partly (valuesC c x).1 y.terms then 1
   else if y.own.any fun s=>!(partly && emp s || c.licenses.any fun l=>seq l.name s) then 7 else 0)
 else (valuesC c x).2.2):=rfl
 have HFA:Hid ((valuesC c x).2.2=0→∀ s,(findC c s).isSome=c.licenses.any fun l=>seq l.name s):=fun h s=>find_any c s (values_ok0 h);have HC:=zh hc;obtain ⟨a0,c0,a1,c1,a2,c2,a3,c3,rfl,-⟩:=Catalog.inv hc;obtain ⟨ax,nx,rfl,-⟩:=list_inv h;obtain ⟨yt,yo⟩:=y;obtain ⟨at',ct,ao,co,rfl,lt,mt,rt,lo,mo,ro⟩:=Choice.inv hy;have hmt:yt.length≤9223372036854775807:=by simp only [maxLen] at mt;omega
 have hmo:yo.length≤9223372036854775807:=by simp only [maxLen] at mo;omega
 have HRT:=zh rt;have HRO:=zh ro;simp only at HF;have hba:Below w.heap.size w ((w.alloc (.cells #[.slice a0 c.licenses.length c0,.slice a1 c.exceptions.length c1,.slice a2 c.clauses.length c2,.slice a3 c.apart.length c3] 27)).alloc (.cells #[.slice at' yt.length ct,.slice ao yo.length co] 43)):=bw;have hcall:=Values_ref _ _ _ c x (hc.mono hba) (h.mono hba) hfit hsz;have HBA:=zh hba;clear h hc hfit hsz hba hy lt mt rt lo mo ro;generalize c.exceptions.length=N1 at *;generalize c.clauses.length=N2 at *;generalize c.apart.length=N3 at *;generalize c.licenses.length=N0 at *;have HFI:Hid (∀ W s,Below w.heap.size w W→Calls Tryz.prog 70 #[.agg #[.slice a0 N0 c0,.slice a1 N1 c1,.slice a2 N2 c2,.slice a3 N3 c3],.string s] W fun e w'=>e=.returned (.tuple #[licV ((findC c s).getD noLic),.bool (findC c s).isSome])∧Below W.heap.size W w') :=
  fun W s hb=>Find_ref W _ c s (HC.out.mono hb)
 unfold VO at hcall;generalize valuesC c x=V at *;obtain ⟨ts,os,ve⟩:=V;simp only at hcall HF HFA;generalize hLT:yt.length=LT at *;generalize hLO:yo.length=LO at *;have HLT:=zh hLT;have HLO:=zh hLO;clear hLT hLO HC;generalize choiceE c x ⟨yt,yo⟩ partly=R at *;go_enter Tryz.func25,Tryz.ntmps25;go_wp2_with fail
 refine hcall.mono ?_;rintro e w1 ⟨v1,v2,rfl,hi1,hi2,hi3,hb1⟩;clear hcall;have d0:=kb w hb1 0 (.slice a0 N0 c0);have d1:=kb w hb1 1 (.slice a1 N1 c1);have d2:=kb w hb1 2 (.slice a2 N2 c2);have d3:=kb w hb1 3 (.slice a3 N3 c3);have e0:=kb1 w hb1 0 (.slice at' LT ct);have e1:=kb1 w hb1 1 (.slice ao LO co);have HB1:=zh (HBA.out.trans (hb1.mono (by simp;omega)));obtain ⟨bt,kt,hv1,hkt,hmkt,hrt⟩:=list_inv hi1.is;obtain ⟨bo,ko,hv2,-⟩:=hi2.shape;subst hv1;subst hv2;have HTR:=zh hrt;have hs1:w.heap.size+1 < w1.heap.size:=cell_lt e0;clear hb1 hi1 hi2 hi3 HBA hkt hmkt hrt;cases q:(ve == 0);case false =>
  have q':(ve != 0)=true:=by rw [show (ve != 0)=!(ve == 0) from rfl,q];rfl
  have HT:Hid (R=ve):=by show _=_;rw [HF.out,q];rfl
  clear q HF;exact zrrfy2
 have q':(ve != 0)=false:=by rw [show (ve != 0)=!(ve == 0) from rfl,q];rfl
 have HF2:Hid (R=(if decide (LT≠ts.length) || decide (LO≠os.length) then 9
    else if !termsOk partly ts yt then 1
    else if yo.any fun s=>!(partly && emp s || c.licenses.any fun l=>seq l.name s) then 7 else 0)):=by show _=_;rw [HF.out,q];rfl
 have HFB:=zh (HFA.out (by simpa using q));clear q HF HFA;by_cases q1:LT=ts.length
 case neg =>
  have HT:Hid (R=9):=by show _=_;rw [HF2.out,decide_eq_true q1];rfl
  have q2:((LT:Int) != (ts.length:Int))=true:=by simp;omega
  clear HF2;exact zrrfy2
 by_cases q2:LO=os.length
 case neg =>
  have HT:Hid (R=9):=by show _=_;rw [HF2.out,decide_eq_true q2];simp
  have q3:((LO:Int) != (os.length:Int))=true:=by simp;omega
  have q4:((LT:Int) != (ts.length:Int))=false:=by simp;omega
  clear HF2;exact zrrfy2
 have HF3:Hid (R=if !termsOk partly ts yt then 1 else if yo.any fun s=>!(partly && emp s || c.licenses.any fun l=>seq l.name s) then 7 else 0):=by
  show _=_;rw [HF2.out,if_neg];simp [q1,q2]
 have HTL:=zh q1;rw [← q1,← q2];clear HF2 q1 q2;have q3:((LT:Int) != (LT:Int))=false:=by simp
 have q4:((LO:Int) != (LO:Int))=false:=by simp
 have E0:=zh e0;have E1:=zh e1;have D0:=zh d0;have D1:=zh d1;have D2:=zh d2;have D3:=zh d3;go_wp2_with fail
 clear e0 e1 d0 d1 d2 d3 q3 q4;go_loopw [12] (fun kv wr=>∃ k:Nat,k≤LT∧kv=.int .i64 k∧Hid (termsOk partly ts yt=termsOk partly (ts.drop k) (yt.drop k))∧Hid (Below w1.heap.size w1 wr)) (fun kv _=>LT - (intOf kv).toNat)
 case atStart=>exact ⟨0,by omega,rfl,rfl,zh (Below.refl _ _)⟩
 case round =>
  obtain ⟨k,hk,rfl,HK,hbr⟩:=hrel;have HBR:=zh (HB1.out.trans (hbr.out.mono HB1.out.size));by_cases hki:k < LT
  ·have hkz:(k:Int) < (LT:Int):=by omega
   have hk0:(0:Int)≤(k:Int):=by omega
   obtain ⟨a,hx⟩:=get_lt (xs:=yt) (k:=k) (by rw [HLT.out];exact hki);obtain ⟨l,hl⟩:=get_lt (xs:=ts) (k:=k) (by rw [← HTL.out];exact hki);obtain ⟨bx,ox,rfl,hbx,aa,ca,x0',hx1,hx2,hx3⟩:=list_at HRT.out hx;obtain ⟨by',oy,rfl,hby,ay,cy,y0',hy1,hy2,hy3⟩:=list_at HTR.out hl;have x0:=kept HBR.out x0';have y0:=kept hbr.out y0';have HST:=zh (termsOk_at (partly:=partly) hl hx);have hia:Is wr (.slice aa a.length ca) a:=(list_mk hx1 hx2 hx3).mono HBR.out;have hil:Is wr (.slice ay l.length cy) l:=(list_mk hy1 hy2 hy3).mono hbr.out;have hla:a.length≤9223372036854775807:=by simp only [maxLen] at hx2;omega
   have e0:=kept hbr.out E0.out;have HCALL:Hid (∀ W,Below wr.heap.size wr W→Calls Tryz.prog 69 #[.slice ay l.length cy,.slice aa a.length ca] W fun e w'=>e=.returned (.bool (l.contains a))∧Below W.heap.size W w'):=fun W hb=>has_ref W _ _ l a (hil.mono hb) (hia.mono hb);clear hx hl x0' y0' hx1 hx2 hx3 hy1 hy2 hy3 hbx hby hia hil;generalize l.contains a=cb at *;have HEM:Hid (a.isEmpty=((a.length:Int) == 0)):=by show _=_;cases a <;> simp;omega
   generalize a.length=LA at *;generalize l.length=NL at *;have hzr:w.heap.size+1 < wr.heap.size:=cell_lt e0;have hzx:=cell_lt x0;have hzy:=cell_lt y0;have HX0:=zh x0;have HY0:=zh y0;have HE0:=zh e0;clear e0 x0 y0;go_wp2_with fail
   go_upto_region 9 with (fail)
   go_cut [69] (fun vv wx=>vv=.bool (!(partly && ((LA:Int) == 0)) && !cb)∧Hid (Below wr.heap.size wr wx))
   case first =>
    clear HST HK HF3;cases partly;case false =>
     refine wp_region_held_drew (S:=(fun w':World=>Below wr.heap.size wr w')) (by kernel_rfl) (by exact (Below.refl _ _).drew) (fun hH0=>?_);refine tkB 0 hH0 rfl ?_;try simp only [tkS,Act.put]
     refine tkB 1 hH0 rfl ?_;try simp only [tkS,Act.put]
     refine wpAnyH_take (i:=2) (oi:=_) (v:=undef) rfl (by kernel_rfl) (by kernel_rfl) (by kernel_rfl) (fun _ _ _ h=>h) (Or.inr ⟨by kernel_rfl,rfl⟩) hH0 ?_;try simp only [tkS,Act.put]
     refine wpAnyH_take (i:=3) (oi:=_) (v:=undef) rfl (by kernel_rfl) (by kernel_rfl) (by kernel_rfl) (fun _ _ _ h=>h) (Or.inr ⟨by kernel_rfl,rfl⟩) hH0 ?_;try simp only [tkS,Act.put]
     refine wpAnyH_take (i:=4) (oi:=_) (v:=undef) rfl (by kernel_rfl) (by kernel_rfl) (by kernel_rfl) (fun _ _ _ h=>h) (Or.inr ⟨by kernel_rfl,rfl⟩) hH0 ?_;try simp only [tkS,Act.put]
     refine wpAnyH_take (i:=5) (oi:=_) (v:=undef) rfl (by kernel_rfl) (by kernel_rfl) (by kernel_rfl) (fun _ _ _ h=>h) (Or.inr ⟨by kernel_rfl,rfl⟩) hH0 ?_;try simp only [tkS,Act.put]
     refine wpAnyH_take (i:=6) (oi:=_) (v:=undef) rfl (by kernel_rfl) (by kernel_rfl) (by kernel_rfl) (fun _ _ _ h=>h) (Or.inr ⟨by kernel_rfl,rfl⟩) hH0 ?_;try simp only [tkS,Act.put]
     refine wpAnyH_take (i:=7) (oi:=_) (v:=undef) rfl (by kernel_rfl) (by kernel_rfl) (by kernel_rfl) (fun _ _ _ h=>h) (Or.inr ⟨by kernel_rfl,rfl⟩) hH0 ?_;try simp only [tkS,Act.put]
     refine wpAnyH_take (i:=8) (oi:=_) (v:=undef) rfl (by kernel_rfl) (by kernel_rfl) (by kernel_rfl) (fun _ _ _ h=>h) (Or.inr ⟨by kernel_rfl,rfl⟩) hH0 ?_;try simp only [tkS,Act.put]
     refine tkB 9 hH0 rfl ?_;try simp only [tkS,Act.put]
     refine tkB 10 hH0 rfl ?_;try simp only [tkS,Act.put]
     refine tkB 11 hH0 rfl ?_;try simp only [tkS,Act.put]
     refine tkB 12 hH0 rfl ?_;try simp only [tkS,Act.put]
     refine tkB 13 hH0 rfl ?_;try simp only [tkS,Act.put]
     refine tkB 14 hH0 rfl ?_;try simp only [tkS,Act.put]
     refine tkB 15 hH0 rfl ?_ (by intro w hSw;(try dsimp only at hSw);have e0:=kept hSw HE0.out;have x0:=kept hSw HX0.out;have y0:=kept hSw HY0.out;have z1:=cell_lt e0;have z2:=cell_lt x0;have z3:=cell_lt y0;go_simp;all_goals with_reducible rfl);try simp only [tkS,Act.put]
     refine tkB 16 hH0 rfl ?_;try simp only [tkS,Act.put]
     refine tkB 17 hH0 rfl ?_ (by intro w hSw;(try dsimp only at hSw);have e0:=kept hSw HE0.out;have x0:=kept hSw HX0.out;have y0:=kept hSw HY0.out;have z1:=cell_lt e0;have z2:=cell_lt x0;have z3:=cell_lt y0;go_simp;all_goals with_reducible rfl);try simp only [tkS,Act.put]
     refine tkB 18 hH0 rfl ?_;try simp only [tkS,Act.put]
     refine tkB 19 hH0 rfl ?_;try simp only [tkS,Act.put]
     refine tkB 20 hH0 rfl ?_ (by intro w hSw;(try dsimp only at hSw);have e0:=kept hSw HE0.out;have x0:=kept hSw HX0.out;have y0:=kept hSw HY0.out;have z1:=cell_lt e0;have z2:=cell_lt x0;have z3:=cell_lt y0;go_simp;all_goals with_reducible rfl);try simp only [tkS,Act.put]
     refine rd1 21 rfl (fun K hK=>?_);go_simp;go_at_call 69
     refine (HCALL.out _ hH0).mono ?_;rintro e w5 ⟨rfl,hb⟩;have hb5:Below wr.heap.size wr w5:=hH0.trans (hb.mono hH0.size);go_wp2_with fail
     refine hK.out _ _ ?_ (fun hH1=>?_)
     ·exact hb5
     try simp only [tkS,Act.put]
     clear hK K;refine tkB 22 hH1 rfl ?_;try simp only [tkS,Act.put]
     refine tkB 23 hH1 rfl ?_;try simp only [tkS,Act.put]
     refine wpAnyH_done (by kernel_rfl) ?_ _;have HB5:=zh hb5;clear hb5 hb;go_wp2_with fail
     go_meet
     case rel=>exact ⟨by simp,HB5⟩
    case true =>
     cases he:((LA:Int) == 0);case true =>
      have e0:=HE0.out;have x0:=HX0.out;have y0:=HY0.out;go_quiet (fail)
      go_wp2_with fail
      go_meet
      case rel=>exact ⟨by rw [he];rfl,zh ((Below.refl _ _).drewN _)⟩
     case false =>
      refine wp_region_held_drew (S:=(fun w':World=>Below wr.heap.size wr w')) (by kernel_rfl) (by exact (Below.refl _ _).drew) (fun hH0=>?_);refine tkB 0 hH0 rfl ?_;try simp only [tkS,Act.put]
      refine tkB 1 hH0 rfl ?_;try simp only [tkS,Act.put]
      refine tkB 2 hH0 rfl ?_;try simp only [tkS,Act.put]
      refine tkB 3 hH0 rfl ?_ (by intro w hSw;(try dsimp only at hSw);have e0:=kept hSw HE0.out;have x0:=kept hSw HX0.out;have y0:=kept hSw HY0.out;have z1:=cell_lt e0;have z2:=cell_lt x0;have z3:=cell_lt y0;go_simp;all_goals with_reducible rfl);try simp only [tkS,Act.put]
      refine tkB 4 hH0 rfl ?_;try simp only [tkS,Act.put]
      refine tkB 5 hH0 rfl ?_;try simp only [tkS,Act.put]
      refine tkB 6 hH0 rfl ?_ (by intro w hSw;(try dsimp only at hSw);have e0:=kept hSw HE0.out;have x0:=kept hSw HX0.out;have y0:=kept hSw HY0.out;have z1:=cell_lt e0;have z2:=cell_lt x0;have z3:=cell_lt y0;go_simp;all_goals with_reducible rfl);try simp only [tkS,Act.put]
      refine tkB 7 hH0 rfl ?_;try simp only [tkS,Act.put]
      refine tkB 8 hH0 rfl ?_;try simp only [tkS,Act.put]
      refine tkB 9 hH0 rfl ?_;try simp only [tkS,Act.put]
      refine tkB 10 hH0 rfl ?_;try simp only [tkS,Act.put]
      refine tkB 11 hH0 rfl ?_;try simp only [tkS,Act.put]
      refine tkB 12 hH0 rfl ?_;try simp only [tkS,Act.put]
      refine tkB 13 hH0 rfl ?_;try simp only [tkS,Act.put]
      refine tkB 14 hH0 rfl ?_;try simp only [tkS,Act.put]
      refine tkB 15 hH0 rfl ?_ (by intro w hSw;(try dsimp only at hSw);have e0:=kept hSw HE0.out;have x0:=kept hSw HX0.out;have y0:=kept hSw HY0.out;have z1:=cell_lt e0;have z2:=cell_lt x0;have z3:=cell_lt y0;go_simp;all_goals with_reducible rfl);try simp only [tkS,Act.put]
      refine tkB 16 hH0 rfl ?_;try simp only [tkS,Act.put]
      refine tkB 17 hH0 rfl ?_ (by intro w hSw;(try dsimp only at hSw);have e0:=kept hSw HE0.out;have x0:=kept hSw HX0.out;have y0:=kept hSw HY0.out;have z1:=cell_lt e0;have z2:=cell_lt x0;have z3:=cell_lt y0;go_simp;all_goals with_reducible rfl);try simp only [tkS,Act.put]
      refine tkB 18 hH0 rfl ?_;try simp only [tkS,Act.put]
      refine tkB 19 hH0 rfl ?_;try simp only [tkS,Act.put]
      refine tkB 20 hH0 rfl ?_ (by intro w hSw;(try dsimp only at hSw);have e0:=kept hSw HE0.out;have x0:=kept hSw HX0.out;have y0:=kept hSw HY0.out;have z1:=cell_lt e0;have z2:=cell_lt x0;have z3:=cell_lt y0;go_simp;all_goals with_reducible rfl);try simp only [tkS,Act.put]
      refine rd1 21 rfl (fun K hK=>?_);go_simp;go_at_call 69
      refine (HCALL.out _ hH0).mono ?_;rintro e w5 ⟨rfl,hb⟩;have hb5:Below wr.heap.size wr w5:=hH0.trans (hb.mono hH0.size);go_wp2_with fail
      refine hK.out _ _ ?_ (fun hH1=>?_)
      ·exact hb5
      try simp only [tkS,Act.put]
      clear hK K;refine tkB 22 hH1 rfl ?_;try simp only [tkS,Act.put]
      refine tkB 23 hH1 rfl ?_;try simp only [tkS,Act.put]
      refine wpAnyH_done (by kernel_rfl) ?_ _;have HB5:=zh hb5;clear hb5 hb;go_wp2_with fail
      go_meet
      case rel=>exact ⟨by rw [he];rfl,HB5⟩
   case rest =>
    obtain ⟨rfl,hbc⟩:=hcut;obtain ⟨w5,hw5⟩:∃ w2,w2=wc:=⟨_,rfl⟩
    subst hw5;have HB5:=zh (hbr.out.trans (hbc.out.mono hbr.out.size));have HST2:Hid (termsOk partly (ts.drop k) (yt.drop k)=(!(!(partly && ((LA:Int) == 0)) && !cb) && termsOk partly (ts.drop (k+1)) (yt.drop (k+1)))):=by
     show _=_;rw [HST.out,HEM.out];cases partly <;> cases cb <;> simp
    clear HST hbc;generalize (!(partly && ((LA:Int) == 0)) && !cb)=bv at *;cases bv;case false =>
     have HK2:Hid (termsOk partly ts yt=termsOk partly (ts.drop (k+1)) (yt.drop (k+1))):=by show _=_;rw [HK.out,HST2.out];rfl
     clear HST2 HK;go_wp2_with fail
     go_roundw
     case rel=>exact ⟨k+1,by omega,by go_num,HK2,HB5⟩
     case measure=>exact zm
    case true =>
     have HT2:Hid (R=1):=by
      show _=_;rw [HF3.out,HK.out,HST2.out];rfl
     clear HST2 HK HF3;go_wp2_with fail
     go_ret;exact ⟨by rw [HT2.out];rfl,HB1.out.trans (HB5.out.mono HB1.out.size)⟩
  ·have hkz:¬ (k:Int) < (LT:Int):=by omega
   have HT:Hid (R=if yo.any fun s=>!(partly && emp s || c.licenses.any fun l=>seq l.name s) then 7 else 0):=by
    show _=_;have h9:=HK.out;rw [List.drop_eq_nil_of_le (by rw [← HTL.out];omega),List.drop_eq_nil_of_le (by rw [HLT.out];omega)] at h9;rw [HF3.out,h9];rfl
   have E1q:=zh (kept hbr.out E1.out);have D0q:=zh (kept hbr.out D0.out);have D1q:=zh (kept hbr.out D1.out);have D2q:=zh (kept hbr.out D2.out);have D3q:=zh (kept hbr.out D3.out);have HBQ:=HBR;clear HK HF3 HBR hbr D0 D1 D2 D3 E0 E1;go_wp2_with fail
   obtain ⟨wq,hwq⟩:∃ W,W=wr:=⟨_,rfl⟩
   subst hwq;go_loopw [13] (fun kv wr=>∃ j:Nat,j≤LO∧kv=.int .i64 j∧Hid ((yo.take j).any (fun s=>!(partly && emp s || c.licenses.any fun l=>seq l.name s))=false)∧Hid (Below wq.heap.size wq wr)) (fun kv _=>LO - (intOf kv).toNat)
   case atStart=>exact ⟨0,by omega,rfl,rfl,zh (Below.refl _ _)⟩
   case round =>
    obtain ⟨j,hj,rfl,HK,hbr⟩:=hrel;have HBR:=zh (HBQ.out.trans (hbr.out.mono HBQ.out.size));by_cases hji:j < LO
    ·have hjz:(j:Int) < (LO:Int):=by omega
     have hj0:(0:Int)≤(j:Int):=by omega
     obtain ⟨s,hx⟩:=get_lt (xs:=yo) (k:=j) (by rw [HLO.out];exact hji);obtain ⟨bx,ox,rfl,hbx,x0',-⟩:=str_at HRO.out hx;have x0:=kept HBR.out x0';have X0:=zh x0;have HS:=zh (any_none_at (p:=fun s=>!(partly && emp s || c.licenses.any fun l=>seq l.name s)) hx);have HM:=zh (any_hit_at (p:=fun s=>!(partly && emp s || c.licenses.any fun l=>seq l.name s)) hx);have E1R:=zh (kept hbr.out E1q.out);have D0R:=zh (kept hbr.out D0q.out);have D1R:=zh (kept hbr.out D1q.out);have D2R:=zh (kept hbr.out D2q.out);have D3R:=zh (kept hbr.out D3q.out);have e1:=E1R.out;have hzr:w.heap.size+1 < wr.heap.size:=cell_lt e1;have HCALL:Hid (∀ W,Below wr.heap.size wr W→Calls Tryz.prog 70 #[.agg #[.slice a0 N0 c0,.slice a1 N1 c1,.slice a2 N2 c2,.slice a3 N3 c3],.string s] W fun e w'=>e=.returned (.tuple #[licV ((findC c s).getD noLic),.bool (findC c s).isSome])∧Below W.heap.size W w'):=fun W hb=>HFI.out W s (HBR.out.trans (hb.mono HBR.out.size));have hcb:=HFB.out s;rw [← hcb] at HS HM;clear hx x0' hbx hcb;generalize (findC c s)=fo at *;generalize hlv:licV (fo.getD noLic)=lv at *;obtain ⟨l0,l1,l2,l3,rfl⟩:∃ l0 l1 l2 l3,lv=.agg #[.string l0,.string l1,.int .i64 l2,.string l3]:=⟨_,_,_,_,hlv.symm⟩
     clear hlv;generalize fo.isSome=sm at *;have hes:emp s=s.toList.isEmpty:=rfl;rw [hes] at HS HM;go_upto_region 14 with (fail)
     go_cut [84] (fun vv wx=>vv=.bool (partly && s.toList.isEmpty)∧wr=wx)
     case first =>
      clear HS HM HK HT;cases partly
      all_goals
       go_wp2_with fail
       go_meet
       case rel=>exact ⟨rfl,rfl⟩
     case rest =>
      obtain ⟨rfl,hwc⟩:=hcut;subst hwc;cases hp:(partly && s.toList.isEmpty);case true =>
       have HK2:Hid ((yo.take (j+1)).any (fun s=>!(partly && emp s || c.licenses.any fun l=>seq l.name s))=false):=by show _=_;rw [HS.out,HK.out,hp];rfl
       clear HS HM hp HK hes;go_wp2_with fail
       go_roundw
       case rel=>exact ⟨j+1,by omega,by go_num,HK2,hbr⟩
       case measure=>exact zm
      case false =>
       rw [hp,Bool.false_or] at HS HM;have HSM:Hid (if sm then (yo.take (j+1)).any (fun s=>!(partly && emp s || c.licenses.any fun l=>seq l.name s))=false else R=7):=by
        show if sm then _ else _;cases sm
        ·rw [if_neg Bool.false_ne_true,HT.out,if_pos (HM.out rfl)]
        ·rw [if_pos rfl,HS.out,HK.out];rfl
       clear HS HM hp HK hes;go_upto_region 15 with (fail)
       go_cut [15] (fun vv wx=>vv=.bool sm∧Hid (Below wr.heap.size wr wx))
       case first =>
        refine wp_region_held_drew (S:=(fun w':World=>Below wr.heap.size wr w')) (by kernel_rfl) (by exact (Below.refl _ _).drew) (fun hH0=>?_);generalize wr.drew=wd at *;refine tkB 0 hH0 rfl ?_ (by intro w hSw;(try dsimp only at hSw);have y0:=kept hSw D0R.out;have y1:=kept hSw D1R.out;have y2:=kept hSw D2R.out;have y3:=kept hSw D3R.out;have y9:=cell_lt y0;go_simp;all_goals with_reducible rfl);try simp only [tkS,Act.put]
        refine tkB 1 hH0 rfl ?_ (by intro w hSw;(try dsimp only at hSw);have e1:=kept hSw E1R.out;have x0:=kept hSw X0.out;have y9:=cell_lt e1;have y8:=cell_lt x0;go_simp;all_goals with_reducible rfl);try simp only [tkS,Act.put]
        refine tkB 2 hH0 rfl ?_ (by intro w hSw;(try dsimp only at hSw);have e1:=kept hSw E1R.out;have x0:=kept hSw X0.out;have y9:=cell_lt e1;have y8:=cell_lt x0;go_simp;all_goals with_reducible rfl);try simp only [tkS,Act.put]
        refine tkB 3 hH0 rfl ?_;try simp only [tkS,Act.put]
        refine tkB 4 hH0 rfl ?_ (by intro w hSw;(try dsimp only at hSw);have e1:=kept hSw E1R.out;have x0:=kept hSw X0.out;have y9:=cell_lt e1;have y8:=cell_lt x0;go_simp;all_goals with_reducible rfl);try simp only [tkS,Act.put]
        refine tkB 5 hH0 rfl ?_ (by intro w hSw;(try dsimp only at hSw);have e1:=kept hSw E1R.out;have x0:=kept hSw X0.out;have y9:=cell_lt e1;have y8:=cell_lt x0;go_simp;all_goals with_reducible rfl);try simp only [tkS,Act.put]
        refine rd2 6 10 rfl rfl (fun K hK=>?_) (fun K hK=>?_)
        ·go_simp;go_at_call 70
         refine (HCALL.out _ hH0).mono ?_;rintro e w5 ⟨rfl,hb⟩;have hbb:Below wr.heap.size wr w5:=hH0.trans (hb.mono hH0.size);go_wp2_with fail
         refine hK.out _ _ ?_ (fun hH1=>?_)
         ·exact hbb
         try simp only [tkS,Act.put]
         clear hK K;refine tkB 7 hH1 rfl ?_;try simp only [tkS,Act.put]
         refine tkB 8 hH1 rfl ?_;try simp only [tkS,Act.put]
         refine tkB 9 hH1 rfl ?_;try simp only [tkS,Act.put]
         refine rd1 10 rfl (fun K hK=>?_);go_simp;go_wp2_with fail
         refine hK.out _ _ ?_ (fun hH2=>?_)
         ·exact hbb.alloc hbb.size _
         try simp only [tkS,Act.put]
         clear hK K;refine rd1 11 rfl (fun K hK=>?_);go_simp;have hb6:Below wr.heap.size wr (w5.alloc (.cells #[.string l0,.string l1,.int .i64 l2,.string l3] 106)):=hbb.alloc hbb.size _;go_wp2_with fail
         refine hK.out _ _ ?_ (fun hH3=>?_)
         ·exact hb6
         try simp only [tkS,Act.put]
         clear hK K;generalize (w5.alloc (.cells #[.string l0,.string l1,.int .i64 l2,.string l3] 106))=w6 at *;exact zrrfy1
        ·go_simp;have hOB:=World.alloc_heap_new wd (.cells #[.string ByteArray.empty,.string ByteArray.empty,.int .i64 0,.string ByteArray.empty] 106);have hbA2:Below wr.heap.size wr (wd.alloc (.cells #[.string ByteArray.empty,.string ByteArray.empty,.int .i64 0,.string ByteArray.empty] 106)):=hH0.alloc hH0.size _;have hge:wr.heap.size≤wd.heap.size:=hH0.size;go_wp2_with fail
         refine hK.out _ _ ?_ (fun hH1=>?_)
         ·exact hbA2
         try simp only [tkS,Act.put]
         clear hK K;clear hH0 hbA2;refine rd1 6 rfl (fun K hK=>?_);go_simp;go_at_call 70
         refine (HCALL.out _ hH1).mono ?_;rintro e w5 ⟨rfl,hb⟩;have hbb:Below wr.heap.size wr w5:=hH1.trans (hb.mono hH1.size);have hOA:=obj_below hOB hb;go_wp2_with fail
         refine hK.out _ _ ?_ (fun hH2=>?_)
         ·exact hbb
         try simp only [tkS,Act.put]
         clear hK K;refine tkB 7 hH2 rfl ?_;try simp only [tkS,Act.put]
         refine tkB 8 hH2 rfl ?_;try simp only [tkS,Act.put]
         refine tkB 9 hH2 rfl ?_;try simp only [tkS,Act.put]
         refine rd1 11 rfl (fun K hK=>?_);have z0:=objcell hOA (j:=0) rfl;have f0:=objfrozen hOA (j:=0);have z1:=objcell hOA (j:=1) rfl;have f1:=objfrozen hOA (j:=1);have z2:=objcell hOA (j:=2) rfl;have f2:=objfrozen hOA (j:=2);have z3:=objcell hOA (j:=3) rfl;have f3:=objfrozen hOA (j:=3);have hlg:wd.heap.size < w5.heap.size:=cell_lt z0;go_simp;have hb6:Below wr.heap.size wr ((((w5.setCell ⟨wd.heap.size,0,none⟩ (.string l0)).setCell ⟨wd.heap.size,1,none⟩ (.string l1)).setCell ⟨wd.heap.size,2,none⟩ (.int .i64 l2)).setCell ⟨wd.heap.size,3,none⟩ (.string l3)):=((((hbb.setCell (by exact hge) _).setCell (by exact hge) _).setCell (by exact hge) _).setCell (by exact hge) _)
         go_wp2_with fail
         refine hK.out _ _ ?_ (fun hH3=>?_)
         ·exact hb6
         try simp only [tkS,Act.put]
         clear hK K;generalize ((((w5.setCell ⟨wd.heap.size,0,none⟩ (.string l0)).setCell ⟨wd.heap.size,1,none⟩ (.string l1)).setCell ⟨wd.heap.size,2,none⟩ (.int .i64 l2)).setCell ⟨wd.heap.size,3,none⟩ (.string l3))=w6 at *;exact zrrfy1
       case rest =>
        obtain ⟨rfl,hbc⟩:=hcut;obtain ⟨w6,hw2⟩:∃ w2,w2=wc:=⟨_,rfl⟩
        subst hw2;have HB6:=zh (hbr.out.trans (hbc.out.mono hbr.out.size));clear hbc;cases sm;case false =>
         have HT2:Hid (R=7):=HSM.out;clear HSM HT;go_wp2_with fail
         go_ret;exact ⟨by rw [HT2.out];rfl,HBQ.out.trans (HB6.out.mono HBQ.out.size)⟩
        case true =>
         have HK2:Hid ((yo.take (j+1)).any _=false):=HSM.out;clear HSM;go_wp2_with fail
         go_roundw
         case rel=>exact ⟨j+1,by omega,by go_num,HK2,HB6⟩
         case measure=>exact zm
    ·have hjz:¬ (j:Int) < (LO:Int):=by omega
     have HT2:Hid (R=0):=by
      show _=_;have h9:=HK.out;rw [List.take_of_length_le (by rw [HLO.out];omega)] at h9;rw [HT.out,h9];rfl
     clear HK HT;go_wp2_with fail
     go_ret;exact ⟨by rw [HT2.out];rfl,HBR.out⟩

def FewCO (y:Choice) (w:World) (e:Ending) (w':World):Prop:=∃ b,e=.returned (.bool b)∧(b=true→y.terms.length≤70∧∀ x∈y.terms,x.length≤65)∧Below w.heap.size w w'
theorem FewChoice_ref (w:World) (vy:Value) (y:Choice) (hy:Is w vy y):Calls Tryz.prog 21 #[vy] w fun e w'=>FewCO y w e w':=by
 obtain ⟨yt,yo⟩:=y;obtain ⟨at',ct,ao,co,rfl,lt,mt,rt,lo,mo,ro⟩:=Choice.inv hy;have hmo:yo.length≤9223372036854775807:=by simp only [maxLen] at mo;omega
 have HRO:=zh ro;have hba:Below w.heap.size w (w.alloc (.cells #[.slice at' yt.length ct,.slice ao yo.length co] 43)):=zb;have hcall:=FewA_ref (w.alloc (.cells #[.slice at' yt.length ct,.slice ao yo.length co] 43)) _ yt ((list_mk lt mt rt).mono hba);have HBA:=zh hba;clear hy lt mt rt lo mo ro hba;unfold FewO at hcall;generalize hLT:yt.length=LT at *;have HLT:=zh hLT;clear hLT;generalize hLO:yo.length=LO at *;have HLO:=zh hLO;clear hLO;go_enter Tryz.func21,Tryz.ntmps21;go_wp2_with fail
 refine hcall.mono ?_;rintro e w1 ⟨b,rfl,hb1,hf⟩;clear hcall;have e1:=kb w hb1 1 (.slice ao LO co);have hs1:w.heap.size < w1.heap.size:=cell_lt e1;have HB1:=zh (HBA.out.trans (hb1.mono (by simp)));have HF:=zh hf;clear hb1 HBA hf;cases b;case false =>
  clear e1;go_wp2;go_ret;exact ⟨false,rfl,(fun h=>by cases h),HB1.out⟩
 have HF2:=zh (HF.out rfl);clear HF;have E1:=zh e1;by_cases q:(20:Int) < (LO:Int)
 ·go_wp2_with fail
  go_ret;exact ⟨false,rfl,(fun h=>by cases h),HB1.out⟩
 go_wp2_with fail
 clear e1;go_loopw [3] (fun kv wr=>∃ k:Nat,k≤LO∧kv=.int .i64 k∧wr=w1) (fun kv _=>LO - (intOf kv).toNat)
 case atStart=>exact ⟨0,by omega,rfl,rfl⟩
 case round =>
  obtain ⟨k,hk,rfl,rfl⟩:=hrel;have e1:=E1.out;by_cases hki:k < LO
  ·have hkz:(k:Int) < (LO:Int):=by omega
   have hk0:(0:Int)≤(k:Int):=by omega
   obtain ⟨s,hx⟩:=get_lt (xs:=yo) (k:=k) (by rw [HLO.out];exact hki);obtain ⟨bx,ox,rfl,hbx,x0',hsz⟩:=str_at HRO.out hx;have x0:=kept HB1.out x0';have hzx:=cell_lt x0;clear hx x0' hbx;by_cases q2:(200:Int) < (s.size:Int)
   ·go_wp2_with fail
    go_ret;exact ⟨false,rfl,(fun h=>by cases h),HB1.out⟩
   ·go_wp2_with fail
    go_roundw
    case rel=>exact ⟨k+1,by omega,by go_num,by first | rfl | trivial⟩
    case measure=>exact zm
  ·have hkz:¬ (k:Int) < (LO:Int):=by omega
   go_wp2_with fail
   go_ret;exact ⟨true,rfl,fun _=>⟨by show yt.length≤70;rw [HLT.out];exact HF2.out.1,HF2.out.2⟩,HB1.out⟩
theorem SameChoice_ref (w:World) (va vb:Value) (y:Choice) (ha:Is w va y) (hb:Is w vb y):Calls Tryz.prog 26 #[va,vb] w fun e w'=>e=.returned (.bool true)∧Below w.heap.size w w':=by
 obtain ⟨yt,yo⟩:=y;obtain ⟨at',ct,ao,co,rfl,lt,mt,rt,lo,mo,ro⟩:=Choice.inv ha;obtain ⟨bt,dt,bo,do',rfl,lt2,mt2,rt2,lo2,mo2,ro2⟩:=Choice.inv hb;have hba:Below w.heap.size w ((w.alloc (.cells #[.slice at' yt.length ct,.slice ao yo.length co] 43)).alloc (.cells #[.slice bt yt.length dt,.slice bo yo.length do'] 43)):=bw;have hcall:=SameA_ref ((w.alloc (.cells #[.slice at' yt.length ct,.slice ao yo.length co] 43)).alloc (.cells #[.slice bt yt.length dt,.slice bo yo.length do'] 43)) _ _ yt yt ((list_mk lt mt rt).mono hba) ((list_mk lt2 mt2 rt2).mono hba);rw [decide_eq_true rfl] at hcall
 have HS:Hid (∀ W,Below w.heap.size w W→Calls Tryz.prog 17 #[.slice ao yo.length co,.slice bo yo.length do'] W fun e w'=>e=.returned (.bool true)∧Below W.heap.size W w'):=fun W hb=>by
  have h9:=SameTexts_ref W _ _ yo yo ((list_mk lo mo ro).mono hb) ((list_mk lo2 mo2 ro2).mono hb);rwa [decide_eq_true rfl] at h9
 have HBA:=zh hba;clear ha hb lt mt rt lo mo ro lt2 mt2 rt2 lo2 mo2 ro2 hba;generalize yt.length=LT at *;generalize yo.length=LO at *;go_enter Tryz.func26,Tryz.ntmps26;go_wp2_with fail
 refine hcall.mono ?_;rintro e w1 ⟨rfl,hb1⟩;clear hcall;have e1:=kb w hb1 1 (.slice ao LO co);have f1:=kb1 w hb1 1 (.slice bo LO do');have hs1:w.heap.size+1 < w1.heap.size:=cell_lt f1;have HB1:=zh (HBA.out.trans (hb1.mono (by simp;omega)));clear hb1 HBA;go_wp2_with fail
 refine (HS.out _ HB1.out).mono ?_;rintro e w2 ⟨rfl,hb2⟩;have HB2:=zh (HB1.out.trans (hb2.mono HB1.out.size));clear hb2;go_wp2_with fail
 go_ret;exact ⟨rfl,HB2.out⟩

theorem tkA {P:Program} {ops:Array Oper} {Q:Exit→Act→World→Prop} {md:Region.Mode} {S:World→Prop} {oi:Oper} {v:Value} {fuel:Nat} {listed:Array Bool} {a:Act} {w:World} (i:Nat) (hS:S w) (hi:ops[i]?=some oi) (hy:∀ w,S w→(execOp a.eval oi).run P w=.ok (.value v) w)
  (h:wpAnyH P md ops Q S fuel (listed.setIfInBounds i true) (a.put oi.dst v) w) (hs:Region.noSelect ops=true:=by kernel_rfl) (hf:Region.free md ops listed i=true:=by kernel_rfl) (hr:(Region.ready md ops listed).contains i=true:=by kernel_rfl) (hw:Region.wanted oi (yielded ops a.tmps)=true:=by kernel_rfl)
  (hQ:∀ c a w,Q (.panic c) (a.put oi.dst v) w→Q (.panic c) a w:=by exact fun _ _ _ h=>h):wpAnyH P md ops Q S (fuel+1) listed a w:=wpAnyH_take hi hs hf hr hQ (.inl ⟨hw,hy⟩) hS h
theorem mk_altsN (L:Nat) (hL:L≤2000000) (W:World):(Instr.makeSlice 41 (.int .i64 (L:Int)) (.int .i64 (L:Int))).run Tryz.prog W=.ok (.slice (some ⟨W.heap.size,0,none⟩) L L) (W.alloc (.cells (Array.replicate L (Value.slice none 0 0)) 59)):=by
 obtain ⟨i0,hi,hz0,hz1,hz2⟩:=info_parts altRow;have h:=run_make (P:=Tryz.prog) W 41 59 i0 _ Tryz.underlying41 hi hz0 .i64 .i64 L L (by omega) (Int.le_refl _) (by rw [hz2];omega) (by omega);rw [h,hz1];have e:madeCells #[Value.slice none 0 0] L=Array.replicate L (Value.slice none 0 0):=by
  apply Array.toList_inj.1;rw [toList_madeCells_one,Array.toList_replicate]
 show Result.ok (Value.slice (some ⟨W.heap.size,0,none⟩) (L:Int).toNat (L:Int).toNat) (W.alloc (.cells (madeCells #[Value.slice none 0 0] ((L:Int).toNat * 1)) 59))=_;rw [Int.toNat_natCast,Nat.mul_one,e]
theorem mk_strsN (L:Nat) (hL:L≤2000000) (W:World):(Instr.makeSlice 36 (.int .i64 (L:Int)) (.int .i64 (L:Int))).run Tryz.prog W=.ok (.slice (some ⟨W.heap.size,0,none⟩) L L) (W.alloc (.cells (Array.replicate L (Value.string ByteArray.empty)) 9)):=by
 obtain ⟨i0,hi,hz0,hz1,hz2⟩:=info_parts strRow;have h:=run_make (P:=Tryz.prog) W 36 9 i0 _ Tryz.underlying36 hi hz0 .i64 .i64 L L (by omega) (Int.le_refl _) (by rw [hz2];omega) (by omega);rw [h,hz1];have e:madeCells #[Value.string ByteArray.empty] L=Array.replicate L (Value.string ByteArray.empty):=by
  apply Array.toList_inj.1;rw [toList_madeCells_one,Array.toList_replicate]
 show Result.ok (Value.slice (some ⟨W.heap.size,0,none⟩) (L:Int).toNat (L:Int).toNat) (W.alloc (.cells (madeCells #[Value.string ByteArray.empty] ((L:Int).toNat * 1)) 9))=_;rw [Int.toNat_natCast,Nat.mul_one,e]
theorem fin16N {w0 W:World} {B gA gB gC LT LO:Nat} (h:Below B w0 W) (hC:B≤gC) (hd:gA≠gC∧gB≠gC∧gA≠gB) (hOA:W.heap[gA]?=some (.cells (Array.replicate LT (Value.slice none 0 0)) 59 (0,0))) (hOB:W.heap[gB]?=some (.cells (Array.replicate LO (Value.string ByteArray.empty)) 9 (0,0)))
  (hOC:W.heap[gC]?=some (.cells #[.slice none 0 0,.slice none 0 0] 43 (0,0))):(gA≠gC∧gB≠gC∧gA≠gB)∧Below B w0 ((W.setCell ⟨gC,0,none⟩ (.slice (some ⟨gA,0,none⟩) LT LT)).setCell ⟨gC,1,none⟩ (.slice (some ⟨gB,0,none⟩) LO LO)) ∧
  ((W.setCell ⟨gC,0,none⟩ (.slice (some ⟨gA,0,none⟩) LT LT)).setCell ⟨gC,1,none⟩ (.slice (some ⟨gB,0,none⟩) LO LO)).heap[gA]?=some (.cells (Array.replicate LT (Value.slice none 0 0)) 59 (0,0)) ∧
  ((W.setCell ⟨gC,0,none⟩ (.slice (some ⟨gA,0,none⟩) LT LT)).setCell ⟨gC,1,none⟩ (.slice (some ⟨gB,0,none⟩) LO LO)).heap[gB]?=some (.cells (Array.replicate LO (Value.string ByteArray.empty)) 9 (0,0)) ∧
  ((W.setCell ⟨gC,0,none⟩ (.slice (some ⟨gA,0,none⟩) LT LT)).setCell ⟨gC,1,none⟩ (.slice (some ⟨gB,0,none⟩) LO LO)).cell? ⟨gC,0,none⟩=some (.slice (some ⟨gA,0,none⟩) LT LT) ∧
  ((W.setCell ⟨gC,0,none⟩ (.slice (some ⟨gA,0,none⟩) LT LT)).setCell ⟨gC,1,none⟩ (.slice (some ⟨gB,0,none⟩) LO LO)).cell? ⟨gC,1,none⟩=some (.slice (some ⟨gB,0,none⟩) LO LO):=by
 have hC2:=setCell_obj (W.setCell ⟨gC,0,none⟩ (.slice (some ⟨gA,0,none⟩) LT LT)) gC 1 (.slice (some ⟨gB,0,none⟩) LO LO) (setCell_obj W gC 0 (.slice (some ⟨gA,0,none⟩) LT LT) hOC);exact ⟨hd,(h.setCell (by exact hC) _).setCell (by exact hC) _,by rw [blk_set_other _ _ _ _ hd.1,blk_set_other _ _ _ _ hd.1];exact hOA,by rw [blk_set_other _ _ _ _ hd.2.1,blk_set_other _ _ _ _ hd.2.1];exact hOB,objcell hC2 (j:=0) rfl,objcell hC2 (j:=1) rfl⟩
theorem digits_drop:∀ (l:List Nat) (n T:Nat),(digitsR l n).1.drop T=(digitsR (l.drop T) n).1
 | [],n,T=>by simp [digitsR]
 | r :: rs,n,0=>rfl
 | r :: rs,n,T+1=>by
  rw [List.drop_succ_cons,digitsR,List.drop_succ_cons];exact digits_drop rs n T
theorem digits_lenN:∀ (l:List Nat) (n:Nat),(digitsR l n).1.length=l.length
 | [],n=>by simp [digitsR]
 | r :: rs,n=>by rw [digitsR];simp [digits_lenN rs n]
theorem digits_stepN {RC:List Nat} {j r:Nat} (h:RC[j]?=some r) (n:Nat) :
  digitsR (RC.drop j) n=((digitsR (RC.drop (j+1)) n).2 % r :: (digitsR (RC.drop (j+1)) n).1,(digitsR (RC.drop (j+1)) n).2 / r):=by
 rw [drop_at h,digitsR]
theorem digits_leN:∀ (l:List Nat) (n:Nat),(digitsR l n).2≤n
 | [],n=>by simp [digitsR]
 | r :: rs,n=>by rw [digitsR];exact Nat.le_trans (Nat.div_le_self _ _) (digits_leN rs n)
theorem digits_getN:∀ (l:List Nat) (n j r:Nat),l[j]?=some r→(digitsR l n).1[j]?=some ((digitsR (l.drop (j+1)) n).2 % r)
 | [],n,j,r,h=>by simp at h
 | q :: rs,n,0,r,h=>by simp at h;subst h;simp [digitsR]
 | q :: rs,n,j+1,r,h=>by
  simp at h;rw [digitsR,List.getElem?_cons_succ,List.drop_succ_cons];exact digits_getN rs n j r h
def strV (c:Catalog) (RC:List Nat) (n T j:Nat):List Value:=List.replicate j (.string ByteArray.empty)++(choiceO c (digitsR (RC.drop (T+j)) n).1).map Value.string
theorem strV_zero (c:Catalog) (RC:List Nat) (n T j:Nat):(strV c RC n T (j+1)).toArray[j]?=some (.string ByteArray.empty):=by
 unfold strV;rw [List.getElem?_toArray,List.getElem?_append_left (by simp)];simp
theorem strV_set (c:Catalog) (RC:List Nat) (n T j r d:Nat) (s:ByteArray) (h:RC[T+j]?=some r) (hd:(digitsR (RC.drop (T+j+1)) n).2 % r=d) (hs:((c.licenses[d]?).map License.name).getD ByteArray.empty=s) :
  ((strV c RC n T (j+1)).toArray.setIfInBounds j (.string s))=(strV c RC n T j).toArray:=by
 unfold strV;apply Array.toList_inj.1;rw [digits_stepN h,hd];unfold choiceO;simp only [Array.toList_setIfInBounds,List.map_cons,hs];rw [List.replicate_succ',List.append_assoc,List.set_append_right _ _ (by simp)];simp [Nat.add_assoc]
theorem choiceT_get:∀ (ts:List (List (List Term))) (D:List Nat) (j:Nat) (t:List Term),(choiceT ts D)[j]?=some t→∃ l d,ts[j]?=some l∧D[j]?=some d∧t=(l[d]?).getD []
 | [],D,j,t,h=>by cases D <;> simp [choiceT] at h
 | l :: ls,[],j,t,h=>by simp [choiceT] at h
 | l :: ls,d :: ds,0,t,h=>by simp [choiceT] at h;exact ⟨l,d,rfl,rfl,h.symm⟩
 | l :: ls,d :: ds,j+1,t,h=>by
  simp [choiceT] at h;obtain ⟨l',d',h1,h2,h3⟩:=choiceT_get ls ds j t h;exact ⟨l',d',by simpa using h1,by simpa using h2,h3⟩
theorem choiceT_lenN:∀ (ts:List (List (List Term))) (D:List Nat),ts.length≤D.length→(choiceT ts D).length=ts.length
 | [],D,_=>by cases D <;> simp [choiceT]
 | t :: ts,[],h=>by simp at h
 | t :: ts,e :: D,h=>by simp [choiceT];exact choiceT_lenN ts D (by simpa using h)
theorem agree_set1 {w:World} {g j:Nat} {v:Value} {cs:Array Value} {e:TypeId} {fr:Nat×Nat} (h:w.heap[g]?=some (.cells cs e fr)):Agree 0 (·=e) w (w.setCell ⟨g,j,none⟩ v) :=
 ⟨by simp [World.setCell],fun k hk hn=>by
  by_cases q:k=g
  ·subst q;rcases hn with h0 | h0
   ·exact absurd h0 (Nat.not_lt_zero _)
   ·exact absurd ⟨cs,e,fr,rfl,h⟩ h0
  ·exact blk_set_other w _ v k q⟩
theorem elt_keep {B:Nat} {W:World} {v:Value} {ts:List (List (List Term))} {i:Nat} {l:List (List Term)} (h:OwnT B W v ts) (hl:ts[i]?=some l) :
  ∃ g cap ay cy,v=.slice (some ⟨g,0,none⟩) ts.length cap∧W.cell? ⟨g,i,none⟩=some (.slice ay l.length cy)∧∀ W',Agree 0 Ev W W'→Row W' ay l:=by
 obtain ⟨⟨ys,h1,⟨h2,h2'⟩,h3⟩,-⟩:=h;have hall:=OwnL.all (P:=fun z=>z.length=Lay.n (List (List Term))) h1 (fun i y x hy hx=>(h3 i y x hy hx).1);have hi:=lt_get hl;rcases h2' with ⟨rfl,h0⟩ | ⟨g,cap,cur,rfl,hg,hh,hn',hc,hsz,ht⟩
 ·omega
 ·obtain ⟨y,hy⟩:=get_lt (xs:=ys) (k:=i) (by omega);obtain ⟨hlen,hr⟩:=h3 i y l hy hl;obtain ⟨ay,cy,k1,k2,k3,k4⟩:=hr W (Agree.refl _ _ _);refine ⟨g,cap,ay,cy,rfl,?_,fun W' hA=>?_⟩
  ·simp only [World.cell?,hh];have e2:=flatten_get ys i 0 y hall hy (by decide);rw [← ht,List.getElem?_take,if_pos (by show i * 1+0 < ts.length * 1;omega)] at e2;have e3:y[0]?=some (.slice ay l.length cy):=k1;rw [e3] at e2;have e4:cur.toList[i * 1+0]?=some (.slice ay l.length cy):=e2;simpa using e4
  ·obtain ⟨ay',cy',m1,m2,m3,m4⟩:=hr W' hA;have e5:(some (Value.slice ay l.length cy):Option Value)=some (Value.slice ay' l.length cy'):=by rw [← k1,← m1]
   cases e5;exact m4
theorem cell_keep {W:World} {ay:Option Addr} {l:List (List Term)} {d:Nat} {y:List Term} (h:∀ W',Agree 0 Ev W W'→Row W' ay l) (hd:l[d]?=some y) :
  ∃ b off az cz,ay=some ⟨b,off,none⟩∧W.cell? ⟨b,off+d,none⟩=some (.slice az y.length cz)∧∀ W',Agree 0 (·=43) W W'→Is W' (.slice az y.length cz) y:=by
 obtain ⟨b,off,rfl,hb,az,cz,k1,k2,k3,k4⟩:=list_at (h W (Agree.refl _ _ _)) hd;refine ⟨b,off,az,cz,rfl,k1,fun W' hA=>?_⟩;have hA2:Agree 0 Ev W W':=hA.mono fun x hx=>by subst hx;unfold Ev;decide
 obtain ⟨b',off',e1,-,az',cz',m1,m2,m3,m4⟩:=list_at (h W' hA2) hd;cases e1;have hblk:W'.heap[b]?=W.heap[b]?:=by
  refine hA2.2 b hb (.inr ?_);rintro ⟨cs,e,fr,he,hh⟩;have hW0:Agree 0 Ev W { W with heap:=W.heap.setIfInBounds b (.cells #[] e fr) }:=by
   refine ⟨by simp,fun k hk hn=>?_⟩;by_cases q:k=b
   ·subst q;rcases hn with h0 | h0
    ·exact absurd h0 (Nat.not_lt_zero _)
    ·exact absurd ⟨cs,e,fr,he,hh⟩ h0
   ·show (W.heap.setIfInBounds b _)[k]?=_;rw [Array.getElem?_setIfInBounds_ne (fun h=>q h.symm)]
  obtain ⟨b'',off'',e2,-,az'',cz'',n1,-⟩:=list_at (h _ hW0) hd;cases e2;have n2:({ W with heap:=W.heap.setIfInBounds b (.cells #[] e fr) }:World).heap[b]?=some (.cells #[] e fr):=by
   show (W.heap.setIfInBounds b _)[b]?=_;rw [Array.getElem?_setIfInBounds_self_of_lt hb]
  simp [World.cell?,n2] at n1
 have e3:W'.cell? ⟨b,off+d,none⟩=W.cell? ⟨b,off+d,none⟩:=by simp only [World.cell?,hblk]
 rw [k1,m1] at e3;cases e3;exact list_mk m2 m3 m4
theorem terms_row {W:World} {gA T:Nat} {A:Array Value} {ts:List (List (List Term))} {D:List Nat} (hA:W.heap[gA]?=some (.cells A 59 (0,0))) (hT:ts.length=T) (hs:A.size=T) (hm:T≤maxLen) (hD:T≤D.length)
  (h:∀ (i:Nat) (l:List (List Term)) (d:Nat),ts[i]?=some l→D[i]?=some d→∃ v,A[i]?=some v∧Is W v ((l[d]?).getD [])):Is W (.slice (some ⟨gA,0,none⟩) T T) (choiceT ts D):=by
 have hlen:(choiceT ts D).length=T:=by rw [choiceT_lenN ts D (by omega),hT]
 have h1:Is W (.slice (some ⟨gA,0,none⟩) (choiceT ts D).length T) (choiceT ts D):=by
  refine list_mk (by omega) hm fun j t ht=>⟨gA,0,rfl,?_,?_⟩
  ·rcases Nat.lt_or_ge gA W.heap.size with h | h
   ·exact h
   ·rw [Array.getElem?_eq_none h] at hA;cases hA
  ·obtain ⟨l,d,k1,k2,rfl⟩:=choiceT_get ts D j t ht;obtain ⟨v,k3,k4⟩:=h j l d k1 k2;obtain ⟨a3,c3,rfl,m1,m2,m3⟩:=list_inv k4;exact ⟨a3,c3,objcell hA (by show _[0+(j * 1+0)]?=_;rw [Nat.mul_one,Nat.add_zero,Nat.zero_add];exact k3),m1,m2,m3⟩
 rw [hlen] at h1;exact h1
theorem own_row {W:World} {gB O T:Nat} {c:Catalog} {RC:List Nat} {n:Nat} (hB:W.heap[gB]?=some (.cells (strV c RC n T 0).toArray 9 (0,0))) (hO:RC.length=T+O) (hm:O≤maxLen) (hn:∀ l∈c.licenses,l.name.size≤maxLen):Is W (.slice (some ⟨gB,0,none⟩) O O) (choiceO c ((digitsR RC n).1.drop T)):=by
 have e:strV c RC n T 0=(choiceO c ((digitsR RC n).1.drop T)).map Value.string:=by
  unfold strV;rw [List.replicate_zero,List.nil_append,Nat.add_zero,digits_drop]
 rw [e] at hB;have hlen:(choiceO c ((digitsR RC n).1.drop T)).length=O:=by
  unfold choiceO;rw [List.length_map,List.length_drop,digits_lenN,hO];omega
 have hsm:∀ s∈choiceO c ((digitsR RC n).1.drop T),s.size≤maxLen:=by
  intro s hs;unfold choiceO at hs;obtain ⟨d,-,rfl⟩:=List.mem_map.1 hs;cases q:c.licenses[d]? with
  | none=>exact Nat.zero_le _
  | some l=>exact hn l (List.mem_of_getElem? q)
 generalize choiceO c ((digitsR RC n).1.drop T)=xs at *;subst hlen;refine list_mk (Nat.le_refl _) hm fun j t ht=>⟨gB,0,rfl,?_,?_⟩
 ·rcases Nat.lt_or_ge gB W.heap.size with h | h
  ·exact h
  ·rw [Array.getElem?_eq_none h] at hB;cases hB
 ·exact ⟨objcell hB (by show _[0+(j * 1+0)]?=_;rw [Nat.mul_one,Nat.add_zero,Nat.zero_add,List.getElem?_toArray,List.getElem?_map,ht];rfl),hsm t (List.mem_of_getElem? ht)⟩
theorem keep_blkN {ws:World} {g j b:Nat} {v:Value} {o:Obj} (hb:b≠g) (h:ws.heap[b]?=some o):(ws.setCell ⟨g,j,none⟩ v).drew.heap[b]?=some o:=by
 show (ws.setCell _ _).heap[b]?=_;rw [blk_set_other _ _ _ _ hb];exact h
theorem keep_cellN {ws:World} {g j:Nat} {v u:Value} {a:Addr} (hb:g≠a.block) (h:ws.cell? a=some u):(ws.setCell ⟨g,j,none⟩ v).drew.cell? a=some u:=by
 show (ws.setCell _ _).cell? _=_;rw [World.cell?_setCell_far _ _ _ _ hb];exact h
theorem zqrfy0 {p:Prop} (h:p:=by
 intro w hSw;(try dsimp only at hSw);go_simp;all_goals with_reducible rfl):p:=h
theorem nrN2 {p:Prop} (h:p:=by
 refine rd1 2 rfl (fun K hK=>?_);go_simp;have hbA:Below wq.heap.size wq (wd2.alloc (.cells (Array.replicate T (Value.slice none 0 0)) 59)):=hH2.alloc hH2.size _;have hOA:=World.alloc_heap_new wd2 (.cells (Array.replicate T (Value.slice none 0 0)) 59);have hgeA:wq.heap.size≤wd2.heap.size:=hH2.size;have hltA:wd2.heap.size < (wd2.alloc (.cells (Array.replicate T (Value.slice none 0 0)) 59)).heap.size:=by simp
 have hbq:Below wd2.heap.size wd2 (wd2.alloc (.cells (Array.replicate T (Value.slice none 0 0)) 59)):=zb;have hOB:=below_blk hbq hOB;have hOC:=below_blk hbq hOC;go_wp2_with fail
 refine hK.out _ _ ?_ (fun hH3=>?_)
 ·exact hbA
 try simp only [tkS,Act.put]
 clear hK K hbq;generalize (wd2.alloc (.cells (Array.replicate T (Value.slice none 0 0)) 59))=wd3 at *;generalize wd2.heap.size=gA at *;refine tkA (v:=?_) 6 hH3 rfl ?_ ?_;rotate_left
 ·exact zqrfy0
 try simp only [tkS,Act.put]
 have z0:=objcell hOC (j:=0) rfl;have z1:=objcell hOC (j:=1) rfl;have f0:=objfrozen hOC (j:=0);have f1:=objfrozen hOC (j:=1);have hlc:gC < wd3.heap.size:=cell_lt z0;refine rd1 8 rfl (fun K hK=>?_);go_simp;obtain ⟨hd,hb6,hA2,hB2,z0,z1⟩:=fin16N (LT:=T) (LO:=O) hH3 hgeC (by omega) hOA hOB hOC;go_wp2_with fail
 refine hK.out _ _ ?_ (fun hHz=>?_)
 ·exact hb6
 try simp only [tkS,Act.put]
 clear hK K;generalize ((wd3.setCell ⟨gC,0,none⟩ (.slice (some ⟨gA,0,none⟩) T T)).setCell ⟨gC,1,none⟩ (.slice (some ⟨gB,0,none⟩) O O))=w6 at *;refine wpAnyH_done (by kernel_rfl) ?_ _;go_wp2_with fail
 go_meet
 case rel=>exact ⟨gA,gB,gC,rfl,zh ⟨hgeA,hgeB,hgeC,hd⟩,zh hA2,zh hB2,zh z0,zh z1,zh hb6⟩):p:=h
theorem nrN5 {p:Prop} (h:p:=by
 refine rd1 5 rfl (fun K hK=>?_);go_simp;have hbB:Below wq.heap.size wq (wd2.alloc (.cells (Array.replicate O (Value.string ByteArray.empty)) 9)):=hH2.alloc hH2.size _;have hOB:=World.alloc_heap_new wd2 (.cells (Array.replicate O (Value.string ByteArray.empty)) 9);have hgeB:wq.heap.size≤wd2.heap.size:=hH2.size;have hltB:wd2.heap.size < (wd2.alloc (.cells (Array.replicate O (Value.string ByteArray.empty)) 9)).heap.size:=by simp
 have hbq:Below wd2.heap.size wd2 (wd2.alloc (.cells (Array.replicate O (Value.string ByteArray.empty)) 9)):=zb;have hOA:=below_blk hbq hOA;have hOC:=below_blk hbq hOC;go_wp2_with fail
 refine hK.out _ _ ?_ (fun hH3=>?_)
 ·exact hbB
 try simp only [tkS,Act.put]
 clear hK K hbq;generalize (wd2.alloc (.cells (Array.replicate O (Value.string ByteArray.empty)) 9))=wd3 at *;generalize wd2.heap.size=gB at *;refine tkA (v:=?_) 6 hH3 rfl ?_ ?_;rotate_left
 ·exact zqrfy0
 try simp only [tkS,Act.put]
 have z0:=objcell hOC (j:=0) rfl;have z1:=objcell hOC (j:=1) rfl;have f0:=objfrozen hOC (j:=0);have f1:=objfrozen hOC (j:=1);have hlc:gC < wd3.heap.size:=cell_lt z0;refine rd1 8 rfl (fun K hK=>?_);go_simp;obtain ⟨hd,hb6,hA2,hB2,z0,z1⟩:=fin16N (LT:=T) (LO:=O) hH3 hgeC (by omega) hOA hOB hOC;go_wp2_with fail
 refine hK.out _ _ ?_ (fun hHz=>?_)
 ·exact hb6
 try simp only [tkS,Act.put]
 clear hK K;generalize ((wd3.setCell ⟨gC,0,none⟩ (.slice (some ⟨gA,0,none⟩) T T)).setCell ⟨gC,1,none⟩ (.slice (some ⟨gB,0,none⟩) O O))=w6 at *;refine wpAnyH_done (by kernel_rfl) ?_ _;go_wp2_with fail
 go_meet
 case rel=>exact ⟨gA,gB,gC,rfl,zh ⟨hgeA,hgeB,hgeC,hd⟩,zh hA2,zh hB2,zh z0,zh z1,zh hb6⟩):p:=h
theorem nrN7 {p:Prop} (h:p:=by
 refine rd1 7 rfl (fun K hK=>?_);go_simp;have hbC:Below wq.heap.size wq (wd2.alloc (.cells #[.slice none 0 0,.slice none 0 0] 43)):=hH2.alloc hH2.size _;have hOC:=World.alloc_heap_new wd2 (.cells #[.slice none 0 0,.slice none 0 0] 43);have hgeC:wq.heap.size≤wd2.heap.size:=hH2.size;have hltC:wd2.heap.size < (wd2.alloc (.cells #[.slice none 0 0,.slice none 0 0] 43)).heap.size:=by simp
 have hbq:Below wd2.heap.size wd2 (wd2.alloc (.cells #[.slice none 0 0,.slice none 0 0] 43)):=zb;have hOA:=below_blk hbq hOA;have hOB:=below_blk hbq hOB;go_wp2_with fail
 refine hK.out _ _ ?_ (fun hH3=>?_)
 ·exact hbC
 try simp only [tkS,Act.put]
 clear hK K hbq;generalize (wd2.alloc (.cells #[.slice none 0 0,.slice none 0 0] 43))=wd3 at *;generalize wd2.heap.size=gC at *;have z0:=objcell hOC (j:=0) rfl;have z1:=objcell hOC (j:=1) rfl;have f0:=objfrozen hOC (j:=0);have f1:=objfrozen hOC (j:=1);have hlc:gC < wd3.heap.size:=cell_lt z0;refine rd1 8 rfl (fun K hK=>?_);go_simp;obtain ⟨hd,hb6,hA2,hB2,z0,z1⟩:=fin16N (LT:=T) (LO:=O) hH3 hgeC (by omega) hOA hOB hOC;go_wp2_with fail
 refine hK.out _ _ ?_ (fun hHz=>?_)
 ·exact hb6
 try simp only [tkS,Act.put]
 clear hK K;generalize ((wd3.setCell ⟨gC,0,none⟩ (.slice (some ⟨gA,0,none⟩) T T)).setCell ⟨gC,1,none⟩ (.slice (some ⟨gB,0,none⟩) O O))=w6 at *;refine wpAnyH_done (by kernel_rfl) ?_ _;go_wp2_with fail
 go_meet
 case rel=>exact ⟨gA,gB,gC,rfl,zh ⟨hgeA,hgeB,hgeC,hd⟩,zh hA2,zh hB2,zh z0,zh z1,zh hb6⟩):p:=h
theorem zrrfy0 {p:Prop} (h:p:=by
 obtain ⟨rfl,rfl⟩:=Prod.mk.inj HT.out;clear HF2 HT;go_wp2_with fail
 refine bodyPost_ret (v:=.tuple #[.agg #[.slice none 0 0,.slice none 0 0],.int .i64 3]) ?_ rfl ⟨_,rfl,HZ0.out _,HEND.out w1 _ _ HB1.out⟩;simp [results,Tryz.results23,go_sem,r0,r1,hz1]):p:=h
theorem zrrfy3 {p:Prop} (h:p:=by
 refine tkA (v:=?_) 6 hH2 rfl ?_ ?_;rotate_left
 ·exact zqrfy0
 try simp only [tkS,Act.put]
 exact nrN7):p:=h
theorem Nth_ref (w:World) (vc vx:Value) (c:Catalog) (x:List Fact) (n:Int) (hc:Is w vc c) (h:Is w vx x) (hfit:∀ f∈x,fitF f) (hsz:∀ f∈x,sizeE f.expr≤5000) (hlic:c.licenses.length≤1000000) :
  Calls Tryz.prog 23 #[vc,vx,.int .i64 n] w fun e w'=>∃ v,e=.returned (.tuple #[v,.int .i64 (nthC c x n).2])∧Is w' v (nthC c x n).1∧Below w.heap.size w w':=by
 have HF:Hid (nthC c x n=if (countC c x).2 == 0 then (if decide (n < 0) || decide ((countC c x).1≤n) then (⟨[],[]⟩,3) else (choiceC c (valuesC c x).1 (valuesC c x).2.1 n.toNat,0)) else (⟨[],[]⟩,(countC c x).2)):=rfl;have HKF:=zh (count_ok (c:=c) (x:=x));have HVF:=zh (values_fit (c:=c) hfit);have HRF:=zh (rad_fit (c:=c) hfit hlic);have HZ0:Hid (∀ W:World,Is W (.agg #[.slice none 0 0,.slice none 0 0]) (⟨[],[]⟩:Choice)):=fun W=>choice_mk (nil_mk W) (nil_mk W);obtain ⟨a0,c0,a1,c1,a2,c2,a3,c3,rfl,l0,m0,r0,-⟩:=Catalog.inv hc;obtain ⟨ax,nx,rfl,-⟩:=list_inv h;have HLR:=zh r0
 have HLN:Hid (∀ l∈c.licenses,l.name.size≤maxLen):=zh (fun l hl=>by
  obtain ⟨i,hi,rfl⟩:=List.mem_iff_getElem.1 hl;have hx:c.licenses[i]?=some c.licenses[i]:=by simp [hi]
  obtain ⟨bx,ox,e,hb,k0,k1,k2,k3,k4,-⟩:=License.at_row r0 hx;exact k4)
 have hba:Below w.heap.size w ((w.alloc (.cells #[.slice a0 c.licenses.length c0,.slice a1 c.exceptions.length c1,.slice a2 c.clauses.length c2,.slice a3 c.apart.length c3] 27)).alloc (.cells #[.slice none 0 0,.slice none 0 0] 43)):=bw;have hcall:=Count_ref _ _ _ c x (hc.mono hba) (h.mono hba) hfit hsz hlic;have HVA:Hid (∀ W,Below w.heap.size w W→Calls Tryz.prog 16 #[.agg #[.slice a0 c.licenses.length c0,.slice a1 c.exceptions.length c1,.slice a2 c.clauses.length c2,.slice a3 c.apart.length c3],.slice ax x.length nx] W fun e w'=>VO (valuesC c x) W e w') :=
  fun W hb=>Values_ref W _ _ c x (hc.mono hb) (h.mono hb) hfit hsz
 have HBA:=zh hba;have HRC:Hid (∀ j,j < (valuesC c x).2.1.length→(radC c (valuesC c x).1 (valuesC c x).2.1)[(valuesC c x).1.length+j]?=some c.licenses.length):=fun j hj=>radC_own hj;have HRT:Hid (∀ (j:Nat) (l:List (List Term)),(valuesC c x).1[j]?=some l→(radC c (valuesC c x).1 (valuesC c x).2.1)[j]?=some l.length):=fun j l hj=>radC_term hj;have HRL:=zh (radC_len c (valuesC c x).1 (valuesC c x).2.1);have HCH:Hid (∀ k,choiceC c (valuesC c x).1 (valuesC c x).2.1 k=⟨choiceT (valuesC c x).1 (digitsR (radC c (valuesC c x).1 (valuesC c x).2.1) k).1,choiceO c ((digitsR (radC c (valuesC c x).1 (valuesC c x).2.1) k).1.drop (valuesC c x).1.length)⟩):=fun k=>rfl;have HPO:=zh (total_pos (l:=radC c (valuesC c x).1 (valuesC c x).2.1));simp only [maxLen] at m0;have hN0m:c.licenses.length≤9223372036854775807:=by omega
 clear h hc hfit hsz hba l0 m0 r0;unfold VO at HVA;generalize totalR (radC c (valuesC c x).1 (valuesC c x).2.1)=tot at *;generalize radC c (valuesC c x).1 (valuesC c x).2.1=RC at *;generalize countC c x=K at *;obtain ⟨kn,ke⟩:=K;generalize valuesC c x=V at *;obtain ⟨ts,os,ve⟩:=V;simp only at hcall HF HKF HVA HRC HRT HRL HCH HVF;generalize nthC c x n=R at *;obtain ⟨R1,R2⟩:=R;generalize hN0:c.licenses.length=N0 at *;generalize c.exceptions.length=N1 at *;generalize c.clauses.length=N2 at *;generalize c.apart.length=N3 at *;have HN0:=zh hN0;clear hN0;go_enter Tryz.func23,Tryz.ntmps23;go_wp2_with fail
 refine hcall.mono ?_;rintro e w1 ⟨rfl,hb1⟩;clear hcall;have d0:=kb w hb1 0 (.slice a0 N0 c0);have d1:=kb w hb1 1 (.slice a1 N1 c1);have d2:=kb w hb1 2 (.slice a2 N2 c2);have d3:=kb w hb1 3 (.slice a3 N3 c3);have r0:=kb1 w hb1 0 (.slice none 0 0);have r1:=kb1 w hb1 1 (.slice none 0 0);have rf0:=keptF hb1 (a:=⟨w.heap.size+1,0,none⟩) (v:=.slice none 0 0) (by simp) (by simp);have rf1:=keptF hb1 (a:=⟨w.heap.size+1,1,none⟩) (v:=.slice none 0 0) (by simp) (by simp);have hz1:w.heap.size+1 < w1.heap.size:=cell_lt r0;have HB1:=zh (HBA.out.trans (hb1.mono (by simp;omega)));have HBX1:Hid (w1.heap[w.heap.size+1]?=some (.cells #[.slice none 0 0,.slice none 0 0] 43 (0,0))):=zh (below_blk hb1 (by have h9:=World.alloc_heap_new (w.alloc (.cells #[.slice a0 N0 c0,.slice a1 N1 c1,.slice a2 N2 c2,.slice a3 N3 c3] 27)) (.cells #[.slice none 0 0,.slice none 0 0] 43);rw [World.size_alloc] at h9;exact h9));have HEND:Hid (∀ (W:World) (u1 u2:Value),Below w.heap.size w W→Below w.heap.size w ((W.setCell ⟨w.heap.size+1,0,none⟩ u1).setCell ⟨w.heap.size+1,1,none⟩ u2)):=fun W u1 u2 hb =>
  Below.setCell (p:=⟨w.heap.size+1,1,none⟩) (Below.setCell (p:=⟨w.heap.size+1,0,none⟩) hb (show w.heap.size≤w.heap.size+1 by omega) _) (show w.heap.size≤w.heap.size+1 by omega) _
 clear hb1 HBA;cases q:(ke == 0);case false =>
  have q':(ke != 0)=true:=by rw [show (ke != 0)=!(ke == 0) from rfl,q];rfl
  have HT:Hid (((R1,R2):Choice×Int)=(⟨[],[]⟩,ke)):=by show _=_;rw [HF.out,q];rfl
  obtain ⟨rfl,rfl⟩:=Prod.mk.inj HT.out;clear q HF HKF HT;go_wp2_with fail
  refine bodyPost_ret (v:=.tuple #[.agg #[.slice none 0 0,.slice none 0 0],.int .i64 R2]) ?_ rfl ⟨_,rfl,HZ0.out _,HEND.out w1 _ _ HB1.out⟩;simp [results,Tryz.results23,go_sem,r0,r1,hz1]
 have q':(ke != 0)=false:=by rw [show (ke != 0)=!(ke == 0) from rfl,q];rfl
 obtain rfl:ke=0:=by simpa using q
 have HF2:Hid (((R1,R2):Choice×Int)=if decide (n < 0) || decide (kn≤n) then (⟨[],[]⟩,3) else (choiceC c ts os n.toNat,0)):=HF.out;obtain ⟨hve,htl,hkn⟩:=HKF.out rfl;subst hkn;clear HF HKF q;by_cases q1:n < 0
 ·have HT:Hid (((R1,R2):Choice×Int)=(⟨[],[]⟩,3)):=by show _=_;rw [HF2.out,decide_eq_true q1];rfl
  exact zrrfy0
 by_cases q2:(tot:Int)≤n
 ·have HT:Hid (((R1,R2):Choice×Int)=(⟨[],[]⟩,3)):=by show _=_;rw [HF2.out,decide_eq_true q2];simp
  exact zrrfy0
 obtain ⟨nn,rfl⟩:∃ k:Nat,n=(k:Int):=⟨n.toNat,by omega⟩
 have hnn:nn < 4096:=by omega
 have HT:Hid (((R1,R2):Choice×Int)=(⟨choiceT ts (digitsR RC nn).1,choiceO c ((digitsR RC nn).1.drop ts.length)⟩,0)):=by
  show _=_;rw [HF2.out,decide_eq_false (by omega),decide_eq_false (by omega),← HCH.out];rfl
 obtain ⟨rfl,rfl⟩:=Prod.mk.inj HT.out;have HPOS:=zh (HPO.out (by omega));clear HF2 HT HCH HPO;go_wp2_with fail
 refine (HVA.out _ HB1.out).mono ?_;rintro e wq ⟨v1,v2,rfl,ho1,ho2,hsm,hb2⟩;obtain ⟨b1,k1,rfl,hk1,hk1m,hr1⟩:=list_inv ho1.is;obtain ⟨b2,k2,rfl,-⟩:=list_inv (ho2.strs hsm);have HR1:=zh hr1;have HOT:=zh ho1;have HBOX:Hid (wq.heap[w.heap.size+1]?=some (.cells #[.slice none 0 0,.slice none 0 0] 43 (0,0))):=zh (below_blk hb2 HBX1.out);have R0:=zh (kept hb2 r0);have R1:=zh (kept hb2 r1);have RF0:=zh (keptF hb2 r0 rf0);have RF1:=zh (keptF hb2 r1 rf1);have D0:=zh (kept hb2 d0);have HBR:=zh (HB1.out.trans (hb2.mono HB1.out.size));have hzr:w.heap.size+1 < wq.heap.size:=Nat.lt_of_lt_of_le hz1 hb2.size;generalize hT:ts.length=T at *;generalize hO:os.length=O at *;have HT:=zh hT;have hT2:T≤2000000:=by have:=HVF.out.2.1;omega
 have hO2:O≤2000000:=by have:=HVF.out.2.2;omega
 have hmkA:=mk_altsN T hT2;have hmkB:=mk_strsN O hO2;clear hb2 ho1 ho2 hsm hr1 d0 d1 d2 d3 r0 r1 rf0 rf1 HB1 hz1 HVA HVF hT hO;go_upto_region 7 with (fail)
 go_cut [13] (fun v13 wx=>∃ gA gB gC:Nat,v13=.pointer (some ⟨gC,0,none⟩)∧Hid (wq.heap.size≤gA∧wq.heap.size≤gB∧wq.heap.size≤gC∧gA≠gC∧gB≠gC∧gA≠gB)∧Hid (wx.heap[gA]?=some (.cells (Array.replicate T (Value.slice none 0 0)) 59 (0,0)))∧Hid (wx.heap[gB]?=some (.cells (Array.replicate O (Value.string ByteArray.empty)) 9 (0,0)))∧Hid (wx.cell? ⟨gC,0,none⟩=some (.slice (some ⟨gA,0,none⟩) T T))∧Hid (wx.cell? ⟨gC,1,none⟩=some (.slice (some ⟨gB,0,none⟩) O O))∧Hid (Below wq.heap.size wq wx))
 case first =>
  refine wp_region_held_drew (S:=(fun w':World=>Below wq.heap.size wq w')) (by kernel_rfl) (by exact (Below.refl _ _).drew) (fun hH0=>?_);generalize wq.drew=wd0 at *;refine tkA (v:=?_) 0 hH0 rfl ?_ ?_;rotate_left
  ·exact zqrfy0
  try simp only [tkS,Act.put]
  refine tkA (v:=?_) 1 hH0 rfl ?_ ?_;rotate_left
  ·exact zqrfy0
  try simp only [tkS,Act.put]
  refine tkA (v:=?_) 3 hH0 rfl ?_ ?_;rotate_left
  ·exact zqrfy0
  try simp only [tkS,Act.put]
  refine tkA (v:=?_) 4 hH0 rfl ?_ ?_;rotate_left
  ·exact zqrfy0
  try simp only [tkS,Act.put]
  refine wpAnyH_ready (rs:=[2,5,7]) (by kernel_rfl) (by simp) ?_;refine AllReadyH.cons (o:=_) rfl (fun K hK=>?_) (AllReadyH.cons (o:=_) rfl (fun K hK=>?_) (AllReadyH.cons (o:=_) rfl (fun K hK=>?_) AllReadyH.nil))
  ·go_simp;have hbA:Below wq.heap.size wq (wd0.alloc (.cells (Array.replicate T (Value.slice none 0 0)) 59)):=hH0.alloc hH0.size _;have hOA:=World.alloc_heap_new wd0 (.cells (Array.replicate T (Value.slice none 0 0)) 59);have hgeA:wq.heap.size≤wd0.heap.size:=hH0.size;have hltA:wd0.heap.size < (wd0.alloc (.cells (Array.replicate T (Value.slice none 0 0)) 59)).heap.size:=by simp
   have hbq:Below wd0.heap.size wd0 (wd0.alloc (.cells (Array.replicate T (Value.slice none 0 0)) 59)):=zb;go_wp2_with fail
   refine hK.out _ _ ?_ (fun hH1=>?_)
   ·exact hbA
   try simp only [tkS,Act.put]
   clear hK K hbq;generalize (wd0.alloc (.cells (Array.replicate T (Value.slice none 0 0)) 59))=wd1 at *;generalize wd0.heap.size=gA at *;refine rd2 5 7 rfl rfl (fun K hK=>?_) (fun K hK=>?_)
   ·go_simp;have hbB:Below wq.heap.size wq (wd1.alloc (.cells (Array.replicate O (Value.string ByteArray.empty)) 9)):=hH1.alloc hH1.size _;have hOB:=World.alloc_heap_new wd1 (.cells (Array.replicate O (Value.string ByteArray.empty)) 9);have hgeB:wq.heap.size≤wd1.heap.size:=hH1.size;have hltB:wd1.heap.size < (wd1.alloc (.cells (Array.replicate O (Value.string ByteArray.empty)) 9)).heap.size:=by simp
    have hbq:Below wd1.heap.size wd1 (wd1.alloc (.cells (Array.replicate O (Value.string ByteArray.empty)) 9)):=zb;have hOA:=below_blk hbq hOA;go_wp2_with fail
    refine hK.out _ _ ?_ (fun hH2=>?_)
    ·exact hbB
    try simp only [tkS,Act.put]
    clear hK K hbq;generalize (wd1.alloc (.cells (Array.replicate O (Value.string ByteArray.empty)) 9))=wd2 at *;generalize wd1.heap.size=gB at *;exact zrrfy3
   ·go_simp;have hbC:Below wq.heap.size wq (wd1.alloc (.cells #[.slice none 0 0,.slice none 0 0] 43)):=hH1.alloc hH1.size _;have hOC:=World.alloc_heap_new wd1 (.cells #[.slice none 0 0,.slice none 0 0] 43);have hgeC:wq.heap.size≤wd1.heap.size:=hH1.size;have hltC:wd1.heap.size < (wd1.alloc (.cells #[.slice none 0 0,.slice none 0 0] 43)).heap.size:=by simp
    have hbq:Below wd1.heap.size wd1 (wd1.alloc (.cells #[.slice none 0 0,.slice none 0 0] 43)):=zb;have hOA:=below_blk hbq hOA;go_wp2_with fail
    refine hK.out _ _ ?_ (fun hH2=>?_)
    ·exact hbC
    try simp only [tkS,Act.put]
    clear hK K hbq;generalize (wd1.alloc (.cells #[.slice none 0 0,.slice none 0 0] 43))=wd2 at *;generalize wd1.heap.size=gC at *;exact nrN5
  ·go_simp;have hbB:Below wq.heap.size wq (wd0.alloc (.cells (Array.replicate O (Value.string ByteArray.empty)) 9)):=hH0.alloc hH0.size _;have hOB:=World.alloc_heap_new wd0 (.cells (Array.replicate O (Value.string ByteArray.empty)) 9);have hgeB:wq.heap.size≤wd0.heap.size:=hH0.size;have hltB:wd0.heap.size < (wd0.alloc (.cells (Array.replicate O (Value.string ByteArray.empty)) 9)).heap.size:=by simp
   have hbq:Below wd0.heap.size wd0 (wd0.alloc (.cells (Array.replicate O (Value.string ByteArray.empty)) 9)):=zb;go_wp2_with fail
   refine hK.out _ _ ?_ (fun hH1=>?_)
   ·exact hbB
   try simp only [tkS,Act.put]
   clear hK K hbq;generalize (wd0.alloc (.cells (Array.replicate O (Value.string ByteArray.empty)) 9))=wd1 at *;generalize wd0.heap.size=gB at *;refine rd2 2 7 rfl rfl (fun K hK=>?_) (fun K hK=>?_)
   ·go_simp;have hbA:Below wq.heap.size wq (wd1.alloc (.cells (Array.replicate T (Value.slice none 0 0)) 59)):=hH1.alloc hH1.size _;have hOA:=World.alloc_heap_new wd1 (.cells (Array.replicate T (Value.slice none 0 0)) 59);have hgeA:wq.heap.size≤wd1.heap.size:=hH1.size;have hltA:wd1.heap.size < (wd1.alloc (.cells (Array.replicate T (Value.slice none 0 0)) 59)).heap.size:=by simp
    have hbq:Below wd1.heap.size wd1 (wd1.alloc (.cells (Array.replicate T (Value.slice none 0 0)) 59)):=zb;have hOB:=below_blk hbq hOB;go_wp2_with fail
    refine hK.out _ _ ?_ (fun hH2=>?_)
    ·exact hbA
    try simp only [tkS,Act.put]
    clear hK K hbq;generalize (wd1.alloc (.cells (Array.replicate T (Value.slice none 0 0)) 59))=wd2 at *;generalize wd1.heap.size=gA at *;exact zrrfy3
   ·go_simp;have hbC:Below wq.heap.size wq (wd1.alloc (.cells #[.slice none 0 0,.slice none 0 0] 43)):=hH1.alloc hH1.size _;have hOC:=World.alloc_heap_new wd1 (.cells #[.slice none 0 0,.slice none 0 0] 43);have hgeC:wq.heap.size≤wd1.heap.size:=hH1.size;have hltC:wd1.heap.size < (wd1.alloc (.cells #[.slice none 0 0,.slice none 0 0] 43)).heap.size:=by simp
    have hbq:Below wd1.heap.size wd1 (wd1.alloc (.cells #[.slice none 0 0,.slice none 0 0] 43)):=zb;have hOB:=below_blk hbq hOB;go_wp2_with fail
    refine hK.out _ _ ?_ (fun hH2=>?_)
    ·exact hbC
    try simp only [tkS,Act.put]
    clear hK K hbq;generalize (wd1.alloc (.cells #[.slice none 0 0,.slice none 0 0] 43))=wd2 at *;generalize wd1.heap.size=gC at *;exact nrN2
  ·go_simp;have hbC:Below wq.heap.size wq (wd0.alloc (.cells #[.slice none 0 0,.slice none 0 0] 43)):=hH0.alloc hH0.size _;have hOC:=World.alloc_heap_new wd0 (.cells #[.slice none 0 0,.slice none 0 0] 43);have hgeC:wq.heap.size≤wd0.heap.size:=hH0.size;have hltC:wd0.heap.size < (wd0.alloc (.cells #[.slice none 0 0,.slice none 0 0] 43)).heap.size:=by simp
   have hbq:Below wd0.heap.size wd0 (wd0.alloc (.cells #[.slice none 0 0,.slice none 0 0] 43)):=zb;go_wp2_with fail
   refine hK.out _ _ ?_ (fun hH1=>?_)
   ·exact hbC
   try simp only [tkS,Act.put]
   clear hK K hbq;generalize (wd0.alloc (.cells #[.slice none 0 0,.slice none 0 0] 43))=wd1 at *;generalize wd0.heap.size=gC at *;refine rd2 2 5 rfl rfl (fun K hK=>?_) (fun K hK=>?_)
   ·go_simp;have hbA:Below wq.heap.size wq (wd1.alloc (.cells (Array.replicate T (Value.slice none 0 0)) 59)):=hH1.alloc hH1.size _;have hOA:=World.alloc_heap_new wd1 (.cells (Array.replicate T (Value.slice none 0 0)) 59);have hgeA:wq.heap.size≤wd1.heap.size:=hH1.size;have hltA:wd1.heap.size < (wd1.alloc (.cells (Array.replicate T (Value.slice none 0 0)) 59)).heap.size:=by simp
    have hbq:Below wd1.heap.size wd1 (wd1.alloc (.cells (Array.replicate T (Value.slice none 0 0)) 59)):=zb;have hOC:=below_blk hbq hOC;go_wp2_with fail
    refine hK.out _ _ ?_ (fun hH2=>?_)
    ·exact hbA
    try simp only [tkS,Act.put]
    clear hK K hbq;generalize (wd1.alloc (.cells (Array.replicate T (Value.slice none 0 0)) 59))=wd2 at *;generalize wd1.heap.size=gA at *;exact nrN5
   ·go_simp;have hbB:Below wq.heap.size wq (wd1.alloc (.cells (Array.replicate O (Value.string ByteArray.empty)) 9)):=hH1.alloc hH1.size _;have hOB:=World.alloc_heap_new wd1 (.cells (Array.replicate O (Value.string ByteArray.empty)) 9);have hgeB:wq.heap.size≤wd1.heap.size:=hH1.size;have hltB:wd1.heap.size < (wd1.alloc (.cells (Array.replicate O (Value.string ByteArray.empty)) 9)).heap.size:=by simp
    have hbq:Below wd1.heap.size wd1 (wd1.alloc (.cells (Array.replicate O (Value.string ByteArray.empty)) 9)):=zb;have hOC:=below_blk hbq hOC;go_wp2_with fail
    refine hK.out _ _ ?_ (fun hH2=>?_)
    ·exact hbB
    try simp only [tkS,Act.put]
    clear hK K hbq;generalize (wd1.alloc (.cells (Array.replicate O (Value.string ByteArray.empty)) 9))=wd2 at *;generalize wd1.heap.size=gB at *;exact nrN2
 case rest =>
  obtain ⟨gA,gB,gC,rfl,HG5,HA,HBB,HC0,HC1,HB5⟩:=hcut;obtain ⟨hgA,hgB,hgC,hAC,hBC,hAB⟩:=HG5.out;clear hmkA hmkB;have HRCN:Hid (RC.drop (T+O)=[]):=by show _=_;exact List.drop_eq_nil_of_le (by rw [HRL.out];exact Nat.le_refl _)
  have HSV:Hid ((Array.replicate O (Value.string ByteArray.empty))=(strV c RC nn T O).toArray):=by
   show _=_;unfold strV;rw [HRCN.out];apply Array.toList_inj.1;simp [digitsR,choiceO]
  rw [HSV.out] at HBB;go_wp2_with fail
  go_loopw [2,14] (fun nv kv wr=>∃ j:Nat,j≤O∧kv=.int .i64 ((j:Int) - 1)∧nv=.int .i64 ((digitsR (RC.drop (T+j)) nn).2:Int)∧Hid (wr.heap[gA]?=some (.cells (Array.replicate T (Value.slice none 0 0)) 59 (0,0)))∧Hid (wr.heap[gB]?=some (.cells (strV c RC nn T j).toArray 9 (0,0)))∧Hid (wr.cell? ⟨gC,0,none⟩=some (.slice (some ⟨gA,0,none⟩) T T))∧Hid (wr.cell? ⟨gC,1,none⟩=some (.slice (some ⟨gB,0,none⟩) O O))∧Hid (Below wq.heap.size wq wr)) (fun _ kv _=>((intOf kv)+1).toNat)
  case atStart=>exact ⟨O,by omega,rfl,by rw [HRCN.out];rfl,HA,HBB,HC0,HC1,HB5⟩
  case round =>
   obtain ⟨j1,hj1,rfl,rfl,HAs,HBs,HC0s,HC1s,HBw⟩:=hrel;have HBWs:=zh (HBR.out.trans (HBw.out.mono HBR.out.size));by_cases hji:0 < j1
   ·obtain ⟨j,rfl⟩:∃ j,j1=j+1:=⟨j1 - 1,by omega⟩
    have hjz:(0:Int)≤(j:Int):=by omega
    rw [show (((j+1:Nat):Int) - 1)=(j:Int) by omega];have hx:=HRC.out j (by omega);have hpos:=HPOS.out N0 (List.mem_of_getElem? hx);have hds:=zh (digits_stepN hx nn);have hmle:=digits_leN (RC.drop (T+j+1)) nn;rw [show T+(j+1)=T+j+1 by omega];obtain ⟨d,hd⟩:∃ d,d=(digitsR (RC.drop (T+j+1)) nn).2 % N0:=⟨_,rfl⟩
    have hdl:d < N0:=by rw [hd];exact Nat.mod_lt _ hpos
    obtain ⟨li,hli⟩:=get_lt (xs:=c.licenses) (k:=d) (by rw [HN0.out];exact hdl);have DV:=zh (strV_set c RC nn T j N0 d li.name hx hd.symm (by rw [hli];rfl));obtain ⟨bx,ox,rfl,hbx,x0',-⟩:=License.at_row HLR.out hli;have x0:=kept HBWs.out x0';generalize (digitsR (RC.drop (T+j+1)) nn).2=m at *;have hrem:(m:Int) % (N0:Int)=(d:Int):=by rw [hd];simp
    have hrem2:((m:Int)).tmod (N0:Int)=(d:Int):=by rw [hd];exact (Int.ofNat_tmod m N0).symm
    have hNz:¬ (N0:Int)=0:=by omega
    have hNzn:¬ N0=0:=by omega
    have hd0:(0:Int)≤(d:Int):=by omega
    have hdI:(d:Int) < (N0:Int):=by omega
    have hjO:(j:Int) < (O:Int):=by omega
    have HMM:Hid (wrap64 ((m:Int) / (N0:Int))=((m / N0:Nat):Int)):=by
     show _=_;have h1:m / N0≤m:=Nat.div_le_self _ _;rw [← Int.natCast_ediv];generalize m / N0=q at *;unfold wrap64;omega
    clear hx hli x0' hbx hd;have d0:=kept HBw.out D0.out;have z1:=HC1s.out;have hGd:wr.drew.heap[gB]?=some (.cells (strV c RC nn T (j+1)).toArray 9 (0,0)):=HBs.out;have p6:=objcell hGd (j:=j) (v:=.string ByteArray.empty) (strV_zero c RC nn T j);have f6:=objfrozen hGd (j:=j);have hs6:=cell_lt p6;have hzs:w.heap.size+1 < wr.heap.size:=Nat.lt_of_lt_of_le hzr HBw.out.size;have hzc:=cell_lt z1;have hzx:=cell_lt x0;have hwrap:IntKind.i64.wrap (m:Int)=(m:Int):=by rw [IntKind.wrap_i64];omega
    have hwrapd:IntKind.i64.wrap (d:Int)=(d:Int):=by rw [IntKind.wrap_i64];omega
    have hne1:gB≠w.heap.size:=by omega
    have hne2:w.heap.size≠gB:=by omega
    go_wp2_with fail
    refine still_tail 14 (by kernel_rfl) (by kernel_rfl) ?_;simp only [zt];repeat still_step
    refine wpStill_nil ?_;clear d0 x0 z1;have d0:=keep_cellN (j:=j) (v:=.string li.name) hne1 (kept HBw.out D0.out);have hb9:Below wq.heap.size wq (wr.setCell ⟨gB,j,none⟩ (.string li.name)).drew:=(HBw.out.setCell (by exact hgB) _).drew;have HA9:=zh (keep_blkN (j:=j) (v:=.string li.name) hAB HAs.out);have HB9:Hid ((wr.setCell ⟨gB,j,none⟩ (.string li.name)).drew.heap[gB]?=some (.cells (strV c RC nn T j).toArray 9 (0,0))):=by
     have h9:=setCell_obj wr gB j (.string li.name) HBs.out;rw [DV.out] at h9;exact h9
    have HC90:=zh (keep_cellN (j:=j) (v:=.string li.name) hBC HC0s.out);have HC91:=zh (keep_cellN (j:=j) (v:=.string li.name) hBC HC1s.out);have HW9:=zh hb9;have hs9:w.heap.size < (wr.setCell ⟨gB,j,none⟩ (.string li.name)).drew.heap.size:=cell_lt d0;clear hb9;go_wp2_with fail
    go_roundw
    case rel =>
     refine ⟨j,by omega,?_,?_,HA9,HB9,HC90,HC91,HW9⟩
     ·first | rfl | (congr 1;done) | (congr 1;unfold wrap64;omega)
     ·rw [hds.out];simp only [HMM.out]
    case measure=>simp [intOf]
   ·obtain rfl:j1=0:=by omega
    rw [show (((0:Nat):Int) - 1) = -1 from rfl,show T+0=T by omega];go_wp2_with fail
    obtain ⟨wv,hwv⟩:∃ W,W=wr:=⟨_,rfl⟩
    subst hwv;have HZ1:Hid (wv.heap[gA]?=some (.cells (Array.replicate T (Value.slice none 0 0)) 59 (0,0))):=HAs;go_loopw [2,15] (fun nv kv wr=>∃ (j:Nat) (A:Array Value),j≤T∧kv=.int .i64 ((j:Int) - 1)∧nv=.int .i64 ((digitsR (RC.drop j) nn).2:Int)∧Hid (wr.heap[gA]?=some (.cells A 59 (0,0)))∧Hid (A.size=T∧∀ i l d,j≤i→ts[i]?=some l→(digitsR RC nn).1[i]?=some d→∃ v,A[i]?=some v∧∀ W',Agree 0 (·=43) wq W'→Is W' v ((l[d]?).getD []))∧Hid (wr.heap[gB]?=some (.cells (strV c RC nn T 0).toArray 9 (0,0)))∧Hid (wr.cell? ⟨gC,0,none⟩=some (.slice (some ⟨gA,0,none⟩) T T))∧Hid (wr.cell? ⟨gC,1,none⟩=some (.slice (some ⟨gB,0,none⟩) O O))∧Hid (Below wq.heap.size wq wr)) (fun _ kv _=>((intOf kv)+1).toNat)
    case atStart=>exact ⟨T,_,by omega,rfl,rfl,HZ1,zh ⟨by simp,fun i l d hi hl _=>absurd (lt_get hl) (by rw [HT.out];omega)⟩,HBs,HC0s,HC1s,HBw⟩
    case round =>
     obtain ⟨j1,A,hj1,rfl,rfl,HAt,HAI,HBt,HC0t,HC1t,HBt2⟩:=hrel;have HBWt:=zh (HBR.out.trans (HBt2.out.mono HBR.out.size));by_cases hji:0 < j1
     ·obtain ⟨j,rfl⟩:∃ j,j1=j+1:=⟨j1 - 1,by omega⟩
      have hjz:(0:Int)≤(j:Int):=by omega
      have hjT:(j:Int) < (T:Int):=by omega
      rw [show (((j+1:Nat):Int) - 1)=(j:Int) by omega];obtain ⟨l,hl⟩:=get_lt (xs:=ts) (k:=j) (by rw [HT.out];omega);have hx:=HRT.out j l hl;have hpos:=HPOS.out l.length (List.mem_of_getElem? hx);have hfit2:=HRF.out l.length (List.mem_of_getElem? hx);have hds:=zh (digits_stepN hx nn);have hmle:=digits_leN (RC.drop (j+1)) nn;have hdg:=digits_getN RC nn j _ hx;obtain ⟨d,hd⟩:∃ d,d=(digitsR (RC.drop (j+1)) nn).2 % l.length:=⟨_,rfl⟩
      rw [← hd] at hdg;have hdl:d < l.length:=by rw [hd];exact Nat.mod_lt _ hpos
      obtain ⟨y,hy⟩:=get_lt (xs:=l) (k:=d) hdl;obtain ⟨g1,cap1,ay,cy,e1,hc1,hrow⟩:=elt_keep HOT.out hl;rw [HT.out] at e1;cases e1;obtain ⟨b5,off5,az,cz,rfl,hc5,hisv⟩:=cell_keep hrow hy;have HIV:=zh hisv;have X0:=zh hc1;have Y0:=zh hc5;have x0:=kept HBt2.out X0.out;have y0:=kept HBt2.out Y0.out;have hg1:g1 < wq.heap.size:=cell_lt hc1;have hb5:b5 < wq.heap.size:=cell_lt hc5;have HDG:=zh hdg;have HYD:=zh hy;have HL:=zh hl;clear hrow hisv hc1 hc5 hx hdg hy hl;generalize (digitsR (RC.drop (j+1)) nn).2=m at *;generalize hLL:l.length=LL at *;generalize hYL:y.length=YL at *;have hrem:(m:Int) % (LL:Int)=(d:Int):=by rw [hd];simp
      have hrem2:((m:Int)).tmod (LL:Int)=(d:Int):=by rw [hd];exact (Int.ofNat_tmod m LL).symm
      have hNz:¬ (LL:Int)=0:=by omega
      have hNzn:¬ LL=0:=by omega
      have hd0:(0:Int)≤(d:Int):=by omega
      have hdI:(d:Int) < (LL:Int):=by omega
      have HMM:Hid (wrap64 ((m:Int) / (LL:Int))=((m / LL:Nat):Int)):=by
       show _=_;have h1:m / LL≤m:=Nat.div_le_self _ _;rw [← Int.natCast_ediv];generalize m / LL=q at *;unfold wrap64;omega
      have hwrap:IntKind.i64.wrap (m:Int)=(m:Int):=by rw [IntKind.wrap_i64];omega
      have hwrapd:IntKind.i64.wrap (d:Int)=(d:Int):=by rw [IntKind.wrap_i64];omega
      clear hd;have z0:=HC0t.out;have hAj:j < A.size:=by rw [HAI.out.1];omega
      have hGd:wr.drew.heap[gA]?=some (.cells A 59 (0,0)):=HAt.out;have p6:=objcell hGd (j:=j) (v:=A[j]) (by simp [hAj]);have f6:=objfrozen hGd (j:=j);have hs6:=cell_lt p6;have hzs:w.heap.size+1 < wr.heap.size:=Nat.lt_of_lt_of_le hzr HBt2.out.size;have hzc:=cell_lt z0;have hzx:=cell_lt x0;have hzy:=cell_lt y0;generalize A[j]=va at *;go_wp2_with fail
      refine still_tail 17 (by kernel_rfl) (by kernel_rfl) ?_;simp only [zt];repeat still_step
      refine wpStill_nil ?_;clear x0 y0 z0;have x0:=keep_cellN (g:=gA) (j:=j) (v:=.slice az YL cz) (by show gA≠g1;omega) (kept HBt2.out X0.out);have hb9:Below wq.heap.size wq (wr.setCell ⟨gA,j,none⟩ (.slice az YL cz)).drew:=(HBt2.out.setCell (by exact hgA) _).drew;have HA9:Hid ((wr.setCell ⟨gA,j,none⟩ (.slice az YL cz)).drew.heap[gA]?=some (.cells (A.setIfInBounds j (.slice az YL cz)) 59 (0,0))):=setCell_obj wr gA j (.slice az YL cz) HAt.out;have HB9:=zh (keep_blkN (j:=j) (v:=.slice az YL cz) (Ne.symm hAB) HBt.out);have HC90:=zh (keep_cellN (j:=j) (v:=.slice az YL cz) hAC HC0t.out);have HC91:=zh (keep_cellN (j:=j) (v:=.slice az YL cz) hAC HC1t.out);have HAI9:Hid ((A.setIfInBounds j (.slice az YL cz)).size=T∧∀ i l d,j≤i→ts[i]?=some l→(digitsR RC nn).1[i]?=some d→∃ v,(A.setIfInBounds j (.slice az YL cz))[i]?=some v∧∀ W',Agree 0 (·=43) wq W'→Is W' v ((l[d]?).getD [])):=by
       refine ⟨by rw [Array.size_setIfInBounds];exact HAI.out.1,fun i l2 d2 hi hl2 hd2=>?_⟩;by_cases q:i=j
       ·subst q;rw [HL.out] at hl2;cases hl2;rw [HDG.out] at hd2;cases hd2;refine ⟨_,Array.getElem?_setIfInBounds_self_of_lt hAj,?_⟩;rw [HYD.out];exact HIV.out
       ·rw [Array.getElem?_setIfInBounds_ne (fun h=>q h.symm)];exact HAI.out.2 i l2 d2 (by omega) hl2 hd2
      have HW9:=zh hb9;have hs9:g1 < (wr.setCell ⟨gA,j,none⟩ (.slice az YL cz)).drew.heap.size:=cell_lt x0;clear hb9;go_wp2_with fail
      go_roundw
      case rel =>
       refine ⟨j,_,by omega,?_,?_,HA9,HAI9,HB9,HC90,HC91,HW9⟩
       ·first | rfl | (congr 1;done) | (congr 1;unfold wrap64;omega)
       ·rw [hds.out];simp only [HMM.out]
      case measure=>simp [intOf]
     ·obtain rfl:j1=0:=by omega
      rw [show (((0:Nat):Int) - 1) = -1 from rfl,List.drop_zero];have z0:=HC0t.out;have z1:=HC1t.out;have r0:=kept HBt2.out R0.out;have r1:=kept HBt2.out R1.out;have rf0:=keptF HBt2.out R0.out RF0.out;have rf1:=keptF HBt2.out R1.out RF1.out;have hzs:w.heap.size+1 < wr.heap.size:=cell_lt r0;have hzc:=cell_lt z0;have HX1:Hid (wr.heap[w.heap.size+1]?=some (.cells #[.slice none 0 0,.slice none 0 0] 43 (0,0))):=zh (below_blk HBt2.out HBOX.out);have HX2:=zh (setCell_obj wr (w.heap.size+1) 0 (.slice (some ⟨gA,0,none⟩) T T) HX1.out);have HAG:Hid (Agree 0 (·=43) wq ((wr.setCell ⟨w.heap.size+1,0,none⟩ (.slice (some ⟨gA,0,none⟩) T T)).setCell ⟨w.heap.size+1,1,none⟩ (.slice (some ⟨gB,0,none⟩) O O))) :=
       zh (((Agree.of_below HBt2.out).trans (agree_set1 HX1.out)).trans (agree_set1 HX2.out))
      have HA9:Hid (((wr.setCell ⟨w.heap.size+1,0,none⟩ (.slice (some ⟨gA,0,none⟩) T T)).setCell ⟨w.heap.size+1,1,none⟩ (.slice (some ⟨gB,0,none⟩) O O)).heap[gA]?=some (.cells A 59 (0,0))):=by
       show _=_;rw [blk_set_other _ _ _ _ (by show gA≠w.heap.size+1;omega),blk_set_other _ _ _ _ (by show gA≠w.heap.size+1;omega)];exact HAt.out
      have HB9:Hid (((wr.setCell ⟨w.heap.size+1,0,none⟩ (.slice (some ⟨gA,0,none⟩) T T)).setCell ⟨w.heap.size+1,1,none⟩ (.slice (some ⟨gB,0,none⟩) O O)).heap[gB]?=some (.cells (strV c RC nn T 0).toArray 9 (0,0))):=by
       show _=_;rw [blk_set_other _ _ _ _ (by show gB≠w.heap.size+1;omega),blk_set_other _ _ _ _ (by show gB≠w.heap.size+1;omega)];exact HBt.out
      have HIS:Hid (Is ((wr.setCell ⟨w.heap.size+1,0,none⟩ (.slice (some ⟨gA,0,none⟩) T T)).setCell ⟨w.heap.size+1,1,none⟩ (.slice (some ⟨gB,0,none⟩) O O)) (.agg #[.slice (some ⟨gA,0,none⟩) T T,.slice (some ⟨gB,0,none⟩) O O]) (⟨choiceT ts (digitsR RC nn).1,choiceO c ((digitsR RC nn).1.drop T)⟩:Choice)):=by
       refine zh (choice_mk (terms_row HA9.out HT.out HAI.out.1 (by simp only [maxLen];omega) (by rw [digits_lenN,HRL.out];omega) (fun i l d hl hd=>?_)) (own_row HB9.out (by rw [HRL.out]) (by simp only [maxLen];omega) ?_))
       ·obtain ⟨v,h1,h2⟩:=HAI.out.2 i l d (by omega) hl hd;exact ⟨v,h1,h2 _ HAG.out⟩
       ·exact HLN.out
      have HEN:=zh (HEND.out wr (.slice (some ⟨gA,0,none⟩) T T) (.slice (some ⟨gB,0,none⟩) O O) HBWt.out);clear HAG HX1 HX2 HA9 HB9 HAI HAt HBt HEND;go_wp2_with fail
      refine bodyPost_ret (v:=.tuple #[.agg #[.slice (some ⟨gA,0,none⟩) T T,.slice (some ⟨gB,0,none⟩) O O],.int .i64 0]) ?_ rfl ⟨_,rfl,by rw [HT.out];exact HIS.out,HEN.out⟩;simp [results,Tryz.results23,go_sem,r0,r1,hzs]
end Go.Proofs.YtcbopdbbcgdkcaaGreatDoor
