/- Lemmas. -/
import Derived.Test.YtcbopdbbcgdkcaaGreatDoorLDuD
set_option linter.all false
set_option maxRecDepth 100000
set_option maxHeartbeats 16000000
namespace Go.Proofs.YtcbopdbbcgdkcaaGreatDoor
open Go Go.RowKit Go.ChangeShapes
theorem IndexFuncLic (w:World) (v:Value) (xs:List (License)) (p:License→Bool) (g:Nat) (lb:Array Value) (eg:∀ args w,(callFunc g args).run Tryz.prog w=.ok (.enter g args) w) (hv:Is w v xs) (hp:PredL Tryz.prog g lb p w xs) :
  Calls Tryz.prog 77 #[v,.func (.func g) #[] lb] w fun e w'=>e=.returned (.int .i64 (idxP p xs))∧Below w.heap.size w w':=by
 obtain ⟨a,c,rfl,hnc,hcm,hr⟩:=list_inv hv;simp only [maxLen] at hcm;have HR:=zh hr;have HP:=zh hp;clear hr hv hp;generalize hN:xs.length=N at *;have HN:=zh hN;clear hN;go_enter Tryz.func77,Tryz.ntmps77;go_wp2;go_loopw [4,5,8] (fun _ _ kv wr=>∃ k:Nat,k≤N∧kv=.int .i64 k∧Hid (Below w.heap.size w wr)∧Hid ((xs.take k).any p=false)) (fun _ _ kv _=>N - (intOf kv).toNat)
 case atStart=>exact ⟨0,by omega,rfl,Below.refl _ _,rfl⟩
 case round =>
  obtain ⟨k,hk,rfl,HBR,HK⟩:=hrel;have hwr:w.heap.size≤wr.heap.size:=HBR.out.size;by_cases hki:k < N
  ·have hkz:(k:Int) < (N:Int):=by omega
   obtain ⟨x,hx⟩:=get_lt (xs:=xs) (k:=k) (by rw [HN.out];exact hki);obtain ⟨b,off,rfl,hb,y0',y1',y2',y3',s0,s1,s2,s3⟩:=License.at_row HR.out hx;have y0:=kept HBR.out y0';have y1:=kept HBR.out y1';have y2:=kept HBR.out y2';have y3:=kept HBR.out y3';have hbs:b < wr.heap.size:=cell_lt y0;have HX:=zh hx;have hcall:=HP.out k x hx wr _ HBR.out (License.mk' ⟨s0,s1,s2,s3⟩);clear y0' y1' y2' y3' hx;cases q:p x;case true =>
    have HQ:=zh q;rw [q] at hcall;clear q;go_wp2_with fail
    refine hcall.mono ?_;rintro e w2 ⟨rfl,hb2⟩;have HB3:=zh (HBR.out.trans (hb2.mono hwr));clear hb2 hcall;go_wp2;go_ret;exact ⟨ret_i (idxP_hit HX.out HQ.out HK.out).symm,HB3.out⟩
   case false =>
    have HQ:=zh q;rw [q] at hcall;clear q;go_wp2_with fail
    refine hcall.mono ?_;rintro e w2 ⟨rfl,hb2⟩;have HB3:=zh (HBR.out.trans (hb2.mono hwr));clear hb2 hcall;go_wp2;go_roundw
    case rel =>
     refine ⟨k+1,by omega,by go_num,HB3,?_⟩;show _=_;rw [any_snoc p HX.out,HK.out,HQ.out];rfl
    case measure=>exact zm
  ·have hkz:¬ (k:Int) < (N:Int):=by omega
   obtain rfl:k=N:=by omega
   have HM:Hid (xs.any p=false):=by
    have:=HK.out;rw [List.take_of_length_le (by rw [HN.out];exact Nat.le_refl _)] at this;exact this
   go_wp2;go_ret;exact ⟨ret_i (idxP_miss HM.out).symm,HBR.out⟩
theorem ContainsFuncLic (w:World) (v:Value) (xs:List (License)) (p:License→Bool) (g:Nat) (lb:Array Value) (eg:∀ args w,(callFunc g args).run Tryz.prog w=.ok (.enter g args) w) (hv:Is w v xs) (hp:PredL Tryz.prog g lb p w xs) :
  Calls Tryz.prog 67 #[v,.func (.func g) #[] lb] w fun e w'=>e=.returned (.bool (xs.any p))∧Below w.heap.size w w':=by
 have h1:=IndexFuncLic w v xs p g lb eg hv hp;have h2:=zh (idxP_any p xs);generalize idxP p xs=r at h1 h2;generalize xs.any p=bb at h2 ⊢;clear hv hp;go_enter Tryz.func67,Tryz.ntmps67;go_wp2_with fail
 refine h1.mono ?_;rintro e w2 ⟨rfl,hb2⟩;go_wp2;go_ret;exact ⟨ret_b h2.out,hb2⟩
open Go.Lib Go.Shelf

theorem CkCh1_p (W:World) (g:Nat) (av bv:Value) (a b:List Term) (hcell:W.cell? ⟨g,0,none⟩=some av) (ha:Is W av a) (hb:Is W bv b) :
  Calls Tryz.prog 65 (#[bv]++#[.pointer (some ⟨g,0,none⟩)]) W fun e w'=>e=.returned (.bool (decide (a=b)))∧Below W.heap.size W w':=by
 have hcall:=EqualTerm_p W av bv a b ha hb;obtain ⟨a1,c1,rfl,-⟩:=list_inv ha;obtain ⟨a2,c2,rfl,-⟩:=list_inv hb;have hs:=cell_lt hcell;clear ha hb;generalize decide (a=b)=p at *;go_enter Tryz.func65,Tryz.ntmps65;go_wp2_with fail
 refine hcall.mono ?_;rintro e w1 ⟨rfl,hb1⟩;clear hcall;go_wp2;go_ret;exact ⟨rfl,hb1⟩
theorem CkCh2_p (W:World) (g:Nat) (s:ByteArray) (l:License) (hcell:W.cell? ⟨g,0,none⟩=some (.string s)) :
  Calls Tryz.prog 68 (#[.agg #[.string l.name,.string l.family,.int .i64 l.version,.string l.text]]++#[.pointer (some ⟨g,0,none⟩)]) W fun e w'=>e=.returned (.bool (seq l.name s))∧Below W.heap.size W w':=by
 have hs:=cell_lt hcell;have HQ:Hid (seq l.name s=(l.name.toList == s.toList)):=rfl;go_enter Tryz.func68,Tryz.ntmps68;go_wp2;go_ret;exact ⟨by rw [HQ.out];rfl,bw⟩
theorem lic_inv {w:World} {v:Value} {l:License} (h:Is w v l):v=.agg #[.string l.name,.string l.family,.int .i64 l.version,.string l.text]:=(License.inv h).1
theorem termsOk_at {partly:Bool} {ts:List (List (List Term))} {ys:List (List Term)} {k:Nat} {l:List (List Term)} {a:List Term} (h1:ts[k]?=some l) (h2:ys[k]?=some a) :
  termsOk partly (ts.drop k) (ys.drop k)=((partly && a.isEmpty || l.contains a) && termsOk partly (ts.drop (k+1)) (ys.drop (k+1))):=by
 rw [drop_at h1,drop_at h2,termsOk]
theorem contains_any (l:List (List Term)) (a:List Term):l.contains a=l.any fun b=>decide (a=b):=by
 rw [Bool.eq_iff_iff];simp
theorem zrdue0 {p:Prop} (h:p:=by
 go_wp2_with fail
 refine hcall.mono ?_;rintro e w4 ⟨rfl,hb4⟩;clear hcall;have HB4:=zh (HBox.out.trans (hb4.mono HBox.out.size));clear hb4;go_wp2_with fail
 go_roundw
 case rel=>exact ⟨k+1,by omega,by go_num,HK2,HB4⟩
 case measure=>exact zm):p:=h
theorem zrdue1 {p:Prop} (h:p:=by
 go_wp2_with fail
 refine hcall.mono ?_;rintro e w4 ⟨rfl,hb4⟩;clear hcall;have HB4:=zh (HBox.out.trans (hb4.mono HBox.out.size));clear hb4;go_wp2_with fail
 go_roundw
 case rel=>exact ⟨j+1,by omega,by go_num,HK2,HB4⟩
 case measure=>exact zm):p:=h
theorem zrdue3 {p:Prop} (h:p:=by
 go_wp2_with fail
 refine hcall.mono ?_;rintro e w4 ⟨rfl,hb4⟩;clear hcall;go_wp2_with fail
 go_ret;exact ⟨by rw [HT2.out];rfl,HB1.out.trans ((HBox.out.trans (hb4.mono HBox.out.size)).mono HB1.out.size)⟩):p:=h
theorem zrdue4 {p:Prop} (h:p:=by
 go_wp2_with fail
 refine hcall.mono ?_;rintro e w4 ⟨rfl,hb4⟩;clear hcall;go_wp2_with fail
 go_ret;exact ⟨by rw [HT2.out];rfl,HBQ.out.trans ((HBox.out.trans (hb4.mono HBox.out.size)).mono HBQ.out.size)⟩):p:=h
theorem zrdue6 {p:Prop} (h:p:=by
 go_wp2_with fail
 go_ret;exact ⟨by rw [HT.out];rfl,HB1.out⟩):p:=h
theorem CheckChoice_p (w:World) (vc vx vy:Value) (c:Catalog) (x:List Fact) (y:Choice) (partly:Bool) (hg:Glob w) (hc:Is w vc c) (h:Is w vx x) (hy:Is w vy y) (hfit:∀ f∈x,fitF f) :
  Calls Tryz.prog 24 #[vc,vx,vy,.bool partly] w fun e w'=>e=.returned (.int .i64 (choiceE c x y partly))∧Below w.heap.size w w':=by
 have HF:Hid (choiceE c x y partly=if (valuesC c x).2.2 == 0 then
  (if decide (y.terms.length≠(valuesC c x).1.length) || decide (y.own.length≠(valuesC c x).2.1.length) then 9
   else if !termsOk partly (valuesC c x).1 y.terms then 1
   else if y.own.any fun s=>!(partly && emp s || c.licenses.any fun l=>seq l.name s) then 7 else 0)
 else (valuesC c x).2.2):=rfl
 obtain ⟨a0,c0,a1,c1,a2,c2,a3,c3,rfl,l0,m0,r0,-⟩:=Catalog.inv hc;obtain ⟨ax,nx,rfl,-⟩:=list_inv h;obtain ⟨yt,yo⟩:=y;obtain ⟨at',ct,ao,co,rfl,lt,mt,rt,lo,mo,ro⟩:=Choice.inv hy;have hmt:yt.length≤9223372036854775807:=by simp only [maxLen] at mt;omega
 have hmo:yo.length≤9223372036854775807:=by simp only [maxLen] at mo;omega
 have hml:c.licenses.length≤9223372036854775807:=by simp only [maxLen] at m0;omega
 have HRT:=zh rt;have HRO:=zh ro;have HLI:Hid (Is w (.slice a0 c.licenses.length c0) c.licenses):=zh (list_mk l0 m0 r0);simp only at HF;have hba:Below w.heap.size w ((w.alloc (.cells #[.slice a0 c.licenses.length c0,.slice a1 c.exceptions.length c1,.slice a2 c.clauses.length c2,.slice a3 c.apart.length c3] 27)).alloc (.cells #[.slice at' yt.length ct,.slice ao yo.length co] 43)):=bw;have hcall:=Values_p _ _ _ c x (hg.mono hba) (hc.mono hba) (h.mono hba) hfit;have HBA:=zh hba;clear h hc hg hfit hba hy lt mt rt lo mo ro l0 m0 r0;unfold VO at hcall;generalize valuesC c x=V at *;obtain ⟨ts,os,ve⟩:=V;simp only at hcall HF;generalize hLT:yt.length=LT at *;generalize hLO:yo.length=LO at *;have HLT:=zh hLT;have HLO:=zh hLO;clear hLT hLO;generalize c.exceptions.length=N1 at *;generalize c.clauses.length=N2 at *;generalize c.apart.length=N3 at *;generalize c.licenses.length=N0 at *;generalize choiceE c x ⟨yt,yo⟩ partly=R at *;go_enter Tryz.func24,Tryz.ntmps24;go_wp2_with fail
 refine hcall.mono ?_;rintro e w1 ⟨v1,v2,rfl,hi1,hi2,hi3,hb1⟩;clear hcall;have d0:=kb w hb1 0 (.slice a0 N0 c0);have e0:=kb1 w hb1 0 (.slice at' LT ct);have e1:=kb1 w hb1 1 (.slice ao LO co);have HB1:=zh (HBA.out.trans (hb1.mono (by simp;omega)));obtain ⟨bt,kt,hv1,hkt,hmkt,hrt⟩:=list_inv hi1.is;obtain ⟨bo,ko,hv2,-⟩:=hi2.shape;subst hv1;subst hv2;have HTR:=zh hrt;have hs1:w.heap.size+1 < w1.heap.size:=cell_lt e0;clear hb1 hi1 hi2 hi3 HBA hkt hmkt hrt;cases q:(ve == 0);case false =>
  have q':(ve != 0)=true:=by rw [show (ve != 0)=!(ve == 0) from rfl,q];rfl
  have HT:Hid (R=ve):=by show _=_;rw [HF.out,q];rfl
  clear q HF;exact zrdue6
 have q':(ve != 0)=false:=by rw [show (ve != 0)=!(ve == 0) from rfl,q];rfl
 have HF2:Hid (R=(if decide (LT≠ts.length) || decide (LO≠os.length) then 9
    else if !termsOk partly ts yt then 1
    else if yo.any fun s=>!(partly && emp s || c.licenses.any fun l=>seq l.name s) then 7 else 0)):=by show _=_;rw [HF.out,q];rfl
 clear q HF;by_cases q1:LT=ts.length
 case neg =>
  have HT:Hid (R=9):=by show _=_;rw [HF2.out,decide_eq_true q1];rfl
  have q2:¬ (LT:Int)=(ts.length:Int):=by omega
  clear HF2;exact zrdue6
 by_cases q2:LO=os.length
 case neg =>
  have HT:Hid (R=9):=by show _=_;rw [HF2.out,decide_eq_true q2];simp
  have q3:¬ (LO:Int)=(os.length:Int):=by omega
  have q4:(LT:Int)=(ts.length:Int):=by omega
  clear HF2;exact zrdue6
 have HF3:Hid (R=if !termsOk partly ts yt then 1 else if yo.any fun s=>!(partly && emp s || c.licenses.any fun l=>seq l.name s) then 7 else 0):=by
  show _=_;rw [HF2.out,if_neg];simp [q1,q2]
 have HTL:=zh q1;rw [← q1,← q2];clear HF2 q1 q2;have E0:=zh e0;have E1:=zh e1;have D0:=zh d0;go_wp2_with fail
 clear e0 e1 d0;go_loopw [43] (fun kv wr=>∃ k:Nat,k≤LT∧kv=.int .i64 k∧Hid (termsOk partly ts yt=termsOk partly (ts.drop k) (yt.drop k))∧Hid (Below w1.heap.size w1 wr)) (fun kv _=>LT - (intOf kv).toNat)
 case atStart=>exact ⟨0,by omega,rfl,rfl,zh (Below.refl _ _)⟩
 case round =>
  obtain ⟨k,hk,rfl,HK,hbr⟩:=hrel;have HBR:=zh (HB1.out.trans (hbr.out.mono HB1.out.size));by_cases hki:k < LT
  ·have hkz:(k:Int) < (LT:Int):=by omega
   have hk0:(0:Int)≤(k:Int):=by omega
   obtain ⟨a,hx⟩:=get_lt (xs:=yt) (k:=k) (by rw [HLT.out];exact hki);obtain ⟨l,hl⟩:=get_lt (xs:=ts) (k:=k) (by rw [← HTL.out];exact hki);obtain ⟨bx,ox,rfl,hbx,aa,ca,x0',hx1,hx2,hx3⟩:=list_at HRT.out hx;obtain ⟨by',oy,rfl,hby,ay,cy,y0',hy1,hy2,hy3⟩:=list_at HTR.out hl;have x0:=kept HBR.out x0';have y0:=kept hbr.out y0';have HST:=zh (termsOk_at (partly:=partly) hl hx);rw [contains_any] at HST;have hia:Is wr (.slice aa a.length ca) a:=(list_mk hx1 hx2 hx3).mono HBR.out;have hil:Is wr (.slice ay l.length cy) l:=(list_mk hy1 hy2 hy3).mono hbr.out;have hla:a.length≤9223372036854775807:=by simp only [maxLen] at hx2;omega
   clear hx hl x0' y0' hx1 hx2 hx3 hy1 hy2 hy3 hbx hby;have hba:Below wr.heap.size wr (wr.alloc (.cells #[.slice aa a.length ca] 59)):=zb;have hbox:(wr.alloc (.cells #[.slice aa a.length ca] 59)).cell? ⟨wr.heap.size,0,none⟩=some (.slice aa a.length ca):=by simp
   have hcall:=ContainsFuncAlt (wr.alloc (.cells #[.slice aa a.length ca] 59)) (.slice ay l.length cy) l (fun b=>decide (a=b)) 65 #[.pointer (some ⟨wr.heap.size,0,none⟩)] (enters_of Tryz.func65 (by kernel_rfl) rfl)
    (hil.mono hba) (fun i b _ W v hb hv=>CkCh1_p W wr.heap.size _ v a b (kept hb hbox) ((hia.mono hba).mono hb) hv)
   have HBA:=zh hba;have hsr:w1.heap.size≤wr.heap.size:=hbr.out.size;have hyr:=cell_lt y0;clear hba hbox hia hil;generalize (l.any fun b=>decide (a=b))=cb at *;have HBox:Hid (Below w1.heap.size w1 (wr.alloc (.cells #[.slice aa a.length ca] 59))):=zh (hbr.out.trans (HBA.out.mono hbr.out.size));have HEM:Hid (a.isEmpty=((a.length:Int) == 0)):=by show _=_;cases a <;> simp;omega
   generalize a.length=LA at *;cases hp:(partly && ((LA:Int) == 0));case true =>
    have HK2:Hid (termsOk partly ts yt=termsOk partly (ts.drop (k+1)) (yt.drop (k+1))):=by show _=_;rw [HK.out,HST.out,HEM.out,hp];rfl
    obtain ⟨rfl,he⟩:partly=true∧((LA:Int) == 0)=true:=by simpa using hp
    clear HST hcall hp HK;go_wp2_with fail
    go_roundw
    case rel=>exact ⟨k+1,by omega,by go_num,HK2,HBox⟩
    case measure=>exact zm
   case false =>
    have HST2:Hid (termsOk partly (ts.drop k) (yt.drop k)=(cb && termsOk partly (ts.drop (k+1)) (yt.drop (k+1)))):=by show _=_;rw [HST.out,HEM.out,hp];rfl
    have hpn:Hid (partly=false∨(partly=true∧((LA:Int) == 0)=false)):=by
     show _∨_;cases partly
     ·exact .inl rfl
     ·exact .inr ⟨rfl,by simpa using hp⟩
    clear HST hp;cases cb;case true =>
     have HK2:Hid (termsOk partly ts yt=termsOk partly (ts.drop (k+1)) (yt.drop (k+1))):=by show _=_;rw [HK.out,HST2.out];rfl
     clear HST2 HK;rcases hpn.out with hpf | ⟨hpt,he⟩
     ·subst hpf;exact zrdue0
     ·subst hpt;exact zrdue0
    case false =>
     have HT2:Hid (R=1):=by
      show _=_;rw [HF3.out,HK.out,HST2.out];rfl
     clear HST2 HK HF3;rcases hpn.out with hpf | ⟨hpt,he⟩
     ·subst hpf;exact zrdue3
     ·subst hpt;exact zrdue3
  ·have hkz:¬ (k:Int) < (LT:Int):=by omega
   have HT:Hid (R=if yo.any fun s=>!(partly && emp s || c.licenses.any fun l=>seq l.name s) then 7 else 0):=by
    show _=_;have h9:=HK.out;rw [List.drop_eq_nil_of_le (by rw [← HTL.out];omega),List.drop_eq_nil_of_le (by rw [HLT.out];omega)] at h9;rw [HF3.out,h9];rfl
   have e1:=kept hbr.out E1.out;have D0q:=zh (kept hbr.out D0.out);have HBQ:=HBR;have hsq:w.heap.size+1 < wr.heap.size:=cell_lt e1;clear HK HF3 HBR hbr;go_wp2_with fail
   clear e1;obtain ⟨wq,hwq⟩:∃ W,W=wr:=⟨_,rfl⟩
   subst hwq;go_loopw [65] (fun kv wr=>∃ j:Nat,j≤LO∧kv=.int .i64 j∧Hid ((yo.take j).any (fun s=>!(partly && emp s || c.licenses.any fun l=>seq l.name s))=false)∧Hid (Below wq.heap.size wq wr)) (fun kv _=>LO - (intOf kv).toNat)
   case atStart=>exact ⟨0,by omega,rfl,rfl,zh (Below.refl _ _)⟩
   case round =>
    obtain ⟨j,hj,rfl,HK,hbr⟩:=hrel;have HBR:=zh (HBQ.out.trans (hbr.out.mono HBQ.out.size));by_cases hji:j < LO
    ·have hjz:(j:Int) < (LO:Int):=by omega
     have hj0:(0:Int)≤(j:Int):=by omega
     obtain ⟨s,hx⟩:=get_lt (xs:=yo) (k:=j) (by rw [HLO.out];exact hji);obtain ⟨bx,ox,rfl,hbx,x0',-⟩:=str_at HRO.out hx;have x0:=kept HBR.out x0';have HS:=zh (any_none_at (p:=fun s=>!(partly && emp s || c.licenses.any fun l=>seq l.name s)) hx);have HM:=zh (any_hit_at (p:=fun s=>!(partly && emp s || c.licenses.any fun l=>seq l.name s)) hx);have d0:=kept hbr.out D0q.out;have hsr:w.heap.size < wr.heap.size:=cell_lt d0;clear hx x0' hbx;have hba:Below wr.heap.size wr (wr.alloc (.cells #[.string s] 9)):=zb;have hbox:(wr.alloc (.cells #[.string s] 9)).cell? ⟨wr.heap.size,0,none⟩=some (.string s):=by simp
     have hcall:=ContainsFuncLic (wr.alloc (.cells #[.string s] 9)) (.slice a0 N0 c0) c.licenses (fun l=>seq l.name s) 68 #[.pointer (some ⟨wr.heap.size,0,none⟩)] (enters_of Tryz.func68 (by kernel_rfl) rfl)
      ((HLI.out.mono HBR.out).mono hba) (fun i l _ W v hb hv=>by rw [lic_inv hv];exact CkCh2_p W wr.heap.size s l (kept hb hbox))
     have HBA:=zh hba;clear hba hbox;generalize (c.licenses.any fun l=>seq l.name s)=cb at *;have hes:emp s=s.toList.isEmpty:=rfl;have HBox:Hid (Below wq.heap.size wq (wr.alloc (.cells #[.string s] 9))):=zh (hbr.out.trans (HBA.out.mono hbr.out.size));rw [hes] at HS HM;cases hp:(partly && s.toList.isEmpty);case true =>
      have HK2:Hid ((yo.take (j+1)).any (fun s=>!(partly && emp s || c.licenses.any fun l=>seq l.name s))=false):=by show _=_;rw [HS.out,HK.out,hp];rfl
      obtain ⟨rfl,he⟩:partly=true∧s.toList.isEmpty=true:=by simpa using hp
      clear HS HM hcall hp HK hes;go_wp2_with fail
      go_roundw
      case rel=>exact ⟨j+1,by omega,by go_num,HK2,HBox⟩
      case measure=>exact zm
     case false =>
      rw [hp,Bool.false_or] at HS HM;have hpn:Hid (partly=false∨(partly=true∧s.toList.isEmpty=false)):=by
       show _∨_;cases partly
       ·exact .inl rfl
       ·exact .inr ⟨rfl,by simpa using hp⟩
      cases cb;case true =>
       have HK2:Hid ((yo.take (j+1)).any (fun s=>!(partly && emp s || c.licenses.any fun l=>seq l.name s))=false):=by show _=_;rw [HS.out,HK.out];rfl
       clear HS HM hp HK hes;rcases hpn.out with hpf | ⟨hpt,he⟩
       ·subst hpf;exact zrdue1
       ·subst hpt;exact zrdue1
      case false =>
       have HT2:Hid (R=7):=by
        show _=_;rw [HT.out,if_pos (HM.out rfl)]
       clear HS HM hp HK hes HT;rcases hpn.out with hpf | ⟨hpt,he⟩
       ·subst hpf;exact zrdue4
       ·subst hpt;exact zrdue4
    ·have hjz:¬ (j:Int) < (LO:Int):=by omega
     have HT2:Hid (R=0):=by
      show _=_;have h9:=HK.out;rw [List.take_of_length_le (by rw [HLO.out];omega)] at h9;rw [HT.out,h9];rfl
     clear HK HT;go_wp2_with fail
     go_ret;exact ⟨by rw [HT2.out];rfl,HBR.out⟩
attribute [local go_sem] Oper.semAt_some

def KvD (lo:Nat) (M:Nat→Prop) (W W':World):Prop:=Below lo W W'∧∀ k cs t fr,¬ M k→(k < lo∨t≠63)→W.heap[k]?=some (.cells cs t fr)→W'.heap[k]?=some (.cells cs t fr)
theorem KvD.refl (lo:Nat) (M:Nat→Prop) (W:World):KvD lo M W W:=⟨Below.refl _ _,fun _ _ _ _ _ _ h=>h⟩
theorem KvD.trans {lo:Nat} {M:Nat→Prop} {A B C:World} (h:KvD lo M A B) (k:KvD lo M B C):KvD lo M A C:=⟨h.1.trans k.1,fun i cs t fr hm hv hc=>k.2 i cs t fr hm hv (h.2 i cs t fr hm hv hc)⟩
theorem KvD.of_below {lo:Nat} {M:Nat→Prop} {W W':World} (hlo:lo≤W.heap.size) (h:Below W.heap.size W W'):KvD lo M W W':=⟨h.mono hlo,fun k cs t fr _ _ hc=>(Kv.of_below (M:=fun _=>False) h).2 k cs t fr (fun h=>h) hc⟩
theorem KvD.b {lo:Nat} {M:Nat→Prop} {n:Nat} (hlo:lo≤n) (W:World) (l:Nat) (o o':Obj) (hn:n≤l) (h:W.heap[l]?=some o) (hc:o.isCells=false) (hw:o.isWalk=false):KvD lo M W (W.putObj l o') :=
 ⟨(Below.refl lo W).grown (grownBy_putObj' W l o') (by have:=heap_lt h;omega) (fun k e=>by cases e;omega),fun k cs t fr _ _ hq=>(Kv.b (M:=fun _=>False) (n:=n) W l o o' hn h hc hw).2 k cs t fr (fun h=>h) hq⟩
theorem KvD.cell {lo:Nat} {M:Nat→Prop} {W W':World} (h:KvD lo M W W') {a:Addr} {v:Value} (hm:¬ M a.block) (hv:a.block < lo) (hc:W.cell? a=some v):W'.cell? a=some v:=by
 obtain ⟨cs,t,fr,e⟩:=cell_blk hc;have e2:=h.2 _ _ _ _ hm (Or.inl hv) e;unfold World.cell? at hc ⊢;rw [e] at hc;rw [e2];exact hc
theorem KvD.old {lo:Nat} {M:Nat→Prop} {w W W':World} (hlo:w.heap.size≤lo) (hM:∀ k,M k→w.heap.size≤k) (hb:∀ a v,w.cell? a=some v→W.cell? a=some v) (h:KvD lo M W W'):∀ a v,w.cell? a=some v→W'.cell? a=some v:=fun a v hc=>by
 have h1:=cell_lt hc;exact h.cell (fun hm=>by have:=hM _ hm;omega) (by omega) (hb a v hc)
abbrev I64:Type:={ i:Int // inI64 i }
abbrev AtF (w:World):Type:={ p:Value×Fact // Is w p.1 p.2 }
def pairsFT (x y:List Fact) (comp:ByteArray):List (Fact×Int):=(y.filter fun u=>u.kind == 0 && seq u.component comp).flatMap fun u=>(x.filter fun s=>s.kind == 2 && seq s.output u.output).map fun s=>(u,s.way)
def pairsTo (x:List Fact) (comp:ByteArray) (k:Nat):List (Fact×Int):=pairsFT x (x.take k) comp
def shipsTo (x:List Fact) (u:Fact) (j:Nat):List (Fact×Int):=((x.take j).filter fun s=>s.kind == 2 && seq s.output u.output).map fun s=>(u,s.way)
theorem pairsTo_hit {x:List Fact} {comp:ByteArray} {k:Nat} {u:Fact} (h:x[k]?=some u) (hq:(u.kind == 0 && seq u.component comp)=true):pairsTo x comp (k+1)=pairsTo x comp k++shipsTo x u x.length:=by
 unfold pairsTo pairsFT shipsTo;rw [take_at h,List.filter_append,List.flatMap_append,List.take_length];simp [List.filter_cons,hq]
theorem pairsTo_miss {x:List Fact} {comp:ByteArray} {k:Nat} {u:Fact} (h:x[k]?=some u) (hq:(u.kind == 0 && seq u.component comp)=false):pairsTo x comp (k+1)=pairsTo x comp k:=by
 unfold pairsTo pairsFT;rw [take_at h,List.filter_append,List.flatMap_append];simp [List.filter_cons,hq]
theorem pairsTo_all {x:List Fact} {comp:ByteArray} {k:Nat} (h:x.length≤k):pairsTo x comp k=pairsF x comp:=by
 unfold pairsTo pairsFT pairsF;rw [List.take_of_length_le h]
theorem shipsTo_hit {x:List Fact} {u s:Fact} {j:Nat} (h:x[j]?=some s) (hq:(s.kind == 2 && seq s.output u.output)=true):shipsTo x u (j+1)=shipsTo x u j++[(u,s.way)]:=by
 unfold shipsTo;rw [take_at h,List.filter_append,List.map_append];simp [List.filter_cons,hq]
theorem shipsTo_miss {x:List Fact} {u s:Fact} {j:Nat} (h:x[j]?=some s) (hq:(s.kind == 2 && seq s.output u.output)=false):shipsTo x u (j+1)=shipsTo x u j:=by
 unfold shipsTo;rw [take_at h,List.filter_append,List.map_append];simp [List.filter_cons,hq]
theorem shipsTo_all {x:List Fact} {u:Fact} {j:Nat} (h:x.length≤j):shipsTo x u j=shipsTo x u x.length:=by
 unfold shipsTo;rw [List.take_of_length_le h,List.take_length]
theorem zrdue2 {p:Prop} (h:p:=by
 have HPL2:Hid (pre.length≤(k+1) * N):=zh (Nat.le_trans HPL.out (Nat.mul_le_mul_right _ (by omega)));clear HHIT HMISS q0 HP HPL;gi_wp2
 go_roundw
 case rel=>exact ⟨k+1,pre,by omega,by go_num,HP2,HPL2,HJa,HKa⟩
 case measure=>exact zm):p:=h
theorem zrdue5 {p:Prop} (h:p:=by
 clear HHIT HMISS HP;gi_wp2
 refine ⟨(fun f h=>by cases h),?_⟩;gi_wp2
 go_roundw
 case rel=>exact ⟨j+1,pre,by omega,by go_num,HP2,Nat.le_succ_of_le HPL.out,HJa,HKa,HKba⟩
 case measure=>exact zm):p:=h
theorem pairs1_stops (n:Nat) (w W0:World) (gx gc:Nat) (M:Nat→Prop) (hM:∀ k,M k→w.heap.size≤k) (hgx:¬ M gx) (hgc:¬ M gc) (hMb:∀ k,M k→k < W0.heap.size) (hlo:w.heap.size≤W0.heap.size) (a:Option Addr) (c:Nat) (x:List Fact) (comp:ByteArray) (h:Is w (.slice a x.length c) x) (hb:∀ a v,w.cell? a=some v→W0.cell? a=some v)
  (hx:W0.heap[gx]?=some (.cells #[.slice a x.length c] 29 (0,0))) (hc:W0.heap[gc]?=some (.cells #[.string comp] 9 (0,0))) :
  SeqStopsK Fence.wide n Tryz.prog 185 #[.pointer (some ⟨gx,0,none⟩),.pointer (some ⟨gc,0,none⟩)] (fun z:AtF w×I64=>#[z.1.1.1,.int .i64 z.2.1]) (KvD w.heap.size M) (fun zs=>zs.map (fun z=>(z.1.1.2,z.2.1))=pairsF x comp) (fun _=>True) (x.length * x.length) W0:=by
 intro l J Jx W hW hJ _ hY h0;obtain ⟨a',c',he,hnc,hcm,hr⟩:=list_inv h;cases he;simp only [maxLen] at hcm;have HR:=zh hr;have HJ:=zh hJ;have HY:=zh hY;have H0:=zh h0;have HM:=zh hM;have HGX:=zh hgx;have HGC:=zh hgc;have HX:=zh (below_blk hW hx);have HC:=zh (below_blk hW hc);have HOLD:Hid (∀ a v,w.cell? a=some v→W.cell? a=some v):=zh (fun a v hv=>kept hW (hb a v hv));have hdd:∀ k:Nat,(Fence.wide.depth.isSome=true→1≤k):=fun k h=>by cases h
 have hz0:w.heap.size≤W.heap.size:=Nat.le_trans hlo hW.size;have HMB:Hid (∀ k,M k→k < W.heap.size):=zh (fun k hk=>Nat.lt_of_lt_of_le (hMb k hk) hW.size);clear hr hJ hY h0 hM hgx hgc h hb hx hc hMb hW hlo;generalize hN:x.length=N at *;have HN:=zh hN;clear hN;have x0:=objcell HX.out (j:=0) rfl;have hsx:=heap_lt HX.out;have hsc:=heap_lt HC.out;refine callsIn_of_wp Tryz.func185 rfl trivial ?_ rfl;simp only [Tryz.ntmps185,List.size_toArray,List.length_cons,List.length_nil,Nat.reduceAdd,Nat.reduceSub,Array.replicate_succ,Array.replicate_zero,List.push_toArray,List.append_toArray,List.nil_append,List.cons_append];gi_wp2
 clear x0;gi_loopw [10] (fun kv wr=>∃ (k:Nat) (pre:List (AtF w×I64)),k≤N∧kv=.int .i64 k∧Hid (pre.map (fun z=>(z.1.1.2,z.2.1))=pairsTo x comp k)∧Hid (pre.length≤k * N)∧Hid (J pre wr)∧Hid (KvD w.heap.size M W wr)) (fun kv _=>N - (intOf kv).toNat)
 case atStart=>exact ⟨0,[],by omega,rfl,zh (by unfold pairsTo pairsFT;simp),zh (Nat.zero_le _),H0,zh (KvD.refl _ _ _)⟩
 case round =>
  obtain ⟨k,pre,hk,rfl,HP,HPL,HJs,HK⟩:=hrel;have hzr:w.heap.size≤wr.heap.size:=Nat.le_trans hz0 HK.out.1.size;have HOr:=zh (KvD.old (Nat.le_refl _) HM.out HOLD.out HK.out);have HXr:=zh (HK.out.2 _ _ _ _ HGX.out (Or.inr (by decide)) HX.out);have HCr:=zh (HK.out.2 _ _ _ _ HGC.out (Or.inr (by decide)) HC.out);by_cases hki:k < N
  ·have hkz:(k:Int) < (N:Int):=by omega
   have hk0:(0:Int)≤(k:Int):=by omega
   obtain ⟨u,hu⟩:=get_lt (xs:=x) (k:=k) (by rw [HN.out];exact hki);obtain ⟨ki,co,ou,re,wa,du,ch,⟨ek,en,ex,eks⟩,li⟩:=u;obtain ⟨bx,ox,rfl,hbx,ae,ce,al,cl,u0',u1',u2',u3',u4',u5',u6',u7',u8',u9',u10',u11',hrest⟩:=Fact.at_row HR.out hu;have HUV:=zh (Fact.mk' (ch6:=ch) hrest);have u0:=HOr.out _ _ u0';have u1:=HOr.out _ _ u1';have u2:=HOr.out _ _ u2';have u3:=HOr.out _ _ u3';have u4:=HOr.out _ _ u4';have u5:=HOr.out _ _ u5';have u6:=HOr.out _ _ u6';have u7:=HOr.out _ _ u7';have u8:=HOr.out _ _ u8';have u9:=HOr.out _ _ u9';have u10:=HOr.out _ _ u10';have u11:=HOr.out _ _ u11';have hsu:=cell_lt u0;have c0:=objcell HCr.out (j:=0) rfl;have hsc2:=heap_lt HCr.out;have x0:=objcell HXr.out (j:=0) rfl;have hsx2:=heap_lt HXr.out;have HHIT:=zh (fun hq=>pairsTo_hit (comp:=comp) hu hq);have HMISS:=zh (fun hq=>pairsTo_miss (comp:=comp) hu hq);have hq0:seq co comp=(co.toList == comp.toList):=rfl;simp only [hq0] at HHIT HMISS;clear hu u0' u1' u2' u3' u4' u5' u6' u7' u8' u9' u10' u11' hrest hbx hq0;generalize eks.length=E at *;generalize li.length=LI at *;have hba:Below wr.heap.size wr (wr.alloc (.cells #[.int .i64 ki,.string co,.string ou,.int .i64 re,.int .i64 wa,.int .i64 du,.bool ch,.int .i64 ek,.string en,.string ex,.slice ae E ce,.slice al LI cl] 70)):=zb;have HKa:Hid (KvD w.heap.size M W (wr.alloc (.cells #[.int .i64 ki,.string co,.string ou,.int .i64 re,.int .i64 wa,.int .i64 du,.bool ch,.int .i64 ek,.string en,.string ex,.slice ae E ce,.slice al LI cl] 70))):=zh (HK.out.trans (KvD.of_below (by omega) hba));have HJa:Hid (J pre (wr.alloc (.cells #[.int .i64 ki,.string co,.string ou,.int .i64 re,.int .i64 wa,.int .i64 du,.bool ch,.int .i64 ek,.string en,.string ex,.slice ae E ce,.slice al LI cl] 70))):=zh (HJ.out pre wr _ none HJs.out (grown_below hba) (fun r e=>by cases e));clear hba;cases q0:(ki == 0);case false =>
    have q0':(ki != 0)=true:=by rw [show (ki != 0)=!(ki == 0) from rfl,q0];rfl
    have HP2:Hid (pre.map (fun z=>(z.1.1.2,z.2.1))=pairsTo x comp (k+1)):=by show _=_;rw [HMISS.out (by simp [q0]),HP.out]
    exact zrdue2
   have q0':(ki != 0)=false:=by rw [show (ki != 0)=!(ki == 0) from rfl,q0];rfl
   cases q1:(co.toList == comp.toList);case false =>
    have q1':(!(co.toList == comp.toList))=true:=by rw [q1];rfl
    have HP2:Hid (pre.map (fun z=>(z.1.1.2,z.2.1))=pairsTo x comp (k+1)):=by show _=_;rw [HMISS.out (by simp [q1]),HP.out]
    exact zrdue2
   have HH:=zh (HHIT.out (by simp [q0,q1]));clear HHIT HMISS q0;have HUB:Hid ((wr.alloc (.cells #[.int .i64 ki,.string co,.string ou,.int .i64 re,.int .i64 wa,.int .i64 du,.bool ch,.int .i64 ek,.string en,.string ex,.slice ae E ce,.slice al LI cl] 70)).heap[wr.heap.size]?=some (.cells #[.int .i64 ki,.string co,.string ou,.int .i64 re,.int .i64 wa,.int .i64 du,.bool ch,.int .i64 ek,.string en,.string ex,.slice ae E ce,.slice al LI cl] 70 (0,0))):=zh (World.alloc_heap_new wr _);have HMU:Hid (¬ M wr.heap.size):=zh (fun hm=>by have h1:=HMB.out _ hm;have h2:=HK.out.1.size;omega);gi_wp2
   clear c0 x0 u0 u1 u2 u3 u4 u5 u6 u7 u8 u9 u10 u11;obtain ⟨wq,hwq⟩:∃ W,W=wr:=⟨_,rfl⟩
   subst hwq;generalize hWb:(wq.alloc (.cells #[.int .i64 ki,.string co,.string ou,.int .i64 re,.int .i64 wa,.int .i64 du,.bool ch,.int .i64 ek,.string en,.string ex,.slice ae E ce,.slice al LI cl] 70))=Wb at *;have hwbz:wq.heap.size < Wb.heap.size:=heap_lt HUB.out;clear hWb;gi_loopw [25] (fun kv wr=>∃ (j:Nat) (pre:List (AtF w×I64)),j≤N∧kv=.int .i64 j∧Hid (pre.map (fun z=>(z.1.1.2,z.2.1))=pairsTo x comp k++shipsTo x (.mk ki co ou re wa du ch (.mk ek en ex eks) li) j)∧Hid (pre.length≤k * N+j)∧Hid (J pre wr)∧Hid (KvD w.heap.size M W wr)∧Hid (KvD w.heap.size M Wb wr)) (fun kv _=>N - (intOf kv).toNat)
   case atStart=>exact ⟨0,pre,by omega,rfl,zh (by rw [HP.out];simp [shipsTo]),zh (by have:=HPL.out;omega),HJa,HKa,zh (KvD.refl _ _ _)⟩
   case round =>
    clear HP HPL HJs HK HJa HKa HOr HXr HCr;obtain ⟨j,pre,hj,rfl,HP,HPL,HJs,HK,HKb⟩:=hrel;have hzr2:w.heap.size≤wr.heap.size:=Nat.le_trans hz0 HK.out.1.size;have HOr:=zh (KvD.old (Nat.le_refl _) HM.out HOLD.out HK.out);have HUr:=zh (HKb.out.2 _ _ _ _ HMU.out (Or.inr (by decide)) HUB.out);by_cases hji:j < N
    ·have hjz:(j:Int) < (N:Int):=by omega
     have hj0:(0:Int)≤(j:Int):=by omega
     obtain ⟨s,hs⟩:=get_lt (xs:=x) (k:=j) (by rw [HN.out];exact hji);obtain ⟨ki2,co2,ou2,re2,wa2,du2,ch2,⟨ek2,en2,ex2,eks2⟩,li2⟩:=s;obtain ⟨bx2,ox2,hbe,hbx2,ae2,ce2,al2,cl2,s0',s1',s2',s3',s4',s5',s6',s7',s8',s9',s10',s11',hrest2⟩:=Fact.at_row HR.out hs;cases hbe;have s0:=HOr.out _ _ s0';have s1:=HOr.out _ _ s1';have s2:=HOr.out _ _ s2';have s3:=HOr.out _ _ s3';have s4:=HOr.out _ _ s4';have s5:=HOr.out _ _ s5';have s6:=HOr.out _ _ s6';have s7:=HOr.out _ _ s7';have s8:=HOr.out _ _ s8';have s9:=HOr.out _ _ s9';have s10:=HOr.out _ _ s10';have s11:=HOr.out _ _ s11';have hsu:=cell_lt s0;have u0:=objcell HUr.out (j:=0) rfl;have u1:=objcell HUr.out (j:=1) rfl;have u2:=objcell HUr.out (j:=2) rfl;have u3:=objcell HUr.out (j:=3) rfl;have u4:=objcell HUr.out (j:=4) rfl;have u5:=objcell HUr.out (j:=5) rfl;have u6:=objcell HUr.out (j:=6) rfl;have u7:=objcell HUr.out (j:=7) rfl;have u8:=objcell HUr.out (j:=8) rfl;have u9:=objcell HUr.out (j:=9) rfl;have u10:=objcell HUr.out (j:=10) rfl;have u11:=objcell HUr.out (j:=11) rfl;have hsu2:=heap_lt HUr.out;have HHIT:=zh (fun hq=>shipsTo_hit (u:=.mk ki co ou re wa du ch (.mk ek en ex eks) li) hs hq);have HMISS:=zh (fun hq=>shipsTo_miss (u:=.mk ki co ou re wa du ch (.mk ek en ex eks) li) hs hq);have hq0:seq ou2 ou=(ou2.toList == ou.toList):=rfl;simp only [hq0] at HHIT HMISS;have HWA:=zh hrest2.2.2.2.2.1;clear hs s0' s1' s2' s3' s4' s5' s6' s7' s8' s9' s10' s11' hrest2 hbx2 hq0;generalize eks2.length=E2 at *;generalize li2.length=LI2 at *;have hba:Below wr.heap.size wr (wr.alloc (.cells #[.int .i64 ki2,.string co2,.string ou2,.int .i64 re2,.int .i64 wa2,.int .i64 du2,.bool ch2,.int .i64 ek2,.string en2,.string ex2,.slice ae2 E2 ce2,.slice al2 LI2 cl2] 70)):=zb;have HKa:Hid (KvD w.heap.size M W (wr.alloc (.cells #[.int .i64 ki2,.string co2,.string ou2,.int .i64 re2,.int .i64 wa2,.int .i64 du2,.bool ch2,.int .i64 ek2,.string en2,.string ex2,.slice ae2 E2 ce2,.slice al2 LI2 cl2] 70))):=zh (HK.out.trans (KvD.of_below (by omega) hba));have HKba:Hid (KvD w.heap.size M Wb (wr.alloc (.cells #[.int .i64 ki2,.string co2,.string ou2,.int .i64 re2,.int .i64 wa2,.int .i64 du2,.bool ch2,.int .i64 ek2,.string en2,.string ex2,.slice ae2 E2 ce2,.slice al2 LI2 cl2] 70))):=zh (HKb.out.trans (KvD.of_below (by omega) hba));have HJa:Hid (J pre (wr.alloc (.cells #[.int .i64 ki2,.string co2,.string ou2,.int .i64 re2,.int .i64 wa2,.int .i64 du2,.bool ch2,.int .i64 ek2,.string en2,.string ex2,.slice ae2 E2 ce2,.slice al2 LI2 cl2] 70))):=zh (HJ.out pre wr _ none HJs.out (grown_below hba) (fun r e=>by cases e));clear hba;cases q2:(ki2 == 2);case false =>
      have HP2:Hid (pre.map (fun z=>(z.1.1.2,z.2.1))=pairsTo x comp k++shipsTo x (.mk ki co ou re wa du ch (.mk ek en ex eks) li) (j+1)):=by show _=_;rw [HMISS.out (by simp [q2]),HP.out]
      exact zrdue5
     cases q3:(ou2.toList == ou.toList);case false =>
      have HP2:Hid (pre.map (fun z=>(z.1.1.2,z.2.1))=pairsTo x comp k++shipsTo x (.mk ki co ou re wa du ch (.mk ek en ex eks) li) (j+1)):=by show _=_;rw [HMISS.out (by simp [q3]),HP.out]
      exact zrdue5
     have HP2:Hid ((pre++[((⟨(_,_),HUV.out⟩:AtF w),(⟨wa2,HWA.out⟩:I64))]).map (fun z=>(z.1.1.2,z.2.1))=pairsTo x comp k++shipsTo x (.mk ki co ou re wa du ch (.mk ek en ex eks) li) (j+1)):=by
      show _=_;rw [HHIT.out (by simp [q2,q3]),List.map_append,HP.out,List.append_assoc];rfl
     have hlt:pre.length < N * N:=by
      have h1:=HPL.out;have h2:(k+1) * N≤N * N:=Nat.mul_le_mul_right _ (by omega);rw [Nat.succ_mul] at h2;omega
     have hy:=HY.out pre ((⟨(_,_),HUV.out⟩:AtF w),(⟨wa2,HWA.out⟩:I64)) _ HJa.out hlt;obtain ⟨fn,tmps,assign,body,hyy,hR⟩:=hy;clear HHIT HMISS HP hlt;gi_wp2_with ((try refine ⟨hdd _,?_⟩);refine hR.mono ?_;clear hR;rintro e w3 (⟨rfl,hJ2,hk3⟩ | ⟨rfl,hx3⟩))
     ·have HJ3:=zh hJ2;have HK3:Hid (KvD w.heap.size M W w3):=zh (HKa.out.trans hk3);have HKb3:Hid (KvD w.heap.size M Wb w3):=zh (HKba.out.trans hk3);clear hJ2 hk3;go_roundw
      case rel=>exact ⟨j+1,_,by omega,by go_num,HP2,zh (by rw [List.length_append];have:=HPL.out;simp;omega),HJ3,HK3,HKb3⟩
      case measure=>exact zm
     ·refine bodyPost_ret (results_none rfl _ _ _) rfl ?_;exact ⟨⟨_,rfl⟩,.inr ⟨_,trivial,hx3⟩⟩
    ·have hjz:¬ (j:Int) < (N:Int):=by omega
     have HP2:Hid (pre.map (fun z=>(z.1.1.2,z.2.1))=pairsTo x comp (k+1)):=by
      show _=_;rw [HP.out,HH.out,shipsTo_all (by rw [HN.out];omega)]
     have HPL2:Hid (pre.length≤(k+1) * N):=zh (by rw [Nat.succ_mul];have:=HPL.out;omega);clear HP HPL;gi_wp2
     go_roundw
     case rel=>exact ⟨k+1,pre,by omega,by go_num,HP2,HPL2,HJs,HK⟩
     case measure=>exact zm
  ·have hkz:¬ (k:Int) < (N:Int):=by omega
   gi_wp2
   go_end0
   refine ⟨⟨_,rfl⟩,.inl ⟨pre,?_,HJs.out⟩⟩;have h9:=HP.out;rw [pairsTo_all (by rw [HN.out];omega)] at h9;exact h9
end Go.Proofs.YtcbopdbbcgdkcaaGreatDoor
namespace Go.Proofs.YtcbopdbbcgdkcaaGreatDoor
open Go Go.RowKit
def SeqAllO {α:Type} (n:Nat) (P:Program) (g:Nat) (lb:Array Value) (encs:α→Array Value) (Kp:World→World→Prop) (S:List α→Prop) (N:Nat) (w:World):Prop :=
 ∀ (l:Nat) (J:List α→World→Prop) (W:World),Below w.heap.size w W→OwnFrom W.heap.size J →
  (∀ pre x W1,J pre W1→pre.length < N→YieldAt Fence.wide (n - 1) P l (encs x) W1 fun e W'=>e=.returned (.bool true)∧J (pre++[x]) W'∧Kp W1 W'∧KeepsFrom W.heap.size W1 W') →
  J [] W→CallsIn Fence.wide n P g (#[.func (.yield l) #[] #[]]++lb) W fun e W'=>(∃ v,e=.returned v)∧∃ xs,S xs∧J xs W'
theorem KeepsFrom.up {B B':Nat} {W W':World} (h:KeepsFrom B W W') (hB:B≤B'):KeepsFrom B' W W':=⟨h.size,fun k o hk h0 ho=>h.same k o (Nat.le_trans hB hk) h0 ho⟩
theorem KeepsFrom.put {B l:Nat} (W:World) (o:Obj) (hl:l < B):KeepsFrom B W (W.putObj l o):=⟨by simp,fun k o' hk h0 _=>by rw [World.putObj_heap_other (by omega)];exact h0⟩
def OnPostK {α:Type} (B:Nat) (Kp:World→World→Prop) (I:List α→World→Prop) (xs:List α) (W:World):Exit→Act→World→Prop
 | .normal,_,W'=>KeepsFrom B W W'∧Kp W W'∧I xs W'
 | _,_,_=>False
theorem wpIn_range_allO {α:Type} {P:Program} {n:Nat} {g:Operand} {ps:Array Tmp} {assign body:Code} {Q:Exit→Act→World→Prop} {a:Act} {w:World}
  (h1:1≤n) {gf:Nat} {lb:Array Value} (hg:a.eval g=.func (.func gf) #[] lb) (eg:∀ args w,(callFunc gf args).run P w=.ok (.enter gf args) w)
  {encs:α→Array Value} {Kp:World→World→Prop} {S:List α→Prop} {N:Nat} {w0:World} (hseq:SeqAllO (n - 1) P gf lb encs Kp S N w0)
  (hKt:∀ {A B C:World},Kp A B→Kp B C→Kp A C) (hKb:∀ (W:World) (l:Nat) (o o':Obj),w.heap.size≤l→W.heap[l]?=some o→o.isCells=false→o.isWalk=false→Kp W (W.putObj l o'))
  (hb0:Below w0.heap.size w0 w) (hps:∀ x,(encs x).size=ps.size)
  (I:List α→World→Prop) (hI:OwnFrom w.heap.size I) (h0:I [] w) (Ax:α→Act→World→Prop) (hAx:∀ x a',OwnFrom w.heap.size (fun (_:Unit) W=>Ax x a' W))
  (hassign:∀ (l:Nat) (pre:List α) (x:α) (W:World) (K:Act→World→Prop),I pre W→(∀ a' W',KeepsFrom w.heap.size W W'→Kp W W'→I pre W'→Ax x a' W'→K a' W') →
   assign.wpIn (Fence.wide.inRound l) (n - 1 - 1) P (Exit.then K (fun _ _ _=>False)) { tmps:=(ps.zip (encs x)).foldl (fun t (p,v)=>t.setIfInBounds p v) a.tmps,defers:=[] } W)
  (hbody:∀ (l:Nat) (pre:List α) (x:α) (a':Act) (W:World),I pre W→Ax x a' W→pre.length < N→body.wpIn (Fence.wide.inRound l) (n - 1 - 1) P (OnPostK w.heap.size Kp I (pre++[x]) W) a' W)
  (hdone:∀ (D:Nat) (xs:List α) (W:World),w.heap.size≤D→S xs→I xs W→W.heap[D]?=some (.deferred (some []))→Q .normal { a with defers:={ target:=.collected D,args:=#[] } :: a.defers } W) :
  (Code.rangeFunc g ps assign body).wpIn Fence.wide n P Q a w:=by
 refine wpIn_rangeFunc fun fn hfn=>?_;have hrd:Fence.wide.round=none:=rfl;rw [hrd];let rec':LoopState→Option Code→Loop:=fun st pe=>{ state:=st,pending:=pe,fn,tmps:=a.tmps,params:=ps,assign,body,defers:=w.heap.size }
 let L:=w.heap.size+1
 generalize hW1:(w.alloc (.deferred (some []))).alloc (.loop (rec' .ready none))=W1;have hgrow:Below w.heap.size w W1:=by rw [← hW1];exact ((Below.refl _ w).alloc (Nat.le_refl _) _).alloc (by simp) _
 have hrec:W1.heap[L]?=some (.loop (rec' .ready none)):=by
  rw [← hW1];have:=World.alloc_heap_new (w.alloc (.deferred (some []))) (.loop (rec' .ready none));rwa [World.size_alloc] at this
 have hdef:W1.heap[w.heap.size]?=some (.deferred (some [])):=by
  rw [← hW1];exact (Below.heap_alloc _ _ _ (by simp)).trans (World.alloc_heap_new w _)
 have hstart:I [] W1:=by
  rw [← hW1];exact hI.alloc _ (hI.alloc _ h0)
 have hL1:L < W1.heap.size:=(Array.getElem?_eq_some_iff.1 hrec).1;refine ⟨L,[{ target:=.collected w.heap.size,args:=#[] }],W1,{ target:=.fn (.func gf) lb,args:=#[.func (.yield L) #[] #[]] },W1,gf,#[.func (.yield L) #[] #[]]++lb,W1,?_,?_,?_,?_,fun _=>h1,?_⟩
 ·rw [← hW1];exact run_enterLoop_outer _ _ _ _ _
 ·simp only [resolve,hg];simp [go_sem,L]
 ·intro f' _;trivial
 ·simp [invoke,go_sem,eg,L]
 let J:List α→World→Prop:=fun pre W=>I pre W∧W.heap[L]?=some (.loop (rec' .ready none))∧W.heap[w.heap.size]?=some (.deferred (some []))
 have hJ:OwnFrom W1.heap.size J:=fun s A B row hs hgr hr=>by
  have stays:∀ {k:Nat} {o:Obj},k < W1.heap.size→A.heap[k]?=some o→B.heap[k]?=some o:=fun {k o} hk ha =>
   (hgr.block k (Array.getElem?_eq_some_iff.1 ha).1 fun e=>by have:=(hr k e.symm).1;omega).trans ha
  refine ⟨hI s A B row hs.1 hgr fun r e=>?_,stays hL1 hs.2.1,stays (by omega) hs.2.2⟩;obtain ⟨hB,o,ho,hw⟩:=hr r e;exact ⟨Nat.le_trans hgrow.size hB,o,ho,hw⟩
 refine (hseq L J W1 (hb0.trans (hgrow.mono hb0.size)) hJ ?_ ⟨hstart,hrec,hdef⟩).mono ?_
 ·rintro pre x W ⟨hi,hl,hk⟩ hlen;refine ⟨fn,_,assign,body,run_yield (P:=P) (args:=encs x) hl (hps x),roundIn_of_wpIn hfn (hassign _ pre x W _ hi fun a' Wa hka hpa hia haa=>?_)⟩;have hla:=hka.same _ _ (by simp [L]) hl rfl;have hda:=hka.same _ _ (Nat.le_refl _) hk rfl;have hlt:L < Wa.heap.size:=(Array.getElem?_eq_some_iff.1 hla).1;refine ⟨_,run_beginRound hla rfl,?_⟩;generalize hWb:Wa.putObj L (.loop { rec' .ready none with state:=.busy })=Wb;have hbz:Wb.heap[L]?=some (.loop { rec' .ready none with state:=.busy }):=by rw [← hWb];exact World.putObj_heap_same hlt
  have hbk:Wb.heap[w.heap.size]?=some (.deferred (some [])):=by rw [← hWb];exact (World.putObj_heap_other (by simp [L])).trans hda
  have hib:I pre Wb:=by rw [← hWb];exact hI.putObj _ hia (by simp [L]) hla rfl
  have hab:Ax x a' Wb:=by rw [← hWb];exact (hAx x a').putObj (s:=()) _ haa (by simp [L]) hla rfl
  have hkb:KeepsFrom W1.heap.size W Wb:=by rw [← hWb];exact (KeepsFrom.up hka hgrow.size).trans (KeepsFrom.put _ _ hL1)
  have hpb:Kp W Wb:=by rw [← hWb];exact hKt hpa (hKb _ _ _ _ (by simp [L]) hla rfl rfl)
  refine wpIn_mono (hbody _ pre x a' _ hib hab hlen) ?_;rintro e a3 W3 hp;cases e with
  | normal =>
   obtain ⟨hk3,hb3,hi3⟩:=hp;have hl3:=hk3.same _ _ (by simp [L]) hbz rfl;have hd3:=hk3.same _ _ (Nat.le_refl _) hbk rfl;have hend:=run_endRound (P:=P) none hl3;refine ⟨_,_,hend,rfl,⟨hI.putObj _ hi3 (by simp [L]) hl3 rfl,World.putObj_heap_same (Array.getElem?_eq_some_iff.1 hl3).1,(World.putObj_heap_other (by simp [L])).trans hd3⟩,?_⟩;exact ⟨hKt (hKt hpb hb3) (hKb _ _ _ _ (by simp [L]) hl3 rfl rfl),(hkb.trans (KeepsFrom.up hk3 hgrow.size)).trans (KeepsFrom.put _ _ hL1)⟩
  | _=>exact hp.elim
 ·rintro e W2 ⟨⟨v,rfl⟩,xs,hS,hi,hl,hk⟩;exact ⟨none,_,run_endLoop (P:=P) hl (by simp [rec']),hdone _ xs _ (Nat.le_refl _) hS (hI.putObj _ hi (by simp [L]) hl rfl) ((World.putObj_heap_other (by simp [L])).trans hk)⟩
open Go.ChangeShapes Go.Lib Go.Shelf
attribute [local go_sem] Oper.semAt_some

def cntF (fs:List Fact):Nat:=(fs.filter fun f=>f.kind == 1).length
theorem cntF_cons (f:Fact) (r:List Fact):cntF (f :: r)=cntF r+if f.kind == 1 then 1 else 0:=by
 unfold cntF;rw [List.filter_cons];split <;> simp
theorem cntF_snoc (f:Fact) (r:List Fact):cntF (r++[f])=cntF r+if f.kind == 1 then 1 else 0:=by
 unfold cntF;rw [List.filter_append,List.length_append,List.filter_cons];split <;> simp
theorem duesF_snoc (c:Catalog) (x:List Fact):∀ (fs:List Fact) (ts:List (List Term)) (f:Fact),duesF c x (fs++[f]) ts=duesF c x fs ts++(if f.kind == 1 then duePart c x f ((ts.drop (cntF fs)).headD []) else [])
 | [],ts,f=>by
  simp only [List.nil_append,duesF];by_cases q:(f.kind == 1)=true
  ·rw [if_pos q,if_pos q,List.append_nil];rfl
  ·rw [if_neg q,if_neg q]
 | a :: r,ts,f=>by
  rw [List.cons_append,duesF,duesF,cntF_cons];by_cases q:(a.kind == 1)=true
  ·rw [if_pos q,if_pos q,if_pos q,duesF_snoc c x r ts.tail f,List.append_assoc];rw [show ts.drop (cntF r+1)=ts.tail.drop (cntF r) by cases ts <;> simp]
  ·rw [if_neg q,if_neg q,if_neg q,duesF_snoc c x r ts f];rfl
def dueQ (comp:ByteArray) (u:Fact) (way:Int) (t:Term) (l:List Clause):List Due:=(l.filter fun k=>!(k.duty == 2) || u.changed).map fun k=>⟨u.output,comp,t,way,u.relation,k.duty⟩
theorem dueQ_all (c:Catalog) (comp:ByteArray) (u:Fact) (way:Int) (t:Term):dueQ comp u way t (clausesC c t way u.relation)=dueT c comp u way t:=rfl
theorem dueQ_hit {comp:ByteArray} {u:Fact} {way:Int} {t:Term} {l:List Clause} {q:Nat} {k:Clause} (h:l[q]?=some k) (hk:(!(k.duty == 2) || u.changed)=true) :
  dueQ comp u way t (l.take (q+1))=dueQ comp u way t (l.take q)++[⟨u.output,comp,t,way,u.relation,k.duty⟩]:=by
 unfold dueQ;rw [take_at h,List.filter_append,List.map_append,List.filter_cons,if_pos hk];rfl
theorem dueQ_miss {comp:ByteArray} {u:Fact} {way:Int} {t:Term} {l:List Clause} {q:Nat} {k:Clause} (h:l[q]?=some k) (hk:(!(k.duty == 2) || u.changed)=false) :
  dueQ comp u way t (l.take (q+1))=dueQ comp u way t (l.take q):=by
 unfold dueQ;rw [take_at h,List.filter_append,List.map_append,List.filter_cons,if_neg (by rw [hk];decide)];simp
theorem flat_at {α β:Type} (f:α→List β) {l:List α} {k:Nat} {x:α} (h:l[k]?=some x):(l.take (k+1)).flatMap f=(l.take k).flatMap f++f x:=by
 rw [take_at h,List.flatMap_append];simp
def okD (d:Due):Prop:=d.output.size≤maxLen∧d.component.size≤maxLen∧d.term.license.size≤maxLen∧d.term.exception.size≤maxLen∧inI64 d.way∧inI64 d.relation∧inI64 d.duty
abbrev OkD:Type:={ d:Due // okD d }
def dueV (d:Due):Value:=.agg #[.string d.output,.string d.component,.string d.term.license,.string d.term.exception,.int .i64 d.way,.int .i64 d.relation,.int .i64 d.duty]
theorem KvD.kept {lo:Nat} {M:Nat→Prop} {W W':World} (h:KvD lo M W W') {k:Nat} {cs:Array Value} {t:TypeId} {fr:Nat×Nat} (hm:¬ M k) (ht:t≠63) (hc:W.heap[k]?=some (.cells cs t fr)):W'.heap[k]?=some (.cells cs t fr):=h.2 k cs t fr hm (Or.inr ht) hc
theorem pairsP_p (w:World) (a:Option Addr) (n c:Nat) (comp:ByteArray) :
  Calls Tryz.prog 130 #[.slice a n c,.string comp] w fun e w'=>e=.returned (.func (.func 185) #[] #[.pointer (some ⟨w.heap.size,0,none⟩),.pointer (some ⟨w.heap.size+1,0,none⟩)])∧w'=(w.alloc (.cells #[.slice a n c] 29)).alloc (.cells #[.string comp] 9):=by
 go_enter Tryz.func130,Tryz.ntmps130;go_wp2;go_ret;exact ⟨by simp,rfl⟩
theorem dues_p (w:World) (a:Option Addr) (n c:Nat) (s0 s1 s2 s3 y0 y1:Value) (h0:isSl s0) (h1:isSl s1) (h2:isSl s2) (h3:isSl s3) (g0:isSl y0) (g1:isSl y1) :
  Calls Tryz.prog 71 #[.agg #[s0,s1,s2,s3],.slice a n c,.agg #[y0,y1]] w fun e w'=>e=.returned (.func (.func 129) #[] #[.pointer (some ⟨w.heap.size+1,0,none⟩),.pointer (some ⟨w.heap.size+1+1,0,none⟩),.pointer (some ⟨w.heap.size,0,none⟩)]) ∧
   w'=((w.alloc (.cells #[s0,s1,s2,s3] 27)).alloc (.cells #[.slice a n c] 29)).alloc (.cells #[y0,y1] 43):=by
 obtain ⟨_,_,_,rfl⟩:=h0;obtain ⟨_,_,_,rfl⟩:=h1;obtain ⟨_,_,_,rfl⟩:=h2;obtain ⟨_,_,_,rfl⟩:=h3;obtain ⟨_,_,_,rfl⟩:=g0;obtain ⟨_,_,_,rfl⟩:=g1;go_enter Tryz.func71,Tryz.ntmps71;go_wp2;go_ret;exact ⟨by simp,rfl⟩
end Go.Proofs.YtcbopdbbcgdkcaaGreatDoor
