/- DutyCases: Check, Values and Count return what the definitions specify (printed by gen/casr.py). -/
import Derived.Test.YtcbopdbbcgdkcaaGreatDoorJR33U
import Derived.Test.YtcbopdbbcgdkcaaGreatDoorJHedU
import Derived.Test.YtcbopdbbcgdkcaaGreatDoorJRfD
set_option linter.all false
set_option maxRecDepth 100000
set_option maxHeartbeats 16000000
namespace Go.Proofs.YtcbopdbbcgdkcaaGreatDoor
open Go Go.RowKit Go.ChangeShapes Go.Lib Go.Shelf

theorem FewX.sz {c:Catalog} {x:List Fact} (h:FewX c x):∀ f∈x,sizeE f.expr≤5000:=fun f hf=>by
 have:=(h.2.2.2 f hf).2.2;omega
theorem DutyCases_p (w:World) (vc vx:Value) (c:Catalog) (x:List Fact) (hg:Glob w) (hc:Is w vc c) (h:Is w vx x) (hok:∀ f∈x,okF f) :
  Calls Tryz.prog 3 #[vc,vx] w fun e w'=>e=.returned (.bool true)∧Below w.heap.size w w':=by
 have HG:=zh hg;have HX:=zh h;have HC:=zh hc;have HOK:=zh hok;obtain ⟨a0,c0,a1,c1,a2,c2,a3,c3,rfl,-⟩:=Catalog.inv hc;obtain ⟨ax,nx,rfl,hn,hm,hr⟩:=list_inv h;simp only [maxLen] at hm;have hm':x.length≤9223372036854775807:=by omega
 have HR:=zh hr;have hba:Below w.heap.size w (w.alloc (.cells #[.slice a0 c.licenses.length c0,.slice a1 c.exceptions.length c1,.slice a2 c.clauses.length c2,.slice a3 c.apart.length c3] 27)):=zb;have hcall:=awakeD_p (w.alloc (.cells #[.slice a0 c.licenses.length c0,.slice a1 c.exceptions.length c1,.slice a2 c.clauses.length c2,.slice a3 c.apart.length c3] 27)) (hg.mono hba);have HBA:=zh hba;generalize hL:x.length=L at *;have HL:=zh hL;generalize hN0:c.licenses.length=N0 at *;have HN0:=zh hN0;generalize c.exceptions.length=N1 at *;generalize c.clauses.length=N2 at *;generalize c.apart.length=N3 at *;clear h hr hc hok hn hm hL hba hN0 hg;go_enter Tryz.func3,Tryz.ntmps3;go_wp2_with fail
 refine hcall.mono ?_;rintro e w1 ⟨rfl,hb1⟩;clear hcall;have d0:=kept hb1 (a:=⟨w.heap.size,0,none⟩) (v:=.slice a0 N0 c0) (by simp);have d1:=kept hb1 (a:=⟨w.heap.size,1,none⟩) (v:=.slice a1 N1 c1) (by simp);have d2:=kept hb1 (a:=⟨w.heap.size,2,none⟩) (v:=.slice a2 N2 c2) (by simp);have d3:=kept hb1 (a:=⟨w.heap.size,3,none⟩) (v:=.slice a3 N3 c3) (by simp);have hs1:w.heap.size < w1.heap.size:=cell_lt d0;have HB1:Hid (Below w.heap.size w w1):=zh (HBA.out.trans (hb1.mono (by simp)));clear hb1 HBA;go_wp2_with fail
 refine (FewD_ref w1 _ _ c x (HC.out.mono HB1.out) (HX.out.mono HB1.out) HOK.out).mono ?_;rintro e w2 ⟨fb,rfl,hfx,hb2⟩;have HFX:=zh hfx;have HB2:Hid (Below w.heap.size w w2):=zh (HB1.out.trans (hb2.mono HB1.out.size));cases fb;case false =>
  clear hb2 hfx d0 d1 d2 d3;go_wp2;go_ret;exact ⟨rfl,HB2.out⟩
 have HFW:=zh (HFX.out rfl);have HFIT:=zh HFW.out.fits;have HSZ:=zh HFW.out.sz;have d0:=kept hb2 d0;have d1:=kept hb2 d1;have d2:=kept hb2 d2;have d3:=kept hb2 d3;have hs2:w.heap.size < w2.heap.size:=cell_lt d0;clear hb2 hfx hs1 HB1 HFX HR HOK HL HN0;have hcall:=CheckD_p w2 _ _ c x (HG.out.mono HB2.out) (HC.out.mono HB2.out) (HX.out.mono HB2.out) HFIT.out;have HCK:Hid (∀ W,Below w.heap.size w W→Calls Tryz.prog 14 #[.agg #[.slice a0 N0 c0,.slice a1 N1 c1,.slice a2 N2 c2,.slice a3 N3 c3],.slice ax L nx] W fun e w'=>e=.returned (.tuple #[.int .i64 (caseE c x).1,.int .i64 (caseE c x).2])∧Below W.heap.size W w') :=
  fun W hb=>CheckD_ref W _ _ c x (HC.out.mono hb) (HX.out.mono hb) HFIT.out
 generalize caseE c x=ce at *;obtain ⟨ce1,ce2⟩:=ce;simp only at hcall HCK;have q1:(ce1 != ce1)=false:=by simp
 have q2:(ce2 != ce2)=false:=by simp
 go_wp2_with fail
 refine hcall.mono ?_;rintro e w3 ⟨rfl,hb3⟩;have HB3:Hid (Below w.heap.size w w3):=zh (HB2.out.trans (hb3.mono HB2.out.size));have d0:=kept hb3 d0;have d1:=kept hb3 d1;have d2:=kept hb3 d2;have d3:=kept hb3 d3;have hs3:w.heap.size < w3.heap.size:=cell_lt d0;clear hcall hb3 HB2 hs2;go_wp2_with fail
 refine (HCK.out _ HB3.out).mono ?_;rintro e w4 ⟨rfl,hb4⟩;have HB4:Hid (Below w.heap.size w w4):=zh (HB3.out.trans (hb4.mono HB3.out.size));have d0:=kept hb4 d0;have d1:=kept hb4 d1;have d2:=kept hb4 d2;have d3:=kept hb4 d3;have hs4:w.heap.size < w4.heap.size:=cell_lt d0;clear HCK hb4 HB3 hs3;have hcall:=Values_is w4 _ _ c x (HG.out.mono HB4.out) (HC.out.mono HB4.out) (HX.out.mono HB4.out) HFIT.out;have HVR:Hid (∀ W,Below w.heap.size w W→Calls Tryz.prog 16 #[.agg #[.slice a0 N0 c0,.slice a1 N1 c1,.slice a2 N2 c2,.slice a3 N3 c3],.slice ax L nx] W fun e w'=>VO (valuesC c x) W e w') :=
  fun W hb=>Values_ref W _ _ c x (HC.out.mono hb) (HX.out.mono hb) HFIT.out HSZ.out
 generalize valuesC c x=vv at *;obtain ⟨ts,os,ve⟩:=vv;unfold VI at hcall;unfold VO at HVR;simp only at hcall HVR;have q3:(ve != ve)=false:=by simp
 go_wp2_with fail
 clear q1 q2;refine hcall.mono ?_;rintro e w5 ⟨v1,v2,rfl,hi1,hi2,hb5⟩;have HB5:Hid (Below w.heap.size w w5):=zh (HB4.out.trans (hb5.mono HB4.out.size));have d0:=kept hb5 d0;have d1:=kept hb5 d1;have d2:=kept hb5 d2;have d3:=kept hb5 d3;have hs5:w.heap.size < w5.heap.size:=cell_lt d0;obtain ⟨b1,k1,rfl,hb1a,hb1b,hr1⟩:=list_inv hi1;obtain ⟨b2,k2,rfl,-⟩:=list_inv hi2;have HI2:=zh hi2;have HR1:=zh hr1;clear hcall hb5 HB4 hs4 hi1 hi2 hr1;go_wp2_with fail
 refine (HVR.out _ HB5.out).mono ?_;rintro e w6 ⟨v3,v4,rfl,ho3,ho4,hsm,hb6⟩;obtain ⟨b3,k3,rfl,hb3a,hb3b,hr3⟩:=list_inv ho3.is;have hi4:=ho4.strs hsm;obtain ⟨b4,k4,rfl,-⟩:=list_inv hi4;have HB6:Hid (Below w.heap.size w w6):=zh (HB5.out.trans (hb6.mono HB5.out.size));have HB56:=zh hb6;have HR3:=zh hr3;have hcall:=SameTexts_ref w6 _ _ os os (HI2.out.mono hb6) hi4;rw [decide_eq_true rfl] at hcall;have d0:=kept hb6 d0;have d1:=kept hb6 d1;have d2:=kept hb6 d2;have d3:=kept hb6 d3;have hs6:w.heap.size < w6.heap.size:=cell_lt d0;simp only [maxLen] at hb1b hb3b;clear hb6 HB5 hs5 HVR ho3 ho4 hsm hr3 hi4 HI2;generalize hT:ts.length=T at *;generalize os.length=O at *;have HT:=zh hT;have q4:((T:Int) != (T:Int))=false:=by simp
 have hTm:T≤9223372036854775807:=by omega
 clear hT;go_wp2_with fail
 clear q3 q4;refine hcall.mono ?_;rintro e w7 ⟨rfl,hb7⟩;have HB7:Hid (Below w.heap.size w w7):=zh (HB6.out.trans (hb7.mono HB6.out.size));have HB67:=zh hb7;have d0:=kept hb7 d0;have d1:=kept hb7 d1;have d2:=kept hb7 d2;have d3:=kept hb7 d3;have hs7:w.heap.size < w7.heap.size:=cell_lt d0;have D0:=zh d0;have D1:=zh d1;have D2:=zh d2;have D3:=zh d3;clear hcall hb7 HB6 hs6;go_wp2_with fail
 clear d0 d1 d2 d3;go_loopw [74] (fun kv wr=>∃ k:Nat,k≤T∧kv=.int .i64 k∧Hid (Below w7.heap.size w7 wr)) (fun kv _=>T - (intOf kv).toNat)
 case atStart=>exact ⟨0,by omega,rfl,zh (Below.refl _ _)⟩
 case round =>
  obtain ⟨k,hk,rfl,hbr⟩:=hrel;have HBR:Hid (Below w.heap.size w wr):=zh (HB7.out.trans (hbr.out.mono HB7.out.size));by_cases hki:k < T
  ·have hkz:(k:Int) < (T:Int):=by omega
   have hk0:(0:Int)≤(k:Int):=by omega
   obtain ⟨l,hx⟩:=get_lt (xs:=ts) (k:=k) (by rw [HT.out];exact hki);obtain ⟨bx,ox,rfl,hbx,ax',cx,x0',hx1,hx2,hx3⟩:=list_at HR1.out hx;obtain ⟨by',oy,rfl,hby,ay,cy,y0',hy1,hy2,hy3⟩:=list_at HR3.out hx;have hb7r:Below w6.heap.size w6 wr:=HB67.out.trans (hbr.out.mono HB67.out.size);have hb5r:Below w5.heap.size w5 wr:=HB56.out.trans (hb7r.mono HB56.out.size);have x0:=kept hb5r x0';have y0:=kept hb7r y0';have hcall:=SameA_ref wr.drew _ _ l l ((list_mk hx1 hx2 hx3).mono (hb5r.drewN 1)) ((list_mk hy1 hy2 hy3).mono (hb7r.drewN 1));rw [decide_eq_true rfl] at hcall;have hzx:=cell_lt x0;have hzy:=cell_lt y0;clear hx x0' y0' hbx hby hx1 hx2 hx3 hy1 hy2 hy3 hb7r hb5r;generalize l.length=M at *;go_wp2_with fail
   refine still_tail 8 (by kernel_rfl) (by kernel_rfl) ?_;simp only [zt];repeat still_step
   refine wpStill_nil ?_;go_wp2_with fail
   refine hcall.mono ?_;rintro e w8 ⟨rfl,hb8⟩;clear hcall;have HB8:Hid (Below w7.heap.size w7 w8):=zh (hbr.out.drew.trans (hb8.mono hbr.out.size));clear hb8;go_wp2_with fail
   go_roundw
   case rel=>exact ⟨k+1,by omega,by go_num,HB8⟩
   case measure=>simp [intOf];omega
  ·have hkz:¬ (k:Int) < (T:Int):=by omega
   have d0:=kept hbr.out D0.out;have d1:=kept hbr.out D1.out;have d2:=kept hbr.out D2.out;have d3:=kept hbr.out D3.out;have hsr:w.heap.size < wr.heap.size:=cell_lt d0;have hcall:=Count_p wr _ _ c x (HG.out.mono HBR.out) (HC.out.mono HBR.out) (HX.out.mono HBR.out) HFIT.out (by have:=HFW.out.1;omega);have HCK:Hid (∀ W,Below w.heap.size w W→Calls Tryz.prog 20 #[.agg #[.slice a0 N0 c0,.slice a1 N1 c1,.slice a2 N2 c2,.slice a3 N3 c3],.slice ax L nx] W fun e w'=>e=.returned (.tuple #[.int .i64 (countC c x).1,.int .i64 (countC c x).2])∧Below W.heap.size W w') :=
    fun W hb=>Count_ref W _ _ c x (HC.out.mono hb) (HX.out.mono hb) HFIT.out HSZ.out (by have:=HFW.out.1;omega)
   generalize countC c x=ce at *;obtain ⟨cn1,cn2⟩:=ce;simp only at hcall HCK;have q1:(cn1 == cn1)=true:=by simp
   have q2:(cn2 == cn2)=true:=by simp
   go_wp2_with fail
   refine hcall.mono ?_;rintro e w8 ⟨rfl,hb8⟩;have HB8:Hid (Below w.heap.size w w8):=zh (HBR.out.trans (hb8.mono HBR.out.size));have d0:=kept hb8 d0;have d1:=kept hb8 d1;have d2:=kept hb8 d2;have d3:=kept hb8 d3;have hs8:w.heap.size < w8.heap.size:=cell_lt d0;clear hcall hb8 hsr;go_wp2_with fail
   refine (HCK.out _ HB8.out).mono ?_;rintro e w9 ⟨rfl,hb9⟩;have HB9:Hid (Below w.heap.size w w9):=zh (HB8.out.trans (hb9.mono HB8.out.size));clear hb9 d0 d1 d2 d3;go_wp2_with fail
   go_ret;exact ⟨rfl,HB9.out⟩
end Go.Proofs.YtcbopdbbcgdkcaaGreatDoor
