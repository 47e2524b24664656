/- Lemmas. -/
import Derived.Test.YtcbopdbbcgdkcaaGreatDoorLRfO
set_option linter.all false
set_option maxRecDepth 100000
set_option maxHeartbeats 16000000
namespace Go.Proofs.YtcbopdbbcgdkcaaGreatDoor
open Go Go.RowKit Go.ChangeShapes Go.Lib Go.Shelf

theorem FewX.sz {c:Catalog} {x:List Fact} (h:FewX c x):∀ f∈x,sizeE f.expr≤5000:=fun f hf=>by
 have:=(h.2.2.2 f hf).2.2;omega

theorem few_boundD {c:Catalog} {x:List Fact} (h:FewX c x):x.length * (x.length * x.length * (65 * c.clauses.length))≤1000000000000:=by
 obtain ⟨-,h2,h3,-⟩:=h
 calc x.length * (x.length * x.length * (65 * c.clauses.length))≤260 * (260 * 260 * (65 * 140)):=Nat.mul_le_mul h3 (Nat.mul_le_mul (Nat.mul_le_mul h3 h3) (Nat.mul_le_mul (Nat.le_refl _) h2))
  _≤1000000000000:=by decide
theorem DutyDuties_p (w:World) (vc vx vy:Value) (c:Catalog) (x:List Fact) (y:Choice) (hg:Glob w) (hc:Is w vc c) (h:Is w vx x) (hy:Is w vy y) (hok:∀ f∈x,okF f) :
  Calls Tryz.prog 5 #[vc,vx,vy] w fun e w'=>e=.returned (.bool true)∧Below w.heap.size w w':=by
 have HG:=zh hg;have HX:=zh h;have HC:=zh hc;have HY:=zh hy;have HOK:=zh hok;obtain ⟨a0,c0,a1,c1,a2,c2,a3,c3,rfl,-⟩:=Catalog.inv hc;obtain ⟨ax,nx,rfl,-⟩:=list_inv h;obtain ⟨yt,yo⟩:=y;obtain ⟨at',ct,ao,co,rfl,-⟩:=Choice.inv hy;have hba:Below w.heap.size w ((w.alloc (.cells #[.slice a0 c.licenses.length c0,.slice a1 c.exceptions.length c1,.slice a2 c.clauses.length c2,.slice a3 c.apart.length c3] 27)).alloc (.cells #[.slice at' yt.length ct,.slice ao yo.length co] 43)):=bw;have hcall:=awakeD_p ((w.alloc (.cells #[.slice a0 c.licenses.length c0,.slice a1 c.exceptions.length c1,.slice a2 c.clauses.length c2,.slice a3 c.apart.length c3] 27)).alloc (.cells #[.slice at' yt.length ct,.slice ao yo.length co] 43)) (hg.mono hba);have HBA:=zh hba;generalize x.length=L at *;generalize yt.length=LT at *;generalize yo.length=LO at *;generalize hN0:c.licenses.length=N0 at *;have HN0:=zh hN0;generalize c.exceptions.length=N1 at *;generalize c.clauses.length=N2 at *;generalize c.apart.length=N3 at *;clear h hc hok hy hba hN0 hg;go_enter Tryz.func5,Tryz.ntmps5;go_wp2_with fail
 refine hcall.mono ?_;rintro e w1 ⟨rfl,hb1⟩;clear hcall;have d0:=kb w hb1 0 (.slice a0 N0 c0);have d1:=kb w hb1 1 (.slice a1 N1 c1);have d2:=kb w hb1 2 (.slice a2 N2 c2);have d3:=kb w hb1 3 (.slice a3 N3 c3);have e0:=kb1 w hb1 0 (.slice at' LT ct);have e1:=kb1 w hb1 1 (.slice ao LO co);have hs1:w.heap.size+1 < w1.heap.size:=cell_lt e0;have HB1:=zh (HBA.out.trans (hb1.mono (by simp;omega)));clear hb1 HBA;go_wp2_with fail
 refine (FewD_ref w1 _ _ c x (HC.out.mono HB1.out) (HX.out.mono HB1.out) HOK.out).mono ?_;rintro e w2 ⟨fb,rfl,hfx,hb2⟩;have HFX:=zh hfx;have HB2:=zh (HB1.out.trans (hb2.mono HB1.out.size));cases fb;case false =>
  clear hb2 hfx d0 d1 d2 d3 e0 e1;go_wp2;go_ret;exact ⟨rfl,HB2.out⟩
 have HFW:=zh (HFX.out rfl);have HFIT:=zh HFW.out.fits;have HSZ:=zh HFW.out.sz;obtain ⟨d0,d1,d2,d3⟩:=k4 hb2 d0 d1 d2 d3;have e0:=kept hb2 e0;have e1:=kept hb2 e1;have hs2:w.heap.size+1 < w2.heap.size:=cell_lt e0;clear hb2 hfx hs1 HB1 HFX HOK;go_wp2_with fail
 refine (FewChoice_ref w2 _ ⟨yt,yo⟩ (HY.out.mono HB2.out)).mono ?_;rintro e w3 ⟨fc,rfl,hfc,hb3⟩;have HFC:=zh hfc;have HB3:=zh (HB2.out.trans (hb3.mono HB2.out.size));cases fc;case false =>
  clear hb3 hfc d0 d1 d2 d3 e0 e1;go_wp2;go_ret;exact ⟨rfl,HB3.out⟩
 have HFY:=zh (HFC.out rfl);obtain ⟨d0,d1,d2,d3⟩:=k4 hb3 d0 d1 d2 d3;have e0:=kept hb3 e0;have e1:=kept hb3 e1;have hs3:w.heap.size+1 < w3.heap.size:=cell_lt e0;clear hb3 hfc hs2 HB2 HFC;have hcall:=DutyOf_p w3 _ _ _ c x ⟨yt,yo⟩ (HG.out.mono HB3.out) (HC.out.mono HB3.out) (HX.out.mono HB3.out) (HY.out.mono HB3.out) HFIT.out 65 HFY.out.2 (few_boundD HFW.out);have HNR:Hid (∀ W,Below w.heap.size w W→Calls Tryz.prog 28 #[.agg #[.slice a0 N0 c0,.slice a1 N1 c1,.slice a2 N2 c2,.slice a3 N3 c3],.slice ax L nx,.agg #[.slice at' LT ct,.slice ao LO co]] W fun e w'=>DRO (dutiesC c x ⟨yt,yo⟩) W e w') :=
  fun W hb=>OfD_ref W _ _ _ c x ⟨yt,yo⟩ (HC.out.mono hb) (HX.out.mono hb) (HY.out.mono hb) HFW.out HSZ.out HFY.out.2
 unfold DuO at hcall;unfold DRO at HNR;generalize dutiesC c x ⟨yt,yo⟩=R at *;obtain ⟨dl,de⟩:=R;simp only at hcall HNR;go_wp2_with fail
 refine hcall.mono ?_;rintro e w4 ⟨v1,rfl,hr1,hb4⟩;obtain ⟨b1,k1,rfl⟩:=hr1.shape;have HB4:=zh (HB3.out.trans (hb4.mono HB3.out.size));obtain ⟨d0,d1,d2,d3⟩:=k4 hb4 d0 d1 d2 d3;have e0:=kept hb4 e0;have e1:=kept hb4 e1;have hs4:w.heap.size+1 < w4.heap.size:=cell_lt e0;have HR1:=zh hr1;clear hcall hb4 HB3 hs3 hr1;go_wp2_with fail
 refine (HNR.out _ HB4.out).mono ?_;rintro e w5 ⟨v2,rfl,hr2,hb5⟩;obtain ⟨b2,k2,rfl⟩:=hr2.shape;have HB5:=zh (HB4.out.trans (hb5.mono HB4.out.size));have hcall:=SameDues_ref w5 _ _ dl (HR1.out.is.mono hb5) hr2.is HR1.out.2;have q3:(de == de)=true:=by simp
 clear hb5 hr2 HNR HB4 hs4 d0 d1 d2 d3 e0 e1;generalize dl.length=DL at *;go_wp2_with fail
 refine hcall.mono ?_;rintro e w6 ⟨rfl,hb6⟩;have HB6:=zh (HB5.out.trans (hb6.mono HB5.out.size));clear hcall hb6;go_wp2_with fail
 go_ret;exact ⟨rfl,HB6.out⟩
end Go.Proofs.YtcbopdbbcgdkcaaGreatDoor
