/- Lemmas. -/
import Derived.Test.YtcbopdbbcgdkcaaGreatDoorJHedU
import Derived.Test.YtcbopdbbcgdkcaaGreatDoorJRfY
set_option linter.all false
set_option maxRecDepth 100000
set_option maxHeartbeats 16000000
namespace Go.Proofs.YtcbopdbbcgdkcaaGreatDoor
open Go Go.RowKit Go.ChangeShapes Go.Lib Go.Shelf

theorem FewX.sz {c:Catalog} {x:List Fact} (h:FewX c x):∀ f∈x,sizeE f.expr≤5000:=fun f hf=>by
 have:=(h.2.2.2 f hf).2.2;omega

theorem DutyChoices_p (w:World) (vc vx vy:Value) (c:Catalog) (x:List Fact) (y:Choice) (n:Int) (hg:Glob w) (hc:Is w vc c) (h:Is w vx x) (hy:Is w vy y) {pr:Prop} (_:pr) (hok:∀ f∈x,okF f) :
  Calls Tryz.prog 4 #[vc,vx,vy,.int .i64 n] w fun e w'=>e=.returned (.bool true)∧Below w.heap.size w w':=by
 have HG:=zh hg;have HX:=zh h;have HC:=zh hc;have HY:=zh hy;have HOK:=zh hok;obtain ⟨a0,c0,a1,c1,a2,c2,a3,c3,rfl,-⟩:=Catalog.inv hc;obtain ⟨ax,nx,rfl,-⟩:=list_inv h;obtain ⟨yt,yo⟩:=y;obtain ⟨at',ct,ao,co,rfl,-⟩:=Choice.inv hy;have hba:Below w.heap.size w ((w.alloc (.cells #[.slice a0 c.licenses.length c0,.slice a1 c.exceptions.length c1,.slice a2 c.clauses.length c2,.slice a3 c.apart.length c3] 27)).alloc (.cells #[.slice at' yt.length ct,.slice ao yo.length co] 43)):=bw;have hcall:=awakeD_p ((w.alloc (.cells #[.slice a0 c.licenses.length c0,.slice a1 c.exceptions.length c1,.slice a2 c.clauses.length c2,.slice a3 c.apart.length c3] 27)).alloc (.cells #[.slice at' yt.length ct,.slice ao yo.length co] 43)) (hg.mono hba);have HBA:=zh hba;generalize x.length=L at *;generalize yt.length=LT at *;generalize yo.length=LO at *;generalize hN0:c.licenses.length=N0 at *;have HN0:=zh hN0;generalize c.exceptions.length=N1 at *;generalize c.clauses.length=N2 at *;generalize c.apart.length=N3 at *;clear h hc hok hy hba hN0 hg;go_enter Tryz.func4,Tryz.ntmps4;go_wp2_with fail
 refine hcall.mono ?_;rintro e w1 ⟨rfl,hb1⟩;clear hcall;have d0:=kb w hb1 0 (.slice a0 N0 c0);have d1:=kb w hb1 1 (.slice a1 N1 c1);have d2:=kb w hb1 2 (.slice a2 N2 c2);have d3:=kb w hb1 3 (.slice a3 N3 c3);have e0:=kb1 w hb1 0 (.slice at' LT ct);have e1:=kb1 w hb1 1 (.slice ao LO co);have hs1:w.heap.size+1 < w1.heap.size:=cell_lt e0;have HB1:=zh (HBA.out.trans (hb1.mono (by simp;omega)));clear hb1 HBA;go_wp2_with fail
 refine (FewD_ref w1 _ _ c x (HC.out.mono HB1.out) (HX.out.mono HB1.out) HOK.out).mono ?_;rintro e w2 ⟨fb,rfl,hfx,hb2⟩;have HFX:=zh hfx;have HB2:=zh (HB1.out.trans (hb2.mono HB1.out.size));cases fb;case false =>
  clear hb2 hfx d0 d1 d2 d3 e0 e1;go_wp2;go_ret;exact ⟨rfl,HB2.out⟩
 have HFW:=zh (HFX.out rfl);have HFIT:=zh HFW.out.fits;have HSZ:=zh HFW.out.sz;have hn40:c.licenses.length≤1000000:=by have:=HFW.out.1;omega
 obtain ⟨d0,d1,d2,d3⟩:=k4 hb2 d0 d1 d2 d3;have e0:=kept hb2 e0;have e1:=kept hb2 e1;have hs2:w.heap.size+1 < w2.heap.size:=cell_lt e0;clear hb2 hfx hs1 HB1 HFX HOK;go_wp2_with fail
 refine (FewChoice_ref w2 _ ⟨yt,yo⟩ (HY.out.mono HB2.out)).mono ?_;rintro e w3 ⟨fc,rfl,hfc,hb3⟩;have HFC:=zh hfc;have HB3:=zh (HB2.out.trans (hb3.mono HB2.out.size));cases fc;case false =>
  clear hb3 hfc d0 d1 d2 d3 e0 e1;go_wp2;go_ret;exact ⟨rfl,HB3.out⟩
 have HFY:=zh (HFC.out rfl);obtain ⟨d0,d1,d2,d3⟩:=k4 hb3 d0 d1 d2 d3;have e0:=kept hb3 e0;have e1:=kept hb3 e1;have hs3:w.heap.size+1 < w3.heap.size:=cell_lt e0;clear hb3 hfc hs2 HB2 HFC;have hcall:=Nth_is w3 _ _ c x n (HG.out.mono HB3.out) (HC.out.mono HB3.out) (HX.out.mono HB3.out) HFIT.out hn40;have HNR:Hid (∀ W,Below w.heap.size w W→Calls Tryz.prog 23 #[.agg #[.slice a0 N0 c0,.slice a1 N1 c1,.slice a2 N2 c2,.slice a3 N3 c3],.slice ax L nx,.int .i64 n] W fun e w'=>∃ v,e=.returned (.tuple #[v,.int .i64 (nthC c x n).2])∧Is w' v (nthC c x n).1∧Below W.heap.size W w') :=
  fun W hb=>Nth_ref W _ _ c x n (HC.out.mono hb) (HX.out.mono hb) HFIT.out HSZ.out hn40
 unfold NI at hcall;generalize nthC c x n=R at *;obtain ⟨z,ne⟩:=R;simp only at hcall HNR;go_wp2_with fail
 refine hcall.mono ?_;rintro e w4 ⟨b1,k1,b2,k2,rfl,hch,hb4⟩;have HB4:=zh (HB3.out.trans (hb4.mono HB3.out.size));obtain ⟨d0,d1,d2,d3⟩:=k4 hb4 d0 d1 d2 d3;have e0:=kept hb4 e0;have e1:=kept hb4 e1;have hs4:w.heap.size+1 < w4.heap.size:=cell_lt e0;have HZ:=zh hch.is;obtain ⟨w5,hw5⟩:∃ W,W=w4.alloc (.cells #[.slice b1 z.terms.length k1,.slice b2 z.own.length k2] 43):=⟨_,rfl⟩
 have hb5:Below w4.heap.size w4 w5:=by rw [hw5];exact zb
 have g0:w5.cell? ⟨w4.heap.size,0,none⟩=some (.slice b1 z.terms.length k1):=by rw [hw5];simp
 have g1:w5.cell? ⟨w4.heap.size,1,none⟩=some (.slice b2 z.own.length k2):=by rw [hw5];simp
 have HB5:=zh (HB4.out.trans (hb5.mono HB4.out.size));obtain ⟨d0,d1,d2,d3⟩:=k4 hb5 d0 d1 d2 d3;have e0:=kept hb5 e0;have e1:=kept hb5 e1;have hs5:w.heap.size+1 < w5.heap.size:=cell_lt e0;have HZ5:=zh (HZ.out.mono hb5);clear hcall hb4 HB3 hs3 hch hb5 HZ;have hs45:w4.heap.size < w5.heap.size:=cell_lt g0;go_upto_region 6 with (fail)
 rw [← hw5];generalize w4.heap.size=gZ at *;clear hw5 hs4 HB4;go_wp2_with fail
 refine (HNR.out _ HB5.out).mono ?_;rintro e w6 ⟨vw,rfl,hiw,hb6⟩;obtain ⟨wt,wo⟩:=z;obtain ⟨b3,k3,b4,kc4,rfl,-⟩:=Choice.inv hiw;have HB6:=zh (HB5.out.trans (hb6.mono HB5.out.size));obtain ⟨d0,d1,d2,d3⟩:=k4 hb6 d0 d1 d2 d3;obtain ⟨e0,e1,g0,g1⟩:=k4 hb6 e0 e1 g0 g1;have hs6:w.heap.size+1 < w6.heap.size:=cell_lt e0;have hs46:gZ < w6.heap.size:=cell_lt g0;have HZ6:=zh (HZ5.out.mono hb6);have HW6:=zh hiw;clear hb6 hiw HB5 hs5 HZ5 HNR hs45;simp only at g0 g1;generalize wt.length=WT at *;generalize wo.length=WO at *;obtain ⟨w7,hw7⟩:∃ W,W=w6.alloc (.cells #[.slice b3 WT k3,.slice b4 WO kc4] 43):=⟨_,rfl⟩
 have hb7:Below w6.heap.size w6 w7:=by rw [hw7];exact zb
 have r0:w7.cell? ⟨w6.heap.size,0,none⟩=some (.slice b3 WT k3):=by rw [hw7];simp
 have r1:w7.cell? ⟨w6.heap.size,1,none⟩=some (.slice b4 WO kc4):=by rw [hw7];simp
 have HB7:=zh (HB6.out.trans (hb7.mono HB6.out.size));obtain ⟨d0,d1,d2,d3⟩:=k4 hb7 d0 d1 d2 d3;obtain ⟨e0,e1,g0,g1⟩:=k4 hb7 e0 e1 g0 g1;have hs7:w.heap.size+1 < w7.heap.size:=cell_lt e0;have hs47:gZ < w7.heap.size:=cell_lt g0;have hs67:w6.heap.size < w7.heap.size:=cell_lt r0;have HZ7:=zh (HZ6.out.mono hb7);have HW7:=zh (HW6.out.mono hb7)
 have HP1:Hid (∀ W p,Below w7.heap.size w7 W→Calls Tryz.prog 24 #[.agg #[.slice a0 N0 c0,.slice a1 N1 c1,.slice a2 N2 c2,.slice a3 N3 c3],.slice ax L nx,.agg #[.slice at' LT ct,.slice ao LO co],.bool p] W fun e w'=>e=.returned (.int .i64 (choiceE c x ⟨yt,yo⟩ p))∧Below W.heap.size W w'):=fun W p hb =>
  have hbw:=HB7.out.trans (hb.mono HB7.out.size);CheckChoice_p W _ _ _ c x ⟨yt,yo⟩ p (HG.out.mono hbw) (HC.out.mono hbw) (HX.out.mono hbw) (HY.out.mono hbw) HFIT.out
 have HP2:Hid (∀ W p,Below w7.heap.size w7 W→Calls Tryz.prog 25 #[.agg #[.slice a0 N0 c0,.slice a1 N1 c1,.slice a2 N2 c2,.slice a3 N3 c3],.slice ax L nx,.agg #[.slice at' LT ct,.slice ao LO co],.bool p] W fun e w'=>e=.returned (.int .i64 (choiceE c x ⟨yt,yo⟩ p))∧Below W.heap.size W w'):=fun W p hb =>
  have hbw:=HB7.out.trans (hb.mono HB7.out.size);CheckChoice_ref W _ _ _ c x ⟨yt,yo⟩ p (HC.out.mono hbw) (HX.out.mono hbw) (HY.out.mono hbw) HFIT.out HSZ.out
 have HP3:Hid (∀ W,Below w7.heap.size w7 W→Calls Tryz.prog 26 #[.agg #[.slice b1 WT k1,.slice b2 WO k2],.agg #[.slice b3 WT k3,.slice b4 WO kc4]] W fun e w'=>e=.returned (.bool true)∧Below W.heap.size W w'):=fun W hb =>
  SameChoice_ref W _ _ ⟨wt,wo⟩ (HZ7.out.mono hb) (HW7.out.mono hb)
 generalize choiceE c x ⟨yt,yo⟩ false=ce1 at *;generalize choiceE c x ⟨yt,yo⟩ true=ce2 at *;have q1:(ce1 == ce1)=true:=by simp
 have q2:(ce2 == ce2)=true:=by simp
 have q3:(ne == ne)=true:=by simp
 have DD0:=zh d0;have DD1:=zh d1;have DD2:=zh d2;have DD3:=zh d3;have EE0:=zh e0;have EE1:=zh e1;have GG0:=zh g0;have GG1:=zh g1;have RR0:=zh r0;have RR1:=zh r1;clear d0 d1 d2 d3 e0 e1 g0 g1 r0 r1 HZ6 HW6 HZ7 HW7 hb7;go_upto_region 7 with (fail)
 rw [← hw7];generalize w6.heap.size=gW at *;clear hw7 HB6 hs6 hs46;refine wp_region_held_drew (S:=(fun w':World=>Below w7.heap.size w7 w')) (by kernel_rfl) (by exact (Below.refl _ _).drew) (fun hH0=>?_);refine tkB 0 hH0 rfl ?_ (by intro w hSw;(try dsimp only at hSw);have d0:=kept hSw DD0.out;have d1:=kept hSw DD1.out;have d2:=kept hSw DD2.out;have d3:=kept hSw DD3.out;have z1:=cell_lt d0;go_simp;all_goals with_reducible rfl);try simp only [tkS,Act.put]
 refine tkB 1 hH0 rfl ?_;try simp only [tkS,Act.put]
 refine tkB 2 hH0 rfl ?_ (by intro w hSw;(try dsimp only at hSw);have e0:=kept hSw EE0.out;have e1:=kept hSw EE1.out;have z1:=cell_lt e0;go_simp;all_goals with_reducible rfl);try simp only [tkS,Act.put]
 refine tkB 4 hH0 rfl ?_ (by intro w hSw;(try dsimp only at hSw);have d0:=kept hSw DD0.out;have d1:=kept hSw DD1.out;have d2:=kept hSw DD2.out;have d3:=kept hSw DD3.out;have z1:=cell_lt d0;go_simp;all_goals with_reducible rfl);try simp only [tkS,Act.put]
 refine tkB 5 hH0 rfl ?_;try simp only [tkS,Act.put]
 refine tkB 6 hH0 rfl ?_ (by intro w hSw;(try dsimp only at hSw);have e0:=kept hSw EE0.out;have e1:=kept hSw EE1.out;have z1:=cell_lt e0;go_simp;all_goals with_reducible rfl);try simp only [tkS,Act.put]
 refine rd1 3 rfl (fun K hK=>?_);go_simp;go_at_call 24
 refine (HP1.out _ false hH0).mono ?_;rintro e u0 ⟨rfl,hb⟩;have hbb0:Below w7.heap.size w7 u0:=hH0.trans (hb.mono hH0.size);go_wp2_with fail
 refine hK.out _ _ ?_ (fun hH1=>?_)
 ·exact hbb0
 try simp only [tkS,Act.put]
 clear hK K;refine rd1 7 rfl (fun K hK=>?_);go_simp;go_at_call 25
 refine (HP2.out _ false hH1).mono ?_;rintro e u1 ⟨rfl,hb⟩;have hbb1:Below w7.heap.size w7 u1:=hH1.trans (hb.mono hH1.size);go_wp2_with fail
 refine hK.out _ _ ?_ (fun hH2=>?_)
 ·exact hbb1
 try simp only [tkS,Act.put]
 clear hK K;refine tkB 8 hH2 rfl ?_;try simp only [tkS,Act.put]
 refine tkB 9 hH2 rfl ?_;try simp only [tkS,Act.put]
 refine tkB 10 hH2 rfl ?_ (by intro w hSw;(try dsimp only at hSw);have d0:=kept hSw DD0.out;have d1:=kept hSw DD1.out;have d2:=kept hSw DD2.out;have d3:=kept hSw DD3.out;have z1:=cell_lt d0;go_simp;all_goals with_reducible rfl);try simp only [tkS,Act.put]
 refine tkB 11 hH2 rfl ?_;try simp only [tkS,Act.put]
 refine tkB 12 hH2 rfl ?_ (by intro w hSw;(try dsimp only at hSw);have e0:=kept hSw EE0.out;have e1:=kept hSw EE1.out;have z1:=cell_lt e0;go_simp;all_goals with_reducible rfl);try simp only [tkS,Act.put]
 refine tkB 14 hH2 rfl ?_ (by intro w hSw;(try dsimp only at hSw);have d0:=kept hSw DD0.out;have d1:=kept hSw DD1.out;have d2:=kept hSw DD2.out;have d3:=kept hSw DD3.out;have z1:=cell_lt d0;go_simp;all_goals with_reducible rfl);try simp only [tkS,Act.put]
 refine tkB 15 hH2 rfl ?_;try simp only [tkS,Act.put]
 refine tkB 16 hH2 rfl ?_ (by intro w hSw;(try dsimp only at hSw);have e0:=kept hSw EE0.out;have e1:=kept hSw EE1.out;have z1:=cell_lt e0;go_simp;all_goals with_reducible rfl);try simp only [tkS,Act.put]
 refine rd1 13 rfl (fun K hK=>?_);go_simp;go_at_call 24
 refine (HP1.out _ true hH2).mono ?_;rintro e u2 ⟨rfl,hb⟩;have hbb2:Below w7.heap.size w7 u2:=hH2.trans (hb.mono hH2.size);go_wp2_with fail
 refine hK.out _ _ ?_ (fun hH3=>?_)
 ·exact hbb2
 try simp only [tkS,Act.put]
 clear hK K;refine rd1 17 rfl (fun K hK=>?_);go_simp;go_at_call 25
 refine (HP2.out _ true hH3).mono ?_;rintro e u3 ⟨rfl,hb⟩;have hbb3:Below w7.heap.size w7 u3:=hH3.trans (hb.mono hH3.size);go_wp2_with fail
 refine hK.out _ _ ?_ (fun hH4=>?_)
 ·exact hbb3
 try simp only [tkS,Act.put]
 clear hK K;refine tkB 18 hH4 rfl ?_;try simp only [tkS,Act.put]
 refine tkB 19 hH4 rfl ?_;try simp only [tkS,Act.put]
 refine tkB 20 hH4 rfl ?_;try simp only [tkS,Act.put]
 refine tkB 21 hH4 rfl ?_ (by intro w hSw;(try dsimp only at hSw);have g0:=kept hSw GG0.out;have g1:=kept hSw GG1.out;have z1:=cell_lt g0;go_simp;all_goals with_reducible rfl);try simp only [tkS,Act.put]
 refine tkB 22 hH4 rfl ?_ (by intro w hSw;(try dsimp only at hSw);have r0:=kept hSw RR0.out;have r1:=kept hSw RR1.out;have z1:=cell_lt r0;go_simp;all_goals with_reducible rfl);try simp only [tkS,Act.put]
 refine rd1 23 rfl (fun K hK=>?_);go_simp;go_at_call 26
 refine (HP3.out _ hH4).mono ?_;rintro e u4 ⟨rfl,hb⟩;have hbb4:Below w7.heap.size w7 u4:=hH4.trans (hb.mono hH4.size);go_wp2_with fail
 refine hK.out _ _ ?_ (fun hH5=>?_)
 ·exact hbb4
 try simp only [tkS,Act.put]
 clear hK K;refine tkB 24 hH5 rfl ?_;try simp only [tkS,Act.put]
 refine tkB 25 hH5 rfl ?_;try simp only [tkS,Act.put]
 refine tkB 26 hH5 rfl ?_;try simp only [tkS,Act.put]
 refine tkB 27 hH5 rfl ?_;try simp only [tkS,Act.put]
 refine tkB 28 hH5 rfl ?_;try simp only [tkS,Act.put]
 refine tkB 29 hH5 rfl ?_;try simp only [tkS,Act.put]
 refine tkB 30 hH5 rfl ?_;try simp only [tkS,Act.put]
 refine wpAnyH_done (by kernel_rfl) ?_ _;go_wp2_with fail
 go_ret;exact ⟨rfl,HB7.out.trans (hbb4.mono HB7.out.size)⟩
end Go.Proofs.YtcbopdbbcgdkcaaGreatDoor
