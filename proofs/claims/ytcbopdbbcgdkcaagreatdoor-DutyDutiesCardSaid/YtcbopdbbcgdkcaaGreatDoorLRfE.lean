/- Lemmas. -/
import Derived.Test.YtcbopdbbcgdkcaaGreatDoorLRfM
set_option linter.all false
set_option maxRecDepth 100000
set_option maxHeartbeats 16000000
namespace Go.Proofs.YtcbopdbbcgdkcaaGreatDoor
open Go Go.RowKit Go.ChangeShapes Go.Lib

def okE (e:LExpr):Prop:=∀ y∈nodesE e,y.name.size≤140737488351232∧y.exc.size≤140737488351232
theorem nodesKs_in {ks:List LExpr} {y:LExpr} (h:y∈nodesKs ks):∃ e∈ks,y∈nodesE e:=by
 induction ks with
 | nil=>simp [nodesKs] at h
 | cons a r ih =>
  rw [nodesKs] at h;rcases List.mem_append.1 h with h | h
  ·exact ⟨a,by simp,h⟩
  ·obtain ⟨e,he,hy⟩:=ih h;exact ⟨e,by simp [he],hy⟩
theorem okE_iff {k:Int} {n x:ByteArray} {ks:List LExpr}:okE (.mk k n x ks)↔n.size≤140737488351232∧x.size≤140737488351232∧∀ e∈ks,okE e:=by
 unfold okE;rw [nodesE];constructor
 ·intro h;have h0:=h _ (List.mem_cons_self ..);exact ⟨h0.1,h0.2,fun e he y hy=>h y (List.mem_cons_of_mem _ (nodesKs_mem he hy))⟩
 ·rintro ⟨h0,h1,h2⟩ y hy;rcases List.mem_cons.1 hy with rfl | hy
  ·exact ⟨h0,h1⟩
  ·obtain ⟨e,he,hy⟩:=nodesKs_in hy;exact h2 e he y hy
def CntO (e:LExpr) (most:Int) (d:Nat) (w:World) (e':Ending) (w':World):Prop :=
 ∃ n:Int,e'=.returned (.int .i64 n)∧1≤n∧n≤((d:Int)+1) * 17592186044416∧(n≤most→(sizeE e:Int)≤n)∧Below w.heap.size w w'
def CntP (d:Nat):Prop:=∀ (e:LExpr),okE e→∀ (most:Int),0≤most→most≤120→∀ (w:World) (v:Value),Is w v e→Calls Tryz.prog 105 #[v,.int .i64 most,.int .i64 d] w fun e' w'=>CntO e most d w e' w'
theorem count_step (d:Nat) (hd:d≤40) (ih:∀ d',d' < d→CntP d') (k0:Int) (n0 x0:ByteArray) (ks:List LExpr) (hok:okE (LExpr.mk k0 n0 x0 ks)) (most:Int) (hm0:0≤most) (hm1:most≤120)
  (w:World) (v:Value) (h:Is w v (LExpr.mk k0 n0 x0 ks)):Calls Tryz.prog 105 #[v,.int .i64 most,.int .i64 d] w fun e' w'=>CntO (LExpr.mk k0 n0 x0 ks) most d w e' w':=by
 obtain ⟨a,c,rfl,-,-,-,hnc,hcm,hr⟩:=LExpr.inv h;obtain ⟨z1,z2,hkk⟩:=okE_iff.1 hok;simp only [maxLen] at hcm;have HR:=zh hr;have HK:=zh hkk;have HIH:=zh ih;have HS:Hid (sizeE (LExpr.mk k0 n0 x0 ks)=sizeKs ks+1):=rfl;clear hr h hkk hok ih;generalize hN:ks.length=N at *;have HN:=zh hN;clear hN;by_cases q:d=0
 case pos =>
  subst q;go_enter Tryz.func105,Tryz.ntmps105;go_wp2;go_ret;exact ⟨most+1,rfl,by omega,by omega,fun h=>by omega,bw⟩
 have qd:((d:Int) == 0)=false:=by simpa using q
 have hd1:1≤d:=by omega
 clear q;go_enter Tryz.func105,Tryz.ntmps105;go_wp2;have hba:Below w.heap.size w (w.alloc (.cells #[.int .i64 k0,.string n0,.string x0,.slice a N c] 68)):=bw;have hg3:(w.alloc (.cells #[.int .i64 k0,.string n0,.string x0,.slice a N c] 68)).cell? ⟨w.heap.size,3,none⟩=some (.slice a N c):=by simp
 generalize w.alloc (.cells #[.int .i64 k0,.string n0,.string x0,.slice a N c] 68)=w1 at *;have HBA:=zh hba;have HG3:=zh hg3;clear hba hg3;go_loopw [7,8] (fun nv kv wr=>∃ (k:Nat) (n:Int),k≤N∧kv=.int .i64 k∧nv=.int .i64 n∧1≤n∧n≤((d:Int)+1) * 17592186044416∧Hid (n≤most→(sizeKs (ks.take k):Int)+1≤n)∧Hid (Below w1.heap.size w1 wr)) (fun _ kv _=>N - (intOf kv).toNat)
 case atStart=>exact ⟨0,_,by omega,rfl,rfl,by omega,by omega,by show _→_;intro _;simp [sizeKs];omega,zh (Below.refl _ _)⟩
 case round =>
  obtain ⟨k,n,hk,rfl,rfl,hn1,hn2,HSZ,HB⟩:=hrel;have g3:=kept HB.out HG3.out;have hsg:=cell_lt g3;by_cases hki:k < N
  ·have hkz:(k:Int) < (N:Int):=by omega
   have hk0:(0:Int)≤(k:Int):=by omega
   by_cases hnm:n≤most
   ·obtain ⟨y,hy⟩:=get_lt (xs:=ks) (k:=k) (by rw [HN.out];exact hki);obtain ⟨k1,n1,x1,ks1⟩:=y;have hmem:LExpr.mk k1 n1 x1 ks1∈ks:=List.mem_of_getElem? hy;have HSN:Hid (sizeKs (ks.take (k+1))=sizeKs (ks.take k)+sizeE (LExpr.mk k1 n1 x1 ks1)):=by show _=_;rw [take_at hy,sizeKs_snoc]
    obtain ⟨b,off,rfl,hb,a3,c3,y0',y1',y2',y3',i0,s1,s2,l3,m3,r3⟩:=LExpr.at_row HR.out hy;have HBW:Hid (Below w.heap.size w wr):=HBA.out.trans (HB.out.mono HBA.out.size);have y0:=kept HBW.out y0';have y1:=kept HBW.out y1';have y2:=kept HBW.out y2';have y3:=kept HBW.out y3';have hsb:=cell_lt y0;have hcall:=HIH.out (d - 1) (by omega) _ (HK.out _ hmem) (most - n) (by omega) (by omega) wr (.agg #[.int .i64 k1,.string n1,.string x1,.slice a3 ks1.length c3]) (LExpr.mk' i0 s1 s2 l3 m3 (r3.mono HBW.out));rw [show (((d - 1:Nat)):Int)=(d:Int) - 1 by omega] at hcall;clear hy hmem y0' y1' y2' y3' r3 i0 s1 s2;generalize ks1.length=L1 at *;go_wp2_with fail
    refine hcall.mono ?_;unfold CntO;rintro e w2 ⟨m,rfl,h1,h2,h3,hb2⟩;have HB2:Hid (Below w1.heap.size w1 w2):=HB.out.trans (hb2.mono HB.out.size);rw [show (((d - 1:Nat)):Int)=(d:Int) - 1 by omega] at h2;have HM:Hid (n+m≤most→(sizeKs (ks.take (k+1)):Int)+1≤n+m):=by
     show _→_;intro hle;have e1:=h3 (by omega);have e2:=HSZ.out (by omega);have e3:=HSN.out;omega
    clear hcall hb2 h3;go_wp2;go_roundw
    case rel=>exact ⟨k+1,n+m,by omega,by go_num,rfl,by omega,by omega,HM,HB2⟩
    case measure=>exact zm
   ·have HF:Hid (¬ n≤most):=hnm;go_wp2;go_ret;exact ⟨n,rfl,hn1,hn2,fun h=>by have:=HF.out;omega,HBA.out.trans (HB.out.mono HBA.out.size)⟩
  ·have hkz:¬ (k:Int) < (N:Int):=by omega
   have HF:Hid (n≤most→(sizeE (LExpr.mk k0 n0 x0 ks):Int)≤n):=by
    show _→_;intro hle;have e1:=HSZ.out hle;rw [List.take_of_length_le (by rw [HN.out];omega)] at e1;have e2:=HS.out;omega
   go_wp2;go_ret;exact ⟨n,rfl,hn1,hn2,HF.out,HBA.out.trans (HB.out.mono HBA.out.size)⟩
theorem count_p (d:Nat):d≤40→CntP d:=by
 induction d using Nat.strongRecOn with
 | _ d ih =>
  intro hd e hok most h0 h1 w v h;obtain ⟨k0,n0,x0,ks⟩:=e;exact count_step d hd (fun d' hd'=>ih d' hd' (by omega)) k0 n0 x0 ks hok most h0 h1 w v h
theorem FewE_ref (e:LExpr) (hok:okE e) (w:World) (v:Value) (h:Is w v e):Calls Tryz.prog 49 #[v] w fun e' w'=>∃ b,e'=.returned (.bool b)∧(b=true→sizeE e≤120)∧Below w.heap.size w w':=by
 have HI:=zh h;have HC:=zh (fun W v h=>count_p 40 (by decide) e hok 120 (by decide) (by decide) W v h);obtain ⟨k0,n0,x0,a,K,k,rfl⟩:=expBox h;have hba:Below w.heap.size w (w.alloc (.cells #[.int .i64 k0,.string n0,.string x0,.slice a K k] 68)):=bw;have hcall:=HC.out (w.alloc (.cells #[.int .i64 k0,.string n0,.string x0,.slice a K k] 68)) _ (HI.out.mono hba);have HBA:=zh hba;clear h hok hba HC;go_enter Tryz.func49,Tryz.ntmps49;go_wp2_with fail
 refine hcall.mono ?_;unfold CntO;rintro e1 w2 ⟨n,rfl,h1,h2,h3,hb2⟩;have HB2:Hid (Below w.heap.size w w2):=HBA.out.trans (hb2.mono (by simp));have H3:=zh h3;clear hcall hb2 h3;go_wp2;go_ret;refine ⟨_,rfl,fun hb=>?_,HB2.out⟩;have hb:=of_decide_eq_true hb;have:=H3.out hb;omega
def WgO (w:World) (e':Ending) (w':World):Prop:=∃ s p:Int,e'=.returned (.tuple #[.int .i64 s,.int .i64 p])∧Below w.heap.size w w'
def WgP (c:Catalog) (e:LExpr):Prop:=∀ (w:World) (vc v:Value),Is w vc c→Is w v e→Calls Tryz.prog 106 #[vc,v] w fun e' w'=>WgO w e' w'
theorem zqrfe3 {p:Prop} (h:p:=by
 exact ⟨kept HB5.out f0,kept HB5.out f1,kept HB5.out f2,kept HB5.out f3,kept HB5.out g3,kept HB5.out y0,kept HB5.out y1,kept HB5.out y2,kept HB5.out y3⟩):p:=h
theorem zrrfe2 {p:Prop} (h:p:=by
 go_wp2;go_roundw
 case rel=>exact ⟨i+1,_,_,by omega,by go_num,rfl,rfl,HB6⟩
 case measure=>exact zm):p:=h
theorem weight_step (c:Catalog) (k0:Int) (n0 x0:ByteArray) (ks:List LExpr) (ih:∀ e∈ks,WgP c e):WgP c (LExpr.mk k0 n0 x0 ks):=by
 intro w vc v hc h;have HC:=zh hc;have HIH:=zh ih;obtain ⟨a,k,rfl,hik,hs1,hs2,hnc,hcm,hr⟩:=LExpr.inv h;simp only [maxLen] at hcm;have HR:=zh hr;obtain ⟨a0,N0,c0,a1,N1,c1,a2,N2,c2,a3,N3,c3,rfl⟩:=catBox hc;clear hr h ih hc;generalize hN:ks.length=N at *;have HN:=zh hN;clear hN;by_cases q0:k0=0
 case pos =>
  subst q0;go_enter Tryz.func106,Tryz.ntmps106;go_wp2;go_ret2;exact ⟨1,0,rfl,bw⟩
 have q0f:(k0 == 0)=false:=by simpa using q0
 clear q0;have hb1:Below w.heap.size w ((w.alloc (.cells #[.slice a0 N0 c0,.slice a1 N1 c1,.slice a2 N2 c2,.slice a3 N3 c3] 27)).alloc (.cells #[.int .i64 k0,.string n0,.string x0,.slice a N k] 68)):=bw;have HB1:=zh hb1;by_cases q1:k0=1
 case pos =>
  subst q1;have hcall:=Later_ref ((w.alloc (.cells #[.slice a0 N0 c0,.slice a1 N1 c1,.slice a2 N2 c2,.slice a3 N3 c3] 27)).alloc (.cells #[.int .i64 1,.string n0,.string x0,.slice a N k] 68)) _ c n0 (HC.out.mono hb1);clear hb1;go_enter Tryz.func106,Tryz.ntmps106;go_wp2_with fail
  refine hcall.mono ?_;unfold LaOut;rintro e w2 ⟨sv,rfl,hs,hb2⟩;obtain ⟨aq,cq,rfl,-⟩:=list_inv hs;have HB2:Hid (Below w.heap.size w w2):=HB1.out.trans (hb2.mono (by simp;omega));clear hcall hs hb2;generalize ((laterC c n0).getD []).length=LL at *;go_wp2;go_ret2;exact ⟨_,0,rfl,HB2.out⟩
 have q1f:(k0 == 1)=false:=by simpa using q1
 clear q1;go_enter Tryz.func106,Tryz.ntmps106;go_wp2;obtain ⟨-,hd,hg⟩:=box2 w #[.slice a0 N0 c0,.slice a1 N1 c1,.slice a2 N2 c2,.slice a3 N3 c3] #[.int .i64 k0,.string n0,.string x0,.slice a N k] 27 68;clear hb1;generalize (w.alloc (.cells #[.slice a0 N0 c0,.slice a1 N1 c1,.slice a2 N2 c2,.slice a3 N3 c3] 27)).alloc (.cells #[.int .i64 k0,.string n0,.string x0,.slice a N k] 68)=w1 at *;have D0:=zh (hd 0 _ rfl);have D1:=zh (hd 1 _ rfl);have D2:=zh (hd 2 _ rfl);have D3:=zh (hd 3 _ rfl);have G0:=zh (hg 0 _ rfl);have G3:=zh (hg 3 _ rfl);clear hd hg;go_loopw [8,9,10] (fun sv pv kv wr=>∃ (i:Nat) (s p:Int),i≤N∧kv=.int .i64 i∧sv=.int .i64 s∧pv=.int .i64 p∧Hid (Below w1.heap.size w1 wr)) (fun _ _ kv _=>N - (intOf kv).toNat)
 case atStart=>exact ⟨0,0,0,by omega,rfl,rfl,rfl,zh (Below.refl _ _)⟩
 case round =>
  obtain ⟨i,s,p,hi,rfl,rfl,rfl,HB⟩:=hrel;have g3:=kept HB.out G3.out;have g0:=kept HB.out G0.out;have hsg:w.heap.size+1 < wr.heap.size:=cell_lt g3;have hsg0:w.heap.size < wr.heap.size:=by omega
  by_cases hki:i < N
  ·have hkz:(i:Int) < (N:Int):=by omega
   have hk0:(0:Int)≤(i:Int):=by omega
   obtain ⟨y,hy⟩:=get_lt (xs:=ks) (k:=i) (by rw [HN.out];exact hki);obtain ⟨k1,n1,x1,ks1⟩:=y;have hmem:LExpr.mk k1 n1 x1 ks1∈ks:=List.mem_of_getElem? hy;obtain ⟨b,off,rfl,hb,a4,c4,y0',y1',y2',y3',i0,s1,s2,l3,m3,r3⟩:=LExpr.at_row HR.out hy;have HBW:Hid (Below w.heap.size w wr):=HB1.out.trans (HB.out.mono HB1.out.size);have y0:=kept HBW.out y0';have y1:=kept HBW.out y1';have y2:=kept HBW.out y2';have y3:=kept HBW.out y3';have f0:=kept HB.out D0.out;have f1:=kept HB.out D1.out;have f2:=kept HB.out D2.out;have f3:=kept HB.out D3.out;have hsb:=cell_lt y0;have hcall:=fun W (hbb:Below wr.heap.size wr W)=>HIH.out _ hmem W (.agg #[.slice a0 N0 c0,.slice a1 N1 c1,.slice a2 N2 c2,.slice a3 N3 c3]) (.agg #[.int .i64 k1,.string n1,.string x1,.slice a4 ks1.length c4]) ((HC.out.mono HBW.out).mono hbb) (LExpr.mk' i0 s1 s2 l3 m3 ((r3.mono HBW.out).mono hbb));clear hy hmem y0' y1' y2' y3' r3 i0 s1 s2 hb;generalize ks1.length=L1 at *;go_wp2;refine wp_region_held_drew (S:=(fun w':World=>w'.cell? ⟨w.heap.size,0,none⟩=some (.slice a0 N0 c0)∧w'.cell? ⟨w.heap.size,1,none⟩=some (.slice a1 N1 c1)∧w'.cell? ⟨w.heap.size,2,none⟩=some (.slice a2 N2 c2)∧w'.cell? ⟨w.heap.size,3,none⟩=some (.slice a3 N3 c3)∧w'.cell? ⟨w.heap.size+1,3,none⟩=some (.slice (some ⟨b,off,none⟩) N k)∧w'.cell? ⟨b,off+i * 4,none⟩=some (.int .i64 k1)∧w'.cell? ⟨b,off+i * 4+1,none⟩=some (.string n1)∧w'.cell? ⟨b,off+i * 4+2,none⟩=some (.string x1)∧w'.cell? ⟨b,off+i * 4+3,none⟩=some (.slice a4 L1 c4))) (by kernel_rfl) (by exact ⟨f0,f1,f2,f3,g3,y0,y1,y2,y3⟩) (fun hH0=>?_);refine tkB 0 hH0 rfl ?_;try simp only [tkS,Act.put]
   refine tkB 1 hH0 rfl ?_;try simp only [tkS,Act.put]
   refine tkB 2 hH0 rfl ?_;try simp only [tkS,Act.put]
   refine tkB 3 hH0 rfl ?_;try simp only [tkS,Act.put]
   refine tkB 4 hH0 rfl ?_;try simp only [tkS,Act.put]
   refine tkB 5 hH0 rfl ?_;try simp only [tkS,Act.put]
   refine rd1 6 rfl (fun K hK=>?_);go_simp;go_at_call 106
   refine (hcall _ bw).mono ?_;unfold WgO;rintro e w5 ⟨s5,p5,rfl,hb5⟩;have HB5:Hid (Below wr.heap.size wr w5):=zh (by exact bw);go_wp2_with fail
   refine hK.out _ _ ?_ (fun hH1=>?_)
   ·exact zqrfe3
   try simp only [tkS,Act.put]
   clear hK K;refine tkB 7 hH1 rfl ?_;try simp only [tkS,Act.put]
   refine tkB 8 hH1 rfl ?_;try simp only [tkS,Act.put]
   refine tkB 9 hH1 rfl ?_;try simp only [tkS,Act.put]
   refine tkB 10 hH1 rfl ?_;try simp only [tkS,Act.put]
   refine tkB 11 hH1 rfl ?_;try simp only [tkS,Act.put]
   refine wpAnyH_done (by kernel_rfl) ?_ _;have h0:=kept HB5.out g0;have HB6:Hid (Below w1.heap.size w1 w5):=HB.out.trans (HB5.out.mono HB.out.size);clear f0 f1 f2 f3 g3 y0 y1 y2 y3 hcall;by_cases q3:k0=3∨i=0
   ·rcases q3 with rfl | rfl
    ·exact zrrfe2
    ·cases q3:(k0 == 3)
     all_goals
      go_wp2;go_roundw
      case rel=>exact ⟨1,_,_,by omega,rfl,rfl,rfl,HB6⟩
      case measure=>exact zm
   ·have q3f:(k0 == 3)=false:=by simp;omega
    have qif:((i:Int) == 0)=false:=by simp;omega
    clear q3;exact zrrfe2
  ·have hkz:¬ (i:Int) < (N:Int):=by omega
   go_wp2;go_ret2;exact ⟨_,_,rfl,HB1.out.trans (HB.out.mono HB1.out.size)⟩
theorem weight_p (c:Catalog) (e:LExpr):WgP c e:=LExpr.ind (fun k n x ks ih=>weight_step c k n x ks ih) e
theorem Weight_p (c:Catalog) (e:LExpr) (w:World) (vc v:Value) (hc:Is w vc c) (h:Is w v e):Calls Tryz.prog 50 #[vc,v] w fun e' w'=>∃ p:Int,e'=.returned (.int .i64 p)∧Below w.heap.size w w':=by
 obtain ⟨k0,n0,x0,a,K,k,rfl⟩:=expBox h;obtain ⟨a0,N0,c0,a1,N1,c1,a2,N2,c2,a3,N3,c3,rfl⟩:=catBox hc;have hb1:Below w.heap.size w ((w.alloc (.cells #[.slice a0 N0 c0,.slice a1 N1 c1,.slice a2 N2 c2,.slice a3 N3 c3] 27)).alloc (.cells #[.int .i64 k0,.string n0,.string x0,.slice a K k] 68)):=bw;have hcall:=weight_p c e ((w.alloc (.cells #[.slice a0 N0 c0,.slice a1 N1 c1,.slice a2 N2 c2,.slice a3 N3 c3] 27)).alloc (.cells #[.int .i64 k0,.string n0,.string x0,.slice a K k] 68)) _ _ (hc.mono hb1) (h.mono hb1);have HB1:=zh hb1;clear hc h hb1;go_enter Tryz.func50,Tryz.ntmps50;go_wp2_with fail
 refine hcall.mono ?_;unfold WgO;rintro e1 w2 ⟨s,p,rfl,hb2⟩;have HB2:Hid (Below w.heap.size w w2):=HB1.out.trans (hb2.mono (by simp;omega));clear hcall hb2;go_wp2;go_ret;exact ⟨p,rfl,HB2.out⟩

def SizP (e:LExpr):Prop:=sizeE e≤1000000→∀ (w:World) (v:Value),Is w v e→Calls Tryz.prog 217 #[v] w fun e' w'=>e'=.returned (.int .i64 (sizeE e))∧Below w.heap.size w w'
theorem size_step (k0:Int) (n0 x0:ByteArray) (ks:List LExpr) (ih:∀ e∈ks,SizP e):SizP (LExpr.mk k0 n0 x0 ks):=by
 intro hsz w v h;obtain ⟨a,c,rfl,-,s1,s2,hnc,hcm,hr⟩:=LExpr.inv h;simp only [maxLen] at hcm;have HR:=zh hr;have HIH:=zh ih;clear hr h ih s1 s2;have HD:Hid (sizeE (LExpr.mk k0 n0 x0 ks)=sizeKs ks+1):=rfl;have HSZ:=zh hsz;clear hsz;generalize sizeE (LExpr.mk k0 n0 x0 ks)=DD at *;generalize hN:ks.length=N at *;have HN:=zh hN;clear hN;go_enter Tryz.func217,Tryz.ntmps217;go_wp2;have hba:Below w.heap.size w (w.alloc (.cells #[.int .i64 k0,.string n0,.string x0,.slice a N c] 68)):=bw;have hg3:(w.alloc (.cells #[.int .i64 k0,.string n0,.string x0,.slice a N c] 68)).cell? ⟨w.heap.size,3,none⟩=some (.slice a N c):=by simp
 generalize (w.alloc (.cells #[.int .i64 k0,.string n0,.string x0,.slice a N c] 68))=w1 at *;have HBA:=zh hba;have HG3:=zh hg3;clear hba hg3;go_loopw [3,4] (fun nv kv wr=>∃ (k d:Nat),k≤N∧kv=.int .i64 k∧nv=.int .i64 d∧d≤1000000∧Hid (d=sizeKs (ks.take k)+1)∧Hid (Below w1.heap.size w1 wr)) (fun _ kv _=>N - (intOf kv).toNat)
 case atStart=>exact ⟨0,1,by omega,rfl,rfl,by omega,rfl,zh (Below.refl _ _)⟩
 case round =>
  obtain ⟨k,d,hk,rfl,rfl,hd,HDk,HB⟩:=hrel;have g3:=kept HB.out HG3.out;have hsg:=cell_lt g3;by_cases hki:k < N
  ·have hkz:(k:Int) < (N:Int):=by omega
   have hk0:(0:Int)≤(k:Int):=by omega
   obtain ⟨y,hy⟩:=get_lt (xs:=ks) (k:=k) (by rw [HN.out];exact hki);obtain ⟨k1,n1,x1,ks1⟩:=y;have hmem:LExpr.mk k1 n1 x1 ks1∈ks:=List.mem_of_getElem? hy;obtain ⟨b,off,rfl,hb,a3,c3,y0',y1',y2',y3',i0,s1,s2,l3,m3,r3⟩:=LExpr.at_row HR.out hy;have HBW:Hid (Below w.heap.size w wr):=HBA.out.trans (HB.out.mono HBA.out.size);have y0:=kept HBW.out y0';have y1:=kept HBW.out y1';have y2:=kept HBW.out y2';have y3:=kept HBW.out y3';have hsb:=cell_lt y0;have HS:Hid (sizeKs (ks.take (k+1))=sizeKs (ks.take k)+sizeE (LExpr.mk k1 n1 x1 ks1)):=by show _=_;rw [take_at hy,sizeKs_snoc]
   have hle:=sizeKs_take ks (k+1);have hs1:sizeE (LExpr.mk k1 n1 x1 ks1)≤1000000:=by have:=size_mem hmem;have h2:=HSZ.out;have h3:=HD.out;omega
   have hd1:d+sizeE (LExpr.mk k1 n1 x1 ks1)≤1000000:=by have h2:=HSZ.out;have h3:=HD.out;have h4:=HDk.out;have h5:=HS.out;omega
   have hcall:=HIH.out _ hmem hs1 wr (.agg #[.int .i64 k1,.string n1,.string x1,.slice a3 ks1.length c3]) (LExpr.mk' i0 s1 s2 l3 m3 (r3.mono HBW.out));clear hy hmem y0' y1' y2' y3' r3 i0 s1 s2 hle;generalize sizeE (LExpr.mk k1 n1 x1 ks1)=d1 at *;generalize ks1.length=L1 at *;have HM:Hid (d+d1=sizeKs (ks.take (k+1))+1):=by show _=_;rw [HS.out];have:=HDk.out;omega
   go_wp2_with fail
   refine hcall.mono ?_;rintro e w2 ⟨rfl,hb2⟩;have HB2:Hid (Below w1.heap.size w1 w2):=HB.out.trans (hb2.mono HB.out.size);clear hb2 hcall;go_wp2;go_roundw
   case rel=>exact ⟨k+1,d+d1,by omega,by go_num,(by first | rfl | go_num | (simp;omega)),hd1,HM,HB2⟩
   case measure=>exact zm
  ·have hkz:¬ (k:Int) < (N:Int):=by omega
   have HT:Hid (DD=d):=by show _=_;rw [HD.out,HDk.out,List.take_of_length_le (by rw [HN.out];omega)]
   go_wp2;go_ret;exact ⟨ret_i (by rw [HT.out]),HBA.out.trans (HB.out.mono HBA.out.size)⟩
theorem Size_ref (e:LExpr):SizP e:=LExpr.ind (fun k n x ks ih=>size_step k n x ks ih) e
def DepP (e:LExpr):Prop:=sizeE e≤1000000→∀ (w:World) (v:Value),Is w v e→Calls Tryz.prog 218 #[v] w fun e' w'=>e'=.returned (.int .i64 (depthE e))∧Below w.heap.size w w'
theorem depth_step (k0:Int) (n0 x0:ByteArray) (ks:List LExpr) (ih:∀ e∈ks,DepP e):DepP (LExpr.mk k0 n0 x0 ks):=by
 intro hsz w v h;obtain ⟨a,c,rfl,-,s1,s2,hnc,hcm,hr⟩:=LExpr.inv h;simp only [maxLen] at hcm;have HR:=zh hr;have HIH:=zh ih;clear hr h ih s1 s2;have HD:Hid (depthE (LExpr.mk k0 n0 x0 ks)=depthKs ks+1):=rfl;have HSZ:=zh hsz;clear hsz;generalize depthE (LExpr.mk k0 n0 x0 ks)=DD at *;generalize hN:ks.length=N at *;have HN:=zh hN;clear hN;go_enter Tryz.func218,Tryz.ntmps218;go_wp2;have hba:Below w.heap.size w (w.alloc (.cells #[.int .i64 k0,.string n0,.string x0,.slice a N c] 68)):=bw;have hg3:(w.alloc (.cells #[.int .i64 k0,.string n0,.string x0,.slice a N c] 68)).cell? ⟨w.heap.size,3,none⟩=some (.slice a N c):=by simp
 generalize (w.alloc (.cells #[.int .i64 k0,.string n0,.string x0,.slice a N c] 68))=w1 at *;have HBA:=zh hba;have HG3:=zh hg3;clear hba hg3;go_loopw [3,4] (fun nv kv wr=>∃ (k d:Nat),k≤N∧kv=.int .i64 k∧nv=.int .i64 d∧d≤1000000∧Hid (d=depthKs (ks.take k))∧Hid (Below w1.heap.size w1 wr)) (fun _ kv _=>N - (intOf kv).toNat)
 case atStart=>exact ⟨0,0,by omega,rfl,rfl,by omega,rfl,zh (Below.refl _ _)⟩
 case round =>
  obtain ⟨k,d,hk,rfl,rfl,hd,HDk,HB⟩:=hrel;have g3:=kept HB.out HG3.out;have hsg:=cell_lt g3;by_cases hki:k < N
  ·have hkz:(k:Int) < (N:Int):=by omega
   have hk0:(0:Int)≤(k:Int):=by omega
   obtain ⟨y,hy⟩:=get_lt (xs:=ks) (k:=k) (by rw [HN.out];exact hki);obtain ⟨k1,n1,x1,ks1⟩:=y;have hmem:LExpr.mk k1 n1 x1 ks1∈ks:=List.mem_of_getElem? hy;obtain ⟨b,off,rfl,hb,a3,c3,y0',y1',y2',y3',i0,s1,s2,l3,m3,r3⟩:=LExpr.at_row HR.out hy;have HBW:Hid (Below w.heap.size w wr):=HBA.out.trans (HB.out.mono HBA.out.size);have y0:=kept HBW.out y0';have y1:=kept HBW.out y1';have y2:=kept HBW.out y2';have y3:=kept HBW.out y3';have hsb:=cell_lt y0;have HS:Hid (depthKs (ks.take (k+1))=max (depthKs (ks.take k)) (depthE (LExpr.mk k1 n1 x1 ks1))):=by show _=_;rw [take_at hy,depthKs_snoc]
   have hs1:sizeE (LExpr.mk k1 n1 x1 ks1)≤1000000:=by have:=size_mem hmem;have h2:=HSZ.out;rw [sizeE] at h2;omega
   have hd1:depthE (LExpr.mk k1 n1 x1 ks1)≤1000000:=Nat.le_trans (depth_le _) hs1;have hcall:=HIH.out _ hmem hs1 wr (.agg #[.int .i64 k1,.string n1,.string x1,.slice a3 ks1.length c3]) (LExpr.mk' i0 s1 s2 l3 m3 (r3.mono HBW.out));clear hy hmem y0' y1' y2' y3' r3 i0 s1 s2 hs1;generalize depthE (LExpr.mk k1 n1 x1 ks1)=d1 at *;generalize ks1.length=L1 at *;by_cases hlt:(d:Int) < (d1:Int)
   ·have HM:Hid (d1=depthKs (ks.take (k+1))):=by show _=_;rw [HS.out,← HDk.out];omega
    go_wp2_with fail
    refine hcall.mono ?_;rintro e w2 ⟨rfl,hb2⟩;have HB2:Hid (Below w1.heap.size w1 w2):=HB.out.trans (hb2.mono HB.out.size);clear hb2 hcall;go_wp2;go_roundw
    case rel=>exact ⟨k+1,d1,by omega,by go_num,(by first | rfl | go_num | (simp;omega)),hd1,HM,HB2⟩
    case measure=>exact zm
   ·have HM:Hid (d=depthKs (ks.take (k+1))):=by show _=_;rw [HS.out,← HDk.out];omega
    go_wp2_with fail
    refine hcall.mono ?_;rintro e w2 ⟨rfl,hb2⟩;have HB2:Hid (Below w1.heap.size w1 w2):=HB.out.trans (hb2.mono HB.out.size);clear hb2 hcall;go_wp2;go_roundw
    case rel=>exact ⟨k+1,d,by omega,by go_num,(by first | rfl | go_num | (simp;omega)),hd,HM,HB2⟩
    case measure=>exact zm
  ·have hkz:¬ (k:Int) < (N:Int):=by omega
   have HT:Hid (DD=d+1):=by show _=_;rw [HD.out,HDk.out,List.take_of_length_le (by rw [HN.out];omega)]
   go_wp2;go_ret;exact ⟨ret_i (by rw [HT.out];simp),HBA.out.trans (HB.out.mono HBA.out.size)⟩
theorem Depth_ref (e:LExpr):DepP e:=LExpr.ind (fun k n x ks ih=>depth_step k n x ks ih) e
theorem name_words {s:ByteArray} (h:nameB s=true):(s.toList == [97,110,100])=false∧(s.toList == [111,114])=false∧(s.toList == [119,105,116,104])=false∧s.toList.isEmpty=false:=by
 have h0:0 < s.size:=by
  rcases Nat.eq_zero_or_pos s.size with h0 | h0
  ·have e:s.data.toList=[]:=by rw [← List.length_eq_zero_iff,by_len];omega
   unfold nameB at h;rw [e] at h;cases h
  ·exact h0
 have h1:=h;rw [nameB_at h0] at h1;simp only [Bool.and_eq_true,Bool.not_eq_true'] at h1;refine ⟨h1.1.1.1.2,h1.1.1.2,h1.1.2,?_⟩;cases q:s.toList.isEmpty
 ·rfl
 ·have e:s.toList=[]:=by simpa using q
  rw [ByteArray.toList_eq] at e;have:=congrArg List.length e;rw [by_len] at this;simp only [List.length_nil] at this;omega
theorem Name32_ref (s:ByteArray) (w:World) (hs:s.size≤maxLen):Calls Tryz.prog 254 #[.string s] w fun e w'=>e=.returned (.bool (nameB s))∧w'=w:=by
 have HN:=fun W=>Name_ref s W hs;cases q:nameB s;case false =>
  rw [q] at HN;go_enter Tryz.func254,Tryz.ntmps254;go_wp2_with fail
  refine (HN _).mono ?_;rintro e w1 ⟨rfl,rfl⟩;go_wp2;go_ret;exact ⟨rfl,rfl⟩
 case true =>
  obtain ⟨q1,q2,q3,-⟩:=name_words q;rw [q] at HN;clear q;go_enter Tryz.func254,Tryz.ntmps254;go_wp2_with fail
  refine (HN _).mono ?_;rintro e w1 ⟨rfl,rfl⟩;go_wp2;go_ret;exact ⟨ret_b (by simp [q1,q2,q3]),rfl⟩
theorem nodeErr_bad {k:Int} {n x:ByteArray} {ks:List LExpr} (h:k < 0∨3 < k):nodeErr (.mk k n x ks)=1:=by
 show (if k == 0 || k == 1 then _ else if k == 2 || k == 3 then _ else (1:Int))=1;rw [if_neg (by simp;omega),if_neg (by simp;omega)]
theorem nodeErr_hi {k:Int} {n x:ByteArray} {ks:List LExpr} (h:2≤k) (h2:k≤3):nodeErr (.mk k n x ks)=if decide ((ks.length:Int) < 2) || !emp n || !emp x then 1 else 0:=by
 show (if k == 0 || k == 1 then _ else if k == 2 || k == 3 then (if decide ((ks.length:Int) < 2) || !emp n || !emp x then 1 else 0) else (1:Int))=_;rw [if_neg (by simp;omega),if_pos (by simp;omega)]
theorem nodesErr_append (a b:List LExpr):nodesErr (a++b)=if nodesErr a == 0 then nodesErr b else nodesErr a:=by
 induction a with
 | nil=>rfl
 | cons e r ih =>
  rw [List.cons_append,nodesErr,nodesErr,ih];cases q:(nodeErr e == 0)
  ·simp [q]
  ·simp
theorem nodesKs_drop {ks:List LExpr} {i:Nat} {y:LExpr} (h:ks[i]?=some y):nodesKs (ks.drop i)=nodesE y++nodesKs (ks.drop (i+1)):=by
 rw [drop_at h];rfl
def ForP (e:LExpr):Prop:=∀ (w:World) (v:Value),Is w v e→Calls Tryz.prog 219 #[v] w fun e' w'=>e'=.returned (.int .i64 (nodesErr (nodesE e)))∧Below w.heap.size w w'
theorem zqrfe0 {p:Prop} (h:p:=by
 obtain ⟨rfl,HB⟩:=hrel;have g3:wr.cell? ⟨w.heap.size,3,none⟩=some (.slice a 0 c):=HB.out.cell (by simp) |>.trans (by simp)
 have hsg:=cell_lt g3;go_wp2;go_ret;exact ⟨ret_i HF.out.symm,Below.trans bw (HB.out.mono (by omega))⟩):p:=h
theorem zqrfe1 {p:Prop} (h:p:=by
 have HF:=one (by rw [HE.out,decide_eq_true p1];rfl);clear one two none' many HE;go_enter Tryz.func219,Tryz.ntmps219;go_wp2;go_ret;exact ⟨ret_i HF.out.symm,bw⟩):p:=h
theorem zqrfe2 {p:Prop} (h:p:=by
 have HF:=two (by rw [HE.out,decide_eq_false p1,b1];rfl);rw [b1] at hn1;clear one two none' many HE;go_enter Tryz.func219,Tryz.ntmps219;go_wp2_with fail
 refine (hn1 _).mono ?_;rintro e h1w ⟨rfl,rfl⟩;go_wp2;go_ret;exact ⟨ret_i HF.out.symm,bw⟩):p:=h
theorem zrrfe0 {p:Prop} (h:p:=by
 go_enter Tryz.func219,Tryz.ntmps219;go_wp2;go_ret;exact ⟨ret_i HF.out.symm,bw⟩):p:=h
theorem zrrfe1 {p:Prop} (h:p:=by
 go_wp2;go_loopw [3] (fun kv wr=>kv=.int .i64 0∧Hid (Below (w.heap.size+1) (w.alloc (.cells #[.int .i64 0,.string n0,.string x0,.slice a 0 c] 68)) wr)) (fun _ _=>0)
 case atStart=>exact ⟨rfl,zh (Below.refl _ _)⟩
 case round =>exact zqrfe0):p:=h
theorem form_step (k0:Int) (n0 x0:ByteArray) (ks:List LExpr) (ih:∀ e∈ks,ForP e):ForP (LExpr.mk k0 n0 x0 ks):=by
 intro w v h;obtain ⟨a,c,rfl,-,s1,s2,hnc,hcm,hr⟩:=LExpr.inv h;simp only [maxLen] at hcm;have HR:=zh hr;have HIH:=zh ih;clear hr h ih;have HT:Hid (nodesErr (nodesE (LExpr.mk k0 n0 x0 ks))=if nodeErr (LExpr.mk k0 n0 x0 ks) == 0 then nodesErr (nodesKs ks) else nodeErr (LExpr.mk k0 n0 x0 ks)):=by show _=_;rw [nodesE];rfl
 have HE1:Hid (k0 < 0∨3 < k0→nodeErr (LExpr.mk k0 n0 x0 ks)=1):=zh nodeErr_bad;have HE2:Hid (2≤k0→k0≤3→nodeErr (LExpr.mk k0 n0 x0 ks)=if decide ((ks.length:Int) < 2) || !emp n0 || !emp x0 then 1 else 0):=zh nodeErr_hi;have HE3:Hid (k0=0→nodeErr (LExpr.mk k0 n0 x0 ks)=if decide ((0:Int) < ks.length) then 1 else if !nameB n0 || (!emp x0 && !nameB x0) then 2 else 0):=by show _→_;rintro rfl;unfold nodeErr;simp
 have HE4:Hid (k0=1→nodeErr (LExpr.mk k0 n0 x0 ks)=if decide ((0:Int) < ks.length) || !emp x0 then 1 else if !nameB n0 || (!emp x0 && !nameB x0) then 2 else 0):=by show _→_;rintro rfl;unfold nodeErr;simp
 have HK0:Hid (ks.length=0→nodesErr (nodesKs ks)=0):=by show _→_;intro h;rw [List.length_eq_zero_iff.1 h];rfl
 have hn1:=fun W=>Name32_ref n0 W s1;have hn2:=fun W=>Name32_ref x0 W s2;clear s1 s2;generalize nodesErr (nodesE (LExpr.mk k0 n0 x0 ks))=rr at *;generalize nodeErr (LExpr.mk k0 n0 x0 ks)=r at *;generalize hN:ks.length=N at *;have HN:=zh hN;clear hN;unfold emp at HE2 HE3 HE4;have one:r=1→Hid (rr=1):=fun h=>by show _=_;rw [HT.out,h];rfl
 have two:r=2→Hid (rr=2):=fun h=>by show _=_;rw [HT.out,h];rfl
 have none':r=0→N=0→Hid (rr=0):=fun h h2=>by show _=_;rw [HT.out,h,HK0.out h2];rfl
 have many:r=0→Hid (rr=nodesErr (nodesKs ks)):=fun h=>by show _=_;rw [HT.out,h];rfl
 clear HT HK0;by_cases qa:k0 < 0
 ·have HF:=one (HE1.out (.inl qa));clear one two none' many HE1 HE2 HE3 HE4;exact zrrfe0
 by_cases qa2:3 < k0
 ·have HF:=one (HE1.out (.inr qa2));clear one two none' many HE1 HE2 HE3 HE4;exact zrrfe0
 by_cases qb:2≤k0
 ·have HE:=zh (HE2.out qb (by omega));clear HE1 HE2 HE3 HE4;by_cases p1:(N:Int) < 2
  ·exact zqrfe1
  cases p2:n0.toList.isEmpty;case false =>
   have HF:=one (by rw [HE.out,decide_eq_false p1,p2];rfl);clear one two none' many HE;exact zrrfe0
  cases p3:x0.toList.isEmpty;case false =>
   have HF:=one (by rw [HE.out,decide_eq_false p1,p2,p3];rfl);have p2e:n0.toList=[]:=by simpa using p2
   clear one two none' many HE;exact zrrfe0
  have HF:=many (by rw [HE.out,decide_eq_false p1,p2,p3];rfl);have p2e:n0.toList=[]:=by simpa using p2
  have p3e:x0.toList=[]:=by simpa using p3
  clear one two none' many HE;go_enter Tryz.func219,Tryz.ntmps219;go_wp2;have hba:Below w.heap.size w (w.alloc (.cells #[.int .i64 k0,.string n0,.string x0,.slice a N c] 68)):=bw;have hg3:(w.alloc (.cells #[.int .i64 k0,.string n0,.string x0,.slice a N c] 68)).cell? ⟨w.heap.size,3,none⟩=some (.slice a N c):=by simp
  generalize (w.alloc (.cells #[.int .i64 k0,.string n0,.string x0,.slice a N c] 68))=w1 at *;have HBA:=zh hba;have HG3:=zh hg3;clear hba hg3;go_loopw [3] (fun kv wr=>∃ (k:Nat),k≤N∧kv=.int .i64 k∧Hid (rr=nodesErr (nodesKs (ks.drop k)))∧Hid (Below w1.heap.size w1 wr)) (fun kv _=>N - (intOf kv).toNat)
  case atStart=>exact ⟨0,by omega,rfl,HF,zh (Below.refl _ _)⟩
  case round =>
   obtain ⟨k,hk,rfl,HDk,HB⟩:=hrel;have g3:=kept HB.out HG3.out;have hsg:=cell_lt g3;by_cases hki:k < N
   ·have hkz:(k:Int) < (N:Int):=by omega
    have hk0:(0:Int)≤(k:Int):=by omega
    obtain ⟨y,hy⟩:=get_lt (xs:=ks) (k:=k) (by rw [HN.out];exact hki);obtain ⟨k1,n1,x1,ks1⟩:=y;have hmem:LExpr.mk k1 n1 x1 ks1∈ks:=List.mem_of_getElem? hy;obtain ⟨b,off,rfl,hb,a3,c3,y0',y1',y2',y3',i0,s1,s2,l3,m3,r3⟩:=LExpr.at_row HR.out hy;have HBW:Hid (Below w.heap.size w wr):=HBA.out.trans (HB.out.mono HBA.out.size);have y0:=kept HBW.out y0';have y1:=kept HBW.out y1';have y2:=kept HBW.out y2';have y3:=kept HBW.out y3';have hsb:=cell_lt y0;have HS:Hid (rr=if nodesErr (nodesE (LExpr.mk k1 n1 x1 ks1)) == 0 then nodesErr (nodesKs (ks.drop (k+1))) else nodesErr (nodesE (LExpr.mk k1 n1 x1 ks1))):=by show _=_;rw [HDk.out,nodesKs_drop hy,nodesErr_append]
    have hcall:=HIH.out _ hmem wr (.agg #[.int .i64 k1,.string n1,.string x1,.slice a3 ks1.length c3]) (LExpr.mk' i0 s1 s2 l3 m3 (r3.mono HBW.out));clear hy hmem y0' y1' y2' y3' r3 i0 s1 s2;generalize nodesErr (nodesE (LExpr.mk k1 n1 x1 ks1))=d1 at *;generalize ks1.length=L1 at *;by_cases hd:d1=0
    ·have HM:Hid (rr=nodesErr (nodesKs (ks.drop (k+1)))):=by show _=_;rw [HS.out,hd];rfl
     subst hd;go_wp2_with fail
     refine hcall.mono ?_;rintro e w2 ⟨rfl,hb2⟩;have HB2:Hid (Below w1.heap.size w1 w2):=HB.out.trans (hb2.mono HB.out.size);clear hb2 hcall;go_wp2;go_roundw
     case rel=>exact ⟨k+1,by omega,by go_num,HM,HB2⟩
     case measure=>exact zm
    ·have q2:(d1 == 0)=false:=by simpa using hd
     have q3:(d1 != 0)=true:=by simpa using hd
     have HM:Hid (rr=d1):=by show _=_;rw [HS.out,q2];rfl
     clear hd;go_wp2_with fail
     refine hcall.mono ?_;rintro e w2 ⟨rfl,hb2⟩;have HB2:Hid (Below w1.heap.size w1 w2):=HB.out.trans (hb2.mono HB.out.size);clear hb2 hcall;go_wp2;go_ret;exact ⟨ret_i HM.out.symm,HBA.out.trans (HB2.out.mono HBA.out.size)⟩
   ·have hkz:¬ (k:Int) < (N:Int):=by omega
    have HM:Hid (rr=0):=by show _=_;rw [HDk.out,List.drop_eq_nil_of_le (by rw [HN.out];omega)];rfl
    go_wp2;go_ret;exact ⟨ret_i HM.out.symm,HBA.out.trans (HB.out.mono HBA.out.size)⟩
 by_cases qc:k0=0
 case pos =>
  subst qc;have HE:=zh (HE3.out rfl);clear HE1 HE2 HE3 HE4;by_cases p1:(0:Int) < (N:Int)
  ·exact zqrfe1
  have hN0:N=0:=by omega
  cases p3:x0.toList.isEmpty;case false =>
   cases b1:nameB n0;case false =>exact zqrfe2
   cases b2:nameB x0;case false =>
    have HF:=two (by rw [HE.out,decide_eq_false p1,b1,b2,p3];rfl);rw [b1] at hn1;rw [b2] at hn2;clear one two none' many HE;go_enter Tryz.func219,Tryz.ntmps219;go_wp2_with fail
    refine (hn1 _).mono ?_;rintro e h1w ⟨rfl,rfl⟩;go_wp2_with fail
    refine (hn2 _).mono ?_;rintro e h2w ⟨rfl,rfl⟩;go_wp2;go_ret;exact ⟨ret_i HF.out.symm,bw⟩
   have HF:=none' (by rw [HE.out,decide_eq_false p1,b1,b2,p3];rfl) hN0;rw [b1] at hn1;rw [b2] at hn2;clear one two none' many HE;subst hN0;go_enter Tryz.func219,Tryz.ntmps219;go_wp2_with fail
   refine (hn1 _).mono ?_;rintro e h1w ⟨rfl,rfl⟩;go_wp2_with fail
   refine (hn2 _).mono ?_;rintro e h2w ⟨rfl,rfl⟩;exact zrrfe1
  case true =>
   have p3e:x0.toList=[]:=by simpa using p3
   cases b1:nameB n0;case false =>exact zqrfe2
   have HF:=none' (by rw [HE.out,decide_eq_false p1,b1,p3];rfl) hN0;rw [b1] at hn1;clear one two none' many HE;subst hN0;go_enter Tryz.func219,Tryz.ntmps219;go_wp2_with fail
   refine (hn1 _).mono ?_;rintro e h1w ⟨rfl,rfl⟩;exact zrrfe1
 obtain qc:k0=1:=by omega
 subst qc;have HE:=zh (HE4.out rfl);clear HE1 HE2 HE3 HE4;by_cases p1:(0:Int) < (N:Int)
 ·exact zqrfe1
 have hN0:N=0:=by omega
 cases p3:x0.toList.isEmpty;case false =>
  have HF:=one (by rw [HE.out,decide_eq_false p1,p3];rfl);clear one two none' many HE;exact zrrfe0
 case true =>
  have p3e:x0.toList=[]:=by simpa using p3
  cases b1:nameB n0;case false =>
   have HF:=two (by rw [HE.out,decide_eq_false p1,b1,p3];rfl);rw [b1] at hn1;clear one two none' many HE;go_enter Tryz.func219,Tryz.ntmps219;go_wp2_with fail
   refine (hn1 _).mono ?_;rintro e h1w ⟨rfl,rfl⟩;go_wp2;go_ret;exact ⟨ret_i HF.out.symm,bw⟩
  have HF:=none' (by rw [HE.out,decide_eq_false p1,b1,p3];rfl) hN0;rw [b1] at hn1;clear one two none' many HE;subst hN0;go_enter Tryz.func219,Tryz.ntmps219;go_wp2_with fail
  refine (hn1 _).mono ?_;rintro e h1w ⟨rfl,rfl⟩;go_wp2;go_loopw [3] (fun kv wr=>kv=.int .i64 0∧Hid (Below (w.heap.size+1) (w.alloc (.cells #[.int .i64 1,.string n0,.string x0,.slice a 0 c] 68)) wr)) (fun _ _=>0)
  case atStart=>exact ⟨rfl,zh (Below.refl _ _)⟩
  case round =>exact zqrfe0
theorem Form_ref (e:LExpr):ForP e:=LExpr.ind (fun k n x ks ih=>form_step k n x ks ih) e
theorem CheckForm_ref (y:LExpr) (hsz:sizeE y≤1000000) (w:World) (v:Value) (h:Is w v y):Calls Tryz.prog 175 #[v] w fun e' w'=>e'=.returned (.int .i64 (formE y))∧Below w.heap.size w w':=by
 have HF:Hid (formE y=if decide ((64:Int) < sizeE y) then 10 else if decide ((24:Int) < depthE y) then 11 else nodesErr (nodesE y)):=rfl;have HI:=zh h;have h1:=zh (fun W v h=>Size_ref y hsz W v h);have h2:=zh (fun W v h=>Depth_ref y hsz W v h);have h3:=zh (fun W v h=>Form_ref y W v h);have hd:=Nat.le_trans (depth_le y) hsz;obtain ⟨k0,n0,x0,a,K,k,rfl⟩:=expBox h;have hba:Below w.heap.size w (w.alloc (.cells #[.int .i64 k0,.string n0,.string x0,.slice a K k] 68)):=bw;have e0:(w.alloc (.cells #[.int .i64 k0,.string n0,.string x0,.slice a K k] 68)).cell? ⟨w.heap.size,0,none⟩=some (.int .i64 k0):=by simp
 have e1:(w.alloc (.cells #[.int .i64 k0,.string n0,.string x0,.slice a K k] 68)).cell? ⟨w.heap.size,1,none⟩=some (.string n0):=by simp
 have e2:(w.alloc (.cells #[.int .i64 k0,.string n0,.string x0,.slice a K k] 68)).cell? ⟨w.heap.size,2,none⟩=some (.string x0):=by simp
 have e3:(w.alloc (.cells #[.int .i64 k0,.string n0,.string x0,.slice a K k] 68)).cell? ⟨w.heap.size,3,none⟩=some (.slice a K k):=by simp
 have c1:=h1.out (w.alloc (.cells #[.int .i64 k0,.string n0,.string x0,.slice a K k] 68)) _ (HI.out.mono hba);go_enter Tryz.func175,Tryz.ntmps175;generalize formE y=ff at *;generalize sizeE y=sz at *;generalize depthE y=dp at *;generalize nodesErr (nodesE y)=ne at *;go_wp2_with fail
 generalize (w.alloc (.cells #[.int .i64 k0,.string n0,.string x0,.slice a K k] 68))=w1 at *;have E0:=zh e0;have E1:=zh e1;have E2:=zh e2;have E3:=zh e3;have HBA:=zh hba;clear hba e0 e1 e2 e3 h;refine c1.mono ?_;rintro e w2 ⟨rfl,hb2⟩;have HB2:Hid (Below w1.heap.size w1 w2):=zh hb2;have HW2:Hid (Below w.heap.size w w2):=HBA.out.trans (hb2.mono HBA.out.size);clear hb2 c1 h1;by_cases q1:(64:Int) < sz
 ·have HT:Hid (ff=10):=by show _=_;rw [HF.out,decide_eq_true q1];rfl
  go_wp2;go_ret;exact ⟨ret_i HT.out.symm,HW2.out⟩
 have f0:=kept HB2.out E0.out;have f1:=kept HB2.out E1.out;have f2:=kept HB2.out E2.out;have f3:=kept HB2.out E3.out;have hs2:=cell_lt f0;have c2:=h2.out w2 _ (HI.out.mono HW2.out);go_wp2_with fail
 refine c2.mono ?_;rintro e w3 ⟨rfl,hb3⟩;have HB3:Hid (Below w1.heap.size w1 w3):=HB2.out.trans (hb3.mono HB2.out.size);have HW3:Hid (Below w.heap.size w w3):=HBA.out.trans (HB3.out.mono HBA.out.size);clear hb3 c2 h2 f0 f1 f2 f3 hs2;by_cases q2:(24:Int) < dp
 ·have HT:Hid (ff=11):=by show _=_;rw [HF.out,decide_eq_false (by omega),decide_eq_true q2];rfl
  go_wp2;go_ret;exact ⟨ret_i HT.out.symm,HW3.out⟩
 have HT:Hid (ff=ne):=by show _=_;rw [HF.out,decide_eq_false (by omega),decide_eq_false (by omega)];rfl
 have f0:=kept HB3.out E0.out;have f1:=kept HB3.out E1.out;have f2:=kept HB3.out E2.out;have f3:=kept HB3.out E3.out;have hs3:=cell_lt f0;have c3:=h3.out w3 _ (HI.out.mono HW3.out);go_wp2_with fail
 refine c3.mono ?_;rintro e w4 ⟨rfl,hb4⟩;have HW4:Hid (Below w.heap.size w w4):=HW3.out.trans (hb4.mono HW3.out.size);clear hb4 c3;go_wp2;go_ret;exact ⟨ret_i HT.out.symm,HW4.out⟩
end Go.Proofs.YtcbopdbbcgdkcaaGreatDoor
namespace Go.Proofs.YtcbopdbbcgdkcaaGreatDoor
open Go

mutual
def meanR (c:Catalog):LExpr→List (List Term)×Bool
 | .mk k n x ks =>
  if k == 0 then ([[⟨n,x⟩]],true)
  else if k == 1 then (minimalP (((laterC c n).getD []).map fun s=>[⟨s,ByteArray.empty⟩]),decide ((((laterC c n).getD []).length:Int)≤64))
  else meanRs c k true [] ks
def meanRs (c:Catalog) (k:Int) (first:Bool) (out:List (List Term)):List LExpr→List (List Term)×Bool
 | []=>(out,decide ((out.length:Int)≤64))
 | e :: r =>
  let l:=meanR c e
  if !l.2 then ([],false)
  else
   let o:=if k == 3 || first then minimalP (out++l.1) else minimalP (pairsA out l.1)
   if k == 2 && decide ((64:Int) < o.length) then ([],false) else meanRs c k false o r
end
def QR (r:List (List Term)×Bool) (p:List (List Term)×Int):Prop:=r.2=(p.2 == 0)∧(p.2=0→r.1=p.1)∧(p.2=0∨p.2=10∧p.1=[])
theorem qr_sized {l:List (List Term)}:QR (l,decide ((l.length:Int)≤64)) (sizedP l):=by
 unfold QR sizedP;by_cases h:(64:Int) < l.length
 ·rw [if_pos (by simpa using h)];exact ⟨by simpa using h,fun h=>by simp at h,.inr ⟨rfl,rfl⟩⟩
 ·rw [if_neg (by simpa using h)];exact ⟨by simpa using h,fun _=>rfl,.inl rfl⟩
theorem qr_fail {p:List (List Term)} {r:List (List Term)} (h:p=[]):QR (r,false) (p,10):=⟨rfl,fun h=>by simp at h,.inr ⟨rfl,h⟩⟩
theorem min_either (a b:List (List Term)):minimalP (minimalP a++b)=minimalP (a++b) :=
 min_unique (minimal_min _) (minimal_min _) fun ts=>by rw [minimal_sat,minimal_sat,satP_append,satP_append,minimal_sat]
theorem min_both (a b:List (List Term)):minimalP (pairsA (minimalP a) b)=minimalP (pairsA a b) :=
 min_unique (minimal_min _) (minimal_min _) fun ts=>by rw [minimal_sat,minimal_sat,satP_pairs,satP_pairs,minimal_sat]
theorem min_min (a:List (List Term)):minimalP (minimalP a)=minimalP a:=minimal_self (minimal_min a)
theorem meanRs_eq (c:Catalog) (k:Int) (hk:k=2∨k=3):∀ (ks:List LExpr),(∀ e∈ks,QR (meanR c e) (meanP c e))→∀ (first:Bool) (outR outP:List (List Term)),outR=minimalP outP→(first=true→outP=[]) →
  QR (meanRs c k first outR ks) (meanKs c k first outP ks)
 | [],_,first,outR,outP,ho,_=>by
  rw [meanRs,meanKs,ho];exact qr_sized
 | e :: r,h,first,outR,outP,ho,hf=>by
  obtain ⟨h1,h2,h3⟩:=h e (by simp);have hr:∀ e∈r,QR (meanR c e) (meanP c e):=fun e he=>h e (by simp [he]);rw [meanRs,meanKs];simp only;by_cases q:(meanP c e).2=0
  ·have q1:(meanR c e).2=true:=by rw [h1,q];rfl
   have q2:=h2 q;rw [q1,q,q2];simp only [Bool.not_true,beq_self_eq_true,if_neg (show ¬ (false=true) by decide)];rcases hk with rfl | rfl
   ·rw [if_neg (show ¬ ((2:Int) == 3)=true by decide)];cases first
    ·rw [if_neg (show ¬ ((2:Int) == 3 || false)=true by decide),if_neg (show ¬ (false=true) by decide),ho,min_both];rw [show ((2:Int) == 2)=true from rfl,Bool.true_and];by_cases q3:(64:Int) < (minimalP (pairsA outP (meanP c e).1)).length
     ·have e1:sizedP (minimalP (pairsA outP (meanP c e).1))=([],10):=by unfold sizedP;rw [if_pos (decide_eq_true q3)]
      rw [decide_eq_true q3,if_pos rfl,e1];exact qr_fail rfl
     ·have e1:sizedP (minimalP (pairsA outP (meanP c e).1))=(minimalP (pairsA outP (meanP c e).1),0):=by unfold sizedP;rw [if_neg (by simpa using q3)]
      rw [decide_eq_false q3,if_neg (by decide),e1];exact meanRs_eq c 2 (.inl rfl) r hr false _ _ (min_min _).symm (fun h=>by cases h)
    ·rw [if_pos (show ((2:Int) == 3 || true)=true by decide),if_pos rfl,ho,hf rfl,min_either,List.nil_append];have hl:=Nat.le_trans (minimal_count (meanP c e).1) (mean_len c e).1;rw [if_neg (by simp;omega)];exact meanRs_eq c 2 (.inl rfl) r hr false _ _ rfl (fun h=>by cases h)
   ·rw [if_pos (show ((3:Int) == 3 || first)=true by rfl),if_pos (show ((3:Int) == 3)=true by decide),if_neg (show ¬ ((3:Int) == 2 && _)=true by simp),ho,min_either];exact meanRs_eq c 3 (.inr rfl) r hr false _ _ rfl (fun h=>by cases h)
  ·have q1:(meanR c e).2=false:=by rw [h1];simpa using q
   obtain ⟨q2,q3⟩:=h3.resolve_left q;rw [q1,q2];exact qr_fail rfl
def kindE (e:LExpr):Prop:=∀ y∈nodesE e,y.kind=0∨y.kind=1∨y.kind=2∨y.kind=3
theorem kind_kid {k:Int} {n x:ByteArray} {ks:List LExpr} (h:kindE (.mk k n x ks)) {e:LExpr} (he:e∈ks):kindE e:=by
 intro y hy;refine h y ?_;rw [nodesE];refine List.mem_cons_of_mem _ ?_;clear h;induction ks with
 | nil=>simp at he
 | cons a r ih =>
  rw [nodesKs];rcases List.mem_cons.1 he with rfl | he
  ·exact List.mem_append.2 (.inl hy)
  ·exact List.mem_append.2 (.inr (ih he))
theorem meanR_eq (c:Catalog) (hn:∀ n,((laterC c n).getD []).length≤64):∀ e,kindE e→QR (meanR c e) (meanP c e):=by
 refine LExpr.ind fun k n x ks ih h=>?_;have hk:k=0∨k=1∨k=2∨k=3:=by
  have:=h (.mk k n x ks) (by rw [nodesE];simp);exact this
 have hs:∀ k,(k=2∨k=3)→(∀ e∈ks,QR (meanR c e) (meanP c e))→QR (meanRs c k true [] ks) (meanKs c k true [] ks):=fun k hk h=>meanRs_eq c k hk ks h true [] [] (by rfl) (fun _=>rfl);have ih2:∀ e∈ks,QR (meanR c e) (meanP c e):=fun e he=>ih e he (kind_kid h he);rw [meanR,meanP];rcases hk with rfl | rfl | rfl | rfl
 ·exact ⟨rfl,fun _=>rfl,.inl rfl⟩
 ·rw [if_neg (by decide),if_pos (by decide),if_neg (by decide),if_pos (by decide)];have h1:=hn n;have h2:(minimalP (((laterC c n).getD []).map fun s=>[⟨s,ByteArray.empty⟩])).length≤64:=Nat.le_trans (minimal_count _) (by simpa using h1);unfold sizedP;rw [if_neg (by simp;omega)];exact ⟨by simp;omega,fun _=>rfl,.inl rfl⟩
 ·exact hs 2 (.inl rfl) ih2
 ·exact hs 3 (.inr rfl) ih2
open Go.RowKit Go.ChangeShapes Go.Lib

theorem nodesErr_mem {l:List LExpr} (h:nodesErr l=0):∀ e∈l,nodeErr e=0:=by
 induction l with
 | nil=>intro e he;simp at he
 | cons a r ih =>
  intro e he;rw [nodesErr] at h;by_cases q:nodeErr a=0
  ·rw [q] at h;rcases List.mem_cons.1 he with rfl | he
   ·exact q
   ·exact ih h e he
  ·rw [if_neg (by simpa using q)] at h;exact absurd h q
theorem nodesErr_zero {l:List LExpr} (h:∀ e∈l,nodeErr e=0):nodesErr l=0:=by
 induction l with
 | nil=>rfl
 | cons a r ih=>rw [nodesErr,h a (by simp)];exact ih fun e he=>h e (by simp [he])
theorem err_kid {k:Int} {n x:ByteArray} {ks:List LExpr} (h:nodesErr (nodesE (.mk k n x ks))=0) {e:LExpr} (he:e∈ks):nodesErr (nodesE e)=0 :=
 nodesErr_zero fun y hy=>nodesErr_mem h y (by rw [nodesE];exact List.mem_cons_of_mem _ (nodesKs_mem he hy))
theorem err_self {k:Int} {n x:ByteArray} {ks:List LExpr} (h:nodesErr (nodesE (.mk k n x ks))=0):nodeErr (.mk k n x ks)=0:=nodesErr_mem h _ (by rw [nodesE];simp)
theorem err_kind {e:LExpr} (h:nodesErr (nodesE e)=0):kindE e:=by
 intro y hy;have h1:=nodesErr_mem h y hy;obtain ⟨k,n,x,ks⟩:=y;show k=0∨k=1∨k=2∨k=3;by_cases q:k < 0∨3 < k
 ·rw [nodeErr_bad q] at h1;cases h1
 ·omega
theorem err_low {k:Int} {n x:ByteArray} {ks:List LExpr} (h:nodeErr (.mk k n x ks)=0) (hk:k < 2):ks=[]∧nameB n=true:=by
 by_cases q:k < 0∨3 < k
 ·rw [nodeErr_bad q] at h;cases h
 obtain rfl | rfl:k=0∨k=1:=by omega
 all_goals
  cases ks with
  | cons y r=>simp [nodeErr] at h
  | nil =>
   refine ⟨rfl,?_⟩;cases q:nameB n
   ·exfalso;simp [nodeErr,q] at h;try (split at h <;> simp at h)
   ·rfl
theorem err_high {k:Int} {n x:ByteArray} {ks:List LExpr} (h:nodeErr (.mk k n x ks)=0) (hk:¬ k < 2):emp n=true:=by
 by_cases q:k < 0∨3 < k
 ·rw [nodeErr_bad q] at h;cases h
 rw [nodeErr_hi (by omega) (by omega)] at h;cases q:emp n
 ·rw [q] at h;simp at h
 ·rfl
def allK (c:Catalog) (e:LExpr):Bool:=(nodesE e).all (knownN c)
def allKs (c:Catalog) (ks:List LExpr):Bool:=(nodesKs ks).all (knownN c)
theorem allKs_drop {c:Catalog} {ks:List LExpr} {i:Nat} {y:LExpr} (h:ks[i]?=some y):allKs c (ks.drop i)=(allK c y && allKs c (ks.drop (i+1))):=by
 unfold allKs allK;rw [nodesKs_drop h,List.all_append]
theorem allK_low {c:Catalog} {k:Int} {n x:ByteArray} {ks:List LExpr} (h:nodeErr (.mk k n x ks)=0) (hk:k < 2):allK c (.mk k n x ks)=(liftsC c ⟨n,x⟩).isSome:=by
 obtain ⟨rfl,h2⟩:=err_low h hk;have h3:=(name_words h2).2.2.2;unfold allK knownN emp;rw [nodesE];show ((n.toList.isEmpty || _) && true)=_;rw [h3,Bool.false_or,Bool.and_true];rfl
theorem allK_high {c:Catalog} {k:Int} {n x:ByteArray} {ks:List LExpr} (h:nodeErr (.mk k n x ks)=0) (hk:¬ k < 2):allK c (.mk k n x ks)=allKs c ks:=by
 have h2:=err_high h hk;unfold allK;rw [nodesE,List.all_cons];unfold knownN;rw [show emp (LExpr.mk k n x ks).name=true from h2,Bool.true_or,Bool.true_and];rfl
def KnoP (c:Catalog) (e:LExpr):Prop:=nodesErr (nodesE e)=0→∀ (w:World) (vc v:Value),Is w vc c→Is w v e→Calls Tryz.prog 176 #[vc,v] w fun e' w'=>e'=.returned (.bool (allK c e))∧Below w.heap.size w w'
theorem known_step (c:Catalog) (k0:Int) (n0 x0:ByteArray) (ks:List LExpr) (ih:∀ e∈ks,KnoP c e):KnoP c (LExpr.mk k0 n0 x0 ks):=by
 intro hz w vc v hc h;have HC:=zh hc;have HIH:Hid (∀ e∈ks,∀ (w:World) (vc v:Value),Is w vc c→Is w v e→Calls Tryz.prog 176 #[vc,v] w fun e' w'=>e'=.returned (.bool (allK c e))∧Below w.heap.size w w'):=zh (fun e he=>ih e he (err_kid hz he));have HLO:=zh (allK_low (c:=c) (err_self hz));have HHI:=zh (allK_high (c:=c) (err_self hz));obtain ⟨a,k,rfl,hik,hs1,hs2,hnc,hcm,hr⟩:=LExpr.inv h;simp only [maxLen] at hcm;have HR:=zh hr;obtain ⟨a0,N0,c0,a1,N1,c1,a2,N2,c2,a3,N3,c3,rfl⟩:=catBox hc;clear hr h ih hc hz;generalize allK c (LExpr.mk k0 n0 x0 ks)=rr at *;generalize hN:ks.length=N at *;have HN:=zh hN;clear hN;obtain ⟨hb1,hd,hg⟩:=box2 w #[.slice a0 N0 c0,.slice a1 N1 c1,.slice a2 N2 c2,.slice a3 N3 c3] #[.int .i64 k0,.string n0,.string x0,.slice a N k] 27 68;have HB1:=zh hb1;by_cases q0:k0 < 2
 case pos =>
  have HF:Hid (rr=(liftsC c ⟨n0,x0⟩).isSome):=zh (HLO.out q0);have hcall:=Known_ref ((w.alloc (.cells #[.slice a0 N0 c0,.slice a1 N1 c1,.slice a2 N2 c2,.slice a3 N3 c3] 27)).alloc (.cells #[.int .i64 k0,.string n0,.string x0,.slice a N k] 68)) _ c ⟨n0,x0⟩ (HC.out.mono hb1);clear hb1 hd hg;go_enter Tryz.func176,Tryz.ntmps176;go_wp2_with fail
  refine hcall.mono ?_;rintro e w2 ⟨rfl,hb2⟩;have HB2:Hid (Below w.heap.size w w2):=HB1.out.trans (hb2.mono (by simp;omega));clear hcall hb2;go_wp2;go_ret;exact ⟨ret_b HF.out.symm,HB2.out⟩
 have HF:Hid (rr=allKs c ks):=zh (HHI.out q0);clear HLO HHI;go_enter Tryz.func176,Tryz.ntmps176;go_wp2;clear hb1;generalize ((w.alloc (.cells #[.slice a0 N0 c0,.slice a1 N1 c1,.slice a2 N2 c2,.slice a3 N3 c3] 27)).alloc (.cells #[.int .i64 k0,.string n0,.string x0,.slice a N k] 68))=w1 at *;have D0:=zh (hd 0 _ rfl);have D1:=zh (hd 1 _ rfl);have D2:=zh (hd 2 _ rfl);have D3:=zh (hd 3 _ rfl);have G3:=zh (hg 3 _ rfl);clear hd hg;go_loopw [5] (fun kv wr=>∃ (i:Nat),i≤N∧kv=.int .i64 i∧Hid (rr=allKs c (ks.drop i))∧Hid (Below w1.heap.size w1 wr)) (fun kv _=>N - (intOf kv).toNat)
 case atStart=>exact ⟨0,by omega,rfl,HF,zh (Below.refl _ _)⟩
 case round =>
  obtain ⟨i,hi,rfl,HX,HB⟩:=hrel;have g3:=kept HB.out G3.out;have hsg:w.heap.size+1 < wr.heap.size:=cell_lt g3;have hsg0:w.heap.size < wr.heap.size:=by omega
  by_cases hki:i < N
  ·have hkz:(i:Int) < (N:Int):=by omega
   have hk0:(0:Int)≤(i:Int):=by omega
   obtain ⟨y,hy⟩:=get_lt (xs:=ks) (k:=i) (by rw [HN.out];exact hki);obtain ⟨k1,n1,x1,ks1⟩:=y;have hmem:LExpr.mk k1 n1 x1 ks1∈ks:=List.mem_of_getElem? hy;have HS:Hid (rr=(allK c (LExpr.mk k1 n1 x1 ks1) && allKs c (ks.drop (i+1)))):=by show _=_;rw [HX.out,allKs_drop hy]
   obtain ⟨b,off,rfl,hb,a4,c4,y0',y1',y2',y3',i0,s1,s2,l3,m3,r3⟩:=LExpr.at_row HR.out hy;have HBW:Hid (Below w.heap.size w wr):=HB1.out.trans (HB.out.mono HB1.out.size);have y0:=kept HBW.out y0';have y1:=kept HBW.out y1';have y2:=kept HBW.out y2';have y3:=kept HBW.out y3';have f0:=kept HB.out D0.out;have f1:=kept HB.out D1.out;have f2:=kept HB.out D2.out;have f3:=kept HB.out D3.out;have hsb:=cell_lt y0;have hcall:=fun W (hbb:Below wr.heap.size wr W)=>HIH.out _ hmem W (.agg #[.slice a0 N0 c0,.slice a1 N1 c1,.slice a2 N2 c2,.slice a3 N3 c3]) (.agg #[.int .i64 k1,.string n1,.string x1,.slice a4 ks1.length c4]) ((HC.out.mono HBW.out).mono hbb) (LExpr.mk' i0 s1 s2 l3 m3 ((r3.mono HBW.out).mono hbb));clear hy hmem y0' y1' y2' y3' r3 i0 s1 s2 hb HX;generalize allK c (LExpr.mk k1 n1 x1 ks1)=bb at *;generalize ks1.length=L1 at *;go_wp2;refine wp_region_quietC (C:=fun w'=>Below wr.heap.size wr w'∧w'.cell? ⟨w.heap.size,0,none⟩=some (.slice a0 N0 c0)∧w'.cell? ⟨w.heap.size,1,none⟩=some (.slice a1 N1 c1)∧w'.cell? ⟨w.heap.size,2,none⟩=some (.slice a2 N2 c2)∧w'.cell? ⟨w.heap.size,3,none⟩=some (.slice a3 N3 c3)∧w'.cell? ⟨w.heap.size+1,3,none⟩=some (.slice (some ⟨b,off,none⟩) N k)∧w'.cell? ⟨b,off+i * 4,none⟩=some (.int .i64 k1)∧w'.cell? ⟨b,off+i * 4+1,none⟩=some (.string n1)∧w'.cell? ⟨b,off+i * 4+2,none⟩=some (.string x1)∧w'.cell? ⟨b,off+i * 4+3,none⟩=some (.slice a4 L1 c4)) (by kernel_rfl) (by kernel_rfl) (by exact ⟨(Below.refl _ _).drewN 1,f0,f1,f2,f3,g3,y0,y1,y2,y3⟩) ?_
   repeat
    first
    | (refine quiet_no (by rfl) ?_;try simp only [tkS,Act.put])
    | (refine quiet_yes (v:=?_) (by rfl) ?_ ?_
       rotate_left
       ·intro w' hw';obtain ⟨hb5,f0,f1,f2,f3,g3,y0,y1,y2,y3⟩:=hw';go_simp;first
        | with_reducible rfl
        | exact ⟨rfl,rfl⟩
        | (go_at_call 176;refine (hcall _ hb5).mono ?_;rintro e w'' ⟨rfl,hb6⟩;refine ⟨?_,hb5.trans (hb6.mono hb5.size),kept hb6 f0,kept hb6 f1,kept hb6 f2,kept hb6 f3,kept hb6 g3,kept hb6 y0,kept hb6 y1,kept hb6 y2,kept hb6 y3⟩;with_reducible rfl)
       try simp only [tkS,Act.put])
   refine wpQuiet_nil ?_;intro w5 hw';obtain ⟨hb5,f0,f1,f2,f3,g3,y0,y1,y2,y3⟩:=hw';have HB5:=zh hb5;clear hb5;have HB6:Hid (Below w1.heap.size w1 w5):=HB.out.trans (HB5.out.mono HB.out.size);clear f0 f1 f2 f3 g3 y0 y1 y2 y3 hcall;cases bb;case true =>
    have HM:Hid (rr=allKs c (ks.drop (i+1))):=by show _=_;rw [HS.out];rfl
    go_wp2;go_roundw
    case rel=>exact ⟨i+1,by omega,by go_num,HM,HB6⟩
    case measure=>exact zm
   case false =>
    have HM:Hid (rr=false):=by show _=_;rw [HS.out];rfl
    go_wp2;go_ret;exact ⟨ret_b HM.out.symm,HB1.out.trans (HB6.out.mono HB1.out.size)⟩
  ·have hkz:¬ (i:Int) < (N:Int):=by omega
   have HM:Hid (rr=true):=by show _=_;rw [HX.out,List.drop_eq_nil_of_le (by rw [HN.out];omega)];rfl
   go_wp2;go_ret;exact ⟨ret_b HM.out.symm,HB1.out.trans (HB.out.mono HB1.out.size)⟩
theorem known_p (c:Catalog) (e:LExpr):KnoP c e:=LExpr.ind (fun k n x ks ih=>known_step c k n x ks ih) e
theorem formE_zero {y:LExpr} (h:formE y=0):nodesErr (nodesE y)=0:=by
 unfold formE at h;split at h
 ·cases h
 ·split at h
  ·cases h
  ·exact h
theorem Check32_ref (c:Catalog) (y:LExpr) (hsz:sizeE y≤1000000) (w:World) (vc v:Value) (hc:Is w vc c) (h:Is w v y):Calls Tryz.prog 123 #[vc,v] w fun e' w'=>e'=.returned (.int .i64 (checkE c y))∧Below w.heap.size w w':=by
 have HF:Hid (checkE c y=if !(checkC c == 0) then 1 else if !(formE y == 0) then formE y else if allK c y then 0 else 7):=rfl;have HC:=zh hc;have HI:=zh h;have HCF:=zh (fun W v h=>CheckForm_ref y hsz W v h);have HKN:=zh (fun (hz:formE y=0)=>known_p c y (formE_zero hz));obtain ⟨k0,n0,x0,a,N,k,rfl⟩:=expBox h;obtain ⟨a0,N0,c0,a1,N1,c1,a2,N2,c2,a3,N3,c3,rfl⟩:=catBox hc;obtain ⟨hb1,hd,hg⟩:=box2 w #[.slice a0 N0 c0,.slice a1 N1 c1,.slice a2 N2 c2,.slice a3 N3 c3] #[.int .i64 k0,.string n0,.string x0,.slice a N k] 27 68;have hcall:=Check_ref ((w.alloc (.cells #[.slice a0 N0 c0,.slice a1 N1 c1,.slice a2 N2 c2,.slice a3 N3 c3] 27)).alloc (.cells #[.int .i64 k0,.string n0,.string x0,.slice a N k] 68)) _ c (HC.out.mono hb1);have hz1:w.heap.size+1 < ((w.alloc (.cells #[.slice a0 N0 c0,.slice a1 N1 c1,.slice a2 N2 c2,.slice a3 N3 c3] 27)).alloc (.cells #[.int .i64 k0,.string n0,.string x0,.slice a N k] 68)).heap.size:=by simp
 clear hsz;go_enter Tryz.func123,Tryz.ntmps123;generalize checkE c y=rr at *;generalize formE y=fe at *;generalize allK c y=bb at *;generalize checkC c=ce at *;go_wp2_with fail
 generalize ((w.alloc (.cells #[.slice a0 N0 c0,.slice a1 N1 c1,.slice a2 N2 c2,.slice a3 N3 c3] 27)).alloc (.cells #[.int .i64 k0,.string n0,.string x0,.slice a N k] 68))=w1 at *;have D0:=zh (hd 0 _ rfl);have D1:=zh (hd 1 _ rfl);have D2:=zh (hd 2 _ rfl);have D3:=zh (hd 3 _ rfl);have G0:=zh (hg 0 _ rfl);have G1:=zh (hg 1 _ rfl);have G2:=zh (hg 2 _ rfl);have G3:=zh (hg 3 _ rfl);have HB1:=zh hb1;clear hb1 hd hg hc h;refine hcall.mono ?_;rintro e w2 ⟨rfl,hb2⟩;have HB2:Hid (Below w1.heap.size w1 w2):=zh hb2;have HW2:Hid (Below w.heap.size w w2):=HB1.out.trans (hb2.mono HB1.out.size);clear hb2 hcall;by_cases q:ce=0
 case neg =>
  have q1:(ce == 0)=false:=by simpa using q
  have q2:(ce != 0)=true:=by simpa using q
  have HT:Hid (rr=1):=by show _=_;rw [HF.out,q1];rfl
  clear q;go_wp2;go_ret;exact ⟨ret_i HT.out.symm,HW2.out⟩
 subst q;have g0:=kept HB2.out G0.out;have g1:=kept HB2.out G1.out;have g2:=kept HB2.out G2.out;have g3:=kept HB2.out G3.out;have hs2:=cell_lt g0;have c2:=HCF.out w2 _ (HI.out.mono HW2.out);go_wp2_with fail
 refine c2.mono ?_;rintro e w3 ⟨rfl,hb3⟩;have HB3:Hid (Below w1.heap.size w1 w3):=HB2.out.trans (hb3.mono HB2.out.size);have HW3:Hid (Below w.heap.size w w3):=HB1.out.trans (HB3.out.mono HB1.out.size);clear hb3 c2 HCF g0 g1 g2 g3 hs2;by_cases q:fe=0
 case neg =>
  have q1:(fe == 0)=false:=by simpa using q
  have q2:(fe != 0)=true:=by simpa using q
  have HT:Hid (rr=fe):=by show _=_;rw [HF.out,q1];rfl
  clear q;go_wp2;go_ret;exact ⟨ret_i HT.out.symm,HW3.out⟩
 have c3:=HKN.out q w3 _ _ (HC.out.mono HW3.out) (HI.out.mono HW3.out);have HT:Hid (rr=if bb then 0 else 7):=by show _=_;rw [HF.out,q];rfl
 clear HKN HF;subst q;have f0:=kept HB3.out D0.out;have f1:=kept HB3.out D1.out;have f2:=kept HB3.out D2.out;have f3:=kept HB3.out D3.out;have g0:=kept HB3.out G0.out;have g1:=kept HB3.out G1.out;have g2:=kept HB3.out G2.out;have g3:=kept HB3.out G3.out;have hs2:=cell_lt f0;have hs3:=cell_lt g0;cases bb
 all_goals
  go_wp2_with fail
  refine c3.mono ?_;rintro e w4 ⟨rfl,hb4⟩;have HW4:Hid (Below w.heap.size w w4):=HW3.out.trans (hb4.mono HW3.out.size);clear hb4 c3;go_wp2;go_ret;exact ⟨ret_i HT.out.symm,HW4.out⟩
open Go.Sort

theorem meanRs_err {c:Catalog} {k:Int} {first:Bool} {out:List (List Term)} {e:LExpr} {r:List LExpr} (h:(meanR c e).2=false):meanRs c k first out (e :: r)=([],false):=by
 rw [meanRs];simp [h]
theorem meanRs_or {c:Catalog} {k:Int} {first:Bool} {out:List (List Term)} {e:LExpr} {r:List LExpr} (h:(meanR c e).2=true) (hk:(k == 3 || first)=true) (hs:k=2→¬ (64:Int) < (minimalP (out++(meanR c e).1)).length) :
  meanRs c k first out (e :: r)=meanRs c k false (minimalP (out++(meanR c e).1)) r:=by
 rw [meanRs];simp only [h,hk,Bool.not_true,if_true];rw [if_neg (by decide),if_neg];simp only [Bool.and_eq_true,beq_iff_eq,decide_eq_true_eq,not_and];exact hs
theorem meanRs_big {c:Catalog} {first:Bool} {out:List (List Term)} {e:LExpr} {r:List LExpr} (h:(meanR c e).2=true) (hf:first=false) (hs:(64:Int) < (minimalP (pairsA out (meanR c e).1)).length) :
  meanRs c 2 first out (e :: r)=([],false):=by
 subst hf;rw [meanRs];simp only [h,Bool.not_true];rw [if_neg (by decide),if_neg (show ¬ ((2:Int) == 3 || false)=true by decide),if_pos];simp only [Bool.and_eq_true,beq_iff_eq,decide_eq_true_eq];exact ⟨trivial,hs⟩
theorem meanRs_and {c:Catalog} {first:Bool} {out:List (List Term)} {e:LExpr} {r:List LExpr} (h:(meanR c e).2=true) (hf:first=false) (hs:¬ (64:Int) < (minimalP (pairsA out (meanR c e).1)).length) :
  meanRs c 2 first out (e :: r)=meanRs c 2 false (minimalP (pairsA out (meanR c e).1)) r:=by
 subst hf;rw [meanRs];simp only [h,Bool.not_true];rw [if_neg (by decide),if_neg (show ¬ ((2:Int) == 3 || false)=true by decide),if_neg];simp only [Bool.and_eq_true,beq_iff_eq,decide_eq_true_eq,not_and];exact fun _=>hs
def MrO (r:List (List Term)×Bool) (w:World) (e:Ending) (w':World):Prop:=∃ u,e=.returned (.tuple #[u,.bool r.2])∧OwnZ w.heap.size 59 w' u r.1∧Below w.heap.size w w'
def MenP (c:Catalog) (e:LExpr):Prop:=kindE e→sizeE e≤5000→∀ (w:World) (vc v:Value),Is w vc c→Is w v e→Calls Tryz.prog 125 #[vc,v] w fun e' w'=>MrO (meanR c e) w e' w'
theorem men0_p (c:Catalog) (n0 x0:ByteArray) (ks:List LExpr) (w:World) (vc v:Value) (hc:Is w vc c) (h:Is w v (LExpr.mk 0 n0 x0 ks)):Calls Tryz.prog 125 #[vc,v] w fun e' w'=>MrO (meanR c (LExpr.mk 0 n0 x0 ks)) w e' w':=by
 have HM:Hid (meanR c (LExpr.mk 0 n0 x0 ks)=([[⟨n0,x0⟩]],true)):=by show _=_;rw [meanR];rfl
 obtain ⟨a,k,rfl,-,s1,s2,-⟩:=LExpr.inv h;obtain ⟨a0,N0,c0,a1,N1,c1,a2,N2,c2,a3,N3,c3,rfl⟩:=catBox hc;clear h hc;generalize ks.length=N at *;have S1:=zh s1;have S2:=zh s2;clear s1 s2;go_enter Tryz.func125,Tryz.ntmps125;go_wp2;go_ret2;have h1:=rowT_new ((w.alloc (.cells #[.slice a0 N0 c0,.slice a1 N1 c1,.slice a2 N2 c2,.slice a3 N3 c3] 27)).alloc (.cells #[.int .i64 0,.string n0,.string x0,.slice a N k] 68)) (t:=⟨n0,x0⟩) S1.out S2.out;have h2:=ownZ_one _ (u:=.slice (some ⟨((w.alloc (.cells #[.slice a0 N0 c0,.slice a1 N1 c1,.slice a2 N2 c2,.slice a3 N3 c3] 27)).alloc (.cells #[.int .i64 0,.string n0,.string x0,.slice a N k] 68)).heap.size,0,none⟩) 1 1) (y:=[⟨n0,x0⟩]) (fun w' hA=>(rowT_agree (h1.below (by first | ((repeat (first | exact Below.refl _ _ | assumption | refine Below.drewN ?_ _ | refine Below.drew ?_ | refine Below.alloc ?_ (by first | exact Nat.le_refl _ | (simp;done) | (simp;omega) | omega) _ | refine Below.setCell ?_ (by first | exact Nat.le_refl _ | (simp;done) | (simp;omega) | omega) _ | refine Below.trans ?_ (Below.mono (by assumption) (by first | exact Nat.le_refl _ | (simp;done) | (simp;omega) | omega))));done) | fail)) hA).is);simp only [World.size_alloc] at h2;exact ⟨_,by rw [HM.out];rfl,by rw [HM.out];exact h2.weaken (by omega),bw⟩
theorem men1_p (c:Catalog) (n0 x0:ByteArray) (ks:List LExpr) (w:World) (vc v:Value) (hc:Is w vc c) (h:Is w v (LExpr.mk 1 n0 x0 ks)):Calls Tryz.prog 125 #[vc,v] w fun e' w'=>MrO (meanR c (LExpr.mk 1 n0 x0 ks)) w e' w':=by
 have HM:Hid (meanR c (LExpr.mk 1 n0 x0 ks)=(minimalP (((laterC c n0).getD []).map oneT),decide ((((laterC c n0).getD []).length:Int)≤64))):=by show _=_;rw [meanR];rfl
 have HC:=zh hc;have HLN:=zh (names_le c n0);obtain ⟨a,k,rfl,-,s1,s2,-⟩:=LExpr.inv h;obtain ⟨a0,N0,c0,a1,N1,c1,a2,N2,c2,a3,N3,c3,rfl⟩:=catBox hc;clear h hc s1 s2;generalize ks.length=N at *;have hb1:Below w.heap.size w ((w.alloc (.cells #[.slice a0 N0 c0,.slice a1 N1 c1,.slice a2 N2 c2,.slice a3 N3 c3] 27)).alloc (.cells #[.int .i64 1,.string n0,.string x0,.slice a N k] 68)):=bw;have HB0:=zh hb1;have hcall:=Later_ref ((w.alloc (.cells #[.slice a0 N0 c0,.slice a1 N1 c1,.slice a2 N2 c2,.slice a3 N3 c3] 27)).alloc (.cells #[.int .i64 1,.string n0,.string x0,.slice a N k] 68)) _ c n0 (HC.out.mono hb1);clear hb1;generalize hls:(laterC c n0).getD []=ls at *;go_enter Tryz.func125,Tryz.ntmps125;go_wp2_with fail
 refine hcall.mono ?_;unfold LaOut;rintro e w1 ⟨sv,rfl,hs,hb⟩;rw [hls] at hs;clear hls;have HB1:Hid (Below w.heap.size w w1):=HB0.out.trans (hb.mono (by simp;omega));obtain ⟨al,cl,rfl,hnc,hcm,hr⟩:=list_inv hs;simp only [maxLen] at hcm;have HR:=zh hr;have hsz:w.heap.size≤w1.heap.size:=HB1.out.size;clear hcall hs hr hb HB0;generalize hM:ls.length=M at *;have HN:=zh hM;have HNB:Hid (M≤32):=HLN;clear hM HLN;go_wp2;go_loopw [6,9] (fun sv kv wr=>∃ k:Nat,k≤M∧kv=.int .i64 k∧Hid (Below w1.heap.size w1 wr)∧Hid (OwnZ w1.heap.size 59 wr sv ((ls.take k).map oneT))) (fun _ kv _=>M - (intOf kv).toNat)
 case atStart=>exact ⟨0,by omega,rfl,zh (Below.refl _ _),zh (OwnZ.nil _ _ _)⟩
 case round =>
  obtain ⟨k,hk,rfl,HB,HO⟩:=hrel;have hz1:w1.heap.size≤wr.heap.size:=HB.out.size;by_cases hki:k < M
  ·have hkz:(k:Int) < (M:Int):=by omega
   have hk0:(0:Int)≤(k:Int):=by omega
   obtain ⟨y,hy⟩:=get_lt (xs:=ls) (k:=k) (by rw [HN.out];exact hki);obtain ⟨b,off,rfl,hb,y0',sy⟩:=str_at HR.out hy;have y0:=kept HB.out y0';have hsy:=cell_lt y0;have HY:=zh hy;have h1:=zh (rowT_new wr (t:=⟨y,ByteArray.empty⟩) sy (show ByteArray.empty.size≤maxLen by decide));clear hy y0' hb sy;have hba:Below wr.heap.size wr (wr.alloc (.cells #[.string y,.string ByteArray.empty] 61)):=bw;have HO2:=zh (HO.out.below hba);have HB2:=zh hba;clear HO hba;have hln:((ls.take k).map oneT).length≤1000000000:=by have:=HNB.out;rw [List.length_map,List.length_take];omega
   go_wp2_with (at_builtin;go_loud (refine app_alt rfl _ _ rfl w1.heap.size _ _ rfl HO2.out (oneT y) ?cx ?c1 hln ?c3 ?_))
   (try case cx=>show Value.slice _ 1 1=_;simp)
   case c1=>intro w'' hA;exact (rowT_agree (h1.out.below bw) hA).is
   (try case c3=>first | omega | (simp;omega))
   intro v5 w5 ho5 hb5 hA5 hs5;have HB5:Hid (Below w1.heap.size w1 w5):=(HB.out.trans (HB2.out.mono hz1)).trans hb5;have HO5:=zh ho5;clear ho5 hb5 hA5 HO2 h1;go_wp2;go_roundw
   case rel =>
    refine ⟨k+1,by omega,by go_num,HB5,?_⟩;show OwnZ _ _ _ _ _;rw [take_at HY.out,List.map_append];first | exact HO5.out | (rw [List.map_take];exact HO5.out)
   case measure=>exact zm
  ·have hkz:¬ (k:Int) < (M:Int):=by omega
   have HO1:Hid (OwnZ w1.heap.size 59 wr u6 (ls.map oneT)):=by
    have:=HO.out;rw [List.take_of_length_le (by rw [HN.out];omega)] at this;exact this
   clear HO;have hcall:=Minimal_ref wr u6 (ls.map oneT) HO1.out.is (by intro x hx;obtain ⟨y,-,rfl⟩:=List.mem_map.1 hx;simp [oneT]) (by rw [List.length_map,HN.out];have:=HNB.out;omega);obtain ⟨a6,c6,he6,-⟩:=list_inv HO1.out.is;rw [List.length_map,HN.out] at he6;subst he6;clear HO1;go_wp2_with fail
   refine hcall.mono ?_;unfold MO;rintro e w2 ⟨v2,rfl,ho2,hb2⟩;have HO2:=zh (ho2.weaken (B0:=w.heap.size) (by omega));have HB2:Hid (Below w.heap.size w w2):=HB1.out.trans ((HB.out.mono hsz).trans (hb2.mono (by omega)));clear hcall ho2 hb2;go_wp2;go_ret2;exact ⟨v2,by rw [HM.out];rfl,by rw [HM.out];exact HO2.out,HB2.out⟩
theorem kid_sizes {k:Int} {n x:ByteArray} {ks:List LExpr} {i:Nat} {y:LExpr} (hy:ks[i]?=some y):sizeKs (ks.take (i+1))=sizeKs (ks.take i)+sizeE y:=by rw [take_at hy,sizeKs_snoc]
theorem zrrfe3 {p:Prop} (h:p:=by
 go_wp2;go_roundw
 case rel=>exact ⟨1,out2,by omega,rfl,HB7,HI6,HS,HML⟩
 case measure=>exact zm):p:=h
theorem men_step (c:Catalog) (k0:Int) (n0 x0:ByteArray) (ks:List LExpr) (hk0:k0=2∨k0=3) (ih:∀ e∈ks,MenP c e) (hkd:kindE (LExpr.mk k0 n0 x0 ks)) (hsz:sizeE (LExpr.mk k0 n0 x0 ks)≤5000)
  (w:World) (vc v:Value) (hc:Is w vc c) (h:Is w v (LExpr.mk k0 n0 x0 ks)):Calls Tryz.prog 125 #[vc,v] w fun e' w'=>MrO (meanR c (LExpr.mk k0 n0 x0 ks)) w e' w':=by
 have HM:Hid (meanR c (LExpr.mk k0 n0 x0 ks)=meanRs c k0 true [] ks):=by show _=_;rw [meanR];rcases hk0 with rfl | rfl <;> rfl
 have HC:=zh hc;have HSK:Hid (sizeKs ks≤5000):=by show _≤_;rw [sizeE] at hsz;omega
 have HQ:Hid (∀ e∈ks,QR (meanR c e) (meanP c e)):=fun e he=>meanR_eq c (fun n=>Nat.le_trans (names_le c n) (by decide)) e (kind_kid hkd he);have HIH:Hid (∀ e∈ks,∀ (w:World) (vc v:Value),Is w vc c→Is w v e→Calls Tryz.prog 125 #[vc,v] w fun e' w'=>MrO (meanR c e) w e' w'):=fun e he=>ih e he (kind_kid hkd he) (by have:=size_mem he;rw [sizeE] at hsz;omega);obtain ⟨a,k,rfl,hik,hs1,hs2,hnc,hcm,hr⟩:=LExpr.inv h;simp only [maxLen] at hcm;have HR:=zh hr;obtain ⟨a0,N0,c0,a1,N1,c1,a2,N2,c2,a3,N3,c3,rfl⟩:=catBox hc;have HNS:Hid (ks.length≤5000):=by
  show _≤_;have h1:∀ l:List LExpr,l.length≤sizeKs l:=by
   intro l;induction l with
   | nil=>simp
   | cons y r ih=>rw [sizeKs,List.length_cons];have:=size_pos y;omega
  have:=h1 ks;rw [sizeE] at hsz;omega
 clear hr h ih hc hsz hkd;generalize meanR c (LExpr.mk k0 n0 x0 ks)=rr at *;generalize hN:ks.length=N at *;have HN:=zh hN;clear hN;obtain ⟨hb1,hd,hg⟩:=box2 w #[.slice a0 N0 c0,.slice a1 N1 c1,.slice a2 N2 c2,.slice a3 N3 c3] #[.int .i64 k0,.string n0,.string x0,.slice a N k] 27 68;have HB1:=zh hb1;have q0:(k0 == 0)=false:=by rcases hk0 with rfl | rfl <;> rfl
 have q1:(k0 == 1)=false:=by rcases hk0 with rfl | rfl <;> rfl
 have HK:=zh hk0;clear hk0;go_enter Tryz.func125,Tryz.ntmps125;go_wp2;clear hb1;generalize ((w.alloc (.cells #[.slice a0 N0 c0,.slice a1 N1 c1,.slice a2 N2 c2,.slice a3 N3 c3] 27)).alloc (.cells #[.int .i64 k0,.string n0,.string x0,.slice a N k] 68))=w1 at *;have D0:=zh (hd 0 _ rfl);have D1:=zh (hd 1 _ rfl);have D2:=zh (hd 2 _ rfl);have D3:=zh (hd 3 _ rfl);have G0:=zh (hg 0 _ rfl);have G3:=zh (hg 3 _ rfl);clear hd hg;go_loopw [6,10] (fun sv kv wr=>∃ (i:Nat) (out:List (List Term)),i≤N∧kv=.int .i64 i∧Hid (Below w1.heap.size w1 wr)∧Hid (OwnZ w1.heap.size 59 wr sv out)∧Hid (rr=meanRs c k0 (i == 0) out (ks.drop i))∧Hid (out.length≤64 * i∧(∀ a∈out,a.length≤sizeKs (ks.take i))∧(k0=2→out.length≤64))) (fun _ kv _=>N - (intOf kv).toNat)
 case atStart=>exact ⟨0,[],by omega,rfl,zh (Below.refl _ _),zh (OwnZ.nil _ _ _),HM,⟨by simp,by simp,by simp⟩⟩
 case round =>
  obtain ⟨i,out,hi,rfl,HB,HO,HX,HL⟩:=hrel;have g3:=kept HB.out G3.out;have hsg:w.heap.size+1 < wr.heap.size:=cell_lt g3;have hsg0:w.heap.size < wr.heap.size:=by omega
  have hz1:w1.heap.size≤wr.heap.size:=HB.out.size;by_cases hki:i < N
  ·have hkz:(i:Int) < (N:Int):=by omega
   have hk0:(0:Int)≤(i:Int):=by omega
   obtain ⟨y,hy⟩:=get_lt (xs:=ks) (k:=i) (by rw [HN.out];exact hki);have hmem:y∈ks:=List.mem_of_getElem? hy;have HQY:=zh (HQ.out y hmem);have HIY:=zh (HIH.out y hmem);have HSY:=zh (kid_sizes (k:=k0) (n:=n0) (x:=x0) hy);have HTY:=zh (sizeKs_take ks (i+1));have HLY:=zh (mean_len c y);have HD:Hid (rr=meanRs c k0 (i == 0) out (y :: ks.drop (i+1))):=by show _=_;rw [HX.out,drop_at hy]
   obtain ⟨k1,n1,x1,ks1⟩:=y;obtain ⟨b,off,rfl,hb,a4,c4,y0',y1',y2',y3',i0,s1,s2,l3,m3,r3⟩:=LExpr.at_row HR.out hy;have HBW:Hid (Below w.heap.size w wr):=HB1.out.trans (HB.out.mono HB1.out.size);have y0:=kept HBW.out y0';have y1:=kept HBW.out y1';have y2:=kept HBW.out y2';have y3:=kept HBW.out y3';have f0:=kept HB.out D0.out;have f1:=kept HB.out D1.out;have f2:=kept HB.out D2.out;have f3:=kept HB.out D3.out;have hsb:=cell_lt y0;have hcall:=fun W (hbb:Below wr.heap.size wr W)=>HIY.out W (.agg #[.slice a0 N0 c0,.slice a1 N1 c1,.slice a2 N2 c2,.slice a3 N3 c3]) (.agg #[.int .i64 k1,.string n1,.string x1,.slice a4 ks1.length c4]) ((HC.out.mono HBW.out).mono hbb) (LExpr.mk' i0 s1 s2 l3 m3 ((r3.mono HBW.out).mono hbb));clear hy hmem y0' y1' y2' y3' r3 i0 s1 s2 hb HX HIY;generalize LExpr.mk k1 n1 x1 ks1=Y at *;generalize ks1.length=L1 at *;go_wp2;refine wp_region_held_drew (S:=(fun w':World=>w'.cell? ⟨w.heap.size,0,none⟩=some (.slice a0 N0 c0)∧w'.cell? ⟨w.heap.size,1,none⟩=some (.slice a1 N1 c1)∧w'.cell? ⟨w.heap.size,2,none⟩=some (.slice a2 N2 c2)∧w'.cell? ⟨w.heap.size,3,none⟩=some (.slice a3 N3 c3)∧w'.cell? ⟨w.heap.size+1,3,none⟩=some (.slice (some ⟨b,off,none⟩) N k)∧w'.cell? ⟨b,off+i * 4,none⟩=some (.int .i64 k1)∧w'.cell? ⟨b,off+i * 4+1,none⟩=some (.string n1)∧w'.cell? ⟨b,off+i * 4+2,none⟩=some (.string x1)∧w'.cell? ⟨b,off+i * 4+3,none⟩=some (.slice a4 L1 c4))) (by kernel_rfl) (by exact ⟨f0,f1,f2,f3,g3,y0,y1,y2,y3⟩) (fun hH0=>?_);refine tkB 0 hH0 rfl ?_;try simp only [tkS,Act.put]
   refine tkB 1 hH0 rfl ?_;try simp only [tkS,Act.put]
   refine tkB 2 hH0 rfl ?_;try simp only [tkS,Act.put]
   refine tkB 3 hH0 rfl ?_;try simp only [tkS,Act.put]
   refine tkB 4 hH0 rfl ?_;try simp only [tkS,Act.put]
   refine tkB 5 hH0 rfl ?_;try simp only [tkS,Act.put]
   refine rd1 6 rfl (fun K hK=>?_);go_simp;go_at_call 125
   refine (hcall _ bw).mono ?_;unfold MrO;rintro e w5 ⟨v5,rfl,ho5,hb5⟩;have HB5:Hid (Below wr.heap.size wr w5):=zh (by exact bw);have HO5:=zh ho5;go_wp2_with fail
   refine hK.out _ _ ?_ (fun hH1=>?_)
   ·exact zqrfe3
   try simp only [tkS,Act.put]
   clear hK K;refine tkB 7 hH1 rfl ?_;try simp only [tkS,Act.put]
   refine tkB 8 hH1 rfl ?_;try simp only [tkS,Act.put]
   refine tkB 9 hH1 rfl ?_;try simp only [tkS,Act.put]
   refine tkB 10 hH1 rfl ?_;try simp only [tkS,Act.put]
   refine tkB 11 hH1 rfl ?_;try simp only [tkS,Act.put]
   refine wpAnyH_done (by kernel_rfl) ?_ _;have HB6:Hid (Below w1.heap.size w1 w5):=HB.out.trans (HB5.out.mono hz1);have HW5:Hid (Below w.heap.size w w5):=HB1.out.trans (HB6.out.mono HB1.out.size);have HO6:=zh (HO.out.below HB5.out);have h0:=kept HB6.out G0.out;have hs5:w.heap.size+1 < w5.heap.size:=cell_lt h0;have hz5:w1.heap.size≤w5.heap.size:=HB6.out.size;clear f0 f1 f2 f3 g3 y0 y1 y2 y3 hcall ho5 hb5;cases qk:(meanR c Y).2;case false =>
    have HM:Hid (rr=([],false)):=by show _=_;rw [HD.out,meanRs_err qk]
    clear qk;go_wp2;go_ret2;exact ⟨.slice none 0 0,by rw [HM.out];rfl,by rw [HM.out];exact OwnZ.nil _ _ _,HW5.out⟩
   have hp:(meanP c Y).2=0:=by have:=HQY.out.1;rw [qk] at this;simpa using this.symm
   have hl1:(meanR c Y).1=(meanP c Y).1:=HQY.out.2.1 hp;have HLL:Hid ((meanR c Y).1.length≤64∧∀ a∈(meanR c Y).1,a.length≤sizeE Y):=by rw [hl1];exact HLY.out
   have HQK:=zh qk;clear qk hp hl1 HLY HQY;obtain ⟨av,cv,hev,-⟩:=list_inv HO5.out.is;obtain ⟨ao,co,heo,hoc,hom,-⟩:=list_inv HO6.out.is;simp only [maxLen] at hom;subst hev heo;have HLE:Hid (∀ (a:List Term),a∈out++(meanR c Y).1→a.length≤sizeKs (ks.take (i+1))):=by
    show ∀ a,_;intro a ha;rw [HSY.out];rcases List.mem_append.1 ha with ha | ha
    ·have:=HL.out.2.1 a ha;omega
    ·have:=HLL.out.2 a ha;omega
   have HT5:Hid (sizeKs (ks.take (i+1))≤5000):=zh (Nat.le_trans HTY.out HSK.out);by_cases q3:k0=3∨i=0
   ·have he:=fun W (hb:Below w5.heap.size w5 W)=>either_ref W (.slice ao out.length co) (.slice av (meanR c Y).1.length cv) out (meanR c Y).1 (HO6.out.is.mono hb) (HO5.out.is.mono hb) (fun a ha=>by have:=HLE.out a (List.mem_append.2 (.inl ha));have:=HT5.out;omega) (fun a ha=>by have:=HLE.out a (List.mem_append.2 (.inr ha));have:=HT5.out;omega) (by have:=HL.out.1;have:=HLL.out.1;have:=HNS.out;omega);have HML:Hid ((minimalP (out++(meanR c Y).1)).length≤64 * (i+1)∧(∀ a∈minimalP (out++(meanR c Y).1),a.length≤sizeKs (ks.take (i+1)))∧(k0=2→(minimalP (out++(meanR c Y).1)).length≤64)):=by
     have e1:=minimal_count (out++(meanR c Y).1);rw [List.length_append] at e1;have e2:=HL.out.1;have e3:=HLL.out.1;refine ⟨by omega,minimal_len HLE.out,fun hk2=>?_⟩;have:i=0:=by
      rcases q3 with h | h
      ·omega
      ·exact h
     subst this;omega
    have HS:Hid (rr=meanRs c k0 ((i+1:Nat) == 0) (minimalP (out++(meanR c Y).1)) (ks.drop (i+1))):=by
     show _=_;rw [HD.out];rw [meanRs_or HQK.out (by rcases q3 with rfl | rfl <;> simp) (fun hk2=>by have:=HML.out.2.2 hk2;omega)];rfl
    generalize minimalP (out++(meanR c Y).1)=out2 at *;generalize (meanR c Y).1.length=LY at *;generalize out.length=LO at *;have hcall:=he w5 (Below.refl _ _);clear he;have fin:∀ (w6:World) (v6:Value),OwnZ w5.heap.size 59 w6 v6 out2→Below w5.heap.size w5 w6→OwnZ w1.heap.size 59 w6 v6 out2∧Below w1.heap.size w1 w6:=fun w6 v6 h1 h2=>⟨h1.weaken hz5,HB6.out.trans (h2.mono hz5)⟩
    have FIN:=zh fin;clear fin;rcases q3 with q3 | q3
    ·subst q3;go_wp2_with fail
     refine hcall.mono ?_;unfold MO;rintro e w6 ⟨v6,rfl,ho6,hb6⟩;have h6:=kept hb6 h0;obtain ⟨hI6,hB6⟩:=FIN.out w6 v6 ho6 hb6;have HI6:=zh hI6;have HB7:=zh hB6;have hs6:w.heap.size+1 < w6.heap.size:=cell_lt h6;clear hcall ho6 hb6 hI6 hB6;go_wp2;go_roundw
     case rel=>exact ⟨i+1,out2,by omega,by go_num,HB7,HI6,HS,HML⟩
     case measure=>exact zm
    ·subst q3;obtain rfl | rfl:=HK.out
     ·go_wp2_with fail
      refine hcall.mono ?_;unfold MO;rintro e w6 ⟨v6,rfl,ho6,hb6⟩;have h6:=kept hb6 h0;obtain ⟨hI6,hB6⟩:=FIN.out w6 v6 ho6 hb6;have HI6:=zh hI6;have HB7:=zh hB6;have hs6:w.heap.size+1 < w6.heap.size:=cell_lt h6;obtain ⟨a6,c6,rfl,-⟩:=list_inv hI6.is;have hb64:¬ (64:Int) < (out2.length:Int):=by have:=HML.out.2.2 (by first | rfl | trivial);omega
      clear hcall ho6 hb6 hI6 hB6;exact zrrfe3
     ·go_wp2_with fail
      refine hcall.mono ?_;unfold MO;rintro e w6 ⟨v6,rfl,ho6,hb6⟩;have h6:=kept hb6 h0;obtain ⟨hI6,hB6⟩:=FIN.out w6 v6 ho6 hb6;have HI6:=zh hI6;have HB7:=zh hB6;have hs6:w.heap.size+1 < w6.heap.size:=cell_lt h6;clear hcall ho6 hb6 hI6 hB6;exact zrrfe3
   ·have hk2:k0=2:=by have:=HK.out;omega
    subst hk2;have hi0:((i:Int) == 0)=false:=by simp;omega
    have hin:(i == 0)=false:=by simp;omega
    have hcall:=both_ref w5 (.slice ao out.length co) (.slice av (meanR c Y).1.length cv) out (meanR c Y).1 HO6.out.is HO5.out.is (fun a ha=>by have:=HLE.out a (List.mem_append.2 (.inl ha));have:=HT5.out;omega) (fun a ha=>by have:=HLE.out a (List.mem_append.2 (.inr ha));have:=HT5.out;omega) (by have:=HL.out.2.2 (by first | rfl | trivial);omega) (by have:=HLL.out.1;omega);have HLP:Hid (∀ a∈minimalP (pairsA out (meanR c Y).1),a.length≤sizeKs (ks.take (i+1))):=by
     rw [HSY.out];exact minimal_len (pairs_len HL.out.2.1 HLL.out.2)
    have HS1:Hid ((64:Int) < (minimalP (pairsA out (meanR c Y).1)).length→rr=([],false)):=by
     show _→_;intro hs;rw [HD.out,meanRs_big HQK.out hin hs]
    have HS2:Hid (¬ (64:Int) < (minimalP (pairsA out (meanR c Y).1)).length→rr=meanRs c 2 ((i+1:Nat) == 0) (minimalP (pairsA out (meanR c Y).1)) (ks.drop (i+1))):=by
     show _→_;intro hs;rw [HD.out,meanRs_and HQK.out hin hs];rfl
    generalize minimalP (pairsA out (meanR c Y).1)=out2 at *;generalize (meanR c Y).1.length=LY at *;generalize out.length=LO at *;go_wp2_with fail
    refine hcall.mono ?_;unfold MO;rintro e w6 ⟨v6,rfl,ho6,hb6⟩;have h6:=kept hb6 h0;have HI6:=zh (ho6.weaken hz5);have HB7:Hid (Below w1.heap.size w1 w6):=HB6.out.trans (hb6.mono hz5);have HW6:Hid (Below w.heap.size w w6):=HB1.out.trans (HB7.out.mono HB1.out.size);have hs6:w.heap.size+1 < w6.heap.size:=cell_lt h6;obtain ⟨a6,c6,rfl,-⟩:=list_inv ho6.is;clear hcall ho6 hb6;by_cases hbig:(64:Int) < (out2.length:Int)
    ·have HM:Hid (rr=([],false)):=zh (HS1.out (by omega));go_wp2;go_ret2;exact ⟨.slice none 0 0,by rw [HM.out];rfl,by rw [HM.out];exact OwnZ.nil _ _ _,HW6.out⟩
    ·have HS:=zh (HS2.out (by omega));have HLN:Hid (out2.length≤64 * (i+1)∧(∀ a∈out2,a.length≤sizeKs (ks.take (i+1)))∧((2:Int)=2→out2.length≤64)):=⟨by omega,HLP.out,fun _=>by omega⟩
     go_wp2;go_roundw
     case rel=>exact ⟨i+1,out2,by omega,by go_num,HB7,HI6,HS,HLN⟩
     case measure=>exact zm
  ·have hkz:¬ (i:Int) < (N:Int):=by omega
   have HM:Hid (rr=(out,decide ((out.length:Int)≤64))):=by show _=_;rw [HX.out,List.drop_eq_nil_of_le (by rw [HN.out];omega),meanRs]
   obtain ⟨ao,co,heo,hoc,hom,-⟩:=list_inv HO.out.is;simp only [maxLen] at hom;subst heo;go_wp2;go_ret2;exact ⟨_,by rw [HM.out];rfl,by rw [HM.out];exact HO.out.weaken HB1.out.size,HB1.out.trans (HB.out.mono HB1.out.size)⟩
theorem mean_ref (c:Catalog) (e:LExpr):MenP c e:=by
 refine LExpr.ind (P:=MenP c) (fun k n x ks ih hkd hsz w vc v hc h=>?_) e;have hk:k=0∨k=1∨k=2∨k=3:=hkd (.mk k n x ks) (by rw [nodesE];simp);rcases hk with rfl | rfl | hk
 ·exact men0_p c n x ks w vc v hc h
 ·exact men1_p c n x ks w vc v hc h
 ·exact men_step c k n x ks hk ih hkd hsz w vc v hc h

theorem check_form {c:Catalog} {y:LExpr} (h:checkE c y=0):nodesErr (nodesE y)=0:=by
 unfold checkE at h;by_cases q:checkC c=0
 ·rw [q] at h;by_cases q2:formE y=0
  ·exact formE_zero q2
  ·rw [if_neg (by decide),if_pos (by simpa using q2)] at h;exact absurd h q2
 ·rw [if_pos (by simpa using q)] at h;cases h
def OfO (r:List (List Term)×Int) (w:World) (e:Ending) (w':World):Prop:=∃ v,e=.returned (.tuple #[v,.int .i64 r.2])∧OwnZ w.heap.size 59 w' v r.1∧Below w.heap.size w w'
theorem Of_ref (c:Catalog) (y:LExpr) (hsz:sizeE y≤5000) (w:World) (vc v:Value) (hc:Is w vc c) (h:Is w v y) :
  Calls Tryz.prog 56 #[vc,v] w fun e w'=>OfO (ofP c y) w e w':=by
 have HF:Hid (ofP c y=if !(checkE c y == 0) then ([],checkE c y) else meanP c y):=rfl;have HQ:Hid (checkE c y=0→QR (meanR c y) (meanP c y)):=fun hz=>meanR_eq c (fun n=>Nat.le_trans (names_le c n) (by decide)) y (err_kind (check_form hz));have HC:=zh hc;have HI:=zh h;have HCK:=zh (fun W vc v h1 h2=>Check32_ref c y (Nat.le_trans hsz (by decide)) W vc v h1 h2);have HMN:Hid (checkE c y=0→∀ (w:World) (vc v:Value),Is w vc c→Is w v y→Calls Tryz.prog 125 #[vc,v] w fun e' w'=>MrO (meanR c y) w e' w'):=fun hz=>mean_ref c y (err_kind (check_form hz)) hsz;obtain ⟨k0,n0,x0,a,K,k,rfl⟩:=expBox h;obtain ⟨a0,N0,c0,a1,N1,c1,a2,N2,c2,a3,N3,c3,rfl⟩:=catBox hc;obtain ⟨hb0,hd,he⟩:=box2 w #[.slice a0 N0 c0,.slice a1 N1 c1,.slice a2 N2 c2,.slice a3 N3 c3] #[.int .i64 k0,.string n0,.string x0,.slice a K k] 27 68;have hcall:=HCK.out ((w.alloc (.cells #[.slice a0 N0 c0,.slice a1 N1 c1,.slice a2 N2 c2,.slice a3 N3 c3] 27)).alloc (.cells #[.int .i64 k0,.string n0,.string x0,.slice a K k] 68)) _ _ (HC.out.mono hb0) (HI.out.mono hb0);clear hc h hsz HCK;go_enter Tryz.func56,Tryz.ntmps56;generalize checkE c y=ce at *;generalize ofP c y=pp at *;generalize meanP c y=mp at *;generalize meanR c y=mr at *;go_wp2_with fail
 generalize ((w.alloc (.cells #[.slice a0 N0 c0,.slice a1 N1 c1,.slice a2 N2 c2,.slice a3 N3 c3] 27)).alloc (.cells #[.int .i64 k0,.string n0,.string x0,.slice a K k] 68))=w0 at *;have HW:=zh hb0;have D:=zh hd;have E:=zh he;clear hd he;clear hb0;refine hcall.mono ?_;rintro e w2 ⟨rfl,hb2⟩;have HB2:=zh hb2;have HW2:Hid (Below w.heap.size w w2):=HW.out.trans (hb2.mono HW.out.size);clear hb2 hcall;by_cases q:ce=0
 case neg =>
  have q1:(ce == 0)=false:=by simpa using q
  have q2:(ce != 0)=true:=by simpa using q
  have HT:Hid (pp=([],ce)):=by show _=_;rw [HF.out,q1];rfl
  clear q;go_wp2;go_ret2;exact ⟨.slice none 0 0,by rw [HT.out];rfl,by rw [HT.out];exact OwnZ.nil _ _ _,HW2.out⟩
 have HT:Hid (pp=mp):=by show _=_;rw [HF.out,q];rfl
 have hcall:=HMN.out q w2 _ _ (HC.out.mono HW2.out) (HI.out.mono HW2.out);have HQQ:=zh (HQ.out q);subst q;clear HMN HQ HF;have d0:=kept HB2.out (D.out 0 _ rfl);have d1:=kept HB2.out (D.out 1 _ rfl);have d2:=kept HB2.out (D.out 2 _ rfl);have d3:=kept HB2.out (D.out 3 _ rfl);have e0:=kept HB2.out (E.out 0 _ rfl);have e1:=kept HB2.out (E.out 1 _ rfl);have e2:=kept HB2.out (E.out 2 _ rfl);have e3:=kept HB2.out (E.out 3 _ rfl);have zs2:w.heap.size+1 < w2.heap.size:=cell_lt e0;go_wp2_with fail
 refine hcall.mono ?_;unfold MrO;rintro e w3 ⟨v3,rfl,ho3,hb3⟩;have HO3:=zh ho3;have HW3:Hid (Below w.heap.size w w3):=HW2.out.trans (hb3.mono HW2.out.size);clear hcall ho3 hb3 d0 d1 d2 d3 e0 e1 e2 e3;cases qk:mr.2;case false =>
  have HM:Hid (mp=([],10)):=by
   show _=_;obtain ⟨h1,h2,h3⟩:=HQQ.out;rw [qk] at h1;have h4:mp.2≠0:=by simpa using h1.symm
   obtain ⟨h5,h6⟩:=h3.resolve_left h4;rw [← h5,← h6]
  clear qk;go_wp2;go_ret2;exact ⟨.slice none 0 0,by rw [HT.out,HM.out];rfl,by rw [HT.out,HM.out];exact OwnZ.nil _ _ _,HW3.out⟩
 case true =>
  have HM:Hid (mp.2=0∧mr.1=mp.1):=by
   obtain ⟨h1,h2,h3⟩:=HQQ.out;rw [qk] at h1;have h4:mp.2=0:=by simpa using h1.symm
   exact ⟨h4,h2 h4⟩
  clear qk;go_wp2;go_ret2;exact ⟨v3,by rw [HT.out,HM.out.1];rfl,by rw [HT.out,← HM.out.2];exact HO3.out.weaken HW2.out.size,HW3.out⟩
end Go.Proofs.YtcbopdbbcgdkcaaGreatDoor
