/- The reference's measures of expressions: count, Few, weight, Light (printed by gen/wgt.py). -/
import Derived.Test.YtcbopdbbcgdkcaaGreatDoorJLexU
import Derived.Test.YtcbopdbbcgdkcaaGreatDoorJMeanU
import Derived.Test.YtcbopdbbcgdkcaaGreatDoorJLookU
import Derived.Test.YtcbopdbbcgdkcaaGreatDoorJR33U
set_option linter.all false
namespace Go.Proofs.YtcbopdbbcgdkcaaGreatDoor
open Go Go.RowKit Go.ChangeShapes Go.Lib

def okE (e:LExpr):Prop:=∀ y∈nodesE e,y.name.size≤140737488351232∧y.exc.size≤140737488351232
theorem nodesKs_in {ks:List LExpr} {y:LExpr} (h:y∈nodesKs ks):∃ e∈ks,y∈nodesE e:=by
 induction ks with
 | nil=>simp [nodesKs] at h
 | cons a r ih =>
  rw [nodesKs] at h
  rcases List.mem_append.1 h with h | h
  ·exact ⟨a,by simp,h⟩
  ·obtain ⟨e,he,hy⟩:=ih h;exact ⟨e,by simp [he],hy⟩
theorem okE_iff {k:Int} {n x:ByteArray} {ks:List LExpr}:okE (.mk k n x ks)↔n.size≤140737488351232∧x.size≤140737488351232∧∀ e∈ks,okE e:=by
 unfold okE
 rw [nodesE]
 constructor
 ·intro h
  have h0:=h _ (List.mem_cons_self ..)
  exact ⟨h0.1,h0.2,fun e he y hy=>h y (List.mem_cons_of_mem _ (nodesKs_mem he hy))⟩
 ·rintro ⟨h0,h1,h2⟩ y hy
  rcases List.mem_cons.1 hy with rfl | hy
  ·exact ⟨h0,h1⟩
  ·obtain ⟨e,he,hy⟩:=nodesKs_in hy
   exact h2 e he y hy
def CntO (e:LExpr) (most:Int) (d:Nat) (w:World) (e':Ending) (w':World):Prop :=
 ∃ n:Int,e'=.returned (.int .i64 n)∧1≤n∧n≤((d:Int)+1) * 17592186044416∧(n≤most→(sizeE e:Int)≤n)∧Below w.heap.size w w'
def CntP (d:Nat):Prop:=∀ (e:LExpr),okE e→∀ (most:Int),0≤most→most≤120→∀ (w:World) (v:Value),Is w v e→Calls Tryz.prog 105 #[v,.int .i64 most,.int .i64 d] w fun e' w'=>CntO e most d w e' w'
set_option maxRecDepth 100000 in
set_option maxHeartbeats 4000000 in
theorem count_step (d:Nat) (hd:d≤40) (ih:∀ d',d' < d→CntP d') (k0:Int) (n0 x0:ByteArray) (ks:List LExpr) (hok:okE (LExpr.mk k0 n0 x0 ks)) (most:Int) (hm0:0≤most) (hm1:most≤120)
  (w:World) (v:Value) (h:Is w v (LExpr.mk k0 n0 x0 ks)):Calls Tryz.prog 105 #[v,.int .i64 most,.int .i64 d] w fun e' w'=>CntO (LExpr.mk k0 n0 x0 ks) most d w e' w':=by
 obtain ⟨a,c,rfl,-,-,-,hnc,hcm,hr⟩:=LExpr.inv h
 obtain ⟨z1,z2,hkk⟩:=okE_iff.1 hok
 simp only [maxLen] at hcm
 have HR:=Lib.hid hr
 have HK:=Lib.hid hkk
 have HIH:=Lib.hid ih
 have HS:Hid (sizeE (LExpr.mk k0 n0 x0 ks)=sizeKs ks+1):=rfl
 clear hr h hkk hok ih
 generalize hN:ks.length=N at *
 have HN:=Lib.hid hN
 clear hN
 by_cases q:d=0
 case pos =>
  subst q
  go_enter Tryz.func105,Tryz.ntmps105
  go_wp2
  go_ret
  exact ⟨most+1,rfl,by omega,by omega,fun h=>by omega,bw⟩
 have qd:((d:Int) == 0)=false:=by simpa using q
 have hd1:1≤d:=by omega
 clear q
 go_enter Tryz.func105,Tryz.ntmps105
 go_wp2
 have hba:Below w.heap.size w (w.alloc (.cells #[.int .i64 k0,.string n0,.string x0,.slice a N c] 68)):=bw
 have hg3:(w.alloc (.cells #[.int .i64 k0,.string n0,.string x0,.slice a N c] 68)).cell? ⟨w.heap.size,3,none⟩=some (.slice a N c):=by simp
 generalize w.alloc (.cells #[.int .i64 k0,.string n0,.string x0,.slice a N c] 68)=w1 at *
 have HBA:=Lib.hid hba
 have HG3:=Lib.hid hg3
 clear hba hg3
 go_loopw [7,8] (fun nv kv wr=>∃ (k:Nat) (n:Int),k≤N∧kv=.int .i64 k∧nv=.int .i64 n∧1≤n∧n≤((d:Int)+1) * 17592186044416∧Hid (n≤most→(sizeKs (ks.take k):Int)+1≤n)∧Hid (Below w1.heap.size w1 wr)) (fun _ kv _=>N - (intOf kv).toNat)
 case atStart=>exact ⟨0,_,by omega,rfl,rfl,by omega,by omega,by show _→_;intro _;simp [sizeKs];omega,Lib.hid (Below.refl _ _)⟩
 case round =>
  obtain ⟨k,n,hk,rfl,rfl,hn1,hn2,HSZ,HB⟩:=hrel
  have g3:=kept HB.out HG3.out
  have hsg:=cell_lt g3
  by_cases hki:k < N
  ·have hkz:(k:Int) < (N:Int):=by omega
   have hk0:(0:Int)≤(k:Int):=by omega
   by_cases hnm:n≤most
   ·obtain ⟨y,hy⟩:=get_lt (xs:=ks) (k:=k) (by rw [HN.out];exact hki)
    obtain ⟨k1,n1,x1,ks1⟩:=y
    have hmem:LExpr.mk k1 n1 x1 ks1∈ks:=List.mem_of_getElem? hy
    have HSN:Hid (sizeKs (ks.take (k+1))=sizeKs (ks.take k)+sizeE (LExpr.mk k1 n1 x1 ks1)):=by show _=_;rw [take_at hy,sizeKs_snoc]
    obtain ⟨b,off,rfl,hb,a3,c3,y0',y1',y2',y3',i0,s1,s2,l3,m3,r3⟩:=LExpr.at_row HR.out hy
    have HBW:Hid (Below w.heap.size w wr):=HBA.out.trans (HB.out.mono HBA.out.size)
    have y0:=kept HBW.out y0'
    have y1:=kept HBW.out y1'
    have y2:=kept HBW.out y2'
    have y3:=kept HBW.out y3'
    have hsb:=cell_lt y0
    have hcall:=HIH.out (d - 1) (by omega) _ (HK.out _ hmem) (most - n) (by omega) (by omega) wr (.agg #[.int .i64 k1,.string n1,.string x1,.slice a3 ks1.length c3]) (LExpr.mk' i0 s1 s2 l3 m3 (r3.mono HBW.out))
    rw [show (((d - 1:Nat)):Int)=(d:Int) - 1 by omega] at hcall
    clear hy hmem y0' y1' y2' y3' r3 i0 s1 s2
    generalize ks1.length=L1 at *
    go_wp2_with fail
    refine hcall.mono ?_
    unfold CntO
    rintro e w2 ⟨m,rfl,h1,h2,h3,hb2⟩
    have HB2:Hid (Below w1.heap.size w1 w2):=HB.out.trans (hb2.mono HB.out.size)
    rw [show (((d - 1:Nat)):Int)=(d:Int) - 1 by omega] at h2
    have HM:Hid (n+m≤most→(sizeKs (ks.take (k+1)):Int)+1≤n+m):=by
     show _→_
     intro hle
     have e1:=h3 (by omega)
     have e2:=HSZ.out (by omega)
     have e3:=HSN.out
     omega
    clear hcall hb2 h3
    go_wp2
    go_roundw
    case rel=>exact ⟨k+1,n+m,by omega,by go_num,rfl,by omega,by omega,HM,HB2⟩
    case measure=>simp [intOf];omega
   ·have HF:Hid (¬ n≤most):=hnm
    go_wp2
    go_ret
    exact ⟨n,rfl,hn1,hn2,fun h=>by have:=HF.out;omega,HBA.out.trans (HB.out.mono HBA.out.size)⟩
  ·have hkz:¬ (k:Int) < (N:Int):=by omega
   have HF:Hid (n≤most→(sizeE (LExpr.mk k0 n0 x0 ks):Int)≤n):=by
    show _→_
    intro hle
    have e1:=HSZ.out hle
    rw [List.take_of_length_le (by rw [HN.out];omega)] at e1
    have e2:=HS.out
    omega
   go_wp2
   go_ret
   exact ⟨n,rfl,hn1,hn2,HF.out,HBA.out.trans (HB.out.mono HBA.out.size)⟩
theorem count_p (d:Nat):d≤40→CntP d:=by
 induction d using Nat.strongRecOn with
 | _ d ih =>
  intro hd e hok most h0 h1 w v h
  obtain ⟨k0,n0,x0,ks⟩:=e
  exact count_step d hd (fun d' hd'=>ih d' hd' (by omega)) k0 n0 x0 ks hok most h0 h1 w v h
set_option maxRecDepth 100000 in
set_option maxHeartbeats 4000000 in
theorem FewE_ref (e:LExpr) (hok:okE e) (w:World) (v:Value) (h:Is w v e):Calls Tryz.prog 49 #[v] w fun e' w'=>∃ b,e'=.returned (.bool b)∧(b=true→sizeE e≤120)∧Below w.heap.size w w':=by
 have HI:=Lib.hid h
 have HC:=Lib.hid (fun W v h=>count_p 40 (by decide) e hok 120 (by decide) (by decide) W v h)
 obtain ⟨k0,n0,x0,a,K,k,rfl⟩:=expBox h
 have hba:Below w.heap.size w (w.alloc (.cells #[.int .i64 k0,.string n0,.string x0,.slice a K k] 68)):=bw
 have hcall:=HC.out (w.alloc (.cells #[.int .i64 k0,.string n0,.string x0,.slice a K k] 68)) _ (HI.out.mono hba)
 have HBA:=Lib.hid hba
 clear h hok hba HC
 go_enter Tryz.func49,Tryz.ntmps49
 go_wp2_with fail
 refine hcall.mono ?_
 unfold CntO
 rintro e1 w2 ⟨n,rfl,h1,h2,h3,hb2⟩
 have HB2:Hid (Below w.heap.size w w2):=HBA.out.trans (hb2.mono (by simp))
 have H3:=Lib.hid h3
 clear hcall hb2 h3
 go_wp2
 go_ret
 refine ⟨_,rfl,fun hb=>?_,HB2.out⟩
 have hb:=of_decide_eq_true hb
 have:=H3.out hb
 omega
def WgO (w:World) (e':Ending) (w':World):Prop:=∃ s p:Int,e'=.returned (.tuple #[.int .i64 s,.int .i64 p])∧Below w.heap.size w w'
def WgP (c:Catalog) (e:LExpr):Prop:=∀ (w:World) (vc v:Value),Is w vc c→Is w v e→Calls Tryz.prog 106 #[vc,v] w fun e' w'=>WgO w e' w'
set_option maxRecDepth 100000 in
set_option maxHeartbeats 8000000 in
theorem weight_step (c:Catalog) (k0:Int) (n0 x0:ByteArray) (ks:List LExpr) (ih:∀ e∈ks,WgP c e):WgP c (LExpr.mk k0 n0 x0 ks):=by
 intro w vc v hc h
 have HC:=Lib.hid hc
 have HIH:=Lib.hid ih
 obtain ⟨a,k,rfl,hik,hs1,hs2,hnc,hcm,hr⟩:=LExpr.inv h
 simp only [maxLen] at hcm
 have HR:=Lib.hid hr
 obtain ⟨a0,N0,c0,a1,N1,c1,a2,N2,c2,a3,N3,c3,rfl⟩:=catBox hc
 clear hr h ih hc
 generalize hN:ks.length=N at *
 have HN:=Lib.hid hN
 clear hN
 by_cases q0:k0=0
 case pos =>
  subst q0
  go_enter Tryz.func106,Tryz.ntmps106
  go_wp2
  go_ret2
  exact ⟨1,0,rfl,bw⟩
 have q0f:(k0 == 0)=false:=by simpa using q0
 clear q0
 have hb1:Below w.heap.size w ((w.alloc (.cells #[.slice a0 N0 c0,.slice a1 N1 c1,.slice a2 N2 c2,.slice a3 N3 c3] 27)).alloc (.cells #[.int .i64 k0,.string n0,.string x0,.slice a N k] 68)):=bw
 have HB1:=Lib.hid hb1
 by_cases q1:k0=1
 case pos =>
  subst q1
  have hcall:=Later_ref ((w.alloc (.cells #[.slice a0 N0 c0,.slice a1 N1 c1,.slice a2 N2 c2,.slice a3 N3 c3] 27)).alloc (.cells #[.int .i64 1,.string n0,.string x0,.slice a N k] 68)) _ c n0 (HC.out.mono hb1)
  clear hb1
  go_enter Tryz.func106,Tryz.ntmps106
  go_wp2_with fail
  refine hcall.mono ?_
  unfold LaOut
  rintro e w2 ⟨sv,rfl,hs,hb2⟩
  obtain ⟨aq,cq,rfl,-⟩:=list_inv hs
  have HB2:Hid (Below w.heap.size w w2):=HB1.out.trans (hb2.mono (by simp;omega))
  clear hcall hs hb2
  generalize ((laterC c n0).getD []).length=LL at *
  go_wp2
  go_ret2
  exact ⟨_,0,rfl,HB2.out⟩
 have q1f:(k0 == 1)=false:=by simpa using q1
 clear q1
 go_enter Tryz.func106,Tryz.ntmps106
 go_wp2
 obtain ⟨-,hd,hg⟩:=box2 w #[.slice a0 N0 c0,.slice a1 N1 c1,.slice a2 N2 c2,.slice a3 N3 c3] #[.int .i64 k0,.string n0,.string x0,.slice a N k] 27 68
 clear hb1
 generalize (w.alloc (.cells #[.slice a0 N0 c0,.slice a1 N1 c1,.slice a2 N2 c2,.slice a3 N3 c3] 27)).alloc (.cells #[.int .i64 k0,.string n0,.string x0,.slice a N k] 68)=w1 at *
 have D0:=Lib.hid (hd 0 _ rfl)
 have D1:=Lib.hid (hd 1 _ rfl)
 have D2:=Lib.hid (hd 2 _ rfl)
 have D3:=Lib.hid (hd 3 _ rfl)
 have G0:=Lib.hid (hg 0 _ rfl)
 have G3:=Lib.hid (hg 3 _ rfl)
 clear hd hg
 go_loopw [8,9,10] (fun sv pv kv wr=>∃ (i:Nat) (s p:Int),i≤N∧kv=.int .i64 i∧sv=.int .i64 s∧pv=.int .i64 p∧Hid (Below w1.heap.size w1 wr)) (fun _ _ kv _=>N - (intOf kv).toNat)
 case atStart=>exact ⟨0,0,0,by omega,rfl,rfl,rfl,Lib.hid (Below.refl _ _)⟩
 case round =>
  obtain ⟨i,s,p,hi,rfl,rfl,rfl,HB⟩:=hrel
  have g3:=kept HB.out G3.out
  have g0:=kept HB.out G0.out
  have hsg:w.heap.size+1 < wr.heap.size:=cell_lt g3
  have hsg0:w.heap.size < wr.heap.size:=by omega
  by_cases hki:i < N
  ·have hkz:(i:Int) < (N:Int):=by omega
   have hk0:(0:Int)≤(i:Int):=by omega
   obtain ⟨y,hy⟩:=get_lt (xs:=ks) (k:=i) (by rw [HN.out];exact hki)
   obtain ⟨k1,n1,x1,ks1⟩:=y
   have hmem:LExpr.mk k1 n1 x1 ks1∈ks:=List.mem_of_getElem? hy
   obtain ⟨b,off,rfl,hb,a4,c4,y0',y1',y2',y3',i0,s1,s2,l3,m3,r3⟩:=LExpr.at_row HR.out hy
   have HBW:Hid (Below w.heap.size w wr):=HB1.out.trans (HB.out.mono HB1.out.size)
   have y0:=kept HBW.out y0'
   have y1:=kept HBW.out y1'
   have y2:=kept HBW.out y2'
   have y3:=kept HBW.out y3'
   have f0:=kept HB.out D0.out
   have f1:=kept HB.out D1.out
   have f2:=kept HB.out D2.out
   have f3:=kept HB.out D3.out
   have hsb:=cell_lt y0
   have hcall:=fun W (hbb:Below wr.heap.size wr W)=>HIH.out _ hmem W (.agg #[.slice a0 N0 c0,.slice a1 N1 c1,.slice a2 N2 c2,.slice a3 N3 c3]) (.agg #[.int .i64 k1,.string n1,.string x1,.slice a4 ks1.length c4]) ((HC.out.mono HBW.out).mono hbb) (LExpr.mk' i0 s1 s2 l3 m3 ((r3.mono HBW.out).mono hbb))
   clear hy hmem y0' y1' y2' y3' r3 i0 s1 s2 hb
   generalize ks1.length=L1 at *
   go_wp2
   refine wp_region_held_drew (S:=(fun w':World=>w'.cell? ⟨w.heap.size,0,none⟩=some (.slice a0 N0 c0)∧w'.cell? ⟨w.heap.size,1,none⟩=some (.slice a1 N1 c1)∧w'.cell? ⟨w.heap.size,2,none⟩=some (.slice a2 N2 c2)∧w'.cell? ⟨w.heap.size,3,none⟩=some (.slice a3 N3 c3)∧w'.cell? ⟨w.heap.size+1,3,none⟩=some (.slice (some ⟨b,off,none⟩) N k)∧w'.cell? ⟨b,off+i * 4,none⟩=some (.int .i64 k1)∧w'.cell? ⟨b,off+i * 4+1,none⟩=some (.string n1)∧w'.cell? ⟨b,off+i * 4+2,none⟩=some (.string x1)∧w'.cell? ⟨b,off+i * 4+3,none⟩=some (.slice a4 L1 c4))) (by kernel_rfl) (by exact ⟨f0,f1,f2,f3,g3,y0,y1,y2,y3⟩) (fun hH0=>?_)
   refine wpAnyH_take (i:=0) (oi:=_) (v:=?_) rfl (by kernel_rfl) (by kernel_rfl) (by kernel_rfl) (fun _ _ _ h=>h) (Or.inl ⟨by kernel_rfl,?_⟩) hH0 ?_
   rotate_left
   ·intro w hSw;(try dsimp only at hSw);go_simp
    all_goals with_reducible rfl
   try simp only [tkS,Act.put]
   refine wpAnyH_take (i:=1) (oi:=_) (v:=?_) rfl (by kernel_rfl) (by kernel_rfl) (by kernel_rfl) (fun _ _ _ h=>h) (Or.inl ⟨by kernel_rfl,?_⟩) hH0 ?_
   rotate_left
   ·intro w hSw;(try dsimp only at hSw);go_simp
    all_goals with_reducible rfl
   try simp only [tkS,Act.put]
   refine wpAnyH_take (i:=2) (oi:=_) (v:=?_) rfl (by kernel_rfl) (by kernel_rfl) (by kernel_rfl) (fun _ _ _ h=>h) (Or.inl ⟨by kernel_rfl,?_⟩) hH0 ?_
   rotate_left
   ·intro w hSw;(try dsimp only at hSw);go_simp
    all_goals with_reducible rfl
   try simp only [tkS,Act.put]
   refine wpAnyH_take (i:=3) (oi:=_) (v:=?_) rfl (by kernel_rfl) (by kernel_rfl) (by kernel_rfl) (fun _ _ _ h=>h) (Or.inl ⟨by kernel_rfl,?_⟩) hH0 ?_
   rotate_left
   ·intro w hSw;(try dsimp only at hSw);go_simp
    all_goals with_reducible rfl
   try simp only [tkS,Act.put]
   refine wpAnyH_take (i:=4) (oi:=_) (v:=?_) rfl (by kernel_rfl) (by kernel_rfl) (by kernel_rfl) (fun _ _ _ h=>h) (Or.inl ⟨by kernel_rfl,?_⟩) hH0 ?_
   rotate_left
   ·intro w hSw;(try dsimp only at hSw);go_simp
    all_goals with_reducible rfl
   try simp only [tkS,Act.put]
   refine wpAnyH_take (i:=5) (oi:=_) (v:=?_) rfl (by kernel_rfl) (by kernel_rfl) (by kernel_rfl) (fun _ _ _ h=>h) (Or.inl ⟨by kernel_rfl,?_⟩) hH0 ?_
   rotate_left
   ·intro w hSw;(try dsimp only at hSw);go_simp
    all_goals with_reducible rfl
   try simp only [tkS,Act.put]
   refine wpAnyH_ready (rs:=[6]) (by kernel_rfl) (by simp) ?_
   refine AllReadyH.cons (o:=_) rfl (fun K hK=>?_) AllReadyH.nil
   go_simp
   go_at_call 106
   refine (hcall _ bw).mono ?_
   unfold WgO
   rintro e w5 ⟨s5,p5,rfl,hb5⟩
   have HB5:Hid (Below wr.heap.size wr w5):=Lib.hid (by exact bw)
   go_wp2_with fail
   refine hK.out _ _ ?_ (fun hH1=>?_)
   ·exact ⟨kept HB5.out f0,kept HB5.out f1,kept HB5.out f2,kept HB5.out f3,kept HB5.out g3,kept HB5.out y0,kept HB5.out y1,kept HB5.out y2,kept HB5.out y3⟩
   try simp only [tkS,Act.put]
   clear hK K
   refine wpAnyH_take (i:=7) (oi:=_) (v:=?_) rfl (by kernel_rfl) (by kernel_rfl) (by kernel_rfl) (fun _ _ _ h=>h) (Or.inl ⟨by kernel_rfl,?_⟩) hH1 ?_
   rotate_left
   ·intro w hSw;(try dsimp only at hSw);go_simp
    all_goals with_reducible rfl
   try simp only [tkS,Act.put]
   refine wpAnyH_take (i:=8) (oi:=_) (v:=?_) rfl (by kernel_rfl) (by kernel_rfl) (by kernel_rfl) (fun _ _ _ h=>h) (Or.inl ⟨by kernel_rfl,?_⟩) hH1 ?_
   rotate_left
   ·intro w hSw;(try dsimp only at hSw);go_simp
    all_goals with_reducible rfl
   try simp only [tkS,Act.put]
   refine wpAnyH_take (i:=9) (oi:=_) (v:=?_) rfl (by kernel_rfl) (by kernel_rfl) (by kernel_rfl) (fun _ _ _ h=>h) (Or.inl ⟨by kernel_rfl,?_⟩) hH1 ?_
   rotate_left
   ·intro w hSw;(try dsimp only at hSw);go_simp
    all_goals with_reducible rfl
   try simp only [tkS,Act.put]
   refine wpAnyH_take (i:=10) (oi:=_) (v:=?_) rfl (by kernel_rfl) (by kernel_rfl) (by kernel_rfl) (fun _ _ _ h=>h) (Or.inl ⟨by kernel_rfl,?_⟩) hH1 ?_
   rotate_left
   ·intro w hSw;(try dsimp only at hSw);go_simp
    all_goals with_reducible rfl
   try simp only [tkS,Act.put]
   refine wpAnyH_take (i:=11) (oi:=_) (v:=?_) rfl (by kernel_rfl) (by kernel_rfl) (by kernel_rfl) (fun _ _ _ h=>h) (Or.inl ⟨by kernel_rfl,?_⟩) hH1 ?_
   rotate_left
   ·intro w hSw;(try dsimp only at hSw);go_simp
    all_goals with_reducible rfl
   try simp only [tkS,Act.put]
   refine wpAnyH_done (by kernel_rfl) ?_ _
   have h0:=kept HB5.out g0
   have HB6:Hid (Below w1.heap.size w1 w5):=HB.out.trans (HB5.out.mono HB.out.size)
   clear f0 f1 f2 f3 g3 y0 y1 y2 y3 hcall
   by_cases q3:k0=3∨i=0
   ·rcases q3 with rfl | rfl
    ·go_wp2
     go_roundw
     case rel=>exact ⟨i+1,_,_,by omega,by go_num,rfl,rfl,HB6⟩
     case measure=>simp [intOf];omega
    ·cases q3:(k0 == 3)
     all_goals
      go_wp2
      go_roundw
      case rel=>exact ⟨1,_,_,by omega,rfl,rfl,rfl,HB6⟩
      case measure=>simp [intOf];omega
   ·have q3f:(k0 == 3)=false:=by simp;omega
    have qif:((i:Int) == 0)=false:=by simp;omega
    clear q3
    go_wp2
    go_roundw
    case rel=>exact ⟨i+1,_,_,by omega,by go_num,rfl,rfl,HB6⟩
    case measure=>simp [intOf];omega
  ·have hkz:¬ (i:Int) < (N:Int):=by omega
   go_wp2
   go_ret2
   exact ⟨_,_,rfl,HB1.out.trans (HB.out.mono HB1.out.size)⟩
theorem weight_p (c:Catalog) (e:LExpr):WgP c e:=LExpr.ind (fun k n x ks ih=>weight_step c k n x ks ih) e
set_option maxRecDepth 100000 in
set_option maxHeartbeats 4000000 in
theorem Weight_p (c:Catalog) (e:LExpr) (w:World) (vc v:Value) (hc:Is w vc c) (h:Is w v e):Calls Tryz.prog 50 #[vc,v] w fun e' w'=>∃ p:Int,e'=.returned (.int .i64 p)∧Below w.heap.size w w':=by
 obtain ⟨k0,n0,x0,a,K,k,rfl⟩:=expBox h
 obtain ⟨a0,N0,c0,a1,N1,c1,a2,N2,c2,a3,N3,c3,rfl⟩:=catBox hc
 have hb1:Below w.heap.size w ((w.alloc (.cells #[.slice a0 N0 c0,.slice a1 N1 c1,.slice a2 N2 c2,.slice a3 N3 c3] 27)).alloc (.cells #[.int .i64 k0,.string n0,.string x0,.slice a K k] 68)):=bw
 have hcall:=weight_p c e ((w.alloc (.cells #[.slice a0 N0 c0,.slice a1 N1 c1,.slice a2 N2 c2,.slice a3 N3 c3] 27)).alloc (.cells #[.int .i64 k0,.string n0,.string x0,.slice a K k] 68)) _ _ (hc.mono hb1) (h.mono hb1)
 have HB1:=Lib.hid hb1
 clear hc h hb1
 go_enter Tryz.func50,Tryz.ntmps50
 go_wp2_with fail
 refine hcall.mono ?_
 unfold WgO
 rintro e1 w2 ⟨s,p,rfl,hb2⟩
 have HB2:Hid (Below w.heap.size w w2):=HB1.out.trans (hb2.mono (by simp;omega))
 clear hcall hb2
 go_wp2
 go_ret
 exact ⟨p,rfl,HB2.out⟩
end Go.Proofs.YtcbopdbbcgdkcaaGreatDoor
namespace Go.Proofs.YtcbopdbbcgdkcaaGreatDoor
open Go Go.RowKit Go.ChangeShapes Go.Lib

theorem nodeErr_bad {k:Int} {n x:ByteArray} {ks:List LExpr} (h:k < 0∨3 < k):nodeErr (.mk k n x ks)=1:=by
 show (if k == 0 || k == 1 then _ else if k == 2 || k == 3 then _ else (1:Int))=1
 rw [if_neg (by simp;omega),if_neg (by simp;omega)]
theorem nodeErr_hi {k:Int} {n x:ByteArray} {ks:List LExpr} (h:2≤k) (h2:k≤3):nodeErr (.mk k n x ks)=if decide ((ks.length:Int) < 2) || !emp n || !emp x then 1 else 0:=by
 show (if k == 0 || k == 1 then _ else if k == 2 || k == 3 then (if decide ((ks.length:Int) < 2) || !emp n || !emp x then 1 else 0) else (1:Int))=_
 rw [if_neg (by simp;omega),if_pos (by simp;omega)]
end Go.Proofs.YtcbopdbbcgdkcaaGreatDoor
namespace Go.Proofs.YtcbopdbbcgdkcaaGreatDoor
open Go

end Go.Proofs.YtcbopdbbcgdkcaaGreatDoor
namespace Go.Proofs.YtcbopdbbcgdkcaaGreatDoor
open Go Go.RowKit Go.ChangeShapes Go.Lib

theorem nodesErr_mem {l:List LExpr} (h:nodesErr l=0):∀ e∈l,nodeErr e=0:=by
 induction l with
 | nil=>intro e he;simp at he
 | cons a r ih =>
  intro e he
  rw [nodesErr] at h
  by_cases q:nodeErr a=0
  ·rw [q] at h
   rcases List.mem_cons.1 he with rfl | he
   ·exact q
   ·exact ih h e he
  ·rw [if_neg (by simpa using q)] at h;exact absurd h q
theorem nodesErr_zero {l:List LExpr} (h:∀ e∈l,nodeErr e=0):nodesErr l=0:=by
 induction l with
 | nil=>rfl
 | cons a r ih=>rw [nodesErr,h a (by simp)];exact ih fun e he=>h e (by simp [he])
theorem err_low {k:Int} {n x:ByteArray} {ks:List LExpr} (h:nodeErr (.mk k n x ks)=0) (hk:k < 2):ks=[]∧nameB n=true:=by
 by_cases q:k < 0∨3 < k
 ·rw [nodeErr_bad q] at h;cases h
 obtain rfl | rfl:k=0∨k=1:=by omega
 all_goals
  cases ks with
  | cons y r=>simp [nodeErr] at h
  | nil =>
   refine ⟨rfl,?_⟩
   cases q:nameB n
   ·exfalso;simp [nodeErr,q] at h;try (split at h <;> simp at h)
   ·rfl
end Go.Proofs.YtcbopdbbcgdkcaaGreatDoor
