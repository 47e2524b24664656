/- DutyClauses: each duty of a choice is a clause of its term, for a component that is used in an output that is distributed in its way; changes are listed for changed components alone. -/
import Derived.Test.YtcbopdbbcgdkcaaGreatDoorJDuH
import Derived.Test.YtcbopdbbcgdkcaaGreatDoorJHedU
set_option linter.all false
namespace Go.Proofs.YtcbopdbbcgdkcaaGreatDoor
open Go Go.RowKit Go.ChangeShapes Go.Lib Go.Shelf

def usesD (d:Due) (f:Fact):Bool:=((((f.kind == 0) && seq f.component d.component) && seq f.output d.output) && (f.relation == d.relation)) && (f.changed || (d.duty != 2))
def shipsD (d:Due) (f:Fact):Bool:=((f.kind == 2) && seq f.output d.output) && (f.way == d.way)
theorem cla_plain {c:Catalog} {x:List Fact} {ts:List (List Term)} {d:Due} (h:d∈onceD [] (duesF c x x ts)) :
  x.any (usesD d)=true∧x.any (shipsD d)=true∧((clausesC c d.term d.way d.relation).any fun k=>k.duty == d.duty)=true:=by
 have h1:d∈duesF c x x ts:=by
  rcases (once_mem _ _).1 h with h | h
  ·simp at h
  ·exact h
 obtain ⟨⟨u,hu,u1,u2,u3,u4,u5⟩,⟨s,hs,s1,s2,s3⟩,k,hk,k1⟩:=dues_clause h1
 refine ⟨List.any_eq_true.2 ⟨u,hu,?_⟩,List.any_eq_true.2 ⟨s,hs,?_⟩,List.any_eq_true.2 ⟨k,hk,by simpa using k1⟩⟩
 ·unfold usesD
  rw [seq_eq,seq_eq,u2,u3,u1,u4]
  rcases u5 with u5 | u5
  ·rw [u5];simp
  ·simp [u5]
 ·unfold shipsD
  rw [seq_eq,s1,s2,s3];simp
theorem nodup_take {l:List Due} (h:l.Nodup) {k:Nat} {d:Due} (hd:l[k]?=some d):decide (d∈l.take k)=false:=by
 rw [decide_eq_false_iff_not]
 intro hm
 rw [← List.take_append_drop k l,drop_at hd] at h
 exact (List.nodup_append.1 h).2.2 d hm d (by simp) rfl
set_option maxRecDepth 100000 in
theorem Cla1_p (W:World) (g:Nat) (v:Value) (d:Due) (f:Fact) (hc0:W.cell? ⟨g,0,none⟩=some (.string d.output)) (hc1:W.cell? ⟨g,1,none⟩=some (.string d.component)) (hc5:W.cell? ⟨g,5,none⟩=some (.int .i64 d.relation)) (hc6:W.cell? ⟨g,6,none⟩=some (.int .i64 d.duty)) (hv:Is W v f) :
  Calls Tryz.prog 34 (#[v]++#[.pointer (some ⟨g,0,none⟩)]) W fun e w'=>e=.returned (.bool (usesD d f))∧Below W.heap.size W w':=by
 have hs:g < W.heap.size:=cell_lt hc0
 obtain ⟨o1,m1,⟨t1,s1⟩,p1,r1,v1⟩:=d
 obtain ⟨ki,co,ou,re,wa,du,ch,⟨ek,en,ex,eks⟩,li⟩:=f
 obtain ⟨ae,ce,al,cl,rfl,-⟩:=Fact.inv hv
 clear hv
 simp only at hc0 hc1 hc5 hc6
 have HQ:Hid (usesD ⟨o1,m1,⟨t1,s1⟩,p1,r1,v1⟩ ⟨ki,co,ou,re,wa,du,ch,.mk ek en ex eks,li⟩=(((((ki == 0) && (co.toList == m1.toList)) && (ou.toList == o1.toList)) && (re == r1)) && (ch || (v1 != 2)))):=rfl
 generalize usesD ⟨o1,m1,⟨t1,s1⟩,p1,r1,v1⟩ ⟨ki,co,ou,re,wa,du,ch,.mk ek en ex eks,li⟩=R at *
 generalize eks.length=E at *
 generalize li.length=M at *
 cases h0:(ki == 0)
 case false =>
  have HT:Hid (R=false):=by show _=_;rw [HQ.out,h0];rfl
  clear HQ
  go_enter Tryz.func34,Tryz.ntmps34
  go_wp2
  go_ret
  exact ⟨ret_b HT.out.symm,bw⟩
 cases h1:(co.toList == m1.toList)
 case false =>
  have HT:Hid (R=false):=by show _=_;rw [HQ.out,h0,h1];rfl
  clear HQ
  go_enter Tryz.func34,Tryz.ntmps34
  go_wp2
  go_ret
  exact ⟨ret_b HT.out.symm,bw⟩
 cases h2:(ou.toList == o1.toList)
 case false =>
  have HT:Hid (R=false):=by show _=_;rw [HQ.out,h0,h1,h2];rfl
  clear HQ
  go_enter Tryz.func34,Tryz.ntmps34
  go_wp2
  go_ret
  exact ⟨ret_b HT.out.symm,bw⟩
 cases h3:(re == r1)
 case false =>
  have HT:Hid (R=false):=by show _=_;rw [HQ.out,h0,h1,h2,h3];rfl
  clear HQ
  go_enter Tryz.func34,Tryz.ntmps34
  go_wp2
  go_ret
  exact ⟨ret_b HT.out.symm,bw⟩
 cases ch
 case true =>
  have HT:Hid (R=true):=by show _=_;rw [HQ.out,h0,h1,h2,h3];rfl
  clear HQ
  go_enter Tryz.func34,Tryz.ntmps34
  go_wp2
  go_ret
  exact ⟨ret_b HT.out.symm,bw⟩
 cases h4:(v1 != 2)
 case false =>
  have HT:Hid (R=false):=by show _=_;rw [HQ.out,h0,h1,h2,h3,h4];rfl
  clear HQ
  go_enter Tryz.func34,Tryz.ntmps34
  go_wp2
  go_ret
  exact ⟨ret_b HT.out.symm,bw⟩
 have HT:Hid (R=true):=by show _=_;rw [HQ.out,h0,h1,h2,h3,h4];rfl
 clear HQ
 go_enter Tryz.func34,Tryz.ntmps34
 go_wp2
 go_ret
 exact ⟨ret_b HT.out.symm,bw⟩
set_option maxRecDepth 100000 in
theorem Cla2_p (W:World) (g:Nat) (v:Value) (d:Due) (f:Fact) (hc0:W.cell? ⟨g,0,none⟩=some (.string d.output)) (hc4:W.cell? ⟨g,4,none⟩=some (.int .i64 d.way)) (hv:Is W v f) :
  Calls Tryz.prog 35 (#[v]++#[.pointer (some ⟨g,0,none⟩)]) W fun e w'=>e=.returned (.bool (shipsD d f))∧Below W.heap.size W w':=by
 have hs:g < W.heap.size:=cell_lt hc0
 obtain ⟨o1,m1,⟨t1,s1⟩,p1,r1,v1⟩:=d
 obtain ⟨ki,co,ou,re,wa,du,ch,⟨ek,en,ex,eks⟩,li⟩:=f
 obtain ⟨ae,ce,al,cl,rfl,-⟩:=Fact.inv hv
 clear hv
 simp only at hc0 hc4
 have HQ:Hid (shipsD ⟨o1,m1,⟨t1,s1⟩,p1,r1,v1⟩ ⟨ki,co,ou,re,wa,du,ch,.mk ek en ex eks,li⟩=(((ki == 2) && (ou.toList == o1.toList)) && (wa == p1))):=rfl
 generalize shipsD ⟨o1,m1,⟨t1,s1⟩,p1,r1,v1⟩ ⟨ki,co,ou,re,wa,du,ch,.mk ek en ex eks,li⟩=R at *
 generalize eks.length=E at *
 generalize li.length=M at *
 cases h0:(ki == 2)
 case false =>
  have HT:Hid (R=false):=by show _=_;rw [HQ.out,h0];rfl
  clear HQ
  go_enter Tryz.func35,Tryz.ntmps35
  go_wp2
  go_ret
  exact ⟨ret_b HT.out.symm,bw⟩
 cases h1:(ou.toList == o1.toList)
 case false =>
  have HT:Hid (R=false):=by show _=_;rw [HQ.out,h0,h1];rfl
  clear HQ
  go_enter Tryz.func35,Tryz.ntmps35
  go_wp2
  go_ret
  exact ⟨ret_b HT.out.symm,bw⟩
 cases h2:(wa == p1)
 case false =>
  have HT:Hid (R=false):=by show _=_;rw [HQ.out,h0,h1,h2];rfl
  clear HQ
  go_enter Tryz.func35,Tryz.ntmps35
  go_wp2
  go_ret
  exact ⟨ret_b HT.out.symm,bw⟩
 have HT:Hid (R=true):=by show _=_;rw [HQ.out,h0,h1,h2];rfl
 clear HQ
 go_enter Tryz.func35,Tryz.ntmps35
 go_wp2
 go_ret
 exact ⟨ret_b HT.out.symm,bw⟩
set_option maxRecDepth 100000 in
theorem Cla3_p (W:World) (g:Nat) (v:Value) (d:Due) (f:Clause) (hc6:W.cell? ⟨g,6,none⟩=some (.int .i64 d.duty)) (hv:Is W v f) :
  Calls Tryz.prog 38 (#[v]++#[.pointer (some ⟨g,0,none⟩)]) W fun e w'=>e=.returned (.bool (f.duty == d.duty))∧Below W.heap.size W w':=by
 have hs:g < W.heap.size:=cell_lt hc6
 obtain ⟨o1,m1,⟨t1,s1⟩,p1,r1,v1⟩:=d
 obtain ⟨cl0,cw0,cr0,cd0,li⟩:=f
 obtain ⟨al,cl,rfl,-⟩:=Clause.inv hv
 clear hv
 simp only at hc6
 go_enter Tryz.func38,Tryz.ntmps38
 go_wp2
 go_ret
 exact ⟨rfl,bw⟩
set_option maxRecDepth 100000 in
set_option maxHeartbeats 16000000 in
theorem DutyClauses_p (w:World) (vc vx:Value) (c:Catalog) (x:List Fact) (n:Int) (hg:Glob w) (hc:Is w vc c) (h:Is w vx x) (hn:(Lit.int .u16 n).wf=true) (hok:∀ f∈x,okF f) :
  Calls Tryz.prog 8 #[vc,vx,.int .u16 n] w fun e w'=>e=.returned (.bool true)∧Below w.heap.size w w':=by
 have hn1:=u16_range hn
 obtain ⟨nn,rfl⟩:∃ nn:Nat,n=nn:=⟨n.toNat,by omega⟩
 have hn2:nn≤65535:=by omega
 clear hn1 hn
 have HG:=Lib.hid hg
 have HX:=Lib.hid h
 have HC:=Lib.hid hc
 have HOK:=Lib.hid hok
 obtain ⟨a0,c0,a1,c1,a2,c2,a3,c3,rfl,-⟩:=Catalog.inv hc
 obtain ⟨ax,nx,rfl,hnx,hmx,hr⟩:=list_inv h
 simp only [maxLen] at hmx
 have hm':x.length≤9223372036854775807:=by omega
 have HR:=Lib.hid hr
 have hba:Below w.heap.size w (w.alloc (.cells #[.slice a0 c.licenses.length c0,.slice a1 c.exceptions.length c1,.slice a2 c.clauses.length c2,.slice a3 c.apart.length c3] 27)):=(Below.refl _ _).alloc (Nat.le_refl _) _
 have hcall:=awakeD_p (w.alloc (.cells #[.slice a0 c.licenses.length c0,.slice a1 c.exceptions.length c1,.slice a2 c.clauses.length c2,.slice a3 c.apart.length c3] 27)) (hg.mono hba)
 have HBA:=Lib.hid hba
 generalize hL:x.length=L at *
 have HL:=Lib.hid hL
 generalize hN0:c.licenses.length=N0 at *
 have HN0:=Lib.hid hN0
 generalize c.exceptions.length=N1 at *
 generalize hN2:c.clauses.length=N2 at *
 have HN2:=Lib.hid hN2
 generalize c.apart.length=N3 at *
 clear h hr hc hok hnx hmx hL hba hN0 hN2 hg
 go_enter Tryz.func8,Tryz.ntmps8
 go_wp2_with fail
 refine hcall.mono ?_
 rintro e w1 ⟨rfl,hb1⟩
 clear hcall
 have d0:=kept hb1 (a:=⟨w.heap.size,0,none⟩) (v:=.slice a0 N0 c0) (by simp)
 have d1:=kept hb1 (a:=⟨w.heap.size,1,none⟩) (v:=.slice a1 N1 c1) (by simp)
 have d2:=kept hb1 (a:=⟨w.heap.size,2,none⟩) (v:=.slice a2 N2 c2) (by simp)
 have d3:=kept hb1 (a:=⟨w.heap.size,3,none⟩) (v:=.slice a3 N3 c3) (by simp)
 have hs1:w.heap.size < w1.heap.size:=cell_lt d0
 have HB1:Hid (Below w.heap.size w w1):=Lib.hid (HBA.out.trans (hb1.mono (by simp)))
 clear hb1 HBA
 go_wp2_with fail
 refine (FewD_ref w1 _ _ c x (HC.out.mono HB1.out) (HX.out.mono HB1.out) HOK.out).mono ?_
 rintro e w2 ⟨fb,rfl,hfx,hb2⟩
 have HFX:=Lib.hid hfx
 have HB2:Hid (Below w.heap.size w w2):=Lib.hid (HB1.out.trans (hb2.mono HB1.out.size))
 cases fb
 case false =>
  clear hb2 hfx d0 d1 d2 d3
  go_wp2
  go_ret
  exact ⟨rfl,HB2.out⟩
 have HFW:=Lib.hid (HFX.out rfl)
 have HFIT:=Lib.hid HFW.out.fits
 have d0:=kept hb2 d0
 have d1:=kept hb2 d1
 have d2:=kept hb2 d2
 have d3:=kept hb2 d3
 have hs2:w.heap.size < w2.heap.size:=cell_lt d0
 clear hb2 hfx hs1 HB1 HFX
 go_wp2_with fail
 refine (Count_p w2 _ _ c x (HG.out.mono HB2.out) (HC.out.mono HB2.out) (HX.out.mono HB2.out) HFIT.out (by have:=HFW.out.1;omega)).mono ?_
 have HNTH:=Lib.hid (fun (n:Nat) h1 h2=>nth_ok (c:=c) (x:=x) (n:=n) h1 h2)
 have HCR:=Lib.hid (count_nat c x)
 generalize countC c x=cn at *
 obtain ⟨cn1,cn2⟩:=cn
 simp only at HNTH HCR
 rintro e w3 ⟨rfl,hb3⟩
 have d0:=kept hb3 d0
 have d1:=kept hb3 d1
 have d2:=kept hb3 d2
 have d3:=kept hb3 d3
 have hs3:w.heap.size < w3.heap.size:=cell_lt d0
 have HB3:Hid (Below w.heap.size w w3):=Lib.hid (HB2.out.trans (hb3.mono HB2.out.size))
 clear hb3 hs2 HB2
 cases q:(cn2 == 0)
 case false =>
  have q':(cn2 != 0)=true:=by rw [show (cn2 != 0)=!(cn2 == 0) from rfl,q];rfl
  clear q HNTH HCR
  go_wp2
  go_ret
  exact ⟨rfl,HB3.out⟩
 have q':(cn2 != 0)=false:=by rw [show (cn2 != 0)=!(cn2 == 0) from rfl,q];rfl
 have q0:cn2=0:=by simpa using q
 subst q0
 obtain ⟨mm,rfl,hmm⟩:=HCR.out
 by_cases qm:mm=0
 ·subst qm
  clear q HNTH HCR
  go_wp2
  go_ret
  exact ⟨rfl,HB3.out⟩
 have qmf:((mm:Int) == 0)=false:=by simp;omega
 have hmp:0 < mm:=by omega
 obtain ⟨kk,hkk⟩:∃ kk:Nat,kk=nn % mm:=⟨_,rfl⟩
 have hkm:kk < mm:=by rw [hkk];exact Nat.mod_lt _ hmp
 have hrem:((nn:Int)).tmod (mm:Int)=(kk:Int):=by rw [hkk];exact (Int.ofNat_tmod nn mm).symm
 have hmz:¬ (mm:Int)=0:=by omega
 have hwrap:IntKind.i64.wrap (nn:Int)=(nn:Int):=by rw [IntKind.wrap_i64];omega
 obtain ⟨HN1',HN2'⟩:=HNTH.out kk rfl (by show (kk:Int) < (mm:Int);omega)
 have HNT:=Lib.hid HN2'
 have HNE:=Lib.hid HN1'
 have D0:=Lib.hid d0
 have D1:=Lib.hid d1
 have D2:=Lib.hid d2
 have D3:=Lib.hid d3
 have hcall:=fun W (hb:Below w3.heap.size w3 W)=>Nth_is W _ _ c x kk (HG.out.mono (HB3.out.trans (hb.mono HB3.out.size))) (HC.out.mono (HB3.out.trans (hb.mono HB3.out.size))) (HX.out.mono (HB3.out.trans (hb.mono HB3.out.size))) HFIT.out (by have:=HFW.out.1;omega)
 unfold NI at hcall
 rw [HN1'] at hcall
 generalize hY:(nthC c x kk).1=y at *
 have HCALL:=Lib.hid hcall
 clear q HNTH HCR HN1' HN2' hY hkk d0 d1 d2 d3 hcall HNE
 go_upto_region 8 with (fail)
 go_cut [8,9] (fun v8 v9 wx=>∃ (g:Nat) (a4:Option Addr) (c4:Nat) (a5:Option Addr) (c5:Nat),v8=.int .i64 0∧v9=.pointer (some ⟨g,0,none⟩)∧Hid (w3.heap.size≤g)∧Hid (wx.cell? ⟨g,0,none⟩=some (.slice a4 y.terms.length c4))∧Hid (wx.cell? ⟨g,1,none⟩=some (.slice a5 y.own.length c5))∧Hid (Is wx (.agg #[.slice a4 y.terms.length c4,.slice a5 y.own.length c5]) y)∧Hid (Below w3.heap.size w3 wx))
 case first =>
  refine wp_region_held_drew (S:=(fun w':World=>Below w3.heap.size w3 w')) (by kernel_rfl) (by exact bw) (fun hH0=>?_)
  generalize w3.drew=wd at *
  refine wpAnyH_take (i:=0) (oi:=_) (v:=?_) rfl (by kernel_rfl) (by kernel_rfl) (by kernel_rfl) (fun _ _ _ h=>h) (Or.inl ⟨by kernel_rfl,?_⟩) hH0 ?_
  rotate_left
  ·intro w hSw
   try dsimp only at hSw
   have d0:=kept hSw D0.out
   have d1:=kept hSw D1.out
   have d2:=kept hSw D2.out
   have d3:=kept hSw D3.out
   go_simp
   all_goals with_reducible rfl
  try simp only [tkS,Act.put]
  refine wpAnyH_take (i:=1) (oi:=_) (v:=?_) rfl (by kernel_rfl) (by kernel_rfl) (by kernel_rfl) (fun _ _ _ h=>h) (Or.inl ⟨by kernel_rfl,?_⟩) hH0 ?_
  rotate_left
  ·intro w hSw
   try dsimp only at hSw
   go_simp
   all_goals with_reducible rfl
  try simp only [tkS,Act.put]
  refine wpAnyH_take (i:=2) (oi:=_) (v:=?_) rfl (by kernel_rfl) (by kernel_rfl) (by kernel_rfl) (fun _ _ _ h=>h) (Or.inl ⟨by kernel_rfl,?_⟩) hH0 ?_
  rotate_left
  ·intro w hSw
   try dsimp only at hSw
   go_simp
   all_goals with_reducible rfl
  try simp only [tkS,Act.put]
  refine wpAnyH_take (i:=3) (oi:=_) (v:=?_) rfl (by kernel_rfl) (by kernel_rfl) (by kernel_rfl) (fun _ _ _ h=>h) (Or.inl ⟨by kernel_rfl,?_⟩) hH0 ?_
  rotate_left
  ·intro w hSw
   try dsimp only at hSw
   go_simp
   (try rw [hwrap])
   all_goals with_reducible rfl
  try simp only [tkS,Act.put]
  refine wpAnyH_take (i:=4) (oi:=_) (v:=?_) rfl (by kernel_rfl) (by kernel_rfl) (by kernel_rfl) (fun _ _ _ h=>h) (Or.inl ⟨by kernel_rfl,?_⟩) hH0 ?_
  rotate_left
  ·intro w hSw
   try dsimp only at hSw
   go_simp
   all_goals with_reducible rfl
  try simp only [tkS,Act.put]
  refine wpAnyH_take (i:=5) (oi:=_) (v:=?_) rfl (by kernel_rfl) (by kernel_rfl) (by kernel_rfl) (fun _ _ _ h=>h) (Or.inl ⟨by kernel_rfl,?_⟩) hH0 ?_
  rotate_left
  ·intro w hSw
   try dsimp only at hSw
   go_simp
   (try rw [hrem])
   all_goals with_reducible rfl
  try simp only [tkS,Act.put]
  refine wpAnyH_ready (rs:=[6,10]) (by kernel_rfl) (by simp) ?_
  refine AllReadyH.cons (o:=_) rfl (fun K hK=>?_) (AllReadyH.cons (o:=_) rfl (fun K hK=>?_) AllReadyH.nil)
  ·go_simp
   go_at_call 22
   refine (HCALL.out _ hH0).mono ?_
   rintro e w5 ⟨a4,c4,a5,c5,rfl,hch,hb⟩
   have hbb:Below w3.heap.size w3 w5:=hH0.trans (hb.mono hH0.size)
   go_wp2_with fail
   refine hK.out _ _ ?_ (fun hH1=>?_)
   ·exact hbb
   try simp only [tkS,Act.put]
   clear hK K
   refine wpAnyH_take (i:=7) (oi:=_) (v:=?_) rfl (by kernel_rfl) (by kernel_rfl) (by kernel_rfl) (fun _ _ _ h=>h) (Or.inl ⟨by kernel_rfl,?_⟩) hH1 ?_
   rotate_left
   ·intro w hSw
    try dsimp only at hSw
    go_simp
    all_goals with_reducible rfl
   try simp only [tkS,Act.put]
   refine wpAnyH_take (i:=8) (oi:=_) (v:=?_) rfl (by kernel_rfl) (by kernel_rfl) (by kernel_rfl) (fun _ _ _ h=>h) (Or.inl ⟨by kernel_rfl,?_⟩) hH1 ?_
   rotate_left
   ·intro w hSw
    try dsimp only at hSw
    go_simp
    all_goals with_reducible rfl
   try simp only [tkS,Act.put]
   refine wpAnyH_take (i:=9) (oi:=_) (v:=?_) rfl (by kernel_rfl) (by kernel_rfl) (by kernel_rfl) (fun _ _ _ h=>h) (Or.inl ⟨by kernel_rfl,?_⟩) hH1 ?_
   rotate_left
   ·intro w hSw
    try dsimp only at hSw
    go_simp
    all_goals with_reducible rfl
   try simp only [tkS,Act.put]
   refine wpAnyH_ready (rs:=[10]) (by kernel_rfl) (by simp) ?_
   refine AllReadyH.cons (o:=_) rfl (fun K hK=>?_) AllReadyH.nil
   go_simp
   have hbA:Below w5.heap.size w5 (w5.alloc (.cells #[.slice none 0 0,.slice none 0 0] 43)):=(Below.refl _ _).alloc (Nat.le_refl _) _
   have hOA:=World.alloc_heap_new w5 (.cells #[.slice none 0 0,.slice none 0 0] 43)
   have hbA2:Below w3.heap.size w3 (w5.alloc (.cells #[.slice none 0 0,.slice none 0 0] 43)):=hbb.alloc hbb.size _
   go_wp2_with fail
   refine hK.out _ _ ?_ (fun hH2=>?_)
   ·exact hbA2
   try simp only [tkS,Act.put]
   clear hK K
   have hge:w3.heap.size≤w5.heap.size:=hbb.size
   refine wpAnyH_ready (rs:=[11]) (by kernel_rfl) (by simp) ?_
   refine AllReadyH.cons (o:=_) rfl (fun K hK=>?_) AllReadyH.nil
   go_simp
   have hb6:Below w3.heap.size w3 (w5.alloc (.cells #[.slice a4 y.terms.length c4,.slice a5 y.own.length c5] 43)):=hbb.alloc hbb.size _
   have hyy:Is (w5.alloc (.cells #[.slice a4 y.terms.length c4,.slice a5 y.own.length c5] 43)) (.agg #[.slice a4 y.terms.length c4,.slice a5 y.own.length c5]) y:=(hch.below ((Below.refl _ _).alloc (Nat.le_refl _) _)).is
   have z0:((w5.alloc (.cells #[.slice a4 y.terms.length c4,.slice a5 y.own.length c5] 43))).cell? ⟨w5.heap.size,0,none⟩=some (.slice a4 y.terms.length c4):=by simp
   have z1:((w5.alloc (.cells #[.slice a4 y.terms.length c4,.slice a5 y.own.length c5] 43))).cell? ⟨w5.heap.size,1,none⟩=some (.slice a5 y.own.length c5):=by simp
   go_wp2_with fail
   refine hK.out _ _ ?_ (fun hH3=>?_)
   ·exact hb6
   try simp only [tkS,Act.put]
   clear hK K
   generalize (w5.alloc (.cells #[.slice a4 y.terms.length c4,.slice a5 y.own.length c5] 43))=w6 at *
   refine wpAnyH_take (i:=12) (oi:=_) (v:=?_) rfl (by kernel_rfl) (by kernel_rfl) (by kernel_rfl) (fun _ _ _ h=>h) (Or.inl ⟨by kernel_rfl,?_⟩) hH3 ?_
   rotate_left
   ·intro w hSw
    try dsimp only at hSw
    go_simp
    all_goals with_reducible rfl
   try simp only [tkS,Act.put]
   refine wpAnyH_done (by kernel_rfl) ?_ _
   go_wp2_with fail
   go_meet
   case rel=>exact ⟨w5.heap.size,a4,c4,a5,c5,rfl,rfl,Lib.hid hge,Lib.hid z0,Lib.hid z1,Lib.hid hyy,Lib.hid hb6⟩
  ·go_simp
   have hbA:Below wd.heap.size wd (wd.alloc (.cells #[.slice none 0 0,.slice none 0 0] 43)):=(Below.refl _ _).alloc (Nat.le_refl _) _
   have hOB:=World.alloc_heap_new wd (.cells #[.slice none 0 0,.slice none 0 0] 43)
   have hbA2:Below w3.heap.size w3 (wd.alloc (.cells #[.slice none 0 0,.slice none 0 0] 43)):=hH0.alloc hH0.size _
   have hge:w3.heap.size≤wd.heap.size:=hH0.size
   have hlt:wd.heap.size < (wd.alloc (.cells #[.slice none 0 0,.slice none 0 0] 43)).heap.size:=by simp
   go_wp2_with fail
   refine hK.out _ _ ?_ (fun hH1=>?_)
   ·exact hbA2
   try simp only [tkS,Act.put]
   clear hK K
   generalize (wd.alloc (.cells #[.slice none 0 0,.slice none 0 0] 43))=wA at *
   generalize wd.heap.size=gA at *
   clear hbA hH0
   refine wpAnyH_ready (rs:=[6]) (by kernel_rfl) (by simp) ?_
   refine AllReadyH.cons (o:=_) rfl (fun K hK=>?_) AllReadyH.nil
   go_simp
   go_at_call 22
   refine (HCALL.out _ hH1).mono ?_
   rintro e w5 ⟨a4,c4,a5,c5,rfl,hch,hb⟩
   have hbb:Below w3.heap.size w3 w5:=hH1.trans (hb.mono hH1.size)
   have hOA:=below_blk hb hOB
   go_wp2_with fail
   refine hK.out _ _ ?_ (fun hH2=>?_)
   ·exact hbb
   try simp only [tkS,Act.put]
   clear hK K
   refine wpAnyH_take (i:=7) (oi:=_) (v:=?_) rfl (by kernel_rfl) (by kernel_rfl) (by kernel_rfl) (fun _ _ _ h=>h) (Or.inl ⟨by kernel_rfl,?_⟩) hH2 ?_
   rotate_left
   ·intro w hSw
    try dsimp only at hSw
    go_simp
    all_goals with_reducible rfl
   try simp only [tkS,Act.put]
   refine wpAnyH_take (i:=8) (oi:=_) (v:=?_) rfl (by kernel_rfl) (by kernel_rfl) (by kernel_rfl) (fun _ _ _ h=>h) (Or.inl ⟨by kernel_rfl,?_⟩) hH2 ?_
   rotate_left
   ·intro w hSw
    try dsimp only at hSw
    go_simp
    all_goals with_reducible rfl
   try simp only [tkS,Act.put]
   refine wpAnyH_take (i:=9) (oi:=_) (v:=?_) rfl (by kernel_rfl) (by kernel_rfl) (by kernel_rfl) (fun _ _ _ h=>h) (Or.inl ⟨by kernel_rfl,?_⟩) hH2 ?_
   rotate_left
   ·intro w hSw
    try dsimp only at hSw
    go_simp
    all_goals with_reducible rfl
   try simp only [tkS,Act.put]
   refine wpAnyH_ready (rs:=[11]) (by kernel_rfl) (by simp) ?_
   refine AllReadyH.cons (o:=_) rfl (fun K hK=>?_) AllReadyH.nil
   have y0:=objcell hOA (j:=0) rfl
   have y1:=objcell hOA (j:=1) rfl
   have f0:=objfrozen hOA (j:=0)
   have f1:=objfrozen hOA (j:=1)
   have hlg:gA < w5.heap.size:=cell_lt y0
   go_simp
   have hb6:Below w3.heap.size w3 ((w5.setCell ⟨gA,0,none⟩ (.slice a4 y.terms.length c4)).setCell ⟨gA,1,none⟩ (.slice a5 y.own.length c5)):=(hbb.setCell (by exact hge) _).setCell (by exact hge) _
   have hyy:Is ((w5.setCell ⟨gA,0,none⟩ (.slice a4 y.terms.length c4)).setCell ⟨gA,1,none⟩ (.slice a5 y.own.length c5)) (.agg #[.slice a4 y.terms.length c4,.slice a5 y.own.length c5]) y:=((hch.setCell _ (by exact hlt)).setCell _ (by exact hlt)).is
   have z0:(((w5.setCell ⟨gA,0,none⟩ (.slice a4 y.terms.length c4)).setCell ⟨gA,1,none⟩ (.slice a5 y.own.length c5))).cell? ⟨gA,0,none⟩=some (.slice a4 y.terms.length c4):=objcell (setCell_obj _ gA 1 _ (setCell_obj w5 gA 0 _ hOA)) (j:=0) rfl
   have z1:(((w5.setCell ⟨gA,0,none⟩ (.slice a4 y.terms.length c4)).setCell ⟨gA,1,none⟩ (.slice a5 y.own.length c5))).cell? ⟨gA,1,none⟩=some (.slice a5 y.own.length c5):=objcell (setCell_obj _ gA 1 _ (setCell_obj w5 gA 0 _ hOA)) (j:=1) rfl
   go_wp2_with fail
   refine hK.out _ _ ?_ (fun hH3=>?_)
   ·exact hb6
   try simp only [tkS,Act.put]
   clear hK K
   generalize ((w5.setCell ⟨gA,0,none⟩ (.slice a4 y.terms.length c4)).setCell ⟨gA,1,none⟩ (.slice a5 y.own.length c5))=w6 at *
   refine wpAnyH_take (i:=12) (oi:=_) (v:=?_) rfl (by kernel_rfl) (by kernel_rfl) (by kernel_rfl) (fun _ _ _ h=>h) (Or.inl ⟨by kernel_rfl,?_⟩) hH3 ?_
   rotate_left
   ·intro w hSw
    try dsimp only at hSw
    go_simp
    all_goals with_reducible rfl
   try simp only [tkS,Act.put]
   refine wpAnyH_done (by kernel_rfl) ?_ _
   go_wp2_with fail
   go_meet
   case rel=>exact ⟨gA,a4,c4,a5,c5,rfl,rfl,Lib.hid hge,Lib.hid z0,Lib.hid z1,Lib.hid hyy,Lib.hid hb6⟩
 case rest =>
  obtain ⟨g,a4,c4,a5,c5,rfl,rfl,HGE,HC0,HC1,HYI,HB6⟩:=hcut
  have HBW6:Hid (Below w.heap.size w wc):=Lib.hid (HB3.out.trans (HB6.out.mono HB3.out.size))
  have d0:=kept HB6.out D0.out
  have d1:=kept HB6.out D1.out
  have d2:=kept HB6.out D2.out
  have d3:=kept HB6.out D3.out
  have e0:=HC0.out
  have e1:=HC1.out
  have hg6:g < wc.heap.size:=cell_lt e0
  have hs6:w.heap.size < wc.heap.size:=cell_lt d0
  have HDU:=Lib.hid (duties_ok HNT.out)
  have hcall:=Of_is wc _ _ _ c x y (HG.out.mono HBW6.out) (HC.out.mono HBW6.out) (HX.out.mono HBW6.out) HYI.out HFW.out HNT.out.alts
  unfold DI at hcall
  rw [HDU.out] at hcall
  simp only at hcall
  generalize hLD:onceD [] (duesF c x x y.terms)=l at *
  have HLD:=Lib.hid hLD
  generalize hLT:y.terms.length=LT at *
  generalize hLO:y.own.length=LO at *
  have HLT:=Lib.hid hLT
  have HLO:=Lib.hid hLO
  clear HCALL hLD hLT hLO HDU
  go_wp2_with fail
  refine hcall.mono ?_
  rintro e w7 ⟨a6,c6,rfl,hrd7,hb7⟩
  clear hcall
  have hl7:=hrd7.is
  have hok7:=hrd7.2
  obtain ⟨a6',c6',he6,hn6,hm6,hr6⟩:=list_inv hl7
  cases he6
  have HBW7:Hid (Below w.heap.size w w7):=Lib.hid (HBW6.out.trans (hb7.mono HBW6.out.size))
  have HL7:=Lib.hid hl7
  have HR7:=Lib.hid hr6
  have HOK7:=Lib.hid hok7
  have HYI7:=Lib.hid (HYI.out.mono hb7)
  have d0:=kept hb7 d0
  have d1:=kept hb7 d1
  have d2:=kept hb7 d2
  have d3:=kept hb7 d3
  have e0:=kept hb7 e0
  have e1:=kept hb7 e1
  have D0:=Lib.hid d0
  have D1:=Lib.hid d1
  have D2:=Lib.hid d2
  have D3:=Lib.hid d3
  have E0:=Lib.hid e0
  have E1:=Lib.hid e1
  have hs7:w.heap.size < w7.heap.size:=cell_lt d0
  have hg7:g < w7.heap.size:=cell_lt e0
  simp only [maxLen] at hm6
  have hm6':l.length≤9223372036854775807:=by omega
  generalize hLL:l.length=LL at *
  have HLL:=Lib.hid hLL
  clear hb7 hl7 hr6 hok7 hrd7 hg6 hs6 hLL HB6 HC0 HC1 HYI HB3 HBW6
  have HPL:Hid (∀ d∈l,x.any (usesD d)=true∧x.any (shipsD d)=true∧((clausesC c d.term d.way d.relation).any fun k=>k.duty == d.duty)=true):=by
   show ∀ _,_→_
   intro d hd
   rw [← HLD.out] at hd
   exact cla_plain hd
  have HND:Hid (l.Nodup):=by show List.Nodup _;rw [← HLD.out];exact once_nodup _ _ (by simp)
  clear hs7 HLD d0 d1 d2 d3 e0 e1
  go_wp2_with fail
  go_loopw [60] (fun kv wr=>∃ k:Nat,k≤LL∧kv=.int .i64 k∧Hid (Below w7.heap.size w7 wr)) (fun kv _=>LL - (intOf kv).toNat)
  case atStart=>exact ⟨0,by omega,rfl,Lib.hid (Below.refl _ _)⟩
  case round =>
   obtain ⟨k,hk,rfl,HB⟩:=hrel
   have HBW:Hid (Below w.heap.size w wr):=Lib.hid (HBW7.out.trans (HB.out.mono HBW7.out.size))
   by_cases hki:k < LL
   ·have hkz:(k:Int) < (LL:Int):=by omega
    have hk0:(0:Int)≤(k:Int):=by omega
    obtain ⟨d,hd⟩:=get_lt (xs:=l) (k:=k) (by rw [HLL.out];exact hki)
    obtain ⟨P1,P2,P3⟩:=HPL.out d (List.mem_of_getElem? hd)
    have HP1:=Lib.hid P1
    have HP2:=Lib.hid P2
    have HP3:=Lib.hid P3
    have HKD:=Lib.hid (HOK7.out d (List.mem_of_getElem? hd))
    have HNT2:=Lib.hid (nodup_take HND.out hd)
    obtain ⟨o1,m1,⟨t1,s1⟩,p1,r1,v1⟩:=d
    simp only at HP3
    obtain ⟨b,off,rfl,hb,u0',u1',u2',u3',u4',u5',u6',hkd⟩:=Due.at_row HR7.out hd
    have u0:=kept HB.out u0'
    have u1:=kept HB.out u1'
    have u2:=kept HB.out u2'
    have u3:=kept HB.out u3'
    have u4:=kept HB.out u4'
    have u5:=kept HB.out u5'
    have u6:=kept HB.out u6'
    have hbs:=cell_lt u0
    have hkc:(k:Int)≤(c6:Int):=by omega
    have hkc2:k≤c6:=by omega
    clear u0' u1' u2' u3' u4' u5' u6' hd hb P1 P2 P3 hkd
    have hba:Below wr.heap.size wr (wr.alloc (.cells #[.string o1,.string m1,.string t1,.string s1,.int .i64 p1,.int .i64 r1,.int .i64 v1] 63)):=(Below.refl _ _).alloc (Nat.le_refl _) _
    obtain ⟨q0,q1,q2,q3,q4,q5,q6⟩:(wr.alloc (.cells #[.string o1,.string m1,.string t1,.string s1,.int .i64 p1,.int .i64 r1,.int .i64 v1] 63)).cell? ⟨wr.heap.size,0,none⟩=some (.string o1)∧(wr.alloc (.cells #[.string o1,.string m1,.string t1,.string s1,.int .i64 p1,.int .i64 r1,.int .i64 v1] 63)).cell? ⟨wr.heap.size,1,none⟩=some (.string m1)∧(wr.alloc (.cells #[.string o1,.string m1,.string t1,.string s1,.int .i64 p1,.int .i64 r1,.int .i64 v1] 63)).cell? ⟨wr.heap.size,2,none⟩=some (.string t1)∧(wr.alloc (.cells #[.string o1,.string m1,.string t1,.string s1,.int .i64 p1,.int .i64 r1,.int .i64 v1] 63)).cell? ⟨wr.heap.size,3,none⟩=some (.string s1)∧(wr.alloc (.cells #[.string o1,.string m1,.string t1,.string s1,.int .i64 p1,.int .i64 r1,.int .i64 v1] 63)).cell? ⟨wr.heap.size,4,none⟩=some (.int .i64 p1)∧(wr.alloc (.cells #[.string o1,.string m1,.string t1,.string s1,.int .i64 p1,.int .i64 r1,.int .i64 v1] 63)).cell? ⟨wr.heap.size,5,none⟩=some (.int .i64 r1)∧(wr.alloc (.cells #[.string o1,.string m1,.string t1,.string s1,.int .i64 p1,.int .i64 r1,.int .i64 v1] 63)).cell? ⟨wr.heap.size,6,none⟩=some (.int .i64 v1):=by
     refine ⟨?_,?_,?_,?_,?_,?_,?_⟩ <;> simp
    have hcall:=ContainsFuncFact (wr.alloc (.cells #[.string o1,.string m1,.string t1,.string s1,.int .i64 p1,.int .i64 r1,.int .i64 v1] 63)) (.slice ax L nx) x (usesD ⟨o1,m1,⟨t1,s1⟩,p1,r1,v1⟩) 34 #[.pointer (some ⟨wr.heap.size,0,none⟩)] (enters_of Tryz.func34 (by kernel_rfl) rfl)
     (HX.out.mono (HBW.out.trans (hba.mono HBW.out.size))) (fun i f _ V v hb hv=>Cla1_p V wr.heap.size v ⟨o1,m1,⟨t1,s1⟩,p1,r1,v1⟩ f (kept hb q0) (kept hb q1) (kept hb q5) (kept hb q6) hv)
    rw [HP1.out] at hcall
    have HBA:=Lib.hid hba
    have HB8:Hid (Below w7.heap.size w7 (wr.alloc (.cells #[.string o1,.string m1,.string t1,.string s1,.int .i64 p1,.int .i64 r1,.int .i64 v1] 63))):=Lib.hid (HB.out.trans (hba.mono HB.out.size))
    clear hba
    go_wp2_with fail
    generalize (wr.alloc (.cells #[.string o1,.string m1,.string t1,.string s1,.int .i64 p1,.int .i64 r1,.int .i64 v1] 63))=w8 at *
    generalize wr.heap.size=g8 at *
    refine hcall.mono ?_
    rintro e w9 ⟨rfl,hb9⟩
    clear hcall
    have q0:=kept hb9 q0
    have q1:=kept hb9 q1
    have q2:=kept hb9 q2
    have q3:=kept hb9 q3
    have q4:=kept hb9 q4
    have q5:=kept hb9 q5
    have q6:=kept hb9 q6
    have HB9:Hid (Below w7.heap.size w7 w9):=Lib.hid (HB8.out.trans (hb9.mono HB8.out.size))
    have HBW9:Hid (Below w.heap.size w w9):=Lib.hid (HBW7.out.trans (HB9.out.mono HBW7.out.size))
    have hcall:=ContainsFuncFact w9 (.slice ax L nx) x (shipsD ⟨o1,m1,⟨t1,s1⟩,p1,r1,v1⟩) 35 #[.pointer (some ⟨g8,0,none⟩)] (enters_of Tryz.func35 (by kernel_rfl) rfl)
     (HX.out.mono HBW9.out) (fun i f _ V v hb hv=>Cla2_p V g8 v ⟨o1,m1,⟨t1,s1⟩,p1,r1,v1⟩ f (kept hb q0) (kept hb q4) hv)
    rw [HP2.out] at hcall
    clear hb9
    go_wp2_with fail
    refine hcall.mono ?_
    rintro e w10 ⟨rfl,hb10⟩
    clear hcall
    have q0:=kept hb10 q0
    have q1:=kept hb10 q1
    have q2:=kept hb10 q2
    have q3:=kept hb10 q3
    have q4:=kept hb10 q4
    have q5:=kept hb10 q5
    have q6:=kept hb10 q6
    have HB10:Hid (Below w7.heap.size w7 w10):=Lib.hid (HB9.out.trans (hb10.mono HB9.out.size))
    have HBW10:Hid (Below w.heap.size w w10):=Lib.hid (HBW7.out.trans (HB10.out.mono HBW7.out.size))
    have d0:=kept HB10.out D0.out
    have d1:=kept HB10.out D1.out
    have d2:=kept HB10.out D2.out
    have d3:=kept HB10.out D3.out
    have hs10:w.heap.size < w10.heap.size:=cell_lt d0
    have hg10:g8 < w10.heap.size:=cell_lt q0
    clear hb10 HB9 HBW9
    go_wp2_with fail
    refine (Clauses_p w10 _ c ⟨t1,s1⟩ p1 r1 (HG.out.mono HBW10.out) (HC.out.mono HBW10.out)).mono ?_
    rintro e w11 ⟨s,rfl,hsi,hb11⟩
    obtain ⟨as0,cs0,rfl,-⟩:=list_inv hsi
    have q0:=kept hb11 q0
    have q1:=kept hb11 q1
    have q2:=kept hb11 q2
    have q3:=kept hb11 q3
    have q4:=kept hb11 q4
    have q5:=kept hb11 q5
    have q6:=kept hb11 q6
    have HB11:Hid (Below w7.heap.size w7 w11):=Lib.hid (HB10.out.trans (hb11.mono HB10.out.size))
    have hcall:=ContainsFuncClause w11 _ (clausesC c ⟨t1,s1⟩ p1 r1) (fun k=>k.duty == v1) 38 #[.pointer (some ⟨g8,0,none⟩)] (enters_of Tryz.func38 (by kernel_rfl) rfl)
     hsi (fun i f _ V v hb hv=>Cla3_p V g8 v ⟨o1,m1,⟨t1,s1⟩,p1,r1,v1⟩ f (kept hb q6) hv)
    rw [HP3.out] at hcall
    generalize (clausesC c ⟨t1,s1⟩ p1 r1).length=LC at *
    clear hb11 hsi HB10 HBW10 d0 d1 d2 d3 hs10
    go_wp2_with fail
    refine hcall.mono ?_
    rintro e w12 ⟨rfl,hb12⟩
    clear hcall
    have q0:=kept hb12 q0
    have q1:=kept hb12 q1
    have q2:=kept hb12 q2
    have q3:=kept hb12 q3
    have q4:=kept hb12 q4
    have q5:=kept hb12 q5
    have q6:=kept hb12 q6
    have HB12:Hid (Below w7.heap.size w7 w12):=Lib.hid (HB11.out.trans (hb12.mono HB11.out.size))
    have hg12:g8 < w12.heap.size:=cell_lt q0
    have HC1:Hid (∀ W,Below w12.heap.size w12 W→Calls Tryz.prog 31 #[.slice (some ⟨b,off,none⟩) k c6,.agg #[.string o1,.string m1,.string t1,.string s1,.int .i64 p1,.int .i64 r1,.int .i64 v1]] W fun e w'=>e=.returned (.bool false)∧Below W.heap.size W w'):=by
     show ∀ _,_→_
     intro W hbb
     have h1:=ContainsDue_p W (.slice (some ⟨b,off,none⟩) (l.take k).length c6) (l.take k) ⟨o1,m1,⟨t1,s1⟩,p1,r1,v1⟩ (list_mk (by rw [List.length_take,HLL.out];omega) (by simp only [maxLen];omega) (row_take (HR7.out.mono (HB12.out.trans (hbb.mono HB12.out.size))) k)) HKD.out
     rw [HNT2.out,List.length_take,HLL.out,Nat.min_eq_left (by omega)] at h1
     exact h1
    clear hb12 HB11 hg10
    go_wp2_with fail
    refine wp_region_quietC (C:=fun w'=>Below w12.heap.size w12 w'∧w'.cell? ⟨g8,0,none⟩=some (.string o1)∧w'.cell? ⟨g8,1,none⟩=some (.string m1)∧w'.cell? ⟨g8,2,none⟩=some (.string t1)∧w'.cell? ⟨g8,3,none⟩=some (.string s1)∧w'.cell? ⟨g8,4,none⟩=some (.int .i64 p1)∧w'.cell? ⟨g8,5,none⟩=some (.int .i64 r1)∧w'.cell? ⟨g8,6,none⟩=some (.int .i64 v1)) (by kernel_rfl) (by kernel_rfl) (by exact ⟨(Below.refl _ _).drewN 1,q0,q1,q2,q3,q4,q5,q6⟩) ?_
    repeat
     first
     | (refine quiet_no (by rfl) ?_;try simp only [tkS,Act.put])
     | (refine quiet_yes (v:=?_) (by rfl) ?_ ?_
        rotate_left
        ·intro w' hw'
         obtain ⟨hb5,z0,z1,z2,z3,z4,z5,z6⟩:=hw'
         go_simp
         first
         | with_reducible rfl
         | exact ⟨rfl,rfl⟩
         | (go_at_call 31;refine (HC1.out _ hb5).mono ?_;rintro e w'' ⟨rfl,hb6⟩;refine ⟨?_,hb5.trans (hb6.mono hb5.size),kept hb6 z0,kept hb6 z1,kept hb6 z2,kept hb6 z3,kept hb6 z4,kept hb6 z5,kept hb6 z6⟩;with_reducible rfl)
        try simp only [tkS,Act.put])
    refine wpQuiet_nil ?_
    intro w13 hw'
    obtain ⟨hb13,-⟩:=hw'
    have HB13:Hid (Below w7.heap.size w7 w13):=Lib.hid (HB12.out.trans (hb13.mono HB12.out.size))
    clear hb13 HC1
    go_wp2
    go_roundw
    case rel=>exact ⟨k+1,by omega,by go_num,HB13⟩
    case measure=>simp [intOf];omega
   ·have hkz:¬ (k:Int) < (LL:Int):=by omega
    go_wp2
    go_ret
    exact ⟨rfl,HBW.out⟩
end Go.Proofs.YtcbopdbbcgdkcaaGreatDoor
