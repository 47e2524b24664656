/- DutyProduct: the number of choices is the product of the numbers of values; each variable's values are minimal alternatives, and outputs are those of the facts. -/
import Derived.Deep.DeepCutAuto
import Derived.RangeFuncRecord
import Derived.Test.YtcbopdbbcgdkcaaGreatDoorJDuE
import Derived.Test.YtcbopdbbcgdkcaaGreatDoorJDuG
import Derived.Test.YtcbopdbbcgdkcaaGreatDoorJDuI
import Derived.Test.YtcbopdbbcgdkcaaGreatDoorJDuJ
import Derived.Test.YtcbopdbbcgdkcaaGreatDoorJProL
set_option linter.all false
namespace Go.Proofs.YtcbopdbbcgdkcaaGreatDoor
open Go Go.RowKit Go.ChangeShapes Go.Lib Go.Shelf

theorem FewX.fits {c:Catalog} {x:List Fact} (h:FewX c x):∀ f∈x,fitF f:=fun f hf=>by
 obtain ⟨h1,h2,h3⟩:=h.2.2.2 f hf
 exact ⟨by omega,by omega,by omega⟩
def VI (r:List (List (List Term))×List ByteArray×Int) (w:World) (e:Ending) (w':World):Prop :=
 ∃ v1 v2,e=.returned (.tuple #[v1,v2,.int .i64 r.2.2])∧Is w' v1 r.1∧Is w' v2 r.2.1∧Below w.heap.size w w'
theorem Values_is (w:World) (vc vx:Value) (c:Catalog) (x:List Fact) (hg:Glob w) (hc:Is w vc c) (h:Is w vx x) (hfit:∀ f∈x,fitF f) :
  Calls Tryz.prog 15 #[vc,vx] w fun e w'=>VI (valuesC c x) w e w':=by
 refine (Values_p w vc vx c x hg hc h hfit).mono ?_
 rintro e w' ⟨v1,v2,he,h1,h2,h3,hb⟩
 exact ⟨v1,v2,he,h1.is,h2.strs h3,hb⟩
set_option maxRecDepth 100000 in
theorem Prod1_p (W:World) (g:Nat) (s:ByteArray) (v:Value) (f:Fact) (hcell:W.cell? ⟨g,0,none⟩=some (.string s)) (hv:Is W v f) :
  Calls Tryz.prog 45 (#[v]++#[.pointer (some ⟨g,0,none⟩)]) W fun e w'=>e=.returned (.bool (f.kind == 2 && seq f.output s))∧Below W.heap.size W w':=by
 have hs:=cell_lt hcell
 obtain ⟨ki,co,ou,re,wa,du,ch,⟨ek,en,ex,eks⟩,li⟩:=f
 obtain ⟨ae,ce,al,cl,rfl,-⟩:=Fact.inv hv
 clear hv
 have HQ:Hid (seq ou s=(ou.toList == s.toList)):=rfl
 cases k:(ki == 2)
 case true =>
  go_enter Tryz.func45,Tryz.ntmps45
  go_wp2
  go_ret
  exact ⟨by rw [HQ.out];rfl,bw⟩
 case false =>
  go_enter Tryz.func45,Tryz.ntmps45
  go_wp2
  go_ret
  exact ⟨rfl,bw⟩
theorem min_cast (p S:Nat):min ((p:Int) * (S:Int)) 1073741824=((min (p * S) 1073741824:Nat):Int):=by
 rw [← Int.natCast_mul]
 generalize p * S=m
 omega
set_option maxRecDepth 100000 in
set_option maxHeartbeats 16000000 in
theorem DutyProduct_p (w:World) (vc vx:Value) (c:Catalog) (x:List Fact) (hg:Glob w) (hc:Is w vc c) (h:Is w vx x) (hok:∀ f∈x,okF f) :
  Calls Tryz.prog 10 #[vc,vx] w fun e w'=>e=.returned (.bool true)∧Below w.heap.size w w':=by
 have HG:=Lib.hid hg
 have HX:=Lib.hid h
 have HC:=Lib.hid hc
 have HOK:=Lib.hid hok
 obtain ⟨a0,c0,a1,c1,a2,c2,a3,c3,rfl,-⟩:=Catalog.inv hc
 obtain ⟨ax,nx,rfl,hn,hm,hr⟩:=list_inv h
 simp only [maxLen] at hm
 have hm':x.length≤9223372036854775807:=by omega
 have HR:=Lib.hid hr
 have hba:Below w.heap.size w (w.alloc (.cells #[.slice a0 c.licenses.length c0,.slice a1 c.exceptions.length c1,.slice a2 c.clauses.length c2,.slice a3 c.apart.length c3] 27)):=(Below.refl _ _).alloc (Nat.le_refl _) _
 have hcall:=awakeD_p (w.alloc (.cells #[.slice a0 c.licenses.length c0,.slice a1 c.exceptions.length c1,.slice a2 c.clauses.length c2,.slice a3 c.apart.length c3] 27)) (hg.mono hba)
 have HBA:=Lib.hid hba
 generalize hL:x.length=L at *
 have HL:=Lib.hid hL
 generalize hN0:c.licenses.length=N0 at *
 have HN0:=Lib.hid hN0
 generalize c.exceptions.length=N1 at *
 generalize c.clauses.length=N2 at *
 generalize c.apart.length=N3 at *
 clear h hr hc hok hn hm hL hba hN0 hg
 go_enter Tryz.func10,Tryz.ntmps10
 go_wp2_with fail
 refine hcall.mono ?_
 rintro e w1 ⟨rfl,hb1⟩
 clear hcall
 have d0:=kept hb1 (a:=⟨w.heap.size,0,none⟩) (v:=.slice a0 N0 c0) (by simp)
 have d1:=kept hb1 (a:=⟨w.heap.size,1,none⟩) (v:=.slice a1 N1 c1) (by simp)
 have d2:=kept hb1 (a:=⟨w.heap.size,2,none⟩) (v:=.slice a2 N2 c2) (by simp)
 have d3:=kept hb1 (a:=⟨w.heap.size,3,none⟩) (v:=.slice a3 N3 c3) (by simp)
 have hs1:w.heap.size < w1.heap.size:=cell_lt d0
 have HB1:Hid (Below w.heap.size w w1):=Lib.hid (HBA.out.trans (hb1.mono (by simp)))
 clear hb1 HBA
 go_wp2_with fail
 refine (FewD_ref w1 _ _ c x (HC.out.mono HB1.out) (HX.out.mono HB1.out) HOK.out).mono ?_
 rintro e w2 ⟨fb,rfl,hfx,hb2⟩
 have HFX:=Lib.hid hfx
 have HB2:Hid (Below w.heap.size w w2):=Lib.hid (HB1.out.trans (hb2.mono HB1.out.size))
 cases fb
 case false =>
  clear hb2 hfx d0 d1 d2 d3
  go_wp2
  go_ret
  exact ⟨rfl,HB2.out⟩
 have HFW:=Lib.hid (HFX.out rfl)
 have HFIT:=Lib.hid HFW.out.fits
 have hn40:N0≤40:=by have:=HFW.out.1;rw [HN0.out] at this;exact this
 have d0:=kept hb2 d0
 have d1:=kept hb2 d1
 have d2:=kept hb2 d2
 have d3:=kept hb2 d3
 have hs2:w.heap.size < w2.heap.size:=cell_lt d0
 clear hb2 hfx hs1 HB1 HFX HOK
 go_wp2_with fail
 refine (Values_is w2 _ _ c x (HG.out.mono HB2.out) (HC.out.mono HB2.out) (HX.out.mono HB2.out) HFIT.out).mono ?_
 have HVL:=Lib.hid (values_ok (c:=c) (x:=x))
 have HCN:Hid (countC c x=if (valuesC c x).2.2 == 0 then (if 4096 < totalR (radC c (valuesC c x).1 (valuesC c x).2.1) then (0,10) else ((totalR (radC c (valuesC c x).1 (valuesC c x).2.1):Int),0)) else (0,(valuesC c x).2.2)):=rfl
 unfold VI
 generalize valuesC c x=V at *
 obtain ⟨ts,os,ve⟩:=V
 simp only at HVL HCN ⊢
 rintro e w3 ⟨v1,v2,rfl,h1,h2,hb3⟩
 have HT:=Lib.hid h1
 have HO:=Lib.hid h2
 obtain ⟨at1,ct1,rfl,hnt,hmt,hrt⟩:=list_inv h1
 obtain ⟨ao1,co1,rfl,hno,hmo,hro⟩:=list_inv h2
 have HRT:=Lib.hid hrt
 have HRO:=Lib.hid hro
 have hmo0:=hmo
 simp only [maxLen] at hmt hmo
 have hmt':ts.length≤9223372036854775807:=by omega
 have hnoc:os.length≤co1:=hno
 have hmoc:co1≤maxLen:=hmo0
 have hmo':os.length≤9223372036854775807:=by omega
 have d0:=kept hb3 d0
 have d1:=kept hb3 d1
 have d2:=kept hb3 d2
 have d3:=kept hb3 d3
 have hs3:w.heap.size < w3.heap.size:=cell_lt d0
 have HB3:Hid (Below w.heap.size w w3):=Lib.hid (HB2.out.trans (hb3.mono HB2.out.size))
 clear h1 h2 hrt hro hnt hno hb3 hs2 HB2 hmt hmo
 generalize hLT:ts.length=LT at *
 generalize hLO:os.length=LO at *
 have HLT:=Lib.hid hLT
 have HLO:=Lib.hid hLO
 clear hLT hLO
 go_wp2_with fail
 refine (Count_p w3 _ _ c x (HG.out.mono HB3.out) (HC.out.mono HB3.out) (HX.out.mono HB3.out) HFIT.out (by have:=HFW.out.1;omega)).mono ?_
 generalize countC c x=cn at *
 obtain ⟨cn1,cn2⟩:=cn
 rintro e w4 ⟨rfl,hb4⟩
 have d0:=kept hb4 d0
 have d1:=kept hb4 d1
 have d2:=kept hb4 d2
 have d3:=kept hb4 d3
 have hs4:w.heap.size < w4.heap.size:=cell_lt d0
 have HB4:Hid (Below w.heap.size w w4):=Lib.hid (HB3.out.trans (hb4.mono HB3.out.size))
 have HRT:=Lib.hid (HRT.out.mono hb4)
 have HRO:=Lib.hid (HRO.out.mono hb4)
 have HO:=Lib.hid (HO.out.mono hb4)
 clear hb4 HB3 HT
 cases q:(ve == 0)
 case false =>
  have q':(ve != 0)=true:=by rw [show (ve != 0)=!(ve == 0) from rfl,q];rfl
  have hcn:=HCN.out
  rw [if_neg (by rw [q];simp)] at hcn
  cases hcn
  clear HCN HVL q
  go_wp2
  go_ret
  exact ⟨by simp,HB4.out⟩
 have q':(ve != 0)=false:=by rw [show (ve != 0)=!(ve == 0) from rfl,q];rfl
 have q0:ve=0:=by simpa using q
 have HV:=Lib.hid (HVL.out q0)
 have HCN:Hid ((cn1,cn2)=if 4096 < totalR (radC c ts os) then (0,10) else ((totalR (radC c ts os):Int),0)):=by
  show _=_
  rw [HCN.out,if_pos q]
 have D0:=Lib.hid d0
 clear q q0 HVL
 go_wp2_with fail
 clear d0 d1 d2 d3 q'
 go_loopw [10,11,46] (fun pv kv iv wr=>∃ (i k p:Nat),i≤L∧iv=.int .i64 i∧kv=.int .i64 k∧pv=.int .i64 p∧k≤i∧p≤1073741824∧Hid (k=licN (x.take i))∧Hid (p=minF 1 ((ts.take k).map List.length))∧Hid (Below w4.heap.size w4 wr)) (fun _ _ iv _=>L - (intOf iv).toNat)
 case atStart=>exact ⟨0,0,1,by omega,rfl,rfl,rfl,by omega,by omega,rfl,rfl,Lib.hid (Below.refl _ _)⟩
 case round =>
  obtain ⟨i,k,p,hi,rfl,rfl,rfl,hki0,hp,HK,HP,HB⟩:=hrel
  have HBW:Hid (Below w.heap.size w wr):=HB4.out.trans (HB.out.mono HB4.out.size)
  by_cases hki:i < L
  ·have hkz:(i:Int) < (L:Int):=by omega
   have hk0:(0:Int)≤(i:Int):=by omega
   obtain ⟨f,hx⟩:=get_lt (xs:=x) (k:=i) (by rw [HL.out];exact hki)
   have hmem:=List.mem_of_getElem? hx
   have HSN:=Lib.hid (licN_snoc hx)
   have HLT2:Hid ((f.kind == 1)=true→licN (x.take i) < LT):=by
    show _→_
    intro h1
    have:=licN_lt hx h1
    rw [← HV.out.len,HLT.out] at this
    exact this
   have HSH:Hid ((f.kind == 2)=true→os.any (seq f.output)=true):=HV.out.ships f hmem
   obtain ⟨ki,co,ou,re,wa,du,ch,⟨ek,en,ex,eks⟩,li⟩:=f
   simp only at HSN HLT2 HSH
   obtain ⟨bx,ox,rfl,hbx,ae,ce,al,cl,x0',x1',x2',x3',x4',x5',x6',x7',x8',x9',x10',x11',hrest⟩:=Fact.at_row HR.out hx
   have x0:=kept HBW.out x0'
   have x1:=kept HBW.out x1'
   have x2:=kept HBW.out x2'
   have x3:=kept HBW.out x3'
   have x4:=kept HBW.out x4'
   have x5:=kept HBW.out x5'
   have x6:=kept HBW.out x6'
   have x7:=kept HBW.out x7'
   have x8:=kept HBW.out x8'
   have x9:=kept HBW.out x9'
   have x10:=kept HBW.out x10'
   have x11:=kept HBW.out x11'
   have hbs:bx < wr.heap.size:=cell_lt x0
   clear x0' x1' x2' x3' x4' x5' x6' x7' x8' x9' x10' x11' hx hrest hbx hmem
   generalize eks.length=E at *
   generalize li.length=M at *
   have hba:Below wr.heap.size wr (wr.alloc (.cells #[.int .i64 ki,.string co,.string ou,.int .i64 re,.int .i64 wa,.int .i64 du,.bool ch,.int .i64 ek,.string en,.string ex,.slice ae E ce,.slice al M cl] 70)):=(Below.refl _ _).alloc (Nat.le_refl _) _
   have HBA:=Lib.hid hba
   have HBX:Hid (Below w4.heap.size w4 (wr.alloc (.cells #[.int .i64 ki,.string co,.string ou,.int .i64 re,.int .i64 wa,.int .i64 du,.bool ch,.int .i64 ek,.string en,.string ex,.slice ae E ce,.slice al M cl] 70))):=Lib.hid (HB.out.trans (hba.mono HB.out.size))
   have hobj0:(wr.alloc (.cells #[.int .i64 ki,.string co,.string ou,.int .i64 re,.int .i64 wa,.int .i64 du,.bool ch,.int .i64 ek,.string en,.string ex,.slice ae E ce,.slice al M cl] 70)).cell? ⟨wr.heap.size,0,none⟩=some (.int .i64 ki):=by simp
   cases k1:(ki == 1)
   case true =>
    have hkl:k < LT:=by have h1:=HLT2.out k1;rw [← HK.out] at h1;exact h1
    have hklz:(k:Int) < (LT:Int):=by omega
    have hklz2:¬ (LT:Int)≤(k:Int):=by omega
    have hk00:(0:Int)≤(k:Int):=by omega
    obtain ⟨l,hl⟩:=get_lt (xs:=ts) (k:=k) (by rw [HLT.out];exact hkl)
    obtain ⟨o1,o2,o3,-⟩:=HV.out.ok l (List.mem_of_getElem? hl)
    obtain ⟨b2,oy,rfl,hb2,ay,cy,y0',hy1,hy2,hy3⟩:=list_at HRT.out hl
    have y0:=kept HB.out y0'
    have hby:=cell_lt y0
    have hcall:=CheckA_p (wr.alloc (.cells #[.int .i64 ki,.string co,.string ou,.int .i64 re,.int .i64 wa,.int .i64 du,.bool ch,.int .i64 ek,.string en,.string ex,.slice ae E ce,.slice al M cl] 70)) (.slice ay l.length cy) l (((list_mk hy1 hy2 hy3).mono HB.out).mono hba)
    rw [o1] at hcall
    have hy0:(wr.alloc (.cells #[.int .i64 ki,.string co,.string ou,.int .i64 re,.int .i64 wa,.int .i64 du,.bool ch,.int .i64 ek,.string en,.string ex,.slice ae E ce,.slice al M cl] 70)).cell? ⟨b2,oy+k,none⟩=some (.slice ay l.length cy):=kept hba y0
    have hl1:1≤l.length:=by
     rcases Nat.eq_zero_or_pos l.length with h0 | h0
     ·exact absurd (List.length_eq_zero_iff.1 h0) o2
     ·exact h0
    have hl0:((l.length:Int) == 0)=false:=by simp;omega
    have HPN:Hid (min (p * l.length) 1073741824=minF 1 ((ts.take (k+1)).map List.length)):=by
     show _=_
     rw [take_at hl,List.map_append,List.map_singleton,minF_snoc,← HP.out]
    have hpm:p * l.length≤1073741824 * 64:=Nat.mul_le_mul hp o3
    clear hl o1 o2 y0' hy1 hy2 hy3 hb2 y0 hba
    generalize l.length=S at *
    have ki1:ki=1:=by simpa using k1
    have k2:(ki == 2)=false:=by rw [ki1];rfl
    have HKN:Hid (k+1=licN (x.take (i+1))):=by show _=_;rw [HSN.out,if_pos k1,HK.out]
    clear ki1 HSN HLT2 HSH HK HP
    go_wp2_with fail
    refine hcall.mono ?_
    rintro e w5 ⟨rfl,hb5⟩
    have y0:=kept hb5 hy0
    have q0:=kept hb5 hobj0
    have HB5:Hid (Below w4.heap.size w4 w5):=Lib.hid (HBX.out.trans (hb5.mono HBX.out.size))
    have hs5:wr.heap.size < w5.heap.size:=cell_lt q0
    have hby5:b2 < w5.heap.size:=cell_lt y0
    clear hcall hb5 hy0 hobj0 x0 x1 x2 x3 x4 x5 x6 x7 x8 x9 x10 x11
    go_wp2
    go_roundw
    case rel=>exact ⟨i+1,k+1,min (p * S) 1073741824,by omega,by go_num,by go_num,congrArg (Value.int IntKind.i64) (min_cast p S),by omega,by omega,HKN,HPN,HB5⟩
    case measure=>simp [intOf];omega
   case false =>
    cases k2:(ki == 2)
    case true =>
     have hcall:=ContainsS_p (wr.alloc (.cells #[.int .i64 ki,.string co,.string ou,.int .i64 re,.int .i64 wa,.int .i64 du,.bool ch,.int .i64 ek,.string en,.string ex,.slice ae E ce,.slice al M cl] 70)) (.slice ao1 LO co1) os ou ((HO.out.mono HB.out).mono hba)
     rw [HSH.out k2] at hcall
     have HKN:Hid (k=licN (x.take (i+1))):=by show _=_;rw [HSN.out,if_neg (by rw [k1];simp),HK.out];rfl
     clear HSN HLT2 HSH HK hobj0 hba
     go_wp2_with fail
     refine hcall.mono ?_
     rintro e w5 ⟨rfl,rfl⟩
     clear hcall
     go_wp2
     go_roundw
     case rel=>exact ⟨i+1,k,p,by omega,by go_num,rfl,rfl,by omega,hp,HKN,HP,HBX⟩
     case measure=>simp [intOf];omega
    case false =>
     have HKN:Hid (k=licN (x.take (i+1))):=by show _=_;rw [HSN.out,if_neg (by rw [k1];simp),HK.out];rfl
     clear HSN HLT2 HSH HK
     go_wp2
     go_roundw
     case rel=>exact ⟨i+1,k,p,by omega,by go_num,rfl,rfl,by omega,hp,HKN,HP,HBX⟩
     case measure=>simp [intOf];omega
  ·have hkz:¬ (i:Int) < (L:Int):=by omega
   have hkT:Hid (k=LT):=by
    show _=_
    rw [HK.out,List.take_of_length_le (by rw [HL.out];omega),← HV.out.len,HLT.out]
   have HP0:Hid (p=minF 1 (ts.map List.length++(os.take 0).map fun _=>c.licenses.length)):=by
    show _=_
    rw [HP.out,hkT.out,List.take_of_length_le (by rw [HLT.out];omega)]
    simp
   have HBQ:=HB
   clear HK HP HB HBW hki
   go_wp2_with fail
   obtain ⟨wq,hwq⟩:∃ W,W=wr:=⟨_,rfl⟩
   subst hwq
   go_loopw [10,96] (fun pv jv wr=>∃ (j p:Nat),j≤LO∧jv=.int .i64 j∧pv=.int .i64 p∧p≤1073741824∧Hid (p=minF 1 (ts.map List.length++(os.take j).map fun _=>c.licenses.length))∧Hid (Below w4.heap.size w4 wr)) (fun _ jv _=>LO - (intOf jv).toNat)
   case atStart=>exact ⟨0,p,by omega,rfl,rfl,hp,HP0,HBQ⟩
   case round =>
    clear hp HP0 HBQ
    obtain ⟨j,p,hj,rfl,rfl,hp,HP,HB⟩:=hrel
    have HBW:Hid (Below w.heap.size w wr):=HB4.out.trans (HB.out.mono HB4.out.size)
    by_cases hji:j < LO
    ·have hjz:(j:Int) < (LO:Int):=by omega
     have hj0:(0:Int)≤(j:Int):=by omega
     obtain ⟨o,ho⟩:=get_lt (xs:=os) (k:=j) (by rw [HLO.out];exact hji)
     have HONE:=Lib.hid (HV.out.once j o ho)
     have HOUT:=Lib.hid (HV.out.outs o (List.mem_of_getElem? ho))
     have HPN:Hid (min (p * N0) 1073741824=minF 1 (ts.map List.length++(os.take (j+1)).map fun _=>c.licenses.length)):=by
      show _=_
      rw [take_at ho,List.map_append,List.map_singleton,← List.append_assoc,minF_snoc,← HP.out,HN0.out]
     obtain ⟨bx,oy,rfl,hbx,u0',-⟩:=str_at HRO.out ho
     have u0:=kept HB.out u0'
     have d0:=kept HB.out D0.out
     have hs5:w.heap.size < wr.heap.size:=cell_lt d0
     have hbs5:bx < wr.heap.size:=cell_lt u0
     clear u0' ho hbx HP
     have hpm:p * N0≤1073741824 * 40:=Nat.mul_le_mul hp hn40
     have hba:Below wr.heap.size wr (wr.alloc (.cells #[.string o] 9)):=(Below.refl _ _).alloc (Nat.le_refl _) _
     have hbx0:(wr.alloc (.cells #[.string o] 9)).cell? ⟨wr.heap.size,0,none⟩=some (.string o):=by simp
     have hbx1:wr.heap.size < (wr.alloc (.cells #[.string o] 9)).heap.size:=by simp
     have HC1:Hid (∀ W,Below (wr.alloc (.cells #[.string o] 9)).heap.size (wr.alloc (.cells #[.string o] 9)) W→Calls Tryz.prog 44 #[.slice (some ⟨bx,oy,none⟩) j co1,.string o] W fun e w'=>e=.returned (.bool false)∧w'=W):=by
      show ∀ _,_→_
      intro W hbb
      have h1:=ContainsS_p W (.slice (some ⟨bx,oy,none⟩) (os.take j).length co1) (os.take j) o (list_mk (by rw [List.length_take,HLO.out];omega) hmoc (row_take (HRO.out.mono ((HB.out.trans (hba.mono HB.out.size)).trans (hbb.mono (by have:=HB.out.size;have:=hba.size;omega)))) j))
      rw [HONE.out,List.length_take,HLO.out,Nat.min_eq_left (by omega)] at h1
      exact h1
     have HC2:Hid (∀ W,Below (wr.alloc (.cells #[.string o] 9)).heap.size (wr.alloc (.cells #[.string o] 9)) W→W.cell? ⟨wr.heap.size,0,none⟩=some (.string o)→Calls Tryz.prog 33 #[.slice ax L nx,.func (.func 45) #[] #[.pointer (some ⟨wr.heap.size,0,none⟩)]] W fun e w'=>e=.returned (.bool true)∧Below W.heap.size W w'):=by
      show ∀ _,_→_→_
      intro W hbb hcell
      have h1:=ContainsFuncFact W (.slice ax L nx) x (fun y=>y.kind == 2 && seq y.output o) 45 #[.pointer (some ⟨wr.heap.size,0,none⟩)] (enters_of Tryz.func45 (by kernel_rfl) rfl)
       (HX.out.mono ((HBW.out.trans (hba.mono HBW.out.size)).trans (hbb.mono (by have:=HBW.out.size;have:=hba.size;omega)))) (fun i f _ V v hb hv=>Prod1_p V wr.heap.size o v f (kept hb hcell) hv)
      rw [HOUT.out] at h1
      exact h1
     have HB5:Hid (Below w4.heap.size w4 (wr.alloc (.cells #[.string o] 9))):=Lib.hid (HB.out.trans (hba.mono HB.out.size))
     obtain ⟨pn,hpn⟩:∃ pn:Nat,pn=min (p * N0) 1073741824:=⟨_,rfl⟩
     rw [← hpn] at HPN
     have hpn2:pn≤1073741824:=by omega
     have hjc:(j:Int)≤(co1:Int):=by omega
     have hjc2:j≤co1:=by omega
     have hmoc2:co1≤9223372036854775807:=by simp only [maxLen] at hmoc;omega
     have HPV:Hid (Value.int .i64 (min ((p:Int) * (N0:Int)) 1073741824)=Value.int .i64 (pn:Int)):=by
      show _=_
      rw [hpn,min_cast]
     clear hba hpn
     go_wp2_with fail
     generalize (wr.alloc (.cells #[.string o] 9))=w5 at *
     generalize wr.heap.size=g5 at *
     refine wp_region_quietC (C:=fun w'=>Below w5.heap.size w5 w'∧w'.cell? ⟨g5,0,none⟩=some (.string o)) (by kernel_rfl) (by kernel_rfl) (by exact ⟨(Below.refl _ _).drewN 1,hbx0⟩) ?_
     repeat
      first
      | (refine quiet_no (by rfl) ?_;try simp only [tkS,Act.put])
      | (refine quiet_yes (v:=?_) (by rfl) ?_ ?_
         rotate_left
         ·intro w' hw'
          obtain ⟨hb5,z0⟩:=hw'
          go_simp
          first
          | with_reducible rfl
          | exact ⟨rfl,rfl⟩
          | (first | (go_at_call 44;refine (HC1.out _ hb5).mono ?_;rintro e w'' ⟨rfl,rfl⟩;refine ⟨?_,hb5,z0⟩;with_reducible rfl) | (go_at_call 33;refine (HC2.out _ hb5 z0).mono ?_;rintro e w'' ⟨rfl,hb6⟩;refine ⟨?_,hb5.trans (hb6.mono hb5.size),kept hb6 z0⟩;with_reducible rfl))
         try simp only [tkS,Act.put])
     refine wpQuiet_nil ?_
     intro w6 hw'
     obtain ⟨hb6,-⟩:=hw'
     have HB6:Hid (Below w4.heap.size w4 w6):=Lib.hid (HB5.out.trans (hb6.mono HB5.out.size))
     clear hb6 HC1 HC2
     go_wp2
     go_roundw
     case rel=>exact ⟨j+1,pn,by omega,by go_num,HPV.out,hpn2,HPN,HB6⟩
     case measure=>simp [intOf];omega
    ·have hjz:¬ (j:Int) < (LO:Int):=by omega
     have HE:Hid (p=minF 1 (ts.map List.length++os.map fun _=>c.licenses.length)):=by
      show _=_
      rw [HP.out,List.take_of_length_le (by rw [HLO.out];omega)]
     rcases prod_end c ts os p _ HE.out HCN.out with ⟨g1,g2⟩ | ⟨g1,g2,g3⟩
     ·simp only at g2
      subst g2
      have hkT2:((k:Int) == (LT:Int))=true:=by rw [hkT.out];simp
      have g4:(4096:Int) < (p:Int):=by omega
      clear HE HP HCN
      go_wp2
      go_ret
      exact ⟨by simp,HBW.out⟩
     ·simp only at g2 g3
      subst g2
      subst g3
      have hkT2:((k:Int) == (LT:Int))=true:=by rw [hkT.out];simp
      have g4:¬ (4096:Int) < (p:Int):=by omega
      have g5:(p:Int)≤4096:=by omega
      clear HE HP HCN
      go_wp2
      go_ret
      exact ⟨by simp,HBW.out⟩
end Go.Proofs.YtcbopdbbcgdkcaaGreatDoor
namespace Go.Proofs.YtcbopdbbcgdkcaaGreatDoor
open Go Go.RowKit Go.ChangeShapes Go.Lib Go.Shelf

theorem u16_range {n:Int} (h:(Lit.int .u16 n).wf=true):0≤n∧n≤65535:=by
 simpa [Lit.wf,IntKind.min,IntKind.max,IntKind.signed,IntKind.bits] using h
theorem u8_range {n:Int} (h:(Lit.int .u8 n).wf=true):0≤n∧n≤255:=by
 simpa [Lit.wf,IntKind.min,IntKind.max,IntKind.signed,IntKind.bits] using h
theorem count_nat (c:Catalog) (x:List Fact):∃ m:Nat,(countC c x).1=m∧m≤4096:=by
 unfold countC
 split
 ·split
  ·exact ⟨0,rfl,by omega⟩
  ·rename_i h;exact ⟨_,rfl,by omega⟩
 ·exact ⟨0,rfl,by omega⟩
def NI (r:Choice×Int) (w:World) (e:Ending) (w':World):Prop :=
 ∃ a1 c1 a2 c2,e=.returned (.tuple #[.agg #[.slice a1 r.1.terms.length c1,.slice a2 r.1.own.length c2],.int .i64 r.2])∧ChO w.heap.size w' (.slice a1 r.1.terms.length c1) (.slice a2 r.1.own.length c2) r.1∧Below w.heap.size w w'
theorem Nth_is (w:World) (vc vx:Value) (c:Catalog) (x:List Fact) (n:Int) (hg:Glob w) (hc:Is w vc c) (h:Is w vx x) (hfit:∀ f∈x,fitF f) (hlic:c.licenses.length≤1000000) :
  Calls Tryz.prog 22 #[vc,vx,.int .i64 n] w fun e w'=>NI (nthC c x n) w e w':=by
 refine (Nth_p w vc vx c x n hg hc h hfit hlic).mono ?_
 rintro e w' ⟨v1,v2,he,hch,hb⟩
 obtain ⟨a1,c1,a2,c2,rfl,rfl⟩:=hch.shape
 exact ⟨a1,c1,a2,c2,he,hch,hb⟩
def DI (l:List Due) (e0:Int) (w:World) (e:Ending) (w':World):Prop:=∃ a n,e=.returned (.tuple #[.slice a l.length n,.int .i64 e0])∧RowD w.heap.size w' (.slice a l.length n) l∧Below w.heap.size w w'
theorem few_bound {c:Catalog} {x:List Fact} (h:FewX c x):x.length * (x.length * x.length * (64 * c.clauses.length))≤1000000000000:=by
 obtain ⟨-,h2,h3,-⟩:=h
 calc x.length * (x.length * x.length * (64 * c.clauses.length))≤260 * (260 * 260 * (64 * 140)):=Nat.mul_le_mul h3 (Nat.mul_le_mul (Nat.mul_le_mul h3 h3) (Nat.mul_le_mul (Nat.le_refl _) h2))
  _≤1000000000000:=by decide
theorem Of_is (w:World) (vc vx vy:Value) (c:Catalog) (x:List Fact) (y:Choice) (hg:Glob w) (hc:Is w vc c) (h:Is w vx x) (hy:Is w vy y) (hf:FewX c x) (hA:∀ t∈y.terms,t.length≤64) :
  Calls Tryz.prog 27 #[vc,vx,vy] w fun e w'=>DI (dutiesC c x y).1 (dutiesC c x y).2 w e w':=by
 refine (DutyOf_p w vc vx vy c x y hg hc h hy hf.fits 64 hA (few_bound hf)).mono ?_
 rintro e w' ⟨v,he,hr,hb⟩
 obtain ⟨a,n,rfl⟩:=hr.shape
 exact ⟨a,n,he,hr,hb⟩
theorem duties_ok {c:Catalog} {x:List Fact} {y:Choice} (h:NthO c x y):dutiesC c x y=(onceD [] (duesF c x x y.terms),0):=by
 unfold dutiesC;rw [h.ok true];rfl
theorem choice_parts {w:World} {v1 v2:Value} {y:Choice} (h:Is w (.agg #[v1,v2]) y):Is w v1 y.terms∧Is w v2 y.own:=by
 obtain ⟨yt,yo⟩:=y
 obtain ⟨a0,c0,a1,c1,he,l0,m0,r0,l1,m1,r1⟩:=Choice.inv h
 simp at he
 obtain ⟨rfl,rfl⟩:=he
 exact ⟨list_mk l0 m0 r0,list_mk l1 m1 r1⟩
end Go.Proofs.YtcbopdbbcgdkcaaGreatDoor
namespace Go.Proofs.YtcbopdbbcgdkcaaGreatDoor
open Go

theorem part_le {c:Catalog} {x:List Fact} {f:Fact} {a:List Term} {A:Nat} (h:a.length≤A):(duePart c x f a).length≤x.length * x.length * (A * c.clauses.length):=by
 unfold duePart
 refine Nat.le_trans (flatMap_len (m:=A * c.clauses.length) _ fun p _=>?_) (Nat.mul_le_mul_right _ (pairsF_len x _))
 refine Nat.le_trans (flatMap_len (m:=c.clauses.length) _ fun t _=>?_) (Nat.mul_le_mul_right _ h)
 unfold dueT
 rw [List.length_map]
 exact Nat.le_trans (List.length_filter_le _ _) (clauses_le c t _ _)
theorem dues_le {c:Catalog} {x:List Fact} {A:Nat}:∀ (fs:List Fact) (ts:List (List Term)),(∀ t∈ts,t.length≤A)→(duesF c x fs ts).length≤fs.length * (x.length * x.length * (A * c.clauses.length))
 | [],ts,_=>by simp [duesF]
 | f :: r,ts,h=>by
  rw [duesF,List.length_cons,Nat.succ_mul]
  split
  ·rw [List.length_append]
   have h1:=dues_le (c:=c) (x:=x) (A:=A) r ts.tail (fun t ht=>h t (List.mem_of_mem_tail ht))
   have h2:=part_le (c:=c) (x:=x) (f:=f) (a:=ts.headD []) (A:=A) (by
    cases ts with
    | nil=>simp
    | cons t q=>exact h t (by simp))
   unfold duePart at h2
   omega
  ·have h1:=dues_le (c:=c) (x:=x) (A:=A) r ts h
   omega
def allD (c:Catalog) (x:List Fact) (ts:List (List Term)) (i:Nat):List Due:=onceD [] ((partsD c x x ts).take i).flatten
theorem all_step {c:Catalog} {x:List Fact} {ts:List (List Term)} (h:licN x=ts.length) {i:Nat} (hi:i < ts.length):onceD (allD c x ts i) (onceD [] (duesF c x x (onlyT ts i)))=allD c x ts (i+1):=by
 have hl:=parts_len c x x ts
 have hl2:(partsD c x x ts).length=ts.length:=by rw [hl];exact h
 obtain ⟨p,hp⟩:=get_lt (xs:=partsD c x x ts) (k:=i) (by omega)
 have h1:=dues_only c x x ts i h
 rw [hp] at h1
 unfold allD
 rw [take_at hp,List.flatten_append,List.flatten_cons,List.flatten_nil,List.append_nil,once_append,once_once,h1]
 rfl
theorem all_end {c:Catalog} {x:List Fact} {ts:List (List Term)} (h:licN x=ts.length):allD c x ts ts.length=onceD [] (duesF c x x ts):=by
 have hl:=parts_len c x x ts
 unfold allD
 rw [List.take_of_length_le (by rw [hl];exact Nat.le_of_eq h),dues_parts]
theorem flat_takeD:∀ (l:List (List Due)) (i:Nat),(l.take i).flatten.length≤l.flatten.length
 | [],i=>by simp
 | a :: r,0=>by simp
 | a :: r,i+1=>by
  rw [List.take_succ_cons,List.flatten_cons,List.flatten_cons,List.length_append,List.length_append]
  have:=flat_takeD r i
  omega
theorem all_len (c:Catalog) (x:List Fact) (ts:List (List Term)) (i:Nat):(allD c x ts i).length≤(duesF c x x ts).length:=by
 have h1:=once_len ((partsD c x x ts).take i).flatten []
 have h2:=flat_takeD (partsD c x x ts) i
 rw [← dues_parts] at h2
 unfold allD
 simp only [List.length_nil] at h1
 omega
theorem only_len:∀ (ts:List (List Term)) (i:Nat),(onlyT ts i).length=ts.length
 | [],_=>rfl
 | t :: r,0=>by simp [onlyT]
 | t :: r,i+1=>by rw [onlyT,List.length_cons,only_len r i,List.length_cons]
theorem only_get:∀ (ts:List (List Term)) (i j:Nat) (t:List Term),(onlyT ts i)[j]?=some t→(j=i∧ts[i]?=some t)∨(j≠i∧t=[])
 | [],i,j,t,h=>by simp [onlyT] at h
 | a :: r,0,0,t,h=>by simp [onlyT] at h;subst h;exact .inl ⟨rfl,rfl⟩
 | a :: r,0,j+1,t,h=>by
  simp only [onlyT,List.getElem?_cons_succ,List.getElem?_map] at h
  cases q:r[j]? with
  | none=>rw [q] at h;cases h
  | some z=>rw [q] at h;cases h;exact .inr ⟨by omega,rfl⟩
 | a :: r,i+1,0,t,h=>by simp [onlyT] at h;exact .inr ⟨by omega,h⟩
 | a :: r,i+1,j+1,t,h=>by
  simp only [onlyT,List.getElem?_cons_succ] at h
  rcases only_get r i j t h with ⟨h1,h2⟩ | ⟨h1,h2⟩
  ·exact .inl ⟨by omega,by simpa using h2⟩
  ·exact .inr ⟨by omega,h2⟩
theorem only_mem {ts:List (List Term)} {i:Nat} {t:List Term} (h:t∈onlyT ts i):t=[]∨t∈ts:=by
 obtain ⟨j,hj⟩:=List.mem_iff_getElem?.1 h
 rcases only_get ts i j t hj with ⟨-,h2⟩ | ⟨-,h2⟩
 ·exact .inr (List.mem_of_getElem? h2)
 ·exact .inl h2
theorem termsOk_none:∀ (ls:List (List (List Term))) (r:List (List Term)),termsOk true ls (r.map fun _=>[])=true
 | [],r=>by cases r <;> rfl
 | l :: ls,[]=>rfl
 | l :: ls,a :: r=>by rw [List.map_cons,termsOk,termsOk_none ls r];rfl
theorem termsOk_only:∀ (ls:List (List (List Term))) (r:List (List Term)) (i:Nat),termsOk true ls r=true→termsOk true ls (onlyT r i)=true
 | [],r,i,_=>by cases r <;> cases i <;> rfl
 | l :: ls,[],i,_=>rfl
 | l :: ls,a :: r,0,h=>by
  rw [termsOk,Bool.and_eq_true] at h
  rw [onlyT,termsOk,h.1,termsOk_none];rfl
 | l :: ls,a :: r,i+1,h=>by
  rw [termsOk,Bool.and_eq_true] at h
  rw [onlyT,termsOk,termsOk_only ls r i h.2];rfl
theorem nth_val {c:Catalog} {x:List Fact} {y:Choice} (h:NthO c x y):(valuesC c x).2.2=0:=by
 have h0:=h.ok true
 unfold choiceE at h0
 by_cases q:((valuesC c x).2.2 == 0)=true
 ·simpa using q
 ·rw [if_neg q] at h0;exact h0
theorem nth_lic {c:Catalog} {x:List Fact} {y:Choice} (h:NthO c x y):licN x=y.terms.length:=by
 rw [h.terms,(values_ok (nth_val h)).len]
theorem nth_terms {c:Catalog} {x:List Fact} {y:Choice} (h:NthO c x y):termsOk true (valuesC c x).1 y.terms=true:=by
 have h0:=h.ok true
 unfold choiceE at h0
 rw [if_pos (by rw [nth_val h];rfl)] at h0
 rw [if_neg (by rw [h.terms,h.own];simp)] at h0
 cases q:termsOk true (valuesC c x).1 y.terms
 ·rw [q] at h0;cases h0
 ·rfl
theorem only_ok {c:Catalog} {x:List Fact} {y:Choice} (h:NthO c x y) (i:Nat):dutiesC c x ⟨onlyT y.terms i,List.replicate y.own.length ByteArray.empty⟩=(onceD [] (duesF c x x (onlyT y.terms i)),0):=by
 have e:choiceE c x ⟨onlyT y.terms i,List.replicate y.own.length ByteArray.empty⟩ true=0:=by
  unfold choiceE
  rw [if_pos (by rw [nth_val h];rfl)]
  simp only
  rw [if_neg (by rw [only_len,List.length_replicate,h.terms,h.own];simp),termsOk_only _ _ _ (nth_terms h),if_neg (by simp),if_neg]
  rw [Bool.not_eq_true,List.any_eq_false]
  intro s hs
  rw [(List.mem_replicate.1 hs).2]
  simp [emp]
 unfold dutiesC;rw [e];rfl
theorem few_dues {c:Catalog} {x:List Fact} {ts:List (List Term)} (h:FewX c x) (ht:∀ t∈ts,t.length≤64):(duesF c x x ts).length≤200000000000:=by
 obtain ⟨-,h2,h3,-⟩:=h
 refine Nat.le_trans (dues_le (A:=64) x ts ht) ?_
 calc x.length * (x.length * x.length * (64 * c.clauses.length))≤260 * (260 * 260 * (64 * 140)):=Nat.mul_le_mul h3 (Nat.mul_le_mul (Nat.mul_le_mul h3 h3) (Nat.mul_le_mul (Nat.le_refl _) h2))
  _≤200000000000:=by decide
end Go.Proofs.YtcbopdbbcgdkcaaGreatDoor
