/- DutyParts: the duties of a choice are those of its decided parts together. -/
import Derived.Test.YtcbopdbbcgdkcaaGreatDoorJDuH
import Derived.Test.YtcbopdbbcgdkcaaGreatDoorJHedU
set_option linter.all false
namespace Go.Proofs.YtcbopdbbcgdkcaaGreatDoor
open Go Go.RowKit Go.ChangeShapes Go.Lib Go.Shelf

theorem tkA {P:Program} {ops:Array Oper} {Q:Exit→Act→World→Prop} {md:Region.Mode} {S:World→Prop} {oi:Oper} {v:Value} {fuel:Nat} {listed:Array Bool} {a:Act} {w:World} (i:Nat) (hS:S w) (hi:ops[i]?=some oi) (hy:∀ w,S w→(execOp a.eval oi).run P w=.ok (.value v) w)
  (h:wpAnyH P md ops Q S fuel (listed.setIfInBounds i true) (a.put oi.dst v) w) (hs:Region.noSelect ops=true:=by kernel_rfl) (hf:Region.free md ops listed i=true:=by kernel_rfl) (hr:(Region.ready md ops listed).contains i=true:=by kernel_rfl) (hw:Region.wanted oi (yielded ops a.tmps)=true:=by kernel_rfl)
  (hQ:∀ c a w,Q (.panic c) (a.put oi.dst v) w→Q (.panic c) a w:=by exact fun _ _ _ h=>h):wpAnyH P md ops Q S (fuel+1) listed a w:=wpAnyH_take hi hs hf hr hQ (.inl ⟨hw,hy⟩) hS h
theorem mk_alts (L:Nat) (hL:L≤2000000) (W:World):(Instr.makeSlice 41 (.int .i64 (L:Int)) (.int .i64 (L:Int))).run Tryz.prog W=.ok (.slice (some ⟨W.heap.size,0,none⟩) L L) (W.alloc (.cells (Array.replicate L (Value.slice none 0 0)) 59)):=by
 obtain ⟨i0,hi,hz0,hz1,hz2⟩:=info_parts altRow
 have h:=run_make (P:=Tryz.prog) W 41 59 i0 _ Tryz.underlying41 hi hz0 .i64 .i64 L L (by omega) (Int.le_refl _) (by rw [hz2];omega) (by omega)
 rw [h,hz1]
 have e:madeCells #[Value.slice none 0 0] L=Array.replicate L (Value.slice none 0 0):=by
  apply Array.toList_inj.1
  rw [toList_madeCells_one,Array.toList_replicate]
 show Result.ok (Value.slice (some ⟨W.heap.size,0,none⟩) (L:Int).toNat (L:Int).toNat) (W.alloc (.cells (madeCells #[Value.slice none 0 0] ((L:Int).toNat * 1)) 59))=_
 rw [Int.toNat_natCast,Nat.mul_one,e]
theorem mk_strs (L:Nat) (hL:L≤2000000) (W:World):(Instr.makeSlice 36 (.int .i64 (L:Int)) (.int .i64 (L:Int))).run Tryz.prog W=.ok (.slice (some ⟨W.heap.size,0,none⟩) L L) (W.alloc (.cells (Array.replicate L (Value.string ByteArray.empty)) 9)):=by
 obtain ⟨i0,hi,hz0,hz1,hz2⟩:=info_parts strRow
 have h:=run_make (P:=Tryz.prog) W 36 9 i0 _ Tryz.underlying36 hi hz0 .i64 .i64 L L (by omega) (Int.le_refl _) (by rw [hz2];omega) (by omega)
 rw [h,hz1]
 have e:madeCells #[Value.string ByteArray.empty] L=Array.replicate L (Value.string ByteArray.empty):=by
  apply Array.toList_inj.1
  rw [toList_madeCells_one,Array.toList_replicate]
 show Result.ok (Value.slice (some ⟨W.heap.size,0,none⟩) (L:Int).toNat (L:Int).toNat) (W.alloc (.cells (madeCells #[Value.string ByteArray.empty] ((L:Int).toNat * 1)) 9))=_
 rw [Int.toNat_natCast,Nat.mul_one,e]
theorem only_row {w:World} {ys:List (List Term)} {k gA N M:Nat} {ak:Option Addr} {ck:Nat} {y:List Term} (hy:ys[k]?=some y) (hN:ys.length=N) (hM:y.length=M) (hl:N≤maxLen)
  (hA:w.heap[gA]?=some (.cells ((Array.replicate N (Value.slice none 0 0)).setIfInBounds k (.slice ak M ck)) 59 (0,0))) (hyi:Is w (.slice ak M ck) y) :
  Is w (.slice (some ⟨gA,0,none⟩) N N) (onlyT ys k):=by
 subst hN hM
 have hol:=only_len ys k
 have h1:Is w (.slice (some ⟨gA,0,none⟩) (onlyT ys k).length ys.length) (onlyT ys k):=by
  refine list_mk (by rw [hol];exact Nat.le_refl _) hl fun j t ht=>⟨gA,0,rfl,?_,?_⟩
  ·rcases Nat.lt_or_ge gA w.heap.size with h | h
   ·exact h
   ·rw [Array.getElem?_eq_none h] at hA;cases hA
  ·have hj:j < ys.length:=by rw [← hol];exact lt_get ht
   rcases only_get ys k j t ht with ⟨rfl,h2⟩ | ⟨h1,rfl⟩
   ·rw [hy] at h2;cases h2
    obtain ⟨a3,c3,he,h3,h4,h5⟩:=list_inv hyi
    cases he
    exact ⟨_,_,objcell hA (by show _[0+(j * 1+0)]?=_;rw [Nat.mul_one,Nat.add_zero,Nat.zero_add,Array.getElem?_setIfInBounds_self_of_lt (by simpa using hj)]),h3,h4,h5⟩
   ·exact ⟨none,0,objcell hA (by show _[0+(j * 1+0)]?=_;rw [Nat.mul_one,Nat.add_zero,Nat.zero_add,Array.getElem?_setIfInBounds_ne (by omega),Array.getElem?_replicate,if_pos hj];rfl),Nat.le_refl _,by decide,fun i x hx=>by simp at hx⟩
 rw [hol] at h1
 exact h1
theorem zero_strs {w:World} {n gB:Nat} (hl:n≤maxLen) (hB:w.heap[gB]?=some (.cells (Array.replicate n (Value.string ByteArray.empty)) 9 (0,0))):Is w (.slice (some ⟨gB,0,none⟩) n n) (List.replicate n ByteArray.empty):=by
 have h1:Is w (.slice (some ⟨gB,0,none⟩) (List.replicate n ByteArray.empty).length n) (List.replicate n ByteArray.empty):=by
  refine list_mk (by simp) hl fun j t ht=>⟨gB,0,rfl,?_,?_⟩
  ·rcases Nat.lt_or_ge gB w.heap.size with h | h
   ·exact h
   ·rw [Array.getElem?_eq_none h] at hB;cases hB
  ·have hj:j < n:=by have:=lt_get ht;simpa using this
   rw [List.getElem?_replicate,if_pos hj] at ht
   cases ht
   exact ⟨objcell hB (by show _[0+(j * 1+0)]?=_;rw [Nat.mul_one,Nat.add_zero,Nat.zero_add,Array.getElem?_replicate,if_pos hj]),by decide⟩
 rw [List.length_replicate] at h1
 exact h1
theorem once_step {out l:List Due} {j:Nat} {d:Due} (h:l[j]?=some d):onceD out (l.take (j+1))=if d∈onceD out (l.take j) then onceD out (l.take j) else onceD out (l.take j)++[d]:=by
 rw [take_at h,once_append]
 show (if (onceD out (l.take j)).contains d then _ else _)=_
 simp only [List.contains_iff_mem]
theorem fin16 {w0 W:World} {B gA gB gC LT LO:Nat} (h:Below B w0 W) (hC:B≤gC) (hd:gA≠gC∧gB≠gC∧gA≠gB) (hOA:W.heap[gA]?=some (.cells (Array.replicate LT (Value.slice none 0 0)) 59 (0,0))) (hOB:W.heap[gB]?=some (.cells (Array.replicate LO (Value.string ByteArray.empty)) 9 (0,0)))
  (hOC:W.heap[gC]?=some (.cells #[.slice none 0 0,.slice none 0 0] 43 (0,0))):(gA≠gC∧gB≠gC∧gA≠gB)∧Below B w0 ((W.setCell ⟨gC,0,none⟩ (.slice (some ⟨gA,0,none⟩) LT LT)).setCell ⟨gC,1,none⟩ (.slice (some ⟨gB,0,none⟩) LO LO)) ∧
  ((W.setCell ⟨gC,0,none⟩ (.slice (some ⟨gA,0,none⟩) LT LT)).setCell ⟨gC,1,none⟩ (.slice (some ⟨gB,0,none⟩) LO LO)).heap[gA]?=some (.cells (Array.replicate LT (Value.slice none 0 0)) 59 (0,0)) ∧
  ((W.setCell ⟨gC,0,none⟩ (.slice (some ⟨gA,0,none⟩) LT LT)).setCell ⟨gC,1,none⟩ (.slice (some ⟨gB,0,none⟩) LO LO)).heap[gB]?=some (.cells (Array.replicate LO (Value.string ByteArray.empty)) 9 (0,0)) ∧
  ((W.setCell ⟨gC,0,none⟩ (.slice (some ⟨gA,0,none⟩) LT LT)).setCell ⟨gC,1,none⟩ (.slice (some ⟨gB,0,none⟩) LO LO)).cell? ⟨gC,0,none⟩=some (.slice (some ⟨gA,0,none⟩) LT LT) ∧
  ((W.setCell ⟨gC,0,none⟩ (.slice (some ⟨gA,0,none⟩) LT LT)).setCell ⟨gC,1,none⟩ (.slice (some ⟨gB,0,none⟩) LO LO)).cell? ⟨gC,1,none⟩=some (.slice (some ⟨gB,0,none⟩) LO LO):=by
 have hC2:=setCell_obj (W.setCell ⟨gC,0,none⟩ (.slice (some ⟨gA,0,none⟩) LT LT)) gC 1 (.slice (some ⟨gB,0,none⟩) LO LO) (setCell_obj W gC 0 (.slice (some ⟨gA,0,none⟩) LT LT) hOC)
 exact ⟨hd,(h.setCell (by exact hC) _).setCell (by exact hC) _,by rw [blk_set_other _ _ _ _ hd.1,blk_set_other _ _ _ _ hd.1];exact hOA,by rw [blk_set_other _ _ _ _ hd.2.1,blk_set_other _ _ _ _ hd.2.1];exact hOB,objcell hC2 (j:=0) rfl,objcell hC2 (j:=1) rfl⟩
set_option maxRecDepth 100000 in
set_option maxHeartbeats 16000000 in
theorem DutyParts_p (w:World) (vc vx:Value) (c:Catalog) (x:List Fact) (n:Int) (hg:Glob w) (hc:Is w vc c) (h:Is w vx x) (hn:(Lit.int .u16 n).wf=true) (hok:∀ f∈x,okF f) :
  Calls Tryz.prog 7 #[vc,vx,.int .u16 n] w fun e w'=>e=.returned (.bool true)∧Below w.heap.size w w':=by
 have hn1:=u16_range hn
 obtain ⟨nn,rfl⟩:∃ nn:Nat,n=nn:=⟨n.toNat,by omega⟩
 have hn2:nn≤65535:=by omega
 clear hn1 hn
 have HG:=Lib.hid hg
 have HX:=Lib.hid h
 have HC:=Lib.hid hc
 have HOK:=Lib.hid hok
 obtain ⟨a0,c0,a1,c1,a2,c2,a3,c3,rfl,-⟩:=Catalog.inv hc
 obtain ⟨ax,nx,rfl,hnx,hmx,hr⟩:=list_inv h
 simp only [maxLen] at hmx
 have hm':x.length≤9223372036854775807:=by omega
 have HR:=Lib.hid hr
 have hba:Below w.heap.size w (w.alloc (.cells #[.slice a0 c.licenses.length c0,.slice a1 c.exceptions.length c1,.slice a2 c.clauses.length c2,.slice a3 c.apart.length c3] 27)):=(Below.refl _ _).alloc (Nat.le_refl _) _
 have hcall:=awakeD_p (w.alloc (.cells #[.slice a0 c.licenses.length c0,.slice a1 c.exceptions.length c1,.slice a2 c.clauses.length c2,.slice a3 c.apart.length c3] 27)) (hg.mono hba)
 have HBA:=Lib.hid hba
 generalize hL:x.length=L at *
 have HL:=Lib.hid hL
 generalize hN0:c.licenses.length=N0 at *
 have HN0:=Lib.hid hN0
 generalize c.exceptions.length=N1 at *
 generalize hN2:c.clauses.length=N2 at *
 have HN2:=Lib.hid hN2
 generalize c.apart.length=N3 at *
 clear h hr hc hok hnx hmx hL hba hN0 hN2 hg
 go_enter Tryz.func7,Tryz.ntmps7
 go_wp2_with fail
 refine hcall.mono ?_
 rintro e w1 ⟨rfl,hb1⟩
 clear hcall
 have d0:=kept hb1 (a:=⟨w.heap.size,0,none⟩) (v:=.slice a0 N0 c0) (by simp)
 have d1:=kept hb1 (a:=⟨w.heap.size,1,none⟩) (v:=.slice a1 N1 c1) (by simp)
 have d2:=kept hb1 (a:=⟨w.heap.size,2,none⟩) (v:=.slice a2 N2 c2) (by simp)
 have d3:=kept hb1 (a:=⟨w.heap.size,3,none⟩) (v:=.slice a3 N3 c3) (by simp)
 have hs1:w.heap.size < w1.heap.size:=cell_lt d0
 have HB1:Hid (Below w.heap.size w w1):=Lib.hid (HBA.out.trans (hb1.mono (by simp)))
 clear hb1 HBA
 go_wp2_with fail
 refine (FewD_ref w1 _ _ c x (HC.out.mono HB1.out) (HX.out.mono HB1.out) HOK.out).mono ?_
 rintro e w2 ⟨fb,rfl,hfx,hb2⟩
 have HFX:=Lib.hid hfx
 have HB2:Hid (Below w.heap.size w w2):=Lib.hid (HB1.out.trans (hb2.mono HB1.out.size))
 cases fb
 case false =>
  clear hb2 hfx d0 d1 d2 d3
  go_wp2
  go_ret
  exact ⟨rfl,HB2.out⟩
 have HFW:=Lib.hid (HFX.out rfl)
 have HFIT:=Lib.hid HFW.out.fits
 have d0:=kept hb2 d0
 have d1:=kept hb2 d1
 have d2:=kept hb2 d2
 have d3:=kept hb2 d3
 have hs2:w.heap.size < w2.heap.size:=cell_lt d0
 clear hb2 hfx hs1 HB1 HFX
 go_wp2_with fail
 refine (Count_p w2 _ _ c x (HG.out.mono HB2.out) (HC.out.mono HB2.out) (HX.out.mono HB2.out) HFIT.out (by have:=HFW.out.1;omega)).mono ?_
 have HNTH:=Lib.hid (fun (n:Nat) h1 h2=>nth_ok (c:=c) (x:=x) (n:=n) h1 h2)
 have HCR:=Lib.hid (count_nat c x)
 generalize countC c x=cn at *
 obtain ⟨cn1,cn2⟩:=cn
 simp only at HNTH HCR
 rintro e w3 ⟨rfl,hb3⟩
 have d0:=kept hb3 d0
 have d1:=kept hb3 d1
 have d2:=kept hb3 d2
 have d3:=kept hb3 d3
 have hs3:w.heap.size < w3.heap.size:=cell_lt d0
 have HB3:Hid (Below w.heap.size w w3):=Lib.hid (HB2.out.trans (hb3.mono HB2.out.size))
 clear hb3 hs2 HB2
 cases q:(cn2 == 0)
 case false =>
  have q':(cn2 != 0)=true:=by rw [show (cn2 != 0)=!(cn2 == 0) from rfl,q];rfl
  clear q HNTH HCR
  go_wp2
  go_ret
  exact ⟨rfl,HB3.out⟩
 have q':(cn2 != 0)=false:=by rw [show (cn2 != 0)=!(cn2 == 0) from rfl,q];rfl
 have q0:cn2=0:=by simpa using q
 subst q0
 obtain ⟨mm,rfl,hmm⟩:=HCR.out
 by_cases qm:mm=0
 ·subst qm
  clear q HNTH HCR
  go_wp2
  go_ret
  exact ⟨rfl,HB3.out⟩
 have qmf:((mm:Int) == 0)=false:=by simp;omega
 have hmp:0 < mm:=by omega
 obtain ⟨kk,hkk⟩:∃ kk:Nat,kk=nn % mm:=⟨_,rfl⟩
 have hkm:kk < mm:=by rw [hkk];exact Nat.mod_lt _ hmp
 have hrem:((nn:Int)).tmod (mm:Int)=(kk:Int):=by rw [hkk];exact (Int.ofNat_tmod nn mm).symm
 have hmz:¬ (mm:Int)=0:=by omega
 have hwrap:IntKind.i64.wrap (nn:Int)=(nn:Int):=by rw [IntKind.wrap_i64];omega
 obtain ⟨HN1',HN2'⟩:=HNTH.out kk rfl (by show (kk:Int) < (mm:Int);omega)
 have HNT:=Lib.hid HN2'
 have HNE:=Lib.hid HN1'
 have D0:=Lib.hid d0
 have D1:=Lib.hid d1
 have D2:=Lib.hid d2
 have D3:=Lib.hid d3
 have hcall:=fun W (hb:Below w3.heap.size w3 W)=>Nth_is W _ _ c x kk (HG.out.mono (HB3.out.trans (hb.mono HB3.out.size))) (HC.out.mono (HB3.out.trans (hb.mono HB3.out.size))) (HX.out.mono (HB3.out.trans (hb.mono HB3.out.size))) HFIT.out (by have:=HFW.out.1;omega)
 unfold NI at hcall
 rw [HN1'] at hcall
 generalize hY:(nthC c x kk).1=y at *
 have HCALL:=Lib.hid hcall
 clear q HNTH HCR HN1' HN2' hY hkk d0 d1 d2 d3 hcall HNE
 go_upto_region 8 with (fail)
 go_cut [8,9] (fun v8 v9 wx=>∃ (g:Nat) (a4:Option Addr) (c4:Nat) (a5:Option Addr) (c5:Nat),v8=.int .i64 0∧v9=.pointer (some ⟨g,0,none⟩)∧Hid (w3.heap.size≤g)∧Hid (wx.cell? ⟨g,0,none⟩=some (.slice a4 y.terms.length c4))∧Hid (wx.cell? ⟨g,1,none⟩=some (.slice a5 y.own.length c5))∧Hid (Is wx (.agg #[.slice a4 y.terms.length c4,.slice a5 y.own.length c5]) y)∧Hid (Below w3.heap.size w3 wx))
 case first =>
  refine wp_region_held_drew (S:=(fun w':World=>Below w3.heap.size w3 w')) (by kernel_rfl) (by exact bw) (fun hH0=>?_)
  generalize w3.drew=wd at *
  refine tkA (v:=?_) 0 hH0 rfl ?_ ?_;rotate_left
  ·intro w hSw;(try dsimp only at hSw);have d0:=kept hSw D0.out;have d1:=kept hSw D1.out;have d2:=kept hSw D2.out;have d3:=kept hSw D3.out;go_simp;all_goals with_reducible rfl
  try simp only [tkS,Act.put]
  refine tkA (v:=?_) 1 hH0 rfl ?_ ?_;rotate_left
  ·intro w hSw;(try dsimp only at hSw);go_simp;all_goals with_reducible rfl
  try simp only [tkS,Act.put]
  refine tkA (v:=?_) 2 hH0 rfl ?_ ?_;rotate_left
  ·intro w hSw;(try dsimp only at hSw);go_simp;all_goals with_reducible rfl
  try simp only [tkS,Act.put]
  refine tkA (v:=?_) 3 hH0 rfl ?_ ?_;rotate_left
  ·intro w hSw;(try dsimp only at hSw);go_simp;(try rw [hwrap]);all_goals with_reducible rfl
  try simp only [tkS,Act.put]
  refine tkA (v:=?_) 4 hH0 rfl ?_ ?_;rotate_left
  ·intro w hSw;(try dsimp only at hSw);go_simp;all_goals with_reducible rfl
  try simp only [tkS,Act.put]
  refine tkA (v:=?_) 5 hH0 rfl ?_ ?_;rotate_left
  ·intro w hSw;(try dsimp only at hSw);go_simp;(try rw [hrem]);all_goals with_reducible rfl
  try simp only [tkS,Act.put]
  refine wpAnyH_ready (rs:=[6,10]) (by kernel_rfl) (by simp) ?_
  refine AllReadyH.cons (o:=_) rfl (fun K hK=>?_) (AllReadyH.cons (o:=_) rfl (fun K hK=>?_) AllReadyH.nil)
  ·go_simp
   go_at_call 22
   refine (HCALL.out _ hH0).mono ?_
   rintro e w5 ⟨a4,c4,a5,c5,rfl,hch,hb⟩
   have hbb:Below w3.heap.size w3 w5:=hH0.trans (hb.mono hH0.size)
   go_wp2_with fail
   refine hK.out _ _ ?_ (fun hH1=>?_)
   ·exact hbb
   try simp only [tkS,Act.put]
   clear hK K
   refine tkA (v:=?_) 7 hH1 rfl ?_ ?_;rotate_left
   ·intro w hSw;(try dsimp only at hSw);go_simp;all_goals with_reducible rfl
   try simp only [tkS,Act.put]
   refine tkA (v:=?_) 8 hH1 rfl ?_ ?_;rotate_left
   ·intro w hSw;(try dsimp only at hSw);go_simp;all_goals with_reducible rfl
   try simp only [tkS,Act.put]
   refine tkA (v:=?_) 9 hH1 rfl ?_ ?_;rotate_left
   ·intro w hSw;(try dsimp only at hSw);go_simp;all_goals with_reducible rfl
   try simp only [tkS,Act.put]
   refine wpAnyH_ready (rs:=[10]) (by kernel_rfl) (by simp) ?_
   refine AllReadyH.cons (o:=_) rfl (fun K hK=>?_) AllReadyH.nil
   go_simp
   have hbA:Below w5.heap.size w5 (w5.alloc (.cells #[.slice none 0 0,.slice none 0 0] 43)):=(Below.refl _ _).alloc (Nat.le_refl _) _
   have hOA:=World.alloc_heap_new w5 (.cells #[.slice none 0 0,.slice none 0 0] 43)
   have hbA2:Below w3.heap.size w3 (w5.alloc (.cells #[.slice none 0 0,.slice none 0 0] 43)):=hbb.alloc hbb.size _
   go_wp2_with fail
   refine hK.out _ _ ?_ (fun hH2=>?_)
   ·exact hbA2
   try simp only [tkS,Act.put]
   clear hK K
   have hge:w3.heap.size≤w5.heap.size:=hbb.size
   refine wpAnyH_ready (rs:=[11]) (by kernel_rfl) (by simp) ?_
   refine AllReadyH.cons (o:=_) rfl (fun K hK=>?_) AllReadyH.nil
   go_simp
   have hb6:Below w3.heap.size w3 (w5.alloc (.cells #[.slice a4 y.terms.length c4,.slice a5 y.own.length c5] 43)):=hbb.alloc hbb.size _
   have hyy:Is (w5.alloc (.cells #[.slice a4 y.terms.length c4,.slice a5 y.own.length c5] 43)) (.agg #[.slice a4 y.terms.length c4,.slice a5 y.own.length c5]) y:=(hch.below ((Below.refl _ _).alloc (Nat.le_refl _) _)).is
   have z0:((w5.alloc (.cells #[.slice a4 y.terms.length c4,.slice a5 y.own.length c5] 43))).cell? ⟨w5.heap.size,0,none⟩=some (.slice a4 y.terms.length c4):=by simp
   have z1:((w5.alloc (.cells #[.slice a4 y.terms.length c4,.slice a5 y.own.length c5] 43))).cell? ⟨w5.heap.size,1,none⟩=some (.slice a5 y.own.length c5):=by simp
   go_wp2_with fail
   refine hK.out _ _ ?_ (fun hH3=>?_)
   ·exact hb6
   try simp only [tkS,Act.put]
   clear hK K
   generalize (w5.alloc (.cells #[.slice a4 y.terms.length c4,.slice a5 y.own.length c5] 43))=w6 at *
   refine tkA (v:=?_) 12 hH3 rfl ?_ ?_;rotate_left
   ·intro w hSw;(try dsimp only at hSw);go_simp;all_goals with_reducible rfl
   try simp only [tkS,Act.put]
   refine wpAnyH_done (by kernel_rfl) ?_ _
   go_wp2_with fail
   go_meet
   case rel=>exact ⟨w5.heap.size,a4,c4,a5,c5,rfl,rfl,Lib.hid hge,Lib.hid z0,Lib.hid z1,Lib.hid hyy,Lib.hid hb6⟩
  ·go_simp
   have hbA:Below wd.heap.size wd (wd.alloc (.cells #[.slice none 0 0,.slice none 0 0] 43)):=(Below.refl _ _).alloc (Nat.le_refl _) _
   have hOB:=World.alloc_heap_new wd (.cells #[.slice none 0 0,.slice none 0 0] 43)
   have hbA2:Below w3.heap.size w3 (wd.alloc (.cells #[.slice none 0 0,.slice none 0 0] 43)):=hH0.alloc hH0.size _
   have hge:w3.heap.size≤wd.heap.size:=hH0.size
   have hlt:wd.heap.size < (wd.alloc (.cells #[.slice none 0 0,.slice none 0 0] 43)).heap.size:=by simp
   go_wp2_with fail
   refine hK.out _ _ ?_ (fun hH1=>?_)
   ·exact hbA2
   try simp only [tkS,Act.put]
   clear hK K
   generalize (wd.alloc (.cells #[.slice none 0 0,.slice none 0 0] 43))=wA at *
   generalize wd.heap.size=gA at *
   clear hbA hH0
   refine wpAnyH_ready (rs:=[6]) (by kernel_rfl) (by simp) ?_
   refine AllReadyH.cons (o:=_) rfl (fun K hK=>?_) AllReadyH.nil
   go_simp
   go_at_call 22
   refine (HCALL.out _ hH1).mono ?_
   rintro e w5 ⟨a4,c4,a5,c5,rfl,hch,hb⟩
   have hbb:Below w3.heap.size w3 w5:=hH1.trans (hb.mono hH1.size)
   have hOA:=below_blk hb hOB
   go_wp2_with fail
   refine hK.out _ _ ?_ (fun hH2=>?_)
   ·exact hbb
   try simp only [tkS,Act.put]
   clear hK K
   refine tkA (v:=?_) 7 hH2 rfl ?_ ?_;rotate_left
   ·intro w hSw;(try dsimp only at hSw);go_simp;all_goals with_reducible rfl
   try simp only [tkS,Act.put]
   refine tkA (v:=?_) 8 hH2 rfl ?_ ?_;rotate_left
   ·intro w hSw;(try dsimp only at hSw);go_simp;all_goals with_reducible rfl
   try simp only [tkS,Act.put]
   refine tkA (v:=?_) 9 hH2 rfl ?_ ?_;rotate_left
   ·intro w hSw;(try dsimp only at hSw);go_simp;all_goals with_reducible rfl
   try simp only [tkS,Act.put]
   refine wpAnyH_ready (rs:=[11]) (by kernel_rfl) (by simp) ?_
   refine AllReadyH.cons (o:=_) rfl (fun K hK=>?_) AllReadyH.nil
   have y0:=objcell hOA (j:=0) rfl
   have y1:=objcell hOA (j:=1) rfl
   have f0:=objfrozen hOA (j:=0)
   have f1:=objfrozen hOA (j:=1)
   have hlg:gA < w5.heap.size:=cell_lt y0
   go_simp
   have hb6:Below w3.heap.size w3 ((w5.setCell ⟨gA,0,none⟩ (.slice a4 y.terms.length c4)).setCell ⟨gA,1,none⟩ (.slice a5 y.own.length c5)):=(hbb.setCell (by exact hge) _).setCell (by exact hge) _
   have hyy:Is ((w5.setCell ⟨gA,0,none⟩ (.slice a4 y.terms.length c4)).setCell ⟨gA,1,none⟩ (.slice a5 y.own.length c5)) (.agg #[.slice a4 y.terms.length c4,.slice a5 y.own.length c5]) y:=((hch.setCell _ (by exact hlt)).setCell _ (by exact hlt)).is
   have z0:(((w5.setCell ⟨gA,0,none⟩ (.slice a4 y.terms.length c4)).setCell ⟨gA,1,none⟩ (.slice a5 y.own.length c5))).cell? ⟨gA,0,none⟩=some (.slice a4 y.terms.length c4):=objcell (setCell_obj _ gA 1 _ (setCell_obj w5 gA 0 _ hOA)) (j:=0) rfl
   have z1:(((w5.setCell ⟨gA,0,none⟩ (.slice a4 y.terms.length c4)).setCell ⟨gA,1,none⟩ (.slice a5 y.own.length c5))).cell? ⟨gA,1,none⟩=some (.slice a5 y.own.length c5):=objcell (setCell_obj _ gA 1 _ (setCell_obj w5 gA 0 _ hOA)) (j:=1) rfl
   go_wp2_with fail
   refine hK.out _ _ ?_ (fun hH3=>?_)
   ·exact hb6
   try simp only [tkS,Act.put]
   clear hK K
   generalize ((w5.setCell ⟨gA,0,none⟩ (.slice a4 y.terms.length c4)).setCell ⟨gA,1,none⟩ (.slice a5 y.own.length c5))=w6 at *
   refine tkA (v:=?_) 12 hH3 rfl ?_ ?_;rotate_left
   ·intro w hSw;(try dsimp only at hSw);go_simp;all_goals with_reducible rfl
   try simp only [tkS,Act.put]
   refine wpAnyH_done (by kernel_rfl) ?_ _
   go_wp2_with fail
   go_meet
   case rel=>exact ⟨gA,a4,c4,a5,c5,rfl,rfl,Lib.hid hge,Lib.hid z0,Lib.hid z1,Lib.hid hyy,Lib.hid hb6⟩
 case rest =>
  obtain ⟨g,a4,c4,a5,c5,rfl,rfl,HGE,HC0,HC1,HYI,HB6⟩:=hcut
  have HBW6:Hid (Below w.heap.size w wc):=Lib.hid (HB3.out.trans (HB6.out.mono HB3.out.size))
  have d0:=kept HB6.out D0.out
  have d1:=kept HB6.out D1.out
  have d2:=kept HB6.out D2.out
  have d3:=kept HB6.out D3.out
  have e0:=HC0.out
  have e1:=HC1.out
  have hg6:g < wc.heap.size:=cell_lt e0
  have hs6:w.heap.size < wc.heap.size:=cell_lt d0
  have HDU:=Lib.hid (duties_ok HNT.out)
  have hcall:=Of_is wc _ _ _ c x y (HG.out.mono HBW6.out) (HC.out.mono HBW6.out) (HX.out.mono HBW6.out) HYI.out HFW.out HNT.out.alts
  unfold DI at hcall
  rw [HDU.out] at hcall
  simp only at hcall
  generalize hLD:onceD [] (duesF c x x y.terms)=l at *
  have HLD:=Lib.hid hLD
  generalize hLT:y.terms.length=LT at *
  generalize hLO:y.own.length=LO at *
  have HLT:=Lib.hid hLT
  have HLO:=Lib.hid hLO
  clear HCALL hLD hLT hLO HDU
  go_wp2_with fail
  refine hcall.mono ?_
  rintro e w7 ⟨a6,c6,rfl,hrd7,hb7⟩
  clear hcall
  have hl7:=hrd7.is
  have hok7:=hrd7.2
  obtain ⟨a6',c6',he6,hn6,hm6,hr6⟩:=list_inv hl7
  cases he6
  have HBW7:Hid (Below w.heap.size w w7):=Lib.hid (HBW6.out.trans (hb7.mono HBW6.out.size))
  have HL7:=Lib.hid hl7
  have HR7:=Lib.hid hr6
  have HOK7:=Lib.hid hok7
  have HYI7:=Lib.hid (HYI.out.mono hb7)
  have d0:=kept hb7 d0
  have d1:=kept hb7 d1
  have d2:=kept hb7 d2
  have d3:=kept hb7 d3
  have e0:=kept hb7 e0
  have e1:=kept hb7 e1
  have D0:=Lib.hid d0
  have D1:=Lib.hid d1
  have D2:=Lib.hid d2
  have D3:=Lib.hid d3
  have E0:=Lib.hid e0
  have E1:=Lib.hid e1
  have hs7:w.heap.size < w7.heap.size:=cell_lt d0
  have hg7:g < w7.heap.size:=cell_lt e0
  simp only [maxLen] at hm6
  have hm6':l.length≤9223372036854775807:=by omega
  generalize hLL:l.length=LL at *
  have HLL:=Lib.hid hLL
  clear hb7 hl7 hr6 hok7 hrd7 hg6 hs6 hLL HB6 HC0 HC1 HYI HB3 HBW6
  have HLC:=Lib.hid (nth_lic HNT.out)
  have HDB:=Lib.hid (few_dues HFW.out HNT.out.alts)
  have HON:=Lib.hid (only_ok HNT.out)
  have HAL:=Lib.hid HNT.out.alts
  have hLT2:LT≤2000000:=by have h1:=(values_fit (c:=c) HFIT.out).2.1;rw [← HNT.out.terms,HLT.out] at h1;omega
  have hLO2:LO≤2000000:=by have h1:=(values_fit (c:=c) HFIT.out).2.2;rw [← HNT.out.own,HLO.out] at h1;omega
  have hmkA:=mk_alts LT hLT2
  have hmkB:=mk_strs LO hLO2
  obtain ⟨hyt,-⟩:=choice_parts HYI7.out
  obtain ⟨a4',c4',he4,-,-,hrt⟩:=list_inv hyt
  rw [HLT.out] at he4
  cases he4
  have HRT:=Lib.hid hrt
  clear hs7 d0 d1 d2 d3 e1 hyt hrt
  go_wp2_with fail
  clear e0
  go_loopw [12,63] (fun av kv wr=>∃ k:Nat,k≤LT∧kv=.int .i64 k∧Hid (RowD w7.heap.size wr av (allD c x y.terms k))∧Hid (Below w7.heap.size w7 wr)) (fun _ kv _=>LT - (intOf kv).toNat)
  case atStart=>exact ⟨0,by omega,rfl,Lib.hid (RowD.nil _ _),Lib.hid (Below.refl _ _)⟩
  case round =>
   obtain ⟨k,hk,rfl,HO,HB⟩:=hrel
   have HBW:Hid (Below w.heap.size w wr):=Lib.hid (HBW7.out.trans (HB.out.mono HBW7.out.size))
   obtain ⟨av1,av2,hav⟩:=HO.out.shape
   subst hav
   by_cases hki:k < LT
   ·have hkz:(k:Int) < (LT:Int):=by omega
    have hk0:(0:Int)≤(k:Int):=by omega
    obtain ⟨ya,hya⟩:=get_lt (xs:=y.terms) (k:=k) (by rw [HLT.out];exact hki)
    have HYA:=Lib.hid hya
    obtain ⟨b2,oy,rfl,hb2,ay,cy,y0',hy1,hy2,hy3⟩:=list_at HRT.out hya
    have HYI2:=Lib.hid (list_mk hy1 hy2 hy3)
    have y0:=kept HB.out y0'
    have e0:=kept HB.out E0.out
    have e1:=kept HB.out E1.out
    have hgr:g < wr.heap.size:=cell_lt e0
    have hbr:b2 < wr.heap.size:=cell_lt y0
    clear hya y0' hy1 hy2 hy3 hb2
    generalize hLY:ya.length=LY at *
    have HLY:=Lib.hid hLY
    clear hLY
    generalize (allD c x y.terms k).length=LA at *
    go_upto_region 16 with (fail)
    go_cut [14] (fun v14 wx=>∃ gA gB gC:Nat,v14=.pointer (some ⟨gC,0,none⟩)∧Hid (wr.heap.size≤gA∧wr.heap.size≤gB∧wr.heap.size≤gC∧gA≠gC∧gB≠gC∧gA≠gB)∧Hid (wx.heap[gA]?=some (.cells (Array.replicate LT (Value.slice none 0 0)) 59 (0,0)))∧Hid (wx.heap[gB]?=some (.cells (Array.replicate LO (Value.string ByteArray.empty)) 9 (0,0)))∧Hid (wx.cell? ⟨gC,0,none⟩=some (.slice (some ⟨gA,0,none⟩) LT LT))∧Hid (wx.cell? ⟨gC,1,none⟩=some (.slice (some ⟨gB,0,none⟩) LO LO))∧Hid (Below wr.heap.size wr wx))
    case first =>
     refine wp_region_held_drew (S:=(fun w':World=>Below wr.heap.size wr w')) (by kernel_rfl) (by exact bw) (fun hH0=>?_)
     generalize wr.drew=wd0 at *
     refine tkA (v:=?_) 0 hH0 rfl ?_ ?_;rotate_left
     ·intro w hSw;(try dsimp only at hSw);go_simp;all_goals with_reducible rfl
     try simp only [tkS,Act.put]
     refine tkA (v:=?_) 1 hH0 rfl ?_ ?_;rotate_left
     ·intro w hSw;(try dsimp only at hSw);have e0:=kept hSw e0;have e1:=kept hSw e1;go_simp;all_goals with_reducible rfl
     try simp only [tkS,Act.put]
     refine tkA (v:=?_) 2 hH0 rfl ?_ ?_;rotate_left
     ·intro w hSw;(try dsimp only at hSw);go_simp;all_goals with_reducible rfl
     try simp only [tkS,Act.put]
     refine tkA (v:=?_) 4 hH0 rfl ?_ ?_;rotate_left
     ·intro w hSw;(try dsimp only at hSw);go_simp;all_goals with_reducible rfl
     try simp only [tkS,Act.put]
     refine tkA (v:=?_) 5 hH0 rfl ?_ ?_;rotate_left
     ·intro w hSw;(try dsimp only at hSw);have e0:=kept hSw e0;have e1:=kept hSw e1;go_simp;all_goals with_reducible rfl
     try simp only [tkS,Act.put]
     refine tkA (v:=?_) 6 hH0 rfl ?_ ?_;rotate_left
     ·intro w hSw;(try dsimp only at hSw);go_simp;all_goals with_reducible rfl
     try simp only [tkS,Act.put]
     refine wpAnyH_ready (rs:=[3,7,9]) (by kernel_rfl) (by simp) ?_
     refine AllReadyH.cons (o:=_) rfl (fun K hK=>?_) (AllReadyH.cons (o:=_) rfl (fun K hK=>?_) (AllReadyH.cons (o:=_) rfl (fun K hK=>?_) AllReadyH.nil))
     ·go_simp
      have hbA:Below wr.heap.size wr (wd0.alloc (.cells (Array.replicate LT (Value.slice none 0 0)) 59)):=hH0.alloc hH0.size _
      have hOA:=World.alloc_heap_new wd0 (.cells (Array.replicate LT (Value.slice none 0 0)) 59)
      have hgeA:wr.heap.size≤wd0.heap.size:=hH0.size
      have hltA:wd0.heap.size < (wd0.alloc (.cells (Array.replicate LT (Value.slice none 0 0)) 59)).heap.size:=by simp
      have hbq:Below wd0.heap.size wd0 (wd0.alloc (.cells (Array.replicate LT (Value.slice none 0 0)) 59)):=(Below.refl _ _).alloc (Nat.le_refl _) _
      go_wp2_with fail
      refine hK.out _ _ ?_ (fun hH1=>?_)
      ·exact hbA
      try simp only [tkS,Act.put]
      clear hK K hbq
      generalize (wd0.alloc (.cells (Array.replicate LT (Value.slice none 0 0)) 59))=wd1 at *
      generalize wd0.heap.size=gA at *
      refine wpAnyH_ready (rs:=[7,9]) (by kernel_rfl) (by simp) ?_
      refine AllReadyH.cons (o:=_) rfl (fun K hK=>?_) (AllReadyH.cons (o:=_) rfl (fun K hK=>?_) AllReadyH.nil)
      ·go_simp
       have hbB:Below wr.heap.size wr (wd1.alloc (.cells (Array.replicate LO (Value.string ByteArray.empty)) 9)):=hH1.alloc hH1.size _
       have hOB:=World.alloc_heap_new wd1 (.cells (Array.replicate LO (Value.string ByteArray.empty)) 9)
       have hgeB:wr.heap.size≤wd1.heap.size:=hH1.size
       have hltB:wd1.heap.size < (wd1.alloc (.cells (Array.replicate LO (Value.string ByteArray.empty)) 9)).heap.size:=by simp
       have hbq:Below wd1.heap.size wd1 (wd1.alloc (.cells (Array.replicate LO (Value.string ByteArray.empty)) 9)):=(Below.refl _ _).alloc (Nat.le_refl _) _
       have hOA:=below_blk hbq hOA
       go_wp2_with fail
       refine hK.out _ _ ?_ (fun hH2=>?_)
       ·exact hbB
       try simp only [tkS,Act.put]
       clear hK K hbq
       generalize (wd1.alloc (.cells (Array.replicate LO (Value.string ByteArray.empty)) 9))=wd2 at *
       generalize wd1.heap.size=gB at *
       refine tkA (v:=?_) 8 hH2 rfl ?_ ?_;rotate_left
       ·intro w hSw;(try dsimp only at hSw);go_simp;all_goals with_reducible rfl
       try simp only [tkS,Act.put]
       refine wpAnyH_ready (rs:=[9]) (by kernel_rfl) (by simp) ?_
       refine AllReadyH.cons (o:=_) rfl (fun K hK=>?_) AllReadyH.nil
       go_simp
       have hbC:Below wr.heap.size wr (wd2.alloc (.cells #[.slice none 0 0,.slice none 0 0] 43)):=hH2.alloc hH2.size _
       have hOC:=World.alloc_heap_new wd2 (.cells #[.slice none 0 0,.slice none 0 0] 43)
       have hgeC:wr.heap.size≤wd2.heap.size:=hH2.size
       have hltC:wd2.heap.size < (wd2.alloc (.cells #[.slice none 0 0,.slice none 0 0] 43)).heap.size:=by simp
       have hbq:Below wd2.heap.size wd2 (wd2.alloc (.cells #[.slice none 0 0,.slice none 0 0] 43)):=(Below.refl _ _).alloc (Nat.le_refl _) _
       have hOA:=below_blk hbq hOA
       have hOB:=below_blk hbq hOB
       go_wp2_with fail
       refine hK.out _ _ ?_ (fun hH3=>?_)
       ·exact hbC
       try simp only [tkS,Act.put]
       clear hK K hbq
       generalize (wd2.alloc (.cells #[.slice none 0 0,.slice none 0 0] 43))=wd3 at *
       generalize wd2.heap.size=gC at *
       have z0:=objcell hOC (j:=0) rfl
       have z1:=objcell hOC (j:=1) rfl
       have f0:=objfrozen hOC (j:=0)
       have f1:=objfrozen hOC (j:=1)
       have hlc:gC < wd3.heap.size:=cell_lt z0
       refine wpAnyH_ready (rs:=[10]) (by kernel_rfl) (by simp) ?_
       refine AllReadyH.cons (o:=_) rfl (fun K hK=>?_) AllReadyH.nil
       go_simp
       obtain ⟨hd,hb6,hA2,hB2,z0,z1⟩:=fin16 (LT:=LT) (LO:=LO) hH3 hgeC (by omega) hOA hOB hOC
       go_wp2_with fail
       refine hK.out _ _ ?_ (fun hHz=>?_)
       ·exact hb6
       try simp only [tkS,Act.put]
       clear hK K
       generalize ((wd3.setCell ⟨gC,0,none⟩ (.slice (some ⟨gA,0,none⟩) LT LT)).setCell ⟨gC,1,none⟩ (.slice (some ⟨gB,0,none⟩) LO LO))=w6 at *
       refine wpAnyH_done (by kernel_rfl) ?_ _
       go_wp2_with fail
       go_meet
       case rel=>exact ⟨gA,gB,gC,rfl,Lib.hid ⟨hgeA,hgeB,hgeC,hd⟩,Lib.hid hA2,Lib.hid hB2,Lib.hid z0,Lib.hid z1,Lib.hid hb6⟩
      ·go_simp
       have hbC:Below wr.heap.size wr (wd1.alloc (.cells #[.slice none 0 0,.slice none 0 0] 43)):=hH1.alloc hH1.size _
       have hOC:=World.alloc_heap_new wd1 (.cells #[.slice none 0 0,.slice none 0 0] 43)
       have hgeC:wr.heap.size≤wd1.heap.size:=hH1.size
       have hltC:wd1.heap.size < (wd1.alloc (.cells #[.slice none 0 0,.slice none 0 0] 43)).heap.size:=by simp
       have hbq:Below wd1.heap.size wd1 (wd1.alloc (.cells #[.slice none 0 0,.slice none 0 0] 43)):=(Below.refl _ _).alloc (Nat.le_refl _) _
       have hOA:=below_blk hbq hOA
       go_wp2_with fail
       refine hK.out _ _ ?_ (fun hH2=>?_)
       ·exact hbC
       try simp only [tkS,Act.put]
       clear hK K hbq
       generalize (wd1.alloc (.cells #[.slice none 0 0,.slice none 0 0] 43))=wd2 at *
       generalize wd1.heap.size=gC at *
       refine wpAnyH_ready (rs:=[7]) (by kernel_rfl) (by simp) ?_
       refine AllReadyH.cons (o:=_) rfl (fun K hK=>?_) AllReadyH.nil
       go_simp
       have hbB:Below wr.heap.size wr (wd2.alloc (.cells (Array.replicate LO (Value.string ByteArray.empty)) 9)):=hH2.alloc hH2.size _
       have hOB:=World.alloc_heap_new wd2 (.cells (Array.replicate LO (Value.string ByteArray.empty)) 9)
       have hgeB:wr.heap.size≤wd2.heap.size:=hH2.size
       have hltB:wd2.heap.size < (wd2.alloc (.cells (Array.replicate LO (Value.string ByteArray.empty)) 9)).heap.size:=by simp
       have hbq:Below wd2.heap.size wd2 (wd2.alloc (.cells (Array.replicate LO (Value.string ByteArray.empty)) 9)):=(Below.refl _ _).alloc (Nat.le_refl _) _
       have hOA:=below_blk hbq hOA
       have hOC:=below_blk hbq hOC
       go_wp2_with fail
       refine hK.out _ _ ?_ (fun hH3=>?_)
       ·exact hbB
       try simp only [tkS,Act.put]
       clear hK K hbq
       generalize (wd2.alloc (.cells (Array.replicate LO (Value.string ByteArray.empty)) 9))=wd3 at *
       generalize wd2.heap.size=gB at *
       refine tkA (v:=?_) 8 hH3 rfl ?_ ?_;rotate_left
       ·intro w hSw;(try dsimp only at hSw);go_simp;all_goals with_reducible rfl
       try simp only [tkS,Act.put]
       have z0:=objcell hOC (j:=0) rfl
       have z1:=objcell hOC (j:=1) rfl
       have f0:=objfrozen hOC (j:=0)
       have f1:=objfrozen hOC (j:=1)
       have hlc:gC < wd3.heap.size:=cell_lt z0
       refine wpAnyH_ready (rs:=[10]) (by kernel_rfl) (by simp) ?_
       refine AllReadyH.cons (o:=_) rfl (fun K hK=>?_) AllReadyH.nil
       go_simp
       obtain ⟨hd,hb6,hA2,hB2,z0,z1⟩:=fin16 (LT:=LT) (LO:=LO) hH3 hgeC (by omega) hOA hOB hOC
       go_wp2_with fail
       refine hK.out _ _ ?_ (fun hHz=>?_)
       ·exact hb6
       try simp only [tkS,Act.put]
       clear hK K
       generalize ((wd3.setCell ⟨gC,0,none⟩ (.slice (some ⟨gA,0,none⟩) LT LT)).setCell ⟨gC,1,none⟩ (.slice (some ⟨gB,0,none⟩) LO LO))=w6 at *
       refine wpAnyH_done (by kernel_rfl) ?_ _
       go_wp2_with fail
       go_meet
       case rel=>exact ⟨gA,gB,gC,rfl,Lib.hid ⟨hgeA,hgeB,hgeC,hd⟩,Lib.hid hA2,Lib.hid hB2,Lib.hid z0,Lib.hid z1,Lib.hid hb6⟩
     ·go_simp
      have hbB:Below wr.heap.size wr (wd0.alloc (.cells (Array.replicate LO (Value.string ByteArray.empty)) 9)):=hH0.alloc hH0.size _
      have hOB:=World.alloc_heap_new wd0 (.cells (Array.replicate LO (Value.string ByteArray.empty)) 9)
      have hgeB:wr.heap.size≤wd0.heap.size:=hH0.size
      have hltB:wd0.heap.size < (wd0.alloc (.cells (Array.replicate LO (Value.string ByteArray.empty)) 9)).heap.size:=by simp
      have hbq:Below wd0.heap.size wd0 (wd0.alloc (.cells (Array.replicate LO (Value.string ByteArray.empty)) 9)):=(Below.refl _ _).alloc (Nat.le_refl _) _
      go_wp2_with fail
      refine hK.out _ _ ?_ (fun hH1=>?_)
      ·exact hbB
      try simp only [tkS,Act.put]
      clear hK K hbq
      generalize (wd0.alloc (.cells (Array.replicate LO (Value.string ByteArray.empty)) 9))=wd1 at *
      generalize wd0.heap.size=gB at *
      refine wpAnyH_ready (rs:=[3,9]) (by kernel_rfl) (by simp) ?_
      refine AllReadyH.cons (o:=_) rfl (fun K hK=>?_) (AllReadyH.cons (o:=_) rfl (fun K hK=>?_) AllReadyH.nil)
      ·go_simp
       have hbA:Below wr.heap.size wr (wd1.alloc (.cells (Array.replicate LT (Value.slice none 0 0)) 59)):=hH1.alloc hH1.size _
       have hOA:=World.alloc_heap_new wd1 (.cells (Array.replicate LT (Value.slice none 0 0)) 59)
       have hgeA:wr.heap.size≤wd1.heap.size:=hH1.size
       have hltA:wd1.heap.size < (wd1.alloc (.cells (Array.replicate LT (Value.slice none 0 0)) 59)).heap.size:=by simp
       have hbq:Below wd1.heap.size wd1 (wd1.alloc (.cells (Array.replicate LT (Value.slice none 0 0)) 59)):=(Below.refl _ _).alloc (Nat.le_refl _) _
       have hOB:=below_blk hbq hOB
       go_wp2_with fail
       refine hK.out _ _ ?_ (fun hH2=>?_)
       ·exact hbA
       try simp only [tkS,Act.put]
       clear hK K hbq
       generalize (wd1.alloc (.cells (Array.replicate LT (Value.slice none 0 0)) 59))=wd2 at *
       generalize wd1.heap.size=gA at *
       refine tkA (v:=?_) 8 hH2 rfl ?_ ?_;rotate_left
       ·intro w hSw;(try dsimp only at hSw);go_simp;all_goals with_reducible rfl
       try simp only [tkS,Act.put]
       refine wpAnyH_ready (rs:=[9]) (by kernel_rfl) (by simp) ?_
       refine AllReadyH.cons (o:=_) rfl (fun K hK=>?_) AllReadyH.nil
       go_simp
       have hbC:Below wr.heap.size wr (wd2.alloc (.cells #[.slice none 0 0,.slice none 0 0] 43)):=hH2.alloc hH2.size _
       have hOC:=World.alloc_heap_new wd2 (.cells #[.slice none 0 0,.slice none 0 0] 43)
       have hgeC:wr.heap.size≤wd2.heap.size:=hH2.size
       have hltC:wd2.heap.size < (wd2.alloc (.cells #[.slice none 0 0,.slice none 0 0] 43)).heap.size:=by simp
       have hbq:Below wd2.heap.size wd2 (wd2.alloc (.cells #[.slice none 0 0,.slice none 0 0] 43)):=(Below.refl _ _).alloc (Nat.le_refl _) _
       have hOB:=below_blk hbq hOB
       have hOA:=below_blk hbq hOA
       go_wp2_with fail
       refine hK.out _ _ ?_ (fun hH3=>?_)
       ·exact hbC
       try simp only [tkS,Act.put]
       clear hK K hbq
       generalize (wd2.alloc (.cells #[.slice none 0 0,.slice none 0 0] 43))=wd3 at *
       generalize wd2.heap.size=gC at *
       have z0:=objcell hOC (j:=0) rfl
       have z1:=objcell hOC (j:=1) rfl
       have f0:=objfrozen hOC (j:=0)
       have f1:=objfrozen hOC (j:=1)
       have hlc:gC < wd3.heap.size:=cell_lt z0
       refine wpAnyH_ready (rs:=[10]) (by kernel_rfl) (by simp) ?_
       refine AllReadyH.cons (o:=_) rfl (fun K hK=>?_) AllReadyH.nil
       go_simp
       obtain ⟨hd,hb6,hA2,hB2,z0,z1⟩:=fin16 (LT:=LT) (LO:=LO) hH3 hgeC (by omega) hOA hOB hOC
       go_wp2_with fail
       refine hK.out _ _ ?_ (fun hHz=>?_)
       ·exact hb6
       try simp only [tkS,Act.put]
       clear hK K
       generalize ((wd3.setCell ⟨gC,0,none⟩ (.slice (some ⟨gA,0,none⟩) LT LT)).setCell ⟨gC,1,none⟩ (.slice (some ⟨gB,0,none⟩) LO LO))=w6 at *
       refine wpAnyH_done (by kernel_rfl) ?_ _
       go_wp2_with fail
       go_meet
       case rel=>exact ⟨gA,gB,gC,rfl,Lib.hid ⟨hgeA,hgeB,hgeC,hd⟩,Lib.hid hA2,Lib.hid hB2,Lib.hid z0,Lib.hid z1,Lib.hid hb6⟩
      ·go_simp
       have hbC:Below wr.heap.size wr (wd1.alloc (.cells #[.slice none 0 0,.slice none 0 0] 43)):=hH1.alloc hH1.size _
       have hOC:=World.alloc_heap_new wd1 (.cells #[.slice none 0 0,.slice none 0 0] 43)
       have hgeC:wr.heap.size≤wd1.heap.size:=hH1.size
       have hltC:wd1.heap.size < (wd1.alloc (.cells #[.slice none 0 0,.slice none 0 0] 43)).heap.size:=by simp
       have hbq:Below wd1.heap.size wd1 (wd1.alloc (.cells #[.slice none 0 0,.slice none 0 0] 43)):=(Below.refl _ _).alloc (Nat.le_refl _) _
       have hOB:=below_blk hbq hOB
       go_wp2_with fail
       refine hK.out _ _ ?_ (fun hH2=>?_)
       ·exact hbC
       try simp only [tkS,Act.put]
       clear hK K hbq
       generalize (wd1.alloc (.cells #[.slice none 0 0,.slice none 0 0] 43))=wd2 at *
       generalize wd1.heap.size=gC at *
       refine wpAnyH_ready (rs:=[3]) (by kernel_rfl) (by simp) ?_
       refine AllReadyH.cons (o:=_) rfl (fun K hK=>?_) AllReadyH.nil
       go_simp
       have hbA:Below wr.heap.size wr (wd2.alloc (.cells (Array.replicate LT (Value.slice none 0 0)) 59)):=hH2.alloc hH2.size _
       have hOA:=World.alloc_heap_new wd2 (.cells (Array.replicate LT (Value.slice none 0 0)) 59)
       have hgeA:wr.heap.size≤wd2.heap.size:=hH2.size
       have hltA:wd2.heap.size < (wd2.alloc (.cells (Array.replicate LT (Value.slice none 0 0)) 59)).heap.size:=by simp
       have hbq:Below wd2.heap.size wd2 (wd2.alloc (.cells (Array.replicate LT (Value.slice none 0 0)) 59)):=(Below.refl _ _).alloc (Nat.le_refl _) _
       have hOB:=below_blk hbq hOB
       have hOC:=below_blk hbq hOC
       go_wp2_with fail
       refine hK.out _ _ ?_ (fun hH3=>?_)
       ·exact hbA
       try simp only [tkS,Act.put]
       clear hK K hbq
       generalize (wd2.alloc (.cells (Array.replicate LT (Value.slice none 0 0)) 59))=wd3 at *
       generalize wd2.heap.size=gA at *
       refine tkA (v:=?_) 8 hH3 rfl ?_ ?_;rotate_left
       ·intro w hSw;(try dsimp only at hSw);go_simp;all_goals with_reducible rfl
       try simp only [tkS,Act.put]
       have z0:=objcell hOC (j:=0) rfl
       have z1:=objcell hOC (j:=1) rfl
       have f0:=objfrozen hOC (j:=0)
       have f1:=objfrozen hOC (j:=1)
       have hlc:gC < wd3.heap.size:=cell_lt z0
       refine wpAnyH_ready (rs:=[10]) (by kernel_rfl) (by simp) ?_
       refine AllReadyH.cons (o:=_) rfl (fun K hK=>?_) AllReadyH.nil
       go_simp
       obtain ⟨hd,hb6,hA2,hB2,z0,z1⟩:=fin16 (LT:=LT) (LO:=LO) hH3 hgeC (by omega) hOA hOB hOC
       go_wp2_with fail
       refine hK.out _ _ ?_ (fun hHz=>?_)
       ·exact hb6
       try simp only [tkS,Act.put]
       clear hK K
       generalize ((wd3.setCell ⟨gC,0,none⟩ (.slice (some ⟨gA,0,none⟩) LT LT)).setCell ⟨gC,1,none⟩ (.slice (some ⟨gB,0,none⟩) LO LO))=w6 at *
       refine wpAnyH_done (by kernel_rfl) ?_ _
       go_wp2_with fail
       go_meet
       case rel=>exact ⟨gA,gB,gC,rfl,Lib.hid ⟨hgeA,hgeB,hgeC,hd⟩,Lib.hid hA2,Lib.hid hB2,Lib.hid z0,Lib.hid z1,Lib.hid hb6⟩
     ·go_simp
      have hbC:Below wr.heap.size wr (wd0.alloc (.cells #[.slice none 0 0,.slice none 0 0] 43)):=hH0.alloc hH0.size _
      have hOC:=World.alloc_heap_new wd0 (.cells #[.slice none 0 0,.slice none 0 0] 43)
      have hgeC:wr.heap.size≤wd0.heap.size:=hH0.size
      have hltC:wd0.heap.size < (wd0.alloc (.cells #[.slice none 0 0,.slice none 0 0] 43)).heap.size:=by simp
      have hbq:Below wd0.heap.size wd0 (wd0.alloc (.cells #[.slice none 0 0,.slice none 0 0] 43)):=(Below.refl _ _).alloc (Nat.le_refl _) _
      go_wp2_with fail
      refine hK.out _ _ ?_ (fun hH1=>?_)
      ·exact hbC
      try simp only [tkS,Act.put]
      clear hK K hbq
      generalize (wd0.alloc (.cells #[.slice none 0 0,.slice none 0 0] 43))=wd1 at *
      generalize wd0.heap.size=gC at *
      refine wpAnyH_ready (rs:=[3,7]) (by kernel_rfl) (by simp) ?_
      refine AllReadyH.cons (o:=_) rfl (fun K hK=>?_) (AllReadyH.cons (o:=_) rfl (fun K hK=>?_) AllReadyH.nil)
      ·go_simp
       have hbA:Below wr.heap.size wr (wd1.alloc (.cells (Array.replicate LT (Value.slice none 0 0)) 59)):=hH1.alloc hH1.size _
       have hOA:=World.alloc_heap_new wd1 (.cells (Array.replicate LT (Value.slice none 0 0)) 59)
       have hgeA:wr.heap.size≤wd1.heap.size:=hH1.size
       have hltA:wd1.heap.size < (wd1.alloc (.cells (Array.replicate LT (Value.slice none 0 0)) 59)).heap.size:=by simp
       have hbq:Below wd1.heap.size wd1 (wd1.alloc (.cells (Array.replicate LT (Value.slice none 0 0)) 59)):=(Below.refl _ _).alloc (Nat.le_refl _) _
       have hOC:=below_blk hbq hOC
       go_wp2_with fail
       refine hK.out _ _ ?_ (fun hH2=>?_)
       ·exact hbA
       try simp only [tkS,Act.put]
       clear hK K hbq
       generalize (wd1.alloc (.cells (Array.replicate LT (Value.slice none 0 0)) 59))=wd2 at *
       generalize wd1.heap.size=gA at *
       refine wpAnyH_ready (rs:=[7]) (by kernel_rfl) (by simp) ?_
       refine AllReadyH.cons (o:=_) rfl (fun K hK=>?_) AllReadyH.nil
       go_simp
       have hbB:Below wr.heap.size wr (wd2.alloc (.cells (Array.replicate LO (Value.string ByteArray.empty)) 9)):=hH2.alloc hH2.size _
       have hOB:=World.alloc_heap_new wd2 (.cells (Array.replicate LO (Value.string ByteArray.empty)) 9)
       have hgeB:wr.heap.size≤wd2.heap.size:=hH2.size
       have hltB:wd2.heap.size < (wd2.alloc (.cells (Array.replicate LO (Value.string ByteArray.empty)) 9)).heap.size:=by simp
       have hbq:Below wd2.heap.size wd2 (wd2.alloc (.cells (Array.replicate LO (Value.string ByteArray.empty)) 9)):=(Below.refl _ _).alloc (Nat.le_refl _) _
       have hOC:=below_blk hbq hOC
       have hOA:=below_blk hbq hOA
       go_wp2_with fail
       refine hK.out _ _ ?_ (fun hH3=>?_)
       ·exact hbB
       try simp only [tkS,Act.put]
       clear hK K hbq
       generalize (wd2.alloc (.cells (Array.replicate LO (Value.string ByteArray.empty)) 9))=wd3 at *
       generalize wd2.heap.size=gB at *
       refine tkA (v:=?_) 8 hH3 rfl ?_ ?_;rotate_left
       ·intro w hSw;(try dsimp only at hSw);go_simp;all_goals with_reducible rfl
       try simp only [tkS,Act.put]
       have z0:=objcell hOC (j:=0) rfl
       have z1:=objcell hOC (j:=1) rfl
       have f0:=objfrozen hOC (j:=0)
       have f1:=objfrozen hOC (j:=1)
       have hlc:gC < wd3.heap.size:=cell_lt z0
       refine wpAnyH_ready (rs:=[10]) (by kernel_rfl) (by simp) ?_
       refine AllReadyH.cons (o:=_) rfl (fun K hK=>?_) AllReadyH.nil
       go_simp
       obtain ⟨hd,hb6,hA2,hB2,z0,z1⟩:=fin16 (LT:=LT) (LO:=LO) hH3 hgeC (by omega) hOA hOB hOC
       go_wp2_with fail
       refine hK.out _ _ ?_ (fun hHz=>?_)
       ·exact hb6
       try simp only [tkS,Act.put]
       clear hK K
       generalize ((wd3.setCell ⟨gC,0,none⟩ (.slice (some ⟨gA,0,none⟩) LT LT)).setCell ⟨gC,1,none⟩ (.slice (some ⟨gB,0,none⟩) LO LO))=w6 at *
       refine wpAnyH_done (by kernel_rfl) ?_ _
       go_wp2_with fail
       go_meet
       case rel=>exact ⟨gA,gB,gC,rfl,Lib.hid ⟨hgeA,hgeB,hgeC,hd⟩,Lib.hid hA2,Lib.hid hB2,Lib.hid z0,Lib.hid z1,Lib.hid hb6⟩
      ·go_simp
       have hbB:Below wr.heap.size wr (wd1.alloc (.cells (Array.replicate LO (Value.string ByteArray.empty)) 9)):=hH1.alloc hH1.size _
       have hOB:=World.alloc_heap_new wd1 (.cells (Array.replicate LO (Value.string ByteArray.empty)) 9)
       have hgeB:wr.heap.size≤wd1.heap.size:=hH1.size
       have hltB:wd1.heap.size < (wd1.alloc (.cells (Array.replicate LO (Value.string ByteArray.empty)) 9)).heap.size:=by simp
       have hbq:Below wd1.heap.size wd1 (wd1.alloc (.cells (Array.replicate LO (Value.string ByteArray.empty)) 9)):=(Below.refl _ _).alloc (Nat.le_refl _) _
       have hOC:=below_blk hbq hOC
       go_wp2_with fail
       refine hK.out _ _ ?_ (fun hH2=>?_)
       ·exact hbB
       try simp only [tkS,Act.put]
       clear hK K hbq
       generalize (wd1.alloc (.cells (Array.replicate LO (Value.string ByteArray.empty)) 9))=wd2 at *
       generalize wd1.heap.size=gB at *
       refine wpAnyH_ready (rs:=[3]) (by kernel_rfl) (by simp) ?_
       refine AllReadyH.cons (o:=_) rfl (fun K hK=>?_) AllReadyH.nil
       go_simp
       have hbA:Below wr.heap.size wr (wd2.alloc (.cells (Array.replicate LT (Value.slice none 0 0)) 59)):=hH2.alloc hH2.size _
       have hOA:=World.alloc_heap_new wd2 (.cells (Array.replicate LT (Value.slice none 0 0)) 59)
       have hgeA:wr.heap.size≤wd2.heap.size:=hH2.size
       have hltA:wd2.heap.size < (wd2.alloc (.cells (Array.replicate LT (Value.slice none 0 0)) 59)).heap.size:=by simp
       have hbq:Below wd2.heap.size wd2 (wd2.alloc (.cells (Array.replicate LT (Value.slice none 0 0)) 59)):=(Below.refl _ _).alloc (Nat.le_refl _) _
       have hOC:=below_blk hbq hOC
       have hOB:=below_blk hbq hOB
       go_wp2_with fail
       refine hK.out _ _ ?_ (fun hH3=>?_)
       ·exact hbA
       try simp only [tkS,Act.put]
       clear hK K hbq
       generalize (wd2.alloc (.cells (Array.replicate LT (Value.slice none 0 0)) 59))=wd3 at *
       generalize wd2.heap.size=gA at *
       refine tkA (v:=?_) 8 hH3 rfl ?_ ?_;rotate_left
       ·intro w hSw;(try dsimp only at hSw);go_simp;all_goals with_reducible rfl
       try simp only [tkS,Act.put]
       have z0:=objcell hOC (j:=0) rfl
       have z1:=objcell hOC (j:=1) rfl
       have f0:=objfrozen hOC (j:=0)
       have f1:=objfrozen hOC (j:=1)
       have hlc:gC < wd3.heap.size:=cell_lt z0
       refine wpAnyH_ready (rs:=[10]) (by kernel_rfl) (by simp) ?_
       refine AllReadyH.cons (o:=_) rfl (fun K hK=>?_) AllReadyH.nil
       go_simp
       obtain ⟨hd,hb6,hA2,hB2,z0,z1⟩:=fin16 (LT:=LT) (LO:=LO) hH3 hgeC (by omega) hOA hOB hOC
       go_wp2_with fail
       refine hK.out _ _ ?_ (fun hHz=>?_)
       ·exact hb6
       try simp only [tkS,Act.put]
       clear hK K
       generalize ((wd3.setCell ⟨gC,0,none⟩ (.slice (some ⟨gA,0,none⟩) LT LT)).setCell ⟨gC,1,none⟩ (.slice (some ⟨gB,0,none⟩) LO LO))=w6 at *
       refine wpAnyH_done (by kernel_rfl) ?_ _
       go_wp2_with fail
       go_meet
       case rel=>exact ⟨gA,gB,gC,rfl,Lib.hid ⟨hgeA,hgeB,hgeC,hd⟩,Lib.hid hA2,Lib.hid hB2,Lib.hid z0,Lib.hid z1,Lib.hid hb6⟩
    case rest =>
     obtain ⟨gA,gB,gC,rfl,HG5,HA,HBB,HC0,HC1,HB5⟩:=hcut
     obtain ⟨hgA,hgB,hgC,hAC,hBC,hAB⟩:=HG5.out
     have e0:=kept HB5.out e0
     have y0:=kept HB5.out y0
     have z0:=HC0.out
     have cA:=objcell HA.out (j:=k) (v:=.slice none 0 0) (by rw [Array.getElem?_replicate,if_pos hki])
     have fA:=objfrozen HA.out (j:=k)
     have hgA2:gA < wc.heap.size:=cell_lt cA
     have hgC2:gC < wc.heap.size:=cell_lt z0
     have hgr2:g < wc.heap.size:=cell_lt e0
     have hbr2:b2 < wc.heap.size:=cell_lt y0
     clear hmkA hmkB
     go_wp2_with fail
     refine wp_region_held_drew (S:=(fun w':World=>w'.cell? ⟨gC,0,none⟩=some (.slice (some ⟨gA,0,none⟩) LT LT)∧w'.cell? ⟨g,0,none⟩=some (.slice (some ⟨b2,oy,none⟩) LT c4)∧w'.cell? ⟨b2,oy+k,none⟩=some (.slice ay LY cy))) (by kernel_rfl) (by exact ⟨z0,e0,y0⟩) (fun hH0=>?_)
     refine tkA (v:=?_) 0 hH0 rfl ?_ ?_;rotate_left
     ·intro w hSw;(try dsimp only at hSw);go_simp;all_goals with_reducible rfl
     try simp only [tkS,Act.put]
     refine tkA (v:=?_) 1 hH0 rfl ?_ ?_;rotate_left
     ·intro w hSw;(try dsimp only at hSw);go_simp;all_goals with_reducible rfl
     try simp only [tkS,Act.put]
     refine tkA (v:=?_) 2 hH0 rfl ?_ ?_;rotate_left
     ·intro w hSw;(try dsimp only at hSw);go_simp;all_goals with_reducible rfl
     try simp only [tkS,Act.put]
     refine tkA (v:=?_) 3 hH0 rfl ?_ ?_;rotate_left
     ·intro w hSw;(try dsimp only at hSw);go_simp;all_goals with_reducible rfl
     try simp only [tkS,Act.put]
     refine tkA (v:=?_) 4 hH0 rfl ?_ ?_;rotate_left
     ·intro w hSw;(try dsimp only at hSw);go_simp;all_goals with_reducible rfl
     try simp only [tkS,Act.put]
     refine tkA (v:=?_) 5 hH0 rfl ?_ ?_;rotate_left
     ·intro w hSw;(try dsimp only at hSw);go_simp;all_goals with_reducible rfl
     try simp only [tkS,Act.put]
     refine tkA (v:=?_) 6 hH0 rfl ?_ ?_;rotate_left
     ·intro w hSw;(try dsimp only at hSw);go_simp;all_goals with_reducible rfl
     try simp only [tkS,Act.put]
     refine tkA (v:=?_) 7 hH0 rfl ?_ ?_;rotate_left
     ·intro w hSw;(try dsimp only at hSw);go_simp;all_goals with_reducible rfl
     try simp only [tkS,Act.put]
     refine tkA (v:=?_) 8 hH0 rfl ?_ ?_;rotate_left
     ·intro w hSw;(try dsimp only at hSw);go_simp;all_goals with_reducible rfl
     try simp only [tkS,Act.put]
     refine wpAnyH_ready (rs:=[9]) (by kernel_rfl) (by simp) ?_
     refine AllReadyH.cons (o:=_) rfl (fun K hK=>?_) AllReadyH.nil
     go_simp
     have hWA:(wc.setCell ⟨gA,k,none⟩ (.slice ay LY cy)).drew.heap[gA]?=some (.cells ((Array.replicate LT (Value.slice none 0 0)).setIfInBounds k (.slice ay LY cy)) 59 (0,0)):=setCell_obj wc gA k (.slice ay LY cy) HA.out
     have hWB:(wc.setCell ⟨gA,k,none⟩ (.slice ay LY cy)).drew.heap[gB]?=some (.cells (Array.replicate LO (Value.string ByteArray.empty)) 9 (0,0)):=by show (wc.setCell ⟨gA,k,none⟩ (.slice ay LY cy)).heap[gB]?=_;rw [blk_set_other _ _ _ _ (by exact Ne.symm hAB)];exact HBB.out
     have hz0:(wc.setCell ⟨gA,k,none⟩ (.slice ay LY cy)).drew.cell? ⟨gC,0,none⟩=some (.slice (some ⟨gA,0,none⟩) LT LT):=by show (wc.setCell ⟨gA,k,none⟩ (.slice ay LY cy)).cell? _=_;rw [World.cell?_setCell_far _ _ _ _ (by exact hAC)];exact HC0.out
     have hz1:(wc.setCell ⟨gA,k,none⟩ (.slice ay LY cy)).drew.cell? ⟨gC,1,none⟩=some (.slice (some ⟨gB,0,none⟩) LO LO):=by show (wc.setCell ⟨gA,k,none⟩ (.slice ay LY cy)).cell? _=_;rw [World.cell?_setCell_far _ _ _ _ (by exact hAC)];exact HC1.out
     have hbz:Below wr.heap.size wr (wc.setCell ⟨gA,k,none⟩ (.slice ay LY cy)).drew:=(HB5.out.setCell (by exact hgA) _).drew
     go_wp2_with fail
     refine hK.out _ _ ?_ (fun hH1=>?_)
     ·exact ⟨hz0,(by show (wc.setCell ⟨gA,k,none⟩ (.slice ay LY cy)).cell? _=_;rw [World.cell?_setCell_far _ _ _ _ (by show gA≠g;omega)];exact e0),(by show (wc.setCell ⟨gA,k,none⟩ (.slice ay LY cy)).cell? _=_;rw [World.cell?_setCell_far _ _ _ _ (by show gA≠b2;omega)];exact y0)⟩
     try simp only [tkS,Act.put]
     clear hK K
     refine wpAnyH_done (by kernel_rfl) ?_ _
     generalize (wc.setCell ⟨gA,k,none⟩ (.slice ay LY cy)).drew=wz at *
     have HB7:Hid (Below w7.heap.size w7 wz):=Lib.hid (HB.out.trans (hbz.mono HB.out.size))
     have HBW8:Hid (Below w.heap.size w wz):=Lib.hid (HBW7.out.trans (HB7.out.mono HBW7.out.size))
     have hzt:=only_row (w:=wz) HYA.out HLT.out HLY.out (by simp only [maxLen];omega) hWA (HYI2.out.mono (HB.out.trans (hbz.mono HB.out.size)))
     have hzs:=zero_strs (w:=wz) (n:=LO) (by simp only [maxLen];omega) hWB
     have HZ:=Lib.hid (choice_mk hzt hzs)
     have HROW:=Lib.hid (HO.out.below hbz)
     have d0:=kept HB7.out D0.out
     have d1:=kept HB7.out D1.out
     have d2:=kept HB7.out D2.out
     have d3:=kept HB7.out D3.out
     have hs8:w.heap.size < wz.heap.size:=cell_lt d0
     have hgC3:gC < wz.heap.size:=cell_lt hz0
     have hsz:w7.heap.size≤wz.heap.size:=HB7.out.size
     have hon:dutiesC c x ⟨onlyT y.terms k,List.replicate LO ByteArray.empty⟩=(onceD [] (duesF c x x (onlyT y.terms k)),0):=by rw [← HLO.out];exact HON.out k
     have hot:∀ t∈onlyT y.terms k,t.length≤64:=fun t ht=>by
      rcases only_mem ht with h1 | h1
      ·rw [h1];simp
      ·exact HAL.out t h1
     have hcall:=Of_is wz _ _ _ c x ⟨onlyT y.terms k,List.replicate LO ByteArray.empty⟩ (HG.out.mono HBW8.out) (HC.out.mono HBW8.out) (HX.out.mono HBW8.out) HZ.out HFW.out hot
     unfold DI at hcall
     rw [hon] at hcall
     simp only at hcall
     have hlk:=few_dues HFW.out hot
     have hlk2:=once_len (duesF c x x (onlyT y.terms k)) []
     simp only [List.length_nil] at hlk2
     have HST:=Lib.hid (all_step (c:=c) (x:=x) (i:=k) HLC.out (by rw [HLT.out];exact hki))
     generalize onceD [] (duesF c x x (onlyT y.terms k))=lk at *
     have hlk3:lk.length≤200000000000:=by omega
     generalize hLK:lk.length=LK at *
     have HLK:=Lib.hid hLK
     have hov:∀ q,(Value.slice av1 LA av2).ownBlock=some q→q < wz.heap.size:=fun q hq=>by
      rcases HROW.out.1.2 with ⟨he,-⟩ | ⟨g9,cap9,cur9,he,h1,h2,-⟩
      ·rw [he] at hq;cases hq
      ·rw [he] at hq;cases hq
       exact heap_lt h2
     have HOV:=Lib.hid hov
     clear hov hlk hlk2 hon hot hzt hzs hWA hWB hbz hH0 hH1 cA fA z0 e0 y0 hLK HA HBB HC0 HC1 HB5 HG5 HO hgr hbr hgr2 hbr2 hgA2 hgC2 e1 HON
     go_wp2_with fail
     refine hcall.mono ?_
     rintro e w9 ⟨a8,c8,rfl,hrd9,hb9⟩
     clear hcall
     have HRD:=Lib.hid hrd9
     have HROW9:=Lib.hid (HROW.out.below hb9)
     have HB9:Hid (Below w7.heap.size w7 w9):=Lib.hid (HB7.out.trans (hb9.mono HB7.out.size))
     have hz9:wz.heap.size≤w9.heap.size:=hb9.size
     obtain ⟨a8',c8',he8,hn8,hm8,hr8⟩:=list_inv hrd9.is
     rw [HLK.out] at he8
     cases he8
     clear hb9 hrd9 d0 d1 d2 d3 hs8 hz0 hz1 HZ hr8 hn8 hm8 hgC3
     go_wp2_with fail
     go_loopw [12,95] (fun bv jv wr=>∃ j:Nat,j≤LK∧jv=.int .i64 j∧Hid (RowD w7.heap.size wr bv (onceD (allD c x y.terms k) (lk.take j)))∧Hid (∀ q,bv.ownBlock=some q→q < wz.heap.size∨w9.heap.size≤q)∧Hid (∀ q,wz.heap.size≤q→q < w9.heap.size→wr.heap[q]?=w9.heap[q]?)∧Hid (w9.heap.size≤wr.heap.size)∧Hid (Below w7.heap.size w7 wr)) (fun _ jv _=>LK - (intOf jv).toNat)
     case atStart=>exact ⟨0,by omega,rfl,Lib.hid (by show RowD _ _ _ _;rw [List.take_zero];exact HROW9.out),Lib.hid (fun q hq=>.inl (HOV.out q hq)),Lib.hid (fun q _ _=>rfl),Lib.hid (Nat.le_refl _),HB9⟩
     case round =>
      obtain ⟨j,hj,rfl,HR0,HOB,HKP,HSZ,HBr⟩:=hrel
      obtain ⟨bv1,bv2,hbv⟩:=HR0.out.shape
      subst hbv
      have hsz9:=HSZ.out
      by_cases hji:j < LK
      ·have hjz:(j:Int) < (LK:Int):=by omega
       have hj0:(0:Int)≤(j:Int):=by omega
       obtain ⟨d,hd⟩:=get_lt (xs:=lk) (k:=j) (by rw [HLK.out];exact hji)
       have HSTEP:=Lib.hid (once_step (out:=allD c x y.terms k) hd)
       have hrdr:=HRD.out.keep (fun q h1 h2 _=>HKP.out q h1 h2)
       have HKD:=Lib.hid (HRD.out.2 d (List.mem_of_getElem? hd))
       obtain ⟨a9,c9,he9,-,-,hrr⟩:=list_inv hrdr.is
       rw [HLK.out] at he9
       cases he9
       have hlen:=once_len (lk.take j) (allD c x y.terms k)
       have hlen2:(lk.take j).length≤LK:=by rw [List.length_take,HLK.out];omega
       have hlen3:=all_len c x y.terms k
       have hlen4:=HDB.out
       obtain ⟨o1,m1,⟨t1,s1⟩,p1,r1,v1⟩:=d
       obtain ⟨b,off,rfl,hb,u0,u1,u2,u3,u4,u5,u6,hkd⟩:=Due.at_row hrr hd
       have hbs:=cell_lt u0
       have hba:Below wr.heap.size wr (wr.alloc (.cells #[.string o1,.string m1,.string t1,.string s1,.int .i64 p1,.int .i64 r1,.int .i64 v1] 63)):=(Below.refl _ _).alloc (Nat.le_refl _) _
       obtain ⟨q0,q1,q2,q3,q4,q5,q6⟩:(wr.alloc (.cells #[.string o1,.string m1,.string t1,.string s1,.int .i64 p1,.int .i64 r1,.int .i64 v1] 63)).cell? ⟨wr.heap.size,0,none⟩=some (.string o1)∧(wr.alloc (.cells #[.string o1,.string m1,.string t1,.string s1,.int .i64 p1,.int .i64 r1,.int .i64 v1] 63)).cell? ⟨wr.heap.size,1,none⟩=some (.string m1)∧(wr.alloc (.cells #[.string o1,.string m1,.string t1,.string s1,.int .i64 p1,.int .i64 r1,.int .i64 v1] 63)).cell? ⟨wr.heap.size,2,none⟩=some (.string t1)∧(wr.alloc (.cells #[.string o1,.string m1,.string t1,.string s1,.int .i64 p1,.int .i64 r1,.int .i64 v1] 63)).cell? ⟨wr.heap.size,3,none⟩=some (.string s1)∧(wr.alloc (.cells #[.string o1,.string m1,.string t1,.string s1,.int .i64 p1,.int .i64 r1,.int .i64 v1] 63)).cell? ⟨wr.heap.size,4,none⟩=some (.int .i64 p1)∧(wr.alloc (.cells #[.string o1,.string m1,.string t1,.string s1,.int .i64 p1,.int .i64 r1,.int .i64 v1] 63)).cell? ⟨wr.heap.size,5,none⟩=some (.int .i64 r1)∧(wr.alloc (.cells #[.string o1,.string m1,.string t1,.string s1,.int .i64 p1,.int .i64 r1,.int .i64 v1] 63)).cell? ⟨wr.heap.size,6,none⟩=some (.int .i64 v1):=by
        refine ⟨?_,?_,?_,?_,?_,?_,?_⟩ <;> simp
       have hcall:=ContainsDue_p (wr.alloc (.cells #[.string o1,.string m1,.string t1,.string s1,.int .i64 p1,.int .i64 r1,.int .i64 v1] 63)) _ (onceD (allD c x y.terms k) (lk.take j)) ⟨o1,m1,⟨t1,s1⟩,p1,r1,v1⟩ (HR0.out.below hba).is HKD.out
       have hbl:(onceD (allD c x y.terms k) (lk.take j)).length≤400000000000:=by omega
       generalize hLB:(onceD (allD c x y.terms k) (lk.take j)).length=LB at *
       have HLB:=Lib.hid hLB
       have HOKS:=Lib.hid HR0.out.2
       have HBA:=Lib.hid hba
       clear hd hrdr hrr hlen hlen2 hlen3 hlen4 hkd hLB hba hb
       by_cases hin:(⟨o1,m1,⟨t1,s1⟩,p1,r1,v1⟩:Due)∈onceD (allD c x y.terms k) (lk.take j)
       ·rw [decide_eq_true hin] at hcall
        have HS2:Hid (onceD (allD c x y.terms k) (lk.take (j+1))=onceD (allD c x y.terms k) (lk.take j)):=by show _=_;rw [HSTEP.out,if_pos hin]
        clear hin HSTEP
        go_wp2_with fail
        refine hcall.mono ?_
        rintro e w11 ⟨rfl,hb11⟩
        have HQ:=Lib.hid (HBA.out.trans (hb11.mono HBA.out.size))
        clear hcall hb11 q0 q1 q2 q3 q4 q5 q6 u0 u1 u2 u3 u4 u5 u6
        go_wp2
        go_roundw
        case rel=>exact ⟨j+1,by omega,by go_num,Lib.hid (by show RowD _ _ _ _;rw [HS2.out];exact HR0.out.below HQ.out),HOB,Lib.hid (fun q h1 h2=>(HQ.out.block q (by omega)).trans (HKP.out q h1 h2)),Lib.hid (Nat.le_trans HSZ.out HQ.out.size),Lib.hid (HBr.out.trans (HQ.out.mono HBr.out.size))⟩
        case measure=>simp [intOf];omega
       ·rw [decide_eq_false hin] at hcall
        have HS2:Hid (onceD (allD c x y.terms k) (lk.take (j+1))=onceD (allD c x y.terms k) (lk.take j)++[⟨o1,m1,⟨t1,s1⟩,p1,r1,v1⟩]):=by show _=_;rw [HSTEP.out,if_neg hin]
        clear hin HSTEP
        go_wp2_with fail
        refine hcall.mono ?_
        rintro e w11 ⟨rfl,hb11⟩
        have q0:=kept hb11 q0
        have q1:=kept hb11 q1
        have q2:=kept hb11 q2
        have q3:=kept hb11 q3
        have q4:=kept hb11 q4
        have q5:=kept hb11 q5
        have q6:=kept hb11 q6
        have HQ:=Lib.hid (HBA.out.trans (hb11.mono HBA.out.size))
        have hq11:wr.heap.size < w11.heap.size:=cell_lt q0
        have hsz7:=HBr.out.size
        have hown:=(HR0.out.below HQ.out).1
        rw [HLB.out] at hown
        have hca:Below w11.heap.size w11 (w11.alloc (.cells #[.string o1,.string m1,.string t1,.string s1,.int .i64 p1,.int .i64 r1,.int .i64 v1] 63)):=(Below.refl _ _).alloc (Nat.le_refl _) _
        have hro:=(((HR0.out.below HQ.out).below hca)).1
        rw [HLB.out] at hro
        have hnew:∀ (i:Nat) (u:Value),[Value.string o1,Value.string m1,Value.string t1,Value.string s1,Value.int .i64 p1,Value.int .i64 r1,Value.int .i64 v1][i]?=some u→(w11.alloc (.cells #[.string o1,.string m1,.string t1,.string s1,.int .i64 p1,.int .i64 r1,.int .i64 v1] 63)).cell? ((⟨w11.heap.size,0,none⟩:Addr).add i)=some u:=by
         intro i u hi
         rw [addr_add,Nat.zero_add]
         exact objcell (World.alloc_heap_new w11 (.cells #[.string o1,.string m1,.string t1,.string s1,.int .i64 p1,.int .i64 r1,.int .i64 v1] 63)) (by rw [List.getElem?_toArray];exact hi)
        have hc3:∀ u∈[Value.string o1,Value.string m1,Value.string t1,Value.string s1,Value.int .i64 p1,Value.int .i64 r1,Value.int .i64 v1],u.oneCell'=true:=by simp [Value.oneCell']
        have hc4:LB+1≤maxLen:=by simp only [maxLen];omega
        have hc5:w7.heap.size≤(w11.alloc (.cells #[.string o1,.string m1,.string t1,.string s1,.int .i64 p1,.int .i64 r1,.int .i64 v1] 63)).heap.size:=by simp;omega
        obtain ⟨i0,hi0,hz0,hz1,hz2⟩:=info_parts infoDue
        clear hcall hb11 u0 u1 u2 u3 u4 u5 u6
        go_wp2_with (at_builtin;go_loud (refine wpList_append_lies _ rfl _ _ 50 rfl w7.heap.size 63 i0 _ 7 88 Tryz.underlying50 hi0 hz0 hz1 hz2 rfl (by decide) (.slice bv1 LB bv2) LB _ rfl hro ⟨w11.heap.size,0,none⟩ 1 1 [Value.string o1,Value.string m1,Value.string t1,Value.string s1,Value.int .i64 p1,Value.int .i64 r1,Value.int .i64 v1] rfl rfl hnew hc3 (by decide) hc4 (by omega) hc5 _ rfl ?_))
        intro gN capN w12 hown2 hgrow hat hlt12
        have hrow2:RowD w7.heap.size w12 (.slice (some ⟨gN,0,none⟩) (LB+1) capN) (onceD (allD c x y.terms k) (lk.take j)++[⟨o1,m1,⟨t1,s1⟩,p1,r1,v1⟩]):=RowD.snoc (by rw [HLB.out];exact hown2) HOKS.out HKD.out
        have hbq:Below w7.heap.size w7 (w11.alloc (.cells #[.string o1,.string m1,.string t1,.string s1,.int .i64 p1,.int .i64 r1,.int .i64 v1] 63)):=(HBr.out.trans (HQ.out.mono HBr.out.size)).alloc (by omega) _
        have hown7:∀ q,(Value.slice bv1 LB bv2).ownBlock=some q→w7.heap.size≤q:=fun q hq=>by
         rcases hro.2 with ⟨he,-⟩ | ⟨g9,cap9,cur9,he,h1,h2,-⟩
         ·rw [he] at hq;cases hq
         ·rw [he] at hq;cases hq;exact h1
        have HB12:=Lib.hid (hbq.grown hgrow hc5 hown7)
        have HK12:Hid (∀ q,wz.heap.size≤q→q < w9.heap.size→w12.heap[q]?=w9.heap[q]?):=by
         show ∀ _,_→_→_
         intro q h1 h2
         rw [hgrow.block q (by simp;omega) (fun he=>by
          rcases HOB.out q he.symm with h3 | h3
          ·omega
          ·omega)]
         rw [hca.block q (by omega),HQ.out.block q (by omega)]
         exact HKP.out q h1 h2
        have HO12:Hid (∀ q,(Value.slice (some ⟨gN,0,none⟩) (LB+1) capN).ownBlock=some q→q < wz.heap.size∨w9.heap.size≤q):=by
         show ∀ _,_→_
         intro q hq
         cases hq
         rcases hat with h3 | h3
         ·exact HOB.out gN h3
         ·right;rw [h3];simp;omega
        have HS12:Hid (w9.heap.size≤w12.heap.size):=by
         have h1:=hgrow.size
         simp only [World.size_alloc] at h1
         show _≤_
         omega
        have HR12:=Lib.hid hrow2
        clear hown2 hgrow hat hrow2 hbq hown7 hnew hc3 hro hown hca q0 q1 q2 q3 q4 q5 q6
        go_wp2
        go_roundw
        case rel=>exact ⟨j+1,by omega,by go_num,Lib.hid (by show RowD _ _ _ _;rw [HS2.out];exact HR12.out),HO12,HK12,HS12,HB12⟩
        case measure=>simp [intOf];omega
      ·have hjz:¬ (j:Int) < (LK:Int):=by omega
       have HFIN:Hid (onceD (allD c x y.terms k) (lk.take j)=allD c x y.terms (k+1)):=by
        show _=_
        rw [List.take_of_length_le (by rw [HLK.out];omega)]
        exact HST.out
       have HRF:Hid (RowD w7.heap.size wr (.slice bv1 (onceD (allD c x y.terms k) (lk.take j)).length bv2) (allD c x y.terms (k+1))):=by
        show RowD _ _ _ _
        rw [← HFIN.out];exact HR0.out
       generalize (onceD (allD c x y.terms k) (lk.take j)).length=LB at *
       clear HFIN HR0 HKP HOB HST
       go_wp2
       go_roundw
       case rel=>exact ⟨k+1,by omega,by go_num,HRF,HBr⟩
       case measure=>simp [intOf];omega
   ·have hkz:¬ (k:Int) < (LT:Int):=by omega
    obtain rfl:k=LT:=by omega
    have HEND:Hid (allD c x y.terms k=l):=by
     show _=_
     rw [← HLD.out,← all_end HLC.out,HLT.out]
    have hcall:=EqualDue_p wr (.slice av1 (allD c x y.terms k).length av2) (.slice a6 LL c6) (allD c x y.terms k) l HO.out.is (HL7.out.mono HB.out)
    rw [decide_eq_true HEND.out] at hcall
    generalize (allD c x y.terms k).length=LA at *
    clear hmkA hmkB
    go_wp2_with fail
    refine hcall.mono ?_
    rintro e w12 ⟨rfl,hb12⟩
    have HBF:=Lib.hid (HBW.out.trans (hb12.mono HBW.out.size))
    clear hb12 hcall
    go_wp2
    go_ret
    exact ⟨rfl,HBF.out⟩
end Go.Proofs.YtcbopdbbcgdkcaaGreatDoor
