/- Lemmas. -/
import Derived.RangeFuncNested
import Derived.RangeFuncBound
import Derived.Shelf.RegionOpen
import Derived.OwnWalkIn
import Derived.LoopNIn
import Derived.LoopIn
import Derived.Test.YtcbopdbbcgdkcaaGreatDoorLCmpU
set_option linter.all false
set_option maxRecDepth 100000
set_option maxHeartbeats 16000000
namespace Go.Proofs.YtcbopdbbcgdkcaaGreatDoor
open Go Go.RowKit Go.ChangeShapes Go.Sort Go.Lib

theorem neqTerm (x y:Term) (w:World):(Go.binOp BinOp.neq 61 (.agg #[.string x.license,.string x.exception]) (.agg #[.string y.license,.string y.exception])).run Tryz.prog w=.ok (.bool (!decide (x=y))) w:=by
 have u3:=Tryz.underlying9;have a3:=Tryz.isAgg9;have z3:=Tryz.sizeOf9;have hS:Tryz.prog.underlying 61=some (.struct (Tryz.prog.fieldsOf 61)):=by kernel_rfl
 have hp:Tryz.prog.stoodInHeld 61=false:=by kernel_rfl
 rw [run_neq_struct,show (10000:Nat)=9999+1 from rfl,run_equalIn_agg w 9999 61 _ _ hS hp];simp only [Program.fieldsOf,Tryz.underlying61];go_simp;have e:decide (x=y)=((x.license.toList == y.license.toList) && (x.exception.toList == y.exception.toList)):=by
  rw [ba_eq,ba_eq,Bool.eq_iff_iff];cases x;cases y;simp
 rw [e];by_cases h1:x.license.toList=y.license.toList <;> by_cases h2:x.exception.toList=y.exception.toList <;> simp [h1,h2]
theorem EqualTerm_p (w:World) (v1 v2:Value) (xs ys:List Term) (h1:Is w v1 xs) (h2:Is w v2 ys) :
  Calls Tryz.prog 66 #[v1,v2] w fun e w'=>e=.returned (.bool (decide (xs=ys)))∧Below w.heap.size w w':=by
 obtain ⟨a,c,rfl,hnc,hcm,hr⟩:=list_inv h1;obtain ⟨a2,c2,rfl,hnd,hdm,hs⟩:=list_inv h2;simp only [maxLen] at hcm hdm;have HR:=zh hr;have HS:=zh hs;clear hr hs h1 h2;generalize hN:xs.length=N at *;have HN:=zh hN;clear hN;generalize hM:ys.length=M at *;have HM:=zh hM;clear hM;by_cases hne:N=M
 ·subst hne;go_enter Tryz.func66,Tryz.ntmps66;go_wp2;go_loopw [13] (fun kv wr=>∃ k:Nat,k≤N∧kv=.int .i64 k∧(∃ n,wr=w.drewN n)∧Hid (decide (xs=ys)=decide (xs.drop k=ys.drop k))) (fun kv _=>N - (intOf kv).toNat)
  case atStart=>exact ⟨0,by omega,rfl,⟨0,rfl⟩,rfl⟩
  case round =>
   obtain ⟨k,hk,rfl,⟨n,rfl⟩,hf⟩:=hrel;by_cases hki:k < N
   ·have hkz:(k:Int) < (N:Int):=by omega
    have hk0:(0:Int)≤(k:Int):=by omega
    obtain ⟨x,hx⟩:=get_lt (xs:=xs) (k:=k) (by rw [HN.out];exact hki);obtain ⟨y,hy⟩:=get_lt (xs:=ys) (k:=k) (by rw [HM.out];exact hki);have hd:=zh (dec_cons (drop_at hx) (drop_at hy) _ hf.out);obtain ⟨b,off,rfl,hb,y0,y1,-⟩:=Term.at_row HR.out hx;obtain ⟨b',off',rfl,hb',u0,u1,-⟩:=Term.at_row HS.out hy;have hq:=fun W=>neqTerm x y W;clear hx hy;cases e9:decide (x=y);case false =>
     rw [e9] at hq;have HF:Hid (decide (xs=ys)=false):=by show _=_;rw [hd.out,e9];simp
     clear hd e9 hf;go_wp2;go_quiet (fail)
     go_wp2;go_ret;exact ⟨ret_b HF.out.symm,bw⟩
    case true =>
     rw [e9] at hq;have HT:Hid (decide (xs=ys)=decide (xs.drop (k+1)=ys.drop (k+1))):=by show _=_;rw [hd.out,e9,Bool.true_and]
     clear hd e9 hf;go_wp2;go_quiet (fail)
     go_wp2;go_roundw
     case rel=>exact ⟨k+1,by omega,by go_num,⟨_,rfl⟩,HT⟩
     case measure=>exact zm
   ·have hkz:¬ (k:Int) < (N:Int):=by omega
    have HT:Hid (decide (xs=ys)=true):=by
     show _=_;rw [hf.out,List.drop_eq_nil_of_le (by rw [HN.out];omega),List.drop_eq_nil_of_le (by rw [HM.out];omega)];simp
    clear hf;go_wp2;go_ret;exact ⟨ret_b HT.out.symm,bw⟩
 ·have q1:((N:Int) == (M:Int))=false:=by simpa using fun h=>hne (by omega)
  have q2:((N:Int) != (M:Int))=true:=by simpa using fun h=>hne (by omega)
  have HT:Hid (decide (xs=ys)=false):=by
   show _=_;rw [decide_eq_false_iff_not];rintro rfl;exact hne (HN.out.symm.trans HM.out)
  clear hne;go_enter Tryz.func66,Tryz.ntmps66;go_wp2;go_ret;exact ⟨ret_b HT.out.symm,Below.refl _ _⟩
open Go.Shelf
attribute [local go_sem] Oper.semAt_some

theorem grown_below {W W':World} (h:Below W.heap.size W W'):W.grownBy W' none:=⟨h.os,h.tape,h.output,h.size,fun k hk _=>h.block k hk⟩
theorem keeps_below {B:Nat} {W W':World} (h:Below W.heap.size W W'):KeepsFrom B W W':=KeepsFrom.of_grownBy (grown_below h) (fun j e=>by cases e)
theorem infoTerm:(Tryz.prog.info? 61).map (fun i=>(i.zero,i.size,i.bytes))=some (some (.agg #[.string ByteArray.empty,.string ByteArray.empty]),2,32):=by kernel_rfl
theorem sizeTerm:∀ w,(Go.sizeOf 61).run Tryz.prog w=.ok 2 w:=Tryz.sizeOf61
theorem row_cells {w:World} {b off:Nat} {xs:List Term} (h:Row w (some ⟨b,off,none⟩) xs):∀ j u,(xs.map encT).flatten[j]?=some u→w.cell? ⟨b,off+j,none⟩=some u:=by
 intro j u hj;have hl:∀ l∈xs.map encT,l.length=2:=by intro l hl;obtain ⟨x,-,rfl⟩:=List.mem_map.1 hl;rfl
 have hlen:∀ ls:List (List Value),(∀ l∈ls,l.length=2)→ls.flatten.length=ls.length * 2:=by
  intro ls;induction ls with
  | nil=>simp
  | cons a r ih=>intro h;simp only [List.flatten_cons,List.length_append,List.length_cons,ih (fun l hl=>h l (by simp [hl])),h a (by simp)];omega
 have hjl:j < xs.length * 2:=by
  have:=(List.getElem?_eq_some_iff.1 hj).1;rw [hlen _ hl] at this;simpa using this
 obtain ⟨x,hx⟩:=get_lt (xs:=xs) (k:=j / 2) (by omega);have h1:=flatten_get (xs.map encT) (j / 2) (j % 2) (encT x) hl (by rw [List.getElem?_map,hx];rfl) (by omega);rw [show j / 2 * 2+j % 2=j by omega,hj] at h1;obtain ⟨b',off',he,-,c0,c1,-⟩:=Term.at_row h hx;cases he;rcases Nat.lt_or_ge (j % 2) 1 with h2 | h2
 ·have e:j % 2=0:=by omega
  rw [e] at h1;simp [encT] at h1;rw [h1,show off+j=off+j / 2 * 2 by omega];exact c0
 ·have e:j % 2=1:=by omega
  rw [e] at h1;simp [encT] at h1;rw [h1,show off+j=off+j / 2 * 2+1 by omega];exact c1
theorem encT_one {xs:List Term}:∀ u∈(xs.map encT).flatten,u.oneCell'=true:=by
 intro u hu;obtain ⟨l,hl,hu⟩:=List.mem_flatten.1 hu;obtain ⟨x,-,rfl⟩:=List.mem_map.1 hl;simp [encT] at hu;rcases hu with rfl | rfl <;> rfl
theorem ownT_mk {B:Nat} {E:TypeId→Prop} {w:World} {v:Value} {xs:List Term} (h:w.ownsRow B 61 2 v xs.length (xs.map encT).flatten) (hs:∀ x∈xs,x.license.size≤maxLen∧x.exception.size≤maxLen):OwnL B E 61 w v xs:=by
 refine ⟨xs.map encT,by simp,h,fun i y x hy hx=>?_⟩;rw [List.getElem?_map,hx] at hy;cases hy;exact ⟨rfl,fun w' _=>Term.is_iff.2 ⟨rfl,rfl,hs x (List.mem_of_getElem? hx)⟩⟩
def RowT (B:Nat) (w:World) (v:Value) (xs:List Term):Prop:=w.ownsRow B 61 2 v xs.length (xs.map encT).flatten∧∀ x∈xs,x.license.size≤maxLen∧x.exception.size≤maxLen
theorem RowT.own {B:Nat} {w:World} {v:Value} {xs:List Term} (h:RowT B w v xs) (E:TypeId→Prop):OwnL B E 61 w v xs:=ownT_mk h.1 h.2
theorem RowT.is {B:Nat} {w:World} {v:Value} {xs:List Term} (h:RowT B w v xs):Is w v xs:=(h.own fun _=>True).is
theorem RowT.shape {B:Nat} {w:World} {v:Value} {xs:List Term} (h:RowT B w v xs):∃ a c,v=.slice a xs.length c:=by
 rcases h.1.2 with ⟨rfl,h0⟩ | ⟨g,cap,cur,rfl,-⟩
 ·rw [h0];exact ⟨_,_,rfl⟩
 ·exact ⟨_,_,rfl⟩
theorem RowT.keep {B:Nat} {w w':World} {v:Value} {xs:List Term} (h:RowT B w v xs) (hk:∀ g,B≤g→g < w.heap.size→(∃ cs,w.heap[g]?=some (.cells cs 61 (0,0)))→w'.heap[g]?=w.heap[g]?):RowT B w' v xs:=by
 refine ⟨⟨h.1.1,h.1.2.imp id ?_⟩,h.2⟩;rintro ⟨g,cap,cur,a,b,c,d⟩;have hg:g < w.heap.size:=by
  rcases Nat.lt_or_ge g w.heap.size with h | h
  ·exact h
  ·rw [Array.getElem?_eq_none h] at c;cases c
 exact ⟨g,cap,cur,a,b,by rw [hk g b hg ⟨_,c⟩];exact c,d⟩
theorem RowT.below {B:Nat} {w w':World} {v:Value} {xs:List Term} (h:RowT B w v xs) (hb:Below w.heap.size w w'):RowT B w' v xs:=h.keep fun g _ hg _=>hb.block g hg
theorem RowT.setCell {B:Nat} {w:World} {v:Value} {xs:List Term} (h:RowT B w v xs) {a:Addr} (u:Value) (ha:a.block < B):RowT B (w.setCell a u) v xs:=h.keep fun g hg _ _=>blk_set_other w a u g (by omega)
theorem RowT.grown {B:Nat} {w w':World} {v:Value} {xs:List Term} (h:RowT B w v xs) {row:Option Nat} (hg:w.grownBy w' row) (hr:∀ r,row=some r→∃ o:Obj,w.heap[r]?=some o∧o.isCells=false):RowT B w' v xs :=
 h.keep fun g _ hlt ⟨cs,hc⟩=>hg.block g hlt fun e=>by
  obtain ⟨o,ho,hn⟩:=hr g e.symm;rw [hc] at ho;cases ho;cases hn
theorem CloneTerm_p (w:World) (v:Value) (xs:List Term) (h:Is w v xs) (hn:xs.length≤1000000) :
  Calls Tryz.prog 127 #[v] w fun e w'=>∃ v',e=.returned v'∧RowT w.heap.size w' v' xs∧Below w.heap.size w w':=by
 obtain ⟨a,c,rfl,hnc,hcm,hr⟩:=list_inv h;have hs:∀ x∈xs,x.license.size≤maxLen∧x.exception.size≤maxLen:=by
  intro x hx;obtain ⟨i,hi,rfl⟩:=List.mem_iff_getElem.1 hx;have hx2:xs[i]?=some xs[i]:=by simp
  obtain ⟨b,off,-,-,-,-,s⟩:=Term.at_row hr hx2;exact s
 cases a with
 | none =>
  have h0:xs=[]:=by
   cases xs with
   | nil=>rfl
   | cons x r=>obtain ⟨b,off,h1,-⟩:=hr 0 x rfl;cases h1
  subst h0;refine (AnyE.slices_Clone_nil Tryz.cloneTerm 0 c w).mono ?_;rintro e w' ⟨rfl,rfl⟩;exact ⟨_,rfl,⟨⟨rfl,.inl ⟨rfl,rfl⟩⟩,fun x hx=>by simp at hx⟩,Below.refl _ _⟩
 | some p =>
  obtain ⟨i0,hi,hz0,hz1,hz2⟩:=info_parts infoTerm;by_cases h0:xs=[]
  ·subst h0;clear hr h;have q24:∀ (w:World) (a:Option Addr) (n c n' c':Nat),(binOp .eql 59 (.slice a n c) (.slice none n' c')).run Tryz.prog w=.ok (.bool a.isNone) w:=fun w a n c n' c'=>Lib.run_eql_slice_nil w _ _ a n c n' c' Tryz.underlying59;have u22:=Tryz.underlying59;go_enter Tryz.func127,Tryz.ntmps127;go_wp2_with (at_builtin;refine wpList_append_own _ rfl _ _ 59 rfl w.heap.size 61 i0 _ 2 32 Tryz.underlying59 hi hz0 hz1 hz2 rfl (by decide) _ _ _ rfl (World.ownsRow_made w #[] 0 (Nat.le_refl _) (Nat.zero_le _) (by simp)) p 0 c [] rfl ?qc1 ?qc2 ?qc3 ?qc4 ?qc5 ?qc6 ?_)
   case qc1=>rfl
   case qc2=>intro j u hj;simp at hj
   case qc3=>intro u hu;simp at hu
   case qc4=>decide
   case qc5=>decide
   case qc6=>simp
   intro v' w1 hown hgrow hnil;go_wp2;go_ret;exact ⟨v',rfl,⟨by simpa using hown,hs⟩,((Below.refl _ w).alloc (Nat.le_refl _) _).grown hgrow (by simp) (by intro k hk;simp [Value.ownBlock] at hk;omega)⟩
  ·obtain ⟨x,r,rfl⟩:∃ x r,xs=x :: r:=by cases xs with | nil=>exact absurd rfl h0 | cons x r=>exact ⟨x,r,rfl⟩
   obtain ⟨b,off,he,-⟩:=hr 0 x rfl;cases he;refine (AnyE.slices_Clone Tryz.cloneTerm i0 _ 2 32 hi hz0 hz1 hz2 rfl (by decide) sizeTerm b off (x :: r).length c ((x :: r).map encT).flatten w ?_ (by unfold maxLen;omega) (by omega) (row_cells hr) encT_one).mono ?_
   ·have hlen:∀ ls:List Term,(ls.map encT).flatten.length=ls.length * 2:=by
     intro ls;induction ls with
     | nil=>rfl
     | cons a r ih=>simp only [List.map_cons,List.flatten_cons,List.length_append,ih,List.length_cons];simp [encT];omega
    exact hlen _
   ·rintro e w' ⟨v',rfl,ho,-,hb⟩;exact ⟨v',rfl,⟨ho,hs⟩,hb⟩
end Go.Proofs.YtcbopdbbcgdkcaaGreatDoor
