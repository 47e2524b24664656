/- Lemmas. -/
import Derived.Test.YtcbopdbbcgdkcaaGreatDoorLSort
import Derived.Test.YtcbopdbbcgdkcaaGreatDoorLIdxF
set_option linter.all false
set_option maxRecDepth 100000
set_option maxHeartbeats 16000000
namespace Go.Proofs.YtcbopdbbcgdkcaaGreatDoor
open Go Go.RowKit Go.ChangeShapes Go.Sort

theorem Grew.below {w w':World} (h:Grew w w'):Below w.heap.size w w':=by
 obtain ⟨q,os,rfl⟩:=h;exact below_grown w q os
theorem cmpS_s (a b:ByteArray):cmpS a b=scmp a b:=by
 unfold cmpS scmp;cases h:slt a b
 ·rw [slt_trich] at h;cases k:slt b a
  ·rw [k] at h;rw [seq_eq] at h ⊢;simp at h;simp [h]
  ·have:seq a b=false:=by
    rw [seq_eq,decide_eq_false_iff_not];rintro rfl;rw [slt_irrefl] at k;cases k
   rw [this];rfl
 ·rfl
theorem cmpI_n (a b:Nat):cmpI (a:Int) (b:Int)=ncmp a b:=by
 have e1:decide ((a:Int) < (b:Int))=decide (a < b):=by rw [decide_eq_decide];omega
 have e2:decide ((b:Int) < (a:Int))=decide (b < a):=by rw [decide_eq_decide];omega
 unfold cmpI ncmp;rw [e1,e2];simp
theorem orI_lex (a b:Int):orI [a,b]=lex2 a b:=by
 unfold lex2;by_cases h:a=0 <;> by_cases k:b=0 <;> simp [orI,h,k]
theorem rng_in {n:Int} (h:n = -1∨n=0∨n=1):inI64 n:=by unfold inI64;omega
theorem compareTerms_p (x y:Term) (w:World):Calls Tryz.prog 88 #[.agg #[.string x.license,.string x.exception],.agg #[.string y.license,.string y.exception]] w fun e w'=>e=.returned (.int .i64 (tcmp x y))∧Grew w w':=by
 have ht:tcmp x y=orI [cmpS x.license y.license,cmpS x.exception y.exception]:=by rw [orI_lex,cmpS_s,cmpS_s];rfl
 rw [ht];clear ht;go_enter Tryz.func88,Tryz.ntmps88;go_wp2;refine still_tail 10 (by kernel_rfl) (by kernel_rfl) ?_;simp only [zt];repeat still_step
 still_call (Compare_q x.license y.license _)
 repeat still_step
 still_call (Compare_q x.exception y.exception _)
 repeat still_step
 refine wpStill_nil ?_;go_wp2_with fail
 refine (Or_i _ _ [cmpS x.license y.license,cmpS x.exception y.exception] ?_).mono ?_
 ·refine (ints_box _ [cmpS x.license y.license,cmpS x.exception y.exception] _ ?_ (Nat.le_of_ble_eq_true rfl) rfl (by simp)).mono (Below.refl _ _).drew;simp [cmpS_in]
 rintro e w1 ⟨rfl,rfl⟩;go_wp2;go_ret;exact ⟨rfl,(by repeat (first | exact Grew.refl _ | refine Grew.drew ?_ | refine Grew.alloc ?_ _ | refine Grew.drewN ?_ _))⟩
theorem CompareFunc_p (w:World) (v1 v2:Value) (xs ys:List Term) (h1:Is w v1 xs) (h2:Is w v2 ys) :
  Calls Tryz.prog 136 #[v1,v2,.func (.func 88) #[] #[]] w fun e w'=>e=.returned (.int .i64 (lcmp tcmp xs ys))∧Grew w w':=by
 obtain ⟨a,c,rfl,hnc,hcm,hr⟩:=list_inv h1;obtain ⟨b,d,rfl,hnd,hdm,hs⟩:=list_inv h2;simp only [maxLen] at hcm hdm;have HR:=zh hr;have HS:=zh hs;clear hr hs h1 h2;generalize hN:xs.length=N at *;have HN:=zh hN;clear hN;generalize hM:ys.length=M at *;have HM:=zh hM;clear hM;go_enter Tryz.func136,Tryz.ntmps136;go_wp2;go_loopw [13] (fun kv wr=>∃ k:Nat,k≤N∧k≤M∧kv=.int .i64 k∧Hid (Grew w wr)∧Hid (lcmp tcmp xs ys=lcmp tcmp (xs.drop k) (ys.drop k))) (fun kv _=>N - (intOf kv).toNat)
 case atStart=>exact ⟨0,by omega,by omega,rfl,Grew.refl _,rfl⟩
 case round =>
  obtain ⟨k,hk,hkm,rfl,HG,HD⟩:=hrel;have HB:=zh HG.out.below;by_cases hki:k < N
  ·have hkz:(k:Int) < (N:Int):=by omega
   obtain ⟨x,hx⟩:=get_lt (xs:=xs) (k:=k) (by rw [HN.out];exact hki);obtain ⟨bx,ox,rfl,hbx,x0',x1',-⟩:=Term.at_row HR.out hx;have x0:=kept HB.out x0';have x1:=kept HB.out x1';have hsx:=cell_lt x0;have HX:=zh (drop_at hx);clear hx x0' x1';by_cases hkj:k < M
   ·have hkw:(k:Int) < (M:Int):=by omega
    obtain ⟨y,hy⟩:=get_lt (xs:=ys) (k:=k) (by rw [HM.out];exact hkj);obtain ⟨b2,o2,rfl,hby,y0',y1',-⟩:=Term.at_row HS.out hy;have y0:=kept HB.out y0';have y1:=kept HB.out y1';have hsy:=cell_lt y0;have HY:=zh (drop_at hy);clear hy y0' y1';have hcall:=fun W=>compareTerms_p x y W;have HE:Hid (lcmp tcmp xs ys=lex2 (tcmp x y) (lcmp tcmp (xs.drop (k+1)) (ys.drop (k+1)))):=by show _=_;rw [HD.out,HX.out,HY.out];rfl
    generalize tcmp x y=t at hcall HE;by_cases ht:t=0
    ·subst ht;go_wp2_with fail
     refine (hcall _).mono ?_;rintro e w2 ⟨rfl,hg⟩;have HG2:=zh (((HG.out.alloc _).alloc _).trans hg);clear hg hcall;go_wp2;go_roundw
     case rel=>exact ⟨k+1,by omega,by omega,by go_num,HG2,by show _=_;rw [HE.out];rfl⟩
     case measure=>exact zm
    ·have q1:(t == 0)=false:=by simpa using ht
     have q2:(t != 0)=true:=by simpa using ht
     have HT:Hid (lcmp tcmp xs ys=t):=by show _=_;rw [HE.out];unfold lex2;rw [if_neg ht]
     clear ht;go_wp2_with fail
     refine (hcall _).mono ?_;rintro e w2 ⟨rfl,hg⟩;have HG2:=zh (((HG.out.alloc _).alloc _).trans hg);clear hg hcall;go_wp2;go_ret;exact ⟨ret_i HT.out.symm,HG2.out⟩
   ·have hkw:¬ (k:Int) < (M:Int):=by omega
    have HT:Hid (lcmp tcmp xs ys=1):=by
     show _=_;rw [HD.out,HX.out,show ys.drop k=[] from List.drop_eq_nil_of_le (by rw [HM.out];omega)];rfl
    go_wp2;go_ret;exact ⟨ret_i HT.out.symm,HG.out.alloc _⟩
  ·obtain rfl:k=N:=by omega
   by_cases hkj:k < M
   ·have hkw:(k:Int) < (M:Int):=by omega
    have HT:Hid (lcmp tcmp xs ys = -1):=by
     obtain ⟨y,hy⟩:=get_lt (xs:=ys) (k:=k) (by rw [HM.out];exact hkj);show _=_;rw [HD.out,show xs.drop k=[] from List.drop_eq_nil_of_le (by rw [HN.out];exact Nat.le_refl _),drop_at hy];rfl
    go_wp2;go_ret;exact ⟨ret_i HT.out.symm,HG.out⟩
   ·have hkw:¬ (k:Int) < (M:Int):=by omega
    have HT:Hid (lcmp tcmp xs ys=0):=by
     show _=_;rw [HD.out,show xs.drop k=[] from List.drop_eq_nil_of_le (by rw [HN.out];exact Nat.le_refl _),show ys.drop k=[] from List.drop_eq_nil_of_le (by rw [HM.out];omega)];rfl
    go_wp2;go_ret;exact ⟨ret_i HT.out.symm,HG.out⟩
theorem Compare_p (w:World) (v1 v2:Value) (xs ys:List Term) (h1:Is w v1 xs) (h2:Is w v2 ys) :
  Calls Tryz.prog 90 #[v1,v2] w fun e w'=>e=.returned (.int .i64 (acmp xs ys))∧Grew w w':=by
 have HF:=CompareFunc_p w v1 v2 xs ys h1 h2;have HQ:=zh (show acmp xs ys=orI [cmpI (xs.length:Int) (ys.length:Int),lcmp tcmp xs ys] by rw [orI_lex,cmpI_n];rfl);have HI:=zh (rng_in ((lcmp_to tcmp_to).rng xs ys));obtain ⟨a,c,rfl,hnc,hcm,-⟩:=list_inv h1;obtain ⟨b,d,rfl,hnd,hdm,-⟩:=list_inv h2;simp only [maxLen] at hcm hdm;clear h1 h2;generalize acmp xs ys=r at *;generalize lcmp tcmp xs ys=r2 at *;generalize xs.length=N at *;generalize ys.length=M at *;have HJ:=zh (cmpI_in (N:Int) (M:Int));have hcmp:=fun W=>Compare_r (N:Int) (M:Int) W;generalize cmpI (N:Int) (M:Int)=r1 at *;go_enter Tryz.func90,Tryz.ntmps90;go_wp2_with fail
 refine (hcmp _).mono ?_;rintro e w1 ⟨rfl,rfl⟩;clear hcmp;go_wp2_with fail
 refine HF.mono ?_;rintro e w2 ⟨rfl,hg⟩;have HG:=zh hg;clear hg HF;go_wp2_with fail
 refine (Or_i _ _ [r1,r2] ?_).mono ?_
 ·refine (ints_box _ [r1,r2] _ ?_ (Nat.le_of_ble_eq_true rfl) rfl (by simp));intro x hx;rcases List.mem_cons.1 hx with rfl | hx
  ·exact HJ.out
  ·obtain rfl:=List.mem_singleton.1 hx;exact HI.out
 rintro e w3 ⟨rfl,rfl⟩;go_wp2;go_ret;exact ⟨ret_i HQ.out.symm,HG.out.alloc _⟩
open Go.Lib

def encT (x:Term):List Value:=[.string x.license,.string x.exception]
def teq (x y:Term):Bool:=seq x.license y.license && seq x.exception y.exception
theorem teq_eq (x y:Term):teq x y=decide (y=x):=by
 unfold teq;rw [seq_eq,seq_eq,Bool.eq_iff_iff,Bool.and_eq_true,decide_eq_true_iff,decide_eq_true_iff,decide_eq_true_iff];cases x;cases y;constructor
 ·rintro ⟨h,k⟩;simp only at h k;rw [h,k]
 ·intro h;cases h;exact ⟨rfl,rfl⟩
theorem any_teq (l:List Term) (t:Term):(l.any fun y=>teq t y)=hasT l t:=by
 unfold hasT;congr 1;funext y;exact teq_eq t y
theorem eqTerm:EqlAt Tryz.prog 61 (fun x=>.agg (encT x).toArray) teq:=by
 refine ⟨fun x y w=>?_,GuardAt.agg _ (by kernel_rfl)⟩;have u3:=Tryz.underlying9;have a3:=Tryz.isAgg9;have z3:=Tryz.sizeOf9;have hS:Tryz.prog.underlying 61=some (.struct (Tryz.prog.fieldsOf 61)):=by kernel_rfl
 have hp:Tryz.prog.stoodInHeld 61=false:=by kernel_rfl
 simp only [encT];rw [run_eql_struct,show (10000:Nat)=9999+1 from rfl,run_equalIn_agg w 9999 61 _ _ hS hp];simp only [Program.fieldsOf,Tryz.underlying61];go_simp;unfold teq seq;by_cases h1:x.license.toList=y.license.toList <;> by_cases h2:x.exception.toList=y.exception.toList <;> simp [h1,h2]
theorem IndexTerm_nil (a:Option Addr) (c:Nat) (x:Term) (w:World):Calls Tryz.prog 190 #[.slice a 0 c,.agg #[.string x.license,.string x.exception]] w fun e w'=>e=.returned (.int .i64 (-1))∧Below w.heap.size w w':=by
 go_enter Tryz.func190,Tryz.ntmps190;go_wp2;refine wp_loop_rounds 1 ?_;rw [rounds_succ];go_wp2;go_ret;exact ⟨rfl,bw⟩
theorem ContainsTerm_p (w:World) (v:Value) (xs:List Term) (x:Term) (h:Is w v xs) :
  Calls Tryz.prog 139 #[v,.agg #[.string x.license,.string x.exception]] w fun e w'=>e=.returned (.bool (hasT xs x))∧Below w.heap.size w w':=by
 obtain ⟨a,c,rfl,hnc,hc,hr⟩:=list_inv h;simp only [maxLen] at hc;by_cases h0:xs.length=0
 ·obtain rfl:xs=[]:=List.length_eq_zero_iff.1 h0;clear hr h;go_enter Tryz.func139,Tryz.ntmps139;go_wp2_with fail
  refine (IndexTerm_nil _ _ x _).mono ?_;rintro e w1 ⟨rfl,hb⟩;go_wp2;go_ret;have hbs:=hb.size;exact ⟨rfl,bw⟩
 ·obtain ⟨x0,hx⟩:=get_lt (xs:=xs) (k:=0) (by omega);obtain ⟨b,off,rfl,-⟩:=Term.at_row hr hx
  have:=AnyQ.slices_Contains Tryz.containsTerm 2 Tryz.isAgg61 Tryz.sizeOf61 encT (fun _=>rfl) _ eqTerm b off xs.length c xs x w (Nat.le_refl _) (by omega) (by
   intro j hj i v hv;obtain ⟨b',off',he,-,h0,h1,-⟩:=Term.at_row hr (bang_at hj);cases he;match i,hv with
   | 0,hv=>simp [encT] at hv;subst hv;simpa using h0
   | 1,hv=>simp [encT] at hv;subst hv;simpa using h1)
  rw [List.take_length,any_teq] at this;exact this
theorem Contains1_p (w:World) (g:Nat) (v:Value) (xs:List Term) (t:Term) (hc:w.cell? ⟨g,0,none⟩=some v) (h:Is w v xs) :
  Calls Tryz.prog 138 #[.agg #[.string t.license,.string t.exception],.pointer (some ⟨g,0,none⟩)] w fun e w'=>e=.returned (.bool (!hasT xs t))∧Below w.heap.size w w':=by
 have hg:=cell_lt hc;have HI:=zh h;obtain ⟨a,c,rfl,-⟩:=list_inv h;have HC:=fun W h=>ContainsTerm_p W (.slice a xs.length c) xs t h;clear h;generalize hasT xs t=bb at HC ⊢;generalize hN:xs.length=N at *;clear hN;go_enter Tryz.func138,Tryz.ntmps138;go_wp2_with fail
 refine (HC _ (HI.out.mono bw)).mono ?_;rintro e w1 ⟨rfl,hb⟩;go_wp2;go_ret;exact ⟨rfl,bw⟩
theorem all_not {α:Type} (l:List α) (p:α→Bool):l.all p=!l.any fun x=>!p x:=by
 induction l with
 | nil=>rfl
 | cons a r ih=>simp only [List.all_cons,List.any_cons,ih,Bool.not_or,Bool.not_not]
theorem Contains_p (w:World) (v1 v2:Value) (xs ys:List Term) (h1:Is w v1 xs) (h2:Is w v2 ys) :
  Calls Tryz.prog 92 #[v1,v2] w fun e w'=>e=.returned (.bool (conA xs ys))∧Below w.heap.size w w':=by
 have HI:=zh h1;obtain ⟨a,c,rfl,-⟩:=list_inv h1;have hba:Below w.heap.size w (w.alloc (.cells #[.slice a xs.length c] 59)):=bw;have hcell:(w.alloc (.cells #[.slice a xs.length c] 59)).cell? ⟨w.heap.size,0,none⟩=some (.slice a xs.length c):=by simp
 have eg:∀ args w,(callFunc 138 args).run Tryz.prog w=.ok (.enter 138 args) w:=enters_of Tryz.func138 (by kernel_rfl) rfl
 have HF:=ContainsFuncTerm (w.alloc (.cells #[.slice a xs.length c] 59)) v2 ys (fun t=>!hasT xs t) 138 #[.pointer (some ⟨w.heap.size,0,none⟩)] eg (h2.mono hba) (by
  intro i t _ W v hb hv;obtain ⟨rfl,-⟩:=Term.inv hv;exact Contains1_p W w.heap.size (.slice a xs.length c) xs t (kept hb hcell) ((HI.out.mono hba).mono hb))
 have HQ:=zh (show conA xs ys=!(ys.any fun t=>!hasT xs t) from all_not ys (hasT xs));obtain ⟨a2,c2,rfl,-⟩:=list_inv h2;clear h1 h2 hba hcell eg;generalize conA xs ys=r at *;generalize (ys.any fun t=>!hasT xs t)=bb at *;generalize xs.length=N at *;generalize ys.length=M at *;go_enter Tryz.func92,Tryz.ntmps92;go_wp2_with fail
 refine HF.mono ?_;rintro e w1 ⟨rfl,hb⟩;go_wp2;go_ret;exact ⟨ret_b HQ.out.symm,bw⟩

end Go.Proofs.YtcbopdbbcgdkcaaGreatDoor
