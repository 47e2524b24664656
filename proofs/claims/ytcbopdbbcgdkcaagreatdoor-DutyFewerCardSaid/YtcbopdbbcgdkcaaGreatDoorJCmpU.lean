/- The program's comparisons of terms and of alternatives. -/
import Derived.Laws.StructEq
import Derived.StillTailTactics
import Derived.Test.YtcbopdbbcgdkcaaGreatDoorJAltG
import Derived.Test.YtcbopdbbcgdkcaaGreatDoorJSort
import Derived.Test.YtcbopdbbcgdkcaaGreatDoorJIdxF
import Derived.Test.YtcbopdbbcgdkcaaGreatDoorJShelfD
set_option linter.all false
namespace Go.Proofs.YtcbopdbbcgdkcaaGreatDoor
open Go Go.RowKit Go.ChangeShapes Go.Sort

theorem Grew.below {w w':World} (h:Grew w w'):Below w.heap.size w w':=by
 obtain ⟨q,os,rfl⟩:=h
 exact below_grown w q os
theorem cmpS_s (a b:ByteArray):cmpS a b=scmp a b:=by
 unfold cmpS scmp
 cases h:slt a b
 ·rw [slt_trich] at h
  cases k:slt b a
  ·rw [k] at h
   rw [seq_eq] at h ⊢
   simp at h
   simp [h]
  ·have:seq a b=false:=by
    rw [seq_eq,decide_eq_false_iff_not];rintro rfl;rw [slt_irrefl] at k;cases k
   rw [this];rfl
 ·rfl
theorem cmpI_n (a b:Nat):cmpI (a:Int) (b:Int)=ncmp a b:=by
 have e1:decide ((a:Int) < (b:Int))=decide (a < b):=by rw [decide_eq_decide];omega
 have e2:decide ((b:Int) < (a:Int))=decide (b < a):=by rw [decide_eq_decide];omega
 unfold cmpI ncmp
 rw [e1,e2]
 simp
theorem orI_lex (a b:Int):orI [a,b]=lex2 a b:=by
 unfold lex2
 by_cases h:a=0 <;> by_cases k:b=0 <;> simp [orI,h,k]
theorem rng_in {n:Int} (h:n = -1∨n=0∨n=1):inI64 n:=by unfold inI64;omega
set_option maxRecDepth 100000 in
set_option maxHeartbeats 1000000 in
theorem compareTerms_p (x y:Term) (w:World):Calls Tryz.prog 88 #[.agg #[.string x.license,.string x.exception],.agg #[.string y.license,.string y.exception]] w fun e w'=>e=.returned (.int .i64 (tcmp x y))∧Grew w w':=by
 have ht:tcmp x y=orI [cmpS x.license y.license,cmpS x.exception y.exception]:=by rw [orI_lex,cmpS_s,cmpS_s];rfl
 rw [ht]
 clear ht
 go_enter Tryz.func88,Tryz.ntmps88
 go_wp2
 refine still_tail 10 (by kernel_rfl) (by kernel_rfl) ?_
 simp only [List.take_succ_cons,List.take_zero,List.drop_succ_cons,List.drop_zero]
 repeat still_step
 still_call (Compare_q x.license y.license _)
 repeat still_step
 still_call (Compare_q x.exception y.exception _)
 repeat still_step
 refine wpStill_nil ?_
 go_wp2_with fail
 refine (Or_i _ _ [cmpS x.license y.license,cmpS x.exception y.exception] ?_).mono ?_
 ·refine (ints_box _ [cmpS x.license y.license,cmpS x.exception y.exception] _ ?_ (Nat.le_of_ble_eq_true rfl) rfl (by simp)).mono (Below.refl _ _).drew
  simp [cmpS_in]
 rintro e w1 ⟨rfl,rfl⟩
 go_wp2
 go_ret
 exact ⟨rfl,(by repeat (first | exact Grew.refl _ | refine Grew.drew ?_ | refine Grew.alloc ?_ _ | refine Grew.drewN ?_ _))⟩
set_option maxRecDepth 100000 in
set_option maxHeartbeats 1000000 in
theorem CompareFunc_p (w:World) (v1 v2:Value) (xs ys:List Term) (h1:Is w v1 xs) (h2:Is w v2 ys) :
  Calls Tryz.prog 136 #[v1,v2,.func (.func 88) #[] #[]] w fun e w'=>e=.returned (.int .i64 (lcmp tcmp xs ys))∧Grew w w':=by
 obtain ⟨a,c,rfl,hnc,hcm,hr⟩:=list_inv h1
 obtain ⟨b,d,rfl,hnd,hdm,hs⟩:=list_inv h2
 simp only [maxLen] at hcm hdm
 have HR:=Lib.hid hr
 have HS:=Lib.hid hs
 clear hr hs h1 h2
 generalize hN:xs.length=N at *
 have HN:=Lib.hid hN
 clear hN
 generalize hM:ys.length=M at *
 have HM:=Lib.hid hM
 clear hM
 go_enter Tryz.func136,Tryz.ntmps136
 go_wp2
 go_loopw [13] (fun kv wr=>∃ k:Nat,k≤N∧k≤M∧kv=.int .i64 k∧Hid (Grew w wr)∧Hid (lcmp tcmp xs ys=lcmp tcmp (xs.drop k) (ys.drop k))) (fun kv _=>N - (intOf kv).toNat)
 case atStart=>exact ⟨0,by omega,by omega,rfl,Grew.refl _,rfl⟩
 case round =>
  obtain ⟨k,hk,hkm,rfl,HG,HD⟩:=hrel
  have HB:=Lib.hid HG.out.below
  by_cases hki:k < N
  ·have hkz:(k:Int) < (N:Int):=by omega
   obtain ⟨x,hx⟩:=get_lt (xs:=xs) (k:=k) (by rw [HN.out];exact hki)
   obtain ⟨bx,ox,rfl,hbx,x0',x1',-⟩:=Term.at_row HR.out hx
   have x0:=kept HB.out x0'
   have x1:=kept HB.out x1'
   have hsx:=cell_lt x0
   have HX:=Lib.hid (drop_at hx)
   clear hx x0' x1'
   by_cases hkj:k < M
   ·have hkw:(k:Int) < (M:Int):=by omega
    obtain ⟨y,hy⟩:=get_lt (xs:=ys) (k:=k) (by rw [HM.out];exact hkj)
    obtain ⟨b2,o2,rfl,hby,y0',y1',-⟩:=Term.at_row HS.out hy
    have y0:=kept HB.out y0'
    have y1:=kept HB.out y1'
    have hsy:=cell_lt y0
    have HY:=Lib.hid (drop_at hy)
    clear hy y0' y1'
    have hcall:=fun W=>compareTerms_p x y W
    have HE:Hid (lcmp tcmp xs ys=lex2 (tcmp x y) (lcmp tcmp (xs.drop (k+1)) (ys.drop (k+1)))):=by show _=_;rw [HD.out,HX.out,HY.out];rfl
    generalize tcmp x y=t at hcall HE
    by_cases ht:t=0
    ·subst ht
     go_wp2_with fail
     refine (hcall _).mono ?_
     rintro e w2 ⟨rfl,hg⟩
     have HG2:=Lib.hid (((HG.out.alloc _).alloc _).trans hg)
     clear hg hcall
     go_wp2
     go_roundw
     case rel=>exact ⟨k+1,by omega,by omega,by go_num,HG2,by show _=_;rw [HE.out];rfl⟩
     case measure=>simp [intOf];omega
    ·have q1:(t == 0)=false:=by simpa using ht
     have q2:(t != 0)=true:=by simpa using ht
     have HT:Hid (lcmp tcmp xs ys=t):=by show _=_;rw [HE.out];unfold lex2;rw [if_neg ht]
     clear ht
     go_wp2_with fail
     refine (hcall _).mono ?_
     rintro e w2 ⟨rfl,hg⟩
     have HG2:=Lib.hid (((HG.out.alloc _).alloc _).trans hg)
     clear hg hcall
     go_wp2
     go_ret
     exact ⟨ret_i HT.out.symm,HG2.out⟩
   ·have hkw:¬ (k:Int) < (M:Int):=by omega
    have HT:Hid (lcmp tcmp xs ys=1):=by
     show _=_
     rw [HD.out,HX.out,show ys.drop k=[] from List.drop_eq_nil_of_le (by rw [HM.out];omega)];rfl
    go_wp2
    go_ret
    exact ⟨ret_i HT.out.symm,HG.out.alloc _⟩
  ·obtain rfl:k=N:=by omega
   by_cases hkj:k < M
   ·have hkw:(k:Int) < (M:Int):=by omega
    have HT:Hid (lcmp tcmp xs ys = -1):=by
     obtain ⟨y,hy⟩:=get_lt (xs:=ys) (k:=k) (by rw [HM.out];exact hkj)
     show _=_
     rw [HD.out,show xs.drop k=[] from List.drop_eq_nil_of_le (by rw [HN.out];exact Nat.le_refl _),drop_at hy];rfl
    go_wp2
    go_ret
    exact ⟨ret_i HT.out.symm,HG.out⟩
   ·have hkw:¬ (k:Int) < (M:Int):=by omega
    have HT:Hid (lcmp tcmp xs ys=0):=by
     show _=_
     rw [HD.out,show xs.drop k=[] from List.drop_eq_nil_of_le (by rw [HN.out];exact Nat.le_refl _),show ys.drop k=[] from List.drop_eq_nil_of_le (by rw [HM.out];omega)];rfl
    go_wp2
    go_ret
    exact ⟨ret_i HT.out.symm,HG.out⟩
set_option maxRecDepth 100000 in
set_option maxHeartbeats 1000000 in
theorem Compare_p (w:World) (v1 v2:Value) (xs ys:List Term) (h1:Is w v1 xs) (h2:Is w v2 ys) :
  Calls Tryz.prog 90 #[v1,v2] w fun e w'=>e=.returned (.int .i64 (acmp xs ys))∧Grew w w':=by
 have HF:=CompareFunc_p w v1 v2 xs ys h1 h2
 have HQ:=Lib.hid (show acmp xs ys=orI [cmpI (xs.length:Int) (ys.length:Int),lcmp tcmp xs ys] by rw [orI_lex,cmpI_n];rfl)
 have HI:=Lib.hid (rng_in ((lcmp_to tcmp_to).rng xs ys))
 obtain ⟨a,c,rfl,hnc,hcm,-⟩:=list_inv h1
 obtain ⟨b,d,rfl,hnd,hdm,-⟩:=list_inv h2
 simp only [maxLen] at hcm hdm
 clear h1 h2
 generalize acmp xs ys=r at *
 generalize lcmp tcmp xs ys=r2 at *
 generalize xs.length=N at *
 generalize ys.length=M at *
 have HJ:=Lib.hid (cmpI_in (N:Int) (M:Int))
 have hcmp:=fun W=>Compare_r (N:Int) (M:Int) W
 generalize cmpI (N:Int) (M:Int)=r1 at *
 go_enter Tryz.func90,Tryz.ntmps90
 go_wp2_with fail
 refine (hcmp _).mono ?_
 rintro e w1 ⟨rfl,rfl⟩
 clear hcmp
 go_wp2_with fail
 refine HF.mono ?_
 rintro e w2 ⟨rfl,hg⟩
 have HG:=Lib.hid hg
 clear hg HF
 go_wp2_with fail
 refine (Or_i _ _ [r1,r2] ?_).mono ?_
 ·refine (ints_box _ [r1,r2] _ ?_ (Nat.le_of_ble_eq_true rfl) rfl (by simp))
  intro x hx
  rcases List.mem_cons.1 hx with rfl | hx
  ·exact HJ.out
  ·obtain rfl:=List.mem_singleton.1 hx;exact HI.out
 rintro e w3 ⟨rfl,rfl⟩
 go_wp2
 go_ret
 exact ⟨ret_i HQ.out.symm,HG.out.alloc _⟩
end Go.Proofs.YtcbopdbbcgdkcaaGreatDoor
namespace Go.Proofs.YtcbopdbbcgdkcaaGreatDoor
open Go Go.RowKit Go.ChangeShapes Go.Sort Go.Lib

def encT (x:Term):List Value:=[.string x.license,.string x.exception]
def teq (x y:Term):Bool:=seq x.license y.license && seq x.exception y.exception
theorem teq_eq (x y:Term):teq x y=decide (y=x):=by
 unfold teq
 rw [seq_eq,seq_eq,Bool.eq_iff_iff,Bool.and_eq_true,decide_eq_true_iff,decide_eq_true_iff,decide_eq_true_iff]
 cases x;cases y
 constructor
 ·rintro ⟨h,k⟩;simp only at h k;rw [h,k]
 ·intro h;cases h;exact ⟨rfl,rfl⟩
theorem any_teq (l:List Term) (t:Term):(l.any fun y=>teq t y)=hasT l t:=by
 unfold hasT;congr 1;funext y;exact teq_eq t y
theorem eqTerm:EqlAt Tryz.prog 61 (fun x=>.agg (encT x).toArray) teq:=by
 refine ⟨fun x y w=>?_,GuardAt.agg _ (by kernel_rfl)⟩
 have u3:=Tryz.underlying9
 have a3:=Tryz.isAgg9
 have z3:=Tryz.sizeOf9
 have hS:Tryz.prog.underlying 61=some (.struct (Tryz.prog.fieldsOf 61)):=by kernel_rfl
 have hp:Tryz.prog.stoodInHeld 61=false:=by kernel_rfl
 simp only [encT]
 rw [run_eql_struct,show (10000:Nat)=9999+1 from rfl,run_equalIn_agg w 9999 61 _ _ hS hp]
 simp only [Program.fieldsOf,Tryz.underlying61]
 go_simp
 unfold teq seq
 by_cases h1:x.license.toList=y.license.toList <;> by_cases h2:x.exception.toList=y.exception.toList <;> simp [h1,h2]
set_option maxRecDepth 100000 in
set_option maxHeartbeats 1000000 in
theorem IndexTerm_nil (a:Option Addr) (c:Nat) (x:Term) (w:World):Calls Tryz.prog 190 #[.slice a 0 c,.agg #[.string x.license,.string x.exception]] w fun e w'=>e=.returned (.int .i64 (-1))∧Below w.heap.size w w':=by
 go_enter Tryz.func190,Tryz.ntmps190
 go_wp2
 refine wp_loop_rounds 1 ?_
 rw [rounds_succ]
 go_wp2
 go_ret
 exact ⟨rfl,bw⟩
set_option maxRecDepth 100000 in
set_option maxHeartbeats 1000000 in
theorem ContainsTerm_p (w:World) (v:Value) (xs:List Term) (x:Term) (h:Is w v xs) :
  Calls Tryz.prog 139 #[v,.agg #[.string x.license,.string x.exception]] w fun e w'=>e=.returned (.bool (hasT xs x))∧Below w.heap.size w w':=by
 obtain ⟨a,c,rfl,hnc,hc,hr⟩:=list_inv h
 simp only [maxLen] at hc
 by_cases h0:xs.length=0
 ·obtain rfl:xs=[]:=List.length_eq_zero_iff.1 h0
  clear hr h
  go_enter Tryz.func139,Tryz.ntmps139
  go_wp2_with fail
  refine (IndexTerm_nil _ _ x _).mono ?_
  rintro e w1 ⟨rfl,hb⟩
  go_wp2
  go_ret
  have hbs:=hb.size
  exact ⟨rfl,bw⟩
 ·obtain ⟨x0,hx⟩:=get_lt (xs:=xs) (k:=0) (by omega)
  obtain ⟨b,off,rfl,-⟩:=Term.at_row hr hx
  have:=AnyQ.slices_Contains Tryz.containsTerm 2 Tryz.isAgg61 Tryz.sizeOf61 encT (fun _=>rfl) _ eqTerm b off xs.length c xs x w (Nat.le_refl _) (by omega) (by
   intro j hj i v hv
   obtain ⟨b',off',he,-,h0,h1,-⟩:=Term.at_row hr (bang_at hj)
   cases he
   match i,hv with
   | 0,hv=>simp [encT] at hv;subst hv;simpa using h0
   | 1,hv=>simp [encT] at hv;subst hv;simpa using h1)
  rw [List.take_length,any_teq] at this
  exact this
set_option maxRecDepth 100000 in
set_option maxHeartbeats 1000000 in
theorem Contains1_p (w:World) (g:Nat) (v:Value) (xs:List Term) (t:Term) (hc:w.cell? ⟨g,0,none⟩=some v) (h:Is w v xs) :
  Calls Tryz.prog 138 #[.agg #[.string t.license,.string t.exception],.pointer (some ⟨g,0,none⟩)] w fun e w'=>e=.returned (.bool (!hasT xs t))∧Below w.heap.size w w':=by
 have hg:=cell_lt hc
 have HI:=Lib.hid h
 obtain ⟨a,c,rfl,-⟩:=list_inv h
 have HC:=fun W h=>ContainsTerm_p W (.slice a xs.length c) xs t h
 clear h
 generalize hasT xs t=bb at HC ⊢
 generalize hN:xs.length=N at *
 clear hN
 go_enter Tryz.func138,Tryz.ntmps138
 go_wp2_with fail
 refine (HC _ (HI.out.mono bw)).mono ?_
 rintro e w1 ⟨rfl,hb⟩
 go_wp2
 go_ret
 exact ⟨rfl,bw⟩
theorem all_not {α:Type} (l:List α) (p:α→Bool):l.all p=!l.any fun x=>!p x:=by
 induction l with
 | nil=>rfl
 | cons a r ih=>simp only [List.all_cons,List.any_cons,ih,Bool.not_or,Bool.not_not]
set_option maxRecDepth 100000 in
set_option maxHeartbeats 1000000 in
theorem Contains_p (w:World) (v1 v2:Value) (xs ys:List Term) (h1:Is w v1 xs) (h2:Is w v2 ys) :
  Calls Tryz.prog 92 #[v1,v2] w fun e w'=>e=.returned (.bool (conA xs ys))∧Below w.heap.size w w':=by
 have HI:=Lib.hid h1
 obtain ⟨a,c,rfl,-⟩:=list_inv h1
 have hba:Below w.heap.size w (w.alloc (.cells #[.slice a xs.length c] 59)):=bw
 have hcell:(w.alloc (.cells #[.slice a xs.length c] 59)).cell? ⟨w.heap.size,0,none⟩=some (.slice a xs.length c):=by simp
 have eg:∀ args w,(callFunc 138 args).run Tryz.prog w=.ok (.enter 138 args) w:=enters_of Tryz.func138 (by kernel_rfl) rfl
 have HF:=ContainsFuncTerm (w.alloc (.cells #[.slice a xs.length c] 59)) v2 ys (fun t=>!hasT xs t) 138 #[.pointer (some ⟨w.heap.size,0,none⟩)] eg (h2.mono hba) (by
  intro i t _ W v hb hv
  obtain ⟨rfl,-⟩:=Term.inv hv
  exact Contains1_p W w.heap.size (.slice a xs.length c) xs t (kept hb hcell) ((HI.out.mono hba).mono hb))
 have HQ:=Lib.hid (show conA xs ys=!(ys.any fun t=>!hasT xs t) from all_not ys (hasT xs))
 obtain ⟨a2,c2,rfl,-⟩:=list_inv h2
 clear h1 h2 hba hcell eg
 generalize conA xs ys=r at *
 generalize (ys.any fun t=>!hasT xs t)=bb at *
 generalize xs.length=N at *
 generalize ys.length=M at *
 go_enter Tryz.func92,Tryz.ntmps92
 go_wp2_with fail
 refine HF.mono ?_
 rintro e w1 ⟨rfl,hb⟩
 go_wp2
 go_ret
 exact ⟨ret_b HQ.out.symm,bw⟩
theorem rises_at {α:Type} {c:α→α→Int} {xs:List α} {j:Nat} {x y:α} (hx:xs[j]?=some x) (hy:xs[j+1]?=some y):rises c (xs.drop j)=(decide (c x y < 0) && rises c (xs.drop (j+1))):=by
 rw [drop_at hx,drop_at hy];rfl
theorem rises_end {α:Type} {c:α→α→Int} {xs:List α} {j:Nat} (h:xs.length≤j+1):rises c (xs.drop j)=true:=by
 have:(xs.drop j).length≤1:=by simp;omega
 match xs.drop j,this with
 | [],_=>rfl
 | [a],_=>rfl
set_option maxRecDepth 100000 in
set_option maxHeartbeats 1000000 in
theorem risingTerm_p (w:World) (v:Value) (xs:List Term) (h:Is w v xs) :
  Calls Tryz.prog 87 #[v,.func (.func 88) #[] #[]] w fun e w'=>e=.returned (.bool (rises tcmp xs))∧Below w.heap.size w w':=by
 obtain ⟨a,c,rfl,hnc,hcm,hr⟩:=list_inv h
 simp only [maxLen] at hcm
 have HR:=Lib.hid hr
 clear hr h
 generalize hN:xs.length=N at *
 have HN:=Lib.hid hN
 clear hN
 go_enter Tryz.func87,Tryz.ntmps87
 go_wp2
 go_loopw [5] (fun kv wr=>∃ m j:Nat,Hid (m=j+1)∧(m=1∨m≤N)∧kv=.int .i64 (m:Int)∧Hid (Below w.heap.size w wr)∧Hid (rises tcmp xs=rises tcmp (xs.drop j))) (fun kv _=>N+1 - (intOf kv).toNat)
 case atStart=>exact ⟨1,0,rfl,.inl rfl,rfl,Below.refl _ _,rfl⟩
 case round =>
  obtain ⟨m,j,HM,hm,rfl,HB,HD⟩:=hrel
  by_cases hji:m < N
  ·have hkz:(m:Int) < (N:Int):=by omega
   have hjm:j < m:=by have:=HM.out;omega
   have hjN:(j:Int) < (N:Int):=by omega
   have hj0:(0:Int)≤(j:Int):=by omega
   have hm0:(0:Int)≤(m:Int):=by omega
   have hsub:IntKind.i64.wrap ((m:Int) - 1)=(j:Int):=by have:=HM.out;rw [show (m:Int) - 1=j by omega];exact IntWalk.i64_in _ (by omega)
   obtain ⟨x,hx⟩:=get_lt (xs:=xs) (k:=j) (by rw [HN.out];omega)
   obtain ⟨y,hy⟩:=get_lt (xs:=xs) (k:=m) (by rw [HN.out];omega)
   obtain ⟨bx,ox,rfl,hbx,x0',x1',-⟩:=Term.at_row HR.out hx
   obtain ⟨b2,o2,he,-,y0',y1',-⟩:=Term.at_row HR.out hy
   cases he
   have x0:=kept HB.out x0'
   have x1:=kept HB.out x1'
   have y0:=kept HB.out y0'
   have y1:=kept HB.out y1'
   have hcall:=fun W=>compareTerms_p x y W
   have HE:Hid (rises tcmp (xs.drop j)=(decide (tcmp x y < 0) && rises tcmp (xs.drop m))):=by show _=_;rw [HM.out] at hy ⊢;exact rises_at hx hy
   clear hx hy x0' x1' y0' y1'
   generalize tcmp x y=t at hcall HE
   cases q:decide (0≤t)
   case true =>
    have HT:Hid (rises tcmp xs=false):=by
     show _=_
     have:=of_decide_eq_true q
     rw [HD.out,HE.out,decide_eq_false (by omega)];rfl
    go_wp2
    refine still_tail 10 (by kernel_rfl) (by kernel_rfl) ?_
    simp only [List.take_succ_cons,List.take_zero,List.drop_succ_cons,List.drop_zero]
    repeat still_step
    refine wpStill_nil ?_
    go_wp2_with fail
    refine (hcall _).mono ?_
    rintro e w2 ⟨rfl,hg⟩
    have HB2:Hid (Below w.heap.size w w2):=HB.out.trans ((((Grew.refl wr).drew.trans hg).below).mono HB.out.size)
    clear hg hcall
    go_wp2
    go_ret
    exact ⟨ret_b HT.out.symm,HB2.out⟩
   case false =>
    have HT:Hid (rises tcmp xs=rises tcmp (xs.drop m)):=by
     show _=_
     have:=of_decide_eq_false q
     rw [HD.out,HE.out,decide_eq_true (by omega)];rfl
    go_wp2
    refine still_tail 10 (by kernel_rfl) (by kernel_rfl) ?_
    simp only [List.take_succ_cons,List.take_zero,List.drop_succ_cons,List.drop_zero]
    repeat still_step
    refine wpStill_nil ?_
    go_wp2_with fail
    refine (hcall _).mono ?_
    rintro e w2 ⟨rfl,hg⟩
    have HB2:Hid (Below w.heap.size w w2):=HB.out.trans ((((Grew.refl wr).drew.trans hg).below).mono HB.out.size)
    clear hg hcall hsub
    go_wp2
    go_roundw
    case rel=>exact ⟨m+1,m,rfl,.inr (by omega),by go_num,HB2,HT⟩
    case measure=>simp [intOf];omega
  ·have hkz:¬ (m:Int) < (N:Int):=by omega
   have HT:Hid (rises tcmp xs=true):=by show _=_;rw [HD.out,rises_end (by have:=HM.out;rw [HN.out];omega)]
   go_wp2
   go_ret
   exact ⟨ret_b HT.out.symm,HB.out⟩
set_option maxRecDepth 100000 in
set_option maxHeartbeats 1000000 in
theorem risingAlt_p (w:World) (v:Value) (xs:List (List Term)) (h:Is w v xs) :
  Calls Tryz.prog 89 #[v,.func (.func 90) #[] #[]] w fun e w'=>e=.returned (.bool (rises acmp xs))∧Below w.heap.size w w':=by
 obtain ⟨a,c,rfl,hnc,hcm,hr⟩:=list_inv h
 simp only [maxLen] at hcm
 have HR:=Lib.hid hr
 clear hr h
 generalize hN:xs.length=N at *
 have HN:=Lib.hid hN
 clear hN
 go_enter Tryz.func89,Tryz.ntmps89
 go_wp2
 go_loopw [5] (fun kv wr=>∃ m j:Nat,Hid (m=j+1)∧(m=1∨m≤N)∧kv=.int .i64 (m:Int)∧Hid (Below w.heap.size w wr)∧Hid (rises acmp xs=rises acmp (xs.drop j))) (fun kv _=>N+1 - (intOf kv).toNat)
 case atStart=>exact ⟨1,0,rfl,.inl rfl,rfl,Below.refl _ _,rfl⟩
 case round =>
  obtain ⟨m,j,HM,hm,rfl,HB,HD⟩:=hrel
  by_cases hji:m < N
  ·have hkz:(m:Int) < (N:Int):=by omega
   have hjm:j < m:=by have:=HM.out;omega
   have hjN:(j:Int) < (N:Int):=by omega
   have hj0:(0:Int)≤(j:Int):=by omega
   have hm0:(0:Int)≤(m:Int):=by omega
   have hsub:IntKind.i64.wrap ((m:Int) - 1)=(j:Int):=by have:=HM.out;rw [show (m:Int) - 1=j by omega];exact IntWalk.i64_in _ (by omega)
   obtain ⟨x,hx⟩:=get_lt (xs:=xs) (k:=j) (by rw [HN.out];omega)
   obtain ⟨y,hy⟩:=get_lt (xs:=xs) (k:=m) (by rw [HN.out];omega)
   obtain ⟨bx,ox,rfl,hbx,ax,cx,x0',hx1,hx2,hx3⟩:=list_at HR.out hx
   obtain ⟨b2,o2,he,-,ay,cy,y0',hy1,hy2,hy3⟩:=list_at HR.out hy
   cases he
   have x0:=kept HB.out x0'
   have y0:=kept HB.out y0'
   have hxi:Is wr (.slice ax x.length cx) x:=list_mk hx1 hx2 (hx3.mono HB.out)
   have hyi:Is wr (.slice ay y.length cy) y:=list_mk hy1 hy2 (hy3.mono HB.out)
   have hcall:=fun W (hb:Below wr.heap.size wr W)=>Compare_p W (.slice ax x.length cx) (.slice ay y.length cy) x y (hxi.mono hb) (hyi.mono hb)
   have HE:Hid (rises acmp (xs.drop j)=(decide (acmp x y < 0) && rises acmp (xs.drop m))):=by show _=_;rw [HM.out] at hy ⊢;exact rises_at hx hy
   clear hx hy x0' y0' hx3 hy3 hxi hyi
   generalize acmp x y=t at hcall HE
   cases q:decide (0≤t)
   case true =>
    have HT:Hid (rises acmp xs=false):=by
     show _=_
     have:=of_decide_eq_true q
     rw [HD.out,HE.out,decide_eq_false (by omega)];rfl
    go_wp2
    refine still_tail 10 (by kernel_rfl) (by kernel_rfl) ?_
    simp only [List.take_succ_cons,List.take_zero,List.drop_succ_cons,List.drop_zero]
    repeat still_step
    refine wpStill_nil ?_
    go_wp2_with fail
    refine (hcall _ (bw)).mono ?_
    rintro e w2 ⟨rfl,hg⟩
    have HB2:Hid (Below w.heap.size w w2):=HB.out.trans ((((Grew.refl wr).drew.trans hg).below).mono HB.out.size)
    clear hg hcall
    go_wp2
    go_ret
    exact ⟨ret_b HT.out.symm,HB2.out⟩
   case false =>
    have HT:Hid (rises acmp xs=rises acmp (xs.drop m)):=by
     show _=_
     have:=of_decide_eq_false q
     rw [HD.out,HE.out,decide_eq_true (by omega)];rfl
    go_wp2
    refine still_tail 10 (by kernel_rfl) (by kernel_rfl) ?_
    simp only [List.take_succ_cons,List.take_zero,List.drop_succ_cons,List.drop_zero]
    repeat still_step
    refine wpStill_nil ?_
    go_wp2_with fail
    refine (hcall _ (bw)).mono ?_
    rintro e w2 ⟨rfl,hg⟩
    have HB2:Hid (Below w.heap.size w w2):=HB.out.trans ((((Grew.refl wr).drew.trans hg).below).mono HB.out.size)
    clear hg hcall hsub
    go_wp2
    go_roundw
    case rel=>exact ⟨m+1,m,rfl,.inr (by omega),by go_num,HB2,HT⟩
    case measure=>simp [intOf];omega
  ·have hkz:¬ (m:Int) < (N:Int):=by omega
   have HT:Hid (rises acmp xs=true):=by show _=_;rw [HD.out,rises_end (by have:=HM.out;rw [HN.out];omega)]
   go_wp2
   go_ret
   exact ⟨ret_b HT.out.symm,HB.out⟩
end Go.Proofs.YtcbopdbbcgdkcaaGreatDoor
namespace Go.Proofs.YtcbopdbbcgdkcaaGreatDoor
open Go Go.RowKit Go.ChangeShapes Go.Sort Go.Lib

theorem row_take {α:Type} [Lay α] {w:World} {a:Option Addr} {xs:List α} (h:Row w a xs) (k:Nat):Row w a (xs.take k):=by
 intro i x hx
 refine h i x ?_
 rw [List.getElem?_take] at hx
 split at hx
 ·exact hx
 ·cases hx
set_option maxRecDepth 100000 in
set_option maxHeartbeats 1000000 in
theorem Check1_p (w:World) (v:Value) (xs:List Term) (h:Is w v xs) :
  Calls Tryz.prog 86 #[v] w fun e w'=>e=.returned (.bool (decide ((64:Int) < xs.length)))∧Below w.heap.size w w':=by
 obtain ⟨a,c,rfl,hnc,hcm,hr⟩:=list_inv h
 simp only [maxLen] at hcm
 clear hr h
 generalize xs.length=N at *
 go_enter Tryz.func86,Tryz.ntmps86
 go_wp2
 go_ret
 exact ⟨rfl,Below.refl _ _⟩
set_option maxRecDepth 100000 in
set_option maxHeartbeats 1000000 in
theorem Check2_p (w:World) (g:Nat) (v1 v2:Value) (xs ys:List Term) (hc:w.cell? ⟨g,0,none⟩=some v1) (h1:Is w v1 xs) (h2:Is w v2 ys) :
  Calls Tryz.prog 91 #[v2,.pointer (some ⟨g,0,none⟩)] w fun e w'=>e=.returned (.bool (conA xs ys))∧Below w.heap.size w w':=by
 have hg:=cell_lt hc
 have HF:=Contains_p w v1 v2 xs ys h1 h2
 obtain ⟨a,c,rfl,-⟩:=list_inv h1
 obtain ⟨b,d,rfl,-⟩:=list_inv h2
 clear h1 h2
 generalize conA xs ys=r at *
 generalize xs.length=N at *
 generalize ys.length=M at *
 go_enter Tryz.func91,Tryz.ntmps91
 go_wp2_with fail
 refine HF.mono ?_
 rintro e w1 ⟨rfl,hb⟩
 go_wp2
 go_ret
 exact ⟨rfl,hb⟩
theorem clash_step {xs:List (List Term)} {k:Nat} {x:List Term} (hx:xs[k]?=some x):clash (xs.take k) (xs.drop k)=((xs.take k).any (conA x) || clash (xs.take (k+1)) (xs.drop (k+1))):=by
 rw [drop_at hx,take_at hx];rfl
set_option maxRecDepth 100000 in
set_option maxHeartbeats 4000000 in
theorem CheckA_p (w:World) (v:Value) (xs:List (List Term)) (h:Is w v xs) :
  Calls Tryz.prog 43 #[v] w fun e w'=>e=.returned (.int .i64 (checkA xs))∧Below w.heap.size w w':=by
 have HI:=Lib.hid h
 obtain ⟨a,c,rfl,hnc,hcm,hr⟩:=list_inv h
 simp only [maxLen] at hcm
 have HR:=Lib.hid hr
 have eg1:∀ args w,(callFunc 86 args).run Tryz.prog w=.ok (.enter 86 args) w:=enters_of Tryz.func86 (by kernel_rfl) rfl
 have HF:=ContainsFuncAlt w (.slice a xs.length c) xs (fun a=>decide ((64:Int) < a.length)) 86 #[] eg1 h (fun i x _ W v _ hv=>Check1_p W v x hv)
 have HB:=Lib.hid (show bigA xs=(decide ((64:Int) < xs.length) || xs.any (fun a=>decide ((64:Int) < a.length))) from rfl)
 clear hr h eg1
 generalize (xs.any fun a=>decide ((64:Int) < a.length))=bb at *
 generalize hN:xs.length=N at *
 have HN:=Lib.hid hN
 clear hN
 cases q0:decide ((64:Int) < (N:Int))
 case true =>
  have HC:Hid (checkA xs=10):=by show (if bigA xs then (10:Int) else _)=_;rw [HB.out,q0];rfl
  clear HF
  go_enter Tryz.func43,Tryz.ntmps43
  go_wp2
  go_ret
  exact ⟨ret_i HC.out.symm,Below.refl _ _⟩
 cases bb
 case true =>
  have HC:Hid (checkA xs=10):=by show (if bigA xs then (10:Int) else _)=_;rw [HB.out,q0];rfl
  go_enter Tryz.func43,Tryz.ntmps43
  go_wp2_with fail
  refine HF.mono ?_
  rintro e w1 ⟨rfl,hb⟩
  go_wp2
  go_ret
  exact ⟨ret_i HC.out.symm,hb⟩
 case false =>
  have HC:Hid (checkA xs=if !xs.all (rises tcmp) then 5 else if !rises acmp xs then 5 else if clash [] xs then 1 else 0):=by
   show (if bigA xs then (10:Int) else _)=_;rw [HB.out,q0];rfl
  clear HB
  go_enter Tryz.func43,Tryz.ntmps43
  go_wp2_with fail
  refine HF.mono ?_
  rintro e w1 ⟨rfl,hb⟩
  have HB1:=Lib.hid hb
  clear hb HF
  go_wp2
  go_loopw [16] (fun kv wr=>∃ k:Nat,k≤N∧kv=.int .i64 k∧Hid (Below w.heap.size w wr)∧Hid ((xs.take k).all (rises tcmp)=true)) (fun kv _=>N - (intOf kv).toNat)
  case atStart=>exact ⟨0,by omega,rfl,HB1,rfl⟩
  case round =>
   obtain ⟨k,hk,rfl,HB,HD⟩:=hrel
   by_cases hki:k < N
   ·have hkz:(k:Int) < (N:Int):=by omega
    obtain ⟨x,hx⟩:=get_lt (xs:=xs) (k:=k) (by rw [HN.out];exact hki)
    obtain ⟨bx,ox,rfl,hbx,ax,cx,x0',hx1,hx2,hx3⟩:=list_at HR.out hx
    have x0:=kept HB.out x0'
    have hsx:=cell_lt x0
    have hcall:=risingTerm_p wr _ x (list_mk hx1 hx2 (hx3.mono HB.out))
    have HX:=Lib.hid hx
    clear hx x0' hx3
    cases q:rises tcmp x
    case false =>
     have HT:Hid (xs.all (rises tcmp)=false):=by
      show _=_
      rw [List.all_eq_false];exact ⟨x,List.mem_of_getElem? HX.out,by rw [q];decide⟩
     rw [q] at hcall
     clear q
     go_wp2_with fail
     refine hcall.mono ?_
     rintro e w2 ⟨rfl,hb2⟩
     have HB2:=Lib.hid (HB.out.trans (hb2.mono HB.out.size))
     clear hb2 hcall
     go_wp2
     go_ret
     exact ⟨ret_i (by rw [HC.out,HT.out];rfl),HB2.out⟩
    case true =>
     have HT:Hid ((xs.take (k+1)).all (rises tcmp)=true):=by
      show _=_
      rw [take_at HX.out,List.all_append,HD.out,List.all_cons,q];rfl
     rw [q] at hcall
     clear q
     go_wp2_with fail
     refine hcall.mono ?_
     rintro e w2 ⟨rfl,hb2⟩
     have HB2:=Lib.hid (HB.out.trans (hb2.mono HB.out.size))
     clear hb2 hcall
     go_wp2
     go_roundw
     case rel=>exact ⟨k+1,by omega,by go_num,HB2,HT⟩
     case measure=>simp [intOf];omega
   ·have hkz:¬ (k:Int) < (N:Int):=by omega
    have HT:Hid (checkA xs=if !rises acmp xs then 5 else if clash [] xs then 1 else 0):=by
     show _=_
     have h1:=HD.out
     rw [List.take_of_length_le (by rw [HN.out];omega)] at h1
     rw [HC.out,h1];rfl
    have hcall:=risingAlt_p wr _ xs (HI.out.mono HB.out)
    clear HC HD HB1
    cases q:rises acmp xs
    case false =>
     rw [q] at hcall
     have HT2:Hid (checkA xs=5):=by show _=_;rw [HT.out,q];rfl
     clear q
     go_wp2_with fail
     refine hcall.mono ?_
     rintro e w2 ⟨rfl,hb2⟩
     have HB2:=Lib.hid (HB.out.trans (hb2.mono HB.out.size))
     clear hb2 hcall
     go_wp2
     go_ret
     exact ⟨ret_i HT2.out.symm,HB2.out⟩
    case true =>
     rw [q] at hcall
     have HT2:Hid (checkA xs=if clash [] xs then 1 else 0):=by show _=_;rw [HT.out,q];rfl
     clear q HT
     go_wp2_with fail
     refine hcall.mono ?_
     rintro e w2 ⟨rfl,hb2⟩
     have HB2:=Lib.hid (HB.out.trans (hb2.mono HB.out.size))
     clear hb2 hcall HB hkz hki hk
     go_wp2
     go_loopw [29] (fun kv wr=>∃ k:Nat,k≤N∧kv=.int .i64 k∧Hid (Below w.heap.size w wr)∧Hid (clash [] xs=clash (xs.take k) (xs.drop k))) (fun kv _=>N - (intOf kv).toNat)
     case atStart=>exact ⟨0,by omega,rfl,HB2,rfl⟩
     case round =>
      obtain ⟨k,hk,rfl,HB,HD⟩:=hrel
      by_cases hki:k < N
      ·have hkz:(k:Int) < (N:Int):=by omega
       have hkc:k≤c:=by omega
       obtain ⟨x,hx⟩:=get_lt (xs:=xs) (k:=k) (by rw [HN.out];exact hki)
       obtain ⟨bx,ox,rfl,hbx,ax,cx,x0',hx1,hx2,hx3⟩:=list_at HR.out hx
       have x0:=kept HB.out x0'
       have hsx:=cell_lt x0
       have hba:Below wr.heap.size wr (wr.alloc (.cells #[.slice ax x.length cx] 59)):=bw
       have hcell:(wr.alloc (.cells #[.slice ax x.length cx] 59)).cell? ⟨wr.heap.size,0,none⟩=some (.slice ax x.length cx):=by simp
       have hxi:Is (wr.alloc (.cells #[.slice ax x.length cx] 59)) (.slice ax x.length cx) x:=list_mk hx1 hx2 ((hx3.mono HB.out).mono hba)
       have eg2:∀ args w,(callFunc 91 args).run Tryz.prog w=.ok (.enter 91 args) w:=enters_of Tryz.func91 (by kernel_rfl) rfl
       have hlen:(xs.take k).length=k:=by rw [List.length_take,HN.out];omega
       have hpre:Is (wr.alloc (.cells #[.slice ax x.length cx] 59)) (.slice (some ⟨bx,ox,none⟩) (xs.take k).length c) (xs.take k):=list_mk (by omega) (by simp only [maxLen];omega) ((row_take HR.out k).mono HB.out |>.mono hba)
       rw [hlen] at hpre
       have hcall:=ContainsFuncAlt (wr.alloc (.cells #[.slice ax x.length cx] 59)) (.slice (some ⟨bx,ox,none⟩) k c) (xs.take k) (conA x) 91 #[.pointer (some ⟨wr.heap.size,0,none⟩)] eg2 hpre (fun i y _ W v hb hv =>
        Check2_p W wr.heap.size (.slice ax x.length cx) v x y (kept hb hcell) (hxi.mono hb) hv)
       have HS:=Lib.hid (clash_step hx)
       clear hx x0' hx3 hba hcell hxi eg2 hlen hpre
       generalize (xs.take k).any (conA x)=bb at hcall HS
       cases bb
       case true =>
        have HT:Hid (checkA xs=1):=by show _=_;rw [HT2.out,HD.out,HS.out];rfl
        go_wp2_with fail
        refine hcall.mono ?_
        rintro e w3 ⟨rfl,hb3⟩
        have HB3:Hid (Below w.heap.size w w3):=(HB.out.alloc HB.out.size _).trans (hb3.mono (by have:=HB.out.size;simp;omega))
        clear hb3 hcall
        go_wp2
        go_ret
        exact ⟨ret_i HT.out.symm,HB3.out⟩
       case false =>
        have HT:Hid (clash [] xs=clash (xs.take (k+1)) (xs.drop (k+1))):=by show _=_;rw [HD.out,HS.out];rfl
        go_wp2_with fail
        refine hcall.mono ?_
        rintro e w3 ⟨rfl,hb3⟩
        have HB3:Hid (Below w.heap.size w w3):=(HB.out.alloc HB.out.size _).trans (hb3.mono (by have:=HB.out.size;simp;omega))
        clear hb3 hcall
        go_wp2
        go_roundw
        case rel=>exact ⟨k+1,by omega,by go_num,HB3,HT⟩
        case measure=>simp [intOf];omega
      ·have hkz:¬ (k:Int) < (N:Int):=by omega
       have HT:Hid (checkA xs=0):=by
        show _=_
        have h1:=HD.out
        rw [List.drop_eq_nil_of_le (by rw [HN.out];omega)] at h1
        rw [HT2.out,h1];rfl
       go_wp2
       go_ret
       exact ⟨ret_i HT.out.symm,HB.out⟩
end Go.Proofs.YtcbopdbbcgdkcaaGreatDoor
