/- Lemmas. -/
import Derived.Test.YtcbopdbbcgdkcaaGreatDoorLDuG
import Derived.Test.YtcbopdbbcgdkcaaGreatDoorLReadW
set_option linter.all false
set_option maxRecDepth 100000
set_option maxHeartbeats 16000000
namespace Go.Proofs.YtcbopdbbcgdkcaaGreatDoor
open Go Go.RowKit Go.ChangeShapes
def dL:List UInt8:=[108,105,99,101,110,115,101,32,97,32,97,32,49,32,48,10,108,105,99,101,110,115,101,32,98,32,98,32,49,32,48,10,99,108,97,117,115,101,32,97,32,98,105,110,97,114,121,32,105,110,32,116,101,120,116,10]
def dA:ByteArray:=⟨#[97]⟩
def dB:ByteArray:=⟨#[98]⟩
def dComp:ByteArray:=⟨#[120,47,102]⟩
def dOut:ByteArray:=⟨#[120,47,111,117,116]⟩
def dE:ByteArray:=⟨#[]⟩
def dC:Catalog:=⟨[⟨dA,dA,1,mkS []⟩,⟨dB,dB,1,mkS []⟩],[],[⟨dA,1,0,0,[]⟩],[]⟩
def dZ:LExpr:=.mk 0 dE dE []
def dOr:LExpr:=.mk 3 dE dE [.mk 0 dA dE [],.mk 0 dB dE []]
def dX:List Fact:=[⟨1,dComp,dE,0,0,0,false,dOr,[]⟩,⟨0,dComp,dOut,0,0,0,false,dZ,[]⟩,⟨2,dE,dOut,0,1,0,false,dZ,[]⟩]
def dBad:Fact:=⟨9,dE,dE,0,0,0,false,dZ,[]⟩
def dY0:Choice:=⟨[[⟨dA,dE⟩]],[dA]⟩
def dY3:Choice:=⟨[[⟨dB,dE⟩]],[dB]⟩
def dDue:Due:=⟨dOut,dComp,⟨dA,dE⟩,1,0,0⟩
theorem d_parse:parseC (mkS dL)=(0,0,dC):=by decide +kernel
theorem d_count:countC dC dX=(4,0):=by decide +kernel
theorem d_values:valuesC dC dX=([[[⟨dA,dE⟩],[⟨dB,dE⟩]]],[dOut],0):=by decide +kernel
theorem d_nth0:(nthC dC dX 0).1.terms=dY0.terms∧(nthC dC dX 0).1.own=dY0.own∧(nthC dC dX 0).2=0:=by decide +kernel
theorem d_nth3:(nthC dC dX 3).1.terms=dY3.terms∧(nthC dC dX 3).1.own=dY3.own∧(nthC dC dX 3).2=0:=by decide +kernel
theorem d_n0:(nthC dC dX 0).1=dY0∧(nthC dC dX 0).2=0:=⟨(show (nthC dC dX 0).1=⟨(nthC dC dX 0).1.terms,(nthC dC dX 0).1.own⟩ from rfl).trans (by rw [d_nth0.1,d_nth0.2.1]),d_nth0.2.2⟩
theorem d_n3:(nthC dC dX 3).1=dY3∧(nthC dC dX 3).2=0:=⟨(show (nthC dC dX 3).1=⟨(nthC dC dX 3).1.terms,(nthC dC dX 3).1.own⟩ from rfl).trans (by rw [d_nth3.1,d_nth3.2.1]),d_nth3.2.2⟩
theorem d_dues:dutiesC dC dX dY0=([dDue],0)∧dutiesC dC dX dY3=([],0):=by decide +kernel
theorem d_check:caseE dC (dX++[dBad])=(3,1):=by decide +kernel
theorem d_choice:choiceE dC dX dY3 false=0:=by decide +kernel
def dBy:ByteArray:=⟨#[108,105,99,101,110,115,101,32,97,32,97,32,49,32,48,10,108,105,99,101,110,115,101,32,98,32,98,32,49,32,48,10,99,108,97,117,115,101,32,97,32,98,105,110,97,114,121,32,105,110,32,116,101,120,116,10]⟩
theorem d_mk:mkS dL=dBy:=by decide +kernel
theorem d_read:(readLines 0 0 emptyC (textLines (mkS dL))).2.2.licenses.length=2∧(readLines 0 0 emptyC (textLines (mkS dL))).2.2.exceptions.length=0∧(readLines 0 0 emptyC (textLines (mkS dL))).2.2.clauses.length=1∧(readLines 0 0 emptyC (textLines (mkS dL))).2.2.apart.length=0:=by decide +kernel
theorem dParse (w:World) (hg:Glob w):Calls Tryz.prog 46 #[.string ⟨#[108,105,99,101,110,115,101,32,97,32,97,32,49,32,48,10,108,105,99,101,110,115,101,32,98,32,98,32,49,32,48,10,99,108,97,117,115,101,32,97,32,98,105,110,97,114,121,32,105,110,32,116,101,120,116,10]⟩] w fun e w'=>∃ v,e=.returned (.tuple #[v,.int .i64 0,.int .i64 0])∧Is w' v dC∧Below w.heap.size w w':=by
 have h:=Parse_s w (mkS dL) hg (by rw [mkS_size];decide +kernel) (fun a c hr=>by
  obtain ⟨h1,h2,h3,h4⟩:=d_read;rw [hr] at h1 h2 h3 h4;simp only at h1 h2 h3 h4;exact ⟨by omega,by omega,by omega,by omega⟩)
 rw [d_mk] at h;refine h.mono ?_;rintro e w' ⟨v,he,hi,hb⟩;have hp:=d_parse;rw [d_mk] at hp;rw [hp] at he hi;exact ⟨v,he,hi,hb⟩
open Go.Sort Go.Lib
theorem keyOf_parts {P:Program} {k:TypeId} {fs:Array Field} (hu:P.underlying k=some (.struct fs)) {v:Value} {l:Lit} (h:keyOf P k v=some l):v.formed P k=true∧∃ ls,P.keyLits (P.types.size+1) k v.cells.toList=some ls∧l=.string (keyBytes ls):=by
 unfold keyOf at h;rw [hu] at h;simp only at h;split at h
 ·rename_i hq
  rw [Bool.and_eq_true] at hq;cases hl:P.keyLits (P.types.size+1) k v.cells.toList with
  | none=>rw [hl] at h;cases h
  | some ls=>rw [hl] at h;cases h;exact ⟨hq.2,ls,rfl,rfl⟩
 ·cases h
theorem types_le:Tryz.prog.types.size+1≤10000:=of_decide_eq_true (by as_aux_lemma=>kernel_rfl)
theorem fuel_split {m:Nat} (h:m≤10000):∃ n,10000=n+m:=⟨10000 - m,by omega⟩
theorem eqDue (d e:OkD) (w:World):(Op.equalIn 10000 63 (dueV d.1) (dueV e.1)).run Tryz.prog w=.ok (decide (d.1=e.1)) w:=by
 obtain ⟨f1,l1,k1,-⟩:=keyOf_parts Tryz.underlying63 (keyD_is d);obtain ⟨f2,l2,k2,-⟩:=keyOf_parts Tryz.underlying63 (keyD_is e);obtain ⟨n,hn⟩:=fuel_split types_le;rw [hn];obtain ⟨r,h1,h2⟩:=run_equalIn_deep n (Tryz.prog.types.size+1) 63 key_type_due w _ _ _ _ _ _ f1 f2 k1 k2;rw [h1];congr 1;rw [Bool.eq_iff_iff,h2,decide_eq_true_iff];constructor
 ·intro q;subst q;have K:=law_due laid_due key_type_due;refine dueV_inj (K.inj (l:=keyD d) (keyD_is d) ?_);have e1:keyOf Tryz.prog 63 (dueV d.1)=keyOf Tryz.prog 63 (dueV e.1):=by
   obtain ⟨-,m1,p1,q1⟩:=keyOf_parts Tryz.underlying63 (keyD_is d);obtain ⟨-,m2,p2,q2⟩:=keyOf_parts Tryz.underlying63 (keyD_is e);rw [k1] at p1;rw [k2] at p2;cases p1;cases p2;rw [keyD_is d,keyD_is e,q1,q2]
  rw [← e1];exact keyD_is d
 ·intro q;have:d=e:=Subtype.ext q;subst this;rw [k1] at k2;cases k2;rfl
theorem neqDue (d e:OkD) (w:World):(Go.binOp BinOp.neq 63 (dueV d.1) (dueV e.1)).run Tryz.prog w=.ok (.bool (!decide (d.1=e.1))) w:=by
 have h:=eqDue d e w;unfold dueV at h ⊢;rw [run_neq_struct,h];rfl
theorem eqlDue (d e:OkD) (w:World):(Go.binOp BinOp.eql 63 (dueV d.1) (dueV e.1)).run Tryz.prog w=.ok (.bool (decide (d.1=e.1))) w:=by
 have h:=eqDue d e w;unfold dueV at h ⊢;rw [run_eql_struct,h];rfl
theorem EqualDue_p (w:World) (v1 v2:Value) (xs ys:List Due) (h1:Is w v1 xs) (h2:Is w v2 ys) :
  Calls Tryz.prog 32 #[v1,v2] w fun e w'=>e=.returned (.bool (decide (xs=ys)))∧Below w.heap.size w w':=by
 obtain ⟨a,c,rfl,hnc,hcm,hr⟩:=list_inv h1;obtain ⟨a2,c2,rfl,hnd,hdm,hs⟩:=list_inv h2;simp only [maxLen] at hcm hdm;have HR:=zh hr;have HS:=zh hs;clear hr hs h1 h2;generalize hN:xs.length=N at *;have HN:=zh hN;clear hN;generalize hM:ys.length=M at *;have HM:=zh hM;clear hM;by_cases hne:N=M
 ·subst hne;go_enter Tryz.func32,Tryz.ntmps32;go_wp2;go_loopw [13] (fun kv wr=>∃ k:Nat,k≤N∧kv=.int .i64 k∧(∃ n,wr=w.drewN n)∧Hid (decide (xs=ys)=decide (xs.drop k=ys.drop k))) (fun kv _=>N - (intOf kv).toNat)
  case atStart=>exact ⟨0,by omega,rfl,⟨0,rfl⟩,rfl⟩
  case round =>
   obtain ⟨k,hk,rfl,⟨n,rfl⟩,hf⟩:=hrel;by_cases hki:k < N
   ·have hkz:(k:Int) < (N:Int):=by omega
    have hk0:(0:Int)≤(k:Int):=by omega
    obtain ⟨x,hx⟩:=get_lt (xs:=xs) (k:=k) (by rw [HN.out];exact hki);obtain ⟨y,hy⟩:=get_lt (xs:=ys) (k:=k) (by rw [HM.out];exact hki);have hd:=zh (dec_cons (drop_at hx) (drop_at hy) _ hf.out);obtain ⟨o1,m1,⟨t1,s1⟩,p1,r1,v1⟩:=x;obtain ⟨o2,m2,⟨t2,s2⟩,p2,r2,v2⟩:=y;obtain ⟨b,off,rfl,hb,y0,y1,y2,y3,y4,y5,y6,hk1⟩:=Due.at_row HR.out hx;obtain ⟨b',off',rfl,hb',u0,u1,u2,u3,u4,u5,u6,hk2⟩:=Due.at_row HS.out hy;have hq:=fun W=>neqDue ⟨⟨o1,m1,⟨t1,s1⟩,p1,r1,v1⟩,hk1⟩ ⟨⟨o2,m2,⟨t2,s2⟩,p2,r2,v2⟩,hk2⟩ W;simp only [dueV] at hq;clear hx hy;cases e9:decide ((⟨o1,m1,⟨t1,s1⟩,p1,r1,v1⟩:Due)=⟨o2,m2,⟨t2,s2⟩,p2,r2,v2⟩);case false =>
     rw [e9] at hq;have HF:Hid (decide (xs=ys)=false):=by show _=_;rw [hd.out,e9];simp
     clear hd e9 hf;go_wp2;go_quiet (fail)
     go_wp2;go_ret;exact ⟨ret_b HF.out.symm,bw⟩
    case true =>
     rw [e9] at hq;have HT:Hid (decide (xs=ys)=decide (xs.drop (k+1)=ys.drop (k+1))):=by show _=_;rw [hd.out,e9,Bool.true_and]
     clear hd e9 hf;go_wp2;go_quiet (fail)
     go_wp2;go_roundw
     case rel=>exact ⟨k+1,by omega,by go_num,⟨_,rfl⟩,HT⟩
     case measure=>exact zm
   ·have hkz:¬ (k:Int) < (N:Int):=by omega
    have HT:Hid (decide (xs=ys)=true):=by
     show _=_;rw [hf.out,List.drop_eq_nil_of_le (by rw [HN.out];omega),List.drop_eq_nil_of_le (by rw [HM.out];omega)];simp
    clear hf;go_wp2;go_ret;exact ⟨ret_b HT.out.symm,bw⟩
 ·have q1:((N:Int) == (M:Int))=false:=by simpa using fun h=>hne (by omega)
  have q2:((N:Int) != (M:Int))=true:=by simpa using fun h=>hne (by omega)
  have HT:Hid (decide (xs=ys)=false):=by
   show _=_;rw [decide_eq_false_iff_not];rintro rfl;exact hne (HN.out.symm.trans HM.out)
  clear hne;go_enter Tryz.func32,Tryz.ntmps32;go_wp2;go_ret;exact ⟨ret_b HT.out.symm,Below.refl _ _⟩
theorem EqualS_p (w:World) (x0 x1:Value) (xs ys:List ByteArray) (h:Is w x0 xs) (h1:Is w x1 ys) :
  Calls Tryz.prog 47 #[x0,x1] w fun e w'=>e=.returned (.bool (decide (xs=ys)))∧Below w.heap.size w w':=by
 obtain ⟨a,c,rfl,hnc,hc,hr⟩:=list_inv h;obtain ⟨a1,c1,rfl,hnc1,hc1,hr1⟩:=list_inv h1;unfold maxLen at hc hc1;by_cases hne:xs.length=ys.length
 ·by_cases h0:xs.length=0
  ·have e0:xs=[]:=List.length_eq_zero_iff.1 h0;have e1:ys=[]:=List.length_eq_zero_iff.1 (by omega);subst e0 e1;refine (Tryz.slices_Equal_string_empty a a1 c 0 c1 w (by omega)).mono ?_;rintro e w' ⟨rfl,rfl⟩;exact ⟨rfl,Below.refl _ _⟩
  ·obtain ⟨x,hx⟩:=get_lt (xs:=xs) (k:=0) (by omega);obtain ⟨y,hy⟩:=get_lt (xs:=ys) (k:=0) (by omega);obtain ⟨b,off,rfl,-⟩:=str_at hr hx;obtain ⟨b1,off1,rfl,-⟩:=str_at hr1 hy;refine (Tryz.slices_Equal_string b off xs.length c b1 off1 ys.length c1 xs ys w (Nat.le_refl _) (Nat.le_refl _) (by omega) (by omega) ?_ ?_).mono ?_
   ·intro j hj;obtain ⟨z,hz⟩:=get_lt (xs:=xs) (k:=j) hj;obtain ⟨b',off',he,-,h2,-⟩:=str_at hr hz;cases he;rw [h2,List.getD_eq_getElem?_getD,hz];rfl
   ·intro j hj;obtain ⟨z,hz⟩:=get_lt (xs:=ys) (k:=j) hj;obtain ⟨b',off',he,-,h2,-⟩:=str_at hr1 hz;cases he;rw [h2,List.getD_eq_getElem?_getD,hz];rfl
   ·rintro e w' ⟨rfl,q,rfl⟩;refine ⟨?_,below_drewN _ _⟩;rw [List.take_of_length_le (Nat.le_refl _),List.take_of_length_le (Nat.le_refl _)]
 ·refine (Tryz.slices_Equal_string_lens a a1 xs.length c ys.length c1 w hne).mono ?_;rintro e w' ⟨rfl,rfl⟩;refine ⟨?_,Below.refl _ _⟩;rw [decide_eq_false];rintro rfl;exact hne rfl
theorem due_one (w:World) (d:Due) (hd:okD d):Is (w.alloc (.cells (encD d).toArray 63)) (.slice (some ⟨w.heap.size,0,none⟩) 1 1) [d] :=
 RowD.is (B:=w.heap.size) ⟨⟨rfl,.inr ⟨w.heap.size,1,(encD d).toArray,rfl,Nat.le_refl _,World.alloc_heap_new w _,Nat.le_refl _,by decide,rfl,by simp [encD]⟩⟩,fun x hx=>by simp at hx;subst hx;exact hd⟩
theorem str_one (w:World) (s:ByteArray) (hs:s.size≤maxLen):Is (w.alloc (.cells #[.string s] 9)) (.slice (some ⟨w.heap.size,0,none⟩) 1 1) [s]:=by
 refine list_mk (xs:=[s]) (Nat.le_refl _) (by decide) (fun i x hx=>⟨w.heap.size,0,rfl,by simp,?_⟩);match i,hx with
 | 0,hx =>
  cases hx;exact ⟨objcell (World.alloc_heap_new w (.cells #[.string s] 9)) (j:=0) rfl,hs⟩
 | i+1,hx=>simp at hx
end Go.Proofs.YtcbopdbbcgdkcaaGreatDoor
