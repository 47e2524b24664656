/- Lemmas. -/
import Derived.Test.YtcbopdbbcgdkcaaGreatDoorLLexU
set_option linter.all false
set_option maxRecDepth 100000
set_option maxHeartbeats 16000000
namespace Go.Proofs.YtcbopdbbcgdkcaaGreatDoor
open Go

def bef (a b:Term):Bool:=slt a.license b.license || (seq a.license b.license && slt a.exception b.exception)
theorem bef_eq (a b:Term):bef a b=decide (tcmp a b < 0):=by
 have h0:∀ x y:ByteArray,slt x y=decide (scmp x y < 0):=fun x y=>by
  unfold scmp;cases slt x y
  ·cases slt y x <;> rfl
  ·rfl
 unfold bef tcmp lex2;by_cases h:a.license=b.license
 ·have e:scmp a.license b.license=0:=(scmp_to.eq _ _).2 h;have e2:seq a.license b.license=true:=by rw [seq_eq];exact decide_eq_true h
  rw [if_pos e,e2,h0 a.license,e,h0];simp
 ·have e:¬ scmp a.license b.license=0:=fun h2=>h ((scmp_to.eq _ _).1 h2);have e2:seq a.license b.license=false:=by rw [seq_eq];exact decide_eq_false h
  rw [if_neg e,e2,h0];simp
def addT:List Term→Term→List Term
 | [],t=>[t]
 | x :: r,t=>if x=t then x :: r else if bef t x then t :: x :: r else x :: addT r t
def joinT (a b:List Term):List Term:=b.foldl addT (a.foldl addT [])
theorem addT_mem {t u:Term}:∀ {l:List Term},u∈addT l t↔u=t∨u∈l
 | []=>by simp [addT]
 | x :: r=>by
  unfold addT;split
  ·rename_i h;subst h;simp
  ·split
   ·simp
   ·rw [List.mem_cons,addT_mem,List.mem_cons];constructor
    ·rintro (h | h | h) <;> simp [h]
    ·rintro (h | h | h) <;> simp [h]
theorem addT_incr {t:Term}:∀ {l:List Term},(l.Pairwise fun x y=>tcmp x y < 0)→(addT l t).Pairwise fun x y=>tcmp x y < 0
 | [],_=>by simp [addT]
 | x :: r,h=>by
  obtain ⟨h1,h2⟩:=List.pairwise_cons.1 h;unfold addT;split
  ·exact h
  ·rename_i hn
   split
   ·rename_i hb
    rw [bef_eq,decide_eq_true_iff] at hb;refine List.pairwise_cons.2 ⟨fun z hz=>?_,h⟩;rcases List.mem_cons.1 hz with rfl | hz
    ·exact hb
    ·exact tcmp_to.tr _ _ _ hb (h1 z hz)
   ·rename_i hb
    rw [bef_eq,decide_eq_true_iff] at hb;refine List.pairwise_cons.2 ⟨fun z hz=>?_,addT_incr h2⟩;rcases addT_mem.1 hz with rfl | hz
    ·have:=tcmp_to.sw x z;exact tcmp_to.le_lt (by omega) hn
    ·exact h1 z hz
theorem foldT {l:List Term}:∀ {acc:List Term},(acc.Pairwise fun x y=>tcmp x y < 0)→((l.foldl addT acc).Pairwise fun x y=>tcmp x y < 0)∧∀ t,t∈l.foldl addT acc↔t∈acc∨t∈l:=by
 induction l with
 | nil=>intro acc h;exact ⟨h,by simp⟩
 | cons x r ih =>
  intro acc h;obtain ⟨h1,h2⟩:=ih (addT_incr (t:=x) h);refine ⟨h1,fun t=>?_⟩;rw [List.foldl_cons,h2,addT_mem,List.mem_cons];constructor
  ·rintro ((h | h) | h) <;> simp [h]
  ·rintro (h | h | h) <;> simp [h]
theorem joinT_norm (a b:List Term):joinT a b=normT (a++b):=by
 obtain ⟨h1,h2⟩:=foldT (l:=a) (acc:=[]) List.Pairwise.nil;obtain ⟨h3,h4⟩:=foldT (l:=b) h1;refine altInc_eq tcmp_to h3 (normT_incr _) fun t=>?_;rw [normT_mem];unfold joinT;rw [h4,h2];simp
def keepR (all:List (List Term)) (i:Nat):Bool :=
 !(List.range all.length).any fun k=>!(k == i) && conA (all.getD i []) (all.getD k []) && (decide ((all.getD k []).length < (all.getD i []).length) || decide (k < i))
def minimalR (l:List (List Term)):List (List Term) :=
 let all:=l.map normT
 sortS (ltC acmp) (((List.range all.length).filter (keepR all)).map fun i=>all.getD i [])
theorem getD_lt {α:Type} {l:List α} {d:α} {i:Nat} (hi:i < l.length):l.getD i d=l[i]:=by rw [List.getD_eq_getElem?_getD,List.getElem?_eq_getElem hi];rfl
theorem keepR_iff {all:List (List Term)} {i:Nat}:keepR all i=true↔∀ k,k < all.length→k≠i→conA (all.getD i []) (all.getD k [])=true→¬ (all.getD k []).length < (all.getD i []).length∧¬ k < i:=by
 unfold keepR;rw [Bool.not_eq_true',List.any_eq_false];constructor
 ·intro h k hk hne hc;have:=h k (List.mem_range.2 hk);rw [hc] at this;simpa [hne] using this
 ·intro h k hk;have hk:=List.mem_range.1 hk;by_cases hne:k=i
  ·simp [hne]
  ·cases hc:conA (all.getD i []) (all.getD k [])
   ·simp
   ·simpa [hne] using h k hk hne hc
theorem keepR_sat {all:List (List Term)} (h1:∀ a∈all,a.Pairwise fun x y=>tcmp x y < 0) (ts:List Term):∀ (n m i:Nat),i < all.length→(all.getD i []).length≤n→i≤m→conA ts (all.getD i [])=true →
  ∃ k,k < all.length∧keepR all k=true∧conA ts (all.getD k [])=true
 | n,m,i,hi,hn,hm,hc=>by
  cases hk:keepR all i
  ·have hk:¬ keepR all i=true:=by rw [hk];decide
   rw [keepR_iff] at hk;simp only [Classical.not_forall] at hk;obtain ⟨k,hkl,hne,hcon,hh⟩:=hk;have hs:=con_sub (h1 _ (by rw [getD_lt hi];exact List.getElem_mem hi)) (h1 _ (by rw [getD_lt hkl];exact List.getElem_mem hkl)) hcon;have hl:=hs.length_le;by_cases hlt:(all.getD k []).length < (all.getD i []).length
   ·cases n with
    | zero=>omega
    | succ n=>exact keepR_sat h1 ts n all.length k hkl (by omega) (by omega) (conA_trans hc hcon)
   ·cases m with
    | zero=>exact absurd ⟨hlt,by omega⟩ hh
    | succ m=>exact keepR_sat h1 ts n m k hkl (by omega) (by
      rcases Nat.lt_or_ge k i with h2 | h2
      ·omega
      ·exact absurd ⟨hlt,by omega⟩ hh) (conA_trans hc hcon)
  ·exact ⟨i,hi,hk,hc⟩
 termination_by n m=>(n,m)
theorem minimal_same (l:List (List Term)):minimalR l=minimalP l:=by
 have hall:∀ a∈l.map normT,a.Pairwise fun x y=>tcmp x y < 0:=fun a ha=>by
  obtain ⟨y,-,rfl⟩:=List.mem_map.1 ha;exact normT_incr y
 have hsat:∀ ts,satP (l.map normT) ts=satP l ts:=satP_norm l;unfold minimalR;generalize l.map normT=all at *;simp only;have hmem:∀ x,x∈((List.range all.length).filter (keepR all)).map (fun i=>all.getD i [])↔∃ i,i < all.length∧keepR all i=true∧all.getD i []=x:=by
  intro x;simp [List.mem_map,List.mem_filter,and_assoc]
 have hin:∀ i,i < all.length→all.getD i []∈all:=fun i hi=>by rw [getD_lt hi];exact List.getElem_mem hi
 have happ:∀ i,i < all.length→∀ k,k < all.length→keepR all i=true→conA (all.getD i []) (all.getD k [])=true→all.getD i []=all.getD k []:=by
  intro i hi k hk hki hc;by_cases hne:k=i
  ·rw [hne]
  ·have h2:=(keepR_iff.1 hki k hk hne hc).1;have hs:=con_sub (hall _ (hin i hi)) (hall _ (hin k hk)) hc;exact (hs.eq_of_length (Nat.le_antisymm hs.length_le (by omega))).symm
 refine min_unique ⟨?_,?_,?_⟩ (minimal_min l) fun ts=>?_
 ·intro a ha;obtain ⟨i,hi,-,rfl⟩:=(hmem a).1 ((sortS_permA _ _).mem_iff.1 ha);exact hall _ (hin i hi)
 ·have hnd:(((List.range all.length).filter (keepR all)).map fun i=>all.getD i []).Nodup:=by
   unfold List.Nodup;rw [List.pairwise_map];have h3:((List.range all.length).filter (keepR all)).Pairwise (· < ·):=(List.pairwise_lt_range).filter _;refine h3.imp_of_mem fun {i k} hi hk hik he=>?_;have hi:=List.mem_filter.1 hi;have hk:=List.mem_filter.1 hk;have:=(keepR_iff.1 hk.2 i (List.mem_range.1 hi.1) (by omega) (by rw [he];exact conA_refl _)).2;omega
  have hnd2:=(sortS_permA (ltC acmp) _).nodup_iff.2 hnd;have hle:=sortS_le acmp_to (((List.range all.length).filter (keepR all)).map fun i=>all.getD i []);exact (hle.and hnd2).imp fun {a b} ⟨h1,h2⟩=>acmp_to.le_lt h1 h2
 ·intro a ha b hb hc;obtain ⟨i,hi,hki,rfl⟩:=(hmem a).1 ((sortS_permA _ _).mem_iff.1 ha);obtain ⟨k,hk,-,rfl⟩:=(hmem b).1 ((sortS_permA _ _).mem_iff.1 hb);exact happ i hi k hk hki hc
 ·rw [minimal_sat,satP_perm (sortS_permA _ _),← hsat,Bool.eq_iff_iff,satP_iff,satP_iff];constructor
  ·rintro ⟨a,ha,hc⟩;obtain ⟨i,hi,-,rfl⟩:=(hmem a).1 ha;exact ⟨_,hin i hi,hc⟩
  ·rintro ⟨a,ha,hc⟩;obtain ⟨i,hi,rfl⟩:=List.mem_iff_getElem.1 ha;obtain ⟨k,hk,hkk,hck⟩:=keepR_sat hall ts _ i i hi (Nat.le_refl _) (Nat.le_refl _) (by rw [getD_lt hi];exact hc);exact ⟨_,(hmem _).2 ⟨k,hk,hkk,rfl⟩,hck⟩
open Go.RowKit Go.ChangeShapes Go.Lib

theorem tkS:(∀ (α:Type) (l:List α) (i:Nat) (h:i < l.toArray.size),l.toArray[i]=l[i]'(by simpa using h))∧(∀ (α:Type) (a:α) (l:List α) (h:0 < (a :: l).length),(a :: l)[0]=a) ∧
  (∀ (α:Type) (a:α) (l:List α) (i:Nat) (h:i+1 < (a :: l).length),(a :: l)[i+1]=l[i]'(by simpa using h))∧(∀ (α:Type) (l:List α) (i:Nat) (a:α),l.toArray.setIfInBounds i a=(l.set i a).toArray) ∧
  (∀ (α:Type) (a b:α) (l:List α),(a :: l).set 0 b=b :: l)∧(∀ (α:Type) (a b:α) (l:List α) (i:Nat),(a :: l).set (i+1) b=a :: l.set i b) :=
 ⟨fun _ _ _ _=>List.getElem_toArray _,fun _ _ _ _=>rfl,fun _ _ _ _ _=>rfl,fun _ _ _ _=>List.setIfInBounds_toArray ..,fun _ _ _ _=>rfl,fun _ _ _ _ _=>rfl⟩
theorem tkB {P:Program} {ops:Array Oper} {Q:Exit→Act→World→Prop} {md:Region.Mode} {S:World→Prop} {oi:Oper} {v:Value} {fuel:Nat} {listed:Array Bool} {a:Act} {w:World} (i:Nat) (hS:S w) (hi:ops[i]?=some oi)
  (h:wpAnyH P md ops Q S fuel (listed.setIfInBounds i true) (a.put oi.dst v) w) (hy:∀ w,S w→(execOp a.eval oi).run P w=.ok (.value v) w:=by intro w hSw;(try dsimp only at hSw);go_simp;all_goals with_reducible rfl) (hs:Region.noSelect ops=true:=by kernel_rfl) (hf:Region.free md ops listed i=true:=by kernel_rfl) (hr:(Region.ready md ops listed).contains i=true:=by kernel_rfl) (hw:Region.wanted oi (yielded ops a.tmps)=true:=by kernel_rfl)
  (hQ:∀ c a w,Q (.panic c) (a.put oi.dst v) w→Q (.panic c) a w:=by exact fun _ _ _ h=>h):wpAnyH P md ops Q S (fuel+1) listed a w:=wpAnyH_take hi hs hf hr hQ (.inl ⟨hw,hy⟩) hS h
theorem rd1 {P:Program} {ops:Array Oper} {Q:Exit→Act→World→Prop} {md:Region.Mode} {S:World→Prop} {o:Oper} {fuel:Nat} {listed:Array Bool} {a:Act} {w:World} (i:Nat) (ho:ops[i]?=some o)
  (h:∀ K':Act→World→Prop,Shut (∀ a w,S w→(S w→wpAnyH P md ops Q S fuel (listed.setIfInBounds i true) a w)→K' a w)→if Region.wanted o (yielded ops a.tmps)=true then Oper.wp P o a w K' Q else K' (a.put o.dst undef) w)
  (h1:Region.ready md ops listed=[i]:=by kernel_rfl):wpAnyH P md ops Q S (fuel+1) listed a w:=wpAnyH_ready h1 (by simp) (AllReadyH.cons ho h AllReadyH.nil)
theorem rd2 {P:Program} {ops:Array Oper} {Q:Exit→Act→World→Prop} {md:Region.Mode} {S:World→Prop} {o o':Oper} {fuel:Nat} {listed:Array Bool} {a:Act} {w:World} (i j:Nat) (ho:ops[i]?=some o) (ho':ops[j]?=some o')
  (h:∀ K':Act→World→Prop,Shut (∀ a w,S w→(S w→wpAnyH P md ops Q S fuel (listed.setIfInBounds i true) a w)→K' a w)→if Region.wanted o (yielded ops a.tmps)=true then Oper.wp P o a w K' Q else K' (a.put o.dst undef) w)
  (h':∀ K':Act→World→Prop,Shut (∀ a w,S w→(S w→wpAnyH P md ops Q S fuel (listed.setIfInBounds j true) a w)→K' a w)→if Region.wanted o' (yielded ops a.tmps)=true then Oper.wp P o' a w K' Q else K' (a.put o'.dst undef) w)
  (h1:Region.ready md ops listed=[i,j]:=by kernel_rfl):wpAnyH P md ops Q S (fuel+1) listed a w:=wpAnyH_ready h1 (by simp) (AllReadyH.cons ho h (AllReadyH.cons ho' h' AllReadyH.nil))
theorem zrr33u0 {p:Prop} (h:p:=by
 simp only [Program.fieldsOf,Tryz.underlying61];go_simp;have e:decide (x=y)=((x.license.toList == y.license.toList) && (x.exception.toList == y.exception.toList)):=by
  rw [ba_eq,ba_eq,Bool.eq_iff_iff];cases x;cases y;simp
 rw [e];by_cases h1:x.license.toList=y.license.toList <;> by_cases h2:x.exception.toList=y.exception.toList <;> simp [h1,h2]):p:=h
theorem eqlT (x y:Term) (w:World):(Go.binOp BinOp.eql 61 (.agg #[.string x.license,.string x.exception]) (.agg #[.string y.license,.string y.exception])).run Tryz.prog w=.ok (.bool (decide (x=y))) w:=by
 have u3:=Tryz.underlying9;have a3:=Tryz.isAgg9;have z3:=Tryz.sizeOf9;have hS:Tryz.prog.underlying 61=some (.struct (Tryz.prog.fieldsOf 61)):=by kernel_rfl
 have hp:Tryz.prog.stoodInHeld 61=false:=by kernel_rfl
 rw [run_eql_struct,show (10000:Nat)=9999+1 from rfl,run_equalIn_agg w 9999 61 _ _ hS hp];exact zrr33u0
theorem neqT (x y:Term) (w:World):(Go.binOp BinOp.neq 61 (.agg #[.string x.license,.string x.exception]) (.agg #[.string y.license,.string y.exception])).run Tryz.prog w=.ok (.bool (!decide (x=y))) w:=by
 have u3:=Tryz.underlying9;have a3:=Tryz.isAgg9;have z3:=Tryz.sizeOf9;have hS:Tryz.prog.underlying 61=some (.struct (Tryz.prog.fieldsOf 61)):=by kernel_rfl
 have hp:Tryz.prog.stoodInHeld 61=false:=by kernel_rfl
 rw [run_neq_struct,show (10000:Nat)=9999+1 from rfl,run_equalIn_agg w 9999 61 _ _ hS hp];exact zrr33u0
theorem any_snocR {α:Type} (p:α→Bool) {xs:List α} {k:Nat} {x:α} (hx:xs[k]?=some x):(xs.take (k+1)).any p=((xs.take k).any p || p x):=by
 rw [take_at hx,List.any_append];simp
theorem any_hitR {α:Type} {p:α→Bool} {xs:List α} {k:Nat} {x:α} (hx:xs[k]?=some x) (hp:p x=true):xs.any p=true:=List.any_eq_true.2 ⟨x,List.mem_of_getElem? hx,hp⟩
theorem any_endR {α:Type} {p:α→Bool} {xs:List α} {k:Nat} (h:(xs.take k).any p=false) (hk:¬ k < xs.length):xs.any p=false:=by
 rw [List.take_of_length_le (by omega)] at h;exact h
theorem SameTerms_ref (w:World) (x0 x1:Value) (xs ys:List Term) (h:Is w x0 xs) (h1:Is w x1 ys) :
  Calls Tryz.prog 58 #[x0,x1] w fun e w'=>e=.returned (.bool (decide (xs=ys)))∧Below w.heap.size w w':=by
 obtain ⟨a,c,rfl,hnc,hc,hr⟩:=list_inv h;obtain ⟨a1,c1,rfl,hnc1,hc1,hr1⟩:=list_inv h1;unfold maxLen at hc hc1;clear h h1;have HF:Hid (¬ xs.length=ys.length→decide (xs=ys)=false):=fun h=>by rw [decide_eq_false];rintro rfl;exact h rfl
 have HR:=zh hr;have HR1:=zh hr1;clear hr hr1;generalize hM:xs.length=M at *;generalize hM1:ys.length=M1 at *;have HM:=zh hM;have HM1:=zh hM1;clear hM hM1;by_cases hne:M=M1
 case neg =>
  have q0:((M:Int) != (M1:Int))=true:=by simp;omega
  have HG:=zh (HF.out hne);clear hne HF;go_enter Tryz.func58,Tryz.ntmps58;go_wp2;go_ret;exact ⟨ret_b HG.out.symm,Below.refl _ _⟩
 have q0:((M:Int) != (M1:Int))=false:=by simp;omega
 have HNE:=zh hne;clear hne HF;go_enter Tryz.func58,Tryz.ntmps58;go_wp2;go_loopw [5] (fun i wr=>∃ k:Nat,k≤M∧i=.int .i64 k∧Hid (decide (xs=ys)=decide (xs.drop k=ys.drop k))∧Hid (Below w.heap.size w wr)) (fun i _=>M - (intOf i).toNat)
 case atStart=>exact ⟨0,by omega,rfl,rfl,zh (Below.refl _ _)⟩
 case round =>
  obtain ⟨k,hk,rfl,hf,hbr⟩:=hrel;by_cases hki:k < M
  ·obtain ⟨x,hx⟩:=get_lt (xs:=xs) (k:=k) (by rw [HM.out];exact hki);obtain ⟨y,hy⟩:=get_lt (xs:=ys) (k:=k) (by rw [HM1.out,← HNE.out];exact hki);obtain ⟨b,off,rfl,hb,x0',x1',-⟩:=Term.at_row HR.out hx;obtain ⟨b',off',rfl,hb',y0',y1',-⟩:=Term.at_row HR1.out hy;have x0:=kept hbr.out x0';have x1:=kept hbr.out x1';have y0:=kept hbr.out y0';have y1:=kept hbr.out y1';have hd:=zh (dec_cons (drop_at hx) (drop_at hy) _ hf.out);have hkz:(k:Int) < (M:Int):=by omega
   have hkz1:(k:Int) < (M1:Int):=by have:=HNE.out;omega
   have hk0:(0:Int)≤(k:Int):=by omega
   have hq:=fun W=>neqT x y W;clear hx hy x0' x1' y0' y1' hf q0;cases e9:decide (x=y);case false =>
    rw [e9] at hq;have HF:Hid (decide (xs=ys)=false):=by show _=_;rw [hd.out,e9];rfl
    clear hd e9;go_wp2;go_quiet (fail)
    go_wp2;go_ret;exact ⟨ret_b HF.out.symm,hbr.out.drewN _⟩
   case true =>
    rw [e9] at hq;have HT:Hid (decide (xs=ys)=decide (xs.drop (k+1)=ys.drop (k+1))):=by show _=_;rw [hd.out,e9,Bool.true_and]
    clear hd e9;go_wp2;go_quiet (fail)
    go_wp2;go_roundw
    case rel=>exact ⟨k+1,by omega,by go_num,HT,zh (hbr.out.drewN _)⟩
    case measure=>exact zm
  ·have P:Hid (decide (xs=ys)=true):=by
    show _=_;rw [hf.out,List.drop_eq_nil_of_le (by rw [HM.out];omega),List.drop_eq_nil_of_le (by rw [HM1.out,← HNE.out];omega)];simp
   have hkz:¬ (k:Int) < (M:Int):=by omega
   go_wp2;go_ret;exact ⟨ret_b P.out.symm,hbr.out⟩
theorem Has_ref (w:World) (v:Value) (xs:List Term) (t:Term) (h:Is w v xs) :
  Calls Tryz.prog 261 #[v,.agg #[.string t.license,.string t.exception]] w fun e w'=>e=.returned (.bool (hasT xs t))∧Below w.heap.size w w':=by
 obtain ⟨a,c,rfl,hnc,hcm,hr⟩:=list_inv h;simp only [maxLen] at hcm;have HR:=zh hr;have HD:Hid (hasT xs t=xs.any fun y=>decide (y=t)):=rfl;clear hr h;generalize hN:xs.length=N at *;have HN:=zh hN;clear hN;go_enter Tryz.func261,Tryz.ntmps261;go_wp2;have hba:Below w.heap.size w (w.alloc (.cells #[.string t.license,.string t.exception] 61)):=bw;have e0:(w.alloc (.cells #[.string t.license,.string t.exception] 61)).cell? ⟨w.heap.size,0,none⟩=some (.string t.license):=by simp
 have e1:(w.alloc (.cells #[.string t.license,.string t.exception] 61)).cell? ⟨w.heap.size,1,none⟩=some (.string t.exception):=by simp
 generalize w.alloc (.cells #[.string t.license,.string t.exception] 61)=w0 at *;have HBA:=zh hba;clear hba;go_loopw [5] (fun i wr=>∃ k:Nat,k≤N∧i=.int .i64 k∧Hid ((xs.take k).any (fun y=>decide (y=t))=false)∧∃ m,wr=w0.drewN m) (fun i _=>N - (intOf i).toNat)
 case atStart=>exact ⟨0,by omega,rfl,rfl,0,rfl⟩
 case round =>
  obtain ⟨k,hk,rfl,HK,m,rfl⟩:=hrel;by_cases hki:k < N
  ·have hkz:(k:Int) < (N:Int):=by omega
   have hk0:(0:Int)≤(k:Int):=by omega
   obtain ⟨x,hx⟩:=get_lt (xs:=xs) (k:=k) (by rw [HN.out];exact hki);obtain ⟨b,off,rfl,hb,x0',x1',-⟩:=Term.at_row HR.out hx;have x0:=kept HBA.out x0';have x1:=kept HBA.out x1';have hq:=fun W=>eqlT x t W;have HX:=zh hx;clear hx x0' x1';cases e9:decide (x=t);case true =>
    rw [e9] at hq;have HF:Hid (hasT xs t=true):=any_hitR HX.out e9;clear e9;go_wp2;go_quiet (fail)
    go_wp2;go_ret;exact ⟨ret_b HF.out.symm,(HBA.out.drewN _).drewN _⟩
   case false =>
    rw [e9] at hq;have HT:Hid ((xs.take (k+1)).any (fun y=>decide (y=t))=false):=by show _=_;rw [any_snocR _ HX.out,HK.out,e9];rfl
    clear e9;go_wp2;go_quiet (fail)
    go_wp2;go_roundw
    case rel=>exact ⟨k+1,by omega,by go_num,HT,_,rfl⟩
    case measure=>exact zm
  ·have hkz:¬ (k:Int) < (N:Int):=by omega
   have HF:Hid (hasT xs t=false):=any_endR HK.out (by rw [HN.out];exact hki);go_wp2;go_ret;exact ⟨ret_b HF.out.symm,HBA.out.drewN _⟩
theorem Contains_ref (w:World) (v1 v2:Value) (xs ys:List Term) (h1:Is w v1 xs) (h2:Is w v2 ys) :
  Calls Tryz.prog 230 #[v1,v2] w fun e w'=>e=.returned (.bool (conA xs ys))∧Below w.heap.size w w':=by
 have HI:=zh h1;obtain ⟨a,c,rfl,-⟩:=list_inv h1;obtain ⟨b,d,rfl,hnd,hdm,hs⟩:=list_inv h2;simp only [maxLen] at hdm;have HS:=zh hs;have HD:Hid (conA xs ys=!ys.any fun t=>!hasT xs t):=by show _=_;unfold conA;rw [List.not_any_eq_all_not];simp
 clear h1 h2 hs;generalize xs.length=N at *;generalize hM:ys.length=M at *;have HM:=zh hM;clear hM;go_enter Tryz.func230,Tryz.ntmps230;go_wp2;go_loopw [5] (fun i wr=>∃ k:Nat,k≤M∧i=.int .i64 k∧Hid ((ys.take k).any (fun t=>!hasT xs t)=false)∧Hid (Below w.heap.size w wr)) (fun i _=>M - (intOf i).toNat)
 case atStart=>exact ⟨0,by omega,rfl,rfl,Below.refl _ _⟩
 case round =>
  obtain ⟨k,hk,rfl,HK,HB⟩:=hrel;by_cases hki:k < M
  ·have hkz:(k:Int) < (M:Int):=by omega
   have hk0:(0:Int)≤(k:Int):=by omega
   obtain ⟨x,hx⟩:=get_lt (xs:=ys) (k:=k) (by rw [HM.out];exact hki);obtain ⟨b,off,rfl,hb,x0',x1',-⟩:=Term.at_row HS.out hx;have x0:=kept HB.out x0';have x1:=kept HB.out x1';have hsx:=cell_lt x0;have HX:=zh hx;have hcall:=Has_ref wr (.slice a N c) xs x (HI.out.mono HB.out);clear hx x0' x1';cases e9:hasT xs x;case false =>
    rw [e9] at hcall;have HF:Hid (conA xs ys=false):=by show _=_;rw [HD.out,any_hitR HX.out (by rw [e9];rfl)];rfl
    clear e9;go_wp2_with fail
    refine hcall.mono ?_;rintro e w2 ⟨rfl,hb2⟩;have HB2:Hid (Below w.heap.size w w2):=HB.out.trans (hb2.mono HB.out.size);clear hcall hb2;go_wp2;go_ret;exact ⟨ret_b HF.out.symm,HB2.out⟩
   case true =>
    rw [e9] at hcall;have HT:Hid ((ys.take (k+1)).any (fun t=>!hasT xs t)=false):=by show _=_;rw [any_snocR _ HX.out,HK.out,e9];rfl
    clear e9;go_wp2_with fail
    refine hcall.mono ?_;rintro e w2 ⟨rfl,hb2⟩;have HB2:Hid (Below w.heap.size w w2):=HB.out.trans (hb2.mono HB.out.size);clear hcall hb2;go_wp2;go_roundw
    case rel=>exact ⟨k+1,by omega,by go_num,HT,HB2⟩
    case measure=>exact zm
  ·have hkz:¬ (k:Int) < (M:Int):=by omega
   have HF:Hid (conA xs ys=true):=by show _=_;rw [HD.out,any_endR HK.out (by rw [HM.out];exact hki)];rfl
   go_wp2;go_ret;exact ⟨ret_b HF.out.symm,HB.out⟩

theorem wp_region_quietC {P:Program} {id:Nat} {Q:Exit→Act→World→Prop} {a:Act} {w:World} {l:List Oper} {C:World→Prop} (hm:P.follows .mixedOrders=true) (hB:Region.lexB .any l.toArray=true) (hC:C { w with drawn:=w.drawn+1 })
  (h:wpQuiet P l.toArray C (fun a'=>∀ w',C w'→Q .normal a' w') l a):(Code.region id l.toArray true).wp P Q a w :=
 wp_region_quiet (C:=C) hm hB hC (by simpa using h)
theorem quiet_no {P:Program} {ops:Array Oper} {C:World→Prop} {Q:Act→Prop} {a:Act} {o:Oper} {rest:List Oper} (hw:Region.wanted o (yielded ops a.tmps)=false) (h:wpQuiet P ops C Q rest (a.put o.dst undef)):wpQuiet P ops C Q (o :: rest) a:=by
 unfold wpQuiet;rw [hw];exact h
theorem quiet_yes {P:Program} {ops:Array Oper} {C:World→Prop} {Q:Act→Prop} {a:Act} {o:Oper} {rest:List Oper} {v:Value} (hw:Region.wanted o (yielded ops a.tmps)=true) (h1:∀ w,C w→o.quietAt P a C w v) (h:wpQuiet P ops C Q rest (a.put o.dst v)):wpQuiet P ops C Q (o :: rest) a:=by
 unfold wpQuiet;rw [hw,if_pos rfl];exact ⟨v,h1,h⟩
theorem box2 (w:World) (p q:Array Value) (t s:TypeId):Below w.heap.size w ((w.alloc (.cells p t)).alloc (.cells q s))∧(∀ (j:Nat) (v:Value),p[j]?=some v→((w.alloc (.cells p t)).alloc (.cells q s)).cell? ⟨w.heap.size,j,none⟩=some v) ∧
  ∀ (j:Nat) (v:Value),q[j]?=some v→((w.alloc (.cells p t)).alloc (.cells q s)).cell? ⟨w.heap.size+1,j,none⟩=some v:=by
 have h1:=World.alloc_heap_new w (.cells p t);have h2:=World.alloc_heap_new (w.alloc (.cells p t)) (.cells q s);have hb:Below (w.alloc (.cells p t)).heap.size (w.alloc (.cells p t)) ((w.alloc (.cells p t)).alloc (.cells q s)):=zb;rw [World.size_alloc] at h2;exact ⟨zb.trans (hb.mono (by simp)),fun j v h=>kept hb (objcell2 h1 h),fun j v h=>objcell2 h2 h⟩

end Go.Proofs.YtcbopdbbcgdkcaaGreatDoor
