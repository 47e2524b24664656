/- Lemmas. -/
import Derived.Test.YtcbopdbbcgdkcaaGreatDoorLCompU
import Derived.Test.YtcbopdbbcgdkcaaGreatDoorLLexU
set_option linter.all false
set_option maxRecDepth 100000
set_option maxHeartbeats 16000000
namespace Go.Proofs.YtcbopdbbcgdkcaaGreatDoor
open Go Go.RowKit Go.ChangeShapes Go.Sort Go.Lib

theorem alt_one (y:List Value) (x:List Term) (w:World) (hl:y.length=Lay.n (List Term)) (h:Lay.is w (fun j=>y[j]?) x):∀ u∈y,u.oneCell'=true:=by
 obtain ⟨a,c,g0,-⟩:=h;match y,hl with
 | [v],_=>intro u hu;simp at hu g0;subst hu;subst g0;rfl
theorem wp_appZ {ops:Array Oper} {rest:List Oper} {o:Oper} {a:Act} {Q:Exit→Act→World→Prop} {w:World} (hgd:o.guard=none) (s x:Operand)
  (ho:o.op=.call { callee:=.builtin .append,args:=#[s,x],argTypes:=#[41,41] })
  (B:Nat) (v u:Value) (xs ys:List (List Term)) (hs:a.eval s=v) (hx:a.eval x=u) (hown:OwnZ B 59 w v xs) (hu:OwnZ B 59 w u ys)
  (hb:(xs.length+ys.length) * 25≤140737488355328) (hB:B≤w.heap.size)
  (h:∀ v' w',OwnZ B 59 w' v' (xs++ys)→Below B w w'→wpList Tryz.prog ops Q rest (a.put o.dst v') w') :
  wpList Tryz.prog ops Q (o :: rest) a w:=by
 obtain ⟨i0,hi,hz0,hz1,hz2⟩:=info_parts altRow;obtain ⟨us,k1,k2,k3⟩:=id hu.1;obtain ⟨cs,hcs⟩:=hown.2
 have hBu:∀ g cap,u=.slice (some ⟨g,0,none⟩) ys.length cap→B≤g:=fun g cap he=>by
  obtain ⟨cs,-,hv⟩:=hu.2;rcases hv with ⟨h2,-⟩ | ⟨g',cap',cur,h2,hb,-⟩
  ·rw [he] at h2;cases h2
  ·rw [he] at h2;obtain ⟨e1,-⟩:=Value.slice.inj h2;cases e1;exact hb
 rcases k2.2 with ⟨rfl,h0⟩ | ⟨g,cap,cur,rfl,hg,hh,hn',hc,hsz',htk⟩
 ·obtain rfl:ys=[]:=List.length_eq_zero_iff.1 h0;obtain ⟨va,vc,rfl,hvc,-⟩:=list_inv hown.is;have hrun:=run_append_nothing (P:=Tryz.prog) w 41 41 o.type 59 i0 Tryz.underlying41 hi va xs.length vc hvc (.slice none 0 0) (Src.ofNil w Tryz.underlying41 0);have hk:=h (.slice va xs.length vc) w (by simpa using hown) (Below.refl _ _);refine wpList_plain hgd fun K hK=>?_;unfold Oper.wp execOp;simp only [ho,resolve,invoke,builtin,Sem.run_bind,Sem.run_pure,Result.andThen_ok,List.map_toArray,List.map_cons,List.map_nil,hs,hx,hrun];exact hK _ _ hk
 ·have hall:=OwnL.all (P:=fun z=>∀ u∈z,u.oneCell'=true) k1 (fun i y x hy hx=>alt_one y x w (k3 i y x hy hx).1 ((k3 i y x hy hx).2 w (Agree.refl _ _ _)));refine wpList_append_own _ hgd s x 41 ho B 59 i0 _ 1 24 Tryz.underlying41 hi hz0 hz1 hz2 rfl (by decide) v xs.length cs hs hcs ⟨g,0,none⟩ ys.length cap us.flatten hx k2.1 ?_ ?_ ?_ ?_ hB ?_
  ·intro j q hj;have e2:(⟨g,0,none⟩:Addr).add j=⟨g,j,none⟩:=by
    unfold Addr.add;split
    ·subst j;rfl
    ·simp
   rw [e2];refine objcell hh ?_;rw [← htk,List.getElem?_take] at hj;split at hj
   ·simpa using hj
   ·cases hj
  ·intro q hq;obtain ⟨y,hy,hqy⟩:=List.mem_flatten.1 hq;exact hall y hy q hqy
  ·unfold maxLen;omega
  ·omega
  ·intro v' w' h2 h3 h4;refine h v' w' ⟨OwnL.join (E:=Ez 59) Ez_alt hown.1 hu.1 h3 fun cs' ds' r1 r2=>?_,⟨cs++us.flatten,?_⟩⟩ ((Below.refl _ _).app h3 (by omega) hcs)
   ·rw [OwnL.row_unique r1 (ownsRow_weaken hcs (Nat.zero_le _)),OwnL.row_unique r2 k2];exact ownsRow_weaken h2 (Nat.zero_le _)
   ·rw [List.length_append];exact h2
theorem rowT_new (w:World) {t:Term} (s1:t.license.size≤maxLen) (s2:t.exception.size≤maxLen) :
  RowT w.heap.size (w.alloc (.cells #[.string t.license,.string t.exception] 61)) (.slice (some ⟨w.heap.size,0,none⟩) 1 1) [t]:=by
 refine ⟨⟨rfl,.inr ⟨w.heap.size,1,#[.string t.license,.string t.exception],rfl,Nat.le_refl _,World.alloc_heap_new w _,Nat.le_refl _,by decide,rfl,rfl⟩⟩,fun x hx=>?_⟩;simp at hx;subst hx;exact ⟨s1,s2⟩
theorem ownZ_one (w:World) {u:Value} {y:List Term} (hy:∀ w',Agree 0 (Ez 59) (w.alloc (.cells #[u] 59)) w'→Is w' u y) :
  OwnZ w.heap.size 59 (w.alloc (.cells #[u] 59)) (.slice (some ⟨w.heap.size,0,none⟩) 1 1) [y]:=by
 have hrow:∀ B,B≤w.heap.size→(w.alloc (.cells #[u] 59)).ownsRow B 59 1 (.slice (some ⟨w.heap.size,0,none⟩) 1 1) 1 [u]:=fun B hB =>
  ⟨rfl,.inr ⟨w.heap.size,1,#[u],rfl,hB,World.alloc_heap_new w _,Nat.le_refl _,by decide,rfl,rfl⟩⟩
 refine ⟨⟨[[u]],rfl,hrow 0 (Nat.zero_le _),fun i z x hz hx=>?_⟩,_,hrow _ (Nat.le_refl _)⟩;match i with
 | 0 =>
  simp at hz hx;subst hz;subst hx;refine ⟨rfl,fun w' hA=>?_⟩;obtain ⟨a',c',rfl,h1,h2,h3⟩:=list_inv (hy _ hA);exact ⟨_,_,rfl,h1,h2,h3⟩
 | i+1=>simp at hz
theorem sized_p {B:Nat} {w:World} {v:Value} {xs:List (List Term)} (h:OwnZ B 59 w v xs) :
  Calls Tryz.prog 178 #[v] w fun e w'=>∃ v',e=.returned (.tuple #[v',.int .i64 (sizedP xs).2])∧OwnZ B 59 w' v' (sizedP xs).1∧w'=w:=by
 obtain ⟨a,c,rfl,hnc,hcm,-⟩:=list_inv h.is;simp only [maxLen] at hcm;have HO:=zh h;have HP:Hid (sizedP xs=if decide ((64:Int) < xs.length) then ([],10) else (xs,0)):=rfl;clear h;generalize hN:xs.length=N at *;clear hN;cases q:decide ((64:Int) < (N:Int));case true =>
  have HP2:Hid (sizedP xs=([],10)):=by show _=_;rw [HP.out,q];rfl
  have hq:(64:Int) < (N:Int):=of_decide_eq_true q;go_enter Tryz.func178,Tryz.ntmps178;go_wp2;go_ret2;exact ⟨.slice none 0 0,by rw [HP2.out];rfl,by rw [HP2.out];exact OwnZ.nil _ _ _,rfl⟩
 case false =>
  have HP2:Hid (sizedP xs=(xs,0)):=by show _=_;rw [HP.out,q];rfl
  have hq:¬ (64:Int) < (N:Int):=of_decide_eq_false q;go_enter Tryz.func178,Tryz.ntmps178;go_wp2;go_ret2;exact ⟨.slice a N c,by rw [HP2.out];rfl,by rw [HP2.out];exact HO.out,rfl⟩

def MeO (r:List (List Term)×Int) (w:World) (e:Ending) (w':World):Prop:=∃ v,e=.returned (.tuple #[v,.int .i64 r.2])∧OwnZ w.heap.size 59 w' v r.1∧Below w.heap.size w w'
theorem mean0_p (w:World) (vc v:Value) (c:Catalog) (n x:ByteArray) (ks:List LExpr) (hc:Is w vc c) (h:Is w v (LExpr.mk 0 n x ks)) :
  Calls Tryz.prog 124 #[vc,v] w fun e w'=>MeO (meanP c (LExpr.mk 0 n x ks)) w e w':=by
 have HM:Hid (meanP c (LExpr.mk 0 n x ks)=([[⟨n,x⟩]],0)):=by show _=_;rw [meanP];rfl
 obtain ⟨a,k,rfl,-,s1,s2,-⟩:=LExpr.inv h;obtain ⟨a0,c0,a1,c1,a2,c2,a3,c3,rfl,-⟩:=Catalog.inv hc;clear h hc;generalize ks.length=K at *;generalize c.licenses.length=N0 at *;generalize c.exceptions.length=N1 at *;generalize c.clauses.length=N2 at *;generalize c.apart.length=N3 at *;have S1:=zh s1;have S2:=zh s2;clear s1 s2;go_enter Tryz.func124,Tryz.ntmps124;go_wp2;go_ret2;have h1:=rowT_new ((w.alloc (.cells #[.slice a0 N0 c0,.slice a1 N1 c1,.slice a2 N2 c2,.slice a3 N3 c3] 27)).alloc (.cells #[.int .i64 0,.string n,.string x,.slice a K k] 68)) (t:=⟨n,x⟩) S1.out S2.out;have h2:=(ownZ_one _ (u:=.slice (some ⟨((w.alloc (.cells #[.slice a0 N0 c0,.slice a1 N1 c1,.slice a2 N2 c2,.slice a3 N3 c3] 27)).alloc (.cells #[.int .i64 0,.string n,.string x,.slice a K k] 68)).heap.size,0,none⟩) 1 1) (y:=[⟨n,x⟩]) (fun w' hA=>(rowT_agree (h1.below (by first | ((repeat (first | exact Below.refl _ _ | assumption | refine Below.drewN ?_ _ | refine Below.drew ?_ | refine Below.alloc ?_ (by first | exact Nat.le_refl _ | (simp;done) | (simp;omega) | omega) _ | refine Below.setCell ?_ (by first | exact Nat.le_refl _ | (simp;done) | (simp;omega) | omega) _ | refine Below.trans ?_ (Below.mono (by assumption) (by first | exact Nat.le_refl _ | (simp;done) | (simp;omega) | omega))));done) | fail)) hA).is)).weaken (B0:=w.heap.size) (by simp;omega);simp only [World.size_alloc] at h2;exact ⟨_,by rw [HM.out];rfl,by rw [HM.out];exact h2,bw⟩
theorem names_le (c:Catalog) (n:ByteArray):((laterC c n).getD []).length≤32:=by
 unfold laterC;cases h:findC c n with
 | none=>simp
 | some x =>
  have h1:=(find_check h).1;have h2:c.licenses.length≤32:=by
   unfold checkC at h1;split at h1
   ·cases h1
   ·rename_i h3
    have:decide ((32:Int) < c.licenses.length)=false:=by
     revert h3;cases decide ((32:Int) < c.licenses.length) <;> simp
    have:=of_decide_eq_false this;omega
  simp only [Option.map_some,Option.getD_some,List.length_map];unfold laterL;rw [(sortS_permA _ _).length_eq];exact Nat.le_trans (List.length_filter_le _ _) h2
def oneT (s:ByteArray):List Term:=[⟨s,ByteArray.empty⟩]
theorem mean1_p (w:World) (vc v:Value) (c:Catalog) (n x:ByteArray) (ks:List LExpr) (hg:Glob w) (hc:Is w vc c) (h:Is w v (LExpr.mk 1 n x ks)) :
  Calls Tryz.prog 124 #[vc,v] w fun e w'=>MeO (meanP c (LExpr.mk 1 n x ks)) w e w':=by
 have HM:Hid (meanP c (LExpr.mk 1 n x ks)=sizedP (minimalP (((laterC c n).getD []).map oneT))):=by show _=_;rw [meanP];rfl
 have HG:=zh hg;have HC:=zh hc;have HLN:=zh (names_le c n);obtain ⟨a,k,rfl,-,s1,s2,-⟩:=LExpr.inv h;obtain ⟨a0,c0,a1,c1,a2,c2,a3,c3,rfl,-⟩:=Catalog.inv hc;clear h hc hg s1 s2;generalize ks.length=K at *;generalize c.licenses.length=N0 at *;generalize c.exceptions.length=N1 at *;generalize c.clauses.length=N2 at *;generalize c.apart.length=N3 at *;have hcall:=Later_p ((w.alloc (.cells #[.slice a0 N0 c0,.slice a1 N1 c1,.slice a2 N2 c2,.slice a3 N3 c3] 27)).alloc (.cells #[.int .i64 1,.string n,.string x,.slice a K k] 68)) _ c n (HG.out.mono bw) (HC.out.mono bw);generalize hls:(laterC c n).getD []=ls at *;clear hls;go_enter Tryz.func124,Tryz.ntmps124;go_wp2_with fail
 refine hcall.mono ?_;rintro e w1 ⟨sv,rfl,hs,hb⟩;have HB1:Hid (Below w.heap.size w w1):=by show Below _ _ _;exact bw
 obtain ⟨al,cl,rfl,hnc,hcm,hr⟩:=list_inv hs;simp only [maxLen] at hcm;have HR:=zh hr;have hsz:w.heap.size≤w1.heap.size:=HB1.out.size;clear hcall hs hr hb;generalize hN:ls.length=N at *;have HN:=zh hN;have HNB:Hid (N≤32):=HLN;clear hN HLN;go_wp2;go_loopw [6,37] (fun sv kv wr=>∃ k:Nat,k≤N∧kv=.int .i64 k∧Hid (Below w1.heap.size w1 wr)∧Hid (OwnZ w1.heap.size 59 wr sv ((ls.take k).map oneT))) (fun _ kv _=>N - (intOf kv).toNat)
 case atStart=>exact ⟨0,by omega,rfl,zh (Below.refl _ _),zh (OwnZ.nil _ _ _)⟩
 case round =>
  obtain ⟨k,hk,rfl,HB,HO⟩:=hrel;have hz1:w1.heap.size≤wr.heap.size:=HB.out.size;by_cases hki:k < N
  ·have hkz:(k:Int) < (N:Int):=by omega
   obtain ⟨y,hy⟩:=get_lt (xs:=ls) (k:=k) (by rw [HN.out];exact hki);obtain ⟨b,off,rfl,hb,y0',sy⟩:=str_at HR.out hy;have y0:=kept HB.out y0';have hsy:=cell_lt y0;have HY:=zh hy;have SY:=zh sy;have h1:=zh (rowT_new wr (t:=⟨y,ByteArray.empty⟩) sy (show ByteArray.empty.size≤maxLen by decide));clear hy y0' hb sy;have hba:Below wr.heap.size wr (wr.alloc (.cells #[.string y,.string ByteArray.empty] 61)):=bw;have HO2:=zh (HO.out.below hba);have HB2:=zh hba;clear HO hba;go_wp2_with (at_builtin;go_loud (refine app_alt rfl _ _ rfl w1.heap.size _ _ rfl HO2.out (oneT y) ?cx ?c1 ?c2 ?c3 ?_))
   case c1=>intro w'' hA;exact (rowT_agree (h1.out.below bw) hA).is
   case c2=>have:=HNB.out;first | omega | (rw [List.length_map,List.length_take];omega)
   case c3=>first | omega | (simp;omega)
   intro v5 w5 ho5 hb5 hA5 hs5;have HB5:Hid (Below w1.heap.size w1 w5):=(HB.out.trans (HB2.out.mono hz1)).trans hb5;have HO5:=zh ho5;clear ho5 hb5 hA5 HO2 h1;go_wp2;go_roundw
   case rel =>
    refine ⟨k+1,by omega,by go_num,HB5,?_⟩;show OwnZ _ _ _ _ _;rw [take_at HY.out,List.map_append];first | exact HO5.out | (rw [List.map_take];exact HO5.out)
   case measure=>exact zm
  ·have hkz:¬ (k:Int) < (N:Int):=by omega
   have HO1:Hid (OwnZ w1.heap.size 59 wr u6 (ls.map oneT)):=by
    have:=HO.out;rw [List.take_of_length_le (by rw [HN.out];omega)] at this;exact this
   clear HO;have hcall:=Minimal_p wr u6 (ls.map oneT) HO1.out.is (by intro x hx;obtain ⟨y,-,rfl⟩:=List.mem_map.1 hx;simp [oneT]) (by rw [List.length_map,HN.out];have:=HNB.out;omega);obtain ⟨a6,c6,he6,-⟩:=list_inv HO1.out.is;rw [List.length_map,HN.out] at he6;subst he6;clear HO1;go_wp2_with fail
   refine hcall.mono ?_;unfold MO;rintro e w2 ⟨v2,rfl,ho2,hb2⟩;have hcall2:=sized_p ho2;have HB2:Hid (Below w.heap.size w w2):=HB1.out.trans ((HB.out.mono hsz).trans (hb2.mono (by omega)));obtain ⟨a7,c7,rfl,-⟩:=list_inv ho2.is;clear hcall ho2 hb2;generalize (minimalP (ls.map oneT)).length=L7 at *;go_wp2_with fail
   refine hcall2.mono ?_;rintro e w3 ⟨v3,rfl,ho3,rfl⟩;have HO3:=zh ho3;clear hcall2 ho3;go_wp2;go_ret2;exact ⟨_,by rw [HM.out];rfl,by rw [HM.out];exact HO3.out.weaken (by omega),HB2.out⟩
end Go.Proofs.YtcbopdbbcgdkcaaGreatDoor
namespace Go.Proofs.YtcbopdbbcgdkcaaGreatDoor
open Go

theorem compact_len {α:Type} [DecidableEq α]:∀ l:List α,(compact l).length≤l.length
 | []=>by simp [compact]
 | [a]=>by simp [compact]
 | a :: b :: r=>by
  have:=compact_len (b :: r);rw [compact];split
  ·simp at this ⊢;omega
  ·simp at this ⊢;omega
theorem minimal_len {xs:List (List Term)} {S:Nat} (h:∀ a∈xs,a.length≤S):∀ a∈minimalP xs,a.length≤S:=by
 intro a ha;rcases keepMin_mem _ _ a ha with h1 | h1
 ·simp at h1
 ·have h2:=(sortS_permA _ _).mem_iff.1 h1;obtain ⟨x,hx,rfl⟩:=List.mem_map.1 h2;have h3:=compact_len (sortS (ltC tcmp) x);rw [(sortS_permA _ x).length_eq] at h3;exact Nat.le_trans h3 (h x hx)
theorem minimal_count (xs:List (List Term)):(minimalP xs).length≤xs.length:=by
 have:=keepMin_le (sortS (ltC acmp) (xs.map normT)) [];rw [(sortS_permA _ _).length_eq,List.length_map,List.length_nil,Nat.zero_add] at this;exact this
theorem sized_ok (l:List (List Term)):(sizedP l).1.length≤64∧∀ a∈(sizedP l).1,a∈l:=by
 unfold sizedP;split
 ·exact ⟨by simp,fun a h=>by simp at h⟩
 ·rename_i h
  have:¬ (64:Int) < l.length:=by simpa using h
  exact ⟨by simp only;omega,fun a h=>h⟩
theorem sizedMin_ok {l:List (List Term)} {S:Nat} (h:∀ a∈l,a.length≤S):(sizedP (minimalP l)).1.length≤64∧∀ a∈(sizedP (minimalP l)).1,a.length≤S :=
 ⟨(sized_ok _).1,fun a ha=>minimal_len h a ((sized_ok _).2 a ha)⟩
theorem pairs_len {x y:List (List Term)} {S T:Nat} (h:∀ a∈x,a.length≤S) (k:∀ a∈y,a.length≤T):∀ a∈pairsA x y,a.length≤S+T:=by
 intro a ha;obtain ⟨p,hp,ha⟩:=List.mem_flatMap.1 ha;obtain ⟨q,hq,rfl⟩:=List.mem_map.1 ha;have:=h p hp;have:=k q hq;rw [List.length_append];omega
theorem pairs_count (x y:List (List Term)):(pairsA x y).length=x.length * y.length:=by
 unfold pairsA;induction x with
 | nil=>simp
 | cons a r ih=>rw [List.flatMap_cons,List.length_append,ih,List.length_map,List.length_cons,Nat.succ_mul,Nat.add_comm]
theorem zrmeanu2 {p:Prop} (h:p:=by
 exact ⟨this.1,fun a ha=>by have:=this.2 a ha;rw [sizeKs];omega⟩):p:=h
theorem meanKs_len (c:Catalog) (k:Int):∀ (ks:List LExpr),(∀ e∈ks,(meanP c e).1.length≤64∧∀ a∈(meanP c e).1,a.length≤sizeE e)→∀ (first:Bool) (out:List (List Term)) (S:Nat),(∀ a∈out,a.length≤S) →
  (meanKs c k first out ks).1.length≤64∧∀ a∈(meanKs c k first out ks).1,a.length≤S+sizeKs ks
 | [],_,first,out,S,h=>by rw [meanKs];exact ⟨(sizedMin_ok h).1,fun a ha=>by rw [sizeKs];exact (sizedMin_ok h).2 a ha⟩
 | e :: r,ih,first,out,S,h=>by
  have he:=ih e (by simp);have hr:=meanKs_len c k r fun e he=>ih e (by simp [he]);rw [meanKs];simp only;split
  ·exact ⟨by simp,fun a ha=>by simp at ha⟩
  split
  ·have:=hr false (out++(meanP c e).1) (S+sizeE e) (fun a ha=>by
    rcases List.mem_append.1 ha with ha | ha
    ·have:=h a ha;omega
    ·have:=he.2 a ha;omega)
   exact zrmeanu2
  split
  ·have:=hr false (meanP c e).1 (S+sizeE e) (fun a ha=>by have:=he.2 a ha;omega);exact zrmeanu2
  ·split
   ·exact ⟨by simp,fun a ha=>by simp at ha⟩
   ·have:=hr false (sizedP (minimalP (pairsA out (meanP c e).1))).1 (S+sizeE e) (sizedMin_ok (pairs_len h he.2)).2;exact zrmeanu2
theorem mean_len (c:Catalog):∀ e,(meanP c e).1.length≤64∧∀ a∈(meanP c e).1,a.length≤sizeE e:=by
 refine LExpr.ind fun k n x ks ih=>?_;rw [meanP];split
 ·exact ⟨by simp,fun a ha=>by simp at ha;subst ha;simp [sizeE]⟩
 split
 ·have:=sizedMin_ok (l:=((laterC c n).getD []).map fun s=>[⟨s,ByteArray.empty⟩]) (S:=1) (fun a ha=>by obtain ⟨y,-,rfl⟩:=List.mem_map.1 ha;simp);exact ⟨this.1,fun a ha=>by have:=this.2 a ha;rw [sizeE];omega⟩
 ·have:=meanKs_len c k ks ih true [] 0 (fun a ha=>by simp at ha);exact ⟨this.1,fun a ha=>by have:=this.2 a ha;rw [sizeE];omega⟩
open Go.RowKit Go.ChangeShapes Go.Sort Go.Lib

def PairsC:Prop:=∀ (w:World) (v1 v2:Value) (xs ys:List (List Term)),Is w v1 xs→Is w v2 ys→xs.length≤64→ys.length≤64→(∀ a∈xs,a.length≤1000000)→(∀ a∈ys,a.length≤1000000) →
 Calls Tryz.prog 181 #[v1,v2] w fun e w1=>∃ fv,e=.returned fv∧Below w.heap.size w w1∧Calls Tryz.prog 180 #[fv] w1 fun e' w'=>MO w.heap.size (pairsA xs ys) w e' w'
def MeanC (e:LExpr) (c:Catalog):Prop:=∀ (w:World) (vc v:Value),Glob w→Is w vc c→Is w v e→Calls Tryz.prog 124 #[vc,v] w fun e' w'=>MeO (meanP c e) w e' w'
theorem sizeKs_snoc (a:List LExpr) (x:LExpr):sizeKs (a++[x])=sizeKs a+sizeE x:=by
 induction a with
 | nil=>simp [sizeKs]
 | cons y r ih=>simp only [List.cons_append,sizeKs,ih];omega
theorem meanKs_or {c:Catalog} {k:Int} {first:Bool} {out:List (List Term)} {e:LExpr} {r:List LExpr} (h:(meanP c e).2=0) (hk:k=3):meanKs c k first out (e :: r)=meanKs c k false (out++(meanP c e).1) r:=by
 rw [meanKs];simp [h,hk]
theorem meanKs_err {c:Catalog} {k:Int} {first:Bool} {out:List (List Term)} {e:LExpr} {r:List LExpr} (h:(meanP c e).2≠0):meanKs c k first out (e :: r)=([],(meanP c e).2):=by
 rw [meanKs];simp [h]
theorem zqmeanu0 {p:Prop} (h:p:=by
 have h4:=HSZ.out;rw [sizeE] at h4;have h5:∀ l:List LExpr,l.length≤sizeKs l:=by
  intro l;induction l with
  | nil=>simp
  | cons a r ih=>have:=size_pos a;simp only [List.length_cons,sizeKs];omega
 have:=h5 ks;rw [HN.out] at this;omega):p:=h
theorem zrmeanu0 {p:Prop} (h:p:=by
 have hcall:=Minimal_p wr u6 out HO.out.is (by
  intro a ha;have h1:=HA.out a ha;have h2:=sizeKs_take ks i;have h3:=HSZ.out;rw [sizeE] at h3;omega) (by
  have h1:=HL.out;have h3:i≤1000000:=by exact zqmeanu0
  omega)
 obtain ⟨ao,co,rfl,-⟩:=list_inv HO.out.is;clear HO;generalize out.length=N6 at *;go_wp2_with fail
 refine hcall.mono ?_;unfold MO;rintro e w2 ⟨v2,rfl,ho2,hb2⟩;have hcall2:=sized_p ho2;have HB2:Hid (Below w.heap.size w w2):=HB1.out.trans ((HB.out.mono (by have:=HZ1.out;omega)).trans (hb2.mono (by omega)));obtain ⟨a7,c7,rfl,-⟩:=list_inv ho2.is;clear hcall ho2 hb2;generalize (minimalP out).length=L7 at *;go_wp2_with fail
 refine hcall2.mono ?_;rintro e w3 ⟨v3,rfl,ho3,rfl⟩;have HO3:=zh ho3;clear hcall2 ho3;go_wp2;go_ret2;exact ⟨_,by rw [HF.out];rfl,by rw [HF.out];exact HO3.out.weaken (by omega),HB2.out⟩):p:=h
theorem zrmeanu1 {p:Prop} (h:p:=by
 generalize (meanP c Y).2=er at *;have q1:(er == 0)=false:=by simpa using q
 have q2:(er != 0)=true:=by simpa using q
 clear q;go_wp2;go_ret2;refine ⟨.slice none 0 0,by rw [HS.out];rfl,by rw [HS.out];exact OwnZ.nil _ _ _,?_⟩;exact HB1.out.trans ((HB.out.mono (by have:=HZ1.out;omega)).trans (HB2.out.mono (by omega)))):p:=h
theorem zrmeanu3 {p:Prop} (h:p:=by
 show Below _ _ _;exact HB1.out.trans ((HB.out.mono (by have:=HZ1.out;omega)).trans (hba.mono (by omega)))):p:=h
theorem meanOr_p (k:Int) (n x:ByteArray) (ks:List LExpr) (c:Catalog) (hk:k=3) (ih:∀ e∈ks,MeanC e c) (hsz:sizeE (LExpr.mk k n x ks)≤1000000) (w:World) (vc v:Value) (hg:Glob w) (hc:Is w vc c) (h:Is w v (LExpr.mk k n x ks)) :
  Calls Tryz.prog 124 #[vc,v] w fun e w'=>MeO (meanP c (LExpr.mk k n x ks)) w e w':=by
 subst hk;have HM:Hid (meanP c (LExpr.mk 3 n x ks)=meanKs c 3 true [] ks):=by show _=_;rw [meanP];rfl
 have HG:=zh hg;have HC:=zh hc;have HIH:=zh ih;have HSZ:=zh hsz;obtain ⟨a,kc,rfl,-,s1,s2,hnc,hcm,hr⟩:=LExpr.inv h;simp only [maxLen] at hcm;have HR:=zh hr;obtain ⟨a0,c0,a1,c1,a2,c2,a3,c3,rfl,-⟩:=Catalog.inv hc;clear h hc hg s1 s2 ih hsz hr;generalize c.licenses.length=N0 at *;generalize c.exceptions.length=N1 at *;generalize c.clauses.length=N2 at *;generalize c.apart.length=N3 at *;generalize hN:ks.length=N at *;have HN:=zh hN;clear hN;have hb1:Below w.heap.size w ((w.alloc (.cells #[.slice a0 N0 c0,.slice a1 N1 c1,.slice a2 N2 c2,.slice a3 N3 c3] 27)).alloc (.cells #[.int .i64 3,.string n,.string x,.slice a N kc] 68)):=bw;have d0:((w.alloc (.cells #[.slice a0 N0 c0,.slice a1 N1 c1,.slice a2 N2 c2,.slice a3 N3 c3] 27)).alloc (.cells #[.int .i64 3,.string n,.string x,.slice a N kc] 68)).cell? ⟨w.heap.size,0,none⟩=some (.slice a0 N0 c0):=by simp
 have d1:((w.alloc (.cells #[.slice a0 N0 c0,.slice a1 N1 c1,.slice a2 N2 c2,.slice a3 N3 c3] 27)).alloc (.cells #[.int .i64 3,.string n,.string x,.slice a N kc] 68)).cell? ⟨w.heap.size,1,none⟩=some (.slice a1 N1 c1):=by simp
 have d2:((w.alloc (.cells #[.slice a0 N0 c0,.slice a1 N1 c1,.slice a2 N2 c2,.slice a3 N3 c3] 27)).alloc (.cells #[.int .i64 3,.string n,.string x,.slice a N kc] 68)).cell? ⟨w.heap.size,2,none⟩=some (.slice a2 N2 c2):=by simp
 have d3:((w.alloc (.cells #[.slice a0 N0 c0,.slice a1 N1 c1,.slice a2 N2 c2,.slice a3 N3 c3] 27)).alloc (.cells #[.int .i64 3,.string n,.string x,.slice a N kc] 68)).cell? ⟨w.heap.size,3,none⟩=some (.slice a3 N3 c3):=by simp
 have e0:((w.alloc (.cells #[.slice a0 N0 c0,.slice a1 N1 c1,.slice a2 N2 c2,.slice a3 N3 c3] 27)).alloc (.cells #[.int .i64 3,.string n,.string x,.slice a N kc] 68)).cell? ⟨w.heap.size+1,0,none⟩=some (.int .i64 3):=by simp
 have hz1:((w.alloc (.cells #[.slice a0 N0 c0,.slice a1 N1 c1,.slice a2 N2 c2,.slice a3 N3 c3] 27)).alloc (.cells #[.int .i64 3,.string n,.string x,.slice a N kc] 68)).heap.size=w.heap.size+1+1:=by simp
 have D0:=zh d0;have D1:=zh d1;have D2:=zh d2;have D3:=zh d3;have E0:=zh e0;have HZ1:=zh hz1;have HB1:=zh hb1;clear d0 d1 d2 d3 e0 hz1 hb1;go_enter Tryz.func124,Tryz.ntmps124;go_wp2;generalize (w.alloc (.cells #[.slice a0 N0 c0,.slice a1 N1 c1,.slice a2 N2 c2,.slice a3 N3 c3] 27)).alloc (.cells #[.int .i64 3,.string n,.string x,.slice a N kc] 68)=w1 at *;go_loopw [6,56] (fun sv kv wr=>∃ (i:Nat) (out:List (List Term)),i≤N∧kv=.int .i64 i∧Hid (Below w1.heap.size w1 wr)∧Hid (OwnZ w1.heap.size 59 wr sv out)∧Hid (meanKs c 3 true [] ks=meanKs c 3 (i == 0) out (ks.drop i))∧Hid (out.length≤64 * i)∧Hid (∀ a∈out,a.length≤sizeKs (ks.take i))) (fun _ kv _=>N - (intOf kv).toNat)
 case atStart=>exact ⟨0,[],by omega,rfl,zh (Below.refl _ _),zh (OwnZ.nil _ _ _),rfl,Nat.zero_le _,by intro a ha;simp at ha⟩
 case round =>
  obtain ⟨i,out,hi,rfl,HB,HO,HK,HL,HA⟩:=hrel;have hz1:w1.heap.size≤wr.heap.size:=HB.out.size;have hw1:w.heap.size+1+1≤wr.heap.size:=by have:=HZ1.out;omega
  have hw0:w.heap.size < wr.heap.size:=by omega
  have hw2:w.heap.size+1 < wr.heap.size:=by omega
  by_cases hki:i < N
  ·have hkz:(i:Int) < (N:Int):=by omega
   obtain ⟨y,hy⟩:=get_lt (xs:=ks) (k:=i) (by rw [HN.out];exact hki);have HML:=zh (mean_len c y);have HY:=zh hy;have HIY:=zh (HIH.out y (List.mem_of_getElem? hy));have HKS:=zh (drop_at hy);obtain ⟨k1,n1,x1,ks1⟩:=y;obtain ⟨b,off,rfl,hb,a5,c5,y0',y1',y2',y3',i0,s1,s2,l3,m3,r3⟩:=LExpr.at_row HR.out hy;have hbw:b < w.heap.size:=hb;have y0:=kept HB.out (kept HB1.out y0');have y1:=kept HB.out (kept HB1.out y1');have y2:=kept HB.out (kept HB1.out y2');have y3:=kept HB.out (kept HB1.out y3');have hsy:=cell_lt y0;have f0:=kept HB.out D0.out;have f1:=kept HB.out D1.out;have f2:=kept HB.out D2.out;have f3:=kept HB.out D3.out;have hba:Below wr.heap.size wr (wr.alloc (.cells #[.int .i64 k1,.string n1,.string x1,.slice a5 ks1.length c5] 68)):=bw;have HBW:Hid (Below w.heap.size w (wr.alloc (.cells #[.int .i64 k1,.string n1,.string x1,.slice a5 ks1.length c5] 68))):=by
    exact zrmeanu3
   have hcall:=HIY.out (wr.alloc (.cells #[.int .i64 k1,.string n1,.string x1,.slice a5 ks1.length c5] 68)) _ _ (HG.out.mono HBW.out) (HC.out.mono HBW.out) (LExpr.mk' i0 s1 s2 l3 m3 (r3.mono HBW.out));clear hy y0' y1' y2' y3' i0 s1 s2 l3 m3 r3 hb HIY;have HBA:=zh hba;clear hba;generalize hY:LExpr.mk k1 n1 x1 ks1=Y at *;clear hY;generalize ks1.length=K1 at *;go_wp2_with fail
   refine hcall.mono ?_;unfold MeO;rintro e w2 ⟨v2,rfl,ho2,hb2⟩;have HB2:Hid (Below wr.heap.size wr w2):=HBA.out.trans (hb2.mono (by simp));have HO2:=zh ho2;obtain ⟨f0,f1,f2,f3⟩:=k4 HB2.out f0 f1 f2 f3;have g0:=kept HB2.out (kept HB.out E0.out);have hs2:wr.heap.size≤w2.heap.size:=HB2.out.size;clear hcall ho2 hb2;by_cases q:(meanP c Y).2=0
   ·rw [q];have HS:Hid (meanKs c 3 true [] ks=meanKs c 3 false (out++(meanP c Y).1) (ks.drop (i+1))):=by
     show _=_;rw [HK.out,HKS.out,meanKs_or q rfl]
    have HLL:Hid ((out++(meanP c Y).1).length≤64 * (i+1)):=by
     show _≤_;have:=HL.out;have:=HML.out.1;rw [List.length_append];omega
    have HAA:Hid (∀ a∈out++(meanP c Y).1,a.length≤sizeKs (ks.take (i+1))):=by
     intro a ha;rw [take_at HY.out,sizeKs_snoc];rcases List.mem_append.1 ha with ha | ha
     ·have:=HA.out a ha;omega
     ·have:=HML.out.2 a ha;omega
    have hln:out.length+(meanP c Y).1.length≤70000000:=by
     have h1:=HL.out;have h2:=HML.out.1;have h3:i≤1000000:=by exact zqmeanu0
     omega
    clear q;generalize (meanP c Y).1=ml at *;have HOB:=zh (HO.out.below HB2.out);have HOC:=zh (HO2.out.weaken (B0:=w1.heap.size) (by simp;omega));obtain ⟨ao,co,rfl,-⟩:=list_inv HO.out.is;obtain ⟨al,cl,rfl,-⟩:=list_inv HO2.out.is;clear HO HO2;go_wp2_with (at_builtin;go_loud (refine wp_appZ rfl _ _ rfl w1.heap.size _ _ _ _ rfl rfl HOB.out HOC.out ?c1 ?c2 ?_))
    case c1=>omega
    case c2=>omega
    intro v3 w3 ho3 hb3;have HB3:Hid (Below w1.heap.size w1 w3):=(HB.out.trans (HB2.out.mono hz1)).trans hb3;have HO3:=zh ho3;clear ho3 hb3 f0 f1 f2 f3 g0;go_wp2;go_roundw
    case rel=>exact ⟨i+1,_,by omega,by go_num,HB3,HO3,HS,HLL,HAA⟩
    case measure=>exact zm
   ·have HS:Hid (meanP c (LExpr.mk 3 n x ks)=([],(meanP c Y).2)):=by
     show _=_;rw [HM.out,HK.out,HKS.out,meanKs_err q]
    exact zrmeanu1
  ·have hkz:¬ (i:Int) < (N:Int):=by omega
   have HF:Hid (meanP c (LExpr.mk 3 n x ks)=sizedP (minimalP out)):=by
    show _=_;rw [HM.out,HK.out,List.drop_eq_nil_of_le (by rw [HN.out];omega),meanKs]
   exact zrmeanu0

theorem meanKs_first {c:Catalog} {k:Int} {out:List (List Term)} {e:LExpr} {r:List LExpr} (h:(meanP c e).2=0) (hk:k≠3):meanKs c k true out (e :: r)=meanKs c k false (meanP c e).1 r:=by
 rw [meanKs];simp [h,hk]
theorem meanKs_and {c:Catalog} {k:Int} {out:List (List Term)} {e:LExpr} {r:List LExpr} (h:(meanP c e).2=0) (hk:k≠3):meanKs c k false out (e :: r) =
  if !((sizedP (minimalP (pairsA out (meanP c e).1))).2 == 0) then ([],(sizedP (minimalP (pairsA out (meanP c e).1))).2) else meanKs c k false (sizedP (minimalP (pairsA out (meanP c e).1))).1 r:=by
 rw [meanKs];simp [h,hk]
theorem meanAnd_p (k:Int) (n x:ByteArray) (ks:List LExpr) (c:Catalog) (hk0:k≠0) (hk1:k≠1) (hk3:k≠3) (hP:PairsC) (ih:∀ e∈ks,MeanC e c) (hsz:sizeE (LExpr.mk k n x ks)≤1000000) (w:World) (vc v:Value) (hg:Glob w) (hc:Is w vc c) (h:Is w v (LExpr.mk k n x ks)) :
  Calls Tryz.prog 124 #[vc,v] w fun e w'=>MeO (meanP c (LExpr.mk k n x ks)) w e w':=by
 have q0:(k == 0)=false:=beq_eq_false_iff_ne.2 hk0;have q1:(k == 1)=false:=beq_eq_false_iff_ne.2 hk1;have q3:(k == 3)=false:=beq_eq_false_iff_ne.2 hk3;have HP:=zh hP;have HK3:=zh hk3;have HM:Hid (meanP c (LExpr.mk k n x ks)=meanKs c k true [] ks):=by show _=_;rw [meanP,if_neg (by rw [q0];decide),if_neg (by rw [q1];decide)]
 clear hk0 hk1 hk3 hP;have HG:=zh hg;have HC:=zh hc;have HIH:=zh ih;have HSZ:=zh hsz;obtain ⟨a,kc,rfl,-,s1,s2,hnc,hcm,hr⟩:=LExpr.inv h;simp only [maxLen] at hcm;have HR:=zh hr;obtain ⟨a0,c0,a1,c1,a2,c2,a3,c3,rfl,-⟩:=Catalog.inv hc;clear h hc hg s1 s2 ih hsz hr;generalize c.licenses.length=N0 at *;generalize c.exceptions.length=N1 at *;generalize c.clauses.length=N2 at *;generalize c.apart.length=N3 at *;generalize hN:ks.length=N at *;have HN:=zh hN;clear hN;have hb1:Below w.heap.size w ((w.alloc (.cells #[.slice a0 N0 c0,.slice a1 N1 c1,.slice a2 N2 c2,.slice a3 N3 c3] 27)).alloc (.cells #[.int .i64 k,.string n,.string x,.slice a N kc] 68)):=bw;have d0:((w.alloc (.cells #[.slice a0 N0 c0,.slice a1 N1 c1,.slice a2 N2 c2,.slice a3 N3 c3] 27)).alloc (.cells #[.int .i64 k,.string n,.string x,.slice a N kc] 68)).cell? ⟨w.heap.size,0,none⟩=some (.slice a0 N0 c0):=by simp
 have d1:((w.alloc (.cells #[.slice a0 N0 c0,.slice a1 N1 c1,.slice a2 N2 c2,.slice a3 N3 c3] 27)).alloc (.cells #[.int .i64 k,.string n,.string x,.slice a N kc] 68)).cell? ⟨w.heap.size,1,none⟩=some (.slice a1 N1 c1):=by simp
 have d2:((w.alloc (.cells #[.slice a0 N0 c0,.slice a1 N1 c1,.slice a2 N2 c2,.slice a3 N3 c3] 27)).alloc (.cells #[.int .i64 k,.string n,.string x,.slice a N kc] 68)).cell? ⟨w.heap.size,2,none⟩=some (.slice a2 N2 c2):=by simp
 have d3:((w.alloc (.cells #[.slice a0 N0 c0,.slice a1 N1 c1,.slice a2 N2 c2,.slice a3 N3 c3] 27)).alloc (.cells #[.int .i64 k,.string n,.string x,.slice a N kc] 68)).cell? ⟨w.heap.size,3,none⟩=some (.slice a3 N3 c3):=by simp
 have e0:((w.alloc (.cells #[.slice a0 N0 c0,.slice a1 N1 c1,.slice a2 N2 c2,.slice a3 N3 c3] 27)).alloc (.cells #[.int .i64 k,.string n,.string x,.slice a N kc] 68)).cell? ⟨w.heap.size+1,0,none⟩=some (.int .i64 k):=by simp
 have hz1:((w.alloc (.cells #[.slice a0 N0 c0,.slice a1 N1 c1,.slice a2 N2 c2,.slice a3 N3 c3] 27)).alloc (.cells #[.int .i64 k,.string n,.string x,.slice a N kc] 68)).heap.size=w.heap.size+1+1:=by simp
 have D0:=zh d0;have D1:=zh d1;have D2:=zh d2;have D3:=zh d3;have E0:=zh e0;have HZ1:=zh hz1;have HB1:=zh hb1;clear d0 d1 d2 d3 e0 hz1 hb1;go_enter Tryz.func124,Tryz.ntmps124;go_wp2;generalize (w.alloc (.cells #[.slice a0 N0 c0,.slice a1 N1 c1,.slice a2 N2 c2,.slice a3 N3 c3] 27)).alloc (.cells #[.int .i64 k,.string n,.string x,.slice a N kc] 68)=w1 at *;go_loopw [6,56] (fun sv kv wr=>∃ (i:Nat) (out:List (List Term)),i≤N∧kv=.int .i64 i∧Hid (Below w1.heap.size w1 wr)∧Hid (OwnZ w1.heap.size 59 wr sv out)∧Hid (meanKs c k true [] ks=meanKs c k (i == 0) out (ks.drop i))∧Hid (out.length≤64 * i)∧Hid (0 < i→out.length≤64)∧Hid (∀ a∈out,a.length≤sizeKs (ks.take i))) (fun _ kv _=>N - (intOf kv).toNat)
 case atStart=>exact ⟨0,[],by omega,rfl,zh (Below.refl _ _),zh (OwnZ.nil _ _ _),rfl,Nat.zero_le _,fun h=>by omega,by intro a ha;simp at ha⟩
 case round =>
  obtain ⟨i,out,hi,rfl,HB,HO,HK,HL,HL1,HA⟩:=hrel;have hz1:w1.heap.size≤wr.heap.size:=HB.out.size;have hw1:w.heap.size+1+1≤wr.heap.size:=by have:=HZ1.out;omega
  have hw0:w.heap.size < wr.heap.size:=by omega
  have hw2:w.heap.size+1 < wr.heap.size:=by omega
  by_cases hki:i < N
  ·have hkz:(i:Int) < (N:Int):=by omega
   obtain ⟨y,hy⟩:=get_lt (xs:=ks) (k:=i) (by rw [HN.out];exact hki);have HML:=zh (mean_len c y);have HY:=zh hy;have HIY:=zh (HIH.out y (List.mem_of_getElem? hy));have HKS:=zh (drop_at hy);obtain ⟨k1,n1,x1,ks1⟩:=y;obtain ⟨b,off,rfl,hb,a5,c5,y0',y1',y2',y3',i0,s1,s2,l3,m3,r3⟩:=LExpr.at_row HR.out hy;have hbw:b < w.heap.size:=hb;have y0:=kept HB.out (kept HB1.out y0');have y1:=kept HB.out (kept HB1.out y1');have y2:=kept HB.out (kept HB1.out y2');have y3:=kept HB.out (kept HB1.out y3');have hsy:=cell_lt y0;have f0:=kept HB.out D0.out;have f1:=kept HB.out D1.out;have f2:=kept HB.out D2.out;have f3:=kept HB.out D3.out;have hba:Below wr.heap.size wr (wr.alloc (.cells #[.int .i64 k1,.string n1,.string x1,.slice a5 ks1.length c5] 68)):=bw;have HBW:Hid (Below w.heap.size w (wr.alloc (.cells #[.int .i64 k1,.string n1,.string x1,.slice a5 ks1.length c5] 68))):=by
    exact zrmeanu3
   have hcall:=HIY.out (wr.alloc (.cells #[.int .i64 k1,.string n1,.string x1,.slice a5 ks1.length c5] 68)) _ _ (HG.out.mono HBW.out) (HC.out.mono HBW.out) (LExpr.mk' i0 s1 s2 l3 m3 (r3.mono HBW.out));clear hy y0' y1' y2' y3' i0 s1 s2 l3 m3 r3 hb HIY;have HBA:=zh hba;clear hba;generalize hY:LExpr.mk k1 n1 x1 ks1=Y at *;clear hY;generalize ks1.length=K1 at *;go_wp2_with fail
   refine hcall.mono ?_;unfold MeO;rintro e w2 ⟨v2,rfl,ho2,hb2⟩;have HB2:Hid (Below wr.heap.size wr w2):=HBA.out.trans (hb2.mono (by simp));have HO2:=zh ho2;obtain ⟨f0,f1,f2,f3⟩:=k4 HB2.out f0 f1 f2 f3;have g0:=kept HB2.out (kept HB.out E0.out);have hs2:wr.heap.size≤w2.heap.size:=HB2.out.size;clear hcall ho2 hb2;by_cases q:(meanP c Y).2=0
   ·rw [q];rcases Nat.eq_zero_or_pos i with hi0 | hi0
    ·subst hi0;have HS:Hid (meanKs c k true [] ks=meanKs c k false (meanP c Y).1 (ks.drop (0+1))):=by
      show _=_;rw [HK.out,HKS.out,show ((0:Nat) == 0)=true from rfl,meanKs_first q HK3.out]
     have HLL:Hid ((meanP c Y).1.length≤64 * (0+1)):=HML.out.1;have HAA:Hid (∀ a∈(meanP c Y).1,a.length≤sizeKs (ks.take (0+1))):=by
      intro a ha;rw [take_at HY.out,sizeKs_snoc];have:=HML.out.2 a ha;omega
     clear q;generalize (meanP c Y).1=ml at *;have HOC:=zh (HO2.out.weaken (B0:=w1.heap.size) (by simp;omega));obtain ⟨al,cl,rfl,-⟩:=list_inv HO2.out.is;have HB3:Hid (Below w1.heap.size w1 w2):=HB.out.trans (HB2.out.mono hz1);clear HO HO2 f0 f1 f2 f3;go_wp2;go_roundw
     case rel=>exact ⟨0+1,_,by omega,by go_num,HB3,HOC,HS,HLL,fun _=>HLL,HAA⟩
     case measure=>exact zm
    ·have qi:((i:Int) == 0)=false:=beq_eq_false_iff_ne.2 (by omega);have qi2:(i == 0)=false:=beq_eq_false_iff_ne.2 (by omega);have HMO:Hid (out.length≤64):=HL1.out hi0;have HPL:=zh (sizedMin_ok (pairs_len HA.out HML.out.2));have hsY:sizeE Y≤1000000:=by
      have:=size_mem (List.mem_of_getElem? HY.out);have h3:=HSZ.out;rw [sizeE] at h3;omega
     have hsT:sizeKs (ks.take i)+sizeE Y≤1000000:=by
      have:=sizeKs_take ks (i+1);rw [take_at HY.out,sizeKs_snoc] at this;have h3:=HSZ.out;rw [sizeE] at h3;omega
     have hcall:=HP.out w2 u6 v2 out (meanP c Y).1 (HO.out.below HB2.out).is HO2.out.is HMO.out HML.out.1 (fun a ha=>by have:=HA.out a ha;omega) (fun a ha=>by have:=HML.out.2 a ha;omega);have HPA:=zh (fun a ha=>Nat.le_trans (pairs_len HA.out HML.out.2 a ha) hsT);have HPC:=zh (pairs_count out (meanP c Y).1);have HPB:Hid ((pairsA out (meanP c Y).1).length≤4096):=by
      show _≤_;rw [HPC.out];exact Nat.mul_le_mul HMO.out HML.out.1
     have HS:Hid (meanKs c k true [] ks=if !((sizedP (minimalP (pairsA out (meanP c Y).1))).2 == 0) then ([],(sizedP (minimalP (pairsA out (meanP c Y).1))).2) else meanKs c k false (sizedP (minimalP (pairsA out (meanP c Y).1))).1 (ks.drop (i+1))):=by
      show _=_;rw [HK.out,HKS.out,qi2,meanKs_and q HK3.out]
     clear q;obtain ⟨ao,co,rfl,-⟩:=list_inv HO.out.is;obtain ⟨al,cl,rfl,-⟩:=list_inv HO2.out.is;clear HO HO2;generalize (meanP c Y).1=ml at *;generalize out.length=LO at *;generalize ml.length=LM at *;go_wp2_with fail
     refine hcall.mono ?_;rintro e w3 ⟨fv,rfl,hb3,hcol⟩;have HB3:=zh hb3;have hs3:w2.heap.size≤w3.heap.size:=HB3.out.size;clear hcall hb3;go_wp2_with fail
     refine hcol.mono ?_;unfold MO;rintro e w4 ⟨v4,rfl,ho4,hb4⟩;have HB4:Hid (Below w2.heap.size w2 w4):=hb4;have hs4:w2.heap.size≤w4.heap.size:=HB4.out.size;have hcall:=Minimal_p w4 v4 (pairsA out ml) ho4.is HPA.out (by have:=HPB.out;omega);obtain ⟨a4,c4,rfl,-⟩:=list_inv ho4.is;clear hcol ho4 hb4;generalize (pairsA out ml).length=LP at *;go_wp2_with fail
     refine hcall.mono ?_;unfold MO;rintro e w5 ⟨v5,rfl,ho5,hb5⟩;have HB5:Hid (Below w2.heap.size w2 w5):=HB4.out.trans (hb5.mono (by omega));have hcall2:=sized_p ho5;obtain ⟨a5,c5,rfl,-⟩:=list_inv ho5.is;clear hcall ho5 hb5;generalize (minimalP (pairsA out ml)).length=L5 at *;go_wp2_with fail
     refine hcall2.mono ?_;rintro e w6 ⟨v6,rfl,ho6,rfl⟩;have HO6:=zh ho6;clear hcall2 ho6;generalize hpp:sizedP (minimalP (pairsA out ml))=pp at *;have hs6:w2.heap.size≤w6.heap.size:=HB5.out.size;clear f0 f1 f2 f3;have HB7:Hid (Below w1.heap.size w1 w6):=(HB.out.trans (HB2.out.mono hz1)).trans (HB5.out.mono (by omega));by_cases q:pp.2=0
     ·have HS2:Hid (meanKs c k true [] ks=meanKs c k false pp.1 (ks.drop (i+1))):=by
       show _=_;rw [HS.out,q];rfl
      have HLL:Hid (pp.1.length≤64):=HPL.out.1;have HAA:Hid (∀ a∈pp.1,a.length≤sizeKs (ks.take (i+1))):=by
       intro a ha;rw [take_at HY.out,sizeKs_snoc];exact HPL.out.2 a ha
      rw [q];clear q hpp;have HO7:=zh (HO6.out.weaken (B0:=w1.heap.size) (by omega));go_wp2;go_roundw
      case rel=>exact ⟨i+1,_,by omega,by go_num,HB7,HO7,by (have hf:(i+1 == 0)=false:=beq_eq_false_iff_ne.2 (by omega));rw [hf];exact HS2,by show _≤_;have:=HLL.out;omega,fun _=>HLL.out,HAA⟩
      case measure=>exact zm
     ·have HS2:Hid (meanP c (LExpr.mk k n x ks)=([],pp.2)):=by
       show _=_;rw [HM.out,HS.out,if_pos (by simpa using q)]
      generalize pp.2=er at *;have qa:(er == 0)=false:=by simpa using q
      have qb:(er != 0)=true:=by simpa using q
      clear q hpp;go_wp2;go_ret2;refine ⟨.slice none 0 0,by rw [HS2.out];rfl,by rw [HS2.out];exact OwnZ.nil _ _ _,?_⟩;exact HB1.out.trans (HB7.out.mono (by have:=HZ1.out;omega))
   ·have HS:Hid (meanP c (LExpr.mk k n x ks)=([],(meanP c Y).2)):=by
     show _=_;rw [HM.out,HK.out,HKS.out,meanKs_err q]
    exact zrmeanu1
  ·have hkz:¬ (i:Int) < (N:Int):=by omega
   have HF:Hid (meanP c (LExpr.mk k n x ks)=sizedP (minimalP out)):=by
    show _=_;rw [HM.out,HK.out,List.drop_eq_nil_of_le (by rw [HN.out];omega),meanKs]
   exact zrmeanu0

def orOnly (e:LExpr):Prop:=∀ y∈nodesE e,y.kind=0∨y.kind=1∨y.kind=3
theorem nodesKs_mem {ks:List LExpr} {e y:LExpr} (h:e∈ks) (hy:y∈nodesE e):y∈nodesKs ks:=by
 induction ks with
 | nil=>simp at h
 | cons a r ih =>
  rw [nodesKs];rcases List.mem_cons.1 h with rfl | h
  ·exact List.mem_append.2 (.inl hy)
  ·exact List.mem_append.2 (.inr (ih h))
theorem mean_p (c:Catalog):∀ e:LExpr,(PairsC∨orOnly e)→sizeE e≤1000000→MeanC e c:=by
 refine LExpr.ind fun k n x ks ih hA hsz=>?_;have ih2:∀ e∈ks,MeanC e c:=fun e he=>ih e he (hA.imp id fun h y hy=>h y (by rw [nodesE];exact List.mem_cons_of_mem _ (nodesKs_mem he hy))) (by have:=size_mem he;rw [sizeE] at hsz;omega);intro w vc v hg hc h;by_cases k0:k=0
 ·subst k0;exact mean0_p w vc v c n x ks hc h
 by_cases k1:k=1
 ·subst k1;exact mean1_p w vc v c n x ks hg hc h
 by_cases k3:k=3
 ·exact meanOr_p k n x ks c k3 ih2 hsz w vc v hg hc h
 ·rcases hA with hA | hA
  ·exact meanAnd_p k n x ks c k0 k1 k3 hA ih2 hsz w vc v hg hc h
  ·have:=hA (.mk k n x ks) (by rw [nodesE];simp);simp only [LExpr.kind] at this;omega
theorem Of_p (c:Catalog) (y:LExpr) (hA:PairsC∨orOnly y) (hsz:sizeE y≤1000000) (w:World) (vc v:Value) (hg:Glob w) (hc:Is w vc c) (h:Is w v y) :
  Calls Tryz.prog 55 #[vc,v] w fun e w'=>MeO (ofP c y) w e w':=by
 have HF:Hid (ofP c y=if !(checkE c y == 0) then ([],checkE c y) else meanP c y):=rfl;have HG:=zh hg;have HC:=zh hc;have HI:=zh h;have HMP:=zh (mean_p c y hA hsz);have HCX:=zh (fun W vc v h1 h2 h3=>CheckX_p W vc v c y h1 h2 h3 hsz);obtain ⟨k0,n0,x0,ks⟩:=y;obtain ⟨a,k,rfl,-⟩:=LExpr.inv h;obtain ⟨a0,c0,a1,c1,a2,c2,a3,c3,rfl,-⟩:=Catalog.inv hc;clear h hc hg hA hsz;generalize LExpr.mk k0 n0 x0 ks=Y at *;generalize ks.length=K at *;generalize c.licenses.length=N0 at *;generalize c.exceptions.length=N1 at *;generalize c.clauses.length=N2 at *;generalize c.apart.length=N3 at *;have hb1:Below w.heap.size w ((w.alloc (.cells #[.slice a0 N0 c0,.slice a1 N1 c1,.slice a2 N2 c2,.slice a3 N3 c3] 27)).alloc (.cells #[.int .i64 k0,.string n0,.string x0,.slice a K k] 68)):=bw;have HB1:=zh hb1;have hcall:=HCX.out ((w.alloc (.cells #[.slice a0 N0 c0,.slice a1 N1 c1,.slice a2 N2 c2,.slice a3 N3 c3] 27)).alloc (.cells #[.int .i64 k0,.string n0,.string x0,.slice a K k] 68)) _ _ (HG.out.mono hb1) (HC.out.mono hb1) (HI.out.mono hb1);clear hb1;generalize checkE c Y=ce at *;go_enter Tryz.func55,Tryz.ntmps55;go_wp2_with fail
 refine hcall.mono ?_;rintro e w2 ⟨rfl,hb2⟩;have d0:=kb w hb2 0 (.slice a0 N0 c0);have d1:=kb w hb2 1 (.slice a1 N1 c1);have d2:=kb w hb2 2 (.slice a2 N2 c2);have d3:=kb w hb2 3 (.slice a3 N3 c3);have e0:=kb1 w hb2 0 (.int .i64 k0);have e1:=kb1 w hb2 1 (.string n0);have e2:=kb1 w hb2 2 (.string x0);have e3:=kb1 w hb2 3 (.slice a K k);have hs0:=cell_lt d0;have hs1:=cell_lt e0;have HB2:Hid (Below w.heap.size w w2):=HB1.out.trans (hb2.mono (by simp;omega));clear hcall hb2;by_cases q:ce=0
 ·subst q;have HF2:Hid (ofP c Y=meanP c Y):=by show _=_;rw [HF.out];rfl
  have hcall:=HMP.out w2 _ _ (HG.out.mono HB2.out) (HC.out.mono HB2.out) (HI.out.mono HB2.out);go_wp2_with fail
  refine hcall.mono ?_;unfold MeO;rintro e w3 ⟨v3,rfl,ho3,hb3⟩;have HO3:=zh ho3;have HB3:Hid (Below w.heap.size w w3):=HB2.out.trans (hb3.mono HB2.out.size);have hs2:w.heap.size≤w2.heap.size:=HB2.out.size;clear hcall ho3 hb3 d0 d1 d2 d3 e0 e1 e2 e3;go_wp2;go_ret2;exact ⟨_,by rw [HF2.out];rfl,by rw [HF2.out];exact HO3.out.weaken hs2,HB3.out⟩
 ·have q1:(ce == 0)=false:=by simpa using q
  have q2:(ce != 0)=true:=by simpa using q
  have HF2:Hid (ofP c Y=([],ce)):=by show _=_;rw [HF.out,q1];rfl
  clear q;go_wp2;go_ret2;exact ⟨.slice none 0 0,by rw [HF2.out];rfl,by rw [HF2.out];exact OwnZ.nil _ _ _,HB2.out⟩
theorem of_len (c:Catalog) (y:LExpr):(ofP c y).1.length≤64∧∀ a∈(ofP c y).1,a.length≤sizeE y:=by
 unfold ofP;split
 ·exact ⟨by simp,fun a h=>by simp at h⟩
 ·exact mean_len c y

theorem expBox {w:World} {e:LExpr} {v:Value} (h:Is w v e):∃ k n x a K c,v=.agg #[.int .i64 k,.string n,.string x,.slice a K c]:=by
 obtain ⟨k0,n0,x0,ks⟩:=e;obtain ⟨a,k,rfl,-⟩:=LExpr.inv h;exact ⟨_,_,_,_,_,_,rfl⟩
theorem catBox {w:World} {c:Catalog} {v:Value} (h:Is w v c):∃ a0 n0 c0 a1 n1 c1 a2 n2 c2 a3 n3 c3,v=.agg #[.slice a0 n0 c0,.slice a1 n1 c1,.slice a2 n2 c2,.slice a3 n3 c3]:=by
 obtain ⟨a0,c0,a1,c1,a2,c2,a3,c3,rfl,-⟩:=Catalog.inv h;exact ⟨_,_,_,_,_,_,_,_,_,_,_,_,rfl⟩
end Go.Proofs.YtcbopdbbcgdkcaaGreatDoor
