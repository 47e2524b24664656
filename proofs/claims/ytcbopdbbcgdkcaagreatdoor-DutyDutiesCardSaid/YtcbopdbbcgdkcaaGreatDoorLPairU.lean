/- Lemmas. -/
import Derived.Lib.AppendZerosOnto
import Derived.Test.YtcbopdbbcgdkcaaGreatDoorLMeanU
set_option linter.all false
set_option maxRecDepth 100000
set_option maxHeartbeats 16000000
namespace Go.Proofs.YtcbopdbbcgdkcaaGreatDoor
open Go Go.RowKit Go.ChangeShapes Go.Sort Go.Lib

theorem GrowT_p (w:World) (n:Nat) (hn:n≤1000000000) :
  Calls Tryz.prog 259 #[.slice none 0 0,.int .i64 n] w fun e w'=>∃ v,e=.returned v∧w'.ownsRow w.heap.size 61 2 v 0 []∧Below w.heap.size w w':=by
 obtain ⟨i0,hi,hz0,hz1,hz2⟩:=info_parts infoTerm;by_cases h0:n=0
 ·subst h0;go_enter Tryz.func259,Tryz.ntmps259;go_wp2;go_ret;exact ⟨.slice none 0 0,rfl,World.ownsRow_nil _ _ _ _,Below.refl _ _⟩
 ·have h4:(0:Int) < (n:Int):=by omega
  have h1:¬ ((n:Int) < 0):=by omega
  have hold:(Builtin.firstCells i0.size 0 (.slice none 0 0)).run Tryz.prog w.drew=.ok ([]:List Value).toArray w.drew:=run_firstCells_none w.drew i0.size 0 0 0;have hrz:∀ ty,(Builtin.append_ #[59,3] ty #[.slice none 0 0,.int .i64 (n:Int)]).run Tryz.prog w=_:=fun ty =>
   Lib.run_append_grow_zeros w 59 3 ty 61 i0 _ .i64 .i64 Tryz.underlying59 Tryz.underlying3 hi hz0 none 0 0 [] hold n (by omega) (by omega) (by omega) (by omega) (by rw [hz2];omega)
    (by rw [hz2,Nat.zero_add];exact growslice_fits (by omega) (by omega))
  have hG:=grownCap_le_maxLen w (0+n) 0 61 (by unfold maxLen;omega);have hG2:=grownCap_ge w (0+n) 0 61;generalize hGe:grownCap w (0+n) 0 61=G at hrz hG hG2;have hsz:((([]:List Value).toArray++Builtin.zeroCells (.agg #[.string ByteArray.empty,.string ByteArray.empty]:Value).cells n++Builtin.zeroCells (.agg #[.string ByteArray.empty,.string ByteArray.empty]:Value).cells (G - (0+n)))).size=G * 2:=by
   rw [Array.size_append,Array.size_append,size_zeroCells,size_zeroCells];have:(.agg #[.string ByteArray.empty,.string ByteArray.empty]:Value).cells.size=2:=rfl;rw [this];simp;omega
  have HS:Hid (∀ cur:Array Value,cur.size=G * 2→(w.drew.alloc (.cells cur 61)).ownsRow w.heap.size 61 2 (.slice (some ⟨w.heap.size,0,none⟩) 0 G) 0 []):=fun cur h=>World.ownsRow_made w.drew cur G (Nat.le_refl _) hG h;generalize (([]:List Value).toArray++Builtin.zeroCells (.agg #[.string ByteArray.empty,.string ByteArray.empty]:Value).cells n++Builtin.zeroCells (.agg #[.string ByteArray.empty,.string ByteArray.empty]:Value).cells (G - (0+n)))=cur at *;have HO:=zh (HS.out cur hsz);have hG3:G≤9223372036854775807:=by unfold maxLen at hG;omega
  clear hold hsz HS hGe hG;go_enter Tryz.func259,Tryz.ntmps259;go_wp2_with (at_builtin;refine Lib.wpList_append_run _ rfl _ _ _ _ rfl _ _ rfl rfl _ _ (hrz _) ?_)
  all_goals
   go_ret;exact ⟨_,rfl,HO.out,((Below.refl _ w).drew).alloc (by simp) _⟩

theorem addr_add (b off j:Nat):(⟨b,off,none⟩:Addr).add j=⟨b,off+j,none⟩:=by
 unfold Addr.add;split
 ·subst j;simp
 ·rfl
theorem term_sizes {w:World} {a:Option Addr} {xs:List Term} (hr:Row w a xs):∀ x∈xs,x.license.size≤maxLen∧x.exception.size≤maxLen:=by
 intro x hx;obtain ⟨i,hi,rfl⟩:=List.mem_iff_getElem.1 hx;have hx2:xs[i]?=some xs[i]:=by simp
 obtain ⟨b,off,-,-,-,-,s⟩:=Term.at_row hr hx2;exact s
theorem row_none {α:Type} [Lay α] {w:World} {xs:List α} (hr:Row w none xs):xs=[]:=by
 cases xs with
 | nil=>rfl
 | cons x r=>obtain ⟨b,off,h1,-⟩:=hr 0 x rfl;cases h1
theorem encT_len (ls:List Term):(ls.map encT).flatten.length=ls.length * 2:=by
 induction ls with
 | nil=>rfl
 | cons a r ih=>simp only [List.map_cons,List.flatten_cons,List.length_append,ih,List.length_cons];simp [encT];omega
theorem app_terms {ops:Array Oper} {rest:List Oper} {o:Oper} {a:Act} {Q:Exit→Act→World→Prop} {w:World} (hgd:o.guard=none) (s x:Operand)
  (ho:o.op=.call { callee:=.builtin .append,args:=#[s,x],argTypes:=#[59,59] })
  (B:Nat) (v u:Value) (xs ys:List Term) (hs:a.eval s=v) (hx:a.eval x=u) (hown:RowT B w v xs) (hu:Is w u ys)
  (hb:xs.length+ys.length≤1000000000) (hB:B≤w.heap.size)
  (h:∀ v' w',RowT B w' v' (xs++ys)→Below B w w'→wpList Tryz.prog ops Q rest (a.put o.dst v') w') :
  wpList Tryz.prog ops Q (o :: rest) a w:=by
 obtain ⟨i0,hi,hz0,hz1,hz2⟩:=info_parts infoTerm;obtain ⟨ua,uc,rfl,huc,hum,hur⟩:=list_inv hu;have hsz:∀ z∈xs++ys,z.license.size≤maxLen∧z.exception.size≤maxLen:=fun z hz=>(List.mem_append.1 hz).elim (hown.2 z) (term_sizes hur z);cases ua with
 | none =>
  obtain rfl:=row_none hur;obtain ⟨va,vc,rfl,hvc,-⟩:=list_inv hown.is;have hrun:=run_append_nothing (P:=Tryz.prog) w 59 59 o.type 61 i0 Tryz.underlying59 hi va xs.length vc hvc (.slice none 0 uc) (Src.ofNil w Tryz.underlying59 uc);have hk:=h (.slice va xs.length vc) w (by simpa using hown) (Below.refl _ _);refine wpList_plain hgd fun K hK=>?_;unfold Oper.wp execOp;simp only [List.length_nil] at hx;simp only [ho,resolve,invoke,builtin,Sem.run_bind,Sem.run_pure,Result.andThen_ok,List.map_toArray,List.map_cons,List.map_nil,hs,hx,hrun];exact hK _ _ hk
 | some p =>
  have hcells:∀ j q,((ys.map encT).flatten)[j]?=some q→w.cell? (p.add j)=some q:=by
   intro j q hj;cases ys with
   | nil=>simp at hj
   | cons y r =>
    obtain ⟨b,off,he,-⟩:=hur 0 y rfl;cases he;rw [addr_add];exact row_cells hur j q hj
  refine wpList_append_own _ hgd s x 59 ho B 61 i0 _ 2 32 Tryz.underlying59 hi hz0 hz1 hz2 rfl (by decide) v xs.length _ hs hown.1 p ys.length uc (ys.map encT).flatten hx (encT_len _) hcells encT_one ?_ ?_ hB ?_
  ·unfold maxLen;omega
  ·omega
  ·intro v' w' h2 h3 h4;refine h v' w' ⟨?_,hsz⟩ ((Below.refl _ _).app h3 hB hown.1);rw [List.length_append,List.map_append,List.flatten_append];exact h2
def RowF (B:Nat) (w0 w:World) (v:Value) (xs:List (List Term)):Prop :=
 ∃ vs:List Value,vs.length=xs.length∧w.ownsRow B 59 1 v xs.length vs∧∀ (i:Nat) (u:Value) (x:List Term),vs[i]?=some u→xs[i]?=some x→Is w0 u x
theorem RowF.is {B:Nat} {w0 w:World} {v:Value} {xs:List (List Term)} (h:RowF B w0 w v xs) (hb:Below w0.heap.size w0 w):Is w v xs:=by
 obtain ⟨vs,h1,h2,h3⟩:=h;rcases h2.2 with ⟨rfl,h0⟩ | ⟨g,cap,cur,rfl,hg,hh,hn',hc,hsz,ht⟩
 ·obtain rfl:xs=[]:=List.length_eq_zero_iff.1 h0;exact nil_mk w
 ·refine list_mk hn' hc fun i x hx=>⟨g,0,rfl,?_,?_⟩
  ·rcases Nat.lt_or_ge g w.heap.size with h | h
   ·exact h
   ·rw [Array.getElem?_eq_none h] at hh;cases hh
  ·have hi:i < xs.length:=lt_get hx;obtain ⟨u,hu⟩:=get_lt (xs:=vs) (k:=i) (by omega);obtain ⟨a',c',rfl,k1,k2,k3⟩:=list_inv ((h3 i u x hu hx).mono hb);refine ⟨a',c',?_,k1,k2,k3⟩;show w.cell? ⟨g,0+i * 1+0,none⟩=_;have e:cur[i]?=some (.slice a' x.length c'):=by
    rw [← ht,List.getElem?_take] at hu;split at hu
    ·simpa using hu
    ·cases hu
   rw [show 0+i * 1+0=i by omega];simp [World.cell?,hh,e]
theorem row_vals {w:World} {b off:Nat} {L:List (List Term)} (h:Row w (some ⟨b,off,none⟩) L) :
  ∃ vs:List Value,vs.length=L.length∧(∀ j u,vs[j]?=some u→w.cell? ⟨b,off+j,none⟩=some u∧u.oneCell'=true)∧∀ (i:Nat) (u:Value) (x:List Term),vs[i]?=some u→L[i]?=some x→Is w u x:=by
 refine ⟨(List.range L.length).map fun i=>(w.cell? ⟨b,off+i,none⟩).getD undef,by simp,fun j u hj=>?_,fun i u x hu hx=>?_⟩
 ·rw [List.getElem?_map] at hj;have hlt:j < L.length:=by
   rcases Nat.lt_or_ge j L.length with h | h
   ·exact h
   ·rw [List.getElem?_eq_none (by simpa using h)] at hj;cases hj
  obtain ⟨x,hx⟩:=get_lt hlt;obtain ⟨b',off',he,-,ax,cx,x0,-⟩:=list_at h hx;cases he;rw [List.getElem?_range hlt] at hj;simp only [Option.map_some,Option.some.injEq] at hj;rw [x0] at hj ⊢;subst hj;exact ⟨rfl,rfl⟩
 ·obtain ⟨b',off',he,-,ax,cx,x0,x1,x2,x3⟩:=list_at h hx;cases he;rw [List.getElem?_map,List.getElem?_range (lt_get hx)] at hu;simp only [Option.map_some,Option.some.injEq] at hu;rw [x0] at hu;subst hu;exact list_mk x1 x2 x3
theorem app_alts {ops:Array Oper} {rest:List Oper} {o:Oper} {a:Act} {Q:Exit→Act→World→Prop} {w0 w:World} (hgd:o.guard=none) (s x:Operand)
  (ho:o.op=.call { callee:=.builtin .append,args:=#[s,x],argTypes:=#[41,41] })
  (B:Nat) (v u:Value) (xs ys:List (List Term)) (hs:a.eval s=v) (hx:a.eval x=u) (hown:RowF B w0 w v xs) (hu:Is w0 u ys) (h0:Below w0.heap.size w0 w)
  (hb:xs.length+ys.length≤1000000000) (hB:B≤w.heap.size)
  (h:∀ v' w',RowF B w0 w' v' (xs++ys)→Below B w w'→wpList Tryz.prog ops Q rest (a.put o.dst v') w') :
  wpList Tryz.prog ops Q (o :: rest) a w:=by
 obtain ⟨i0,hi,hz0,hz1,hz2⟩:=info_parts altRow;obtain ⟨ua,uc,rfl,huc,hum,hur⟩:=list_inv hu;obtain ⟨vs,k1,k2,k3⟩:=id hown;cases ua with
 | none =>
  obtain rfl:=row_none hur;obtain ⟨va,vc,rfl,hvc,-⟩:=list_inv (hown.is h0);have hrun:=run_append_nothing (P:=Tryz.prog) w 41 41 o.type 59 i0 Tryz.underlying41 hi va xs.length vc hvc (.slice none 0 uc) (Src.ofNil w Tryz.underlying41 uc);have hk:=h (.slice va xs.length vc) w (by simpa using hown) (Below.refl _ _);refine wpList_plain hgd fun K hK=>?_;unfold Oper.wp execOp;simp only [List.length_nil] at hx;simp only [ho,resolve,invoke,builtin,Sem.run_bind,Sem.run_pure,Result.andThen_ok,List.map_toArray,List.map_cons,List.map_nil,hs,hx,hrun];exact hK _ _ hk
 | some p =>
  obtain ⟨us,m1,m2,m3⟩:∃ us:List Value,us.length=ys.length∧(∀ j q,us[j]?=some q→w.cell? (p.add j)=some q∧q.oneCell'=true)∧∀ (i:Nat) (u:Value) (x:List Term),us[i]?=some u→ys[i]?=some x→Is w0 u x:=by
   cases ys with
   | nil=>exact ⟨[],rfl,fun j q hj=>by simp at hj,fun i u x hu=>by simp at hu⟩
   | cons y r =>
    obtain ⟨b,off,he,-⟩:=hur 0 y rfl;cases he;obtain ⟨us,m1,m2,m3⟩:=row_vals hur;exact ⟨us,m1,fun j q hj=>by rw [addr_add];exact ⟨kept h0 (m2 j q hj).1,(m2 j q hj).2⟩,m3⟩
  refine wpList_append_own _ hgd s x 41 ho B 59 i0 _ 1 24 Tryz.underlying41 hi hz0 hz1 hz2 rfl (by decide) v xs.length _ hs k2 p ys.length uc us hx (by omega) (fun j q hj=>(m2 j q hj).1) ?_ ?_ ?_ hB ?_
  ·intro q hq;obtain ⟨j,hj,rfl⟩:=List.mem_iff_getElem.1 hq;exact (m2 j us[j] (by simp)).2
  ·unfold maxLen;omega
  ·omega
  ·intro v' w' h2 h3 h4;refine h v' w' ⟨vs++us,by simp [k1,m1],by rw [List.length_append];exact h2,fun i q z hq hz=>?_⟩ ((Below.refl _ _).app h3 hB k2);rcases Nat.lt_or_ge i xs.length with hi | hi
   ·rw [List.getElem?_append_left (by omega)] at hq;rw [List.getElem?_append_left (by omega)] at hz;exact k3 i q z hq hz
   ·rw [List.getElem?_append_right (by omega)] at hq;rw [List.getElem?_append_right (by omega)] at hz;rw [k1] at hq;exact m3 _ q z hq hz
theorem flat_take {α:Type} {xs:List (List α)} {k:Nat} {x:List α} (hx:xs[k]?=some x):(xs.take (k+1)).flatten=(xs.take k).flatten++x:=by
 rw [take_at hx,List.flatten_append];simp
theorem flat_bound {α:Type} {xs:List (List α)} {m:Nat} (h:∀ x∈xs,x.length≤m):∀ k,(xs.take k).flatten.length≤k * m:=by
 intro k;induction k with
 | zero=>simp
 | succ k ih =>
  rcases Nat.lt_or_ge k xs.length with hk | hk
  ·obtain ⟨x,hx⟩:=get_lt hk;rw [flat_take hx,List.length_append];have:=h x (List.mem_of_getElem? hx);rw [Nat.succ_mul];omega
  ·rw [List.take_of_length_le (by omega)];rw [List.take_of_length_le hk] at ih;rw [Nat.succ_mul];omega

theorem ConcatT_p (w:World) (v:Value) (xss:List (List Term)) (h:Is w v xss) (hn:xss.length≤1000) (hl:∀ x∈xss,x.length≤1000000) :
  Calls Tryz.prog 228 #[v] w fun e w'=>∃ v',e=.returned v'∧RowT w.heap.size w' v' xss.flatten∧Below w.heap.size w w':=by
 obtain ⟨a,c,rfl,hnc,hcm,hr⟩:=list_inv h;simp only [maxLen] at hcm;have HR:=zh hr;have HF:=zh (flat_bound hl);have HLN:=zh hl;clear hr h hl;generalize hN:xss.length=N at *;have HN:=zh hN;clear hN;go_enter Tryz.func228,Tryz.ntmps228;go_wp2;go_loopw [3,11] (fun sv kv wr=>∃ k:Nat,k≤N∧sv=.int .i64 ((xss.take k).flatten.length:Nat)∧kv=.int .i64 k∧w=wr) (fun _ kv _=>N - (intOf kv).toNat)
 case atStart=>exact ⟨0,by omega,by simp,rfl,rfl⟩
 case round =>
  obtain ⟨k,hk,rfl,rfl,rfl⟩:=hrel;by_cases hki:k < N
  ·have hkz:(k:Int) < (N:Int):=by omega
   have hk0:(0:Int)≤(k:Int):=by omega
   obtain ⟨x,hx⟩:=get_lt (xs:=xss) (k:=k) (by rw [HN.out];exact hki);obtain ⟨bx,ox,rfl,hbx,ax,cx,x0,hx1,hx2,hx3⟩:=list_at HR.out hx;have hsx:=cell_lt x0;have hS:=HF.out k;have hS2:=HF.out (k+1);have HFT:=zh (congrArg List.length (flat_take hx));have hxl:=HLN.out x (List.mem_of_getElem? hx);simp only [maxLen] at hx2;clear hx hx3;generalize hq:(xss.take k).flatten.length=S at *;have HQ:Hid ((xss.take (k+1)).flatten.length=S+x.length):=by show _=_;rw [HFT.out,List.length_append,hq]
   clear HFT hq;generalize x.length=L at *;have hkb:k * 1000000≤1000000000:=by omega
   have hneg:¬ ((S:Int)+(L:Int) < 0):=by omega
   go_wp2;go_roundw
   case rel=>exact ⟨k+1,by omega,by rw [HQ.out];go_num,by go_num,(by first | rfl | trivial)⟩
   case measure=>exact zm
  ·have hkz:¬ (k:Int) < (N:Int):=by omega
   have hS:=HF.out k;have hkb:k * 1000000≤1000000000:=by omega
   have hcall:=GrowT_p w ((xss.take k).flatten.length) (by omega);generalize (xss.take k).flatten.length=S at *;clear hS hkb hki;go_wp2_with fail
   refine hcall.mono ?_;rintro e w1 ⟨v1,rfl,ho,hb1⟩;have HB1:=zh hb1;have HO1:Hid (RowT w.heap.size w1 v1 []):=⟨by simpa using ho,fun x hx=>by simp at hx⟩
   clear hcall ho hb1;clear hkz hk;go_wp2;go_loopw [6,27] (fun nv kv wr=>∃ k:Nat,k≤N∧kv=.int .i64 k∧Hid (Below w.heap.size w wr)∧Hid (RowT w.heap.size wr nv (xss.take k).flatten)) (fun _ kv _=>N - (intOf kv).toNat)
   case atStart=>exact ⟨0,by omega,rfl,HB1,by simpa using HO1⟩
   case round =>
    clear HB1 HO1;obtain ⟨k,hk,rfl,HB,HO⟩:=hrel;by_cases hki:k < N
    ·have hkz:(k:Int) < (N:Int):=by omega
     have hk0:(0:Int)≤(k:Int):=by omega
     obtain ⟨x,hx⟩:=get_lt (xs:=xss) (k:=k) (by rw [HN.out];exact hki);obtain ⟨bx,ox,rfl,hbx,ax,cx,x0',hx1,hx2,hx3⟩:=list_at HR.out hx;have x0:=kept HB.out x0';have hsx:=cell_lt x0;have hxi0:Hid (Is w (.slice ax x.length cx) x):=list_mk hx1 hx2 hx3;have hxi:Hid (Is wr (.slice ax x.length cx) x):=hxi0.out.mono HB.out;have HFT:=zh (flat_take hx);have hbb:(xss.take k).flatten.length+x.length≤1000000000:=by
      have h1:=HF.out k;have h2:=HLN.out x (List.mem_of_getElem? hx);omega
     clear hx hx3 x0' hx1 hx2;go_wp2_with (at_builtin;go_loud (refine app_terms rfl _ _ rfl w.heap.size _ _ _ x rfl rfl HO.out hxi.out hbb (by have:=HB.out.size;omega) ?_))
     intro v2 w2 ho2 hb2;have HB2:Hid (Below w.heap.size w w2):=HB.out.trans hb2;have HO2:Hid (RowT w.heap.size w2 v2 (xss.take (k+1)).flatten):=by rw [HFT.out];exact ho2
     clear ho2 hb2 HO HFT hbb hxi hxi0;go_wp2;go_roundw
     case rel=>exact ⟨k+1,by omega,by go_num,HB2,HO2⟩
     case measure=>exact zm
    ·have hkz:¬ (k:Int) < (N:Int):=by omega
     have HOE:Hid (RowT w.heap.size wr u6 xss.flatten):=by
      have:=HO.out;rw [List.take_of_length_le (by rw [HN.out];omega)] at this;exact this
     go_wp2;go_ret;exact ⟨_,rfl,HOE.out,HB.out⟩

end Go.Proofs.YtcbopdbbcgdkcaaGreatDoor
namespace Go.Proofs.YtcbopdbbcgdkcaaGreatDoor
open Go Go.RowKit
def SeqAll {α:Type} (n:Nat) (P:Program) (g:Nat) (lb:Array Value) (encs:α→Array Value) (V:α→World→Prop) (S:List α→Prop) (N:Nat) (w:World):Prop :=
 ∀ (l:Nat) (J:List α→World→Prop) (W:World),Below w.heap.size w W→AbidesFrom W.heap.size J →
  (∀ pre x W1,J pre W1→V x W1→pre.length < N→YieldAt Fence.wide (n - 1) P l (encs x) W1 fun e W'=>e=.returned (.bool true)∧J (pre++[x]) W'∧Below w.heap.size W1 W') →
  J [] W→CallsIn Fence.wide n P g (#[.func (.yield l) #[] #[]]++lb) W fun e W'=>(∃ v,e=.returned v)∧∃ xs,S xs∧J xs W'
def OnPost {α:Type} (B B0:Nat) (I:List α→World→Prop) (xs:List α) (W:World):Exit→Act→World→Prop
 | .normal,_,W'=>KeepsFrom B W W'∧Below B0 W W'∧I xs W'
 | _,_,_=>False
theorem wpIn_range_all {α:Type} {P:Program} {n:Nat} {g:Operand} {ps:Array Tmp} {assign body:Code} {Q:Exit→Act→World→Prop} {a:Act} {w:World}
  (h1:1≤n) {gf:Nat} {lb:Array Value} (hg:a.eval g=.func (.func gf) #[] lb) (eg:∀ args w,(callFunc gf args).run P w=.ok (.enter gf args) w)
  {encs:α→Array Value} {V:α→World→Prop} {S:List α→Prop} {N:Nat} {w0:World} (hseq:SeqAll (n - 1) P gf lb encs V S N w0)
  (hb0:Below w0.heap.size w0 w) (hps:∀ x,(encs x).size=ps.size)
  (I:List α→World→Prop) (hI:OwnFrom w.heap.size I) (hV:OwnFrom w.heap.size V) (h0:I [] w) (a₁:α→Act)
  (hassign:∀ (l:Nat) (x:α) (W:World) (K:Act→World→Prop),K (a₁ x) W →
   assign.wpIn (Fence.wide.inRound l) (n - 1 - 1) P (Exit.then K (fun _ _ _=>False)) { tmps:=(ps.zip (encs x)).foldl (fun t (p,v)=>t.setIfInBounds p v) a.tmps,defers:=[] } W)
  (hbody:∀ (l:Nat) (pre:List α) (x:α) (W:World),I pre W→V x W→pre.length < N→body.wpIn (Fence.wide.inRound l) (n - 1 - 1) P (OnPost w.heap.size w0.heap.size I (pre++[x]) W) (a₁ x) W)
  (hdone:∀ (D:Nat) (xs:List α) (W:World),w.heap.size≤D→S xs→I xs W→W.heap[D]?=some (.deferred (some []))→Q .normal { a with defers:={ target:=.collected D,args:=#[] } :: a.defers } W) :
  (Code.rangeFunc g ps assign body).wpIn Fence.wide n P Q a w:=by
 refine wpIn_rangeFunc fun fn hfn=>?_;have hrd:Fence.wide.round=none:=rfl;rw [hrd];let rec':LoopState→Option Code→Loop:=fun st pe=>{ state:=st,pending:=pe,fn,tmps:=a.tmps,params:=ps,assign,body,defers:=w.heap.size }
 let L:=w.heap.size+1
 generalize hW1:(w.alloc (.deferred (some []))).alloc (.loop (rec' .ready none))=W1;have hgrow:Below w.heap.size w W1:=by rw [← hW1];exact ((Below.refl _ w).alloc (Nat.le_refl _) _).alloc (by simp) _
 have hrec:W1.heap[L]?=some (.loop (rec' .ready none)):=by
  rw [← hW1];have:=World.alloc_heap_new (w.alloc (.deferred (some []))) (.loop (rec' .ready none));rwa [World.size_alloc] at this
 have hdef:W1.heap[w.heap.size]?=some (.deferred (some [])):=by
  rw [← hW1];exact (Below.heap_alloc _ _ _ (by simp)).trans (World.alloc_heap_new w _)
 have hstart:I [] W1:=by
  rw [← hW1];exact hI.alloc _ (hI.alloc _ h0)
 refine ⟨L,[{ target:=.collected w.heap.size,args:=#[] }],W1,{ target:=.fn (.func gf) lb,args:=#[.func (.yield L) #[] #[]] },W1,gf,#[.func (.yield L) #[] #[]]++lb,W1,?_,?_,?_,?_,fun _=>h1,?_⟩
 ·rw [← hW1];exact run_enterLoop_outer _ _ _ _ _
 ·simp only [resolve,hg];simp [go_sem,L]
 ·intro f' _;trivial
 ·simp [invoke,go_sem,eg,L]
 let J:List α→World→Prop:=fun pre W=>I pre W∧W.heap[L]?=some (.loop (rec' .ready none))∧W.heap[w.heap.size]?=some (.deferred (some []))
 have stays:∀ {A B:World} {row:Option Nat} {k:Nat} {o:Obj},A.grownBy B row→(∀ r,row=some r→∃ o:Obj,A.heap[r]?=some o∧o.isWalk=true)→A.heap[k]?=some o→o.isWalk=false→B.heap[k]?=some o:=by
  intro A B row k o hgr hr hk ho;refine (hgr.block k (Array.getElem?_eq_some_iff.1 hk).1 fun e=>?_).trans hk;obtain ⟨o',h1,h2⟩:=hr k e.symm;rw [hk] at h1;cases h1;rw [ho] at h2;cases h2
 have hJ:AbidesFrom W1.heap.size J:=fun s A B row hs hgr hr=>by
  refine ⟨hI s A B row hs.1 hgr fun r e=>?_,stays hgr (fun r e=>(hr r e).2) hs.2.1 rfl,stays hgr (fun r e=>(hr r e).2) hs.2.2 rfl⟩;obtain ⟨hB,o,ho,hw⟩:=hr r e;exact ⟨Nat.le_trans hgrow.size hB,o,ho,Obj.not_cells_of_walk hw⟩
 refine (hseq L J W1 (hb0.trans (hgrow.mono hb0.size)) hJ ?_ ⟨hstart,hrec,hdef⟩).mono ?_
 ·rintro pre x W ⟨hi,hl,hk⟩ hv hlen;have hlt:L < W.heap.size:=(Array.getElem?_eq_some_iff.1 hl).1;refine ⟨fn,_,assign,body,run_yield (P:=P) (args:=encs x) hl (hps x),roundIn_of_wpIn hfn (hassign _ x W _ ⟨_,run_beginRound hl rfl,?_⟩)⟩;generalize hWb:W.putObj L (.loop { rec' .ready none with state:=.busy })=Wb;have hbz:Wb.heap[L]?=some (.loop { rec' .ready none with state:=.busy }):=by rw [← hWb];exact World.putObj_heap_same hlt
  have hbk:Wb.heap[w.heap.size]?=some (.deferred (some [])):=by rw [← hWb];exact (World.putObj_heap_other (by simp [L])).trans hk
  have hib:I pre Wb:=by rw [← hWb];exact hI.putObj _ hi (by simp [L]) hl rfl
  have hvb:V x Wb:=by rw [← hWb];exact hV.putObj _ hv (by simp [L]) hl rfl
  have hbb:Below w0.heap.size W Wb:=by rw [← hWb];exact belowK_b hb0.size _ _ _ _ (by simp [L]) hl rfl rfl
  refine wpIn_mono (hbody _ pre x _ hib hvb hlen) ?_;rintro e a3 W3 hp;cases e with
  | normal =>
   obtain ⟨hk3,hb3,hi3⟩:=hp;have hl3:=hk3.same _ _ (by simp [L]) hbz rfl;have hd3:=hk3.same _ _ (Nat.le_refl _) hbk rfl;have hend:=run_endRound (P:=P) none hl3;refine ⟨_,_,hend,rfl,⟨hI.putObj _ hi3 (by simp [L]) hl3 rfl,World.putObj_heap_same (Array.getElem?_eq_some_iff.1 hl3).1,(World.putObj_heap_other (by simp [L])).trans hd3⟩,?_⟩;exact (hbb.trans hb3).trans (belowK_b hb0.size _ _ _ _ (by simp [L]) hl3 rfl rfl)
  | _=>exact hp.elim
 ·rintro e W2 ⟨⟨v,rfl⟩,xs,hS,hi,hl,hk⟩;exact ⟨none,_,run_endLoop (P:=P) hl (by simp [rec']),hdone _ xs _ (Nat.le_refl _) hS (hI.putObj _ hi (by simp [L]) hl rfl) ((World.putObj_heap_other (by simp [L])).trans hk)⟩
open Go.ChangeShapes Go.Sort Go.Lib

theorem own_block_at {w:World} {B:Nat} {e:TypeId} {sz n:Nat} {v:Value} {vs:List Value} (h:w.ownsRow B e sz v n vs) {k:Nat} (hk:v.ownBlock=some k):∃ cur,w.heap[k]?=some (.cells cur e (0,0)):=by
 rcases h.2 with ⟨rfl,_⟩ | ⟨g,cap,cur,rfl,hg,hh,_⟩
 ·cases hk
 ·cases hk;exact ⟨_,hh⟩
theorem ownsRow_grown {w w':World} {B:Nat} {e:TypeId} {sz n:Nat} {v:Value} {vs:List Value} (h:w.ownsRow B e sz v n vs) {row:Option Nat} (hg:w.grownBy w' row) (hr:∀ r,row=some r→∃ o:Obj,w.heap[r]?=some o∧o.isCells=false):w'.ownsRow B e sz v n vs:=by
 refine ⟨h.1,h.2.imp id ?_⟩;rintro ⟨g,cap,cur,a,b,c,d⟩;have hlt:g < w.heap.size:=by
  rcases Nat.lt_or_ge g w.heap.size with h | h
  ·exact h
  ·rw [Array.getElem?_eq_none h] at c;cases c
 refine ⟨g,cap,cur,a,b,?_,d⟩;rw [hg.block g hlt fun e=>?_]
 ·exact c
 ·obtain ⟨o,ho,hc⟩:=hr g e.symm;rw [c] at ho;cases ho;cases hc
def RowTT (B:Nat) (w:World) (v:Value) (xs:List (List Term)):Prop :=
 ∃ vs:List Value,vs.length=xs.length∧w.ownsRow B 59 1 v xs.length vs∧∀ (i:Nat) (u:Value) (x:List Term),vs[i]?=some u→xs[i]?=some x→RowT B w u x
theorem RowTT.nil (B:Nat) (w:World):RowTT B w (.slice none 0 0) []:=⟨[],rfl,⟨by simp,.inl ⟨rfl,rfl⟩⟩,fun i u x h _=>by simp at h⟩
theorem RowTT.grown {B:Nat} {w w':World} {v:Value} {xs:List (List Term)} (h:RowTT B w v xs) {row:Option Nat} (hg:w.grownBy w' row) (hr:∀ r,row=some r→∃ o:Obj,w.heap[r]?=some o∧o.isCells=false):RowTT B w' v xs:=by
 obtain ⟨vs,h1,h2,h3⟩:=h;exact ⟨vs,h1,ownsRow_grown h2 hg hr,fun i u x hu hx=>(h3 i u x hu hx).grown hg hr⟩
theorem RowTT.setCell {B:Nat} {w:World} {v:Value} {xs:List (List Term)} (h:RowTT B w v xs) {a:Addr} (u:Value) (ha:a.block < B):RowTT B (w.setCell a u) v xs:=by
 obtain ⟨vs,h1,h2,h3⟩:=h;refine ⟨vs,h1,⟨h2.1,h2.2.imp id ?_⟩,fun i y x hy hx=>(h3 i y x hy hx).setCell u ha⟩;rintro ⟨g,cap,cur,a',b,c,d⟩;exact ⟨g,cap,cur,a',b,by rw [blk_set_other w a u g (by omega)];exact c,d⟩
theorem RowTT.shape {B:Nat} {w:World} {v:Value} {xs:List (List Term)} (h:RowTT B w v xs):∃ a c,v=.slice a xs.length c:=by
 obtain ⟨vs,-,h2,-⟩:=h;rcases h2.2 with ⟨rfl,h0⟩ | ⟨g,cap,cur,rfl,-⟩
 ·rw [h0];exact ⟨_,_,rfl⟩
 ·exact ⟨_,_,rfl⟩
theorem single_flat {α:Type}:∀ vs:List α,(vs.map fun u=>[u]).flatten=vs
 | []=>rfl
 | a :: r=>by rw [List.map_cons,List.flatten_cons,single_flat r];rfl
theorem RowTT.ownZ {B:Nat} {w:World} {v:Value} {xs:List (List Term)} (h:RowTT B w v xs):OwnZ B 59 w v xs:=by
 obtain ⟨vs,h1,h2,h3⟩:=h;have hf:=single_flat vs;refine ⟨⟨vs.map fun u=>[u],by simp [h1],by rw [hf];exact ownsRow_weaken h2 (Nat.zero_le _),fun i y x hy hx=>?_⟩,vs,h2⟩;rw [List.getElem?_map] at hy;cases hu:vs[i]? with
 | none=>rw [hu] at hy;cases hy
 | some u =>
  rw [hu] at hy;cases hy;refine ⟨rfl,fun w' hA=>?_⟩;obtain ⟨a',c',rfl,k1,k2,k3⟩:=list_inv (rowT_agree (h3 i u x hu hx) hA).is;exact ⟨_,_,rfl,k1,k2,k3⟩
theorem RowTT.snoc {B:Nat} {w w':World} {v v' u:Value} {vs:List Value} {xs:List (List Term)} {x:List Term} (h1:vs.length=xs.length) (h2:w.ownsRow B 59 1 v xs.length vs)
  (h3:∀ (i:Nat) (u:Value) (x:List Term),vs[i]?=some u→xs[i]?=some x→RowT B w u x) (hx:RowT B w u x) (hg:w.grownBy w' v.ownBlock)
  (ho:w'.ownsRow B 59 1 v' (xs.length+1) (vs++[u])):RowTT B w' v' (xs++[x]):=by
 have hk:∀ {u:Value} {x:List Term},RowT B w u x→RowT B w' u x:=fun hr=>hr.keep fun g _ hlt ⟨cs,hc⟩=>hg.block g hlt fun e=>by
  obtain ⟨cur,hh⟩:=own_block_at h2 e.symm;rw [hc] at hh;cases hh
 refine ⟨vs++[u],by simp [h1],by rw [List.length_append];exact ho,fun i y z hy hz=>?_⟩;rcases Nat.lt_or_ge i xs.length with hi | hi
 ·rw [List.getElem?_append_left (by omega)] at hy;rw [List.getElem?_append_left (by omega)] at hz;exact hk (h3 i y z hy hz)
 ·rw [List.getElem?_append_right (by omega)] at hy;rw [List.getElem?_append_right (by omega)] at hz;rw [h1] at hy;match i - xs.length,hy,hz with
  | 0,hy,hz=>simp at hy hz;subst hy;subst hz;exact hk hx
  | k+1,hy,hz=>simp at hy
open Go.Shelf
attribute [local go_sem] Oper.semAt_some

theorem two_terms {w:World} {v1 v2:Value} {xs ys:List Term} (e:TypeId) (h1:Is w v1 xs) (h2:Is w v2 ys) {b:Nat} (hb:b=w.heap.size):Is (w.alloc (.cells #[v1,v2] e)) (.slice (some ⟨b,0,none⟩) 2 2) [xs,ys]:=by
 subst hb;have hba:Below w.heap.size w (w.alloc (.cells #[v1,v2] e)):=zb;refine list_mk (xs:=[xs,ys]) (Nat.le_refl _) (by decide) fun i x hx=>⟨w.heap.size,0,rfl,by simp,?_⟩
 match i,hx with
 | 0,hx =>
  cases hx;obtain ⟨a,c,rfl,l,m,r⟩:=list_inv h1;exact ⟨a,c,by simp,l,m,r.mono hba⟩
 | 1,hx =>
  cases hx;obtain ⟨a,c,rfl,l,m,r⟩:=list_inv h2;exact ⟨a,c,by simp [Lay.n],l,m,r.mono hba⟩
 | i+2,hx=>simp at hx
theorem pairs_p (w:World) (a1 a2:Option Addr) (n1 c1 n2 c2:Nat) :
  Calls Tryz.prog 181 #[.slice a1 n1 c1,.slice a2 n2 c2] w fun e w'=>e=.returned (.func (.func 227) #[] #[.pointer (some ⟨w.heap.size,0,none⟩),.pointer (some ⟨w.heap.size+1,0,none⟩)])∧w'=(w.alloc (.cells #[.slice a1 n1 c1] 41)).alloc (.cells #[.slice a2 n2 c2] 41):=by
 go_enter Tryz.func181,Tryz.ntmps181;go_wp2;go_ret;exact ⟨by simp,rfl⟩
theorem pairsA_snoc {xs ys:List (List Term)} {k:Nat} {x:List Term} (hx:xs[k]?=some x):pairsA (xs.take (k+1)) ys=pairsA (xs.take k) ys++ys.map fun y=>x++y:=by
 unfold pairsA;rw [take_at hx,List.flatMap_append];simp
theorem map_snoc {ys:List (List Term)} {i:Nat} {x y:List Term} (hy:ys[i]?=some y):((ys.take (i+1)).map fun y=>x++y)=((ys.take i).map fun y=>x++y)++[x++y]:=by
 rw [take_at hy];simp
theorem pairsA_len (xs ys:List (List Term)):(pairsA xs ys).length=xs.length * ys.length:=by
 unfold pairsA;induction xs with
 | nil=>simp
 | cons a r ih=>rw [List.flatMap_cons,List.length_append,ih,List.length_map,List.length_cons,Nat.succ_mul];omega
theorem pair_room {k N i M:Nat} (hk:k < N) (hi:i < M):k * M+i < N * M:=by
 have:(k+1) * M≤N * M:=Nat.mul_le_mul_right _ hk;rw [Nat.succ_mul] at this;omega
abbrev RV (B:Nat):Value×List Term→World→Prop:=fun x W=>RowT B W x.1 x.2
theorem pairs1_all (n:Nat) (hn:1≤n) (ga gb:Nat) (w0:World) (v1 v2:Value) (xs ys:List (List Term)) (h1:Is w0 v1 xs) (h2:Is w0 v2 ys) (hm1:∀ x∈xs,x.length≤1000000) (hm2:∀ x∈ys,x.length≤1000000)
  (ca:w0.cell? ⟨ga,0,none⟩=some v1) (cb:w0.cell? ⟨gb,0,none⟩=some v2) :
  SeqAll n Tryz.prog 227 #[.pointer (some ⟨ga,0,none⟩),.pointer (some ⟨gb,0,none⟩)] (fun x:Value×List Term=>#[x.1]) (RV w0.heap.size) (fun zs=>zs.map (·.2)=pairsA xs ys) (xs.length * ys.length) w0:=by
 intro l J W hW hJ hY h0;have HI1:=zh h1;have HI2:=zh h2;obtain ⟨a1,c1,rfl,hnc,hcm,hr⟩:=list_inv h1;obtain ⟨a2,c2,rfl,hnc2,hcm2,hr2⟩:=list_inv h2;simp only [maxLen] at hcm hcm2;have HR:=zh hr;have HR2:=zh hr2;have HW:=zh hW;have HJ:=zh hJ;have HY:=zh hY;have CA:=zh ca;have CB:=zh cb;have H0:=zh h0;have HM1:=zh hm1;have HM2:=zh hm2;have HPL:=zh (fun k=>pairsA_len (xs.take k) ys);clear hr hr2 h1 h2 hW hJ hY ca cb h0 hm1 hm2;generalize hN:xs.length=N at *;have HN:=zh hN;generalize hM:ys.length=M at *;have HMy:=zh hM;clear hN hM;have ca:=HW.out.cell (p:=⟨ga,0,none⟩) (cell_lt CA.out) |>.trans CA.out
 have hga:=cell_lt ca;refine callsIn_of_wp Tryz.func227 rfl trivial ?_ rfl;simp only [Tryz.ntmps227,List.size_toArray,List.length_cons,List.length_nil,Nat.reduceAdd,Nat.reduceSub,Array.replicate_succ,Array.replicate_zero,List.push_toArray,List.append_toArray,List.nil_append,List.cons_append];gi_wp2
 clear ca hga;gi_loopw [10] (fun kv wr=>∃ (k:Nat) (pre:List (Value×List Term)),k≤N∧kv=.int .i64 k∧Hid (Below w0.heap.size w0 wr)∧Hid (pre.map (·.2)=pairsA (xs.take k) ys)∧Hid (J pre wr)∧Hid (W.heap.size≤wr.heap.size)) (fun kv _=>N - (intOf kv).toNat)
 case atStart=>exact ⟨0,[],by omega,rfl,HW.out,rfl,H0,Nat.le_refl _⟩
 case round =>
  obtain ⟨k,pre,hk,rfl,HB,HM,HJs,HZ⟩:=hrel;by_cases hki:k < N
  ·have hkz:(k:Int) < (N:Int):=by omega
   have hk0:(0:Int)≤(k:Int):=by omega
   obtain ⟨x,hx⟩:=get_lt (xs:=xs) (k:=k) (by rw [HN.out];exact hki);obtain ⟨bx,ox,rfl,hbx,ax,cx,x0',hx1,hx2,hx3⟩:=list_at HR.out hx;have x0:=kept HB.out x0';have cb:=kept HB.out CB.out;have hsx:=cell_lt x0;have hlb:=cell_lt cb;have HXI:Hid (Is w0 (.slice ax x.length cx) x):=list_mk hx1 hx2 hx3;have HXL:Hid (x.length≤1000000):=HM1.out x (List.mem_of_getElem? hx);have HPS:=zh (pairsA_snoc (ys:=ys) hx);clear hx x0' hx3 hx1 hx2;generalize hNX:x.length=NX at *;have HNX:=zh hNX;clear hNX;gi_wp2
   clear x0 cb hsx hlb;gi_loopw [16] (fun kv wr=>∃ (i:Nat) (pre:List (Value×List Term)),i≤M∧kv=.int .i64 i∧Hid (Below w0.heap.size w0 wr)∧Hid (pre.map (·.2)=pairsA (xs.take k) ys++(ys.take i).map fun y=>x++y)∧Hid (J pre wr)∧Hid (W.heap.size≤wr.heap.size)) (fun kv _=>M - (intOf kv).toNat)
   case atStart=>exact ⟨0,pre,by omega,rfl,HB,(by show _=_;rw [HM.out];simp),HJs,HZ⟩
   case round =>
    clear HB HM HJs HZ;obtain ⟨i,pre,hi,rfl,HB,HM,HJs,HZ⟩:=hrel;by_cases hii:i < M
    ·have hiz:(i:Int) < (M:Int):=by omega
     have hi0:(0:Int)≤(i:Int):=by omega
     obtain ⟨y,hy⟩:=get_lt (xs:=ys) (k:=i) (by rw [HMy.out];exact hii);obtain ⟨by',oy,rfl,hby,ay,cy,y0',hy1,hy2,hy3⟩:=list_at HR2.out hy;have y0:=kept HB.out y0';have hsy:=cell_lt y0;have HYI:Hid (Is w0 (.slice ay y.length cy) y):=list_mk hy1 hy2 hy3;have HYL:Hid (y.length≤1000000):=HM2.out y (List.mem_of_getElem? hy);have hpl:pre.length < N * M:=by
      have h1:=congrArg List.length HM.out;have h2:=HPL.out k;rw [List.length_map,List.length_append,List.length_map,List.length_take,h2,List.length_take,HN.out,HMy.out,Nat.min_eq_left (by omega),Nat.min_eq_left (by omega)] at h1;rw [h1];exact pair_room hki hii
     have HMS:=zh (map_snoc (x:=x) hy);have hba:Below wr.heap.size wr (wr.alloc (.cells #[.slice ax NX cx,.slice ay y.length cy] 59)):=bw
     have hcall:=ConcatT_p _ _ [x,y] (two_terms 59 (HXI.out.mono HB.out) (HYI.out.mono HB.out) rfl) (Nat.le_of_ble_eq_true rfl) (by
      intro z hz;simp at hz;rcases hz with rfl | rfl
      ·rw [HNX.out];exact HXL.out
      ·exact HYL.out)
     have hflat:[x,y].flatten=x++y:=by simp
     rw [hflat] at hcall;have hcall2:CallsIn Fence.wide (n - 1) Tryz.prog _ _ _ (fun e W1=>∃ v',e=.returned v'∧Below wr.heap.size wr W1∧(∃ a L c,v'=.slice a L c)∧YieldAt Fence.wide (n - 1) Tryz.prog l #[v'] W1 fun e W'=>e=.returned (.bool true)∧J (pre++[(v',x++y)]) W'∧Below w0.heap.size W1 W') :=
      (callsIn_wide.2 hcall).mono fun e W1 ⟨v',he,ho,hb⟩=>by
       have hw1:Below wr.heap.size wr W1:=hba.trans (hb.mono hba.size);obtain ⟨a',c',hs'⟩:=ho.shape;refine ⟨v',he,hw1,⟨a',_,c',hs'⟩,HY.out pre (v',x++y) W1 (HJ.out pre wr W1 none HJs.out (grown_below hw1) (fun r e=>by cases e)) ?_ hpl⟩;have h1:w0.heap.size≤wr.heap.size:=HB.out.size;exact ⟨⟨ho.1.1,ho.1.2.imp id fun ⟨g,cap,cur,e1,e2,e3⟩=>⟨g,cap,cur,e1,Nat.le_trans h1 (Nat.le_trans hba.size e2),e3⟩⟩,ho.2⟩
     have hdd:∀ k:Nat,(Fence.wide.depth.isSome=true→1≤k):=fun k h=>by cases h
     clear hy y0' hy1 hy2 hy3 hcall hflat hba hpl;generalize y.length=NY at *
     gi_wp2_with (first
      | (refine ⟨trivial,?_⟩;gi_at_call 228;refine hcall2.mono ?_;clear hcall2;rintro e w2 ⟨v2,rfl,hb2,⟨aq,LQ,cq,rfl⟩,fn,tmps,assign,body,hyy,hR⟩)
      | ((try refine ⟨hdd _,?_⟩);refine hR.mono ?_;clear hR;rintro e w3 ⟨rfl,hJ2,hb3⟩))
     have HB3:Hid (Below w0.heap.size w0 w3):=(HB.out.trans (hb2.mono HB.out.size)).trans hb3;have HZ3:Hid (W.heap.size≤w3.heap.size):=Nat.le_trans (Nat.le_trans HZ.out hb2.size) hb3.size;have HM3:Hid ((pre++[((.slice aq LQ cq:Value),x++y)]).map (·.2)=pairsA (xs.take k) ys++(ys.take (i+1)).map fun y=>x++y):=by
      show _=_;rw [List.map_append,HM.out,HMS.out,List.append_assoc];rfl
     have HJ3:=zh hJ2;clear hb2 hb3 hJ2;go_roundw
     case rel=>exact ⟨i+1,_,by omega,by go_num,HB3,HM3,HJ3,HZ3⟩
     case measure=>exact zm
    ·have hiz:¬ (i:Int) < (M:Int):=by omega
     have HMN:Hid (pre.map (·.2)=pairsA (xs.take (k+1)) ys):=by
      have ht:ys.take i=ys:=List.take_of_length_le (by rw [HMy.out];omega);show _=_;rw [HM.out,HPS.out,ht]
     gi_wp2
     go_roundw
     case rel=>exact ⟨k+1,pre,by omega,by go_num,HB,HMN,HJs,HZ⟩
     case measure=>exact zm
  ·have hkz:¬ (k:Int) < (N:Int):=by omega
   gi_wp2
   go_end0
   refine ⟨⟨_,rfl⟩,pre,?_,HJs.out⟩;have:=HM.out;rw [List.take_of_length_le (by rw [HN.out];omega)] at this;exact this
end Go.Proofs.YtcbopdbbcgdkcaaGreatDoor
namespace Go.Proofs.YtcbopdbbcgdkcaaGreatDoor
open Go Go.RowKit Go.ChangeShapes Go.Sort Go.Lib Go.Shelf
attribute [local go_sem] Oper.semAt_some

theorem RowT.setBox {B b:Nat} {t:TypeId} {sv u:Value} {W:World} {v:Value} {xs:List Term} (h:RowT B W v xs) (hb:Boxed W b t sv) (ht:t≠61):RowT B (W.setCell ⟨b,0,none⟩ u) v xs :=
 h.keep fun g _ _ ⟨cs,hc⟩=>blk_set_other W _ u g (fun e=>by
  have e':b=g:=e.symm;subst e';rw [show W.heap[b]?=_ from hb] at hc;cases hc;exact ht rfl)
theorem RowTT.setBox {B b:Nat} {t:TypeId} {sv u:Value} {W:World} {v:Value} {xs:List (List Term)} (h:RowTT B W v xs) (hb:Boxed W b t sv) (ht:t≠61) (ht2:t≠59):RowTT B (W.setCell ⟨b,0,none⟩ u) v xs:=by
 obtain ⟨vs,h1,h2,h3⟩:=h;refine ⟨vs,h1,⟨h2.1,h2.2.imp id ?_⟩,fun i y x hy hx=>(h3 i y x hy hx).setBox hb ht⟩;rintro ⟨g,cap,cur,a',b',c,d⟩;refine ⟨g,cap,cur,a',b',?_,d⟩;rw [blk_set_other W _ u g (fun e=>?_)]
 ·exact c
 ·have e':b=g:=e.symm;subst e';rw [show W.heap[b]?=_ from hb] at c;cases c;exact ht2 rfl
def Coll (w:World) (pre:List (Value×List Term)) (W:World):Prop:=∃ sv,Boxed W w.heap.size 41 sv∧RowTT w.heap.size W sv (pre.map (·.2))∧Below w.heap.size w W
theorem coll_own (w:World) {B:Nat} (hB:w.heap.size≤B):OwnFrom B (Coll w):=by
 rintro s X Y row ⟨sv,hb,hr,hw⟩ hg hrow;refine ⟨sv,hb.kept hg fun e=>?_,hr.grown hg fun r e=>(hrow r e).2,hw.grown hg hw.size fun k e=>Nat.le_trans hB (hrow k e).1⟩;obtain ⟨-,o,ho,hc⟩:=hrow _ e.symm;rw [show X.heap[w.heap.size]?=_ from hb] at ho;cases ho;cases hc
theorem rv_own (B0 B:Nat):OwnFrom B (RV B0):=fun s X Y row hs hg hrow=>hs.grown hg fun r e=>(hrow r e).2
theorem keepsFrom_app {B:Nat} {W W':World} {b:Nat} {e:TypeId} {sz n:Nat} {v:Value} {xs:List Value} (hg:W.grownBy W' v.ownBlock) (ho:W.ownsRow b e sz v n xs):KeepsFrom B W W' :=
 ⟨hg.size,fun k o _ hk hc=>(hg.block k (Array.getElem?_eq_some_iff.1 hk).1 (fun he=>by
  obtain ⟨cur,hh⟩:=own_block_at ho he.symm;rw [hk] at hh;cases hh;cases hc)).trans hk⟩
theorem AppendSeq_in (ga gb:Nat) (w:World) (v1 v2:Value) (xs ys:List (List Term)) (h1:Is w v1 xs) (h2:Is w v2 ys) (hm1:∀ x∈xs,x.length≤1000000) (hm2:∀ x∈ys,x.length≤1000000) (hl:xs.length * ys.length≤1000000)
  (ca:w.cell? ⟨ga,0,none⟩=some v1) (cb:w.cell? ⟨gb,0,none⟩=some v2) :
  CallsIn Fence.wide 3 Tryz.prog 226 #[.slice none 0 0,.func (.func 227) #[] #[.pointer (some ⟨ga,0,none⟩),.pointer (some ⟨gb,0,none⟩)]] w
   fun e w'=>∃ v,e=.returned v∧RowTT w.heap.size w' v (pairsA xs ys)∧Below w.heap.size w w':=by
 have hseq:=pairs1_all 2 (by decide) ga gb w v1 v2 xs ys h1 h2 hm1 hm2 ca cb;obtain ⟨i0,hi,hz0,hz1,hz2⟩:=info_parts altRow;clear h1 h2 hm1 hm2 ca cb;refine callsIn_of_wp_marks Tryz.func226 rfl trivial ?_ rfl;simp only [Tryz.ntmps226,List.size_toArray,List.length_cons,List.length_nil,Nat.reduceAdd,Nat.reduceSub,Array.replicate_succ,Array.replicate_zero,List.push_toArray,List.append_toArray,List.nil_append,List.cons_append];gi_wp2
 have hb0:Below w.heap.size w (w.alloc (.cells #[.slice none 0 0] 41)):=bw;have hbx:=Boxed.new w 41 (.slice none 0 0);generalize w.alloc (.cells #[.slice none 0 0] 41)=W0 at *
 refine wpIn_range_all (by decide) (gf:=227) (lb:=#[.pointer (some ⟨ga,0,none⟩),.pointer (some ⟨gb,0,none⟩)]) rfl (enters_of Tryz.func227 (by kernel_rfl) rfl)
  hseq hb0 (fun _=>rfl) (Coll w) (coll_own w hb0.size) (rv_own _ _) ⟨_,hbx,RowTT.nil _ _,hb0⟩
  (fun x=>{ tmps:=#[.slice none 0 0,.func (.func 227) #[] #[.pointer (some ⟨ga,0,none⟩),.pointer (some ⟨gb,0,none⟩)],.pointer (some ⟨w.heap.size,0,none⟩),undef,.slice none 0 0,x.1,.func (.func 227) #[] #[.pointer (some ⟨ga,0,none⟩),.pointer (some ⟨gb,0,none⟩)],x.1,undef,undef,undef,undef,undef],defers:=[] }) ?assign ?body ?done
 case assign =>
  intro l x W K hK;gi_wp2
  exact hK
 case body =>
  rintro l pre ⟨u,x⟩ W ⟨sv,hB,hR,hW⟩ hV hlt;obtain ⟨a',c',rfl⟩:∃ a' c',u=.slice a' x.length c':=RowT.shape hV;obtain ⟨asv,csv,rfl⟩:=hR.shape;have hba:Below W.heap.size W (W.alloc (.cells #[.slice a' x.length c'] 59)):=bw;have hV2:RowT w.heap.size (W.alloc (.cells #[.slice a' x.length c'] 59)) (.slice a' x.length c') x:=RowT.below hV hba;obtain ⟨vs,k1,k2,k3⟩:=hR;have hB2:=hB.alloc (.cells #[.slice a' x.length c'] 59);have k2':=k2.alloc (.cells #[.slice a' x.length c'] 59);have k3':∀ (i:Nat) (u:Value) (x':List Term),vs[i]?=some u→(pre.map (·.2))[i]?=some x'→RowT w.heap.size (W.alloc (.cells #[.slice a' x.length c'] 59)) u x':=fun i u x' hu hx=>(k3 i u x' hu hx).below hba;have hnr:=hB2.not_row (by decide) k2';have hbl:(pre.map (·.2)).length≤1000000:=by rw [List.length_map];omega
  have hBc:=hB.cell;have hBf:=hB.frozen;have hw0:w.heap.size < W.heap.size:=hB.lt;generalize hPL:(pre.map (·.2)).length=PL at *;have HPL:=zh hPL;have HX:Hid (x.length=x.length):=rfl;clear hPL hV hB;have hc1:∀ j q,[Value.slice a' x.length c'][j]?=some q→(W.alloc (.cells #[.slice a' x.length c'] 59)).cell? ((⟨W.heap.size,0,none⟩:Addr).add j)=some q:=by
   intro j q hj;match j,hj with
   | 0,hj=>simp at hj;subst hj;rw [addr_add];simp
   | j+1,hj=>simp at hj
  have hc2:∀ q∈[Value.slice a' x.length c'],q.oneCell'=true:=by intro q hq;simp at hq;subst hq;rfl
  have hc3:PL+1≤maxLen:=by unfold maxLen;omega
  have hc4:(PL+1) * 24≤140737488355328:=by omega
  have hc5:w.heap.size≤(W.alloc (.cells #[.slice a' x.length c'] 59)).heap.size:=by simp;omega
  gi_wp2_with (gi_at_builtin;refine wpListIn_append_own _ rfl _ _ 41 rfl w.heap.size 59 i0 _ 1 24 Tryz.underlying41 hi hz0 hz1 hz2 rfl (by decide) (.slice asv PL csv) PL vs rfl k2' ⟨W.heap.size,0,none⟩ 1 1 [.slice a' x.length c'] rfl rfl hc1 hc2 hc3 hc4 hc5 ?_)
  intro v' w2 g2 g3 _;have hRT:RowTT w.heap.size w2 v' (pre.map (·.2)++[x]):=RowTT.snoc (by rw [HPL.out];exact k1) (by rw [HPL.out];exact k2') k3' hV2 g3 (by rw [HPL.out];exact g2);have hB3:=hB2.kept g3 hnr;have c3:=hB3.cell;have f3:=hB3.frozen;have hw2:w.heap.size < w2.heap.size:=hB3.lt;have hbw:Below w.heap.size W w2:=((Below.refl _ W).alloc (by omega) _).app g3 (by simp;omega) k2';have hkf:KeepsFrom W0.heap.size W w2:=(KeepsFrom.of_grownBy (World.grownBy_alloc W (.cells #[.slice a' x.length c'] 59) none) (fun j e=>by cases e)).trans (keepsFrom_app g3 k2');obtain ⟨av,cv,rfl⟩:=hRT.shape;generalize (pre.map (·.2)++[x]).length=VL at *;clear g2 g3 k3' hV2 hBc hBf k2 k3 hc1 hc2 hc3 hc4 hc5;gi_wp2
  refine ⟨hkf.trans ((KeepsOthers.setCell _ _ _).from _),hbw.setCell (p:=⟨w.heap.size,0,none⟩) (Nat.le_refl _) _,_,hB3.set _,?_,?_⟩
  ·rw [List.map_append];exact hRT.setBox hB3 (by decide) (by decide)
  ·exact (hW.trans hbw).setCell (p:=⟨w.heap.size,0,none⟩) (Nat.le_refl _) _
 case done =>
  rintro D zs W hD hzs ⟨sv,hB,hR,hW⟩ hK;rw [hzs] at hR;obtain ⟨asv,csv,rfl⟩:=hR.shape;have hBc:=hB.cell;have hBl:=hB.lt;have hwD:w.heap.size < D:=by have:=hb0.size;have:=hbx.lt;omega
  generalize (pairsA xs ys).length=VL at *;clear hseq;gi_wp2
  refine ⟨by simp,.inl ⟨_,_,rfl,run_takeDeferred hK,?_⟩⟩;refine ⟨.slice asv VL csv,?_,.slice asv VL csv,rfl,hR.grown (grownBy_putObj' _ D (.deferred none)) (fun r e=>by cases e;exact ⟨_,hK,rfl⟩),hW.trans (belowK_b (w:=w) (Nat.le_refl _) _ D _ _ (by omega) hK rfl rfl)⟩;simp [results,Tryz.f226,go_sem]
theorem AppendSeq_p (ga gb:Nat) (w:World) (v1 v2:Value) (xs ys:List (List Term)) (h1:Is w v1 xs) (h2:Is w v2 ys) (hm1:∀ x∈xs,x.length≤1000000) (hm2:∀ x∈ys,x.length≤1000000) (hl:xs.length * ys.length≤1000000)
  (ca:w.cell? ⟨ga,0,none⟩=some v1) (cb:w.cell? ⟨gb,0,none⟩=some v2) :
  Calls Tryz.prog 226 #[.slice none 0 0,.func (.func 227) #[] #[.pointer (some ⟨ga,0,none⟩),.pointer (some ⟨gb,0,none⟩)]] w
   fun e w'=>∃ v,e=.returned v∧RowTT w.heap.size w' v (pairsA xs ys)∧Below w.heap.size w w':=callsIn_wide.1 (AppendSeq_in ga gb w v1 v2 xs ys h1 h2 hm1 hm2 hl ca cb)
theorem RowTT.weaken {B B0:Nat} {w:World} {v:Value} {xs:List (List Term)} (h:RowTT B w v xs) (hB:B0≤B):RowTT B0 w v xs:=by
 obtain ⟨vs,h1,h2,h3⟩:=h;exact ⟨vs,h1,ownsRow_weaken h2 hB,fun i u x hu hx=>let r:=h3 i u x hu hx;⟨ownsRow_weaken r.1 hB,r.2⟩⟩
theorem pairsC:PairsC:=by
 intro w v1 v2 xs ys h1 h2 hx hy hm1 hm2;obtain ⟨a1,c1,rfl,-⟩:=list_inv h1;obtain ⟨a2,c2,rfl,-⟩:=list_inv h2;refine (pairs_p w a1 a2 xs.length c1 ys.length c2).mono ?_;rintro e w1 ⟨rfl,rfl⟩;have hb:Below w.heap.size w ((w.alloc (.cells #[.slice a1 xs.length c1] 41)).alloc (.cells #[.slice a2 ys.length c2] 41)):=bw;have hcall:=AppendSeq_p w.heap.size (w.heap.size+1) _ _ _ xs ys (h1.mono hb) (h2.mono hb) hm1 hm2 (Nat.le_trans (Nat.mul_le_mul hx hy) (by decide)) (by simp) (by simp);refine ⟨_,rfl,hb,?_⟩;clear h1 h2;generalize xs.length=N at *;generalize ys.length=M at *;go_enter Tryz.func180,Tryz.ntmps180;go_wp2_with fail
 refine hcall.mono ?_;rintro e w2 ⟨v,rfl,ho,hb2⟩;obtain ⟨av,cv,rfl⟩:=ho.shape;have HO:=zh (ho.weaken (B0:=w.heap.size) (by simp;omega));have HB:=zh (hb.trans (hb2.mono hb.size));clear hcall ho hb2 hb;generalize (pairsA xs ys).length=VL at *;go_wp2;go_ret;exact ⟨_,rfl,HO.out.ownZ,HB.out⟩
end Go.Proofs.YtcbopdbbcgdkcaaGreatDoor
