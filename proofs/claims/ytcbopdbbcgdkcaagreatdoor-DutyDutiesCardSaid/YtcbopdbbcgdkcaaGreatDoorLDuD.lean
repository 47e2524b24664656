/- Lemmas. -/
import Derived.Test.YtcbopdbbcgdkcaaGreatDoorLDuC
set_option linter.all false
set_option maxRecDepth 100000
set_option maxHeartbeats 16000000
namespace Go.Proofs.YtcbopdbbcgdkcaaGreatDoor
open Go Go.RowKit Go.ChangeShapes Go.Lib
theorem tkBDuD {P:Program} {ops:Array Oper} {Q:Exit→Act→World→Prop} {md:Region.Mode} {S:World→Prop} {oi:Oper} {v:Value} {fuel:Nat} {listed:Array Bool} {a:Act} {w:World} (i:Nat) (hS:S w) (hi:ops[i]?=some oi)
  (h:wpAnyH P md ops Q S fuel (listed.setIfInBounds i true) (a.put oi.dst v) w) (hy:∀ w,S w→(execOp a.eval oi).run P w=.ok (.value v) w:=by intro w hSw;(try dsimp only at hSw);go_simp;all_goals with_reducible rfl) (hs:Region.noSelect ops=true:=by kernel_rfl) (hf:Region.free md ops listed i=true:=by kernel_rfl) (hr:(Region.ready md ops listed).contains i=true:=by kernel_rfl) (hw:Region.wanted oi (yielded ops a.tmps)=true:=by kernel_rfl)
  (hQ:∀ c a w,Q (.panic c) (a.put oi.dst v) w→Q (.panic c) a w:=by exact fun _ _ _ h=>h):wpAnyH P md ops Q S (fuel+1) listed a w:=wpAnyH_take hi hs hf hr hQ (.inl ⟨hw,hy⟩) hS h
theorem rd1DuD {P:Program} {ops:Array Oper} {Q:Exit→Act→World→Prop} {md:Region.Mode} {S:World→Prop} {o:Oper} {fuel:Nat} {listed:Array Bool} {a:Act} {w:World} (i:Nat) (ho:ops[i]?=some o)
  (h:∀ K':Act→World→Prop,Shut (∀ a w,S w→(S w→wpAnyH P md ops Q S fuel (listed.setIfInBounds i true) a w)→K' a w)→if Region.wanted o (yielded ops a.tmps)=true then Oper.wp P o a w K' Q else K' (a.put o.dst undef) w)
  (h1:Region.ready md ops listed=[i]:=by kernel_rfl):wpAnyH P md ops Q S (fuel+1) listed a w:=wpAnyH_ready h1 (by simp) (AllReadyH.cons ho h AllReadyH.nil)
theorem rd2DuD {P:Program} {ops:Array Oper} {Q:Exit→Act→World→Prop} {md:Region.Mode} {S:World→Prop} {o o':Oper} {fuel:Nat} {listed:Array Bool} {a:Act} {w:World} (i j:Nat) (ho:ops[i]?=some o) (ho':ops[j]?=some o')
  (h:∀ K':Act→World→Prop,Shut (∀ a w,S w→(S w→wpAnyH P md ops Q S fuel (listed.setIfInBounds i true) a w)→K' a w)→if Region.wanted o (yielded ops a.tmps)=true then Oper.wp P o a w K' Q else K' (a.put o.dst undef) w)
  (h':∀ K':Act→World→Prop,Shut (∀ a w,S w→(S w→wpAnyH P md ops Q S fuel (listed.setIfInBounds j true) a w)→K' a w)→if Region.wanted o' (yielded ops a.tmps)=true then Oper.wp P o' a w K' Q else K' (a.put o'.dst undef) w)
  (h1:Region.ready md ops listed=[i,j]:=by kernel_rfl):wpAnyH P md ops Q S (fuel+1) listed a w:=wpAnyH_ready h1 (by simp) (AllReadyH.cons ho h (AllReadyH.cons ho' h' AllReadyH.nil))

def radI (c:Catalog) (ts:List (List (List Term))) (os:List ByteArray):List Int:=(radC c ts os).map fun n:Nat=>(n:Int)
theorem intRow2:(Tryz.prog.info? 3).map (fun i=>(i.zero,i.size,i.bytes))=some (some (.int .i64 0),1,8):=by kernel_rfl
theorem app_intB {ops:Array Oper} {rest:List Oper} {o:Oper} {a:Act} {Q:Exit→Act→World→Prop} {w:World} (hgd:o.guard=none) (s x:Operand)
  (ho:o.op=.call { callee:=.builtin .append,args:=#[s,x],argTypes:=#[100,100] })
  (B:Nat) (v:Value) (xs:List Int) (hs:a.eval s=v) (hown:OwnV (Value.int .i64) B 3 w v xs)
  (y:Int) (hx:a.eval x=.slice (some ⟨w.heap.size,0,none⟩) 1 1)
  (hb:xs.length≤4294967296) (hB:B≤w.heap.size)
  (h:∀ v' w',OwnV (Value.int .i64) B 3 w' v' (xs++[y])→Below B w w'→w.heap.size < w'.heap.size→wpList Tryz.prog ops Q rest (a.put o.dst v') w') :
  wpList Tryz.prog ops Q (o :: rest) a (w.alloc (.cells #[.int .i64 y] 3)):=by
 refine wp_app intRow2 rfl (by decide) Tryz.underlying100 hgd s x ho B v xs.length _ hs hown #[.int .i64 y] hx rfl (by simp [Value.oneCell']) (by omega) hB fun v' w' h1 h2 _=>h v' w' ?_ ?_ ?_
 ·show World.ownsRow _ _ _ _ _ _ _;simpa using h1
 ·exact ((Below.refl _ _).alloc (by omega) _).app h2 (by simp;omega) hown
 ·have:=h2.size;simp at this;omega
theorem zrdud1 {p:Prop} (h:p:=by
 show OwnV _ _ _ _ _ _;have h9:=ho5;first | rw [← List.map_take] at h9 | skip
 rw [HTK.out,List.map_append];exact h9):p:=h
theorem radices_p (w:World) (v1 v2:Value) (c:Catalog) (ts:List (List (List Term))) (os:List ByteArray) (a0:Option Addr) (c0:Nat) (a1:Option Addr) (N1 c1:Nat) (a2:Option Addr) (N2 c2:Nat) (a3:Option Addr) (N3 c3:Nat)
  (h1:Is w v1 ts) (h2:Is w v2 os) (hN0:c.licenses.length≤9223372036854775807) (ht:ts.length≤1000000) (ho:os.length≤1000000) :
  Calls Tryz.prog 126 #[.agg #[v1,v2,.slice a0 c.licenses.length c0,.slice a1 N1 c1,.slice a2 N2 c2,.slice a3 N3 c3]] w fun e w' =>
   ∃ v,e=.returned v∧OwnV (Value.int .i64) w.heap.size 3 w' v (radI c ts os)∧Below w.heap.size w w':=by
 obtain ⟨a,n,rfl,hn,hm,hr⟩:=list_inv h1;obtain ⟨b,m,rfl,hn2,hm2,-⟩:=list_inv h2;have HR:=zh hr;have HF:Hid (radI c ts os=ts.map (fun l=>(l.length:Int))++os.map fun _=>(c.licenses.length:Int)):=by
  show _=_;unfold radI radC;rw [List.map_append,List.map_map,List.map_map];rfl
 generalize hL:ts.length=L at *;generalize hM:os.length=M at *;generalize c.licenses.length=N0 at *;have HL:=zh hL;have HM:=zh hM;have hm':L≤9223372036854775807:=by omega
 have hm2':M≤9223372036854775807:=by omega
 clear h1 h2 hr hn hm hn2 hm2 hL hM;go_enter Tryz.func126,Tryz.ntmps126;go_wp2_with fail
 have HB1:Hid (Below w.heap.size w (w.alloc (.cells #[.slice a L n,.slice b M m,.slice a0 N0 c0,.slice a1 N1 c1,.slice a2 N2 c2,.slice a3 N3 c3] 96))):=zh zb;have D1:Hid ((w.alloc (.cells #[.slice a L n,.slice b M m,.slice a0 N0 c0,.slice a1 N1 c1,.slice a2 N2 c2,.slice a3 N3 c3] 96)).cell? ⟨w.heap.size,1,none⟩=some (.slice b M m)):=by show _=_;simp
 have D2:Hid ((w.alloc (.cells #[.slice a L n,.slice b M m,.slice a0 N0 c0,.slice a1 N1 c1,.slice a2 N2 c2,.slice a3 N3 c3] 96)).cell? ⟨w.heap.size,2,none⟩=some (.slice a0 N0 c0)):=by show _=_;simp
 have hs1:w.heap.size < (w.alloc (.cells #[.slice a L n,.slice b M m,.slice a0 N0 c0,.slice a1 N1 c1,.slice a2 N2 c2,.slice a3 N3 c3] 96)).heap.size:=by simp
 generalize (w.alloc (.cells #[.slice a L n,.slice b M m,.slice a0 N0 c0,.slice a1 N1 c1,.slice a2 N2 c2,.slice a3 N3 c3] 96))=w1 at *;go_loopw [3,9] (fun v kv wr=>∃ k:Nat,k≤L∧kv=.int .i64 k∧Hid (OwnV (Value.int .i64) w1.heap.size 3 wr v ((ts.take k).map fun l=>(l.length:Int)))∧Hid (Below w1.heap.size w1 wr)) (fun _ kv _=>L - (intOf kv).toNat)
 case atStart=>exact ⟨0,by omega,rfl,zh (OwnV.nil _ _ _ _),zh (Below.refl _ _)⟩
 case round =>
  obtain ⟨k,hk,rfl,HO,hbr⟩:=hrel;have hzr:w1.heap.size≤wr.heap.size:=hbr.out.size;by_cases hki:k < L
  ·have hkz:(k:Int) < (L:Int):=by omega
   have hk0:(0:Int)≤(k:Int):=by omega
   obtain ⟨l,hx⟩:=get_lt (xs:=ts) (k:=k) (by rw [HL.out];exact hki);obtain ⟨bx,ox,rfl,hbx,ax,cx,x0',hx1,hx2,hx3⟩:=list_at HR.out hx;have x0:=kept (HB1.out.trans (hbr.out.mono HB1.out.size)) x0';have HTK:=zh (take_at hx);clear hx x0' hbx hx3;have hlen:(ts.take k).length≤k:=by rw [List.length_take];omega
   have hln:l.length≤9223372036854775807:=by simp only [maxLen] at hx2;omega
   clear hx1 hx2;go_wp2_with (at_builtin;go_loud (refine app_intB rfl _ _ rfl w1.heap.size _ _ rfl HO.out (l.length:Int) ?cx ?c2 ?c3 ?_))
   case cx=>show Value.slice (some ⟨wr.heap.size,0,none⟩) 1 1=_;simp
   case c2=>rw [List.length_map];omega
   case c3=>omega
   intro v5 w5 ho5 hb5 hs5;have HB5:Hid (Below w1.heap.size w1 w5):=zh (hbr.out.trans hb5);have HO5:Hid (OwnV (Value.int .i64) w1.heap.size 3 w5 v5 ((ts.take (k+1)).map fun l=>(l.length:Int))):=by
    exact zrdud1
   clear ho5 hb5 HO HTK;go_wp2;go_roundw
   case rel=>exact ⟨k+1,by omega,by go_num,HO5,HB5⟩
   case measure=>exact zm
  ·have hkz:¬ (k:Int) < (L:Int):=by omega
   have HO1:Hid (OwnV (Value.int .i64) w1.heap.size 3 wr u3 (ts.map fun l=>(l.length:Int))):=by
    have:=HO.out;rw [List.take_of_length_le (by rw [HL.out];omega)] at this;exact this
   have d1:=kept hbr.out D1.out;have D2r:=zh (kept hbr.out D2.out);have hs2:w.heap.size < wr.heap.size:=by omega
   clear HO;go_wp2_with fail
   clear d1;obtain ⟨wq,hwq⟩:∃ W,W=wr:=⟨_,rfl⟩
   subst hwq;go_loopw [3,22] (fun v kv ws=>∃ k:Nat,k≤M∧kv=.int .i64 k∧Hid (OwnV (Value.int .i64) w1.heap.size 3 ws v ((ts.map fun l=>(l.length:Int))++(os.take k).map fun _=>(N0:Int)))∧Hid (Below w1.heap.size wq ws)) (fun _ kv _=>M - (intOf kv).toNat)
   case atStart=>exact ⟨0,by omega,rfl,zh (by show OwnV _ _ _ _ _ _;simpa using HO1.out),zh (Below.refl _ _)⟩
   case round =>
    obtain ⟨j,hj,rfl,HO,hbs⟩:=hrel;have hzs:wq.heap.size≤wr.heap.size:=hbs.out.size;by_cases hji:j < M
    ·have hjz:(j:Int) < (M:Int):=by omega
     have hj0:(0:Int)≤(j:Int):=by omega
     obtain ⟨s,hx⟩:=get_lt (xs:=os) (k:=j) (by rw [HM.out];exact hji);have d2:wr.cell? ⟨w.heap.size,2,none⟩=some (.slice a0 N0 c0):=by rw [hbs.out.cell (show w.heap.size < w1.heap.size from hs1)];exact D2r.out
     have HTK:=zh (take_at hx);have hs3:w.heap.size < wr.heap.size:=by omega
     clear hx;have hlen:((ts.map fun l=>(l.length:Int))++(os.take j).map fun _=>(N0:Int)).length≤4294967296:=by
      rw [List.length_append,List.length_map,List.length_map,List.length_take,HL.out];omega
     go_wp2_with (at_builtin;go_loud (refine app_intB rfl _ _ rfl w1.heap.size _ _ rfl HO.out (N0:Int) ?cx ?c2 ?c3 ?_))
     case cx=>show Value.slice (some ⟨wr.heap.size,0,none⟩) 1 1=_;simp
     case c2=>exact hlen
     case c3=>omega
     intro v5 w5 ho5 hb5 hs5;have HB5:Hid (Below w1.heap.size wq w5):=zh (hbs.out.trans hb5);have HO5:Hid (OwnV (Value.int .i64) w1.heap.size 3 w5 v5 ((ts.map fun l=>(l.length:Int))++(os.take (j+1)).map fun _=>(N0:Int))):=by
      exact zrdud1
     clear ho5 hb5 HO HTK hlen;go_wp2;go_roundw
     case rel=>exact ⟨j+1,by omega,by go_num,HO5,HB5⟩
     case measure=>exact zm
    ·have hjz:¬ (j:Int) < (M:Int):=by omega
     have HO2:Hid (OwnV (Value.int .i64) w1.heap.size 3 wr u3 (radI c ts os)):=by
      have:=HO.out;rw [List.take_of_length_le (by rw [HM.out];omega)] at this;rw [HF.out];exact this
     clear HO;go_wp2_with fail
     go_ret;exact ⟨_,rfl,HO2.out.weaken (by omega),HB1.out.trans ((hbr.out.trans hbs.out).mono (by omega))⟩
theorem radI_get {c:Catalog} {ts:List (List (List Term))} {os:List ByteArray} {k:Nat} {r:Nat} (h:(radC c ts os)[k]?=some r):(radI c ts os)[k]?=some (r:Int):=by
 unfold radI;rw [List.getElem?_map,h];rfl
theorem radI_len (c:Catalog) (ts:List (List (List Term))) (os:List ByteArray):(radI c ts os).length=ts.length+os.length:=by
 unfold radI radC;simp
theorem radC_len (c:Catalog) (ts:List (List (List Term))) (os:List ByteArray):(radC c ts os).length=ts.length+os.length:=by
 unfold radC;simp
theorem radI_zero (c:Catalog) (ts:List (List (List Term))) (os:List ByteArray):(radI c ts os).contains 0=(radC c ts os).contains 0:=by
 unfold radI;induction radC c ts os with
 | nil=>rfl
 | cons a r ih=>rw [List.map_cons,List.contains_cons,List.contains_cons,ih];congr 1;rw [Bool.eq_iff_iff];simp;omega
theorem prodR_cons (n r:Nat) (rs:List Nat):prodR n (r :: rs)=if 4096 < n * r then n * r else prodR (n * r) rs:=by rw [prodR]
theorem radI_in {c:Catalog} {ts:List (List (List Term))} {os:List ByteArray} (h:∀ r∈radC c ts os,r≤1000000):∀ x∈radI c ts os,inI64 x:=by
 intro x hx;unfold radI at hx;obtain ⟨r,hr,rfl⟩:=List.mem_map.1 hx;have:=h r hr;unfold inI64;omega
theorem total_p (w:World) (v1 v2:Value) (c:Catalog) (ts:List (List (List Term))) (os:List ByteArray) (a0:Option Addr) (c0:Nat) (a1:Option Addr) (N1 c1:Nat) (a2:Option Addr) (N2 c2:Nat) (a3:Option Addr) (N3 c3:Nat)
  (h1:Is w v1 ts) (h2:Is w v2 os) (hN0:c.licenses.length≤9223372036854775807) (ht:ts.length≤1000000) (ho:os.length≤1000000) (hfit:∀ r∈radC c ts os,r≤1000000) :
  Calls Tryz.prog 60 #[.agg #[v1,v2,.slice a0 c.licenses.length c0,.slice a1 N1 c1,.slice a2 N2 c2,.slice a3 N3 c3]] w fun e w' =>
   e=.returned (.int .i64 (totalR (radC c ts os)))∧Below w.heap.size w w':=by
 have HF:Hid (totalR (radC c ts os)=if (radC c ts os).contains 0 then 0 else prodR 1 (radC c ts os)):=rfl;have HI:=zh (radI_in hfit);have HGE:=zh (fun k r=>radI_get (c:=c) (ts:=ts) (os:=os) (k:=k) (r:=r));have HRL:=zh (radI_len c ts os);have HCL:=zh (radC_len c ts os);have HZ:=zh (radI_zero c ts os);have HFIT:=zh hfit;obtain ⟨a,n,rfl,-⟩:=list_inv h1;obtain ⟨b,m,rfl,-⟩:=list_inv h2;have hal:Below w.heap.size w (w.alloc (.cells #[.slice a ts.length n,.slice b os.length m,.slice a0 c.licenses.length c0,.slice a1 N1 c1,.slice a2 N2 c2,.slice a3 N3 c3] 96)):=zb;have hcall:=radices_p _ _ _ c ts os a0 c0 a1 N1 c1 a2 N2 c2 a3 N3 c3 (h1.mono hal) (h2.mono hal) hN0 ht ho;have HAL:=zh hal;have hlen:ts.length+os.length≤2000000:=by omega
 clear h1 h2 hfit hal ht ho;generalize radI c ts os=RI at *;generalize radC c ts os=RC at *;generalize hL:ts.length+os.length=L at *;generalize ts.length=L1 at *;generalize os.length=L2 at *;generalize c.licenses.length=N0 at *;go_enter Tryz.func60,Tryz.ntmps60;go_wp2_with fail
 refine hcall.mono ?_;rintro e w1 ⟨v,rfl,ho1,hb1⟩;clear hcall;have HB1:=zh (HAL.out.trans (hb1.mono (by simp)));have HIS:=zh (ho1.ints HI.out);obtain ⟨av,cv,rfl,-,hcv,hrv⟩:=list_inv HIS.out;have HR:=zh hrv;have hcall:=ContainsInt_p w1 _ RI 0 HIS.out;rw [HZ.out,HRL.out] at hcall;rw [HRL.out] at ho1;have hcv':L≤9223372036854775807:=by omega
 clear ho1 hb1 HIS HI hrv hcv HAL HZ;generalize RC.contains 0=z at *;go_wp2_with fail
 rw [HRL.out];go_wp2_with fail
 refine hcall.mono ?_;rintro e w2 ⟨rfl,rfl⟩;clear hcall;cases z;case true =>
  have HT:Hid (totalR RC=0):=HF.out;clear HF;go_wp2_with fail
  go_ret;exact ⟨by rw [HT.out];rfl,HB1.out⟩
 have HT:Hid (totalR RC=prodR 1 RC):=HF.out;clear HF;go_wp2_with fail
 go_loopw [4,13] (fun nv kv wr=>∃ k n:Nat,k≤L∧n≤4096∧nv=.int .i64 n∧kv=.int .i64 k∧Hid (totalR RC=prodR n (RC.drop k))∧wr=w2) (fun _ kv _=>L - (intOf kv).toNat)
 case atStart=>exact ⟨0,1,by omega,by omega,rfl,rfl,zh HT.out,rfl⟩
 case round =>
  obtain ⟨k,n,hk,hn,rfl,rfl,HK,rfl⟩:=hrel;by_cases hki:k < L
  ·have hkz:(k:Int) < (L:Int):=by omega
   have hk0:(0:Int)≤(k:Int):=by omega
   obtain ⟨r,hx⟩:=get_lt (xs:=RC) (k:=k) (by rw [HCL.out];exact hki);have hy:=HGE.out _ _ hx;obtain ⟨bx,ox,rfl,hbx,x0,-⟩:=int_at HR.out hy;have hr:r≤1000000:=HFIT.out r (List.mem_of_getElem? hx);have HD:=zh (drop_at hx);have hmul:n * r≤4096 * 1000000:=Nat.mul_le_mul hn hr;have HM:Hid (((n:Int) * (r:Int))=((n * r:Nat):Int)):=by show _=_;simp
   have hw:wrap64 ((n:Int) * (r:Int))=((n * r:Nat):Int):=by rw [HM.out];unfold wrap64;omega
   clear hx hy hbx;by_cases q:4096 < n * r
   ·have HT2:Hid (totalR RC=n * r):=by show _=_;rw [HK.out,HD.out,prodR_cons,if_pos q]
    have q2:(4096:Int) < ((n * r:Nat):Int):=by omega
    clear HK HD HT;generalize n * r=nr at *;go_wp2_with fail
    go_ret;exact ⟨by rw [HT2.out,← hw];rfl,HB1.out⟩
   ·have HT2:Hid (totalR RC=prodR (n * r) (RC.drop (k+1))):=by show _=_;rw [HK.out,HD.out,prodR_cons,if_neg q]
    have q2:¬ (4096:Int) < ((n * r:Nat):Int):=by omega
    have q3:n * r≤4096:=by omega
    clear HK HD HT hmul HM q;generalize n * r=nr at *;go_wp2_with fail
    go_roundw
    case rel=>exact ⟨k+1,nr,by omega,q3,by rw [hw],by go_num,HT2,by trivial⟩
    case measure=>exact zm
  ·have hkz:¬ (k:Int) < (L:Int):=by omega
   have HT2:Hid (totalR RC=n):=by
    show _=_;rw [HK.out,List.drop_eq_nil_of_le (by rw [HCL.out];omega)];rfl
   clear HK HT;go_wp2_with fail
   go_ret;exact ⟨by rw [HT2.out];rfl,HB1.out⟩
open Go.Sort

theorem rowT_weaken2 {B B':Nat} {w:World} {v:Value} {xs:List Term} (h:RowT B w v xs) (hB:B'≤B):RowT B' w v xs:=⟨ownsRow_weaken h.1 hB,h.2⟩
theorem RowTT.keep {B:Nat} {w w':World} {v:Value} {xs:List (List Term)} (h:RowTT B w v xs) (hk:∀ g,B≤g→g < w.heap.size→(∃ cs e,(e=61∨e=59)∧w.heap[g]?=some (.cells cs e (0,0)))→w'.heap[g]?=w.heap[g]?):RowTT B w' v xs:=by
 obtain ⟨vs,h1,h2,h3⟩:=h;refine ⟨vs,h1,⟨h2.1,h2.2.imp id ?_⟩,fun i u x hu hx=>(h3 i u x hu hx).keep fun g hg hl ⟨cs,hc⟩=>hk g hg hl ⟨cs,_,.inl rfl,hc⟩⟩;rintro ⟨g,cap,cur,a,b,c,d⟩;have hg:g < w.heap.size:=by
  rcases Nat.lt_or_ge g w.heap.size with h | h
  ·exact h
  ·rw [Array.getElem?_eq_none h] at c;cases c
 exact ⟨g,cap,cur,a,b,by rw [hk g b hg ⟨_,_,.inr rfl,c⟩];exact c,d⟩
theorem RowTT.below {B:Nat} {w w':World} {v:Value} {xs:List (List Term)} (h:RowTT B w v xs) (hb:Below w.heap.size w w'):RowTT B w' v xs:=h.keep fun g _ hg _=>hb.block g hg
theorem RowTT.agree {B B':Nat} {E:TypeId→Prop} {w w':World} {v:Value} {xs:List (List Term)} (h:RowTT B w v xs) (hA:Agree B' E w w') (h1:¬ E 61) (h2:¬ E 59):RowTT B w' v xs :=
 h.keep fun g _ hg ⟨cs,e,he,hc⟩=>hA.2 g hg (.inr fun ⟨cs',e',fr,he',hh⟩=>by
  rw [hc] at hh;cases hh;rcases he with rfl | rfl
  ·exact h1 he'
  ·exact h2 he')
theorem RowTT.is {B:Nat} {w:World} {v:Value} {xs:List (List Term)} (h:RowTT B w v xs):Is w v xs:=h.ownZ.is
theorem wpo_appTT {o:Oper} {a:Act} {K:Act→World→Prop} {Q:Exit→Act→World→Prop} {w:World} (s x:Operand)
  (ho:o.op=.call { callee:=.builtin .append,args:=#[s,x],argTypes:=#[41,41] })
  (B:Nat) (v u:Value) (xs:List (List Term)) (y:List Term) (g:Nat) (hs:a.eval s=v) (hx:a.eval x=.slice (some ⟨g,0,none⟩) 1 1) (hg:w.cell? ⟨g,0,none⟩=some u)
  (hown:RowTT B w v xs) (hy:RowT B w u y) (hb:xs.length≤1000000000) (hB:B≤w.heap.size)
  (h:∀ v' w',RowTT B w' v' (xs++[y])→Below B w w'→Agree B (·=59) w w'→K (a.put o.dst v') w'):o.wp Tryz.prog a w K Q:=by
 obtain ⟨i0,hi,hz0,hz1,hz2⟩:=info_parts altRow;obtain ⟨vs,k1,k2,k3⟩:=id hown;obtain ⟨au,cu,rfl⟩:=hy.shape;refine wp_append_own w s x 41 ho B 59 i0 _ 1 24 Tryz.underlying41 hi hz0 hz1 hz2 rfl (by decide) v xs.length vs hs k2 ⟨g,0,none⟩ 1 1 [.slice au y.length cu] hx rfl ?_ ?_ ?_ ?_ hB ?_
 ·intro j q hj;match j,hj with
  | 0,hj=>simp at hj;subst hj;exact hg
  | j+1,hj=>simp at hj
 ·intro q hq;simp at hq;subst hq;rfl
 ·unfold maxLen;omega
 ·omega
 ·intro v' w' h2 h3 h4;exact h v' w' (RowTT.snoc k1 k2 k3 hy h3 h2) ((Below.refl _ _).app h3 (by omega) k2) (Agree.app (E:=(·=59)) rfl k2 h3)
theorem choiceT_take:∀ (ts:List (List (List Term))) (D:List Nat) (k:Nat) (l:List (List Term)) (d:Nat),ts[k]?=some l→D[k]?=some d→choiceT (ts.take (k+1)) D=choiceT (ts.take k) D++[(l[d]?).getD []]
 | [],D,k,l,d,h,_=>by simp at h
 | t :: ts,[],k,l,d,_,h=>by simp at h
 | t :: ts,e :: D,0,l,d,h,h2=>by
  simp at h h2;subst h;subst h2;cases ts <;> cases D <;> simp [choiceT]
 | t :: ts,e :: D,k+1,l,d,h,h2=>by
  simp at h h2;have ih:=choiceT_take ts D k l d h h2;simp only [List.take_succ_cons,choiceT] at ih ⊢;rw [ih];rfl
theorem choiceT_len:∀ (ts:List (List (List Term))) (D:List Nat),(choiceT ts D).length≤ts.length
 | [],D=>by cases D <;> simp [choiceT]
 | t :: ts,[]=>by simp [choiceT]
 | t :: ts,e :: D=>by have:=choiceT_len ts D;simp [choiceT];omega
theorem radC_term {c:Catalog} {ts:List (List (List Term))} {os:List ByteArray} {k:Nat} {l:List (List Term)} (h:ts[k]?=some l):(radC c ts os)[k]?=some l.length:=by
 unfold radC;rw [List.getElem?_append_left (by rw [List.length_map];exact lt_get h),List.getElem?_map,h];rfl
theorem radC_own {c:Catalog} {ts:List (List (List Term))} {os:List ByteArray} {j:Nat} (h:j < os.length):(radC c ts os)[ts.length+j]?=some c.licenses.length:=by
 unfold radC;rw [List.getElem?_append_right (by rw [List.length_map];omega),List.length_map,Nat.add_sub_cancel_left,List.getElem?_map,List.getElem?_eq_getElem h];rfl
theorem choiceO_take (c:Catalog) (D:List Nat) (j d:Nat) (h:D[j]?=some d):choiceO c (D.take (j+1))=choiceO c (D.take j)++[((c.licenses[d]?).map License.name).getD ByteArray.empty]:=by
 unfold choiceO;rw [take_at h,List.map_append];rfl
theorem choice_mk {w:World} {v1 v2:Value} {ts:List (List Term)} {os:List ByteArray} (h1:Is w v1 ts) (h2:Is w v2 os):Is w (.agg #[v1,v2]) (Choice.mk ts os):=by
 obtain ⟨a,n,rfl,k1,k2,k3⟩:=list_inv h1;obtain ⟨b,m,rfl,m1,m2,m3⟩:=list_inv h2;exact Choice.mk' ⟨k1,k2,k3,m1,m2,m3⟩
def ChO (B:Nat) (w:World) (v1 v2:Value) (y:Choice):Prop:=RowTT B w v1 y.terms∧OwnV Value.string B 9 w v2 y.own∧∀ s∈y.own,s.size≤maxLen
theorem ChO.is {B:Nat} {w:World} {v1 v2:Value} {y:Choice} (h:ChO B w v1 v2 y):Is w (.agg #[v1,v2]) y:=choice_mk h.1.is (h.2.1.strs h.2.2)
theorem ChO.setCell {B:Nat} {w:World} {v1 v2:Value} {y:Choice} (h:ChO B w v1 v2 y) {a:Addr} (u:Value) (ha:a.block < B):ChO B (w.setCell a u) v1 v2 y:=⟨h.1.setCell u ha,h.2.1.setCell ha,h.2.2⟩
theorem ChO.weaken {B B0:Nat} {w:World} {v1 v2:Value} {y:Choice} (h:ChO B w v1 v2 y) (hB:B0≤B):ChO B0 w v1 v2 y:=⟨h.1.weaken hB,h.2.1.weaken hB,h.2.2⟩
theorem ChO.nil (B:Nat) (w:World):ChO B w (.slice none 0 0) (.slice none 0 0) ⟨[],[]⟩:=⟨RowTT.nil _ _,OwnV.nil _ _ _ _,by simp⟩
theorem ChO.shape {B:Nat} {w:World} {v1 v2:Value} {y:Choice} (h:ChO B w v1 v2 y):∃ a1 c1 a2 c2,v1=.slice a1 y.terms.length c1∧v2=.slice a2 y.own.length c2:=by
 obtain ⟨a1,c1,h1⟩:=h.1.shape;obtain ⟨a2,c2,h2,-⟩:=h.2.1.shape;exact ⟨a1,c1,a2,c2,h1,h2⟩
end Go.Proofs.YtcbopdbbcgdkcaaGreatDoor
namespace Go.Proofs.YtcbopdbbcgdkcaaGreatDoor
open Go Go.RowKit Go.ChangeShapes Go.Lib

theorem digits_step {RC:List Nat} {j r:Nat} (h:RC[j]?=some r) (n:Nat) :
  digitsR (RC.drop j) n=((digitsR (RC.drop (j+1)) n).2 % r :: (digitsR (RC.drop (j+1)) n).1,(digitsR (RC.drop (j+1)) n).2 / r):=by
 rw [drop_at h,digitsR]
def digV (RC:List Nat) (n j:Nat):List Value:=List.replicate j (.int .i64 0)++(digitsR (RC.drop j) n).1.map fun d:Nat=>.int .i64 (d:Int)
theorem mk_ints (L:Nat) (hL:L≤2000000) (W:World):(Instr.makeSlice 100 (.int .i64 (L:Int)) (.int .i64 (L:Int))).run Tryz.prog W=.ok (.slice (some ⟨W.heap.size,0,none⟩) L L) (W.alloc (.cells (Array.replicate L (Value.int .i64 0)) 3)):=by
 obtain ⟨i0,hi,hz0,hz1,hz2⟩:=info_parts intRow2;have h:=run_make (P:=Tryz.prog) W 100 3 i0 _ Tryz.underlying100 hi hz0 .i64 .i64 L L (by omega) (Int.le_refl _) (by rw [hz2];omega) (by omega);rw [h,hz1];have e:madeCells #[Value.int .i64 0] L=Array.replicate L (Value.int .i64 0):=by
  apply Array.toList_inj.1;rw [toList_madeCells_one,Array.toList_replicate]
 show Result.ok (Value.slice (some ⟨W.heap.size,0,none⟩) (L:Int).toNat (L:Int).toNat) (W.alloc (.cells (madeCells #[Value.int .i64 0] ((L:Int).toNat * 1)) 3))=_;rw [Int.toNat_natCast,Nat.mul_one,e]
theorem digits_le:∀ (l:List Nat) (n:Nat),(digitsR l n).2≤n
 | [],n=>by simp [digitsR]
 | r :: rs,n=>by rw [digitsR];exact Nat.le_trans (Nat.div_le_self _ _) (digits_le rs n)
theorem digV_nil (RC:List Nat) (n:Nat):digV RC n 0=(digitsR RC n).1.map fun d:Nat=>Value.int .i64 (d:Int):=by
 unfold digV;rw [List.replicate_zero,List.nil_append,List.drop_zero]
theorem digV_zero (RC:List Nat) (n j:Nat):(digV RC n (j+1)).toArray[j]?=some (.int .i64 0):=by
 unfold digV;rw [List.getElem?_toArray,List.getElem?_append_left (by simp)];simp
theorem digV_set (RC:List Nat) (n j r:Nat) (h:RC[j]?=some r):((digV RC n (j+1)).toArray.setIfInBounds j (.int .i64 (((digitsR (RC.drop (j+1)) n).2 % r:Nat):Int)))=(digV RC n j).toArray:=by
 unfold digV;apply Array.toList_inj.1;rw [digits_step h];simp only [Array.toList_setIfInBounds,List.map_cons];rw [List.replicate_succ',List.append_assoc,List.set_append_right _ _ (by simp)];simp
theorem choR16 {p:Prop} (h:p:=by
 refine rd1DuD 17 rfl (fun K hK=>?_);refine wpo_app_strs _ _ (by rfl) (wq.heap.size+1) _ (choiceO c ((D.drop L1).take j)) (by rfl) HOb.out _ [li.name] (by rfl) HIb.out (by rw [HOLE.out];simp;omega) hzb ?_;intro v' w6 ho6 hg6;have hb6:Below (wq.heap.size+1) _ w6:=(Below.refl _ _).app hg6 hzb HOb.out;have hA6:Agree (wq.heap.size+1) (·=9) _ w6:=Agree.app (E:=(·=9)) rfl HOb.out hg6;rw [← HTK.out] at ho6;obtain ⟨a6,c6,hv6,-⟩:=ho6.shape;subst hv6;have h96:w6.heap[wq.heap.size]?=some (.cells #[.slice at' TL ct,.slice ao OL co] 43 (0,0)):=agree_blk hA6 HPb.out (by decide);have HT6:=zh (HTb.out.agree hA6 (by decide) (by decide));have f6:=objfrozen h96 (j:=1);have d6:=objcell h96 (j:=1) rfl;have hs6:=heap_lt h96;have HB6:=zh (HBb.out.trans (hb6.mono (by omega)));have HO6:=zh ho6;have H96:=zh h96;clear ho6 hb6 hA6 h96 hg6;go_wp2_with fail
 refine hK.out _ _ ?_ (fun hH3=>?_)
 ·exact HB6.out
 clear hK K;refine tkBDuD 18 hH3 rfl ?_;refine rd1DuD 19 rfl (fun K hK=>?_);go_simp;go_wp2_with fail
 refine hK.out _ _ ?_ (fun hH4=>?_)
 ·exact HB6.out.setCell (p:=⟨wq.heap.size,1,none⟩) (Nat.le_refl _) _
 clear hK K;refine wpAnyH_done (by kernel_rfl) ?_ _;go_wp2;go_roundw
 case rel =>
  refine ⟨j+1,.slice a6 _ c6,by omega,by go_num,?_,HT6.out.setCell _ (by show wq.heap.size < _;omega),HO6.out.setCell (by show wq.heap.size < _;omega),HB6.out.setCell (p:=⟨wq.heap.size,1,none⟩) (Nat.le_refl _) _⟩;exact setCell_obj _ _ 1 _ H96.out
 case measure=>exact zm):p:=h
theorem choR11 {p:Prop} (h:p:=by
 refine rd1DuD 11 rfl (fun K hK=>?_);refine wpo_appTT _ _ (by rfl) (wq.heap.size+1) _ _ (choiceT (ts.take k) D) al w5.heap.size (by rfl) (by rfl) hcb HTb.out HUb.out (by rw [HTLE.out];omega) hzb ?_;intro v' w6 ho6 hb6 hA6;rw [← HAL2.out,← HTK.out] at ho6;obtain ⟨a6,c6,hv6,-⟩:=list_inv ho6.is;subst hv6;have h96:w6.heap[wq.heap.size]?=some (.cells #[.slice at' TL ct,.slice none 0 0] 43 (0,0)):=agree_blk hA6 HPb.out (by decide);have f6:=objfrozen h96 (j:=0);have d6:=objcell h96 (j:=0) rfl;have hs6:=heap_lt h96;have HB6:=zh (HBb.out.trans (hb6.mono (by omega)));have HO6:=zh ho6;have H96:=zh h96;clear ho6 hb6 hA6 h96 hcb;go_wp2_with fail
 refine hK.out _ _ ?_ (fun hH4=>?_)
 ·exact HB6.out
 clear hK K;refine tkBDuD 12 hH4 rfl ?_;refine rd1DuD 13 rfl (fun K hK=>?_);go_simp;go_wp2_with fail
 refine hK.out _ _ ?_ (fun hH5=>?_)
 ·exact HB6.out.setCell (p:=⟨wq.heap.size,0,none⟩) (Nat.le_refl _) _
 clear hK K;refine wpAnyH_done (by kernel_rfl) ?_ _;go_wp2;go_roundw
 case rel =>
  refine ⟨k+1,.slice a6 _ c6,by omega,by go_num,?_,HO6.out.setCell _ (by show wq.heap.size < _;omega),HB6.out.setCell (p:=⟨wq.heap.size,0,none⟩) (Nat.le_refl _) _⟩;exact setCell_obj _ _ 0 _ H96.out
 case measure=>exact zm):p:=h
theorem zrdud0 {p:Prop} (h:p:=by
 have hba:Below w5.heap.size w5 (w5.alloc (.cells #[.slice a5 al.length c5] 59)):=zb;have HPb:=zh (below_blk hba HPc.out);have HTb:=zh (HTc.out.below hba);have HUb:=zh (HU5.out.below hba);have HBb:Hid (Below wq.heap.size wq (w5.alloc (.cells #[.slice a5 al.length c5] 59))):=zh (HB5.out.trans (hba.mono (by omega)));have hcb:(w5.alloc (.cells #[.slice a5 al.length c5] 59)).cell? ⟨w5.heap.size,0,none⟩=some (.slice a5 al.length c5):=by simp
 have hzb:wq.heap.size+1≤(w5.alloc (.cells #[.slice a5 al.length c5] 59)).heap.size:=by simp;omega
 clear hba;refine rd1DuD 10 rfl (fun K hK=>?_);go_simp;go_wp2_with fail
 refine hK.out _ _ ?_ (fun hH3=>?_)
 ·exact HBb.out
 clear hK K;exact choR11):p:=h
theorem choice_p (w:World) (v1 v2:Value) (c:Catalog) (ts:List (List (List Term))) (os:List ByteArray) (a0:Option Addr) (c0:Nat) (a1:Option Addr) (N1 c1:Nat) (a2:Option Addr) (N2 c2:Nat) (a3:Option Addr) (N3 c3:Nat) (n:Nat)
  (h1:Is w v1 ts) (h2:Is w v2 os) (hc0:c.licenses.length≤c0) (hc0m:c0≤maxLen) (hr0:Row w a0 c.licenses) (ht:ts.length≤1000000) (ho:os.length≤1000000) (hfit:∀ r∈radC c ts os,0 < r∧r≤1000000)
  (hal:∀ l∈ts,∀ x∈l,x.length≤1000000) (hn:n < 1000000) :
  Calls Tryz.prog 63 #[.agg #[v1,v2,.slice a0 c.licenses.length c0,.slice a1 N1 c1,.slice a2 N2 c2,.slice a3 N3 c3],.int .i64 n] w fun e w' =>
   ∃ v1 v2,e=.returned (.agg #[v1,v2])∧ChO w.heap.size w' v1 v2 (choiceC c ts os n)∧Below w.heap.size w w':=by
 have HF:Hid (choiceC c ts os n=⟨choiceT ts (digitsR (radC c ts os) n).1,choiceO c ((digitsR (radC c ts os) n).1.drop ts.length)⟩):=rfl;have hfit2:∀ r∈radC c ts os,r≤1000000:=fun r hr=>(hfit r hr).2;have HI:=zh (radI_in hfit2);have HGE:=zh (fun k r=>radI_get (c:=c) (ts:=ts) (os:=os) (k:=k) (r:=r));have HRL:=zh (radI_len c ts os);have HCL:=zh (radC_len c ts os);have HFIT:=zh hfit;obtain ⟨a,m1,rfl,hm1,hmm1,hr1⟩:=list_inv h1;obtain ⟨b,m2,rfl,-⟩:=list_inv h2;have HR1:=zh hr1;have HR0:=zh hr0;have HN0:c.licenses.length≤9223372036854775807:=by simp only [maxLen] at hc0m;omega
 have hal0:Below w.heap.size w ((w.alloc (.cells #[.slice a ts.length m1,.slice b os.length m2,.slice a0 c.licenses.length c0,.slice a1 N1 c1,.slice a2 N2 c2,.slice a3 N3 c3] 96)).alloc (.cells #[.slice none 0 0,.slice none 0 0] 43)):=bw;have hcall:=radices_p _ _ _ c ts os a0 c0 a1 N1 c1 a2 N2 c2 a3 N3 c3 (h1.mono hal0) (h2.mono hal0) HN0 ht ho;have HAL:=zh hal0;have hlen:ts.length+os.length≤2000000:=by omega
 clear h1 h2 hfit hfit2 hal0 hr1 hr0 hm1 hmm1;generalize radI c ts os=RI at *;generalize hRC:radC c ts os=RC at *;have HRC:=zh hRC;clear hRC;generalize hL1:ts.length=L1 at *;generalize hL2:os.length=L2 at *;generalize hN0:c.licenses.length=N0 at *;have HL:=zh (And.intro hL1 (And.intro hL2 hN0));clear hL1 hL2 hN0;obtain ⟨L,hL⟩:∃ L,L=L1+L2:=⟨_,rfl⟩
 go_enter Tryz.func63,Tryz.ntmps63;go_wp2_with fail
 refine hcall.mono ?_;rintro e w1 ⟨v,rfl,ho1,hb1⟩;clear hcall;have HB1:=zh (HAL.out.trans (hb1.mono (by simp;omega)));have HIS:=zh (ho1.ints HI.out);obtain ⟨av,cv,rfl,-,hcv,hrv⟩:=list_inv HIS.out;have HR:=zh hrv;have k0:=kb w hb1 0 (.slice a L1 m1);have k1:=kb w hb1 1 (.slice b L2 m2);have k2:=kb w hb1 2 (.slice a0 N0 c0);have r0:=kb1 w hb1 0 (.slice none 0 0);have r1:=kb1 w hb1 1 (.slice none 0 0);have rf0:=keptF hb1 (a:=⟨w.heap.size+1,0,none⟩) (v:=.slice none 0 0) (by simp) (by simp);have rf1:=keptF hb1 (a:=⟨w.heap.size+1,1,none⟩) (v:=.slice none 0 0) (by simp) (by simp);rw [HRL.out,← hL];have hL':L≤2000000:=by omega
 have HLL:=zh hL;have hz1:w.heap.size+1 < w1.heap.size:=cell_lt r0;clear ho1 hb1 HIS HI hrv hcv HAL hL;have hmk:=mk_ints L hL';go_wp2_with fail
 have HB2:Hid (Below w1.heap.size w1 (w1.alloc (.cells (Array.replicate L (Value.int .i64 0)) 3))):=zh zb;have HG2:Hid ((w1.alloc (.cells (Array.replicate L (Value.int .i64 0)) 3)).heap[w1.heap.size]?=some (.cells (digV RC n L).toArray 3 (0,0))):=by
  show _=_;rw [World.alloc_heap_new];unfold digV;rw [List.drop_eq_nil_of_le (by rw [HCL.out,HLL.out];omega)];simp [digitsR]
 generalize (w1.alloc (.cells (Array.replicate L (Value.int .i64 0)) 3))=w2 at *;clear hmk;go_loopw [1,7] (fun nv kv wr=>∃ j:Nat,j≤L∧kv=.int .i64 ((j:Int) - 1)∧nv=.int .i64 ((digitsR (RC.drop j) n).2:Int)∧Hid (wr.heap[w1.heap.size]?=some (.cells (digV RC n j).toArray 3 (0,0)))∧Hid (Below w1.heap.size w1 wr)) (fun _ kv _=>((intOf kv)+1).toNat)
 case atStart=>exact ⟨L,by omega,rfl,by rw [List.drop_eq_nil_of_le (by rw [HCL.out,HLL.out];omega)];rfl,HG2,HB2⟩
 case round =>
  obtain ⟨j1,hj1,rfl,rfl,HG,HB⟩:=hrel;by_cases hji:0 < j1
  ·obtain ⟨j,rfl⟩:∃ j,j1=j+1:=⟨j1 - 1,by omega⟩
   have hjz:(0:Int)≤(j:Int):=by omega
   rw [show (((j+1:Nat):Int) - 1)=(j:Int) by omega];obtain ⟨r,hx⟩:=get_lt (xs:=RC) (k:=j) (by rw [HCL.out,← HLL.out];omega);have hy:=HGE.out _ _ hx;obtain ⟨bx,ox,rfl,hbx,x0',-⟩:=int_at HR.out hy;have hrb:=HFIT.out r (List.mem_of_getElem? hx);have hds:=zh (digits_step hx n);have DV:=zh (digV_set RC n j r hx);have X0:=zh x0';clear x0' hx hy;have hr0:¬ r=0:=by omega
   have hmle:=digits_le (RC.drop (j+1)) n;have hjl:j < L:=by omega
   generalize (digitsR (RC.drop (j+1)) n).2=m at *;have HMM:Hid (wrap64 ((m:Int) / (r:Int))=((m / r:Nat):Int)):=by
    show _=_;have h1:m / r≤m:=Nat.div_le_self _ _;rw [← Int.natCast_ediv];generalize m / r=q at *;unfold wrap64;omega
   go_wp2_with fail
   refine wp_region_held_drew (S:=(fun w':World=>Below w1.heap.size w1 w')) (by kernel_rfl) (by exact HB.out.drew) (fun hH0=>?_);refine tkBDuD 0 hH0 rfl ?_;refine tkBDuD 1 hH0 rfl ?_;refine tkBDuD 2 hH0 rfl ?_;refine tkBDuD 3 hH0 rfl ?_;refine tkBDuD 4 hH0 rfl ?_;refine tkBDuD 5 hH0 rfl ?_;refine tkBDuD 6 hH0 rfl ?_ (by intro w hSw;(try dsimp only at hSw);have x0:=kept hSw X0.out;have hsx:=cell_lt x0;go_simp;all_goals with_reducible rfl);refine tkBDuD 7 hH0 rfl ?_;refine tkBDuD 8 hH0 rfl ?_;refine tkBDuD 9 hH0 rfl ?_;refine tkBDuD 10 hH0 rfl ?_;refine tkBDuD 11 hH0 rfl ?_;refine tkBDuD 12 hH0 rfl ?_ (by intro w hSw;(try dsimp only at hSw);have x0:=kept hSw X0.out;have hsx:=cell_lt x0;go_simp;all_goals with_reducible rfl);refine tkBDuD 13 hH0 rfl ?_;refine tkBDuD 14 hH0 rfl ?_;have hGd:wr.drew.heap[w1.heap.size]?=some (.cells (digV RC n (j+1)).toArray 3 (0,0)):=HG.out;have p6:=objcell hGd (j:=j) (v:=.int .i64 0) (by rw [digV_zero]);have f6:=objfrozen hGd (j:=j);have hs6:=cell_lt p6;refine rd1DuD 15 rfl (fun K hK=>?_);go_simp;go_wp2_with fail
   refine hK.out _ _ ?_ (fun hH1=>?_)
   ·exact HB.out.drew.setCell (p:=⟨w1.heap.size,j,none⟩) (Nat.le_refl _) _
   clear hK K;refine tkBDuD 16 hH1 rfl ?_;refine wpAnyH_done (by kernel_rfl) ?_ _;go_wp2_with fail
   go_roundw
   case rel =>
    refine ⟨j,by omega,?_,?_,?_,HB.out.drew.setCell (p:=⟨w1.heap.size,j,none⟩) (Nat.le_refl _) _⟩
    ·first | rfl | (congr 1;done) | (congr 1;unfold wrap64;omega)
    ·rw [hds.out];simp only [HMM.out]
    ·show _=_;have h9:=setCell_obj wr.drew w1.heap.size j (.int .i64 ((m:Int) % (r:Int))) hGd;rw [← Int.natCast_emod,DV.out] at h9;exact h9
   case measure=>simp [intOf]
  ·obtain rfl:j1=0:=by omega
   rw [List.drop_zero,show (((0:Nat):Int) - 1) = -1 from rfl];have HG0:Hid (wr.heap[w1.heap.size]?=some (.cells ((digitsR RC n).1.map fun d:Nat=>Value.int .i64 (d:Int)).toArray 3 (0,0))):=by
    have h9:=HG.out;rw [digV_nil] at h9;exact h9
   have HDL:Hid ((digitsR RC n).1.length=L):=by show _=_;rw [digits_len,HCL.out,HLL.out]
   have HDT:Hid (∀ (i r d:Nat),RC[i]?=some r→(digitsR RC n).1[i]?=some d→d < r):=by
    show ∀ (i r d:Nat),_;intro i r d h8 h9;exact digits_lt RC n i r d (fun r hr=>(HFIT.out r hr).1) h8 h9
   generalize (digitsR RC n).1=D at *;have K0:=zh (kept HB.out k0);have K1:=zh (kept HB.out k1);have K2:=zh (kept HB.out k2);have T0:=zh (kept HB.out r0);have T1:=zh (kept HB.out r1);have TF0:=zh (keptF HB.out r0 rf0);have TF1:=zh (keptF HB.out r1 rf1);have HBW:=zh (HB1.out.trans (HB.out.mono (by omega)));have hg1:w1.heap.size < wr.heap.size:=heap_lt HG0.out;have d0:=K0.out;have hsw:w.heap.size < wr.heap.size:=by omega
   clear HG HB k0 k1 k2 r0 r1 rf0 rf1 HR HGE HRL HB2 HG2;obtain ⟨wq,hwq⟩:∃ W,W=wr:=⟨_,rfl⟩
   subst hwq;go_wp2_with fail
   clear d0;have HP0:Hid ((wq.alloc (.cells #[.slice none 0 0,.slice none 0 0] 43)).heap[wq.heap.size]?=some (.cells #[.slice none 0 0,.slice none 0 0] 43 (0,0))):=zh (World.alloc_heap_new wq _);go_loopw [42] (fun kv wr=>∃ (k:Nat) (tv:Value),k≤L1∧kv=.int .i64 k∧Hid (wr.heap[wq.heap.size]?=some (.cells #[tv,.slice none 0 0] 43 (0,0)))∧Hid (RowTT (wq.heap.size+1) wr tv (choiceT (ts.take k) D))∧Hid (Below wq.heap.size wq wr)) (fun kv _=>L1 - (intOf kv).toNat)
   case atStart=>exact ⟨0,_,by omega,rfl,HP0,zh (by rw [List.take_zero];exact (show choiceT [] D=[] by cases D <;> rfl) ▸ RowTT.nil _ _),zh zb⟩
   case round =>
    obtain ⟨k,tv,hk,rfl,HP,HT,HB⟩:=hrel;have hzq:wq.heap.size < wr.heap.size:=heap_lt HP.out;obtain ⟨at',ct,hvt,-⟩:=list_inv HT.out.is;subst hvt;by_cases hki:k < L1
    ·have hkz:(k:Int) < (L1:Int):=by omega
     have hk0:(0:Int)≤(k:Int):=by omega
     have hkL:k < L:=by have:=HLL.out;omega
     obtain ⟨l,hx⟩:=get_lt (xs:=ts) (k:=k) (by rw [HL.out.1];exact hki);obtain ⟨d,hd⟩:=get_lt (xs:=D) (k:=k) (by rw [HDL.out,HLL.out];omega);have hdl:d < l.length:=HDT.out k l.length d (by rw [← HRC.out];exact radC_term hx) hd;obtain ⟨al,hal2⟩:=get_lt (xs:=l) (k:=d) hdl;obtain ⟨bx,ox,rfl,hbx,ax,cx,x0',hx1,hx2,hx3⟩:=list_at HR1.out hx;obtain ⟨by',oy,rfl,hby,ay,cy,y0',hy1,hy2,hy3⟩:=list_at hx3 hal2;have HTK:=zh (choiceT_take ts D k l d hx hd);have hln:al.length≤1000000:=hal l (List.mem_of_getElem? hx) al (List.mem_of_getElem? hal2);have HAV:Hid (Is w (.slice ay al.length cy) al):=zh (list_mk hy1 hy2 hy3);have HBR:=zh (HBW.out.trans (HB.out.mono (by omega)));have x0:=kept HBR.out x0';have Y0:=zh (kept HBW.out y0');have D0:Hid (wq.cell? ⟨w1.heap.size,k,none⟩=some (.int .i64 d)):=zh (objcell HG0.out (by rw [List.getElem?_toArray,List.getElem?_map,hd];rfl));have HAL2:Hid ((l[d]?).getD []=al):=by show _=_;rw [hal2];rfl
     have hlen:(choiceT (ts.take k) D).length≤k:=Nat.le_trans (choiceT_len _ _) (by rw [List.length_take];omega);clear hx hd hal2 x0' y0' hx3 hy3 hx1 hx2 hy1 hy2 hbx hby;generalize hTL:(choiceT (ts.take k) D).length=TL at *;have HTLE:=zh hTL;clear hTL;go_wp2_with fail
     clear x0;have HPd:Hid (wr.drew.heap[wq.heap.size]?=some (.cells #[.slice at' TL ct,.slice none 0 0] 43 (0,0))):=HP;have HTd:Hid (RowTT (wq.heap.size+1) wr.drew (.slice at' TL ct) (choiceT (ts.take k) D)):=zh (HT.out.below bw);refine wp_region_held_drew (S:=(fun w':World=>Below wq.heap.size wq w')) (by kernel_rfl) (by exact HB.out.drew) (fun hH0=>?_);refine tkBDuD 0 hH0 rfl ?_;refine tkBDuD 2 hH0 rfl ?_;refine tkBDuD 3 hH0 rfl ?_;refine tkBDuD 4 hH0 rfl ?_;refine tkBDuD 5 hH0 rfl ?_;refine tkBDuD 6 hH0 rfl ?_ (by intro w hSw;(try dsimp only at hSw);have d0:=kept hSw D0.out;have hsd:=cell_lt d0;go_simp;all_goals with_reducible rfl);refine tkBDuD 7 hH0 rfl ?_;refine tkBDuD 8 hH0 rfl ?_ (by intro w hSw;(try dsimp only at hSw);have y0:=kept hSw Y0.out;have hsy:=cell_lt y0;go_simp;all_goals with_reducible rfl);refine rd2DuD 1 9 rfl rfl (fun K hK=>?_) (fun K hK=>?_)
     ·have p1:=objcell HPd.out (j:=0) rfl;have hsp1:=cell_lt p1;go_simp;go_wp2_with fail
      refine hK.out _ _ (show Below wq.heap.size wq _ from HB.out.drew) (fun hH1=>?_);clear hK K;clear p1 hsp1;refine rd1DuD 9 rfl (fun K hK=>?_);go_simp;refine (CloneTerm_p wr.drew _ al (HAV.out.mono (HBR.out.trans (show Below w.heap.size wr wr.drew from bw))) hln).mono ?_;rintro e w5 ⟨u5,rfl,ho5,hb5⟩;obtain ⟨a5,c5,hv5⟩:=ho5.shape;subst hv5;have HPc:=zh (below_blk hb5 HPd.out);have HTc:=zh (HTd.out.below hb5);have HU5:Hid (RowT (wq.heap.size+1) w5 (.slice a5 al.length c5) al):=zh (rowT_weaken2 ho5 (by simp;omega));have HB5:Hid (Below wq.heap.size wq w5):=zh ((show Below wq.heap.size wq wr.drew from HB.out.drew).trans (hb5.mono (by simp;omega)));have hz5:wq.heap.size < w5.heap.size:=heap_lt HPc.out;clear ho5 hb5;go_wp2_with fail
      refine hK.out _ _ ?_ (fun hH2=>?_)
      ·exact HB5.out
      clear hK K;exact zrdud0
     ·go_simp;refine (CloneTerm_p wr.drew _ al (HAV.out.mono (HBR.out.trans (show Below w.heap.size wr wr.drew from bw))) hln).mono ?_;rintro e w5 ⟨u5,rfl,ho5,hb5⟩;obtain ⟨a5,c5,hv5⟩:=ho5.shape;subst hv5;have HPc:=zh (below_blk hb5 HPd.out);have HTc:=zh (HTd.out.below hb5);have HU5:Hid (RowT (wq.heap.size+1) w5 (.slice a5 al.length c5) al):=zh (rowT_weaken2 ho5 (by simp;omega));have HB5:Hid (Below wq.heap.size wq w5):=zh ((show Below wq.heap.size wq wr.drew from HB.out.drew).trans (hb5.mono (by simp;omega)));have hz5:wq.heap.size < w5.heap.size:=heap_lt HPc.out;clear ho5 hb5;go_wp2_with fail
      refine hK.out _ _ HB5.out (fun hH1=>?_);clear hK K;refine rd2DuD 1 10 rfl rfl (fun K hK=>?_) (fun K hK=>?_)
      ·have p1:=objcell HPc.out (j:=0) rfl;have hsp1:=cell_lt p1;go_simp;go_wp2_with fail
       refine hK.out _ _ (HB5.out) (fun hH2=>?_);clear hK K;clear p1 hsp1;exact zrdud0
      ·have hba:Below w5.heap.size w5 (w5.alloc (.cells #[.slice a5 al.length c5] 59)):=zb;have HPb:=zh (below_blk hba HPc.out);have HTb:=zh (HTc.out.below hba);have HUb:=zh (HU5.out.below hba);have HBb:Hid (Below wq.heap.size wq (w5.alloc (.cells #[.slice a5 al.length c5] 59))):=zh (HB5.out.trans (hba.mono (by omega)));have hcb:(w5.alloc (.cells #[.slice a5 al.length c5] 59)).cell? ⟨w5.heap.size,0,none⟩=some (.slice a5 al.length c5):=by simp
       have hzb:wq.heap.size+1≤(w5.alloc (.cells #[.slice a5 al.length c5] 59)).heap.size:=by simp;omega
       clear hba;go_simp;go_wp2_with fail
       refine hK.out _ _ (HBb.out) (fun hH2=>?_);clear hK K;have p1:=objcell HPb.out (j:=0) rfl;have hsp1:=cell_lt p1;refine rd1DuD 1 rfl (fun K hK=>?_);go_simp;go_wp2_with fail
       refine hK.out _ _ ?_ (fun hH3=>?_)
       ·exact HBb.out
       clear hK K;clear p1 hsp1;exact choR11
    ·have hkz:¬ (k:Int) < (L1:Int):=by omega
     have HT1:Hid (RowTT (wq.heap.size+1) wr (.slice at' (choiceT (ts.take k) D).length ct) (choiceT ts D)):=by
      have h9:=HT.out;rw [show ts.take k=ts from List.take_of_length_le (by rw [HL.out.1];omega)] at h9 ⊢;exact h9
     have k1:=kept HB.out K1.out;generalize (choiceT (ts.take k) D).length=TL at *;clear HT;have HPX:Hid (wr.heap[wq.heap.size]?=some (.cells #[.slice at' TL ct,.slice none 0 0] 43 (0,0))):=HP;go_wp2_with fail
     clear k1 HP;have HBX:=HB;clear HB;obtain ⟨wp,hwp⟩:∃ W,W=wr:=⟨_,rfl⟩
     subst hwp;go_loopw [64] (fun kv wr=>∃ (j:Nat) (ov:Value),j≤L2∧kv=.int .i64 j∧Hid (wr.heap[wq.heap.size]?=some (.cells #[.slice at' TL ct,ov] 43 (0,0)))∧Hid (RowTT (wq.heap.size+1) wr (.slice at' TL ct) (choiceT ts D))∧Hid (OwnV Value.string (wq.heap.size+1) 9 wr ov (choiceO c ((D.drop L1).take j)))∧Hid (Below wq.heap.size wq wr)) (fun kv _=>L2 - (intOf kv).toNat)
     case atStart=>exact ⟨0,_,by omega,rfl,HPX,HT1,zh (by rw [List.take_zero];exact OwnV.nil _ _ _ _),HBX⟩
     case round =>
      obtain ⟨j,ov,hj,rfl,HP,HT,HO,HB⟩:=hrel;have hzq:wq.heap.size < wr.heap.size:=heap_lt HP.out;have hol:(choiceO c ((D.drop L1).take j)).length≤j:=by unfold choiceO;rw [List.length_map,List.length_take];omega
      obtain ⟨ao,co,hvo,hoc,hom⟩:=HO.out.shape;subst hvo;generalize hOL:(choiceO c ((D.drop L1).take j)).length=OL at *;have HOLE:=zh hOL;clear hOL hoc hom;by_cases hji:j < L2
      ·have hjz:(j:Int) < (L2:Int):=by omega
       have hj0:(0:Int)≤(j:Int):=by omega
       obtain ⟨q,hq⟩:∃ q,q=L1+j:=⟨_,rfl⟩
       have hjL:q < L:=by have:=HLL.out;omega
       obtain ⟨d,hd⟩:=get_lt (xs:=D) (k:=q) (by rw [HDL.out];exact hjL);have hdl:d < N0:=HDT.out q N0 d (by rw [hq,← HRC.out,← HL.out.1,← HL.out.2.2];exact radC_own (by rw [HL.out.2.1];exact hji)) hd;obtain ⟨li,hli⟩:=get_lt (xs:=c.licenses) (k:=d) (by rw [HL.out.2.2];exact hdl);obtain ⟨bx,ox,rfl,hbx,x0',x1',x2',x3',sx0,sx⟩:=License.at_row HR0.out hli;have HTK:Hid (choiceO c ((D.drop L1).take (j+1))=choiceO c ((D.drop L1).take j)++[li.name]):=by
        show _=_;rw [choiceO_take c (D.drop L1) j d (by rw [List.getElem?_drop,← hq];exact hd),hli];rfl
       have HBR:=zh (HBW.out.trans (HB.out.mono (by omega)));have Y0:=zh (kept HBW.out x0');have D0:Hid (wq.cell? ⟨w1.heap.size,q,none⟩=some (.int .i64 d)):=zh (objcell HG0.out (by rw [List.getElem?_toArray,List.getElem?_map,hd];rfl));have HNM:=zh sx0;have hwj:IntKind.i64.wrap ((L1:Int)+(j:Int))=(q:Int):=by rw [hq];simp [IntKind.wrap,IntKind.bits,IntKind.signed];omega
       clear hq;clear hd hli x0' x1' x2' x3' sx hbx;go_wp2_with fail
       have HPd:Hid (wr.drew.heap[wq.heap.size]?=some (.cells #[.slice at' TL ct,.slice ao OL co] 43 (0,0))):=HP;have HTd:Hid (RowTT (wq.heap.size+1) wr.drew (.slice at' TL ct) (choiceT ts D)):=zh (HT.out.below bw);have HOd:Hid (OwnV Value.string (wq.heap.size+1) 9 wr.drew (.slice ao OL co) (choiceO c ((D.drop L1).take j))):=zh (HO.out.below bw);refine wp_region_held_drew (S:=(fun w':World=>Below wq.heap.size wq w')) (by kernel_rfl) (by exact HB.out.drew) (fun hH0=>?_);refine tkBDuD 0 hH0 rfl ?_;refine tkBDuD 2 hH0 rfl ?_;refine tkBDuD 3 hH0 rfl ?_;refine tkBDuD 4 hH0 rfl ?_ (by intro w hSw;(try dsimp only at hSw);have k2:=kept hSw K2.out;have hsk:=cell_lt k2;go_simp;all_goals with_reducible rfl);refine tkBDuD 5 hH0 rfl ?_;refine tkBDuD 6 hH0 rfl ?_;refine tkBDuD 7 hH0 rfl ?_ (by intro w hSw;(try dsimp only at hSw);have k0:=kept hSw K0.out;have hsk:=cell_lt k0;go_simp;all_goals with_reducible rfl);refine tkBDuD 8 hH0 rfl ?_;refine tkBDuD 9 hH0 rfl ?_;refine wpAnyH_take (i:=10) (oi:=_) (v:=.int .i64 (q:Int)) rfl (by kernel_rfl) (by kernel_rfl) (by kernel_rfl) (fun _ _ _ h=>h) (Or.inl ⟨by kernel_rfl,?_⟩) hH0 ?_
       ·intro w hSw;(try dsimp only at hSw);go_simp
        all_goals (rw [hwj])
       refine tkBDuD 11 hH0 rfl ?_;refine tkBDuD 12 hH0 rfl ?_ (by intro w hSw;(try dsimp only at hSw);have d0:=kept hSw D0.out;have hsd:=cell_lt d0;go_simp;all_goals with_reducible rfl);refine tkBDuD 13 hH0 rfl ?_;refine tkBDuD 14 hH0 rfl ?_;refine tkBDuD 15 hH0 rfl ?_ (by intro w hSw;(try dsimp only at hSw);have y0:=kept hSw Y0.out;have hsy:=cell_lt y0;go_simp;all_goals with_reducible rfl);refine rd2DuD 1 16 rfl rfl (fun K hK=>?_) (fun K hK=>?_)
       ·have p1:=objcell HPd.out (j:=1) rfl;have hsp1:=cell_lt p1;go_simp;go_wp2_with fail
        refine hK.out _ _ (show Below wq.heap.size wq _ from HB.out.drew) (fun hH1=>?_);clear hK K;clear p1 hsp1;have hba:Below wr.drew.heap.size wr.drew (wr.drew.alloc (.cells #[.string li.name] 9)):=zb;have HPb:=zh (below_blk hba HPd.out);have HTb:=zh (HTd.out.below hba);have HOb:=zh (HOd.out.below hba);have HBb:Hid (Below wq.heap.size wq (wr.drew.alloc (.cells #[.string li.name] 9))):=zh ((show Below wq.heap.size wq wr.drew from HB.out.drew).trans (hba.mono (by show _≤wr.heap.size;omega)));have HIb:Hid (Is (wr.drew.alloc (.cells #[.string li.name] 9)) (.slice (some ⟨wr.heap.size,0,none⟩) [li.name].length [li.name].length) [li.name]):=zh (strs_box wr.drew [li.name] _ (by intro x hx;simp at hx;subst hx;exact HNM.out) (show 1≤maxLen by decide) rfl rfl);have hzb:wq.heap.size+1≤(wr.drew.alloc (.cells #[.string li.name] 9)).heap.size:=by simp;omega
        clear hba;refine rd1DuD 16 rfl (fun K hK=>?_);go_simp;go_wp2_with fail
        refine hK.out _ _ ?_ (fun hH2=>?_)
        ·exact HBb.out
        clear hK K;exact choR16
       ·have hba:Below wr.drew.heap.size wr.drew (wr.drew.alloc (.cells #[.string li.name] 9)):=zb;have HPb:=zh (below_blk hba HPd.out);have HTb:=zh (HTd.out.below hba);have HOb:=zh (HOd.out.below hba);have HBb:Hid (Below wq.heap.size wq (wr.drew.alloc (.cells #[.string li.name] 9))):=zh ((show Below wq.heap.size wq wr.drew from HB.out.drew).trans (hba.mono (by show _≤wr.heap.size;omega)));have HIb:Hid (Is (wr.drew.alloc (.cells #[.string li.name] 9)) (.slice (some ⟨wr.heap.size,0,none⟩) [li.name].length [li.name].length) [li.name]):=zh (strs_box wr.drew [li.name] _ (by intro x hx;simp at hx;subst hx;exact HNM.out) (show 1≤maxLen by decide) rfl rfl);have hzb:wq.heap.size+1≤(wr.drew.alloc (.cells #[.string li.name] 9)).heap.size:=by simp;omega
        clear hba;go_simp;go_wp2_with fail
        refine hK.out _ _ (HBb.out) (fun hH1=>?_);clear hK K;have p1:=objcell HP.out (j:=1) rfl;have hsp1:=cell_lt p1;refine rd1DuD 1 rfl (fun K hK=>?_);go_simp;go_wp2_with fail
        refine hK.out _ _ ?_ (fun hH2=>?_)
        ·exact HBb.out
        clear hK K;clear p1 hsp1;exact choR16
      ·have hjz:¬ (j:Int) < (L2:Int):=by omega
       have HO1:Hid (OwnV Value.string (wq.heap.size+1) 9 wr (.slice ao OL co) (choiceO c (D.drop L1))):=by
        have h9:=HO.out;rw [List.take_of_length_le (by rw [List.length_drop,HDL.out];have:=HLL.out;omega)] at h9;exact h9
       have HSZ:Hid (∀ s∈choiceO c (D.drop L1),s.size≤maxLen):=by
        show ∀ s∈_,_;intro s hs;unfold choiceO at hs;obtain ⟨d,-,rfl⟩:=List.mem_map.1 hs;cases hl:c.licenses[d]? with
        | none=>exact Nat.zero_le _
        | some li =>
         obtain ⟨bx,ox,-,-,x0',x1',x2',x3',sx0,-⟩:=License.at_row HR0.out hl;exact sx0
       have p0:=objcell HP.out (j:=0) rfl;have p1:=objcell HP.out (j:=1) rfl;have t0:wr.cell? ⟨w.heap.size+1,0,none⟩=some (.slice none 0 0):=by rw [HB.out.cell (show w.heap.size+1 < wq.heap.size by omega)];exact T0.out
       have t1:wr.cell? ⟨w.heap.size+1,1,none⟩=some (.slice none 0 0):=by rw [HB.out.cell (show w.heap.size+1 < wq.heap.size by omega)];exact T1.out
       have tf0:wr.frozen? ⟨w.heap.size+1,0,none⟩=false:=by rw [HB.out.frozen (show w.heap.size+1 < wq.heap.size by omega)];exact TF0.out
       have tf1:wr.frozen? ⟨w.heap.size+1,1,none⟩=false:=by rw [HB.out.frozen (show w.heap.size+1 < wq.heap.size by omega)];exact TF1.out
       have hst:w.heap.size+1 < wr.heap.size:=cell_lt t0;have hsp:wq.heap.size < wr.heap.size:=cell_lt p0;go_wp2_with fail
       have hbe:Below w.heap.size w ((wr.setCell ⟨w.heap.size+1,0,none⟩ (.slice at' TL ct)).setCell ⟨w.heap.size+1,1,none⟩ (.slice ao OL co)) :=
        Below.setCell (p:=⟨w.heap.size+1,1,none⟩) (Below.setCell (p:=⟨w.heap.size+1,0,none⟩) (HBW.out.trans (HB.out.mono (by omega))) (show w.heap.size≤w.heap.size+1 by omega) _) (show w.heap.size≤w.heap.size+1 by omega) _
       refine bodyPost_ret (v:=.agg #[.slice at' TL ct,.slice ao OL co]) ?_ rfl ⟨_,_,rfl,?_,hbe⟩
       ·simp [results,Tryz.results63,go_sem,t0,t1,hst]
       ·rw [HF.out];exact (show ChO (wq.heap.size+1) _ _ _ ⟨choiceT ts D,choiceO c (D.drop L1)⟩ from ⟨(HT.out.setCell _ (by show w.heap.size+1 < _;omega)).setCell _ (by show w.heap.size+1 < _;omega),(HO1.out.setCell (a:=⟨w.heap.size+1,0,none⟩) (by show w.heap.size+1 < _;omega)).setCell (a:=⟨w.heap.size+1,1,none⟩) (by show w.heap.size+1 < _;omega),HSZ.out⟩).weaken (by omega)

def fitL (l:List (List Term)):Prop:=l.length≤64∧∀ a∈l,a.length≤1000000
theorem zrdud2 {p:Prop} (h:p:=by
 refine ⟨k1,?_,?_⟩
 ·simp at k2 ⊢;omega
 ·simp at k3 ⊢;omega):p:=h
theorem valsF_fit (c:Catalog):∀ (fs:List Fact) (ts:List (List (List Term))) (os:List ByteArray),(∀ l∈ts,fitL l)→(∀ f∈fs,sizeE f.expr≤1000000) →
  (∀ l∈(valsF c ts os fs).1,fitL l)∧(valsF c ts os fs).1.length≤ts.length+fs.length∧(valsF c ts os fs).2.1.length≤os.length+fs.length
 | [],ts,os,h,_=>by simpa [valsF] using h
 | f :: r,ts,os,h,hf=>by
  rw [valsF];have hr:∀ g∈r,sizeE g.expr≤1000000:=fun g hg=>hf g (by simp [hg]);split
  ·split
   ·obtain ⟨h1,h2⟩:=of_len c f.expr;have h3:∀ l∈ts++[(ofP c f.expr).1],fitL l:=by
     intro l hl;rcases List.mem_append.1 hl with hl | hl
     ·exact h l hl
     ·simp at hl;subst hl;exact ⟨h1,fun a ha=>Nat.le_trans (h2 a ha) (hf f (by simp))⟩
    obtain ⟨k1,k2,k3⟩:=valsF_fit c r _ os h3 hr;exact zrdud2
   ·exact ⟨by simp,by simp,by simp⟩
  ·split
   ·obtain ⟨k1,k2,k3⟩:=valsF_fit c r ts (os++[f.output]) h hr;exact zrdud2
   ·obtain ⟨k1,k2,k3⟩:=valsF_fit c r ts os h hr;exact zrdud2
theorem caseE_len {c:Catalog} {x:List Fact} (h0:(caseE c x).2=0):x.length≤256:=by
 unfold caseE at h0;split at h0
 ·cases h0
 ·split at h0
  ·cases h0
  ·rename_i h1;simp at h1;omega
theorem values_fit {c:Catalog} {x:List Fact} (hf:∀ f∈x,fitF f):(∀ l∈(valuesC c x).1,fitL l)∧(valuesC c x).1.length≤256∧(valuesC c x).2.1.length≤256:=by
 unfold valuesC;split
 ·rename_i h
  have hl:=caseE_len (by simpa using h);obtain ⟨h1,h2,h3⟩:=valsF_fit c x [] [] (by simp) (fun f hx=>(hf f hx).2.2);exact ⟨h1,by simp at h2;omega,by simp at h3;omega⟩
 ·exact ⟨by simp,by simp,by simp⟩
theorem rad_fit {c:Catalog} {x:List Fact} (hf:∀ f∈x,fitF f) (hc:c.licenses.length≤1000000):∀ r∈radC c (valuesC c x).1 (valuesC c x).2.1,r≤1000000:=by
 intro r hr;unfold radC at hr;rcases List.mem_append.1 hr with hr | hr
 ·obtain ⟨l,hl,rfl⟩:=List.mem_map.1 hr;have:=((values_fit (c:=c) hf).1 l hl).1;omega
 ·obtain ⟨o,-,rfl⟩:=List.mem_map.1 hr;exact hc
def isSl (v:Value):Prop:=∃ a n c,v=.slice a n c
def KO (c:Catalog) (x:List Fact) (s0 s1 s2 s3:Value) (w:World) (e:Ending) (w':World):Prop :=
 ∃ v1 v2 t0 t1 t2 t3,e=.returned (.tuple #[.agg #[v1,v2,t0,t1,t2,t3],.int .i64 (countC c x).2])∧Below w.heap.size w w'∧(isSl v1∧isSl v2∧isSl t0∧isSl t1∧isSl t2∧isSl t3) ∧
  ((countC c x).2=0→Is w' v1 (valuesC c x).1∧Is w' v2 (valuesC c x).2.1∧t0=s0∧t1=s1∧t2=s2∧t3=s3)
theorem set6 (w:World) (g:Nat) {cs:Array Value} {fr:Nat×Nat} (h:w.heap[g]?=some (.cells cs 96 fr)) (u0 u1 u2 u3 u4 u5:Value) :
  Agree 0 (·=96) w ((((((w.setCell ⟨g,0,none⟩ u0).setCell ⟨g,1,none⟩ u1).setCell ⟨g,2,none⟩ u2).setCell ⟨g,3,none⟩ u3).setCell ⟨g,4,none⟩ u4).setCell ⟨g,5,none⟩ u5):=by
 have h1:=setCell_obj w g 0 u0 h;have h2:=setCell_obj _ g 1 u1 h1;have h3:=setCell_obj _ g 2 u2 h2;have h4:=setCell_obj _ g 3 u3 h3;have h5:=setCell_obj _ g 4 u4 h4;exact (((((agree_setCell (Nat.zero_le _) h).trans (agree_setCell (Nat.zero_le _) h1)).trans (agree_setCell (Nat.zero_le _) h2)).trans (agree_setCell (Nat.zero_le _) h3)).trans (agree_setCell (Nat.zero_le _) h4)).trans (agree_setCell (Nat.zero_le _) h5)
theorem below6 {B g:Nat} {w0 w:World} (h:Below B w0 w) (hg:B≤g) (u0 u1 u2 u3 u4 u5:Value) :
  Below B w0 ((((((w.setCell ⟨g,0,none⟩ u0).setCell ⟨g,1,none⟩ u1).setCell ⟨g,2,none⟩ u2).setCell ⟨g,3,none⟩ u3).setCell ⟨g,4,none⟩ u4).setCell ⟨g,5,none⟩ u5) :=
 ((((((h.setCell (p:=⟨g,0,none⟩) hg u0).setCell (p:=⟨g,1,none⟩) hg u1).setCell (p:=⟨g,2,none⟩) hg u2).setCell (p:=⟨g,3,none⟩) hg u3).setCell (p:=⟨g,4,none⟩) hg u4).setCell (p:=⟨g,5,none⟩) hg u5)
theorem counted_p (w:World) (vx:Value) (c:Catalog) (x:List Fact) (a0:Option Addr) (N0 c0:Nat) (a1:Option Addr) (N1 c1:Nat) (a2:Option Addr) (N2 c2:Nat) (a3:Option Addr) (N3 c3:Nat) (hN:c.licenses.length=N0)
  (hg:Glob w) (hc:Is w (.agg #[.slice a0 N0 c0,.slice a1 N1 c1,.slice a2 N2 c2,.slice a3 N3 c3]) c) (h:Is w vx x) (hfit:∀ f∈x,fitF f) (hlic:c.licenses.length≤1000000) :
  Calls Tryz.prog 59 #[.agg #[.slice a0 N0 c0,.slice a1 N1 c1,.slice a2 N2 c2,.slice a3 N3 c3],vx] w fun e w'=>KO c x (.slice a0 N0 c0) (.slice a1 N1 c1) (.slice a2 N2 c2) (.slice a3 N3 c3) w e w':=by
 have HF:Hid (countC c x=if (valuesC c x).2.2 == 0 then (if 4096 < totalR (radC c (valuesC c x).1 (valuesC c x).2.1) then (0,10) else ((totalR (radC c (valuesC c x).1 (valuesC c x).2.1):Int),0)) else (0,(valuesC c x).2.2)):=rfl;have HVF:=zh (values_fit (c:=c) hfit);have HRF:=zh (rad_fit (c:=c) hfit hlic);subst hN;have HLIC:=zh hlic;obtain ⟨a,n,rfl,-⟩:=list_inv h;have hba:Below w.heap.size w ((w.alloc (.cells #[.slice a0 c.licenses.length c0,.slice a1 N1 c1,.slice a2 N2 c2,.slice a3 N3 c3] 27)).alloc (.cells #[.slice none 0 0,.slice none 0 0,.slice none 0 0,.slice none 0 0,.slice none 0 0,.slice none 0 0] 96)):=bw;have hcall:=Values_p _ _ _ c x (hg.mono hba) (hc.mono hba) (h.mono hba) hfit;have HBA:=zh hba;clear h hc hg hfit hba;unfold KO;generalize valuesC c x=V at *;obtain ⟨ts,os,ve⟩:=V;simp only at HF HVF HRF;have HTOT:Hid (∀ W v1 v2,Is W v1 ts→Is W v2 os→Calls Tryz.prog 60 #[.agg #[v1,v2,.slice a0 c.licenses.length c0,.slice a1 N1 c1,.slice a2 N2 c2,.slice a3 N3 c3]] W fun e w'=>e=.returned (.int .i64 (totalR (radC c ts os)))∧Below W.heap.size W w') :=
  fun W v1 v2 h1 h2=>total_p W v1 v2 c ts os a0 c0 a1 N1 c1 a2 N2 c2 a3 N3 c3 h1 h2 (by have:=HLIC.out;omega) (by have:=HVF.out.2.1;omega) (by have:=HVF.out.2.2;omega) HRF.out
 generalize totalR (radC c ts os)=tot at *;unfold VO at hcall;simp only at hcall;go_enter Tryz.func59,Tryz.ntmps59;go_wp2_with fail
 refine hcall.mono ?_;rintro e w1 ⟨v1,v2,rfl,hi1,hi2,hi3,hb1⟩;clear hcall;have d0:=kb w hb1 0 (.slice a0 c.licenses.length c0);have d1:=kb w hb1 1 (.slice a1 N1 c1);have d2:=kb w hb1 2 (.slice a2 N2 c2);have d3:=kb w hb1 3 (.slice a3 N3 c3);have HG1:Hid (w1.heap[w.heap.size+1]?=some (.cells #[.slice none 0 0,.slice none 0 0,.slice none 0 0,.slice none 0 0,.slice none 0 0,.slice none 0 0] 96 (0,0))):=zh (below_blk hb1 (by rw [show w.heap.size+1=(w.alloc (.cells #[.slice a0 c.licenses.length c0,.slice a1 N1 c1,.slice a2 N2 c2,.slice a3 N3 c3] 27)).heap.size by simp];exact World.alloc_heap_new _ _));have HB1:=zh (HBA.out.trans (hb1.mono (by simp;omega)));obtain ⟨at',ct,hv1,-⟩:=list_inv hi1.is;obtain ⟨ao,co,hv2,-⟩:=hi2.shape;subst hv1;subst hv2;have HI1:=zh hi1;have HI2:=zh hi2;have HI3:=zh hi3;have hs1:w.heap.size < w1.heap.size:=cell_lt d0;have hs2:w.heap.size+1 < w1.heap.size:=heap_lt HG1.out;clear hb1 hi1 hi2 hi3 HBA HVF HRF HLIC hlic;have g1:=HG1.out;have e0:=objcell g1 (j:=0) rfl;have e1:=objcell g1 (j:=1) rfl;have e2:=objcell g1 (j:=2) rfl;have e3:=objcell g1 (j:=3) rfl;have e4:=objcell g1 (j:=4) rfl;have e5:=objcell g1 (j:=5) rfl;have f0:=objfrozen g1 (j:=0);have f1:=objfrozen g1 (j:=1);have f2:=objfrozen g1 (j:=2);have f3:=objfrozen g1 (j:=3);have f4:=objfrozen g1 (j:=4);have f5:=objfrozen g1 (j:=5);clear g1;cases q:(ve == 0);case false =>
  have q':(ve != 0)=true:=by rw [show (ve != 0)=!(ve == 0) from rfl,q];rfl
  have HT:Hid (countC c x=(0,ve)):=by show _=_;rw [HF.out,q];rfl
  have q9:¬ ve=0:=by simpa using q
  clear HF q;go_wp2_with fail
  refine bodyPost_ret (v:=.tuple #[.agg #[.slice none 0 0,.slice none 0 0,.slice none 0 0,.slice none 0 0,.slice none 0 0,.slice none 0 0],.int .i64 ve]) ?_ rfl ⟨_,_,_,_,_,_,by rw [HT.out],below6 HB1.out (by omega) _ _ _ _ _ _,⟨⟨_,_,_,rfl⟩,⟨_,_,_,rfl⟩,⟨_,_,_,rfl⟩,⟨_,_,_,rfl⟩,⟨_,_,_,rfl⟩,⟨_,_,_,rfl⟩⟩,fun h=>absurd (by rw [HT.out] at h;exact h) q9⟩;simp [results,Tryz.results59,go_sem,e0,e1,e2,e3,e4,e5,hs2]
 have q':(ve != 0)=false:=by rw [show (ve != 0)=!(ve == 0) from rfl,q];rfl
 have HF2:Hid (countC c x=if 4096 < tot then (0,10) else ((tot:Int),0)):=by show _=_;rw [HF.out,q];rfl
 clear HF q;have hal:Below w1.heap.size w1 (w1.alloc (.cells #[.slice at' ts.length ct,.slice ao os.length co,.slice a0 c.licenses.length c0,.slice a1 N1 c1,.slice a2 N2 c2,.slice a3 N3 c3] 96)):=zb;have hcall:=HTOT.out _ _ _ (HI1.out.is.mono hal) ((HI2.out.strs HI3.out).mono hal);have HAL:=zh hal;clear hal HTOT;go_wp2_with fail
 refine hcall.mono ?_;rintro e w2 ⟨rfl,hb2⟩;clear hcall e0 e1 e2 e3 e4 e5 f0 f1 f2 f3 f4 f5 d0 d1 d2 d3;have t0:=kept hb2 (a:=⟨w1.heap.size,0,none⟩) (v:=.slice at' ts.length ct) (by simp);have t1:=kept hb2 (a:=⟨w1.heap.size,1,none⟩) (v:=.slice ao os.length co) (by simp);have t2:=kept hb2 (a:=⟨w1.heap.size,2,none⟩) (v:=.slice a0 c.licenses.length c0) (by simp);have t3:=kept hb2 (a:=⟨w1.heap.size,3,none⟩) (v:=.slice a1 N1 c1) (by simp);have t4:=kept hb2 (a:=⟨w1.heap.size,4,none⟩) (v:=.slice a2 N2 c2) (by simp);have t5:=kept hb2 (a:=⟨w1.heap.size,5,none⟩) (v:=.slice a3 N3 c3) (by simp);have hb12:Below w1.heap.size w1 w2:=HAL.out.trans (hb2.mono (by simp));have HB2:=zh (HB1.out.trans (hb12.mono HB1.out.size));have HG2:=zh (below_blk hb12 HG1.out);have HI1b:=zh (HI1.out.below hb12);have HI2b:=zh (HI2.out.below hb12);have hs3:w.heap.size+1 < w2.heap.size:=heap_lt HG2.out;have hs4:w1.heap.size < w2.heap.size:=cell_lt t0;have hne:¬ w.heap.size+1=w1.heap.size:=by omega
 clear hb2 hb12 HI1 HI2 HG1 HAL HB1;have g1:=HG2.out;have e0:=objcell g1 (j:=0) rfl;have e1:=objcell g1 (j:=1) rfl;have e2:=objcell g1 (j:=2) rfl;have e3:=objcell g1 (j:=3) rfl;have e4:=objcell g1 (j:=4) rfl;have e5:=objcell g1 (j:=5) rfl;have f0:=objfrozen g1 (j:=0);have f1:=objfrozen g1 (j:=1);have f2:=objfrozen g1 (j:=2);have f3:=objfrozen g1 (j:=3);have f4:=objfrozen g1 (j:=4);have f5:=objfrozen g1 (j:=5);clear g1;by_cases q2:4096 < tot
 ·have HT:Hid (countC c x=(0,10)):=by show _=_;rw [HF2.out,if_pos q2]
  have q3:(4096:Int) < (tot:Int):=by omega
  clear HF2;go_wp2_with fail
  refine bodyPost_ret (v:=.tuple #[.agg #[.slice none 0 0,.slice none 0 0,.slice none 0 0,.slice none 0 0,.slice none 0 0,.slice none 0 0],.int .i64 10]) ?_ rfl ⟨_,_,_,_,_,_,by rw [HT.out],below6 HB2.out (by omega) _ _ _ _ _ _,⟨⟨_,_,_,rfl⟩,⟨_,_,_,rfl⟩,⟨_,_,_,rfl⟩,⟨_,_,_,rfl⟩,⟨_,_,_,rfl⟩,⟨_,_,_,rfl⟩⟩,fun h=>absurd (by rw [HT.out] at h;exact h) (by decide)⟩;simp [results,Tryz.results59,go_sem,e0,e1,e2,e3,e4,e5,hs3]
 ·have HT:Hid (countC c x=((tot:Int),0)):=by show _=_;rw [HF2.out,if_neg q2]
  have q3:¬ (4096:Int) < (tot:Int):=by omega
  clear HF2;go_wp2_with fail
  have hag:=set6 w2 (w.heap.size+1) HG2.out (.slice at' ts.length ct) (.slice ao os.length co) (.slice a0 c.licenses.length c0) (.slice a1 N1 c1) (.slice a2 N2 c2) (.slice a3 N3 c3);refine bodyPost_ret (v:=.tuple #[.agg #[.slice at' ts.length ct,.slice ao os.length co,.slice a0 c.licenses.length c0,.slice a1 N1 c1,.slice a2 N2 c2,.slice a3 N3 c3],.int .i64 0]) ?_ rfl ⟨_,_,_,_,_,_,by rw [HT.out],below6 HB2.out (by omega) _ _ _ _ _ _,⟨⟨_,_,_,rfl⟩,⟨_,_,_,rfl⟩,⟨_,_,_,rfl⟩,⟨_,_,_,rfl⟩,⟨_,_,_,rfl⟩,⟨_,_,_,rfl⟩⟩,fun _=>⟨(HI1b.out.other hag (fun x hx=>by subst hx;unfold Ev;decide) (by decide)).is,(HI2b.out.agree hag (by decide)).strs HI3.out,rfl,rfl,rfl,rfl⟩⟩;simp [results,Tryz.results59,go_sem,e0,e1,e2,e3,e4,e5,hs3]

theorem count_ok {c:Catalog} {x:List Fact} (h:(countC c x).2=0):(valuesC c x).2.2=0∧totalR (radC c (valuesC c x).1 (valuesC c x).2.1)≤4096∧(countC c x).1=(totalR (radC c (valuesC c x).1 (valuesC c x).2.1):Int):=by
 unfold countC at *;split at h
 ·rename_i h1
  rw [if_pos h1];split at h
  ·cases h
  ·rename_i h2
   rw [if_neg h2];exact ⟨by simpa using h1,by omega,rfl⟩
 ·rename_i h1
  simp only at h;exact absurd h (by simpa using h1)
theorem count_bad {c:Catalog} {x:List Fact} (h:¬ (countC c x).2=0):(countC c x).1=0:=by
 unfold countC at *;split
 ·rename_i h1
  rw [if_pos h1] at h;split
  ·rfl
  ·rename_i h2
   rw [if_neg h2] at h;exact absurd rfl h
 ·rfl
theorem Count_p (w:World) (vc vx:Value) (c:Catalog) (x:List Fact) (hg:Glob w) (hc:Is w vc c) (h:Is w vx x) (hfit:∀ f∈x,fitF f) (hlic:c.licenses.length≤1000000) :
  Calls Tryz.prog 19 #[vc,vx] w fun e w'=>e=.returned (.tuple #[.int .i64 (countC c x).1,.int .i64 (countC c x).2])∧Below w.heap.size w w':=by
 have HKF:=zh (count_ok (c:=c) (x:=x));have HK0:=zh (count_bad (c:=c) (x:=x));have HVF:=zh (values_fit (c:=c) hfit);have HRF:=zh (rad_fit (c:=c) hfit hlic);obtain ⟨a0,c0,a1,c1,a2,c2,a3,c3,rfl,-⟩:=Catalog.inv hc;obtain ⟨a,n,rfl,-⟩:=list_inv h;have hba:Below w.heap.size w (w.alloc (.cells #[.slice a0 c.licenses.length c0,.slice a1 c.exceptions.length c1,.slice a2 c.clauses.length c2,.slice a3 c.apart.length c3] 27)):=zb;have hcall:=counted_p _ _ c x a0 _ c0 a1 _ c1 a2 _ c2 a3 _ c3 rfl (hg.mono hba) (hc.mono hba) (h.mono hba) hfit hlic;have HBA:=zh hba;have HTOT:Hid (∀ W v1 v2,Is W v1 (valuesC c x).1→Is W v2 (valuesC c x).2.1→Calls Tryz.prog 60 #[.agg #[v1,v2,.slice a0 c.licenses.length c0,.slice a1 c.exceptions.length c1,.slice a2 c.clauses.length c2,.slice a3 c.apart.length c3]] W fun e w'=>e=.returned (.int .i64 (totalR (radC c (valuesC c x).1 (valuesC c x).2.1)))∧Below W.heap.size W w') :=
  fun W v1 v2 h1 h2=>total_p W v1 v2 c _ _ a0 c0 a1 _ c1 a2 _ c2 a3 _ c3 h1 h2 (by omega) (by have:=HVF.out.2.1;omega) (by have:=HVF.out.2.2;omega) HRF.out
 clear h hc hg hfit hba HVF HRF hlic;unfold KO at hcall;generalize totalR (radC c (valuesC c x).1 (valuesC c x).2.1)=tot at *;generalize countC c x=K at *;obtain ⟨kn,ke⟩:=K;simp only at hcall HKF HK0;generalize c.licenses.length=N0 at *;generalize c.exceptions.length=N1 at *;generalize c.clauses.length=N2 at *;generalize c.apart.length=N3 at *;go_enter Tryz.func19,Tryz.ntmps19;go_wp2_with fail
 refine hcall.mono ?_;rintro e w1 ⟨v1,v2,t0,t1,t2,t3,rfl,hb1,⟨⟨b1,n1,k1,rfl⟩,⟨b2,n2,k2,rfl⟩,⟨b3,n3,k3,rfl⟩,⟨b4,n4,k4,rfl⟩,⟨b5,n5,k5,rfl⟩,⟨b6,n6,k6,rfl⟩⟩,hs⟩;clear hcall;have HB1:=zh (HBA.out.trans (hb1.mono (by simp)));have HS:=zh hs;clear hb1 hs HBA;cases q:(ke == 0);case false =>
  have q':(ke != 0)=true:=by rw [show (ke != 0)=!(ke == 0) from rfl,q];rfl
  have HT:Hid (kn=0):=HK0.out (by simpa using q);clear q HKF HK0 HS HTOT;go_wp2_with fail
  go_ret2;exact ⟨by rw [HT.out];rfl,by have hq:=HB1.out;have hz:=hq.size;exact bw⟩
 have q':(ke != 0)=false:=by rw [show (ke != 0)=!(ke == 0) from rfl,q];rfl
 obtain rfl:ke=0:=by simpa using q
 obtain ⟨hi1,hi2,he3,he4,he5,he6⟩:=HS.out rfl;have HT:Hid (kn=(tot:Int)):=(HKF.out rfl).2.2;cases he3;cases he4;cases he5;cases he6;have hal:Below w1.heap.size w1 (w1.alloc (.cells #[.slice b1 n1 k1,.slice b2 n2 k2,.slice a0 N0 c0,.slice a1 N1 c1,.slice a2 N2 c2,.slice a3 N3 c3] 96)):=zb;have hcall:=HTOT.out _ _ _ (hi1.mono hal) (hi2.mono hal);have HAL:=zh hal;clear hal hi1 hi2 HS HTOT q HKF HK0;go_wp2_with fail
 refine hcall.mono ?_;rintro e w2 ⟨rfl,hb2⟩;clear hcall;go_wp2_with fail
 go_ret2;exact ⟨by rw [HT.out];rfl,HB1.out.trans ((HAL.out.trans (hb2.mono (by simp))).mono HB1.out.size)⟩
theorem total_pos {l:List Nat} (h:totalR l≠0):∀ r∈l,0 < r:=by
 intro r hr;rcases Nat.eq_zero_or_pos r with h0 | h0
 ·subst h0;exfalso;apply h;unfold totalR;rw [if_pos (by simpa using hr)]
 ·exact h0
theorem Nth_p (w:World) (vc vx:Value) (c:Catalog) (x:List Fact) (n:Int) (hg:Glob w) (hc:Is w vc c) (h:Is w vx x) (hfit:∀ f∈x,fitF f) (hlic:c.licenses.length≤1000000) :
  Calls Tryz.prog 22 #[vc,vx,.int .i64 n] w fun e w'=>∃ v1 v2,e=.returned (.tuple #[.agg #[v1,v2],.int .i64 (nthC c x n).2])∧ChO w.heap.size w' v1 v2 (nthC c x n).1∧Below w.heap.size w w':=by
 have HF:Hid (nthC c x n=if (countC c x).2 == 0 then (if decide (n < 0) || decide ((countC c x).1≤n) then (⟨[],[]⟩,3) else (choiceC c (valuesC c x).1 (valuesC c x).2.1 n.toNat,0)) else (⟨[],[]⟩,(countC c x).2)):=rfl;have HKF:=zh (count_ok (c:=c) (x:=x));have HVF:=zh (values_fit (c:=c) hfit);have HRF:=zh (rad_fit (c:=c) hfit hlic);obtain ⟨a0,c0,a1,c1,a2,c2,a3,c3,rfl,l0,m0,r0,-⟩:=Catalog.inv hc;obtain ⟨a,nx,rfl,-⟩:=list_inv h;have hba:Below w.heap.size w ((w.alloc (.cells #[.slice a0 c.licenses.length c0,.slice a1 c.exceptions.length c1,.slice a2 c.clauses.length c2,.slice a3 c.apart.length c3] 27)).alloc (.cells #[.slice none 0 0,.slice none 0 0] 43)):=bw;have hcall:=counted_p _ _ c x a0 _ c0 a1 _ c1 a2 _ c2 a3 _ c3 rfl (hg.mono hba) (hc.mono hba) (h.mono hba) hfit hlic;have HBA:=zh hba;have HTOT:Hid (∀ W v1 v2,Is W v1 (valuesC c x).1→Is W v2 (valuesC c x).2.1→Calls Tryz.prog 60 #[.agg #[v1,v2,.slice a0 c.licenses.length c0,.slice a1 c.exceptions.length c1,.slice a2 c.clauses.length c2,.slice a3 c.apart.length c3]] W fun e w'=>e=.returned (.int .i64 (totalR (radC c (valuesC c x).1 (valuesC c x).2.1)))∧Below W.heap.size W w') :=
  fun W v1 v2 h1 h2=>total_p W v1 v2 c _ _ a0 c0 a1 _ c1 a2 _ c2 a3 _ c3 h1 h2 (by omega) (by have:=HVF.out.2.1;omega) (by have:=HVF.out.2.2;omega) HRF.out
 have HCH:Hid (∀ W v1 v2 (k:Nat),Below w.heap.size w W→Is W v1 (valuesC c x).1→Is W v2 (valuesC c x).2.1→k < totalR (radC c (valuesC c x).1 (valuesC c x).2.1)→k < 1000000 →
   Calls Tryz.prog 63 #[.agg #[v1,v2,.slice a0 c.licenses.length c0,.slice a1 c.exceptions.length c1,.slice a2 c.clauses.length c2,.slice a3 c.apart.length c3],.int .i64 k] W fun e w' =>
    ∃ v1 v2,e=.returned (.agg #[v1,v2])∧ChO W.heap.size w' v1 v2 (choiceC c (valuesC c x).1 (valuesC c x).2.1 k)∧Below W.heap.size W w') :=
  fun W v1 v2 k hb h1 h2 hk hk2=>choice_p W v1 v2 c _ _ a0 c0 a1 _ c1 a2 _ c2 a3 _ c3 k h1 h2 l0 m0 (r0.mono hb) (by have:=HVF.out.2.1;omega) (by have:=HVF.out.2.2;omega) (fun r hr=>⟨total_pos (by omega) r hr,HRF.out r hr⟩) (fun l hl=>(HVF.out.1 l hl).2) hk2
 clear h hc hg hfit hba HVF HRF hlic l0 m0 r0;unfold KO at hcall;generalize totalR (radC c (valuesC c x).1 (valuesC c x).2.1)=tot at *;generalize countC c x=K at *;obtain ⟨kn,ke⟩:=K;simp only at hcall HKF HF;generalize c.licenses.length=N0 at *;generalize c.exceptions.length=N1 at *;generalize c.clauses.length=N2 at *;generalize c.apart.length=N3 at *;go_enter Tryz.func22,Tryz.ntmps22;go_wp2_with fail
 refine hcall.mono ?_;rintro e w1 ⟨v1,v2,t0,t1,t2,t3,rfl,hb1,⟨⟨b1,n1,k1,rfl⟩,⟨b2,n2,k2,rfl⟩,⟨b3,n3,k3,rfl⟩,⟨b4,n4,k4,rfl⟩,⟨b5,n5,k5,rfl⟩,⟨b6,n6,k6,rfl⟩⟩,hs⟩;clear hcall;have HB1:=zh (HBA.out.trans (hb1.mono (by simp;omega)));have r0:=kb1 w hb1 0 (.slice none 0 0);have r1:=kb1 w hb1 1 (.slice none 0 0);have rf0:=keptF hb1 (a:=⟨w.heap.size+1,0,none⟩) (v:=.slice none 0 0) (by simp) (by simp);have rf1:=keptF hb1 (a:=⟨w.heap.size+1,1,none⟩) (v:=.slice none 0 0) (by simp) (by simp);have hz1:w.heap.size+1 < w1.heap.size:=cell_lt r0;have HS:=zh hs;clear hb1 hs HBA;have hal:Below w1.heap.size w1 (w1.alloc (.cells #[.slice b1 n1 k1,.slice b2 n2 k2,.slice b3 n3 k3,.slice b4 n4 k4,.slice b5 n5 k5,.slice b6 n6 k6] 96)):=zb;have HAL:=zh hal;have HBL:Hid (Below w.heap.size w (w1.alloc (.cells #[.slice b1 n1 k1,.slice b2 n2 k2,.slice b3 n3 k3,.slice b4 n4 k4,.slice b5 n5 k5,.slice b6 n6 k6] 96))):=zh (HB1.out.trans (hal.mono HB1.out.size));have hend:∀ (W:World) (u1 u2:Value),Below w.heap.size w W→Below w.heap.size w ((W.setCell ⟨w.heap.size+1,0,none⟩ u1).setCell ⟨w.heap.size+1,1,none⟩ u2):=fun W u1 u2 hb =>
  Below.setCell (p:=⟨w.heap.size+1,1,none⟩) (Below.setCell (p:=⟨w.heap.size+1,0,none⟩) hb (show w.heap.size≤w.heap.size+1 by omega) _) (show w.heap.size≤w.heap.size+1 by omega) _
 have HEND:=zh hend;clear hal hend;cases q:(ke == 0);case false =>
  have q':(ke != 0)=true:=by rw [show (ke != 0)=!(ke == 0) from rfl,q];rfl
  have HT:Hid (nthC c x n=(⟨[],[]⟩,ke)):=by show _=_;rw [HF.out,q];rfl
  clear q HKF HS HTOT HCH HF;go_wp2_with fail
  refine bodyPost_ret (v:=.tuple #[.agg #[.slice none 0 0,.slice none 0 0],.int .i64 ke]) ?_ rfl ⟨_,_,by rw [HT.out],by rw [HT.out];exact ChO.nil _ _,(HEND.out w1 _ _ HB1.out).alloc (by simp;omega) _⟩;simp [results,Tryz.results22,go_sem,r0,r1,hz1]
 have q':(ke != 0)=false:=by rw [show (ke != 0)=!(ke == 0) from rfl,q];rfl
 obtain rfl:ke=0:=by simpa using q
 have HF2:Hid (nthC c x n=if decide (n < 0) || decide (kn≤n) then (⟨[],[]⟩,3) else (choiceC c (valuesC c x).1 (valuesC c x).2.1 n.toNat,0)):=HF.out;obtain ⟨hi1,hi2,he3,he4,he5,he6⟩:=HS.out rfl;obtain ⟨-,htl,hkn⟩:=HKF.out rfl;subst hkn;cases he3;cases he4;cases he5;cases he6;clear HS HKF HF q;by_cases q1:n < 0
 ·have HT:Hid (nthC c x n=(⟨[],[]⟩,3)):=by show _=_;rw [HF2.out,decide_eq_true q1];rfl
  clear HF2 HTOT HCH hi1 hi2;go_wp2_with fail
  refine bodyPost_ret (v:=.tuple #[.agg #[.slice none 0 0,.slice none 0 0],.int .i64 3]) ?_ rfl ⟨_,_,by rw [HT.out],by rw [HT.out];exact ChO.nil _ _,(HEND.out w1 _ _ HB1.out).alloc (by simp;omega) _⟩;simp [results,Tryz.results22,go_sem,r0,r1,hz1]
 have hj1:=hi1.mono HAL.out;have hj2:=hi2.mono HAL.out;have hcall:=HTOT.out _ _ _ hj1 hj2;have HJ1:=zh hj1;have HJ2:=zh hj2;clear hi1 hi2 hj1 hj2 HTOT;go_wp2_with fail
 refine hcall.mono ?_;rintro e w2 ⟨rfl,hb2⟩;clear hcall;have s0:=kept hb2 (a:=⟨w1.heap.size,0,none⟩) (v:=.slice b1 n1 k1) (by simp);have s1:=kept hb2 (a:=⟨w1.heap.size,1,none⟩) (v:=.slice b2 n2 k2) (by simp);have s2:=kept hb2 (a:=⟨w1.heap.size,2,none⟩) (v:=.slice a0 N0 c0) (by simp);have s3:=kept hb2 (a:=⟨w1.heap.size,3,none⟩) (v:=.slice a1 N1 c1) (by simp);have s4:=kept hb2 (a:=⟨w1.heap.size,4,none⟩) (v:=.slice a2 N2 c2) (by simp);have s5:=kept hb2 (a:=⟨w1.heap.size,5,none⟩) (v:=.slice a3 N3 c3) (by simp);have hb12:Below w1.heap.size w1 w2:=HAL.out.trans (hb2.mono (by simp));have HB2:=zh (HB1.out.trans (hb12.mono HB1.out.size));have r0':=kept hb12 r0;have r1':=kept hb12 r1;have rf0':=keptF hb12 r0 rf0;have rf1':=keptF hb12 r1 rf1;have HK1:=zh (HJ1.out.mono hb2);have HK2:=zh (HJ2.out.mono hb2);have hz2:w1.heap.size < w2.heap.size:=cell_lt s0;have hz3:w.heap.size+1 < w2.heap.size:=by omega
 clear hb2 hb12 r0 r1 rf0 rf1 HJ1 HJ2 HAL HBL;by_cases q2:(tot:Int)≤n
 ·have HT:Hid (nthC c x n=(⟨[],[]⟩,3)):=by show _=_;rw [HF2.out,decide_eq_true q2];simp
  clear HF2 HCH HK1 HK2;go_wp2_with fail
  refine bodyPost_ret (v:=.tuple #[.agg #[.slice none 0 0,.slice none 0 0],.int .i64 3]) ?_ rfl ⟨_,_,by rw [HT.out],by rw [HT.out];exact ChO.nil _ _,HEND.out _ _ _ HB2.out⟩;simp [results,Tryz.results22,go_sem,r0',r1',hz3]
 obtain ⟨k,rfl⟩:∃ k:Nat,n=(k:Int):=⟨n.toNat,by omega⟩
 have HT:Hid (nthC c x k=(choiceC c (valuesC c x).1 (valuesC c x).2.1 k,0)):=by
  show _=_;rw [HF2.out,decide_eq_false (by omega),decide_eq_false (by omega)];rfl
 have hcall:=HCH.out w2 _ _ k HB2.out HK1.out HK2.out (by omega) (by omega);clear HF2 HCH HK1 HK2;go_wp2_with fail
 refine hcall.mono ?_;rintro e w3 ⟨u1,u2,rfl,hch,hb3⟩;clear hcall;obtain ⟨d1,e1,d2,e2,rfl,rfl⟩:=hch.shape;have r0'':=kept hb3 r0';have r1'':=kept hb3 r1';have rf0'':=keptF hb3 r0' rf0';have rf1'':=keptF hb3 r1' rf1';have HB3:=zh (HB2.out.trans (hb3.mono HB2.out.size));have hz4:w.heap.size+1 < w3.heap.size:=cell_lt r0'';have HCO:=zh hch;clear hb3 hch r0' r1' rf0' rf1' s0 s1 s2 s3 s4 s5;go_wp2_with fail
 refine bodyPost_ret (v:=.tuple #[.agg #[.slice d1 _ e1,.slice d2 _ e2],.int .i64 0]) ?_ rfl ⟨_,_,by rw [HT.out],by rw [HT.out];exact ((HCO.out.setCell (a:=⟨w.heap.size+1,0,none⟩) _ (by show w.heap.size+1 < _;omega)).setCell (a:=⟨w.heap.size+1,1,none⟩) _ (by show w.heap.size+1 < _;omega)).weaken (by omega),HEND.out _ _ _ HB3.out⟩;simp [results,Tryz.results22,go_sem,r0'',r1'',hz4]
end Go.Proofs.YtcbopdbbcgdkcaaGreatDoor
