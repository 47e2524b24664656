/- Lemmas. -/
import Derived.Laws.EntriesVeiled
import Derived.Test.YtcbopdbbcgdkcaaGreatDoorLEntU
import Derived.Test.YtcbopdbbcgdkcaaGreatDoorLProY
set_option linter.all false
set_option maxRecDepth 100000
set_option maxHeartbeats 16000000
namespace Go.Proofs.YtcbopdbbcgdkcaaGreatDoor
open Go Go.RowKit Go.ChangeShapes Go.Lib

theorem zqlexu2 {p:Prop} (h:p:=by
 go_enter Tryz.func253,Tryz.ntmps253;go_wp2_with fail
 go_ret;exact ⟨ret_b (by rw [HN.out];try (simp [lowC];try omega)),Below.refl _ _⟩):p:=h
theorem isNameX_p (s:ByteArray) (w:World) (hs:s.size≤maxLen):Calls Tryz.prog 253 #[.string s] w fun e w'=>e=.returned (.bool (nameB s))∧Below w.heap.size w w':=by
 have HS:=zh hs;simp only [maxLen] at hs;by_cases h0:0 < s.size
 case neg =>
  have e:s.data.toList=[]:=by rw [← List.length_eq_zero_iff,by_len];omega
  have HN:Hid (nameB s=false):=by unfold nameB;rw [e];rfl
  have e0:(s.size:Int) < 1:=by omega
  clear e h0;go_enter Tryz.func253,Tryz.ntmps253;go_wp2_with fail
  go_ret;exact ⟨ret_b (by rw [HN.out];try (simp [lowC];try omega)),Below.refl _ _⟩
 have HN:=zh (isName_eq h0);have e0:(1:Int)≤s.size:=by omega
 by_cases h1:(s.size:Int)≤32
 case neg =>exact zqlexu2
 by_cases h2:(97:Int)≤s[0].toNat
 case neg =>exact zqlexu2
 by_cases h3:(s[0].toNat:Int)≤122
 case neg =>exact zqlexu2
 cases h4:(s.toList == [97,110,100]);case true =>
  go_enter Tryz.func253,Tryz.ntmps253;go_wp2_with fail
  go_ret;exact ⟨ret_b (by rw [HN.out];try (simp [lowC,h4];try omega)),Below.refl _ _⟩
 cases h5:(s.toList == [111,114]);case true =>
  go_enter Tryz.func253,Tryz.ntmps253;go_wp2_with fail
  go_ret;exact ⟨ret_b (by rw [HN.out];try (simp [lowC,h5];try omega)),Below.refl _ _⟩
 cases h6:(s.toList == [119,105,116,104]);case true =>
  go_enter Tryz.func253,Tryz.ntmps253;go_wp2_with fail
  go_ret;exact ⟨ret_b (by rw [HN.out];try (simp [lowC,h6];try omega)),Below.refl _ _⟩
 have HN2:Hid (nameB s=(mkS (Lib.trimS s.data.toList nameCs)).toList.isEmpty):=by
  show _=_;rw [HN.out,h4,h5,h6,ByteArray.toList_eq,mkS_toList];simp [lowC];try omega
 clear HN;go_enter Tryz.func253,Tryz.ntmps253;go_wp2_with fail
 refine (Trim_name s _ HS.out).mono ?_;rintro e w1 ⟨rfl,hb1⟩;go_wp2;go_ret;exact ⟨ret_b (by rw [HN2.out]),hb1⟩
theorem depthKs_snoc (a:List LExpr) (x:LExpr):depthKs (a++[x])=max (depthKs a) (depthE x):=by
 induction a with
 | nil=>simp [depthKs]
 | cons y r ih=>simp only [List.cons_append,depthKs,ih];omega
theorem size_mem {ks:List LExpr} {e:LExpr} (h:e∈ks):sizeE e≤sizeKs ks:=by
 induction ks with
 | nil=>simp at h
 | cons y r ih =>
  rw [sizeKs];rcases List.mem_cons.1 h with rfl | h
  ·omega
  ·have:=ih h;omega
theorem size_pos (e:LExpr):0 < sizeE e:=by cases e;simp [sizeE]
theorem depth_le:∀ e,depthE e≤sizeE e:=by
 have h:∀ ks:List LExpr,(∀ e∈ks,depthE e≤sizeE e)→depthKs ks≤sizeKs ks:=by
  intro ks;induction ks with
  | nil=>intro _;simp [depthKs]
  | cons a r ih =>
   intro h;have h1:=h a (by simp);have h2:=ih fun e he=>h e (by simp [he]);rw [depthKs,sizeKs];omega
 refine LExpr.ind fun k n x ks ih=>?_;rw [depthE,sizeE];have:=h ks ih;omega
theorem sizeKs_take (ks:List LExpr) (k:Nat):sizeKs (ks.take k)≤sizeKs ks:=by
 induction ks generalizing k with
 | nil=>simp
 | cons a r ih =>
  cases k with
  | zero=>simp [sizeKs]
  | succ k=>rw [List.take_succ_cons,sizeKs,sizeKs];have:=ih k;omega
theorem Depth_step (k0:Int) (n0 x0:ByteArray) (ks:List LExpr) (ih:∀ e∈ks,sizeE e≤1000000→∀ (w:World) (v:Value),Is w v e→Calls Tryz.prog 213 #[v] w fun e' w'=>e'=.returned (.int .i64 (depthE e))∧Below w.heap.size w w')
  (hsz:sizeE (LExpr.mk k0 n0 x0 ks)≤1000000) (w:World) (v:Value) (h:Is w v (LExpr.mk k0 n0 x0 ks)) :
  Calls Tryz.prog 213 #[v] w fun e' w'=>e'=.returned (.int .i64 (depthE (LExpr.mk k0 n0 x0 ks)))∧Below w.heap.size w w':=by
 obtain ⟨a,c,rfl,-,-,-,hnc,hcm,hr⟩:=LExpr.inv h;simp only [maxLen] at hcm;have HR:=zh hr;have HIH:=zh ih;have HSZ:=zh hsz;have HD:Hid (depthE (LExpr.mk k0 n0 x0 ks)=depthKs ks+1):=rfl;clear hr h ih hsz;generalize depthE (LExpr.mk k0 n0 x0 ks)=DD at *;generalize hN:ks.length=N at *;have HN:=zh hN;clear hN;go_enter Tryz.func213,Tryz.ntmps213;go_wp2;go_loopw [3,9] (fun nv kv wr=>∃ (k d:Nat),k≤N∧kv=.int .i64 k∧nv=.int .i64 d∧Hid (d=depthKs (ks.take k))∧d≤1000000∧Hid (Below w.heap.size w wr)) (fun _ kv _=>N - (intOf kv).toNat)
 case atStart=>exact ⟨0,0,by omega,rfl,rfl,rfl,by omega,bw⟩
 case round =>
  obtain ⟨k,d,hk,rfl,rfl,HDk,hd,HB⟩:=hrel;by_cases hki:k < N
  ·have hkz:(k:Int) < (N:Int):=by omega
   obtain ⟨y,hy⟩:=get_lt (xs:=ks) (k:=k) (by rw [HN.out];exact hki);obtain ⟨k1,n1,x1,ks1⟩:=y;have hmem:LExpr.mk k1 n1 x1 ks1∈ks:=List.mem_of_getElem? hy;have hs1:sizeE (LExpr.mk k1 n1 x1 ks1)≤1000000:=by have:=size_mem hmem;have h2:=HSZ.out;rw [sizeE] at h2;omega
   have hd1:depthE (LExpr.mk k1 n1 x1 ks1)≤1000000:=Nat.le_trans (depth_le _) hs1;have HS:Hid (depthKs (ks.take (k+1))=max (depthKs (ks.take k)) (depthE (LExpr.mk k1 n1 x1 ks1))):=by show _=_;rw [take_at hy,depthKs_snoc]
   obtain ⟨b,off,rfl,hb,a3,c3,y0',y1',y2',y3',i0,s1,s2,l3,m3,r3⟩:=LExpr.at_row HR.out hy;have y0:=kept HB.out y0';have y1:=kept HB.out y1';have y2:=kept HB.out y2';have y3:=kept HB.out y3';have hsb:=cell_lt y0;have hba:Below wr.heap.size wr (wr.alloc (.cells #[.int .i64 k1,.string n1,.string x1,.slice a3 ks1.length c3] 68)):=bw;have hcall:=HIH.out _ hmem hs1 (wr.alloc (.cells #[.int .i64 k1,.string n1,.string x1,.slice a3 ks1.length c3] 68)) (.agg #[.int .i64 k1,.string n1,.string x1,.slice a3 ks1.length c3]) (LExpr.mk' i0 s1 s2 l3 m3 ((r3.mono HB.out).mono hba));clear hy hmem y0' y1' y2' y3' r3 hba hs1;generalize depthE (LExpr.mk k1 n1 x1 ks1)=d1 at *;generalize ks1.length=L1 at *;by_cases hlt:(d:Int) < (d1:Int)
   ·have HM:Hid (d1=depthKs (ks.take (k+1))):=by show _=_;rw [HS.out,← HDk.out];omega
    go_wp2_with fail
    refine hcall.mono ?_;rintro e w2 ⟨rfl,hb2⟩;have HB2:Hid (Below w.heap.size w w2):=(HB.out.alloc HB.out.size _).trans (hb2.mono (by have:=HB.out.size;simp;omega));clear hb2 hcall;go_wp2;go_roundw
    case rel=>exact ⟨k+1,d1,by omega,by go_num,(by first | rfl | go_num | (simp;omega)),HM,hd1,HB2⟩
    case measure=>exact zm
   ·have HM:Hid (d=depthKs (ks.take (k+1))):=by show _=_;rw [HS.out,← HDk.out];omega
    go_wp2_with fail
    refine hcall.mono ?_;rintro e w2 ⟨rfl,hb2⟩;have HB2:Hid (Below w.heap.size w w2):=(HB.out.alloc HB.out.size _).trans (hb2.mono (by have:=HB.out.size;simp;omega));clear hb2 hcall;go_wp2;go_roundw
    case rel=>exact ⟨k+1,d,by omega,by go_num,(by first | rfl | go_num | (simp;omega)),HM,hd,HB2⟩
    case measure=>exact zm
  ·have hkz:¬ (k:Int) < (N:Int):=by omega
   have HT:Hid (DD=d+1):=by show _=_;rw [HD.out,HDk.out,List.take_of_length_le (by rw [HN.out];omega)]
   go_wp2;go_ret;exact ⟨ret_i (by rw [HT.out];simp),HB.out⟩
theorem Depth_p (e:LExpr):sizeE e≤1000000→∀ (w:World) (v:Value),Is w v e→Calls Tryz.prog 213 #[v] w fun e' w'=>e'=.returned (.int .i64 (depthE e))∧Below w.heap.size w w':=by
 refine LExpr.ind (P:=fun e=>sizeE e≤1000000→∀ (w:World) (v:Value),Is w v e→Calls Tryz.prog 213 #[v] w fun e' w'=>e'=.returned (.int .i64 (depthE e))∧Below w.heap.size w w') (fun k n x ks ih hs w v h=>?_) e;exact Depth_step k n x ks ih hs w v h
theorem zrlexu0 {p:Prop} (h:p:=by
 have p3h:=zh p3;go_enter Tryz.func214,Tryz.ntmps214;go_wp2;go_ret;exact ⟨ret_i (by rw [HE.out,p1h.out,p2h.out,p3h.out];rfl),bw⟩):p:=h
theorem zqlexu0 {p:Prop} (h:p:=by
 have p1z:¬ (N:Int) < 2:=by omega
 have p1h:=zh (decide_eq_false p1z);cases p2:n0.toList.isEmpty;case true =>
  have p2e:n0.toList=[]:=by simpa using p2
  have p2h:=zh p2;cases p3:x0.toList.isEmpty;case true =>
   have p3e:x0.toList=[]:=by simpa using p3
   exact zrlexu0
  case false =>
   exact zrlexu0
 case false =>
  have p2h:=zh p2;go_enter Tryz.func214,Tryz.ntmps214;go_wp2;go_ret;exact ⟨ret_i (by rw [HE.out,p1h.out,p2h.out];rfl),bw⟩):p:=h
theorem zqlexu1 {p:Prop} (h:p:=by
 go_enter Tryz.func214,Tryz.ntmps214;go_wp2_with fail
 refine (hn1 _).mono ?_;rintro e h1w ⟨rfl,h1⟩;have hbx:=kb w h1 2 (.string x0);have h1s:=h1.size;try simp at h1s
 go_wp2_with fail
 refine (hn2 _).mono ?_;rintro e h2w ⟨rfl,h2⟩;have h2s:=h2.size;try simp at h2s
 go_wp2;go_ret;exact ⟨ret_i (by rw [HE.out,p1h.out,p3h.out];rfl),bw⟩):p:=h
theorem zqlexu3 {p:Prop} (h:p:=by
 go_enter Tryz.func214,Tryz.ntmps214;go_wp2_with fail
 refine (hn1 _).mono ?_;rintro e h1w ⟨rfl,h1⟩;have hbx:=kb w h1 2 (.string x0);have h1s:=h1.size;try simp at h1s
 go_wp2;go_ret;exact ⟨ret_i (by rw [HE.out,p1h.out,p3h.out];rfl),bw⟩):p:=h
theorem zqlexu4 {p:Prop} (h:p:=by
 have p1z:(0:Int) < (N:Int):=by omega
 have p1h:=zh (decide_eq_true p1z);go_enter Tryz.func214,Tryz.ntmps214;go_wp2;go_ret;exact ⟨ret_i (by rw [HE.out,p1h.out];rfl),bw⟩):p:=h
theorem zqlexu5 {p:Prop} (h:p:=by
 have p1z:(N:Int) < 2:=by omega
 have p1h:=zh (decide_eq_true p1z);go_enter Tryz.func214,Tryz.ntmps214;go_wp2;go_ret;exact ⟨ret_i (by rw [HE.out,p1h.out];rfl),bw⟩):p:=h
theorem checkNode_p (w:World) (v:Value) (k0:Int) (n0 x0:ByteArray) (ks:List LExpr) (h:Is w v (LExpr.mk k0 n0 x0 ks)) :
  Calls Tryz.prog 214 #[v] w fun e' w'=>e'=.returned (.int .i64 (nodeErr (LExpr.mk k0 n0 x0 ks)))∧Below w.heap.size w w':=by
 obtain ⟨a,c,rfl,-,s1,s2,hnc,hcm,-⟩:=LExpr.inv h;simp only [maxLen] at hcm
 have HE:Hid (nodeErr (LExpr.mk k0 n0 x0 ks)=if k0 == 0 || k0 == 1 then (if decide ((0:Int) < ks.length) || (k0 == 1 && !emp x0) then 1 else if !nameB n0 || (!emp x0 && !nameB x0) then 2 else 0)
  else if k0 == 2 || k0 == 3 then (if decide ((ks.length:Int) < 2) || !emp n0 || !emp x0 then 1 else 0) else 1):=rfl
 have hn1:=fun W=>isNameX_p n0 W s1;have hn2:=fun W=>isNameX_p x0 W s2;clear h s1 s2;generalize nodeErr (LExpr.mk k0 n0 x0 ks)=r at *;generalize ks.length=N at *;unfold emp at HE;generalize nameB n0=b1 at *;generalize nameB x0=b2 at *;by_cases q0:k0=0
 ·subst q0;by_cases p1:0 < N
  ·exact zqlexu4
  ·have p1z:¬ (0:Int) < (N:Int):=by omega
   have p1h:=zh (decide_eq_false p1z);cases b1;case true =>
    cases p3:x0.toList.isEmpty;case true =>
     have p3e:x0.toList=[]:=by simpa using p3
     have p3h:=zh p3;go_enter Tryz.func214,Tryz.ntmps214;go_wp2_with fail
     refine (hn1 _).mono ?_;rintro e h1w ⟨rfl,h1⟩;have hbx:=kb w h1 2 (.string x0);have h1s:=h1.size;try simp at h1s
     go_wp2;go_ret;exact ⟨ret_i (by rw [HE.out,p1h.out,p3h.out];rfl),bw⟩
    case false =>
     have p3h:=zh p3;cases b2;case true =>exact zqlexu1
     case false =>exact zqlexu1
   case false =>
    go_enter Tryz.func214,Tryz.ntmps214;go_wp2_with fail
    refine (hn1 _).mono ?_;rintro e h1w ⟨rfl,h1⟩;have hbx:=kb w h1 2 (.string x0);have h1s:=h1.size;try simp at h1s
    go_wp2;go_ret;exact ⟨ret_i (by rw [HE.out,p1h.out];rfl),bw⟩
 by_cases q1:k0=1
 ·subst q1;clear q0;by_cases p1:0 < N
  ·exact zqlexu4
  ·have p1z:¬ (0:Int) < (N:Int):=by omega
   have p1h:=zh (decide_eq_false p1z);cases p3:x0.toList.isEmpty;case true =>
    have p3e:x0.toList=[]:=by simpa using p3
    have p3h:=zh p3;cases b1;case true =>exact zqlexu3
    case false =>exact zqlexu3
   case false =>
    have p3h:=zh p3;go_enter Tryz.func214,Tryz.ntmps214;go_wp2;go_ret;exact ⟨ret_i (by rw [HE.out,p1h.out,p3h.out];rfl),bw⟩
 by_cases q2:k0=2
 ·subst q2;clear q0 q1;by_cases p1:N < 2
  ·exact zqlexu5
  ·exact zqlexu0
 by_cases q3:k0=3
 ·subst q3;clear q0 q1 q2;by_cases p1:N < 2
  ·exact zqlexu5
  ·exact zqlexu0
 have r0:(k0 == 0)=false:=by simpa using q0
 have r1:(k0 == 1)=false:=by simpa using q1
 have r2:(k0 == 2)=false:=by simpa using q2
 have r3:(k0 == 3)=false:=by simpa using q3
 clear q0 q1 q2 q3;go_enter Tryz.func214,Tryz.ntmps214;go_wp2;go_ret;exact ⟨ret_i (by rw [HE.out,r0,r1,r2,r3];rfl),bw⟩
open Go.Shelf
attribute [local go_sem] Oper.semAt_some

theorem roomW {F:Fence} (hd:F.depth=none) (k:Nat):F.room k:=fun d h=>by rw [hd] at h;cases h
theorem RoundIn_any {m m':Nat} {P:Program} {l:Nat} {f:FuncId} {tmps:Array Value} {assign body:Code} {w:World} {R:Ending→World→Prop}
  (h:RoundIn Fence.wide m P l f tmps assign body w R):RoundIn Fence.wide m' P l f tmps assign body w R:=⟨h.1,fun c cs _=>h.2 c cs (roomW rfl _)⟩
theorem YieldAt_any {m:Nat} (m':Nat) {P:Program} {l:Nat} {args:Array Value} {W:World} {R:Ending→World→Prop} (h:YieldAt Fence.wide m P l args W R):YieldAt Fence.wide m' P l args W R:=by
 obtain ⟨fn,tmps,assign,body,hy,hR⟩:=h;exact ⟨fn,tmps,assign,body,hy,RoundIn_any hR⟩
def Kv (M:Nat→Prop) (W W':World):Prop:=W.heap.size≤W'.heap.size∧∀ k cs t fr,¬ M k→W.heap[k]?=some (.cells cs t fr)→W'.heap[k]?=some (.cells cs t fr)
theorem Kv.refl (M:Nat→Prop) (W:World):Kv M W W:=⟨Nat.le_refl _,fun _ _ _ _ _ h=>h⟩
theorem Kv.trans {M:Nat→Prop} {A B C:World} (h:Kv M A B) (k:Kv M B C):Kv M A C:=⟨Nat.le_trans h.1 k.1,fun i cs t fr hm hc=>k.2 i cs t fr hm (h.2 i cs t fr hm hc)⟩
theorem heap_lt {W:World} {k:Nat} {o:Obj} (h:W.heap[k]?=some o):k < W.heap.size:=(Array.getElem?_eq_some_iff.1 h).1
theorem Kv.of_below {M:Nat→Prop} {W W':World} (h:Below W.heap.size W W'):Kv M W W':=⟨h.size,fun k cs t fr _ hc=>by rw [h.block k (heap_lt hc)];exact hc⟩
theorem Kv.b {M:Nat→Prop} {n:Nat} (W:World) (l:Nat) (o o':Obj) (_:n≤l) (h:W.heap[l]?=some o) (hc:o.isCells=false) (_:o.isWalk=false):Kv M W (W.putObj l o'):=by
 refine ⟨by simp [World.putObj],fun k cs t fr _ hk=>?_⟩;rw [World.putObj_heap_other (fun e=>by subst e;rw [h] at hk;cases hk;cases hc)];exact hk
theorem cell_blk {W:World} {a:Addr} {v:Value} (h:W.cell? a=some v):∃ cs t fr,W.heap[a.block]?=some (.cells cs t fr):=by
 unfold World.cell? at h;split at h
 ·rename_i c t fr e;exact ⟨_,_,_,e⟩
 ·cases h
theorem Kv.cell {M:Nat→Prop} {W W':World} (h:Kv M W W') {a:Addr} {v:Value} (hm:¬ M a.block) (hc:W.cell? a=some v):W'.cell? a=some v:=by
 obtain ⟨cs,t,fr,e⟩:=cell_blk hc;have e2:=h.2 _ _ _ _ hm e;unfold World.cell? at hc ⊢;rw [e] at hc;rw [e2];exact hc
abbrev AtE (w:World):Type:={ p:Value×LExpr // Is w p.1 p.2 }
def Vst (w:World) (gv B:Nat) (W:World):Prop:=(∀ a v,w.cell? a=some v→W.cell? a=some v)∧W.cell? ⟨gv,0,none⟩=some (.func (.func 215) #[] #[.pointer (some ⟨gv,0,none⟩)])∧B≤W.heap.size
theorem Vst.kv {w W W':World} {gv B:Nat} {M:Nat→Prop} (h:Vst w gv B W) (hM:∀ k,M k→w.heap.size≤k) (hg:¬ M gv) (hk:Kv M W W'):Vst w gv B W' :=
 ⟨fun a v hc=>hk.cell (fun hm=>by have:=hM _ hm;have:=cell_lt hc;omega) (h.1 a v hc),hk.cell hg h.2.1,Nat.le_trans h.2.2 hk.1⟩
theorem nodesKs_snoc (a:List LExpr) (x:LExpr):nodesKs (a++[x])=nodesKs a++nodesE x:=by
 induction a with
 | nil=>simp [nodesKs]
 | cons y r ih=>simp only [List.cons_append,nodesKs,ih,List.append_assoc]
theorem nodesKs_take {ks:List LExpr} (k:Nat):nodesKs (ks.take k) <+: nodesKs ks:=by
 induction ks generalizing k with
 | nil=>simp
 | cons y r ih =>
  cases k with
  | zero=>simp [nodesKs]
  | succ k=>rw [List.take_succ_cons,nodesKs,nodesKs];exact (List.prefix_append_right_inj _).2 (ih k)
theorem nodesKs_length (ks:List LExpr):(nodesKs ks).length=sizeKs ks:=by
 induction ks with
 | nil=>rfl
 | cons y r ih=>rw [nodesKs,sizeKs,List.length_append,nodes_length,ih]
theorem visit_step (w:World) (l gv B N:Nat) (M:Nat→Prop) (hM:∀ k,M k→w.heap.size≤k∧k < B) (hgv:¬ M gv) (J Jx:List (AtE w)→World→Prop) (hJ:AbidesFrom B J)
  (hY:∀ (m:Nat) pre x W1,J pre W1→pre.length < N→YieldAt Fence.wide m Tryz.prog l #[x.1.1] W1 fun e W'=>(e=.returned (.bool true)∧J (pre++[x]) W'∧Kv M W1 W')∨(e=.returned (.bool false)∧Jx (pre++[x]) W'))
  (k0:Int) (n0 x0:ByteArray) (ks:List LExpr)
  (ih:∀ y∈ks,∀ (n:Nat) (v:Value) (pre:List (AtE w)) (W1:World),Is w v y→J pre W1→Vst w gv B W1→pre.length+sizeE y≤N →
   CallsIn Fence.wide n Tryz.prog 215 #[v,.func (.yield l) #[] #[],.pointer (some ⟨gv,0,none⟩)] W1 fun e' W2 =>
    (e'=.returned (.bool true)∧∃ zs:List (AtE w),zs.map (·.1.2)=nodesE y∧J (pre++zs) W2∧Kv M W1 W2)∨(e'=.returned (.bool false)∧∃ zs:List (AtE w),zs.map (·.1.2) <+: nodesE y∧Jx (pre++zs) W2))
  (n:Nat) (v:Value) (pre:List (AtE w)) (W1:World) (h:Is w v (LExpr.mk k0 n0 x0 ks)) (hJ1:J pre W1) (hV:Vst w gv B W1) (hlen:pre.length+sizeE (LExpr.mk k0 n0 x0 ks)≤N) :
  CallsIn Fence.wide n Tryz.prog 215 #[v,.func (.yield l) #[] #[],.pointer (some ⟨gv,0,none⟩)] W1 fun e' W2 =>
   (e'=.returned (.bool true)∧∃ zs:List (AtE w),zs.map (·.1.2)=nodesE (LExpr.mk k0 n0 x0 ks)∧J (pre++zs) W2∧Kv M W1 W2)∨(e'=.returned (.bool false)∧∃ zs:List (AtE w),zs.map (·.1.2) <+: nodesE (LExpr.mk k0 n0 x0 ks)∧Jx (pre++zs) W2):=by
 have HI:=zh h;obtain ⟨a,c,rfl,-,-,-,hnc,hcm,hr⟩:=LExpr.inv h;simp only [maxLen] at hcm;have HR:=zh hr;have HIH:=zh ih;have HLEN:=zh hlen;have HM:=zh hM;have HGV:=zh hgv;have HV:=zh hV;have HJA:=zh hJ;have hdd:∀ k:Nat,(Fence.wide.depth.isSome=true→1≤k):=fun k h=>by cases h
 have hal:∀ (W:World) (o:Obj) pre,B≤W.heap.size→J pre W→J pre (W.alloc o):=fun W o pre hB hj=>hJ pre W _ none hj (grown_below zb) (fun r e=>by cases e);have HAL:=zh hal;have hy1:=hY (n - 1) pre ⟨(.agg #[.int .i64 k0,.string n0,.string x0,.slice a ks.length c],LExpr.mk k0 n0 x0 ks),h⟩ (W1.alloc (.cells #[.int .i64 k0,.string n0,.string x0,.slice a ks.length c] 68)) (hal W1 _ pre hV.2.2 hJ1) (by rw [sizeE] at hlen;omega);obtain ⟨fn,tmps,assign,body,hy,hR⟩:=hy1;have bx:(W1.alloc (.cells #[.int .i64 k0,.string n0,.string x0,.slice a ks.length c] 68)).cell? ⟨W1.heap.size,3,none⟩=some (.slice a ks.length c):=by simp
 have HBX:=zh bx;have hKa:Kv M W1 (W1.alloc (.cells #[.int .i64 k0,.string n0,.string x0,.slice a ks.length c] 68)):=Kv.of_below zb;have HKA:=zh hKa;have HMB:Hid (¬ M W1.heap.size):=fun hm=>by have:=(hM _ hm).2;have:=hV.2.2;omega
 clear hr ih hlen hM hgv hV hJ hal bx hKa hJ1 hY;generalize hK:ks.length=K at *;have HK:=zh hK;clear hK;refine callsIn_of_wp Tryz.func215 rfl trivial ?_ rfl;simp only [Tryz.ntmps215,List.size_toArray,List.length_cons,List.length_nil,Nat.reduceAdd,Nat.reduceSub,Array.replicate_succ,Array.replicate_zero,List.push_toArray,List.append_toArray,List.nil_append,List.cons_append];gi_wp2_with ((try refine ⟨hdd _,?_⟩);refine hR.mono ?_;clear hR;rintro e W2 (⟨rfl,hJ2,hk2⟩ | ⟨rfl,hx2⟩);(try have c3:=hk2.cell (a:=⟨W1.heap.size,3,none⟩) HMB.out HBX.out);(try have hsb:=cell_lt c3))
 ·have HKV2:Hid (Kv M W1 W2):=HKA.out.trans hk2;have HJ2:=zh hJ2;clear hk2 hJ2 c3 hsb;gi_loopw [15] (fun kv wr=>∃ (k:Nat) (zs:List (AtE w)),k≤K∧kv=.int .i64 k∧Hid (zs.map (·.1.2)=LExpr.mk k0 n0 x0 ks :: nodesKs (ks.take k))∧Hid (J (pre++zs) wr)∧Hid (Kv M W1 wr)) (fun kv _=>K - (intOf kv).toNat)
  case atStart=>exact ⟨0,[⟨(.agg #[.int .i64 k0,.string n0,.string x0,.slice a K c],LExpr.mk k0 n0 x0 ks),HI.out⟩],by omega,rfl,rfl,HJ2.out,HKV2⟩
  case round =>
   obtain ⟨k,zs,hk,rfl,HZ,HJr,HKr⟩:=hrel;clear HJ2 HKV2;have HVr:=zh (HV.out.kv (fun k h=>(HM.out k h).1) HGV.out HKr.out);by_cases hki:k < K
   ·have hkz:(k:Int) < (K:Int):=by omega
    obtain ⟨y,hy0⟩:=get_lt (xs:=ks) (k:=k) (by rw [HK.out];exact hki);obtain ⟨k1,n1,x1,ks1⟩:=y;obtain ⟨b,off,rfl,hb,a3,c3,y0',y1',y2',y3',i0,s1,s2,l3,m3,r3⟩:=LExpr.at_row HR.out hy0;have y0:=HVr.out.1 _ _ y0';have y1:=HVr.out.1 _ _ y1';have y2:=HVr.out.1 _ _ y2';have y3:=HVr.out.1 _ _ y3';have g1:=HVr.out.2.1;have hsb:=cell_lt y0;have hsg:gv < wr.heap.size:=cell_lt g1;have hmem:LExpr.mk k1 n1 x1 ks1∈ks:=List.mem_of_getElem? hy0;have HS:Hid (nodesKs (ks.take (k+1))=nodesKs (ks.take k)++nodesE (LExpr.mk k1 n1 x1 ks1)):=by show _=_;rw [take_at hy0,nodesKs_snoc]
    have hlen2:(pre++zs).length+sizeE (LExpr.mk k1 n1 x1 ks1)≤N:=by
     have h1:=congrArg List.length HZ.out;rw [List.length_map,List.length_cons,nodesKs_length] at h1;have h2:=HLEN.out;rw [sizeE] at h2;have h3:sizeKs (ks.take (k+1))≤sizeKs ks:=sizeKs_take ks (k+1);have h4:=congrArg List.length HS.out;rw [List.length_append,nodesKs_length,nodesKs_length,nodes_length] at h4;rw [List.length_append];omega
    have hwb:Vst w gv B (wr.alloc (.cells #[.int .i64 k1,.string n1,.string x1,.slice a3 ks1.length c3] 68)):=HVr.out.kv (M:=M) (fun k h=>(HM.out k h).1) HGV.out (Kv.of_below zb);have hih:=HIH.out _ hmem (n - 1) (.agg #[.int .i64 k1,.string n1,.string x1,.slice a3 ks1.length c3]) (pre++zs) (wr.alloc (.cells #[.int .i64 k1,.string n1,.string x1,.slice a3 ks1.length c3] 68)) (LExpr.mk' i0 s1 s2 l3 m3 r3) (HAL.out wr _ _ HVr.out.2.2 HJr.out) hwb hlen2;have HKb:Hid (Kv M W1 (wr.alloc (.cells #[.int .i64 k1,.string n1,.string x1,.slice a3 ks1.length c3] 68))):=HKr.out.trans (Kv.of_below zb);clear hy0 y0' y1' y2' y3' r3 hmem hlen2 hwb;generalize ks1.length=L1 at *;gi_wp2_with (refine ⟨trivial,hdd _,?_⟩;gi_at_call 215;refine hih.mono ?_;clear hih;rintro e W3 (⟨rfl,zs2,hz2,hJ3,hk3⟩ | ⟨rfl,zs2,hz2,hx3⟩))
    ·have HK3:Hid (Kv M W1 W3):=HKb.out.trans hk3;go_roundw
     case rel=>exact ⟨k+1,zs++zs2,by omega,by go_num,by show _=_;rw [List.map_append,HZ.out,hz2,HS.out];rfl,by show J _ _;rw [← List.append_assoc];exact hJ3,HK3⟩
     case measure=>exact zm
    ·go_ret;refine .inr ⟨rfl,zs++zs2,?_,by rw [← List.append_assoc];exact hx3⟩;rw [List.map_append,HZ.out,nodesE,List.cons_append];refine List.cons_prefix_cons.2 ⟨rfl,?_⟩;refine ((List.prefix_append_right_inj _).2 hz2).trans ?_;rw [← HS.out];exact nodesKs_take (k+1)
   ·have hkz:¬ (k:Int) < (K:Int):=by omega
    gi_wp2
    go_ret;refine .inl ⟨rfl,zs,?_,HJr.out,HKr.out⟩;rw [HZ.out,List.take_of_length_le (by rw [HK.out];omega),nodesE]
 ·go_ret;exact .inr ⟨rfl,[⟨(.agg #[.int .i64 k0,.string n0,.string x0,.slice a K c],LExpr.mk k0 n0 x0 ks),HI.out⟩],by rw [nodesE];exact List.cons_prefix_cons.2 ⟨rfl,List.nil_prefix⟩,hx2⟩
theorem visit_in (w:World) (l gv B N:Nat) (M:Nat→Prop) (hM:∀ k,M k→w.heap.size≤k∧k < B) (hgv:¬ M gv) (J Jx:List (AtE w)→World→Prop) (hJ:AbidesFrom B J)
  (hY:∀ (m:Nat) pre x W1,J pre W1→pre.length < N→YieldAt Fence.wide m Tryz.prog l #[x.1.1] W1 fun e W'=>(e=.returned (.bool true)∧J (pre++[x]) W'∧Kv M W1 W')∨(e=.returned (.bool false)∧Jx (pre++[x]) W')) (y:LExpr) :
  ∀ (n:Nat) (v:Value) (pre:List (AtE w)) (W1:World),Is w v y→J pre W1→Vst w gv B W1→pre.length+sizeE y≤N →
   CallsIn Fence.wide n Tryz.prog 215 #[v,.func (.yield l) #[] #[],.pointer (some ⟨gv,0,none⟩)] W1 fun e' W2 =>
    (e'=.returned (.bool true)∧∃ zs:List (AtE w),zs.map (·.1.2)=nodesE y∧J (pre++zs) W2∧Kv M W1 W2)∨(e'=.returned (.bool false)∧∃ zs:List (AtE w),zs.map (·.1.2) <+: nodesE y∧Jx (pre++zs) W2):=by
 refine LExpr.ind (P:=fun y=>∀ (n:Nat) (v:Value) (pre:List (AtE w)) (W1:World),Is w v y→J pre W1→Vst w gv B W1→pre.length+sizeE y≤N →
   CallsIn Fence.wide n Tryz.prog 215 #[v,.func (.yield l) #[] #[],.pointer (some ⟨gv,0,none⟩)] W1 fun e' W2 =>
    (e'=.returned (.bool true)∧∃ zs:List (AtE w),zs.map (·.1.2)=nodesE y∧J (pre++zs) W2∧Kv M W1 W2)∨(e'=.returned (.bool false)∧∃ zs:List (AtE w),zs.map (·.1.2) <+: nodesE y∧Jx (pre++zs) W2)) (fun k n x ks ih=>?_) y
 exact visit_step w l gv B N M hM hgv J Jx hJ hY k n x ks ih
theorem nodes_stops (w W0:World) (gv ge:Nat) (M:Nat→Prop) (hM:∀ k,M k→w.heap.size≤k∧k < W0.heap.size) (hgv:¬ M gv) (v:Value) (y:LExpr) (h:Is w v y) (hb:Below w.heap.size w W0)
  (hcv:W0.cell? ⟨gv,0,none⟩=some (.func (.func 215) #[] #[.pointer (some ⟨gv,0,none⟩)])) (hce:∀ j u,v.cells[j]?=some u→W0.cell? ⟨ge,j,none⟩=some u) :
  SeqStopsK Fence.wide (3 - 1) Tryz.prog 216 #[.pointer (some ⟨gv,0,none⟩),.pointer (some ⟨ge,0,none⟩)] (fun x:AtE w=>#[x.1.1]) (Kv M) (fun zs=>zs.map (·.1.2)=nodesE y) (fun pre=>pre.map (·.1.2) <+: nodesE y) (sizeE y) W0:=by
 intro l J Jx W hW hJ _ hY h0;have hV:Vst w gv W0.heap.size W:=⟨fun a u hc=>by rw [hW.cell (Nat.lt_of_lt_of_le (cell_lt hc) hb.size)];exact kept hb hc,by rw [hW.cell (cell_lt hcv)];exact hcv,hW.size⟩
 have hv:=visit_in w l gv W.heap.size (sizeE y) M (fun k hk=>⟨(hM k hk).1,Nat.lt_of_lt_of_le (hM k hk).2 hW.size⟩) hgv J Jx hJ (fun m pre x W1 hj hl=>YieldAt_any m (hY pre x W1 hj hl)) y (2 - 1) v [] W h h0 ⟨hV.1,hV.2.1,Nat.le_refl _⟩ (by simp);obtain ⟨k0,n0,x0,ks⟩:=y;obtain ⟨a,c,rfl,-⟩:=LExpr.inv h;have e0:W.cell? ⟨ge,0,none⟩=some (.int .i64 k0):=(hW.cell (p:=⟨ge,0,none⟩) (cell_lt (hce 0 _ rfl))).trans (hce 0 _ rfl);have e1:W.cell? ⟨ge,1,none⟩=some (.string n0):=(hW.cell (p:=⟨ge,1,none⟩) (cell_lt (hce 1 _ rfl))).trans (hce 1 _ rfl);have e2:W.cell? ⟨ge,2,none⟩=some (.string x0):=(hW.cell (p:=⟨ge,2,none⟩) (cell_lt (hce 2 _ rfl))).trans (hce 2 _ rfl);have e3:W.cell? ⟨ge,3,none⟩=some (.slice a ks.length c):=(hW.cell (p:=⟨ge,3,none⟩) (cell_lt (hce 3 _ rfl))).trans (hce 3 _ rfl);have ev:=hV.2.1;have hse:=cell_lt e0;have hsv:=cell_lt ev;clear hce hcv hY h0 h hV hW hb hM hgv;generalize ks.length=K at *;refine callsIn_of_wp Tryz.func216 rfl trivial ?_ rfl;simp only [Tryz.ntmps216,List.size_toArray,List.length_cons,List.length_nil,Nat.reduceAdd,Nat.reduceSub,Array.replicate_succ,Array.replicate_zero,List.push_toArray,List.append_toArray,List.nil_append,List.cons_append];gi_wp2_with (refine ⟨trivial,?_⟩;gi_at_call 215;refine hv.mono ?_;clear hv;rintro e W1 (⟨rfl,zs,hz,hJ1,_⟩ | ⟨rfl,zs,hz,hx⟩))
 ·go_end0
  exact ⟨⟨_,rfl⟩,.inl ⟨zs,hz,by simpa using hJ1⟩⟩
 ·go_end0
  exact ⟨⟨_,rfl⟩,.inr ⟨zs,hz,by simpa using hx⟩⟩
theorem nodes_p (w:World) (k0:Int) (n0 x0:ByteArray) (a:Option Addr) (n c:Nat) :
  Calls Tryz.prog 165 #[.agg #[.int .i64 k0,.string n0,.string x0,.slice a n c]] w fun e w'=>e=.returned (.func (.func 216) #[] #[.pointer (some ⟨w.heap.size+1,0,none⟩),.pointer (some ⟨w.heap.size,0,none⟩)]) ∧
   Hid (Below w.heap.size w w'∧w'.heap.size=w.heap.size+2∧w'.cell? ⟨w.heap.size+1,0,none⟩=some (.func (.func 215) #[] #[.pointer (some ⟨w.heap.size+1,0,none⟩)])∧∀ j u,(Value.agg #[.int .i64 k0,.string n0,.string x0,.slice a n c]).cells[j]?=some u→w'.cell? ⟨w.heap.size,j,none⟩=some u):=by
 go_enter Tryz.func165,Tryz.ntmps165;go_wp2;go_ret;have b0:((w.alloc (.cells #[.int .i64 k0,.string n0,.string x0,.slice a n c] 68)).alloc (.cells #[(.func (.func 215) #[] #[.pointer (some ⟨w.heap.size+1,0,none⟩)])] 242)).heap[w.heap.size]?=some (.cells #[.int .i64 k0,.string n0,.string x0,.slice a n c] 68 (0,0)) :=
  (Below.heap_alloc _ _ _ (by simp)).trans (World.alloc_heap_new w _)
 have b1:=Boxed.new (w.alloc (.cells #[.int .i64 k0,.string n0,.string x0,.slice a n c] 68)) 242 (.func (.func 215) #[] #[.pointer (some ⟨w.heap.size+1,0,none⟩)]);simp only [World.size_alloc] at b1;refine ⟨by simp,bw,by simp,b1.cell,fun j u hj=>?_⟩;simp only [World.cell?,b0];simpa [Value.cells] using hj
end Go.Proofs.YtcbopdbbcgdkcaaGreatDoor
namespace Go.Proofs.YtcbopdbbcgdkcaaGreatDoor
open Go Go.RowKit Go.ChangeShapes Go.Lib Go.Shelf
attribute [local go_sem] Oper.semAt_some

theorem Kv.setCell {M:Nat→Prop} (W:World) {a:Addr} (u:Value) (hm:M a.block):Kv M W (W.setCell a u) :=
 ⟨by simp [World.setCell],fun k cs t fr hk hc=>by rw [blk_set_other _ _ _ _ (fun e=>hk (by rw [e];exact hm))];exact hc⟩
theorem Size_in (w:World) (v:Value) (y:LExpr) (h:Is w v y) (hsz:sizeE y≤1000000) :
  CallsIn Fence.wide 3 Tryz.prog 212 #[v] w fun e w'=>e=.returned (.int .i64 (sizeE y))∧Below w.heap.size w w':=by
 have HI:=zh h;have HL:=zh (nodes_length y);have hst:=nodes_stops w;obtain ⟨k0,n0,x0,ks⟩:=y;obtain ⟨a,c,rfl,-⟩:=LExpr.inv h;clear h;generalize LExpr.mk k0 n0 x0 ks=Y at *;generalize ks.length=K at *;refine callsIn_of_wp_marks Tryz.func212 rfl trivial ?_ rfl;simp only [Tryz.ntmps212,List.size_toArray,List.length_cons,List.length_nil,Nat.reduceAdd,Nat.reduceSub,Array.replicate_succ,Array.replicate_zero,List.push_toArray,List.append_toArray,List.nil_append,List.cons_append];have hb1:Below w.heap.size w ((w.alloc (.cells #[.int .i64 k0,.string n0,.string x0,.slice a K c] 68)).alloc (.cells #[.int .i64 0] 3)):=bw;have bn:=Boxed.new (w.alloc (.cells #[.int .i64 k0,.string n0,.string x0,.slice a K c] 68)) 3 (.int .i64 0);simp only [World.size_alloc] at bn;have hz1:((w.alloc (.cells #[.int .i64 k0,.string n0,.string x0,.slice a K c] 68)).alloc (.cells #[.int .i64 0] 3)).heap.size=w.heap.size+1+1:=by simp
 have BN:=zh bn;have HB1:=zh hb1;have HZ1:=zh hz1;clear bn hb1 hz1;gi_wp2_with (refine ⟨trivial,?_⟩;gi_at_call 165;refine (callsIn_wide.2 (nodes_p _ k0 n0 x0 a K c)).mono ?_;rintro e W0 ⟨rfl,HN⟩)
 rw [HZ1.out] at HN;obtain ⟨hb2,hz2,hcv,hce⟩:=HN.out;have hB0:Below w.heap.size w W0:=HB1.out.trans (hb2.mono (by have:=HZ1.out;omega));have bN:Boxed W0 (w.heap.size+1) 3 (.int .i64 0):=(hb2.block _ (by omega)).trans BN.out
 refine wpIn_rangeFunc_ownG rfl (by decide) (gf:=216) (lb:=#[.pointer (some ⟨w.heap.size+1+1+1,0,none⟩),.pointer (some ⟨w.heap.size+1+1,0,none⟩)]) rfl trivial (enters_of Tryz.func216 (by kernel_rfl) rfl)
  (hst W0 (w.heap.size+1+1+1) (w.heap.size+1+1) (fun k=>k=w.heap.size+1) (fun k hk=>⟨by omega,by omega⟩) (by omega) _ Y HI.out hB0 hcv hce) Kv.trans Kv.b (Below.refl _ _) (fun _=>rfl)
  (fun pre W=>Boxed W (w.heap.size+1) 3 (.int .i64 (pre.length:Nat))∧Below w.heap.size w W)
  (fun _ _ _=>False)
  (OwnFrom.and (Own.from (boxed_own _ _ _) _) (ownFrom_below (Nat.le_refl _) (by omega)))
  (fun _ _ _ _ _ hs _ _=>hs)
  ⟨bN,hB0⟩
  (fun x=>{ tmps:=#[.agg #[.int .i64 k0,.string n0,.string x0,.slice a K c],.pointer (some ⟨w.heap.size,0,none⟩),.int .i64 0,.pointer (some ⟨w.heap.size+1,0,none⟩),.agg #[.int .i64 k0,.string n0,.string x0,.slice a K c],.func (.func 216) #[] #[.pointer (some ⟨w.heap.size+1+1+1,0,none⟩),.pointer (some ⟨w.heap.size+1+1,0,none⟩)],x.1.1,undef,undef,undef],defers:=[] }) ?assign ?body ?done ?stop
 case assign =>
  intro l x W K hK;gi_wp2
  simp;exact hK
 case body =>
  rintro l pre x W ⟨b1,hB⟩ hlt;have c1:=b1.cell;have f1:=b1.frozen;have hs1:=b1.lt;have hbd:(pre.length:Int)≤1000000:=by omega
  have HBB:=zh hB;have BB1:=zh b1;clear hst hB b1 hcv hce hb2 hB0 bN;gi_wp2
  refine ⟨(KeepsOthers.setCell _ _ _).from _,Kv.setCell _ _ rfl,?_,HBB.out.setCell (p:=⟨w.heap.size+1,0,none⟩) (by simp) _⟩;have:=BB1.out.set (.int .i64 ((pre.length:Int)+1));simpa using this
 case done =>
  rintro D zs W hD hzs ⟨b1,hB⟩ hK;have c1:=b1.cell;have hs1:=b1.lt;have hlen:zs.length=sizeE Y:=by have:=congrArg List.length hzs;rw [List.length_map,HL.out] at this;exact this
  have HLEN:=zh hlen;clear hst hcv hce hzs hlen;gi_wp2
  refine ⟨by simp,.inl ⟨_,_,rfl,run_takeDeferred hK,?_⟩⟩;exact ⟨_,results_tmp rfl _ _ _,(by show Ending.returned (.int .i64 (zs.length:Int))=_;rw [HLEN.out]),hB.trans (belowK_b (w:=w) (Nat.le_refl _) W D _ _ (by omega) hK rfl rfl)⟩
 case stop =>
  rintro D c pre W _ _ h _;exact h.elim
theorem Size_p (w:World) (v:Value) (y:LExpr) (h:Is w v y) (hsz:sizeE y≤1000000) :
  Calls Tryz.prog 212 #[v] w fun e w'=>e=.returned (.int .i64 (sizeE y))∧Below w.heap.size w w':=callsIn_wide.1 (Size_in w v y h hsz)
end Go.Proofs.YtcbopdbbcgdkcaaGreatDoor
namespace Go.Proofs.YtcbopdbbcgdkcaaGreatDoor
open Go Go.RowKit Go.ChangeShapes Go.Lib Go.Shelf
attribute [local go_sem] Oper.semAt_some

theorem zrlexu1 {p:Prop} (h:p:=by
 have q2:(nodeErr z == 0)=false:=by simpa using q
 simp only [List.cons_append,nodesErr,q2,Bool.false_eq_true,if_false]):p:=h
theorem nodesErr_snoc (l:List LExpr) (y:LExpr):nodesErr (l++[y])=if nodesErr l == 0 then nodeErr y else nodesErr l:=by
 induction l with
 | nil =>
  by_cases q:nodeErr y=0 <;> simp [nodesErr,q]
 | cons z r ih =>
  by_cases q:nodeErr z=0
  ·simp only [List.cons_append,nodesErr,q,beq_self_eq_true,if_true,ih]
  ·exact zrlexu1
theorem nodesErr_prefix {l m:List LExpr} (h:l <+: m) (hn:nodesErr l≠0):nodesErr m=nodesErr l:=by
 obtain ⟨r,rfl⟩:=h;induction l with
 | nil=>exact absurd rfl hn
 | cons z t ih =>
  by_cases q:nodeErr z=0
  ·simp only [List.cons_append,nodesErr,q,beq_self_eq_true,if_true] at hn ⊢;exact ih hn
  ·exact zrlexu1
theorem objcell2 {w:World} {g j:Nat} {cs:Array Value} {e:TypeId} {fr:Nat×Nat} {v:Value} (h:w.heap[g]?=some (.cells cs e fr)) (hv:cs[j]?=some v):w.cell? ⟨g,j,none⟩=some v:=by
 simp [World.cell?,h,hv]
def NodeBox (w W:World) (x:AtE w) (Bx:Nat):Prop:=∃ (k1:Int) (n1 x1:ByteArray) (a3:Option Addr) (L c3:Nat),x.1.1=.agg #[.int .i64 k1,.string n1,.string x1,.slice a3 L c3]∧W.heap[Bx]?=some (.cells #[.int .i64 k1,.string n1,.string x1,.slice a3 L c3] 68 (0,0))
theorem NodeBox.own {w:World} {x:AtE w} {Bx:Nat} {W W':World} {row:Option Nat} (h:NodeBox w W x Bx) (hg:W.grownBy W' row) (hr:∀ r,row=some r→∃ o:Obj,W.heap[r]?=some o∧o.isCells=false):NodeBox w W' x Bx:=by
 obtain ⟨k1,n1,x1,a3,L,c3,e,hc⟩:=h;refine ⟨k1,n1,x1,a3,L,c3,e,(hg.block Bx (heap_lt hc) fun e2=>?_).trans hc⟩;obtain ⟨o,ho,hn⟩:=hr Bx e2.symm;rw [hc] at ho;cases ho;cases hn
theorem CheckForm_in (w:World) (v:Value) (y:LExpr) (h:Is w v y) (hsz:sizeE y≤1000000) :
  CallsIn Fence.wide 3 Tryz.prog 164 #[v] w fun e w'=>e=.returned (.int .i64 (formE y))∧Below w.heap.size w w':=by
 have HI:=zh h;have hS:=fun W v h=>Size_p W v y h hsz;have hD:=fun W v h=>Depth_p y hsz W v h;have HF:Hid (formE y=if decide ((64:Int) < sizeE y) then 10 else if decide ((24:Int) < depthE y) then 11 else nodesErr (nodesE y)):=rfl;have hst:=nodes_stops w;obtain ⟨k0,n0,x0,ks⟩:=y;obtain ⟨a,c,rfl,-⟩:=LExpr.inv h;clear h hsz;generalize LExpr.mk k0 n0 x0 ks=Y at *;generalize formE Y=FE at *;generalize ks.length=K at *;have hdl:sizeE Y < 9223372036854775808∨True:=.inr trivial;clear hdl;refine callsIn_of_wp_marks Tryz.func164 rfl trivial ?_ rfl;simp only [Tryz.ntmps164,List.size_toArray,List.length_cons,List.length_nil,Nat.reduceAdd,Nat.reduceSub,Array.replicate_succ,Array.replicate_zero,List.push_toArray,List.append_toArray,List.nil_append,List.cons_append];have hb1:Below w.heap.size w ((w.alloc (.cells #[.int .i64 k0,.string n0,.string x0,.slice a K c] 68)).alloc (.cells #[.int .i64 0] 32)):=bw;have bn:=Boxed.new (w.alloc (.cells #[.int .i64 k0,.string n0,.string x0,.slice a K c] 68)) 32 (.int .i64 0);simp only [World.size_alloc] at bn;have be:((w.alloc (.cells #[.int .i64 k0,.string n0,.string x0,.slice a K c] 68)).alloc (.cells #[.int .i64 0] 32)).heap[w.heap.size]?=some (.cells #[.int .i64 k0,.string n0,.string x0,.slice a K c] 68 (0,0)) :=
  (Below.heap_alloc _ _ _ (by simp)).trans (World.alloc_heap_new w _)
 have hz1:((w.alloc (.cells #[.int .i64 k0,.string n0,.string x0,.slice a K c] 68)).alloc (.cells #[.int .i64 0] 32)).heap.size=w.heap.size+1+1:=by simp
 have BN:=zh bn;have BE:=zh be;have HB1:=zh hb1;have HZ1:=zh hz1;clear bn hb1 hz1 be;have hS1:=hS _ _ (HI.out.mono HB1.out);have HD:=zh hD;have HST:=zh hst;clear hS hD hst;cases q1:decide ((64:Int) < sizeE Y);case true =>
  have HT:Hid (FE=10):=by show _=_;rw [HF.out,q1];rfl
  have hq:(64:Int) < sizeE Y:=of_decide_eq_true q1;gi_wp2_with (refine ⟨trivial,?_⟩;gi_at_call 212;refine (callsIn_wide.2 hS1).mono ?_;rintro e W1 ⟨rfl,hb2⟩;have c1:=kept hb2 BN.out.cell;have f1:=keptF hb2 BN.out.cell BN.out.frozen;have hs1:=cell_lt c1)
  have e2:=World.cell?_setCell_same' W1 ⟨w.heap.size+1,0,none⟩ (.int .i64 10) (by rw [c1];rfl);have HB2:Below w.heap.size w W1:=HB1.out.trans (hb2.mono (by have:=HZ1.out;omega));exact ⟨.int .i64 10,by simp [results,Tryz.f164,go_sem,e2],by rw [HT.out],HB2.setCell (p:=⟨w.heap.size+1,0,none⟩) (by simp) _⟩
 case false =>
  have hq:¬ (64:Int) < sizeE Y:=of_decide_eq_false q1;have HQ1:=zh q1;gi_wp2_with (refine ⟨trivial,?_⟩;gi_at_call 212;refine (callsIn_wide.2 hS1).mono ?_;rintro e W1 ⟨rfl,hb2⟩;have c1:=kept hb2 BN.out.cell;have f1:=keptF hb2 BN.out.cell BN.out.frozen;have hs1:=cell_lt c1;have g0:=kept hb2 (objcell2 BE.out (j:=0) rfl);have g1:=kept hb2 (objcell2 BE.out (j:=1) rfl);have g2:=kept hb2 (objcell2 BE.out (j:=2) rfl);have g3:=kept hb2 (objcell2 BE.out (j:=3) rfl);have hs0:=cell_lt g0)
  have HB2:Hid (Below w.heap.size w W1):=HB1.out.trans (hb2.mono (by have:=HZ1.out;omega));have bN1:Hid (Boxed W1 (w.heap.size+1) 32 (.int .i64 0)):=(hb2.block _ (heap_lt BN.out)).trans BN.out;have bE1:Hid (W1.heap[w.heap.size]?=some (.cells #[.int .i64 k0,.string n0,.string x0,.slice a K c] 68 (0,0))):=(hb2.block _ (heap_lt BE.out)).trans BE.out;have hD1:=HD.out _ _ (HI.out.mono HB2.out);clear c1 f1 g0 g1 g2 g3 hs0 hs1 hS1 hb2;cases q2:decide ((24:Int) < depthE Y);case true =>
   have HT:Hid (FE=11):=by show _=_;rw [HF.out,q1,q2];rfl
   have hq2:(24:Int) < depthE Y:=of_decide_eq_true q2;gi_wp2_with (refine ⟨trivial,?_⟩;gi_at_call 213;refine (callsIn_wide.2 hD1).mono ?_;rintro e W2 ⟨rfl,hb2⟩;have c1:=kept hb2 bN1.out.cell;have f1:=keptF hb2 bN1.out.cell bN1.out.frozen;have hs1:=cell_lt c1)
   have e2:=World.cell?_setCell_same' W2 ⟨w.heap.size+1,0,none⟩ (.int .i64 11) (by rw [c1];rfl);have HB3:Below w.heap.size w W2:=HB2.out.trans (hb2.mono HB2.out.size);exact ⟨.int .i64 11,by simp [results,Tryz.f164,go_sem,e2],by rw [HT.out],HB3.setCell (p:=⟨w.heap.size+1,0,none⟩) (by simp) _⟩
  case false =>
   have hq2:¬ (24:Int) < depthE Y:=of_decide_eq_false q2;have HT:Hid (FE=nodesErr (nodesE Y)):=by show _=_;rw [HF.out,q1,q2];rfl
   gi_wp2_with (first
    | (refine ⟨trivial,?_⟩;gi_at_call 213;refine (callsIn_wide.2 hD1).mono ?_;clear hD1;rintro e W2 ⟨rfl,hb2⟩;have g0:=kept hb2 (objcell2 bE1.out (j:=0) rfl);have g1:=kept hb2 (objcell2 bE1.out (j:=1) rfl);have g2:=kept hb2 (objcell2 bE1.out (j:=2) rfl);have g3:=kept hb2 (objcell2 bE1.out (j:=3) rfl);have hs0:=cell_lt g0)
    | (refine ⟨trivial,?_⟩;gi_at_call 165;refine (callsIn_wide.2 (nodes_p _ k0 n0 x0 a K c)).mono ?_;rintro e W0 ⟨rfl,HN⟩))
   have HB3:Below w.heap.size w W2:=HB2.out.trans (hb2.mono HB2.out.size);have bN2:Boxed W2 (w.heap.size+1) 32 (.int .i64 0):=(hb2.block _ (heap_lt bN1.out)).trans bN1.out;obtain ⟨hb4,hz4,hcv,hce⟩:=HN.out;have hs2:w.heap.size+1 < W2.heap.size:=bN2.lt;have hB0:Below w.heap.size w W0:=HB3.trans (hb4.mono HB3.size);have bN:Boxed W0 (w.heap.size+1) 32 (.int .i64 0):=(hb4.block _ hs2).trans bN2;clear g0 g1 g2 g3 hb2 bN2
   refine wpIn_rangeFunc_ownH rfl (by decide) (gf:=216) (lb:=#[.pointer (some ⟨W2.heap.size+1,0,none⟩),.pointer (some ⟨W2.heap.size,0,none⟩)]) rfl trivial (enters_of Tryz.func216 (by kernel_rfl) rfl)
    (HST.out W0 (W2.heap.size+1) W2.heap.size (fun _=>False) (fun k hk=>hk.elim) (fun h=>h) _ Y HI.out hB0 hcv hce) Kv.trans Kv.b (Below.refl _ _) (fun _=>rfl)
    (fun pre W=>(Boxed W (w.heap.size+1) 32 (.int .i64 0)∧nodesErr (pre.map (·.1.2))=0)∧Below w.heap.size w W)
    (fun cd pre W=>(cd=.ret∧∃ r:Int,r≠0∧nodesErr (pre.map (·.1.2))=r∧Boxed W (w.heap.size+1) 32 (.int .i64 r))∧Below w.heap.size w W)
    (OwnFrom.and (OwnFrom.and (Own.from (boxed_own _ _ _) _) (ownFrom_pure _ _)) (ownFrom_below (Nat.le_refl _) (by omega)))
    (fun cd=>OwnFrom.and (Own.from (fun st A B row hs hg hr=>by
     obtain ⟨e1,r,e2,e3,e4⟩:=hs;exact ⟨e1,r,e2,e3,boxed_own (w.heap.size+1) 32 (fun (_:Unit)=>Value.int .i64 r) () A B row e4 hg hr⟩) _) (ownFrom_below (Nat.le_refl _) (by omega)))
    ⟨⟨bN,rfl⟩,hB0⟩
    (fun x a' W=>∃ Bx,w.heap.size+1 < Bx∧NodeBox w W x Bx∧a'={ tmps:=#[.agg #[.int .i64 k0,.string n0,.string x0,.slice a K c],.pointer (some ⟨w.heap.size,0,none⟩),.pointer (some ⟨w.heap.size+1,0,none⟩),.pointer (some ⟨Bx,0,none⟩),undef,.agg #[.int .i64 k0,.string n0,.string x0,.slice a K c],.int .i64 (sizeE Y),.bool false,.agg #[.int .i64 k0,.string n0,.string x0,.slice a K c],.int .i64 (depthE Y),.bool false,.agg #[.int .i64 k0,.string n0,.string x0,.slice a K c],.func (.func 216) #[] #[.pointer (some ⟨W2.heap.size+1,0,none⟩),.pointer (some ⟨W2.heap.size,0,none⟩)],x.1.1,undef,undef,undef,undef,undef],defers:=[] })
    (fun x a' _ X Y2 row hs hg hr=>by obtain ⟨Bx,h1,h2,h3⟩:=hs;exact ⟨Bx,h1,h2.own hg (fun r e=>(hr r e).2),h3⟩)
    ?assign ?body ?done ?stop
   case assign =>
    rintro l pre ⟨⟨xv,y1⟩,hx⟩ W Kk ⟨⟨b1,hp⟩,hB⟩ hK;obtain ⟨k1,n1,x1,ks1⟩:=y1;obtain ⟨a3,c3,rfl,-⟩:=LExpr.inv hx;gi_wp2
    exact hK _ _ ((KeepsOthers.alloc _ _).from _) (Kv.of_below zb) ⟨⟨b1.alloc _,hp⟩,hB.alloc hB.size _⟩ ⟨W.heap.size,b1.lt,⟨k1,n1,x1,a3,_,c3,rfl,World.alloc_heap_new W _⟩,rfl⟩
   case body =>
    rintro l pre x a' W hl hrec ⟨⟨b1,hp⟩,hB⟩ ⟨Bx,hBx,⟨k1,n1,x1,a3,L,c3,he,hbx⟩,rfl⟩ hlt;obtain ⟨⟨xv,y1⟩,hx⟩:=x;obtain ⟨k2,n2,x2,ks2⟩:=y1;simp only at he;subst he;have hcall:=checkNode_p W _ k2 n2 x2 ks2 (hx.mono hB);have HS:Hid (nodesErr ((pre++[(⟨(_,LExpr.mk k2 n2 x2 ks2),hx⟩:AtE w)]).map (·.1.2))=nodeErr (LExpr.mk k2 n2 x2 ks2)):=by
     show _=_;rw [List.map_append,List.map_cons,List.map_nil,nodesErr_snoc,hp];rfl
    have HB:=zh hB;have B1:=zh b1;have g0:=objcell2 hbx (j:=0) rfl;have g1:=objcell2 hbx (j:=1) rfl;have g2:=objcell2 hbx (j:=2) rfl;have g3:=objcell2 hbx (j:=3) rfl;have hsx:=cell_lt g0;clear hbx hB b1 hp hrec;generalize nodeErr (LExpr.mk k2 n2 x2 ks2)=r at *;by_cases q:r=0
    ·subst q;gi_wp2_with (refine ⟨trivial,?_⟩;gi_at_call 214;refine (CallsIn.inRound l (callsIn_wide.2 hcall)).mono ?_;clear hcall;rintro e W3 ⟨rfl,hb3⟩)
     exact ⟨keeps_below hb3,Kv.of_below hb3,⟨(hb3.block _ B1.out.lt).trans B1.out,HS.out⟩,HB.out.trans (hb3.mono HB.out.size)⟩
    ·have qa:(r == 0)=false:=by simpa using q
     have qb:(r != 0)=true:=by simpa using q
     have HQ:=zh q;clear q;gi_wp2_with (refine ⟨trivial,?_⟩;gi_at_call 214;refine (CallsIn.inRound l (callsIn_wide.2 hcall)).mono ?_;clear hcall;rintro e W3 ⟨rfl,hb3⟩;have c1:=kept hb3 B1.out.cell;have f1:=keptF hb3 B1.out.cell B1.out.frozen;have hs1:=cell_lt c1)
     have b3:Boxed W3 (w.heap.size+1) 32 (.int .i64 0):=(hb3.block _ B1.out.lt).trans B1.out;exact ⟨(keeps_below hb3).trans ((KeepsOthers.setCell _ _ _).from _),⟨rfl,r,HQ.out,HS.out,b3.set _⟩,(HB.out.trans (hb3.mono HB.out.size)).setCell (p:=⟨w.heap.size+1,0,none⟩) (by simp) _⟩
   case done =>
    rintro D zs W hD hzs ⟨⟨b1,hp⟩,hB⟩ hK;have HO:Hid (FE=0):=by show _=_;rw [HT.out,← hzs,hp]
    have c1:=b1.cell;have f1:=b1.frozen;have hs1:=cell_lt c1;have HB:=zh hB;clear hB hp hzs;gi_wp2
    have hK1:=(KeepsOthers.setCell W ⟨w.heap.size+1,0,none⟩ (.int .i64 0)).same D _ hK rfl;refine ⟨by simp,.inl ⟨_,_,rfl,run_takeDeferred hK1,?_⟩⟩;have e5:=cell_kept (b1.set (.int .i64 0)).cell (grownBy_putObj' _ D (.deferred none)) (fun r e=>by cases e;exact ⟨_,hK1,rfl⟩);refine ⟨.int .i64 0,?_,by rw [HO.out],?_⟩
    ·simp [results,Tryz.f164,go_sem,e5]
    ·exact (HB.out.setCell (p:=⟨w.heap.size+1,0,none⟩) (by simp) _).trans (belowK_b (w:=w) (Nat.le_refl _) _ D _ _ (by omega) hK1 rfl rfl)
   case stop =>
    rintro D cd pre W hD hpre ⟨⟨rfl,r,hr0,hr1,b1⟩,hB⟩ hK;have HO:Hid (FE=r):=by show _=_;rw [HT.out,nodesErr_prefix hpre (by rw [hr1];exact hr0),hr1]
    have HB:=zh hB;clear hB hr0 hr1 hpre;gi_wp2
    refine ⟨by simp,.inl ⟨_,_,rfl,run_takeDeferred hK,?_⟩⟩;have e5:=cell_kept b1.cell (grownBy_putObj' _ D (.deferred none)) (fun r e=>by cases e;exact ⟨_,hK,rfl⟩);refine ⟨.int .i64 r,?_,by rw [HO.out],?_⟩
    ·simp [results,Tryz.f164,go_sem,e5]
    ·exact HB.out.trans (belowK_b (w:=w) (Nat.le_refl _) _ D _ _ (by omega) hK rfl rfl)
theorem CheckForm_p (w:World) (v:Value) (y:LExpr) (h:Is w v y) (hsz:sizeE y≤1000000) :
  Calls Tryz.prog 164 #[v] w fun e w'=>e=.returned (.int .i64 (formE y))∧Below w.heap.size w w':=callsIn_wide.1 (CheckForm_in w v y h hsz)
end Go.Proofs.YtcbopdbbcgdkcaaGreatDoor
namespace Go.Proofs.YtcbopdbbcgdkcaaGreatDoor
open Go Go.RowKit Go.ChangeShapes Go.Lib Go.Shelf
attribute [local go_sem] Oper.semAt_some

theorem blk_own {β:Type} (B:Nat) (cs:Array Value) (t:TypeId) (fr:Nat×Nat):Own (fun (_:β) W=>W.heap[B]?=some (.cells cs t fr)):=fun s X Y row hs hg hrow =>
 (hg.block B (heap_lt hs) fun e'=>by obtain ⟨o,ho,hc⟩:=hrow B e'.symm;rw [hs] at ho;cases ho;cases hc).trans hs
theorem CheckX_in (w:World) (vc v:Value) (cat:Catalog) (y:LExpr) (hg:Glob w) (hc:Is w vc cat) (h:Is w v y) (hsz:sizeE y≤1000000) :
  CallsIn Fence.wide 3 Tryz.prog 115 #[vc,v] w fun e w'=>e=.returned (.int .i64 (checkE cat y))∧Below w.heap.size w w':=by
 have HI:=zh h;have HC:=zh hc;have HG:=zh hg;have HFM:=zh (fun W v h=>CheckForm_p W v y h hsz);have HF:Hid (checkE cat y=if !(checkC cat == 0) then 1 else if !(formE y == 0) then formE y else if (nodesE y).all (knownN cat) then 0 else 7):=rfl;have HST:=zh (nodes_stops w);obtain ⟨k0,n0,x0,ks⟩:=y;obtain ⟨a,c,rfl,-⟩:=LExpr.inv h;obtain ⟨a0,c0,a1,c1,a2,c2,a3,c3,rfl,-⟩:=Catalog.inv hc;clear h hsz hc hg;generalize LExpr.mk k0 n0 x0 ks=Y at *;generalize checkE cat Y=FE at *;generalize ks.length=K at *;generalize cat.licenses.length=N0 at *;generalize cat.exceptions.length=N1 at *;generalize cat.clauses.length=N2 at *;generalize cat.apart.length=N3 at *;obtain ⟨cc,hcc⟩:∃ cc,cc=checkC cat:=⟨_,rfl⟩
 obtain ⟨ff,hff⟩:∃ ff,ff=formE Y:=⟨_,rfl⟩
 have HCC:=zh hcc;have HFF:=zh hff;clear hcc hff;refine callsIn_of_wp_marks Tryz.func115 rfl trivial ?_ rfl;simp only [Tryz.ntmps115,List.size_toArray,List.length_cons,List.length_nil,Nat.reduceAdd,Nat.reduceSub,Array.replicate_succ,Array.replicate_zero,List.push_toArray,List.append_toArray,List.nil_append,List.cons_append];have hb1:Below w.heap.size w (((w.alloc (.cells #[.slice a0 N0 c0,.slice a1 N1 c1,.slice a2 N2 c2,.slice a3 N3 c3] 27)).alloc (.cells #[.int .i64 k0,.string n0,.string x0,.slice a K c] 68)).alloc (.cells #[.int .i64 0] 32)):=bw;have bn:=Boxed.new ((w.alloc (.cells #[.slice a0 N0 c0,.slice a1 N1 c1,.slice a2 N2 c2,.slice a3 N3 c3] 27)).alloc (.cells #[.int .i64 k0,.string n0,.string x0,.slice a K c] 68)) 32 (.int .i64 0);simp only [World.size_alloc] at bn;have bc:(((w.alloc (.cells #[.slice a0 N0 c0,.slice a1 N1 c1,.slice a2 N2 c2,.slice a3 N3 c3] 27)).alloc (.cells #[.int .i64 k0,.string n0,.string x0,.slice a K c] 68)).alloc (.cells #[.int .i64 0] 32)).heap[w.heap.size]?=some (.cells #[.slice a0 N0 c0,.slice a1 N1 c1,.slice a2 N2 c2,.slice a3 N3 c3] 27 (0,0)) :=
  (Below.heap_alloc _ _ _ (by simp;omega)).trans ((Below.heap_alloc _ _ _ (by simp)).trans (World.alloc_heap_new w _))
 have be:(((w.alloc (.cells #[.slice a0 N0 c0,.slice a1 N1 c1,.slice a2 N2 c2,.slice a3 N3 c3] 27)).alloc (.cells #[.int .i64 k0,.string n0,.string x0,.slice a K c] 68)).alloc (.cells #[.int .i64 0] 32)).heap[w.heap.size+1]?=some (.cells #[.int .i64 k0,.string n0,.string x0,.slice a K c] 68 (0,0)):=by
  have:=World.alloc_heap_new (w.alloc (.cells #[.slice a0 N0 c0,.slice a1 N1 c1,.slice a2 N2 c2,.slice a3 N3 c3] 27)) (.cells #[.int .i64 k0,.string n0,.string x0,.slice a K c] 68);rw [World.size_alloc] at this;exact (Below.heap_alloc _ _ _ (by simp)).trans this
 have hz1:(((w.alloc (.cells #[.slice a0 N0 c0,.slice a1 N1 c1,.slice a2 N2 c2,.slice a3 N3 c3] 27)).alloc (.cells #[.int .i64 k0,.string n0,.string x0,.slice a K c] 68)).alloc (.cells #[.int .i64 0] 32)).heap.size=w.heap.size+1+1+1:=by simp
 have BN:=zh bn;have BC:=zh bc;have BE:=zh be;have HB1:=zh hb1;have HZ1:=zh hz1;clear bn hb1 hz1 be bc;have hC1:=Check_p _ _ cat (HG.out.mono HB1.out) (HC.out.mono HB1.out);rw [← HCC.out] at hC1;by_cases q1:cc=0
 case neg =>
  have HT:Hid (FE=1):=by show _=_;rw [HF.out,← HCC.out];simp [q1]
  have qa:(cc == 0)=false:=by simpa using q1
  have qb:(cc != 0)=true:=by simpa using q1
  clear q1;gi_wp2_with (refine ⟨trivial,?_⟩;gi_at_call 51;refine (callsIn_wide.2 hC1).mono ?_;clear hC1;rintro e W1 ⟨rfl,hb2⟩;have c1:=kept hb2 BN.out.cell;have f1:=keptF hb2 BN.out.cell BN.out.frozen;have hs1:=cell_lt c1)
  have e2:=World.cell?_setCell_same' W1 ⟨w.heap.size+1+1,0,none⟩ (.int .i64 1) (by rw [c1];rfl);have HB2:Below w.heap.size w W1:=HB1.out.trans (hb2.mono (by have:=HZ1.out;omega));exact ⟨.int .i64 1,by simp [results,Tryz.f115,go_sem,e2],by rw [HT.out],HB2.setCell (p:=⟨w.heap.size+1+1,0,none⟩) (by simp;omega) _⟩
 case pos =>
  subst q1;have HF2:Hid (FE=if !(ff == 0) then ff else if (nodesE Y).all (knownN cat) then 0 else 7):=by show _=_;rw [HF.out,← HCC.out,HFF.out];rfl
  clear HF;have hst1:∀ W1,Below (((w.alloc (.cells #[.slice a0 N0 c0,.slice a1 N1 c1,.slice a2 N2 c2,.slice a3 N3 c3] 27)).alloc (.cells #[.int .i64 k0,.string n0,.string x0,.slice a K c] 68)).alloc (.cells #[.int .i64 0] 32)).heap.size (((w.alloc (.cells #[.slice a0 N0 c0,.slice a1 N1 c1,.slice a2 N2 c2,.slice a3 N3 c3] 27)).alloc (.cells #[.int .i64 k0,.string n0,.string x0,.slice a K c] 68)).alloc (.cells #[.int .i64 0] 32)) W1→Hid (Below w.heap.size w W1∧Boxed W1 (w.heap.size+1+1) 32 (.int .i64 0)∧W1.heap[w.heap.size]?=some (.cells #[.slice a0 N0 c0,.slice a1 N1 c1,.slice a2 N2 c2,.slice a3 N3 c3] 27 (0,0))∧W1.heap[w.heap.size+1]?=some (.cells #[.int .i64 k0,.string n0,.string x0,.slice a K c] 68 (0,0))):=fun W1 hb2 =>
   ⟨HB1.out.trans (hb2.mono (by have:=HZ1.out;omega)),(hb2.block _ (heap_lt BN.out)).trans BN.out,(hb2.block _ (heap_lt BC.out)).trans BC.out,(hb2.block _ (heap_lt BE.out)).trans BE.out⟩
  have HST1:=zh hst1;clear hst1;gi_wp2_with (refine ⟨trivial,?_⟩;gi_at_call 51;refine (callsIn_wide.2 hC1).mono ?_;clear hC1;rintro e W1 ⟨rfl,hb2⟩;have S1:=HST1.out W1 hb2;clear HST1 BN BC BE HB1 HZ1 hb2;have g0:=objcell2 S1.out.2.2.2 (j:=0) rfl;have g1:=objcell2 S1.out.2.2.2 (j:=1) rfl;have g2:=objcell2 S1.out.2.2.2 (j:=2) rfl;have g3:=objcell2 S1.out.2.2.2 (j:=3) rfl;have hs0:=cell_lt g0)
  have hF1:=HFM.out W1 _ (HI.out.mono S1.out.1);rw [← HFF.out] at hF1;by_cases q2:ff=0
  case neg =>
   have HT:Hid (FE=ff):=by show _=_;rw [HF2.out];simp [q2]
   have qa:(ff == 0)=false:=by simpa using q2
   have qb:(ff != 0)=true:=by simpa using q2
   clear q2;gi_wp2_with (refine ⟨trivial,?_⟩;gi_at_call 164;refine (callsIn_wide.2 hF1).mono ?_;clear hF1;rintro e W2 ⟨rfl,hb2⟩;have c1:=kept hb2 S1.out.2.1.cell;have f1:=keptF hb2 S1.out.2.1.cell S1.out.2.1.frozen;have hs1:=cell_lt c1)
   have e2:=World.cell?_setCell_same' W2 ⟨w.heap.size+1+1,0,none⟩ (.int .i64 ff) (by rw [c1];rfl);have HB2:Below w.heap.size w W2:=S1.out.1.trans (hb2.mono S1.out.1.size);exact ⟨.int .i64 ff,by simp [results,Tryz.f115,go_sem,e2],by rw [HT.out],HB2.setCell (p:=⟨w.heap.size+1+1,0,none⟩) (by simp;omega) _⟩
  case pos =>
   subst q2;have HT:Hid (FE=if (nodesE Y).all (knownN cat) then 0 else 7):=by show _=_;rw [HF2.out];rfl
   clear HF2
   gi_wp2_with (first
    | (refine ⟨trivial,?_⟩;gi_at_call 164;refine (callsIn_wide.2 hF1).mono ?_;clear hF1;rintro e W2 ⟨rfl,hb2⟩;have g0:=kept hb2 g0;have g1:=kept hb2 g1;have g2:=kept hb2 g2;have g3:=kept hb2 g3;have hs0:=cell_lt g0)
    | (refine ⟨trivial,?_⟩;gi_at_call 165;refine (callsIn_wide.2 (nodes_p _ k0 n0 x0 a K c)).mono ?_;rintro e W0 ⟨rfl,HN⟩))
   have HB3:Below w.heap.size w W2:=S1.out.1.trans (hb2.mono S1.out.1.size);have bN2:Boxed W2 (w.heap.size+1+1) 32 (.int .i64 0):=(hb2.block _ (heap_lt S1.out.2.1)).trans S1.out.2.1;have bC2:W2.heap[w.heap.size]?=some (.cells #[.slice a0 N0 c0,.slice a1 N1 c1,.slice a2 N2 c2,.slice a3 N3 c3] 27 (0,0)):=(hb2.block _ (heap_lt S1.out.2.2.1)).trans S1.out.2.2.1;obtain ⟨hb4,hz4,hcv,hce⟩:=HN.out;have hs2:w.heap.size+1+1 < W2.heap.size:=bN2.lt;have hB0:Below w.heap.size w W0:=HB3.trans (hb4.mono HB3.size);have bN:Boxed W0 (w.heap.size+1+1) 32 (.int .i64 0):=(hb4.block _ hs2).trans bN2;have bC:W0.heap[w.heap.size]?=some (.cells #[.slice a0 N0 c0,.slice a1 N1 c1,.slice a2 N2 c2,.slice a3 N3 c3] 27 (0,0)):=(hb4.block _ (heap_lt bC2)).trans bC2;clear g0 g1 g2 g3 hb2 bN2 bC2
   refine wpIn_rangeFunc_ownH rfl (by decide) (gf:=216) (lb:=#[.pointer (some ⟨W2.heap.size+1,0,none⟩),.pointer (some ⟨W2.heap.size,0,none⟩)]) rfl trivial (enters_of Tryz.func216 (by kernel_rfl) rfl)
    (HST.out W0 (W2.heap.size+1) W2.heap.size (fun _=>False) (fun k hk=>hk.elim) (fun h=>h) _ Y HI.out hB0 hcv hce) Kv.trans Kv.b (Below.refl _ _) (fun _=>rfl)
    (fun pre W=>((Boxed W (w.heap.size+1+1) 32 (.int .i64 0)∧W.heap[w.heap.size]?=some (.cells #[.slice a0 N0 c0,.slice a1 N1 c1,.slice a2 N2 c2,.slice a3 N3 c3] 27 (0,0)))∧(pre.map (·.1.2)).all (knownN cat)=true)∧Below w.heap.size w W)
    (fun cd pre W=>((cd=.ret∧(pre.map (·.1.2)).all (knownN cat)=false)∧Boxed W (w.heap.size+1+1) 32 (.int .i64 7))∧Below w.heap.size w W)
    (OwnFrom.and (OwnFrom.and (OwnFrom.and (Own.from (boxed_own _ _ _) _) (Own.from (blk_own _ _ _ _) _)) (ownFrom_pure _ _)) (ownFrom_below (Nat.le_refl _) (by omega)))
    (fun cd=>OwnFrom.and (OwnFrom.and (ownFrom_pure _ _) (Own.from (boxed_own _ _ _) _)) (ownFrom_below (Nat.le_refl _) (by omega)))
    ⟨⟨⟨bN,bC⟩,rfl⟩,hB0⟩
    (fun x a' W=>∃ Bx,w.heap.size+1+1 < Bx∧NodeBox w W x Bx∧a'={ tmps:=#[.agg #[.slice a0 N0 c0,.slice a1 N1 c1,.slice a2 N2 c2,.slice a3 N3 c3],.agg #[.int .i64 k0,.string n0,.string x0,.slice a K c],.pointer (some ⟨w.heap.size,0,none⟩),.pointer (some ⟨w.heap.size+1,0,none⟩),.pointer (some ⟨w.heap.size+1+1,0,none⟩),.int .i64 0,.pointer (some ⟨Bx,0,none⟩),.agg #[.slice a0 N0 c0,.slice a1 N1 c1,.slice a2 N2 c2,.slice a3 N3 c3],.int .i64 0,.bool false,.agg #[.int .i64 k0,.string n0,.string x0,.slice a K c],.int .i64 0,.int .i64 0,.bool false,undef,.agg #[.int .i64 k0,.string n0,.string x0,.slice a K c],.func (.func 216) #[] #[.pointer (some ⟨W2.heap.size+1,0,none⟩),.pointer (some ⟨W2.heap.size,0,none⟩)],x.1.1,undef,undef,undef,undef,undef,undef,undef,undef,undef,undef,undef,undef,undef],defers:=[] })
    (fun x a' _ X Y2 row hs hg hr=>by obtain ⟨Bx,h1,h2,h3⟩:=hs;exact ⟨Bx,h1,h2.own hg (fun r e=>(hr r e).2),h3⟩)
    ?assign ?body ?done ?stop
   case assign =>
    rintro l pre ⟨⟨xv,y1⟩,hx⟩ W Kk ⟨⟨⟨b1,bc1⟩,hp⟩,hB⟩ hK;obtain ⟨k1,n1,x1,ks1⟩:=y1;obtain ⟨a3,c3,rfl,-⟩:=LExpr.inv hx;gi_wp2
    exact hK _ _ ((KeepsOthers.alloc _ _).from _) (Kv.of_below zb) ⟨⟨⟨b1.alloc _,(Below.heap_alloc _ _ _ (heap_lt bc1)).trans bc1⟩,hp⟩,hB.alloc hB.size _⟩ ⟨W.heap.size,b1.lt,⟨k1,n1,x1,a3,_,c3,rfl,World.alloc_heap_new W _⟩,rfl⟩
   case body =>
    rintro l pre x a' W hl hrec ⟨⟨⟨b1,bc1⟩,hp⟩,hB⟩ ⟨Bx,hBx,⟨k1,n1,x1,a4,L,c4,he,hbx⟩,rfl⟩ hlt;obtain ⟨⟨xv,y1⟩,hx⟩:=x;obtain ⟨k2,n2,x2,ks2⟩:=y1;simp only at he;subst he;obtain ⟨a5,c5,he2,-⟩:=LExpr.inv hx;simp only [Value.agg.injEq] at he2;cases he2;have hcall:=fun W2 hb=>Known_p W2 _ cat ⟨n1,x1⟩ ((HG.out.mono hB).mono hb) ((HC.out.mono hB).mono (w':=W2) hb);have HS:Hid (((pre++[(⟨(_,LExpr.mk k1 n1 x1 ks2),hx⟩:AtE w)]).map (·.1.2)).all (knownN cat)=(emp n1 || (liftsC cat ⟨n1,x1⟩).isSome)):=by
     show _=_;rw [List.map_append,List.all_append,hp,List.map_cons,List.map_nil,List.all_cons,List.all_nil,Bool.true_and,Bool.and_true];rfl
    have HB:=zh hB;have B1:=zh b1;have C1:=zh bc1;have g0:=objcell2 hbx (j:=0) rfl;have g1:=objcell2 hbx (j:=1) rfl;have g2:=objcell2 hbx (j:=2) rfl;have d0:=objcell2 bc1 (j:=0) rfl;have d1:=objcell2 bc1 (j:=1) rfl;have d2:=objcell2 bc1 (j:=2) rfl;have d3:=objcell2 bc1 (j:=3) rfl;have hsx:=cell_lt g0;have hsc:=cell_lt d0;unfold emp at HS;clear hbx hB b1 bc1 hp hrec;generalize (liftsC cat ⟨n1,x1⟩).isSome=kn at *;have HCALL:=zh hcall;clear hcall;generalize ks2.length=L2 at *;cases q:n1.toList.isEmpty;case true =>
     have qe:n1.toList=[]:=by simpa using q
     have HQ:=zh q;gi_wp2
     refine ⟨trivial,?_⟩;gi_wp2
     exact ⟨KeepsFrom.refl _ _,Kv.refl _ _,⟨⟨B1.out,C1.out⟩,by rw [HS.out,HQ.out];rfl⟩,HB.out⟩
    case false =>
     have HQ:=zh q;have hkc:=HCALL.out W (Below.refl _ _);cases kn;case true =>
      gi_wp2_with (refine ⟨trivial,?_⟩;gi_at_call 166;refine (CallsIn.inRound l (callsIn_wide.2 hkc)).mono ?_;clear hkc;rintro e W3 ⟨rfl,hb3⟩)
      exact ⟨keeps_below hb3,Kv.of_below hb3,⟨⟨(hb3.block _ B1.out.lt).trans B1.out,(hb3.block _ (heap_lt C1.out)).trans C1.out⟩,by rw [HS.out,HQ.out];rfl⟩,HB.out.trans (hb3.mono HB.out.size)⟩
     case false =>
      gi_wp2_with (refine ⟨trivial,?_⟩;gi_at_call 166;refine (CallsIn.inRound l (callsIn_wide.2 hkc)).mono ?_;clear hkc;rintro e W3 ⟨rfl,hb3⟩;have c1:=kept hb3 B1.out.cell;have f1:=keptF hb3 B1.out.cell B1.out.frozen;have hs1:=cell_lt c1)
      have b3:Boxed W3 (w.heap.size+1+1) 32 (.int .i64 0):=(hb3.block _ B1.out.lt).trans B1.out;exact ⟨(keeps_below hb3).trans ((KeepsOthers.setCell _ _ _).from _),⟨⟨rfl,by rw [HS.out,HQ.out];rfl⟩,b3.set _⟩,(HB.out.trans (hb3.mono HB.out.size)).setCell (p:=⟨w.heap.size+1+1,0,none⟩) (by simp;omega) _⟩
   case done =>
    rintro D zs W hD hzs ⟨⟨⟨b1,bc1⟩,hp⟩,hB⟩ hK;have HO:Hid (FE=0):=by show _=_;rw [HT.out,← hzs,hp];rfl
    have c1:=b1.cell;have f1:=b1.frozen;have hs1:=cell_lt c1;have HB:=zh hB;clear hB hp hzs bc1;gi_wp2
    have hK1:=(KeepsOthers.setCell W ⟨w.heap.size+1+1,0,none⟩ (.int .i64 0)).same D _ hK rfl;refine ⟨by simp,.inl ⟨_,_,rfl,run_takeDeferred hK1,?_⟩⟩;have e5:=cell_kept (b1.set (.int .i64 0)).cell (grownBy_putObj' _ D (.deferred none)) (fun r e=>by cases e;exact ⟨_,hK1,rfl⟩);refine ⟨.int .i64 0,?_,by rw [HO.out],?_⟩
    ·simp [results,Tryz.f115,go_sem,e5]
    ·exact (HB.out.setCell (p:=⟨w.heap.size+1+1,0,none⟩) (by simp;omega) _).trans (belowK_b (w:=w) (Nat.le_refl _) _ D _ _ (by omega) hK1 rfl rfl)
   case stop =>
    rintro D cd pre W hD hpre ⟨⟨⟨rfl,hr1⟩,b1⟩,hB⟩ hK;have HO:Hid (FE=7):=by
     show _=_;obtain ⟨r,hr⟩:=hpre;rw [HT.out,← hr,List.all_append,hr1];rfl
    have HB:=zh hB;clear hB hr1 hpre;gi_wp2
    refine ⟨by simp,.inl ⟨_,_,rfl,run_takeDeferred hK,?_⟩⟩;have e5:=cell_kept b1.cell (grownBy_putObj' _ D (.deferred none)) (fun r e=>by cases e;exact ⟨_,hK,rfl⟩);refine ⟨.int .i64 7,?_,by rw [HO.out],?_⟩
    ·simp [results,Tryz.f115,go_sem,e5]
    ·exact HB.out.trans (belowK_b (w:=w) (Nat.le_refl _) _ D _ _ (by omega) hK rfl rfl)
theorem CheckX_p (w:World) (vc v:Value) (cat:Catalog) (y:LExpr) (hg:Glob w) (hc:Is w vc cat) (h:Is w v y) (hsz:sizeE y≤1000000) :
  Calls Tryz.prog 115 #[vc,v] w fun e w'=>e=.returned (.int .i64 (checkE cat y))∧Below w.heap.size w w':=callsIn_wide.1 (CheckX_in w vc v cat y hg hc h hsz)
end Go.Proofs.YtcbopdbbcgdkcaaGreatDoor
