/- Lemmas. -/
import Derived.Test.YtcbopdbbcgdkcaaGreatDoorLCmpU
set_option linter.all false
set_option maxRecDepth 100000
set_option maxHeartbeats 16000000
namespace Go.Proofs.YtcbopdbbcgdkcaaGreatDoor
open Go Go.RowKit Go.ChangeShapes
def SomeB (w:World) (e:Ending) (w':World):Prop:=∃ b,e=.returned (.bool b)∧Below w.heap.size w w'
theorem zrfewu0 {p:Prop} (h:p:=by
 clear hx;go_wp2;go_quiet (fail)
 go_wp2;go_roundw
 case rel=>exact ⟨_,k+1,rfl,by go_num,by omega,zh (hbr.out.drewN _)⟩
 case measure=>exact zm):p:=h
theorem zrfewu1 {p:Prop} (h:p:=by
 go_enter Tryz.func48,Tryz.ntmps48;go_wp2;go_ret;exact ⟨_,rfl,bw⟩):p:=h
theorem zrfewu2 {p:Prop} (h:p:=by
 go_wp2;go_roundw
 case rel=>exact ⟨n5,k+1,rfl,by go_num,by omega,HBv⟩
 case measure=>exact zm):p:=h
theorem Few_ref (w:World) (x0:Value) (c:Catalog) (h:Is w x0 c) :
  Calls Tryz.prog 48 #[x0] w fun e w'=>SomeB w e w':=by
 obtain ⟨a0,c0,a1,c1,a2,c2,a3,c3,rfl,l0,m0,r0,l1,m1,r1,l2,m2,r2,l3,m3,r3⟩:=Catalog.inv h;have R0:=zh r0;have R1:=zh r1;have R2:=zh r2;have R3:=zh r3;have n0:c.licenses.length≤9223372036854775807:=by simp only [maxLen] at m0;omega
 have n1:c.exceptions.length≤9223372036854775807:=by simp only [maxLen] at m1;omega
 have n2:c.clauses.length≤9223372036854775807:=by simp only [maxLen] at m2;omega
 have n3:c.apart.length≤9223372036854775807:=by simp only [maxLen] at m3;omega
 clear h r0 r1 r2 r3;generalize hL0:c.licenses.length=N0 at *;generalize hL1:c.exceptions.length=N1 at *;generalize hL2:c.clauses.length=N2 at *;generalize hL3:c.apart.length=N3 at *;have HL:=zh (And.intro hL0 (And.intro hL1 (And.intro hL2 hL3)));clear hL0 hL1 hL2 hL3;cases q1:decide ((40:Int) < N0);case true =>
  exact zrfewu1
 cases q2:decide ((40:Int) < N1);case true =>
  exact zrfewu1
 cases q3:decide ((40:Int) < N2∧(N2:Int)≤128);case true =>
  obtain ⟨p1,p2⟩:=of_decide_eq_true q3;clear q3;exact zrfewu1
 cases q5:decide ((140:Int) < N2);case true =>
  have p1:=of_decide_eq_true q5;have p2:(40:Int) < (N2:Int):=by omega
  have p3:¬ (N2:Int)≤128:=by omega
  clear q3 q5;exact zrfewu1
 have p0:=of_decide_eq_false q3;have p1:=of_decide_eq_false q5;have p2:¬ (140:Int) < (N2:Int):=p1;have p4:(¬ (40:Int) < (N2:Int))∨((40:Int) < (N2:Int)∧¬ (N2:Int)≤128):=by omega
 clear q3 q5 p0 p1;cases q6:decide ((80:Int) < N3);case true =>
  rcases p4 with p4 | ⟨p4,p5⟩
  all_goals
   go_enter Tryz.func48,Tryz.ntmps48;go_wp2;go_ret;exact ⟨_,rfl,bw⟩
 rcases p4 with p4 | ⟨p4,p5⟩
 case' inr =>
  go_enter Tryz.func48,Tryz.ntmps48;go_wp2;clear q1 q2 q6 p2 p4 p5
 case' inl =>
  go_enter Tryz.func48,Tryz.ntmps48;go_wp2;clear q1 q2 q6 p2 p4
 all_goals
  have D0:(w.alloc (.cells #[.slice a0 N0 c0,.slice a1 N1 c1,.slice a2 N2 c2,.slice a3 N3 c3] 27)).cell? ⟨w.heap.size,0,none⟩=some (.slice a0 N0 c0):=by simp
  have D1:(w.alloc (.cells #[.slice a0 N0 c0,.slice a1 N1 c1,.slice a2 N2 c2,.slice a3 N3 c3] 27)).cell? ⟨w.heap.size,1,none⟩=some (.slice a1 N1 c1):=by simp
  have D2:(w.alloc (.cells #[.slice a0 N0 c0,.slice a1 N1 c1,.slice a2 N2 c2,.slice a3 N3 c3] 27)).cell? ⟨w.heap.size,2,none⟩=some (.slice a2 N2 c2):=by simp
  have D3:(w.alloc (.cells #[.slice a0 N0 c0,.slice a1 N1 c1,.slice a2 N2 c2,.slice a3 N3 c3] 27)).cell? ⟨w.heap.size,3,none⟩=some (.slice a3 N3 c3):=by simp
  have HB0:Hid (Below w.heap.size w (w.alloc (.cells #[.slice a0 N0 c0,.slice a1 N1 c1,.slice a2 N2 c2,.slice a3 N3 c3] 27))):=bw;generalize w.alloc (.cells #[.slice a0 N0 c0,.slice a1 N1 c1,.slice a2 N2 c2,.slice a3 N3 c3] 27)=v0 at *;go_loopw [3,4] (fun nv kv wr=>∃ (n:Int) (k:Nat),nv=.int .i64 n∧kv=.int .i64 k∧k≤N0∧Hid (Below v0.heap.size v0 wr)) (fun _ kv _=>N0 - (intOf kv).toNat)
  case atStart=>exact ⟨0,0,rfl,rfl,by omega,zh (Below.refl _ _)⟩
  case round =>
   obtain ⟨n,k,rfl,rfl,hk,hbr⟩:=hrel;have E0:=kept hbr.out D0;have E1:=kept hbr.out D1;have E2:=kept hbr.out D2;have E3:=kept hbr.out D3;by_cases hki:k < N0
   ·obtain ⟨x,hx⟩:=get_lt (xs:=c.licenses) (k:=k) (by rw [HL.out.1];exact hki);obtain ⟨b,off,rfl,hb,y0,y1,y2,y3,-⟩:=License.at_row (R0.out.mono (HB0.out.trans (hbr.out.mono HB0.out.size))) hx;exact zrfewu0
   ·go_wp2;go_loopw [3,5] (fun nv kv wr=>∃ (n:Int) (k:Nat),nv=.int .i64 n∧kv=.int .i64 k∧k≤N1∧Hid (Below v0.heap.size v0 wr)) (fun _ kv _=>N1 - (intOf kv).toNat)
    case atStart=>exact ⟨n,0,rfl,rfl,by omega,hbr⟩
    case round =>
     clear hbr hki hk;obtain ⟨n,k,rfl,rfl,hk,hbr⟩:=hrel;have E0:=kept hbr.out D0;have E1:=kept hbr.out D1;have E2:=kept hbr.out D2;have E3:=kept hbr.out D3;by_cases hki:k < N1
     ·obtain ⟨x,hx⟩:=get_lt (xs:=c.exceptions) (k:=k) (by rw [HL.out.2.1];exact hki);obtain ⟨b,off,rfl,hb,b2,c4,y0,y1,y2,-⟩:=Exc.at_row (R1.out.mono (HB0.out.trans (hbr.out.mono HB0.out.size))) hx;exact zrfewu0
     ·go_wp2;go_loopw [3,6] (fun nv kv wr=>∃ (n:Int) (k:Nat),nv=.int .i64 n∧kv=.int .i64 k∧k≤N2∧Hid (Below v0.heap.size v0 wr)) (fun _ kv _=>N2 - (intOf kv).toNat)
      case atStart=>exact ⟨n,0,rfl,rfl,by omega,hbr⟩
      case round =>
       clear hbr hki hk;obtain ⟨n,k,rfl,rfl,hk,hbr⟩:=hrel;have E0:=kept hbr.out D0;have E1:=kept hbr.out D1;have E2:=kept hbr.out D2;have E3:=kept hbr.out D3;by_cases hki:k < N2
       ·obtain ⟨x,hx⟩:=get_lt (xs:=c.clauses) (k:=k) (by rw [HL.out.2.2.1];exact hki);obtain ⟨b,off,rfl,hb,b2,c4,y0,y1,y2,y3,y4,s0,s1,s2,s3,hyl,hyc,hyr⟩:=Clause.at_row (R2.out.mono (HB0.out.trans (hbr.out.mono HB0.out.size))) hx;clear hx;have HY:=zh hyr;have hxn:x.list.length≤9223372036854775807:=by simp only [maxLen] at hyc;omega
        clear hyr s0 s1 s2 s3;generalize hM:x.list.length=M at *;have HM:=zh hM;clear hM;go_wp2;go_quiet (fail)
        go_wp2;have HB4:Hid (Below wr.heap.size wr (wr.drewN nq)):=zh bw;have F0:=kept HB4.out E0;have F1:=kept HB4.out E1;have F2:=kept HB4.out E2;have F3:=kept HB4.out E3;have z4:=kept HB4.out y4;have HBv:Hid (Below v0.heap.size v0 (wr.drewN nq)):=zh (hbr.out.drewN _);have hyr2:=zh (HY.out.mono HB4.out);clear E0 E1 E2 E3 y0 y1 y2 y3 y4 HY HB4 hbr;generalize wr.drewN nq=w4 at *;go_loopw [3,7] (fun nv kv wr=>∃ (n:Int) (j:Nat),nv=.int .i64 n∧kv=.int .i64 j∧j≤M∧wr=w4) (fun _ kv _=>M - (intOf kv).toNat)
        case atStart=>exact ⟨_,0,rfl,rfl,by omega,rfl⟩
        case round =>
         obtain ⟨n5,j,rfl,rfl,hj,rfl⟩:=hrel;by_cases hji:j < M
         ·obtain ⟨y,hy⟩:=get_lt (xs:=x.list) (k:=j) (by rw [HM.out];exact hji);obtain ⟨by',offy,rfl,hby,u0,uz⟩:=str_at hyr2.out hy;clear hy;by_cases h6:n5≤6000
          ·go_wp2;go_roundw
           case rel=>exact ⟨_,j+1,rfl,by go_num,by omega,by first | rfl | trivial⟩
           case measure=>exact zm
          ·exact zrfewu2
         ·exact zrfewu2
       ·go_wp2;go_loopw [3,8] (fun nv kv wr=>∃ (n:Int) (k:Nat),nv=.int .i64 n∧kv=.int .i64 k∧k≤N3∧Hid (Below v0.heap.size v0 wr)) (fun _ kv _=>N3 - (intOf kv).toNat)
        case atStart=>exact ⟨n,0,rfl,rfl,by omega,hbr⟩
        case round =>
         clear hbr hki hk;obtain ⟨n,k,rfl,rfl,hk,hbr⟩:=hrel;have E0:=kept hbr.out D0;have E1:=kept hbr.out D1;have E2:=kept hbr.out D2;have E3:=kept hbr.out D3;by_cases hki:k < N3
         ·obtain ⟨x,hx⟩:=get_lt (xs:=c.apart) (k:=k) (by rw [HL.out.2.2.2];exact hki);obtain ⟨b,off,rfl,hb,y0,y1,-⟩:=Pair.at_row (R3.out.mono (HB0.out.trans (hbr.out.mono HB0.out.size))) hx;exact zrfewu0
         ·go_wp2;go_ret;have HF:=HB0.out.trans (hbr.out.mono HB0.out.size);first | exact ⟨_,rfl,HF⟩ | exact ⟨true,trivial,HF⟩ | exact ⟨⟨true,trivial⟩,HF⟩ | exact ⟨HF,true,trivial⟩ | trace_state
open Go.Sort Go.Lib

def FewO (xs:List (List Term)) (w:World) (e:Ending) (w':World):Prop:=∃ b,e=.returned (.bool b)∧Below w.heap.size w w'∧(b=true→xs.length≤70∧∀ x∈xs,x.length≤65)
theorem FewA_ref (w:World) (v:Value) (xs:List (List Term)) (h:Is w v xs) :
  Calls Tryz.prog 62 #[v] w fun e w'=>FewO xs w e w':=by
 obtain ⟨a,c,rfl,hnc,hcm,hr⟩:=list_inv h;simp only [maxLen] at hcm;have HR:=zh hr;clear hr h;generalize hN:xs.length=N at *;have HN:=zh hN;clear hN;by_cases q:(30 < N∧N≤64)∨70 < N
 ·have q2:((30:Int) < (N:Int)∧(N:Int)≤64)∨((30:Int) < (N:Int)∧¬ (N:Int)≤64∧(70:Int) < (N:Int)):=by omega
  clear q;rcases q2 with ⟨q1,q2⟩ | ⟨q1,q2,q3⟩
  all_goals
   go_enter Tryz.func62,Tryz.ntmps62;go_wp2;go_ret;exact ⟨false,rfl,Below.refl _ _,by intro h;cases h⟩
 have HQ:Hid (N≤70):=by show _≤_;omega
 have q2:(¬ (30:Int) < (N:Int)∧¬ (70:Int) < (N:Int))∨((30:Int) < (N:Int)∧¬ (N:Int)≤64∧¬ (70:Int) < (N:Int)):=by omega
 clear q;rcases q2 with ⟨q1,q2⟩ | ⟨q1,q2,q3⟩
 case' inl =>
  go_enter Tryz.func62,Tryz.ntmps62;go_wp2;clear q1 q2
 case' inr =>
  go_enter Tryz.func62,Tryz.ntmps62;go_wp2;clear q1 q2 q3
 all_goals
  go_loopw [3,4] (fun nv kv wr=>∃ (n:Int) (k:Nat),nv=.int .i64 n∧kv=.int .i64 k∧k≤N∧Hid (Below w.heap.size w wr)∧Hid (∀ x∈xs.take k,x.length≤65)) (fun _ kv _=>N - (intOf kv).toNat)
  case atStart=>exact ⟨0,0,rfl,rfl,by omega,zh (Below.refl _ _),by intro x hx;simp at hx⟩
  case round =>
   obtain ⟨n,k,rfl,rfl,hk,HB,HS⟩:=hrel;by_cases hki:k < N
   ·have hkz:(k:Int) < (N:Int):=by omega
    have hk0:(0:Int)≤(k:Int):=by omega
    obtain ⟨x,hx⟩:=get_lt (xs:=xs) (k:=k) (by rw [HN.out];exact hki);have HT:=zh (take_at hx);obtain ⟨bx,ox,rfl,hbx,ax,cx,x0',hx1,hx2,hx3⟩:=list_at HR.out hx;have x0:=kept HB.out x0';have hsx:=cell_lt x0;have HX3:=zh hx3;simp only [maxLen] at hx2;generalize hM:x.length=M at *;have HM:=zh hM;clear hx x0' hx3 hM;by_cases q:12 < M∧M≠65
    ·have q1:(12:Int) < (M:Int):=by omega
     have q2:((M:Int) != 65)=true:=by simp;omega
     clear q;go_wp2;go_ret;exact ⟨false,rfl,HB.out,by intro h;cases h⟩
    have HX:Hid (∀ y∈xs.take (k+1),y.length≤65):=by
     intro y hy;rw [HT.out] at hy;rcases List.mem_append.1 hy with hy | hy
     ·exact HS.out y hy
     ·simp at hy;subst hy;rw [HM.out];omega
    have q1:¬ (12:Int) < (M:Int)∨((12:Int) < (M:Int)∧((M:Int) != 65)=false):=by
     by_cases h:12 < M
     ·right;refine ⟨by omega,?_⟩;simp;omega
     ·left;omega
    clear q;rcases q1 with q1 | ⟨q1,q2⟩
    case' inl =>
     go_wp2;clear q1
    case' inr =>
     go_wp2;clear q1 q2
    all_goals
     generalize wr=w5 at *;go_loopw [3,5] (fun nv jv wr=>∃ (n:Int) (j:Nat),nv=.int .i64 n∧jv=.int .i64 j∧j≤M∧∃ m,wr=w5.drewN m) (fun _ jv _=>M - (intOf jv).toNat)
     case atStart=>exact ⟨n,0,rfl,rfl,by omega,0,rfl⟩
     case round =>
      obtain ⟨n,j,rfl,rfl,hj,m,rfl⟩:=hrel;by_cases hji:j < M
      ·have hjz:(j:Int) < (M:Int):=by omega
       have hj0:(0:Int)≤(j:Int):=by omega
       obtain ⟨y,hy⟩:=get_lt (xs:=x) (k:=j) (by rw [HM.out];exact hji);obtain ⟨by',oy,rfl,hby,y0',y1',s0,s1⟩:=Term.at_row HX3.out hy;have y0:=kept HB.out y0';have y1:=kept HB.out y1';simp only [maxLen] at s0 s1;clear hy y0' y1';go_wp2;go_quiet (fail)
       go_wp2;go_roundw
       case rel=>exact ⟨_,j+1,rfl,by go_num,by omega,_,rfl⟩
       case measure=>exact zm
      ·have hjz:¬ (j:Int) < (M:Int):=by omega
       go_wp2;go_roundw
       case rel=>exact ⟨n,k+1,rfl,by go_num,by omega,zh (HB.out.trans bw),HX⟩
       case measure=>exact zm
   ·have hkz:¬ (k:Int) < (N:Int):=by omega
    go_wp2;go_ret;refine ⟨_,rfl,HB.out,fun _=>⟨by rw [HN.out];exact HQ.out,?_⟩⟩;have:=HS.out;rw [List.take_of_length_le (by rw [HN.out];omega)] at this;exact this
end Go.Proofs.YtcbopdbbcgdkcaaGreatDoor
