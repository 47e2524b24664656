/- Lemmas. -/
import Derived.Test.YtcbopdbbcgdkcaaGreatDoorLRefU
set_option linter.all false
set_option maxRecDepth 100000
set_option maxHeartbeats 16000000
namespace Go.Proofs.YtcbopdbbcgdkcaaGreatDoor
open Go Go.RowKit Go.ChangeShapes

theorem zrrefv0 {p:Prop} (h:p:=by
 go_enter Tryz.func170,Tryz.ntmps170;go_wp2;go_ret;exact ⟨ret_b (by simp [clauseLt,seq,slt,q1,q2,q3]),bw⟩):p:=h
theorem Less_ref (w:World) (x0 x1:Value) (a b:Clause) (h0:Is w x0 a) (h1:Is w x1 b) :
  Calls Tryz.prog 170 #[x0,x1] w fun e w'=>e=.returned (.bool (clauseLt a b))∧Below w.heap.size w w':=by
 obtain ⟨a4,c4,rfl,s0,-⟩:=Clause.inv h0;obtain ⟨b4,d4,rfl,t0,-⟩:=Clause.inv h1;clear h0 h1;cases q1:(a.license.toList == b.license.toList);case true =>
  cases q2:(a.way != b.way);case true =>
   go_enter Tryz.func170,Tryz.ntmps170;go_wp2;go_ret;exact ⟨ret_b (by simp [clauseLt,seq,slt,q1,q2]),bw⟩
  cases q3:(a.relation != b.relation);case true =>
   exact zrrefv0
  exact zrrefv0
 go_enter Tryz.func170,Tryz.ntmps170;go_wp2;go_ret;exact ⟨ret_b (by simp [clauseLt,seq,slt,q1]),bw⟩

theorem zrrefv1 {p:Prop} (h:p:=by
 go_enter Tryz.func171,Tryz.ntmps171;go_wp2;go_ret;exact ⟨ret_b (by simp [pairLt,seq,slt,q4,q5,q6]),bw⟩):p:=h
theorem before_ref (w:World) (x0 x1:Value) (a b:Pair) (h0:Is w x0 a) (h1:Is w x1 b) :
  Calls Tryz.prog 171 #[x0,x1] w fun e w'=>e=.returned (.bool (pairLt a b))∧Below w.heap.size w w':=by
 obtain ⟨rfl,s0,-⟩:=Pair.inv h0;obtain ⟨rfl,t0,-⟩:=Pair.inv h1;clear h0 h1;cases q4:Op.bytesLess a.a.toList b.a.toList;case true =>
  go_enter Tryz.func171,Tryz.ntmps171;go_wp2;go_ret;exact ⟨ret_b (by simp [pairLt,seq,slt,q4]),bw⟩
 cases q5:(a.a.toList == b.a.toList);case true =>
  cases q6:Op.bytesLess a.b.toList b.b.toList;case true =>
   exact zrrefv1
  exact zrrefv1
 go_enter Tryz.func171,Tryz.ntmps171;go_wp2;go_ret;exact ⟨ret_b (by simp [pairLt,seq,slt,q4,q5]),bw⟩


theorem still_tail {P:Program} {id:Nat} {Q:Exit→Act→World→Prop} {a:Act} {w:World} {l:List Oper} (n:Nat) (hm:P.follows .mixedOrders=true) (hB:Region.lexTailB .any l.toArray n=true)
  (h:wpStill P l.toArray w.drew (fun a'=>wpList P l.toArray Q (l.drop n) a' w.drew) (l.take n) a):(Code.region id l.toArray true).wp P Q a w :=
 wp_region_still_tail n hm hB h

theorem pair_ref (w:World) (x0 x1 x2 x3:Value) (ls:List License) (ps:List Pair) (i:Nat) (x:Pair) (h0:Is w x0 ls) (h:Is w x3 ps) (hx:ps[i]?=some x) :
  Calls Tryz.prog 120 #[.agg #[x0,x1,x2,x3],.int .i64 i] w fun e w'=>e=.returned (.int .i64 (pairErr ls (ps.take i) x))∧Below w.heap.size w w':=by
 obtain ⟨a,c,rfl,hnc,hc,hr⟩:=list_inv h;simp only [maxLen] at hc;clear h;have hlt:i < ps.length:=lt_get hx;obtain ⟨b,off,rfl,hb,c0,c1,s0,s1⟩:=Pair.at_row hr hx;have HR:=zh hr;clear hx hr;go_enter Tryz.func120,Tryz.ntmps120;go_wp2_with fail
 refine (find_ref _ _ _ _ _ _ ls (h0.mono bw)).mono ?_;rintro e w1 ⟨rfl,hb1⟩;have d0:=kb w hb1 0 (x0);have d1:=kb w hb1 1 (x1);have d2:=kb w hb1 2 (x2);have d3:=kb w hb1 3 (.slice (some ⟨b,off,none⟩) ps.length c);have g0:=kb1 w hb1 0 (.string x.a);have g1:=kb1 w hb1 1 (.string x.b);have hbw:Below w.heap.size w w1:=bw;have HB1:=zh hbw;have HR1:=zh (HR.out.mono hbw);clear hb1 hbw c0 c1;cases q1:decide (findFrom x.a ls 0 < 0);case true =>
  go_wp2;go_ret;exact ⟨ret_i (by simp [pairErr,q1]),HB1.out⟩
 go_wp2_with fail
 refine (find_ref _ _ _ _ _ _ ls (h0.mono HB1.out)).mono ?_;rintro e w2 ⟨rfl,hb2⟩;have e3:=kept hb2 d3;have f0:=kept hb2 g0;have f1:=kept hb2 g1;have HB2:=zh (HB1.out.trans (hb2.mono HB1.out.size));have HR2:=zh (HR1.out.mono hb2);clear hb2 d0 d1 d2 d3 g0 g1;cases q2:decide (findFrom x.b ls 0 < 0);case true =>
  go_wp2;go_ret;exact ⟨ret_i (by simp [pairErr,q1,q2]),HB2.out⟩
 go_wp2;cases q3:Op.bytesLess x.a.toList x.b.toList;case true =>
  cases i with
  | zero =>
   go_quiet (fail)
   go_wp2;go_ret;exact ⟨ret_i (by simp [pairErr,slt,behind,q1,q2,q3]),HB2.out.drewN _⟩
  | succ j =>
   obtain ⟨p,hp⟩:=get_lt (xs:=ps) (k:=j) (by omega);obtain ⟨b4,off4,he,hb4,u0,u1,t0,t1⟩:=Pair.at_row HR2.out hp;obtain ⟨rfl,rfl⟩:b=b4∧off=off4:=by simpa using he
   have hpl:j < ps.length:=lt_get hp;have HP:=zh (last_take hp);clear hp he;have hwj:IntKind.i64.wrap (j:Int)=j:=IntWalk.i64_in _ (by omega);refine still_tail 16 (by kernel_rfl) (by kernel_rfl) ?_;simp only [zt];repeat still_step
   refine wpStill_nil ?_;clear hwj;go_wp2_with fail
   refine (before_ref _ _ _ p x (Pair.mk' ⟨t0,t1⟩) (Pair.mk' ⟨s0,s1⟩)).mono ?_;rintro e w3 ⟨rfl,hb3⟩;have HB3:=zh (HB2.out.drew.trans (hb3.mono HB2.out.size));cases r1:pairLt p x;case false =>
    go_wp2;go_ret;exact ⟨ret_i (by simp [pairErr,slt,behind,HP.out,r1,q1,q2,q3]),HB3.out⟩
   go_wp2;go_ret;exact ⟨ret_i (by simp [pairErr,slt,behind,HP.out,r1,q1,q2,q3]),HB3.out⟩
 go_quiet (fail)
 go_wp2;go_ret;exact ⟨ret_i (by simp [pairErr,slt,q1,q2,q3]),HB2.out.drewN _⟩


theorem below_drewN (w:World) (n:Nat):Below w.heap.size w (w.drewN n):=⟨rfl,rfl,rfl,Nat.le_refl _,fun _ _=>rfl⟩

theorem zqrefv0 {p:Prop} (h:p:=by
 have HQ3:Hid (clauseErr ls (ps.take i) x=if !behind clauseLt (ps.take i) x then 5 else 0):=by
  show _=_;rw [HQ2.out,hf.out,incr_short _ _ (by simp;omega)];rfl
 clear HQ2 hf;go_wp2;cases i with
 | zero =>
  go_quiet (fail)
  go_wp2;go_ret;exact ⟨ret_i (by rw [HQ3.out];rfl),(HBR.out.drewN _).drewN _⟩
 | succ j =>
  obtain ⟨p,hp⟩:=get_lt (xs:=ps) (k:=j) (by omega);obtain ⟨b6,off6,he,hb6,pa,pc,u0,u1,u2,u3,u4,t0,t1,t2,t3,pm,pk,pr⟩:=Clause.at_row HR'.out hp;obtain ⟨rfl,rfl⟩:b=b6∧off=off6:=by simpa using he
  have hpl:j < ps.length:=lt_get hp;have HP:=zh (last_take hp);have IP:=zh (Clause.mk' ⟨t0,t1,t2,t3,pm,pk,pr⟩);have IX:=zh (Clause.mk' (x:=x) ⟨s0,S1.out,S2.out,S3.out,m4,K4.out,R4'.out⟩);clear hp he t0 t1 t2 t3 pm pk pr;have hwj:IntKind.i64.wrap (j:Int)=j:=IntWalk.i64_in _ (by omega);refine still_tail 10 (by kernel_rfl) (by kernel_rfl) ?_;simp only [zt];repeat still_step
  refine wpStill_nil ?_;clear hwj;go_wp2_with fail
  refine (Less_ref _ _ _ p x (IP.out.mono bw) (IX.out.mono bw)).mono ?_;rintro e w3 ⟨rfl,hb3⟩;have HB3:=zh ((HBR.out.drewN n).drew.trans (hb3.mono HBR.out.size));cases r1:clauseLt p x;case false =>
   go_wp2;go_ret;exact ⟨ret_i (by rw [HQ3.out];simp [behind,HP.out,r1]),HB3.out⟩
  go_wp2;go_ret;exact ⟨ret_i (by rw [HQ3.out];simp [behind,HP.out,r1]),HB3.out⟩):p:=h
theorem clause_ref (w:World) (x0 x1 x2 x3:Value) (ls:List License) (ps:List Clause) (i:Nat) (x:Clause) (h0:Is w x0 ls) (h:Is w x2 ps) (hx:ps[i]?=some x) :
  Calls Tryz.prog 119 #[.agg #[x0,x1,x2,x3],.int .i64 i] w fun e w'=>e=.returned (.int .i64 (clauseErr ls (ps.take i) x))∧Below w.heap.size w w':=by
 obtain ⟨a,c,rfl,hnc,hc,hr⟩:=list_inv h;simp only [maxLen] at hc;clear h;have hlt:i < ps.length:=lt_get hx;obtain ⟨b,off,rfl,hb,a4,c4,c0,c1,c2,c3,c4',s0,s1,s2,s3,m4,k4,r4⟩:=Clause.at_row hr hx;have S1:=zh s1;have S2:=zh s2;have S3:=zh s3;have K4:=zh k4;simp only [maxLen] at k4;have HR:=zh hr;clear hx hr s1 s2 s3;go_enter Tryz.func119,Tryz.ntmps119;go_wp2_with fail
 refine (find_ref _ _ _ _ _ _ ls (h0.mono bw)).mono ?_;rintro e w1 ⟨rfl,hb1⟩;have d0:=kb w hb1 0 (x0);have d1:=kb w hb1 1 (x1);have d2:=kb w hb1 2 (.slice (some ⟨b,off,none⟩) ps.length c);have d3:=kb w hb1 3 (x3);have g0:=kb1 w hb1 0 (.string x.license);have g1:=kb1 w hb1 1 (.int .i64 x.way);have g2:=kb1 w hb1 2 (.int .i64 x.relation);have g3:=kb1 w hb1 3 (.int .i64 x.duty);have g4:=kb1 w hb1 4 (.slice a4 x.list.length c4);have hbw:Below w.heap.size w w1:=bw;have HB1:=zh hbw;have HR1:=zh (HR.out.mono hbw);have R4:=zh (r4.mono hbw);clear hb1 hbw c0 c1 c2 c3 c4' r4;cases q1:decide (findFrom x.license ls 0 < 0);case true =>
  go_wp2;go_ret;exact ⟨ret_i (by simp [clauseErr,q1]),HB1.out⟩
 cases q2:decide (x.way < 0);case true =>
  go_wp2;go_ret;exact ⟨ret_i (by simp [clauseErr,q1,q2]),HB1.out⟩
 cases q3:decide (2 < x.way);case true =>
  go_wp2;go_ret;exact ⟨ret_i (by simp [clauseErr,q1,q2,q3]),HB1.out⟩
 cases q4:decide (x.relation < 0);case true =>
  go_wp2;go_ret;exact ⟨ret_i (by simp [clauseErr,q1,q2,q3,q4]),HB1.out⟩
 cases q5:decide (2 < x.relation);case true =>
  go_wp2;go_ret;exact ⟨ret_i (by simp [clauseErr,q1,q2,q3,q4,q5]),HB1.out⟩
 cases q6:decide (x.duty < 0);case true =>
  go_wp2;go_ret;exact ⟨ret_i (by simp [clauseErr,q1,q2,q3,q4,q5,q6]),HB1.out⟩
 cases q7:decide (5 < x.duty);case true =>
  go_wp2;go_ret;exact ⟨ret_i (by simp [clauseErr,q1,q2,q3,q4,q5,q6,q7]),HB1.out⟩
 cases q8:(x.duty == 4);case true =>
  cases q9:decide (0 < x.list.length);case true =>
   have HQ:Hid (clauseErr ls (ps.take i) x=if !(x.list.all fun s=>!decide (findFrom s ls 0 < 0)) then 7 else if !incr slt x.list then 5 else if !behind clauseLt (ps.take i) x then 5 else 0):=by
    show _=_;simp only [clauseErr,q1,q2,q3,q4,q5,q6,q7,q8,q9];rfl
   go_wp2;clear q2 q3 q4 q5 q6 q7 q8 q9;go_loopw [6] (fun kv wr=>∃ k:Nat,0≤k∧k≤x.list.length+0∧kv=.int .i64 k∧Below (w1).heap.size (w1) wr∧Hid ((x.list.all fun s=>!decide (findFrom s ls 0 < 0))=((x.list.drop k).all fun s=>!decide (findFrom s ls 0 < 0)))) (fun kv _=>x.list.length - (intOf kv).toNat)
   case atStart=>exact ⟨0,by omega,by omega,rfl,bw,rfl⟩
   case round =>
    obtain ⟨k,hlo,hk,rfl,hbr0,hf⟩:=hrel;have hbr:=zh hbr0;clear hbr0;by_cases hki:k < x.list.length
    ·have D0:=kept hbr.out d0;have D1:=kept hbr.out d1;have D2:=kept hbr.out d2;have D3:=kept hbr.out d3;have G4:=kept hbr.out g4;obtain ⟨y,hy⟩:=get_lt hki;obtain ⟨b3,off3,rfl,hb3,g5,-⟩:=str_at (R4.out.mono hbr.out) hy;have hd:=zh (drop_at hy);clear hy;have hbw:=zh (HB1.out.trans (hbr.out.mono HB1.out.size));go_wp2;refine still_tail 6 (by kernel_rfl) (by kernel_rfl) ?_;simp only [zt];repeat still_step
     refine wpStill_nil ?_;go_wp2_with fail
     refine (find_ref _ _ _ _ _ _ ls (h0.mono hbw.out.drew)).mono ?_;rintro e w2 ⟨rfl,hb2⟩;have hbr2:=zh (hbr.out.drew.trans (hb2.mono hbr.out.size));have HB2:=zh (hbw.out.drew.trans (hb2.mono hbw.out.size));clear hb2;cases q10:decide (findFrom y ls 0 < 0);case true =>
      go_wp2;go_ret;exact ⟨ret_i (by rw [HQ.out,hf.out,hd.out];simp [q10]),HB2.out⟩
     go_wp2;go_roundw
     case rel=>exact ⟨k+1,by omega,by omega,by go_num,hbr2.out,by show _=_;rw [hf.out,hd.out];simp [q10]⟩
     case measure=>exact zm
    ·have D0:=kept hbr.out d0;have D1:=kept hbr.out d1;have D2:=kept hbr.out d2;have D3:=kept hbr.out d3;have G4:=kept hbr.out g4;have HQ2:Hid (clauseErr ls (ps.take i) x=if !incr slt x.list then 5 else if !behind clauseLt (ps.take i) x then 5 else 0):=by
      show _=_;rw [HQ.out,hf.out,List.drop_eq_nil_of_le (by omega)];rfl
     have HBR:=zh (HB1.out.trans (hbr.out.mono HB1.out.size));have R4':=zh (R4.out.mono hbr.out);have HR':=zh (HR1.out.mono hbr.out);have G0:=kept hbr.out g0;have G1:=kept hbr.out g1;have G2:=kept hbr.out g2;have G3:=kept hbr.out g3;clear HQ hf d0 d1 d2 d3 g0 g1 g2 g3 g4 hbr;obtain ⟨wo,rfl⟩:∃ wo:World,wo=wr:=⟨_,rfl⟩
     go_wp2;go_loopw [7] (fun kv wr=>∃ k:Nat,1≤k∧k≤x.list.length+1∧kv=.int .i64 k∧(∃ n,wr=(wo).drewN n)∧Hid (incr slt x.list=incr slt (x.list.drop (k - 1)))) (fun kv _=>x.list.length - (intOf kv).toNat)
     case atStart=>exact ⟨1,by omega,by omega,rfl,(by first | exact ⟨_,rfl⟩ | exact ⟨0,rfl⟩),rfl⟩
     case round =>
      obtain ⟨k,hlo,hk,rfl,⟨n,rfl⟩,hf⟩:=hrel;by_cases hki:k < x.list.length
      ·obtain ⟨m,rfl⟩:∃ m,k=m+1:=⟨k - 1,by omega⟩
       obtain ⟨u,hu⟩:=get_lt (xs:=x.list) (k:=m) (by omega);obtain ⟨y,hy⟩:=get_lt hki;obtain ⟨b3,off3,rfl,hb3,g5,-⟩:=str_at R4'.out hu;obtain ⟨b5,off5,he5,hb5,g6,-⟩:=str_at R4'.out hy;obtain ⟨rfl,rfl⟩:b3=b5∧off3=off5:=by simpa using he5
       have hd:=zh (show x.list.drop (m+1 - 1)=u :: x.list.drop (m+1) from drop_at hu);have hd2:=zh (drop_at hy);have hul:m < x.list.length:=lt_get hu;clear hu hy he5;cases q11:Op.bytesLess u.toList y.toList;case true =>
        go_wp2;go_quiet (fail)
        go_wp2;go_roundw
        case rel=>exact ⟨m+1+1,by omega,by omega,by go_num,⟨_,rfl⟩,by show _=_;rw [hf.out,hd.out,hd2.out,incr_cons,slt,q11];rw [Bool.true_and,← hd2.out];rfl⟩
        case measure=>exact zm
       go_wp2;go_quiet (fail)
       go_wp2;go_ret;exact ⟨ret_i (by rw [HQ2.out];rw [hf.out,hd.out,hd2.out,incr_cons,slt,q11];rfl),(HBR.out.drewN _).drewN _⟩
      ·exact zqrefv0
  go_wp2;go_ret;exact ⟨ret_i (by simp only [clauseErr,q1,q2,q3,q4,q5,q6,q7,q8,q9];rfl),HB1.out⟩
 cases q12:decide (0 < x.list.length);case true =>
  go_wp2;go_ret;exact ⟨ret_i (by simp only [clauseErr,q1,q2,q3,q4,q5,q6,q7,q8,q12];rfl),HB1.out⟩
 have HQ:Hid (clauseErr ls (ps.take i) x=if !(x.list.all fun s=>!decide (findFrom s ls 0 < 0)) then 7 else if !incr slt x.list then 5 else if !behind clauseLt (ps.take i) x then 5 else 0):=by
  show _=_;simp only [clauseErr,q1,q2,q3,q4,q5,q6,q7,q8,q12];rfl
 go_wp2;clear q2 q3 q4 q5 q6 q7 q8 q12;go_loopw [6] (fun kv wr=>∃ k:Nat,0≤k∧k≤x.list.length+0∧kv=.int .i64 k∧Below (w1).heap.size (w1) wr∧Hid ((x.list.all fun s=>!decide (findFrom s ls 0 < 0))=((x.list.drop k).all fun s=>!decide (findFrom s ls 0 < 0)))) (fun kv _=>x.list.length - (intOf kv).toNat)
 case atStart=>exact ⟨0,by omega,by omega,rfl,bw,rfl⟩
 case round =>
  obtain ⟨k,hlo,hk,rfl,hbr0,hf⟩:=hrel;have hbr:=zh hbr0;clear hbr0;by_cases hki:k < x.list.length
  ·have D0:=kept hbr.out d0;have D1:=kept hbr.out d1;have D2:=kept hbr.out d2;have D3:=kept hbr.out d3;have G4:=kept hbr.out g4;obtain ⟨y,hy⟩:=get_lt hki;obtain ⟨b3,off3,rfl,hb3,g5,-⟩:=str_at (R4.out.mono hbr.out) hy;have hd:=zh (drop_at hy);clear hy;have hbw:=zh (HB1.out.trans (hbr.out.mono HB1.out.size));go_wp2;refine still_tail 6 (by kernel_rfl) (by kernel_rfl) ?_;simp only [zt];repeat still_step
   refine wpStill_nil ?_;go_wp2_with fail
   refine (find_ref _ _ _ _ _ _ ls (h0.mono hbw.out.drew)).mono ?_;rintro e w2 ⟨rfl,hb2⟩;have hbr2:=zh (hbr.out.drew.trans (hb2.mono hbr.out.size));have HB2:=zh (hbw.out.drew.trans (hb2.mono hbw.out.size));clear hb2;cases q13:decide (findFrom y ls 0 < 0);case true =>
    go_wp2;go_ret;exact ⟨ret_i (by rw [HQ.out,hf.out,hd.out];simp [q13]),HB2.out⟩
   go_wp2;go_roundw
   case rel=>exact ⟨k+1,by omega,by omega,by go_num,hbr2.out,by show _=_;rw [hf.out,hd.out];simp [q13]⟩
   case measure=>exact zm
  ·have D0:=kept hbr.out d0;have D1:=kept hbr.out d1;have D2:=kept hbr.out d2;have D3:=kept hbr.out d3;have G4:=kept hbr.out g4;have HQ2:Hid (clauseErr ls (ps.take i) x=if !incr slt x.list then 5 else if !behind clauseLt (ps.take i) x then 5 else 0):=by
    show _=_;rw [HQ.out,hf.out,List.drop_eq_nil_of_le (by omega)];rfl
   have HBR:=zh (HB1.out.trans (hbr.out.mono HB1.out.size));have R4':=zh (R4.out.mono hbr.out);have HR':=zh (HR1.out.mono hbr.out);have G0:=kept hbr.out g0;have G1:=kept hbr.out g1;have G2:=kept hbr.out g2;have G3:=kept hbr.out g3;clear HQ hf d0 d1 d2 d3 g0 g1 g2 g3 g4 hbr;obtain ⟨wo,rfl⟩:∃ wo:World,wo=wr:=⟨_,rfl⟩
   go_wp2;go_loopw [7] (fun kv wr=>∃ k:Nat,1≤k∧k≤x.list.length+1∧kv=.int .i64 k∧(∃ n,wr=(wo).drewN n)∧Hid (incr slt x.list=incr slt (x.list.drop (k - 1)))) (fun kv _=>x.list.length - (intOf kv).toNat)
   case atStart=>exact ⟨1,by omega,by omega,rfl,(by first | exact ⟨_,rfl⟩ | exact ⟨0,rfl⟩),rfl⟩
   case round =>
    obtain ⟨k,hlo,hk,rfl,⟨n,rfl⟩,hf⟩:=hrel;by_cases hki:k < x.list.length
    ·obtain ⟨m,rfl⟩:∃ m,k=m+1:=⟨k - 1,by omega⟩
     obtain ⟨u,hu⟩:=get_lt (xs:=x.list) (k:=m) (by omega);obtain ⟨y,hy⟩:=get_lt hki;obtain ⟨b3,off3,rfl,hb3,g5,-⟩:=str_at R4'.out hu;obtain ⟨b5,off5,he5,hb5,g6,-⟩:=str_at R4'.out hy;obtain ⟨rfl,rfl⟩:b3=b5∧off3=off5:=by simpa using he5
     have hd:=zh (show x.list.drop (m+1 - 1)=u :: x.list.drop (m+1) from drop_at hu);have hd2:=zh (drop_at hy);have hul:m < x.list.length:=lt_get hu;clear hu hy he5;cases q14:Op.bytesLess u.toList y.toList;case true =>
      go_wp2;go_quiet (fail)
      go_wp2;go_roundw
      case rel=>exact ⟨m+1+1,by omega,by omega,by go_num,⟨_,rfl⟩,by show _=_;rw [hf.out,hd.out,hd2.out,incr_cons,slt,q14];rw [Bool.true_and,← hd2.out];rfl⟩
      case measure=>exact zm
     go_wp2;go_quiet (fail)
     go_wp2;go_ret;exact ⟨ret_i (by rw [HQ2.out];rw [hf.out,hd.out,hd2.out,incr_cons,slt,q14];rfl),(HBR.out.drewN _).drewN _⟩
    ·exact zqrefv0


theorem firstErr_cons {α:Type} (f:List α→α→Int) (pre:List α) (x:α) (xs:List α):firstErr f pre (x :: xs)=if f pre x != 0 then f pre x else firstErr f (pre++[x]) xs:=rfl
theorem Check_ref (w:World) (x0:Value) (c:Catalog) (h:Is w x0 c) :
  Calls Tryz.prog 53 #[x0] w fun e w'=>e=.returned (.int .i64 (checkC c))∧Below w.heap.size w w':=by
 obtain ⟨a0,c0,a1,c1,a2,c2,a3,c3,rfl,l0,m0,r0,l1,m1,r1,l2,m2,r2,l3,m3,r3⟩:=Catalog.inv h;have R0:=zh r0;have R1:=zh r1;have R2:=zh r2;have R3:=zh r3;have n0:c.licenses.length≤9223372036854775807:=by simp only [maxLen] at m0;omega
 have n1:c.exceptions.length≤9223372036854775807:=by simp only [maxLen] at m1;omega
 have n2:c.clauses.length≤9223372036854775807:=by simp only [maxLen] at m2;omega
 have n3:c.apart.length≤9223372036854775807:=by simp only [maxLen] at m3;omega
 clear h r0 r1 r2 r3;cases q1:decide ((32:Int) < c.licenses.length);case true =>
  go_enter Tryz.func53,Tryz.ntmps53;go_wp2;go_ret;exact ⟨ret_i (by simp only [checkC,q1];rfl),bw⟩
 cases q2:decide ((16:Int) < c.exceptions.length);case true =>
  go_enter Tryz.func53,Tryz.ntmps53;go_wp2;go_ret;exact ⟨ret_i (by simp only [checkC,q1,q2];rfl),bw⟩
 cases q3:decide ((128:Int) < c.clauses.length);case true =>
  go_enter Tryz.func53,Tryz.ntmps53;go_wp2;go_ret;exact ⟨ret_i (by simp only [checkC,q1,q2,q3];rfl),bw⟩
 cases q4:decide ((64:Int) < c.apart.length);case true =>
  go_enter Tryz.func53,Tryz.ntmps53;go_wp2;go_ret;exact ⟨ret_i (by simp only [checkC,q1,q2,q3,q4];rfl),bw⟩
 have HQ0:Hid (checkC c=orElse (firstErr licErr [] c.licenses) (orElse (firstErr (excErr c.licenses) [] c.exceptions) (orElse (firstErr (clauseErr c.licenses) [] c.clauses) (firstErr (pairErr c.licenses) [] c.apart)))):=by
  show _=_;simp only [checkC,q1,q2,q3,q4];rfl
 go_enter Tryz.func53,Tryz.ntmps53;go_wp2;clear q1 q2 q3 q4;have D0:(w.alloc (.cells #[.slice a0 c.licenses.length c0,.slice a1 c.exceptions.length c1,.slice a2 c.clauses.length c2,.slice a3 c.apart.length c3] 27)).cell? ⟨w.heap.size,0,none⟩=some (.slice a0 c.licenses.length c0):=by simp
 have D1:(w.alloc (.cells #[.slice a0 c.licenses.length c0,.slice a1 c.exceptions.length c1,.slice a2 c.clauses.length c2,.slice a3 c.apart.length c3] 27)).cell? ⟨w.heap.size,1,none⟩=some (.slice a1 c.exceptions.length c1):=by simp
 have D2:(w.alloc (.cells #[.slice a0 c.licenses.length c0,.slice a1 c.exceptions.length c1,.slice a2 c.clauses.length c2,.slice a3 c.apart.length c3] 27)).cell? ⟨w.heap.size,2,none⟩=some (.slice a2 c.clauses.length c2):=by simp
 have D3:(w.alloc (.cells #[.slice a0 c.licenses.length c0,.slice a1 c.exceptions.length c1,.slice a2 c.clauses.length c2,.slice a3 c.apart.length c3] 27)).cell? ⟨w.heap.size,3,none⟩=some (.slice a3 c.apart.length c3):=by simp
 have HB0:Hid (Below w.heap.size w (w.alloc (.cells #[.slice a0 c.licenses.length c0,.slice a1 c.exceptions.length c1,.slice a2 c.clauses.length c2,.slice a3 c.apart.length c3] 27))):=bw;generalize w.alloc (.cells #[.slice a0 c.licenses.length c0,.slice a1 c.exceptions.length c1,.slice a2 c.clauses.length c2,.slice a3 c.apart.length c3] 27)=v0 at *;go_loopw [3] (fun kv wr=>∃ k:Nat,0≤k∧k≤c.licenses.length+0∧kv=.int .i64 k∧Below (v0).heap.size (v0) wr∧Hid (firstErr licErr [] c.licenses=firstErr licErr (c.licenses.take k) (c.licenses.drop k))) (fun kv _=>c.licenses.length - (intOf kv).toNat)
 case atStart=>exact ⟨0,by omega,by omega,rfl,bw,rfl⟩
 case round =>
  obtain ⟨k,hlo,hk,rfl,hbr0,hf⟩:=hrel;have hbr:=zh hbr0;clear hbr0;by_cases hki:k < c.licenses.length
  ·have D00:=kept hbr.out D0;have D01:=kept hbr.out D1;have D02:=kept hbr.out D2;have D03:=kept hbr.out D3;obtain ⟨x,hx⟩:=get_lt hki;have hd:=zh (drop_at hx);have ht:=zh (take_at hx);have HX:=zh hx;have hwr:=zh (HB0.out.trans (hbr.out.mono HB0.out.size));clear hx;go_wp2_with fail
   have hx:=HX.out;refine (license_ref _ _ _ _ _ c.licenses k x (list_mk l0 m0 (R0.out.mono hwr.out)) hx).mono ?_;clear hx;rintro e w2 ⟨rfl,hb2⟩;have hbr2:=zh (hbr.out.trans (hb2.mono hbr.out.size));have HB':=zh (hwr.out.trans (hb2.mono hwr.out.size));clear hb2;cases q5:(licErr (c.licenses.take k) x != 0);case true =>
    go_wp2;go_ret;exact ⟨ret_i (by rw [HQ0.out,hf.out,hd.out,firstErr_cons,q5];simp [orElse,q5]),HB'.out⟩
   go_wp2;go_roundw
   case rel=>exact ⟨k+1,by omega,by omega,by go_num,hbr2.out,by show _=_;rw [hf.out,hd.out,firstErr_cons,q5,ht.out];rfl⟩
   case measure=>exact zm
  ·have D00:=kept hbr.out D0;have D01:=kept hbr.out D1;have D02:=kept hbr.out D2;have D03:=kept hbr.out D3;have HQ1:Hid (checkC c=(orElse (firstErr (excErr c.licenses) [] c.exceptions) (orElse (firstErr (clauseErr c.licenses) [] c.clauses) (firstErr (pairErr c.licenses) [] c.apart)))):=by
    show _=_;rw [HQ0.out,hf.out,List.drop_eq_nil_of_le (by omega)];rfl
   have HB1:=zh (HB0.out.trans (hbr.out.mono HB0.out.size));clear hf hbr;obtain ⟨v1,rfl⟩:∃ wo:World,wo=wr:=⟨_,rfl⟩
   go_wp2;go_loopw [5] (fun kv wr=>∃ k:Nat,0≤k∧k≤c.exceptions.length+0∧kv=.int .i64 k∧Below (v1).heap.size (v1) wr∧Hid (firstErr (excErr c.licenses) [] c.exceptions=firstErr (excErr c.licenses) (c.exceptions.take k) (c.exceptions.drop k))) (fun kv _=>c.exceptions.length - (intOf kv).toNat)
   case atStart=>exact ⟨0,by omega,by omega,rfl,bw,rfl⟩
   case round =>
    obtain ⟨k,hlo,hk,rfl,hbr0,hf⟩:=hrel;have hbr:=zh hbr0;clear hbr0;by_cases hki:k < c.exceptions.length
    ·have D10:=kept hbr.out D00;have D11:=kept hbr.out D01;have D12:=kept hbr.out D02;have D13:=kept hbr.out D03;obtain ⟨x,hx⟩:=get_lt hki;have hd:=zh (drop_at hx);have ht:=zh (take_at hx);have HX:=zh hx;have hwr:=zh (HB1.out.trans (hbr.out.mono HB1.out.size));clear hx;go_wp2_with fail
     have hx:=HX.out;refine (exception_ref _ _ _ _ _ c.licenses c.exceptions k x (list_mk l0 m0 (R0.out.mono hwr.out)) (list_mk l1 m1 (R1.out.mono hwr.out)) hx).mono ?_;clear hx;rintro e w2 ⟨rfl,hb2⟩;have hbr2:=zh (hbr.out.trans (hb2.mono hbr.out.size));have HB':=zh (hwr.out.trans (hb2.mono hwr.out.size));clear hb2;cases q6:((excErr c.licenses) (c.exceptions.take k) x != 0);case true =>
      go_wp2;go_ret;exact ⟨ret_i (by rw [HQ1.out,hf.out,hd.out,firstErr_cons,q6];simp [orElse,q6]),HB'.out⟩
     go_wp2;go_roundw
     case rel=>exact ⟨k+1,by omega,by omega,by go_num,hbr2.out,by show _=_;rw [hf.out,hd.out,firstErr_cons,q6,ht.out];rfl⟩
     case measure=>exact zm
    ·have D10:=kept hbr.out D00;have D11:=kept hbr.out D01;have D12:=kept hbr.out D02;have D13:=kept hbr.out D03;have HQ2:Hid (checkC c=(orElse (firstErr (clauseErr c.licenses) [] c.clauses) (firstErr (pairErr c.licenses) [] c.apart))):=by
      show _=_;rw [HQ1.out,hf.out,List.drop_eq_nil_of_le (by omega)];rfl
     have HB2:=zh (HB1.out.trans (hbr.out.mono HB1.out.size));clear hf hbr;obtain ⟨v2,rfl⟩:∃ wo:World,wo=wr:=⟨_,rfl⟩
     go_wp2;go_loopw [7] (fun kv wr=>∃ k:Nat,0≤k∧k≤c.clauses.length+0∧kv=.int .i64 k∧Below (v2).heap.size (v2) wr∧Hid (firstErr (clauseErr c.licenses) [] c.clauses=firstErr (clauseErr c.licenses) (c.clauses.take k) (c.clauses.drop k))) (fun kv _=>c.clauses.length - (intOf kv).toNat)
     case atStart=>exact ⟨0,by omega,by omega,rfl,bw,rfl⟩
     case round =>
      obtain ⟨k,hlo,hk,rfl,hbr0,hf⟩:=hrel;have hbr:=zh hbr0;clear hbr0;by_cases hki:k < c.clauses.length
      ·have D20:=kept hbr.out D10;have D21:=kept hbr.out D11;have D22:=kept hbr.out D12;have D23:=kept hbr.out D13;obtain ⟨x,hx⟩:=get_lt hki;have hd:=zh (drop_at hx);have ht:=zh (take_at hx);have HX:=zh hx;have hwr:=zh (HB2.out.trans (hbr.out.mono HB2.out.size));clear hx;go_wp2_with fail
       have hx:=HX.out;refine (clause_ref _ _ _ _ _ c.licenses c.clauses k x (list_mk l0 m0 (R0.out.mono hwr.out)) (list_mk l2 m2 (R2.out.mono hwr.out)) hx).mono ?_;clear hx;rintro e w2 ⟨rfl,hb2⟩;have hbr2:=zh (hbr.out.trans (hb2.mono hbr.out.size));have HB':=zh (hwr.out.trans (hb2.mono hwr.out.size));clear hb2;cases q7:((clauseErr c.licenses) (c.clauses.take k) x != 0);case true =>
        go_wp2;go_ret;exact ⟨ret_i (by rw [HQ2.out,hf.out,hd.out,firstErr_cons,q7];simp [orElse,q7]),HB'.out⟩
       go_wp2;go_roundw
       case rel=>exact ⟨k+1,by omega,by omega,by go_num,hbr2.out,by show _=_;rw [hf.out,hd.out,firstErr_cons,q7,ht.out];rfl⟩
       case measure=>exact zm
      ·have D20:=kept hbr.out D10;have D21:=kept hbr.out D11;have D22:=kept hbr.out D12;have D23:=kept hbr.out D13;have HQ3:Hid (checkC c=(firstErr (pairErr c.licenses) [] c.apart)):=by
        show _=_;rw [HQ2.out,hf.out,List.drop_eq_nil_of_le (by omega)];rfl
       have HB3:=zh (HB2.out.trans (hbr.out.mono HB2.out.size));clear hf hbr;obtain ⟨v3,rfl⟩:∃ wo:World,wo=wr:=⟨_,rfl⟩
       go_wp2;go_loopw [9] (fun kv wr=>∃ k:Nat,0≤k∧k≤c.apart.length+0∧kv=.int .i64 k∧Below (v3).heap.size (v3) wr∧Hid (firstErr (pairErr c.licenses) [] c.apart=firstErr (pairErr c.licenses) (c.apart.take k) (c.apart.drop k))) (fun kv _=>c.apart.length - (intOf kv).toNat)
       case atStart=>exact ⟨0,by omega,by omega,rfl,bw,rfl⟩
       case round =>
        obtain ⟨k,hlo,hk,rfl,hbr0,hf⟩:=hrel;have hbr:=zh hbr0;clear hbr0;by_cases hki:k < c.apart.length
        ·have D30:=kept hbr.out D20;have D31:=kept hbr.out D21;have D32:=kept hbr.out D22;have D33:=kept hbr.out D23;obtain ⟨x,hx⟩:=get_lt hki;have hd:=zh (drop_at hx);have ht:=zh (take_at hx);have HX:=zh hx;have hwr:=zh (HB3.out.trans (hbr.out.mono HB3.out.size));clear hx;go_wp2_with fail
         have hx:=HX.out;refine (pair_ref _ _ _ _ _ c.licenses c.apart k x (list_mk l0 m0 (R0.out.mono hwr.out)) (list_mk l3 m3 (R3.out.mono hwr.out)) hx).mono ?_;clear hx;rintro e w2 ⟨rfl,hb2⟩;have hbr2:=zh (hbr.out.trans (hb2.mono hbr.out.size));have HB':=zh (hwr.out.trans (hb2.mono hwr.out.size));clear hb2;cases q8:((pairErr c.licenses) (c.apart.take k) x != 0);case true =>
          go_wp2;go_ret;exact ⟨ret_i (by rw [HQ3.out,hf.out,hd.out,firstErr_cons,q8];simp [orElse,q8]),HB'.out⟩
         go_wp2;go_roundw
         case rel=>exact ⟨k+1,by omega,by omega,by go_num,hbr2.out,by show _=_;rw [hf.out,hd.out,firstErr_cons,q8,ht.out];rfl⟩
         case measure=>exact zm
        ·have D30:=kept hbr.out D20;have D31:=kept hbr.out D21;have D32:=kept hbr.out D22;have D33:=kept hbr.out D23;have HQ4:Hid (checkC c=0):=by
          show _=_;rw [HQ3.out,hf.out,List.drop_eq_nil_of_le (by omega)];rfl
         have HB4:=zh (HB3.out.trans (hbr.out.mono HB3.out.size));clear hf hbr;go_wp2;go_ret;exact ⟨ret_i (by rw [HQ4.out]),HB4.out⟩

end Go.Proofs.YtcbopdbbcgdkcaaGreatDoor
