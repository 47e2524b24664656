/- Lemmas. -/
import Derived.Deep.RegionHeld3
import Derived.Test.YtcbopdbbcgdkcaaGreatDoorLProV
set_option linter.all false
set_option maxRecDepth 100000
set_option maxHeartbeats 16000000
namespace Go.Proofs.YtcbopdbbcgdkcaaGreatDoor
open Go Go.RowKit Go.ChangeShapes

theorem zqprow0 {p:Prop} (h:p:=by
 obtain ⟨k,hlo,hk,rfl,hf⟩:=hrel;by_cases hki:k < x.list.length
 ·obtain ⟨y,hy⟩:=get_lt hki;obtain ⟨b3,off3,rfl,hb3,g5,-⟩:=str_at R4.out hy;have hd:=zh (drop_at hy);clear hy;have l1:=run_lookup_names (P:=Tryz.prog) (T:=157) Tryz.underlying9 Tryz.underlying157 zero_int (HM.out.mono HB.out) y;cases q31:(idxN y (ls.map License.name)).isSome;case true =>
   go_wp2;go_round
   case rel=>exact ⟨k+1,by omega,by omega,by go_num,by show _=_;rw [hf.out,hd.out];simp [find_neg_t q31]⟩
   case measure=>exact zm
  go_wp2;go_ret;exact ⟨ret_i (by rw [HQ.out,hf.out,hd.out];simp [find_neg_f q31]),HB.out⟩
 ·have HQ2:Hid (clauseErr ls (ps.take i) x=if !incr slt x.list then 5 else if !behind clauseLt (ps.take i) x then 5 else 0):=by
   show _=_;rw [HQ.out,hf.out,List.drop_eq_nil_of_le (by omega)];rfl
  clear HQ hf;go_wp2;cases q51:incr slt x.list;case true =>
   have HQ3:Hid (clauseErr ls (ps.take i) x=if !behind clauseLt (ps.take i) x then 5 else 0):=by
    show _=_;rw [HQ2.out,q51];rfl
   clear HQ2;cases i with
   | zero =>
    go_quiet (((go_at_call 159;exact Calls.quiet_of (increases_s _ _ _ ((list_mk m4 K4.out R4.out).mono bw)))))
    go_wp2;go_ret;exact ⟨ret_i (by rw [HQ3.out];rfl),HB.out.drewN _⟩
   | succ j =>
    obtain ⟨p,hp⟩:=get_lt (xs:=ps) (k:=j) (by omega);obtain ⟨b6,off6,he,hb6,pa,pc,u0,u1,u2,u3,u4,t0,t1,t2,t3,pm,pk,pr⟩:=Clause.at_row (HR.out.mono HB.out) hp;obtain ⟨rfl,rfl⟩:b=b6∧off=off6:=by simpa using he
    have hpl:j < ps.length:=lt_get hp;have HP:=zh (last_take hp);have IP:=zh (Clause.mk' ⟨t0,t1,t2,t3,pm,pk,pr⟩);have IX:=zh (Clause.mk' (x:=x) ⟨s0,S1.out,S2.out,S3.out,m4,K4.out,R4.out⟩);clear hp he t0 t1 t2 t3 pm pk pr;have hwj:IntKind.i64.wrap (j:Int)=j:=IntWalk.i64_in _ (by omega);have qc:=cmpClause_lt p x;cases r1:clauseLt p x;all_goals rw [r1] at qc
    all_goals go_region_held3 (fun w'=>w'.cell? ⟨w.heap.size,0,none⟩=some (.string x.license)∧w'.cell? ⟨w.heap.size,1,none⟩=some (.int .i64 x.way)∧w'.cell? ⟨w.heap.size,2,none⟩=some (.int .i64 x.relation)∧w'.cell? ⟨w.heap.size,3,none⟩=some (.int .i64 x.duty)∧w'.cell? ⟨w.heap.size,4,none⟩=some (.slice a4 x.list.length c4)∧w'.cell? ⟨b,off+j * 5,none⟩=some (.string p.license)∧w'.cell? ⟨b,off+j * 5+1,none⟩=some (.int .i64 p.way)∧w'.cell? ⟨b,off+j * 5+2,none⟩=some (.int .i64 p.relation)∧w'.cell? ⟨b,off+j * 5+3,none⟩=some (.int .i64 p.duty)∧w'.cell? ⟨b,off+j * 5+4,none⟩=some (.slice pa p.list.length pc)) (first | (go_keep;done) | exact ⟨kept hb3 (by simpa using g0),kept hb3 (by simpa using g1),kept hb3 (by simpa using g2),kept hb3 (by simpa using g3),kept hb3 (by simpa using g4),kept hb3 (by simpa using u0),kept hb3 (by simpa using u1),kept hb3 (by simpa using u2),kept hb3 (by simpa using u3),kept hb3 (by simpa using u4)⟩) (first | (go_at_call 159;refine (increases_s _ _ _ ((list_mk m4 K4.out R4.out).mono bw)).mono ?_;rintro e w2 ⟨rfl,nq2,rfl⟩) | (go_at_call 102;refine (compareClauses_p _ _ _ p x (IP.out.mono bw) (IX.out.mono bw)).mono ?_;rintro e w3 ⟨rfl,hb3⟩))
    all_goals go_wp2
    all_goals go_ret
    all_goals exact ⟨ret_i (by rw [HQ3.out];simp [behind,HP.out,r1]),(HB.out.drewN _).trans (Below.mono hb3 HB.out.size)⟩
  go_quiet (((go_at_call 159;exact Calls.quiet_of (increases_s _ _ _ ((list_mk m4 K4.out R4.out).mono bw)))))
  go_wp2;go_ret;exact ⟨ret_i (by rw [HQ2.out,q51];rfl),HB.out.drewN _⟩):p:=h
theorem zrprow0 {p:Prop} (h:p:=by
 go_wp2_with (go_at_call 157;refine (isDuty_p _ _).mono ?_;rintro e w1 ⟨rfl,rfl⟩)
 clear l0 c0 c1 c2 c3 c4';generalize w.alloc (.cells #[.string x.license,.int .i64 x.way,.int .i64 x.relation,.int .i64 x.duty,.slice a4 x.list.length c4] 74)=w1 at *;have HB:=zh HBx.out;clear HBx;go_loop [64] (fun kv=>∃ k:Nat,0≤k∧k≤x.list.length+0∧kv=.int .i64 k∧Hid ((x.list.all fun s=>!decide (findFrom s ls 0 < 0))=((x.list.drop k).all fun s=>!decide (findFrom s ls 0 < 0)))) (fun kv=>x.list.length - (intOf kv).toNat)
 case atStart=>exact ⟨0,by omega,by omega,rfl,rfl⟩
 case round =>exact zqprow0):p:=h
theorem checkClause_p (w:World) (x0:Value) (bm:Nat) (ls:List License) (ps:List Clause) (i:Nat) (x:Clause) (hm:NameMap w bm (ls.map License.name)) (h:Is w x0 ps) (hx:ps[i]?=some x) :
  Calls Tryz.prog 110 #[x0,.int .i64 i,.map (some bm)] w fun e w'=>e=.returned (.int .i64 (clauseErr ls (ps.take i) x))∧Below w.heap.size w w':=by
 obtain ⟨a,c,rfl,hnc,hc,hr⟩:=list_inv h;simp only [maxLen] at hc;clear h;have hlt:i < ps.length:=lt_get hx;obtain ⟨b,off,rfl,hb,a4,c4,c0,c1,c2,c3,c4',s0,s1,s2,s3,m4,k4,r4⟩:=Clause.at_row hr hx;have S1:=zh s1;have S2:=zh s2;have S3:=zh s3;have K4:=zh k4;simp only [maxLen] at k4;have HR:=zh hr;have HM:=zh hm;clear hx hr hm s1 s2 s3;have g0:(w.alloc (.cells #[.string x.license,.int .i64 x.way,.int .i64 x.relation,.int .i64 x.duty,.slice a4 x.list.length c4] 74)).cell? ⟨w.heap.size,0,none⟩=some (.string x.license):=by simp
 have g1:(w.alloc (.cells #[.string x.license,.int .i64 x.way,.int .i64 x.relation,.int .i64 x.duty,.slice a4 x.list.length c4] 74)).cell? ⟨w.heap.size,1,none⟩=some (.int .i64 x.way):=by simp
 have g2:(w.alloc (.cells #[.string x.license,.int .i64 x.way,.int .i64 x.relation,.int .i64 x.duty,.slice a4 x.list.length c4] 74)).cell? ⟨w.heap.size,2,none⟩=some (.int .i64 x.relation):=by simp
 have g3:(w.alloc (.cells #[.string x.license,.int .i64 x.way,.int .i64 x.relation,.int .i64 x.duty,.slice a4 x.list.length c4] 74)).cell? ⟨w.heap.size,3,none⟩=some (.int .i64 x.duty):=by simp
 have g4:(w.alloc (.cells #[.string x.license,.int .i64 x.way,.int .i64 x.relation,.int .i64 x.duty,.slice a4 x.list.length c4] 74)).cell? ⟨w.heap.size,4,none⟩=some (.slice a4 x.list.length c4):=by simp
 have hbw:Below w.heap.size w (w.alloc (.cells #[.string x.license,.int .i64 x.way,.int .i64 x.relation,.int .i64 x.duty,.slice a4 x.list.length c4] 74)):=bw;go_enter Tryz.func110,Tryz.ntmps110;have HBx:=zh hbw;have l0:=run_lookup_names (P:=Tryz.prog) (T:=157) Tryz.underlying9 Tryz.underlying157 zero_int (HM.out.mono HBx.out) x.license;have R4:=zh (r4.mono hbw);clear hbw r4;cases q1:(idxN x.license (ls.map License.name)).isSome;case true =>
  have HF:=zh (find_neg_t q1);cases q2:decide (x.way < 0);case true =>
   clear g0 g1 g2 g3 g4;go_wp2_with (go_at_call 157;refine (isDuty_p _ _).mono ?_;rintro e w1 ⟨rfl,rfl⟩)
   go_ret;exact ⟨ret_i (by simp only [clauseErr,HF.out,q2];rfl),bw⟩
  cases q3:decide (2 < x.way);case true =>
   clear g0 g1 g2 g3 g4;go_wp2_with (go_at_call 157;refine (isDuty_p _ _).mono ?_;rintro e w1 ⟨rfl,rfl⟩)
   go_ret;exact ⟨ret_i (by simp only [clauseErr,HF.out,q2,q3];rfl),bw⟩
  cases q4:decide (x.relation < 0);case true =>
   clear g0 g1 g2 g3 g4;go_wp2_with (go_at_call 157;refine (isDuty_p _ _).mono ?_;rintro e w1 ⟨rfl,rfl⟩)
   go_ret;exact ⟨ret_i (by simp only [clauseErr,HF.out,q2,q3,q4];rfl),bw⟩
  cases q5:decide (2 < x.relation);case true =>
   clear g0 g1 g2 g3 g4;go_wp2_with (go_at_call 157;refine (isDuty_p _ _).mono ?_;rintro e w1 ⟨rfl,rfl⟩)
   go_ret;exact ⟨ret_i (by simp only [clauseErr,HF.out,q2,q3,q4,q5];rfl),bw⟩
  cases q6:dutyOK x.duty;case true =>
   have hdu:decide (x.duty < 0)=false∧decide (5 < x.duty)=false:=by rw [dutyOK_eq] at q6;cases d1:decide (x.duty < 0) <;> cases d2:decide (5 < x.duty) <;> simp [d1,d2] at q6 ⊢
   have HD:=zh hdu;clear hdu;cases q7:(x.duty == 4);case true =>
    cases q8:decide (0 < x.list.length);case true =>
     have HQ:Hid (clauseErr ls (ps.take i) x=if !(x.list.all fun s=>!decide (findFrom s ls 0 < 0)) then 7 else if !incr slt x.list then 5 else if !behind clauseLt (ps.take i) x then 5 else 0):=by
      show _=_;simp only [clauseErr,HF.out,q2,q3,q4,q5,HD.out.1,HD.out.2,q7,q8];rfl
     exact zrprow0
    clear g0 g1 g2 g3 g4;go_wp2_with (go_at_call 157;refine (isDuty_p _ _).mono ?_;rintro e w1 ⟨rfl,rfl⟩)
    go_ret;exact ⟨ret_i (by simp only [clauseErr,HF.out,q2,q3,q4,q5,HD.out.1,HD.out.2,q7,q8];rfl),bw⟩
   cases q9:decide (0 < x.list.length);case true =>
    clear g0 g1 g2 g3 g4;go_wp2_with (go_at_call 157;refine (isDuty_p _ _).mono ?_;rintro e w1 ⟨rfl,rfl⟩)
    go_ret;exact ⟨ret_i (by simp only [clauseErr,HF.out,q2,q3,q4,q5,HD.out.1,HD.out.2,q7,q9];rfl),bw⟩
   have HQ:Hid (clauseErr ls (ps.take i) x=if !(x.list.all fun s=>!decide (findFrom s ls 0 < 0)) then 7 else if !incr slt x.list then 5 else if !behind clauseLt (ps.take i) x then 5 else 0):=by
    show _=_;simp only [clauseErr,HF.out,q2,q3,q4,q5,HD.out.1,HD.out.2,q7,q9];rfl
   exact zrprow0
  clear g0 g1 g2 g3 g4;go_wp2_with (go_at_call 157;refine (isDuty_p _ _).mono ?_;rintro e w1 ⟨rfl,rfl⟩)
  go_ret;refine ⟨ret_i ?_,bw⟩;rw [dutyOK_eq] at q6;simp only [clauseErr,HF.out,q2,q3,q4,q5];cases d1:decide (x.duty < 0) <;> cases d2:decide (5 < x.duty) <;> simp [d1,d2] at q6 ⊢
 clear g0 g1 g2 g3 g4;go_wp2;go_ret;exact ⟨ret_i (by simp [clauseErr,find_neg_f q1]),bw⟩

theorem Check_p (w:World) (x0:Value) (c:Catalog) (hg:Glob w) (h:Is w x0 c) :
  Calls Tryz.prog 51 #[x0] w fun e w'=>e=.returned (.int .i64 (checkC c))∧Below w.heap.size w w':=by
 obtain ⟨a0,c0,a1,c1,a2,c2,a3,c3,rfl,l0,m0,r0,l1,m1,r1,l2,m2,r2,l3,m3,r3⟩:=Catalog.inv h;have R0:=zh r0;have R1:=zh r1;have R2:=zh r2;have R3:=zh r3;have n0:c.licenses.length≤9223372036854775807:=by simp only [maxLen] at m0;omega
 have n1:c.exceptions.length≤9223372036854775807:=by simp only [maxLen] at m1;omega
 have n2:c.clauses.length≤9223372036854775807:=by simp only [maxLen] at m2;omega
 have n3:c.apart.length≤9223372036854775807:=by simp only [maxLen] at m3;omega
 clear h r0 r1 r2 r3;cases q1:decide ((32:Int) < c.licenses.length);case true =>
  go_enter Tryz.func51,Tryz.ntmps51;go_wp2;go_ret;exact ⟨ret_i (by simp only [checkC,q1];rfl),bw⟩
 cases q2:decide ((16:Int) < c.exceptions.length);case true =>
  go_enter Tryz.func51,Tryz.ntmps51;go_wp2;go_ret;exact ⟨ret_i (by simp only [checkC,q1,q2];rfl),bw⟩
 cases q3:decide ((128:Int) < c.clauses.length);case true =>
  go_enter Tryz.func51,Tryz.ntmps51;go_wp2;go_ret;exact ⟨ret_i (by simp only [checkC,q1,q2,q3];rfl),bw⟩
 cases q4:decide ((64:Int) < c.apart.length);case true =>
  go_enter Tryz.func51,Tryz.ntmps51;go_wp2;go_ret;exact ⟨ret_i (by simp only [checkC,q1,q2,q3,q4];rfl),bw⟩
 have HQ0:Hid (checkC c=orElse (firstErr licErr [] c.licenses) (orElse (firstErr (excErr c.licenses) [] c.exceptions) (orElse (firstErr (clauseErr c.licenses) [] c.clauses) (firstErr (pairErr c.licenses) [] c.apart)))):=by
  show _=_;simp only [checkC,q1,q2,q3,q4];rfl
 go_enter Tryz.func51,Tryz.ntmps51;go_wp2;clear q1 q2 q3 q4;have D0:(w.alloc (.cells #[.slice a0 c.licenses.length c0,.slice a1 c.exceptions.length c1,.slice a2 c.clauses.length c2,.slice a3 c.apart.length c3] 27)).cell? ⟨w.heap.size,0,none⟩=some (.slice a0 c.licenses.length c0):=by simp
 have D1:(w.alloc (.cells #[.slice a0 c.licenses.length c0,.slice a1 c.exceptions.length c1,.slice a2 c.clauses.length c2,.slice a3 c.apart.length c3] 27)).cell? ⟨w.heap.size,1,none⟩=some (.slice a1 c.exceptions.length c1):=by simp
 have D2:(w.alloc (.cells #[.slice a0 c.licenses.length c0,.slice a1 c.exceptions.length c1,.slice a2 c.clauses.length c2,.slice a3 c.apart.length c3] 27)).cell? ⟨w.heap.size,2,none⟩=some (.slice a2 c.clauses.length c2):=by simp
 have D3:(w.alloc (.cells #[.slice a0 c.licenses.length c0,.slice a1 c.exceptions.length c1,.slice a2 c.clauses.length c2,.slice a3 c.apart.length c3] 27)).cell? ⟨w.heap.size,3,none⟩=some (.slice a3 c.apart.length c3):=by simp
 have HB0:Hid (Below w.heap.size w (w.alloc (.cells #[.slice a0 c.licenses.length c0,.slice a1 c.exceptions.length c1,.slice a2 c.clauses.length c2,.slice a3 c.apart.length c3] 27))):=bw;generalize w.alloc (.cells #[.slice a0 c.licenses.length c0,.slice a1 c.exceptions.length c1,.slice a2 c.clauses.length c2,.slice a3 c.apart.length c3] 27)=v0 at *;go_loopw [37] (fun kv wr=>∃ k:Nat,0≤k∧k≤c.licenses.length+0∧kv=.int .i64 k∧Below (v0).heap.size (v0) wr∧Hid (firstErr licErr [] c.licenses=firstErr licErr (c.licenses.take k) (c.licenses.drop k))) (fun kv _=>c.licenses.length - (intOf kv).toNat)
 case atStart=>exact ⟨0,by omega,by omega,rfl,bw,rfl⟩
 case round =>
  obtain ⟨k,hlo,hk,rfl,hbr0,hf⟩:=hrel;have hbr:=zh hbr0;clear hbr0;by_cases hki:k < c.licenses.length
  ·have D00:=kept hbr.out D0;have D01:=kept hbr.out D1;have D02:=kept hbr.out D2;have D03:=kept hbr.out D3;obtain ⟨x,hx⟩:=get_lt hki;have hd:=zh (drop_at hx);have ht:=zh (take_at hx);have HX:=zh hx;have hwr:=zh (HB0.out.trans (hbr.out.mono HB0.out.size));clear hx;go_wp2_with fail
   have hx:=HX.out;refine (checkLicense_p _ _ c.licenses k x (hg.mono hwr.out) (list_mk l0 m0 (R0.out.mono hwr.out)) hx).mono ?_;clear hx;rintro e w2 ⟨rfl,hb2⟩;have hbr2:=zh (hbr.out.trans (hb2.mono hbr.out.size));have HB':=zh (hwr.out.trans (hb2.mono hwr.out.size));clear hb2;cases q5:(licErr (c.licenses.take k) x != 0);case true =>
    go_wp2;go_ret;exact ⟨ret_i (by rw [HQ0.out,hf.out,hd.out,firstErr_cons,q5];simp [orElse,q5]),HB'.out⟩
   go_wp2;go_roundw
   case rel=>exact ⟨k+1,by omega,by omega,by go_num,hbr2.out,by show _=_;rw [hf.out,hd.out,firstErr_cons,q5,ht.out];rfl⟩
   case measure=>exact zm
  ·have D00:=kept hbr.out D0;have D01:=kept hbr.out D1;have D02:=kept hbr.out D2;have D03:=kept hbr.out D3;have HQ1:Hid (checkC c=(orElse (firstErr (excErr c.licenses) [] c.exceptions) (orElse (firstErr (clauseErr c.licenses) [] c.clauses) (firstErr (pairErr c.licenses) [] c.apart)))):=by
    show _=_;rw [HQ0.out,hf.out,List.drop_eq_nil_of_le (by omega)];rfl
   have HB1:=zh (HB0.out.trans (hbr.out.mono HB0.out.size));have hz:firstErr licErr [] c.licenses=0:=by rw [hf.out,List.drop_eq_nil_of_le (by omega)];rfl
   have HZ:=zh (lic_nodup hz);clear hf hbr hz;obtain ⟨v1,rfl⟩:∃ wo:World,wo=wr:=⟨_,rfl⟩
   go_wp2_with fail
   refine (index_p _ _ _ _ _ c.licenses (list_mk l0 m0 (R0.out.mono HB1.out)) HZ.out).mono ?_;rintro e u ⟨bm,rfl,hm,-,hbu⟩;obtain ⟨D00,D01,D02,D03⟩:=k4 hbu D00 D01 D02 D03;have HM:=zh hm;have HU:=zh (Below.refl u.heap.size u);have HB1:=zh (HB1.out.trans (hbu.mono HB1.out.size));clear hm hbu;go_wp2;go_loopw [53] (fun kv wr=>∃ k:Nat,0≤k∧k≤c.exceptions.length+0∧kv=.int .i64 k∧Below (u).heap.size (u) wr∧Hid (firstErr (excErr c.licenses) [] c.exceptions=firstErr (excErr c.licenses) (c.exceptions.take k) (c.exceptions.drop k))) (fun kv _=>c.exceptions.length - (intOf kv).toNat)
   case atStart=>exact ⟨0,by omega,by omega,rfl,bw,rfl⟩
   case round =>
    obtain ⟨k,hlo,hk,rfl,hbr0,hf⟩:=hrel;have hbr:=zh hbr0;clear hbr0;by_cases hki:k < c.exceptions.length
    ·have D10:=kept hbr.out D00;have D11:=kept hbr.out D01;have D12:=kept hbr.out D02;have D13:=kept hbr.out D03;obtain ⟨x,hx⟩:=get_lt hki;have hd:=zh (drop_at hx);have ht:=zh (take_at hx);have HX:=zh hx;have hbm:=zh (HU.out.trans (hbr.out.mono HU.out.size));have hwr:=zh (HB1.out.trans (hbr.out.mono HB1.out.size));clear hx;go_wp2_with fail
     have hx:=HX.out;refine (checkException_p _ _ bm c.licenses c.exceptions k x (HM.out.mono hbm.out) (list_mk l1 m1 (R1.out.mono hwr.out)) hx).mono ?_;clear hx;rintro e w2 ⟨rfl,hb2⟩;have hbr2:=zh (hbr.out.trans (hb2.mono hbr.out.size));have HB':=zh (hwr.out.trans (hb2.mono hwr.out.size));clear hb2;cases q6:((excErr c.licenses) (c.exceptions.take k) x != 0);case true =>
      go_wp2;go_ret;exact ⟨ret_i (by rw [HQ1.out,hf.out,hd.out,firstErr_cons,q6];simp [orElse,q6]),HB'.out⟩
     go_wp2;go_roundw
     case rel=>exact ⟨k+1,by omega,by omega,by go_num,hbr2.out,by show _=_;rw [hf.out,hd.out,firstErr_cons,q6,ht.out];rfl⟩
     case measure=>exact zm
    ·have D10:=kept hbr.out D00;have D11:=kept hbr.out D01;have D12:=kept hbr.out D02;have D13:=kept hbr.out D03;have HQ2:Hid (checkC c=(orElse (firstErr (clauseErr c.licenses) [] c.clauses) (firstErr (pairErr c.licenses) [] c.apart))):=by
      show _=_;rw [HQ1.out,hf.out,List.drop_eq_nil_of_le (by omega)];rfl
     have HB2:=zh (HB1.out.trans (hbr.out.mono HB1.out.size));have HU:=zh (HU.out.trans (hbr.out.mono HU.out.size));clear hf hbr;obtain ⟨v2,rfl⟩:∃ wo:World,wo=wr:=⟨_,rfl⟩
     go_wp2;go_loopw [68] (fun kv wr=>∃ k:Nat,0≤k∧k≤c.clauses.length+0∧kv=.int .i64 k∧Below (v2).heap.size (v2) wr∧Hid (firstErr (clauseErr c.licenses) [] c.clauses=firstErr (clauseErr c.licenses) (c.clauses.take k) (c.clauses.drop k))) (fun kv _=>c.clauses.length - (intOf kv).toNat)
     case atStart=>exact ⟨0,by omega,by omega,rfl,bw,rfl⟩
     case round =>
      obtain ⟨k,hlo,hk,rfl,hbr0,hf⟩:=hrel;have hbr:=zh hbr0;clear hbr0;by_cases hki:k < c.clauses.length
      ·have D20:=kept hbr.out D10;have D21:=kept hbr.out D11;have D22:=kept hbr.out D12;have D23:=kept hbr.out D13;obtain ⟨x,hx⟩:=get_lt hki;have hd:=zh (drop_at hx);have ht:=zh (take_at hx);have HX:=zh hx;have hbm:=zh (HU.out.trans (hbr.out.mono HU.out.size));have hwr:=zh (HB2.out.trans (hbr.out.mono HB2.out.size));clear hx;go_wp2_with fail
       have hx:=HX.out;refine (checkClause_p _ _ bm c.licenses c.clauses k x (HM.out.mono hbm.out) (list_mk l2 m2 (R2.out.mono hwr.out)) hx).mono ?_;clear hx;rintro e w2 ⟨rfl,hb2⟩;have hbr2:=zh (hbr.out.trans (hb2.mono hbr.out.size));have HB':=zh (hwr.out.trans (hb2.mono hwr.out.size));clear hb2;cases q7:((clauseErr c.licenses) (c.clauses.take k) x != 0);case true =>
        go_wp2;go_ret;exact ⟨ret_i (by rw [HQ2.out,hf.out,hd.out,firstErr_cons,q7];simp [orElse,q7]),HB'.out⟩
       go_wp2;go_roundw
       case rel=>exact ⟨k+1,by omega,by omega,by go_num,hbr2.out,by show _=_;rw [hf.out,hd.out,firstErr_cons,q7,ht.out];rfl⟩
       case measure=>exact zm
      ·have D20:=kept hbr.out D10;have D21:=kept hbr.out D11;have D22:=kept hbr.out D12;have D23:=kept hbr.out D13;have HQ3:Hid (checkC c=(firstErr (pairErr c.licenses) [] c.apart)):=by
        show _=_;rw [HQ2.out,hf.out,List.drop_eq_nil_of_le (by omega)];rfl
       have HB3:=zh (HB2.out.trans (hbr.out.mono HB2.out.size));have HU:=zh (HU.out.trans (hbr.out.mono HU.out.size));clear hf hbr;obtain ⟨v3,rfl⟩:∃ wo:World,wo=wr:=⟨_,rfl⟩
       go_wp2;go_loopw [83] (fun kv wr=>∃ k:Nat,0≤k∧k≤c.apart.length+0∧kv=.int .i64 k∧Below (v3).heap.size (v3) wr∧Hid (firstErr (pairErr c.licenses) [] c.apart=firstErr (pairErr c.licenses) (c.apart.take k) (c.apart.drop k))) (fun kv _=>c.apart.length - (intOf kv).toNat)
       case atStart=>exact ⟨0,by omega,by omega,rfl,bw,rfl⟩
       case round =>
        obtain ⟨k,hlo,hk,rfl,hbr0,hf⟩:=hrel;have hbr:=zh hbr0;clear hbr0;by_cases hki:k < c.apart.length
        ·have D30:=kept hbr.out D20;have D31:=kept hbr.out D21;have D32:=kept hbr.out D22;have D33:=kept hbr.out D23;obtain ⟨x,hx⟩:=get_lt hki;have hd:=zh (drop_at hx);have ht:=zh (take_at hx);have HX:=zh hx;have hbm:=zh (HU.out.trans (hbr.out.mono HU.out.size));have hwr:=zh (HB3.out.trans (hbr.out.mono HB3.out.size));clear hx;go_wp2_with fail
         have hx:=HX.out;refine (checkPair_p _ _ bm c.licenses c.apart k x (HM.out.mono hbm.out) (list_mk l3 m3 (R3.out.mono hwr.out)) hx).mono ?_;clear hx;rintro e w2 ⟨rfl,hb2⟩;have hbr2:=zh (hbr.out.trans (hb2.mono hbr.out.size));have HB':=zh (hwr.out.trans (hb2.mono hwr.out.size));clear hb2;cases q8:((pairErr c.licenses) (c.apart.take k) x != 0);case true =>
          go_wp2;go_ret;exact ⟨ret_i (by rw [HQ3.out,hf.out,hd.out,firstErr_cons,q8];simp [orElse,q8]),HB'.out⟩
         go_wp2;go_roundw
         case rel=>exact ⟨k+1,by omega,by omega,by go_num,hbr2.out,by show _=_;rw [hf.out,hd.out,firstErr_cons,q8,ht.out];rfl⟩
         case measure=>exact zm
        ·have D30:=kept hbr.out D20;have D31:=kept hbr.out D21;have D32:=kept hbr.out D22;have D33:=kept hbr.out D23;have HQ4:Hid (checkC c=0):=by
          show _=_;rw [HQ3.out,hf.out,List.drop_eq_nil_of_le (by omega)];rfl
         have HB4:=zh (HB3.out.trans (hbr.out.mono HB3.out.size));clear hf hbr;go_wp2;go_ret;exact ⟨ret_i (by rw [HQ4.out]),HB4.out⟩

end Go.Proofs.YtcbopdbbcgdkcaaGreatDoor
