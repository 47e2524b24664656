/- Lemmas. -/
import Derived.Test.YtcbopdbbcgdkcaaGreatDoorLR33U
set_option linter.all false
set_option maxRecDepth 100000
set_option maxHeartbeats 16000000
namespace Go.Proofs.YtcbopdbbcgdkcaaGreatDoor
open Go Go.RowKit Go.ChangeShapes Go.Lib

theorem Before_ref (w:World) (a b:Term) :
  Calls Tryz.prog 262 #[.agg #[.string a.license,.string a.exception],.agg #[.string b.license,.string b.exception]] w fun e w'=>e=.returned (.bool (bef a b))∧Below w.heap.size w w':=by
 have HP:Hid (bef a b=(Op.bytesLess a.license.toList b.license.toList || ((a.license.toList == b.license.toList) && Op.bytesLess a.exception.toList b.exception.toList))):=rfl;cases q1:Op.bytesLess a.license.toList b.license.toList;case true =>
  go_enter Tryz.func262,Tryz.ntmps262;go_wp2;go_ret;exact ⟨ret_b (by rw [HP.out,q1];rfl),bw⟩
 cases q2:(a.license.toList == b.license.toList);case false =>
  go_enter Tryz.func262,Tryz.ntmps262;go_wp2;go_ret;exact ⟨ret_b (by rw [HP.out,q1,q2];rfl),bw⟩
 case true =>
  go_enter Tryz.func262,Tryz.ntmps262;go_wp2;go_ret;exact ⟨ret_b (by rw [HP.out,q1,q2];simp),bw⟩
theorem lcmp_lt {x y:Term} {a b:List Term} (h:bef x y=true):lcmp tcmp (x :: a) (y :: b) = -1:=by
 rw [bef_eq] at h;have h1:=of_decide_eq_true h;have h2:=tcmp_to.rng x y;have h3:tcmp x y = -1:=by omega
 rw [lcmp,h3];rfl
theorem lcmp_gt {x y:Term} {a b:List Term} (h:bef y x=true):lcmp tcmp (x :: a) (y :: b)=1:=by
 rw [bef_eq] at h;have h1:=of_decide_eq_true h;have h2:=tcmp_to.rng x y;rw [tcmp_to.sw x y] at h1;have h3:tcmp x y=1:=by omega
 rw [lcmp,h3];rfl
theorem lcmp_on {x y:Term} {a b:List Term} (h:bef x y=false) (k:bef y x=false):lcmp tcmp (x :: a) (y :: b)=lcmp tcmp a b:=by
 rw [bef_eq] at h k;have h1:=of_decide_eq_false h;have k1:=of_decide_eq_false k;rw [tcmp_to.sw x y] at k1;have h3:tcmp x y=0:=by omega
 rw [lcmp,h3];rfl
theorem zrdecu0 {p:Prop} (h:p:=by
 go_enter Tryz.func231,Tryz.ntmps231;go_wp2;go_ret;exact ⟨ret_i HF.out.symm,Below.refl _ _⟩):p:=h
theorem Compare_ref (w:World) (v1 v2:Value) (xs ys:List Term) (h1:Is w v1 xs) (h2:Is w v2 ys) :
  Calls Tryz.prog 231 #[v1,v2] w fun e w'=>e=.returned (.int .i64 (acmp xs ys))∧Below w.heap.size w w':=by
 obtain ⟨a,c,rfl,hnc,hcm,hr⟩:=list_inv h1;obtain ⟨b,d,rfl,hnd,hdm,hs⟩:=list_inv h2;simp only [maxLen] at hcm hdm;have HR:=zh hr;have HS:=zh hs;have HD:Hid (acmp xs ys=lex2 (ncmp xs.length ys.length) (lcmp tcmp xs ys)):=rfl;clear hr hs h1 h2;generalize hN:xs.length=N at *;have HN:=zh hN;clear hN;generalize hM:ys.length=M at *;have HM:=zh hM;clear hM;by_cases hne:N=M
 case neg =>
  have q0:((N:Int) != (M:Int))=true:=by simp;omega
  by_cases q1:(N:Int) < (M:Int)
  ·have HF:Hid (acmp xs ys = -1):=by show _=_;rw [HD.out];unfold ncmp lex2;rw [if_pos (show N < M by omega)];rfl
   exact zrdecu0
  ·have HF:Hid (acmp xs ys=1):=by show _=_;rw [HD.out];unfold ncmp lex2;rw [if_neg (show ¬ N < M by omega),if_pos (show M < N by omega)];rfl
   exact zrdecu0
 subst hne;have HL:Hid (acmp xs ys=lcmp tcmp xs ys):=by show _=_;rw [HD.out];unfold ncmp;rw [if_neg (Nat.lt_irrefl _),if_neg (Nat.lt_irrefl _)];rfl
 have q0:((N:Int) != (N:Int))=false:=by simp
 clear HD;go_enter Tryz.func231,Tryz.ntmps231;go_wp2;clear q0;go_loopw [5] (fun i wr=>∃ k:Nat,k≤N∧i=.int .i64 k∧Hid (Below w.heap.size w wr)∧Hid (acmp xs ys=lcmp tcmp (xs.drop k) (ys.drop k))) (fun i _=>N - (intOf i).toNat)
 case atStart=>exact ⟨0,by omega,rfl,Below.refl _ _,HL⟩
 case round =>
  obtain ⟨k,hk,rfl,HB,HC⟩:=hrel;by_cases hki:k < N
  ·have hkz:(k:Int) < (N:Int):=by omega
   have hk0:(0:Int)≤(k:Int):=by omega
   obtain ⟨x,hx⟩:=get_lt (xs:=xs) (k:=k) (by rw [HN.out];exact hki);obtain ⟨y,hy⟩:=get_lt (xs:=ys) (k:=k) (by rw [HM.out];exact hki);obtain ⟨bx,ox,rfl,hbx,x0',x1',-⟩:=Term.at_row HR.out hx;obtain ⟨by',oy,rfl,hby,y0',y1',-⟩:=Term.at_row HS.out hy;have x0:=kept HB.out x0';have x1:=kept HB.out x1';have y0:=kept HB.out y0';have y1:=kept HB.out y1';have hsx:=cell_lt x0;have hsy:=cell_lt y0;have hcall:=fun W=>Before_ref W x y;have hcall2:=fun W=>Before_ref W y x;have HX:Hid (acmp xs ys=lcmp tcmp (x :: xs.drop (k+1)) (y :: ys.drop (k+1))):=by show _=_;rw [HC.out,drop_at hx,drop_at hy]
   have L1:Hid (bef x y=true→acmp xs ys = -1):=fun h=>by rw [HX.out,lcmp_lt h]
   have L2:Hid (bef y x=true→acmp xs ys=1):=fun h=>by rw [HX.out,lcmp_gt h]
   have L3:Hid (bef x y=false→bef y x=false→acmp xs ys=lcmp tcmp (xs.drop (k+1)) (ys.drop (k+1))):=fun h k=>by rw [HX.out,lcmp_on h k]
   clear hx hy x0' x1' y0' y1' HX;generalize bef x y=b1 at *;generalize bef y x=b2 at *;cases b1;case true =>
    go_wp2;refine still_tail 8 (by kernel_rfl) (by kernel_rfl) ?_;simp only [zt];repeat still_step
    refine wpStill_nil ?_;go_wp2_with fail
    refine (hcall _).mono ?_;rintro e w2 ⟨rfl,hg⟩;have HB2:Hid (Below w.heap.size w w2):=HB.out.trans (((Below.refl wr.heap.size wr).drew.trans hg).mono HB.out.size);clear hg hcall hcall2;go_wp2;go_ret;exact ⟨ret_i (L1.out (by first | rfl | trivial)).symm,HB2.out⟩
   case false =>
    go_wp2;refine still_tail 8 (by kernel_rfl) (by kernel_rfl) ?_;simp only [zt];repeat still_step
    refine wpStill_nil ?_;go_wp2_with fail
    refine (hcall _).mono ?_;rintro e w2 ⟨rfl,hg⟩;have hw2:Below wr.heap.size wr w2:=(Below.refl wr.heap.size wr).drew.trans hg;have HB2:Hid (Below w.heap.size w w2):=HB.out.trans (hw2.mono HB.out.size);have x0':=kept hw2 x0;have x1':=kept hw2 x1;have y0':=kept hw2 y0;have y1':=kept hw2 y1;have hsx:=cell_lt x0';have hsy:=cell_lt y0';clear hg hcall x0 x1 y0 y1 hw2;go_wp2;refine still_tail 8 (by kernel_rfl) (by kernel_rfl) ?_;simp only [zt];repeat still_step
    refine wpStill_nil ?_;go_wp2_with fail
    refine (hcall2 _).mono ?_;rintro e w3 ⟨rfl,hg⟩;have HB3:Hid (Below w.heap.size w w3):=HB2.out.trans (((Below.refl w2.heap.size w2).drew.trans hg).mono HB2.out.size);clear hg hcall2 x0' x1' y0' y1';cases b2;case true =>
     go_wp2;go_ret;exact ⟨ret_i (L2.out (by first | rfl | trivial)).symm,HB3.out⟩
    case false =>
     have HT:=zh (L3.out (by first | rfl | trivial) (by first | rfl | trivial));go_wp2;go_roundw
     case rel=>exact ⟨k+1,by omega,by go_num,HB3,HT⟩
     case measure=>exact zm
  ·have hkz:¬ (k:Int) < (N:Int):=by omega
   have HF:Hid (acmp xs ys=0):=by
    show _=_;rw [HC.out,List.drop_eq_nil_of_le (by rw [HN.out];omega),List.drop_eq_nil_of_le (by rw [HM.out];omega)];rfl
   go_wp2;go_ret;exact ⟨ret_i HF.out.symm,HB.out⟩
end Go.Proofs.YtcbopdbbcgdkcaaGreatDoor
