/- Lemmas. -/
import Derived.Test.YtcbopdbbcgdkcaaGreatDoorLDuL
set_option linter.all false
set_option maxRecDepth 100000
set_option maxHeartbeats 16000000
namespace Go.Proofs.YtcbopdbbcgdkcaaGreatDoor
open Go Go.Lib
theorem decodeN_big (n b0 b1 b2 b3:Nat) (h:128≤b0):128≤(decodeN n b0 b1 b2 b3).1:=by
 unfold decodeN;rw [if_neg (by omega)];repeat' split
 all_goals simp only
 all_goals omega
theorem by_len2 (s:ByteArray):s.data.toList.length=s.size:=Array.length_toList
theorem idxFunc_any (p:Nat→Bool) (hp:∀ x,128≤x→p x=true) (s:ByteArray):∀ (f pos:Nat),s.size≤pos+f→decide (0≤idxFuncFrom p true s f pos)=(s.data.toList.drop pos).any fun c=>p c.toNat
 | 0,pos,h=>by
  rw [List.drop_eq_nil_of_le (by rw [by_len2];omega)];rfl
 | f+1,pos,h=>by
  have hl:=by_len2 s;rw [idxFuncFrom];by_cases hps:pos < s.size
  ·have hd:s.data.toList.drop pos=s.data.toList[pos]'(by omega) :: s.data.toList.drop (pos+1):=List.drop_eq_getElem_cons (by omega);have hg:s.get! pos=s.data.toList[pos]'(by omega):=by
    simp [ByteArray.get!,getElem!_def];rw [Array.getElem?_eq_getElem hps]
   rw [if_pos hps,hd,List.any_cons,decode_at,hg];by_cases hc:(s.data.toList[pos]'(by omega)).toNat < 128
   ·have h1:∀ n b1 b2 b3,decodeN n (s.data.toList[pos]'(by omega)).toNat b1 b2 b3=((s.data.toList[pos]'(by omega)).toNat,1):=fun n b1 b2 b3=>by rw [decodeN,if_pos hc]
    rw [h1];by_cases hq:p (s.data.toList[pos]'(by omega)).toNat=true
    ·rw [if_pos hq,hq];simp
    ·rw [if_neg hq,idxFunc_any p hp s f (pos+1) (by omega)];rw [Bool.eq_false_iff.2 hq,Bool.false_or]
   ·have h2:=decodeN_big (s.size - pos) (s.data.toList[pos]'(by omega)).toNat (s.get! (pos+1)).toNat (s.get! (pos+2)).toNat (s.get! (pos+3)).toNat (by omega);rw [if_pos (hp _ h2),hp _ (by omega:128≤(s.data.toList[pos]'(by omega)).toNat)];simp
  ·rw [if_neg hps,List.drop_eq_nil_of_le (by omega)];rfl
theorem idxFunc_bytes (p:Nat→Bool) (hp:∀ x,128≤x→p x=true) (s:ByteArray):decide ((0:Int)≤Lib.idxFunc p true s)=s.data.toList.any fun c=>p c.toNat:=by
 unfold Lib.idxFunc;rw [idxFunc_any p hp s s.size 0 (by omega),List.drop_zero]
open Go.RowKit Go.ChangeShapes Go.Shelf

def partR (x:Int):Bool:=decide (97≤x) && decide (x≤122) || decide (48≤x) && decide (x≤57) || x == 46 || x == 95 || x == 45
theorem part1_p (w:World) (x:Int) :
  Calls Tryz.prog 211 #[.int .i32 x] w fun e w'=>e=.returned (.bool (!partR x))∧Below w.heap.size w w':=by
 go_enter Tryz.func211,Tryz.ntmps211;go_wp2;all_goals (go_ret;exact ⟨ret_b (by unfold partR;first | rfl | (rw [Bool.eq_iff_iff];simp;omega) | (rw [Bool.eq_iff_iff];simp;done) | (simp;omega)),bw⟩)
theorem ContainsFuncPart_p (s:ByteArray) (w:World) :
  Calls Tryz.prog 210 #[.string s,.func (.func 211) #[] #[]] w fun e w'=>e=.returned (.bool (s.data.toList.any fun c=>!partR c.toNat))∧Below w.heap.size w w':=by
 have h:=Tryz.strings_ContainsFunc_grows 211 #[] (enters_of Tryz.func211 (by kernel_rfl) rfl) (fun x=>!partR x) s w (fun W x _ _=>part1_p W x);rw [idxFunc_bytes (fun x=>!partR x) (fun x hx=>by unfold partR;simp;omega) s] at h;exact h
theorem ContainsStr2_p (w:World) (x0:Value) (xs:List ByteArray) (y:ByteArray) (h:Is w x0 xs) :
  Calls Tryz.prog 44 #[x0,.string y] w fun e w'=>e=.returned (.bool (Lib.containsS xs y))∧w'=w:=by
 obtain ⟨a,c,rfl,hnc,hcm,hr⟩:=list_inv h;simp only [maxLen] at hcm;cases a with
 | none =>
  have h0:xs=[]:=by
   cases xs with
   | nil=>rfl
   | cons x r=>obtain ⟨b,off,h1,-⟩:=hr 0 x rfl;cases h1
  subst h0;refine (Tryz.slices_Contains_string_empty none c y w).mono ?_;rintro e w' ⟨rfl,rfl⟩;exact ⟨rfl,rfl⟩
 | some p =>
  by_cases h0:xs=[]
  ·subst h0;refine (Tryz.slices_Contains_string_empty _ c y w).mono ?_;rintro e w' ⟨rfl,rfl⟩;exact ⟨rfl,rfl⟩
  ·obtain ⟨x,r,hxr⟩:∃ x r,xs=x :: r:=by cases xs with | nil=>exact absurd rfl h0 | cons x r=>exact ⟨x,r,rfl⟩
   obtain ⟨b,off,he,-⟩:=hr 0 x (by rw [hxr];rfl);cases he;refine (Tryz.slices_Contains_string b off xs.length c xs y w (Nat.le_refl _) (by omega) ?_).mono ?_
   ·intro j hj;obtain ⟨z,hz⟩:=get_lt (xs:=xs) (k:=j) hj;obtain ⟨b',off',he,-,h0,-⟩:=str_at hr hz;cases he;rw [h0,List.getD_eq_getElem?_getD,hz];rfl
   ·rintro e w' ⟨rfl,rfl⟩;exact ⟨by rw [List.take_length],rfl⟩
theorem containsS_any2 (xs:List ByteArray) (s:ByteArray):Lib.containsS xs s=xs.any fun u=>decide (u=s):=by
 rw [Bool.eq_iff_iff,Lib.containsS_iff,List.any_eq_true];constructor
 ·intro h;exact ⟨s,h,by simp⟩
 ·rintro ⟨u,hu,h⟩;have:=of_decide_eq_true h;subst this;exact hu
theorem seq_any (xs:List ByteArray) (y:ByteArray):(xs.any fun u=>decide (u=y))=xs.any (seq y):=by
 refine congrArg (fun f=>List.any xs f) (funext fun u=>?_);rw [seq_eq];by_cases h:u=y
 ·rw [decide_eq_true h,decide_eq_true h.symm]
 ·rw [decide_eq_false h,decide_eq_false fun e=>h e.symm]
theorem ContainsS_p (w:World) (x0:Value) (xs:List ByteArray) (y:ByteArray) (h:Is w x0 xs) :
  Calls Tryz.prog 44 #[x0,.string y] w fun e w'=>e=.returned (.bool (xs.any (seq y)))∧w'=w:=by
 have h1:=ContainsStr2_p w x0 xs y h;rw [containsS_any2,seq_any] at h1;exact h1

theorem partR_eq (c:UInt8):partR c.toNat=partC c:=by
 unfold partR partC lowC digC;rfl
theorem partB_any (s:ByteArray):(s.data.toList.any fun c=>!partR c.toNat)=!s.data.toList.all partC:=by
 rw [List.all_eq_not_any_not,Bool.not_not];refine congrArg (fun f=>List.any s.data.toList f) (funext fun c=>?_);rw [partR_eq]
theorem part_p (s:ByteArray) (w:World) :
  Calls Tryz.prog 163 #[.string s] w fun e w'=>e=.returned (.bool (partB s))∧Below w.heap.size w w':=by
 have hcall:=ContainsFuncPart_p s w;have hpa:=partB_any s;rw [hpa] at hcall;by_cases h0:0 < s.size
 case neg =>
  have e:s.data.toList=[]:=by rw [← List.length_eq_zero_iff,by_len];omega
  have HN:Hid (partB s=false):=by show _=_;unfold partB;rw [e];rfl
  have e0:s.toList.isEmpty=true:=by rw [ByteArray.toList_eq,e];rfl
  clear e h0 hpa hcall;go_enter Tryz.func163,Tryz.ntmps163;go_wp2_with fail
  go_ret;exact ⟨ret_b (by rw [HN.out]),Below.refl _ _⟩
 obtain ⟨c,r,hcr⟩:∃ c r,s.data.toList=c :: r:=by
  cases h:s.data.toList with
  | nil=>rw [← List.length_eq_zero_iff,by_len] at h;omega
  | cons c r=>exact ⟨c,r,rfl⟩
 have hlen:s.size=r.length+1:=by rw [← by_len,hcr];rfl
 have hc0:s[0]=c:=by
  have h1:s.data.toList[0]?=some s[0]:=by
   rw [Array.getElem?_toList];exact Array.getElem?_eq_getElem h0
  rw [hcr] at h1;simpa using h1.symm
 have HN:Hid (partB s=(decide (r.length < 32) && !((c.toNat:Int) == 46) && !((c.toNat:Int) == 45) && s.data.toList.all partC)):=by show _=_;unfold partB;rw [hcr];rfl
 have e0:s.toList.isEmpty=false:=by rw [ByteArray.toList_eq,hcr];rfl
 have HR:Hid (r.length=s.size - 1):=by show _=_;omega
 clear hcr hpa;generalize s.data.toList.all partC=pc at *;by_cases q1:(32:Int) < s.size
 case pos =>
  clear hcall;go_enter Tryz.func163,Tryz.ntmps163;go_wp2_with fail
  go_ret;exact ⟨ret_b (by rw [HN.out,HR.out,decide_eq_false (by omega)];simp),Below.refl _ _⟩
 by_cases q2:(c.toNat:Int)=46
 case pos =>
  clear hcall;go_enter Tryz.func163,Tryz.ntmps163;go_wp2_with fail
  go_ret;exact ⟨ret_b (by rw [HN.out,q2];simp),Below.refl _ _⟩
 by_cases q3:(c.toNat:Int)=45
 case pos =>
  clear hcall;go_enter Tryz.func163,Tryz.ntmps163;go_wp2_with fail
  go_ret;exact ⟨ret_b (by rw [HN.out,q3];simp),Below.refl _ _⟩
 have q2':((c.toNat:Int) == 46)=false:=beq_eq_false_iff_ne.2 q2;have q3':((c.toNat:Int) == 45)=false:=beq_eq_false_iff_ne.2 q3;have HP:Hid (partB s=pc):=by
  show _=_;rw [HN.out,HR.out,decide_eq_true (by omega),beq_eq_false_iff_ne.2 q2,beq_eq_false_iff_ne.2 q3];rfl
 clear HN HR hlen;go_enter Tryz.func163,Tryz.ntmps163;go_wp2_with fail
 refine hcall.mono ?_;rintro e w1 ⟨rfl,hb1⟩;clear hcall;go_wp2;go_ret;exact ⟨ret_b (by rw [HP.out]),hb1⟩
theorem Path1_p (W:World) (s:ByteArray) :
  Calls Tryz.prog 162 (#[.string s]++#[]) W fun e w'=>e=.returned (.bool (!partB s))∧Below W.heap.size W w':=by
 have hcall:=part_p s W;generalize partB s=p at *;go_enter Tryz.func162,Tryz.ntmps162;go_wp2_with fail
 refine hcall.mono ?_;rintro e w1 ⟨rfl,hb1⟩;clear hcall;go_wp2;go_ret;exact ⟨rfl,hb1⟩
theorem zrdub5 {p:Prop} (h:p:=by
 clear hcall HF;go_enter Tryz.func114,Tryz.ntmps114;go_wp2_with fail
 refine hsp.mono ?_;rintro e w1 ⟨rfl,rfl⟩;clear hsp;go_wp2_with fail
 go_ret;exact ⟨by rw [HT.out];rfl,HB.out⟩):p:=h
theorem Path_p (s:ByteArray) (w:World) (hg:Glob w) (hs:s.size < 4294967281) :
  Calls Tryz.prog 114 #[.string s] w fun e w'=>e=.returned (.int .i64 (pathE s))∧Below w.heap.size w w':=by
 have hsp:=Split_one s 47 w hg hs;have his:=Split_is s 47 w hs
 have hcall:=ContainsFuncStr _ _ _ (fun p=>!partB p) 162 #[] (enters_of Tryz.func162 (by kernel_rfl) rfl) his
  (fun i x _ W v _ hv=>by obtain ⟨rfl,-⟩:=str_inv hv;exact Path1_p W x)
 have HF:Hid (pathE s=if decide ((128:Int) < s.size) || decide ((8:Int) < (splitAt 47 [] s.data.toList).length) || (splitAt 47 [] s.data.toList).any (fun p=>!partB p) then 2 else 0):=rfl;have hbs:Below w.heap.size w (w.alloc (.cells ((splitAt 47 [] s.data.toList).map Value.string).toArray 9)):=zb;clear his;have hn:(splitAt 47 [] s.data.toList).length≤s.size+1:=by
  rw [splitAt_len];have:=List.count_le_length (a:=(47:UInt8)) (l:=s.data.toList);rw [by_len] at this;omega
 generalize (splitAt 47 [] s.data.toList).any (fun p=>!partB p)=A at *;generalize hK:(splitAt 47 [] s.data.toList).length=K at *;generalize (w.alloc (.cells ((splitAt 47 [] s.data.toList).map Value.string).toArray 9))=W1 at *;have HB:=zh hbs;clear hbs hK;by_cases q1:(128:Int) < s.size
 case pos =>
  have HT:Hid (pathE s=2):=by show _=_;rw [HF.out,decide_eq_true q1];rfl
  exact zrdub5
 by_cases q2:(8:Int) < K
 case pos =>
  have HT:Hid (pathE s=2):=by show _=_;rw [HF.out,decide_eq_true q2];simp
  exact zrdub5
 have HT:Hid (pathE s=if A then 2 else 0):=by show _=_;rw [HF.out,decide_eq_false q1,decide_eq_false q2];simp
 clear HF;go_enter Tryz.func114,Tryz.ntmps114;go_wp2_with fail
 refine hsp.mono ?_;rintro e w1 ⟨rfl,rfl⟩;clear hsp;go_wp2_with fail
 refine hcall.mono ?_;rintro e w2 ⟨rfl,hb2⟩;clear hcall;have HB2:Hid (Below w.heap.size w w2):=HB.out.trans (hb2.mono HB.out.size);cases A
 ·go_wp2;go_ret;exact ⟨by rw [HT.out];rfl,HB2.out⟩
 ·go_wp2;go_ret;exact ⟨by rw [HT.out];rfl,HB2.out⟩
end Go.Proofs.YtcbopdbbcgdkcaaGreatDoor
namespace Go.Proofs.YtcbopdbbcgdkcaaGreatDoor
open Go Go.RowKit Go.ChangeShapes Go.Lib

theorem zrdub0 {p:Prop} (h:p:=by
 go_enter Tryz.func113,Tryz.ntmps113;simp only [zl];go_wp2_with fail
 refine (hpl _).mono ?_;rintro e w1 ⟨rfl,hb1⟩;have m4:=kb w hb1 4 (.int .i64 way);have m5:=kb w hb1 5 (.int .i64 duty);have m11:=kb w hb1 11 (.slice al L cl);have u5:=kb1 w hb1 5 (.bool false);have u6:=kb1 w hb1 6 (.bool false);have u7:=kb1 w hb1 7 (.bool false);go_wp2;go_ret;exact ⟨(by simp [extraF,hL,emp, *] <;> omega),bw⟩):p:=h
theorem extra_0 (w:World) (comp out en ex:ByteArray) (rel way duty ek:Int) (ch:Bool) (eks:List LExpr) (l:List ByteArray) (ae al:Option Addr) (ce cl:Nat) :
  Calls Tryz.prog 113 #[.agg #[.int .i64 0,.string comp,.string out,.int .i64 rel,.int .i64 way,.int .i64 duty,.bool ch,.int .i64 ek,.string en,.string ex,.slice ae eks.length ce,.slice al l.length cl],.agg (usesB 0)] w
   fun e w'=>e=.returned (.bool (extraF (.mk 0 comp out rel way duty ch (.mk ek en ex eks) l)))∧Below w.heap.size w w':=by
 have hpl:=fun W=>plain_p W ek en ex eks ae ce;have HF:Hid (∀ f:Bool,f=zeroE (.mk ek en ex eks)→f=zeroE (.mk ek en ex eks)):=fun _ h=>h;generalize hzE:zeroE (.mk ek en ex eks)=zE at hpl;generalize hL:l.length=L;generalize hE:eks.length=E at *;rw [show usesB 0=#[.bool true,.bool true,.bool true,.bool true,.bool false,.bool false,.bool false,.bool false] from rfl];cases zE;case false =>
  exact zrdub0
 cases p_way:(way == 0);case false =>
  have p_way':(way != 0)=true:=by simpa using p_way
  exact zrdub0
 have p_way':(way != 0)=false:=by simpa using p_way
 by_cases p_list:(0:Int) < (L:Int)
 case pos =>
  have hl1:0 < L:=by omega
  exact zrdub0
 cases p_duty:(duty == 0);case false =>
  have p_duty':(duty != 0)=true:=by simpa using p_duty
  exact zrdub0
 have p_duty':(duty != 0)=false:=by simpa using p_duty
 exact zrdub0
theorem zqdub0 {p:Prop} (h:p:=by
 go_enter Tryz.func113,Tryz.ntmps113;simp only [zl];go_wp2;go_ret;exact ⟨(by simp [extraF,hL,emp, *] <;> omega),bw⟩):p:=h
theorem zqdub1 {p:Prop} (h:p:=by
 have p_rel':(rel != 0)=true:=by simpa using p_rel
 go_enter Tryz.func113,Tryz.ntmps113;simp only [zl];go_wp2;go_ret;exact ⟨(by simp [extraF,hL,emp, *] <;> omega),bw⟩):p:=h
theorem zrdub4 {p:Prop} (h:p:=by
 go_enter Tryz.func113,Tryz.ntmps113;simp only [zl];go_wp2;go_ret;exact ⟨(by simp [extraF,hL,emp, *] <;> omega),bw⟩):p:=h
theorem extra_1 (w:World) (comp out en ex:ByteArray) (rel way duty ek:Int) (ch:Bool) (eks:List LExpr) (l:List ByteArray) (ae al:Option Addr) (ce cl:Nat) :
  Calls Tryz.prog 113 #[.agg #[.int .i64 1,.string comp,.string out,.int .i64 rel,.int .i64 way,.int .i64 duty,.bool ch,.int .i64 ek,.string en,.string ex,.slice ae eks.length ce,.slice al l.length cl],.agg (usesB 1)] w
   fun e w'=>e=.returned (.bool (extraF (.mk 1 comp out rel way duty ch (.mk ek en ex eks) l)))∧Below w.heap.size w w':=by
 generalize hL:l.length=L;generalize hE:eks.length=E at *;rw [show usesB 1=#[.bool true,.bool false,.bool false,.bool false,.bool true,.bool false,.bool false,.bool false] from rfl];cases p_out:out.toList.isEmpty;case false =>exact zqdub0
 cases p_rel:(rel == 0);case false =>exact zqdub1
 have p_rel':(rel != 0)=false:=by simpa using p_rel
 cases ch;case true =>exact zqdub0
 cases p_way:(way == 0);case false =>
  have p_way':(way != 0)=true:=by simpa using p_way
  exact zrdub4
 have p_way':(way != 0)=false:=by simpa using p_way
 by_cases p_list:(0:Int) < (L:Int)
 case pos =>
  have hl1:0 < L:=by omega
  exact zrdub4
 cases p_duty:(duty == 0);case false =>
  have p_duty':(duty != 0)=true:=by simpa using p_duty
  exact zrdub4
 have p_duty':(duty != 0)=false:=by simpa using p_duty
 exact zrdub4
theorem zrdub1 {p:Prop} (h:p:=by
 go_enter Tryz.func113,Tryz.ntmps113;simp only [zl];go_wp2_with fail
 refine (hpl _).mono ?_;rintro e w1 ⟨rfl,hb1⟩;have m4:=kb w hb1 4 (.int .i64 way);have m5:=kb w hb1 5 (.int .i64 duty);have m11:=kb w hb1 11 (.slice al L cl);have u5:=kb1 w hb1 5 (.bool true);have u6:=kb1 w hb1 6 (.bool false);have u7:=kb1 w hb1 7 (.bool false);go_wp2;go_ret;exact ⟨(by simp [extraF,hL,emp, *] <;> omega),bw⟩):p:=h
theorem extra_2 (w:World) (comp out en ex:ByteArray) (rel way duty ek:Int) (ch:Bool) (eks:List LExpr) (l:List ByteArray) (ae al:Option Addr) (ce cl:Nat) :
  Calls Tryz.prog 113 #[.agg #[.int .i64 2,.string comp,.string out,.int .i64 rel,.int .i64 way,.int .i64 duty,.bool ch,.int .i64 ek,.string en,.string ex,.slice ae eks.length ce,.slice al l.length cl],.agg (usesB 2)] w
   fun e w'=>e=.returned (.bool (extraF (.mk 2 comp out rel way duty ch (.mk ek en ex eks) l)))∧Below w.heap.size w w':=by
 have hpl:=fun W=>plain_p W ek en ex eks ae ce;have HF:Hid (∀ f:Bool,f=zeroE (.mk ek en ex eks)→f=zeroE (.mk ek en ex eks)):=fun _ h=>h;generalize hzE:zeroE (.mk ek en ex eks)=zE at hpl;generalize hL:l.length=L;generalize hE:eks.length=E at *;rw [show usesB 2=#[.bool false,.bool true,.bool false,.bool false,.bool false,.bool true,.bool false,.bool false] from rfl];cases p_comp:comp.toList.isEmpty;case false =>exact zqdub0
 cases p_rel:(rel == 0);case false =>exact zqdub1
 have p_rel':(rel != 0)=false:=by simpa using p_rel
 cases ch;case true =>exact zqdub0
 cases zE;case false =>
  exact zrdub1
 by_cases p_list:(0:Int) < (L:Int)
 case pos =>
  have hl1:0 < L:=by omega
  exact zrdub1
 cases p_duty:(duty == 0);case false =>
  have p_duty':(duty != 0)=true:=by simpa using p_duty
  exact zrdub1
 have p_duty':(duty != 0)=false:=by simpa using p_duty
 exact zrdub1
theorem zrdub2 {p:Prop} (h:p:=by
 go_enter Tryz.func113,Tryz.ntmps113;simp only [zl];go_wp2_with fail
 refine (hpl _).mono ?_;rintro e w1 ⟨rfl,hb1⟩;have m4:=kb w hb1 4 (.int .i64 way);have m5:=kb w hb1 5 (.int .i64 duty);have m11:=kb w hb1 11 (.slice al L cl);have u5:=kb1 w hb1 5 (.bool false);have u6:=kb1 w hb1 6 (.bool true);have u7:=kb1 w hb1 7 (.bool false);go_wp2;go_ret;exact ⟨(by simp [extraF,hL,emp, *] <;> omega),bw⟩):p:=h
theorem extra_3 (w:World) (comp out en ex:ByteArray) (rel way duty ek:Int) (ch:Bool) (eks:List LExpr) (l:List ByteArray) (ae al:Option Addr) (ce cl:Nat) :
  Calls Tryz.prog 113 #[.agg #[.int .i64 3,.string comp,.string out,.int .i64 rel,.int .i64 way,.int .i64 duty,.bool ch,.int .i64 ek,.string en,.string ex,.slice ae eks.length ce,.slice al l.length cl],.agg (usesB 3)] w
   fun e w'=>e=.returned (.bool (extraF (.mk 3 comp out rel way duty ch (.mk ek en ex eks) l)))∧Below w.heap.size w w':=by
 have hpl:=fun W=>plain_p W ek en ex eks ae ce;have HF:Hid (∀ f:Bool,f=zeroE (.mk ek en ex eks)→f=zeroE (.mk ek en ex eks)):=fun _ h=>h;generalize hzE:zeroE (.mk ek en ex eks)=zE at hpl;generalize hL:l.length=L;generalize hE:eks.length=E at *;rw [show usesB 3=#[.bool false,.bool true,.bool false,.bool false,.bool false,.bool false,.bool true,.bool false] from rfl];cases p_comp:comp.toList.isEmpty;case false =>exact zqdub0
 cases p_rel:(rel == 0);case false =>exact zqdub1
 have p_rel':(rel != 0)=false:=by simpa using p_rel
 cases ch;case true =>exact zqdub0
 cases zE;case false =>
  exact zrdub2
 cases p_way:(way == 0);case false =>
  have p_way':(way != 0)=true:=by simpa using p_way
  exact zrdub2
 have p_way':(way != 0)=false:=by simpa using p_way
 cases p_duty:(duty == 0);case false =>
  have p_duty':(duty != 0)=true:=by simpa using p_duty
  exact zrdub2
 have p_duty':(duty != 0)=false:=by simpa using p_duty
 exact zrdub2
theorem zrdub3 {p:Prop} (h:p:=by
 go_enter Tryz.func113,Tryz.ntmps113;simp only [zl];go_wp2_with fail
 refine (hpl _).mono ?_;rintro e w1 ⟨rfl,hb1⟩;have m4:=kb w hb1 4 (.int .i64 way);have m5:=kb w hb1 5 (.int .i64 duty);have m11:=kb w hb1 11 (.slice al L cl);have u5:=kb1 w hb1 5 (.bool false);have u6:=kb1 w hb1 6 (.bool false);have u7:=kb1 w hb1 7 (.bool true);go_wp2;go_ret;exact ⟨(by simp [extraF,hL,emp, *] <;> omega),bw⟩):p:=h
theorem extra_4 (w:World) (comp out en ex:ByteArray) (rel way duty ek:Int) (ch:Bool) (eks:List LExpr) (l:List ByteArray) (ae al:Option Addr) (ce cl:Nat) :
  Calls Tryz.prog 113 #[.agg #[.int .i64 4,.string comp,.string out,.int .i64 rel,.int .i64 way,.int .i64 duty,.bool ch,.int .i64 ek,.string en,.string ex,.slice ae eks.length ce,.slice al l.length cl],.agg (usesB 4)] w
   fun e w'=>e=.returned (.bool (extraF (.mk 4 comp out rel way duty ch (.mk ek en ex eks) l)))∧Below w.heap.size w w':=by
 have hpl:=fun W=>plain_p W ek en ex eks ae ce;have HF:Hid (∀ f:Bool,f=zeroE (.mk ek en ex eks)→f=zeroE (.mk ek en ex eks)):=fun _ h=>h;generalize hzE:zeroE (.mk ek en ex eks)=zE at hpl;generalize hL:l.length=L;generalize hE:eks.length=E at *;rw [show usesB 4=#[.bool true,.bool false,.bool false,.bool false,.bool false,.bool false,.bool false,.bool true] from rfl];cases p_out:out.toList.isEmpty;case false =>exact zqdub0
 cases p_rel:(rel == 0);case false =>exact zqdub1
 have p_rel':(rel != 0)=false:=by simpa using p_rel
 cases ch;case true =>exact zqdub0
 cases zE;case false =>
  exact zrdub3
 cases p_way:(way == 0);case false =>
  have p_way':(way != 0)=true:=by simpa using p_way
  exact zrdub3
 have p_way':(way != 0)=false:=by simpa using p_way
 by_cases p_list:(0:Int) < (L:Int)
 case pos =>
  have hl1:0 < L:=by omega
  exact zrdub3
 exact zrdub3
theorem extra_p (w:World) (k:Int) (comp out en ex:ByteArray) (rel way duty ek:Int) (ch:Bool) (eks:List LExpr) (l:List ByteArray) (ae al:Option Addr) (ce cl:Nat) (h0:0≤k) (h4:k≤4) :
  Calls Tryz.prog 113 #[.agg #[.int .i64 k,.string comp,.string out,.int .i64 rel,.int .i64 way,.int .i64 duty,.bool ch,.int .i64 ek,.string en,.string ex,.slice ae eks.length ce,.slice al l.length cl],.agg (usesB k)] w
   fun e w'=>e=.returned (.bool (extraF (.mk k comp out rel way duty ch (.mk ek en ex eks) l)))∧Below w.heap.size w w':=by
 obtain rfl | rfl | rfl | rfl | rfl:k=0∨k=1∨k=2∨k=3∨k=4:=by omega
 ·exact extra_0 w comp out en ex rel way duty ek ch eks l ae al ce cl
 ·exact extra_1 w comp out en ex rel way duty ek ch eks l ae al ce cl
 ·exact extra_2 w comp out en ex rel way duty ek ch eks l ae al ce cl
 ·exact extra_3 w comp out en ex rel way duty ek ch eks l ae al ce cl
 ·exact extra_4 w comp out en ex rel way duty ek ch eks l ae al ce cl
end Go.Proofs.YtcbopdbbcgdkcaaGreatDoor
