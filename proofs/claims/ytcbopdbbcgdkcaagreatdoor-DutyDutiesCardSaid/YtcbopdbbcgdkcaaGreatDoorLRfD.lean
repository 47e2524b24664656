/- Lemmas. -/
import Derived.Test.YtcbopdbbcgdkcaaGreatDoorLDuD
import Derived.Test.YtcbopdbbcgdkcaaGreatDoorLRfE
set_option linter.all false
set_option maxRecDepth 100000
set_option maxHeartbeats 16000000
namespace Go.Proofs.YtcbopdbbcgdkcaaGreatDoor
open Go Go.RowKit Go.ChangeShapes Go.Sort Go.Lib

theorem partC_t {c:UInt8} (h:(97≤(c.toNat:Int)∧(c.toNat:Int)≤122∨48≤(c.toNat:Int)∧(c.toNat:Int)≤57)∨(c.toNat:Int)=46∨(c.toNat:Int)=95∨(c.toNat:Int)=45):partC c=true:=by
 unfold partC lowC digC;simp;omega
theorem partC_f {c:UInt8} (h:¬ ((97≤(c.toNat:Int)∧(c.toNat:Int)≤122∨48≤(c.toNat:Int)∧(c.toNat:Int)≤57)∨(c.toNat:Int)=46∨(c.toNat:Int)=95∨(c.toNat:Int)=45)):partC c=false:=by
 unfold partC lowC digC;rw [Bool.eq_false_iff];simp;omega
theorem zrrfd3 {p:Prop} (h:p:=by
 go_enter Tryz.func174,Tryz.ntmps174;go_wp2;go_ret;exact ⟨ret_b HT.out.symm,rfl⟩):p:=h
theorem Part_ref (s:ByteArray) (w:World) (hs:s.size≤maxLen):Calls Tryz.prog 174 #[.string s] w fun e w'=>e=.returned (.bool (partB s))∧w'=w:=by
 unfold maxLen at hs;by_cases h0:0 < s.size
 case neg =>
  have e:s.data.toList=[]:=by rw [← List.length_eq_zero_iff,by_len];omega
  have HN:Hid (partB s=false):=by show _=_;unfold partB;rw [e];rfl
  have e0:(s.size:Int) < 1:=by omega
  clear e h0;go_enter Tryz.func174,Tryz.ntmps174;go_wp2;go_ret;exact ⟨ret_b (by rw [HN.out]),rfl⟩
 have HN:Hid (partB s=(decide (s.size≤32) && !((s[0].toNat:Int) == 46) && !((s[0].toNat:Int) == 45) && s.data.toList.all partC)):=by
  have e:=by_at s 0 h0;rw [List.drop_zero] at e;have hl:(s.data.toList.drop (0+1)).length+1=s.size:=by rw [List.length_drop,by_len];omega
  show _=_;unfold partB;rw [e,partL];congr 3;rw [decide_eq_decide];omega
 have e0:(1:Int)≤s.size:=by omega
 by_cases h1:(32:Int) < s.size
 case pos =>
  have HT:Hid (partB s=false):=by show _=_;rw [HN.out,decide_eq_false (by omega)];rfl
  clear HN;exact zrrfd3
 cases h2:((s[0].toNat:Int) == 46);case true =>
  have HT:Hid (partB s=false):=by show _=_;rw [HN.out,h2];simp
  have h2':(s[0].toNat:Int)=46:=by simpa using h2
  clear HN h2;exact zrrfd3
 cases h3:((s[0].toNat:Int) == 45);case true =>
  have HT:Hid (partB s=false):=by show _=_;rw [HN.out,h3];simp
  have h3':(s[0].toNat:Int)=45:=by simpa using h3
  clear HN h3 h2;exact zrrfd3
 have HN2:Hid (partB s=s.data.toList.all partC):=by
  show _=_;rw [HN.out,h2,h3,decide_eq_true (by omega)];rfl
 clear HN;go_enter Tryz.func174,Tryz.ntmps174;go_wp2;go_loop [3,4] (fun i _=>∃ k:Nat,k≤s.size∧i=.int .i64 k∧Hid (partB s=(s.data.toList.drop k).all partC)) (fun i _=>s.size - (intOf i).toNat)
 case atStart=>exact ⟨0,Nat.zero_le _,rfl,HN2.out⟩
 case round =>
  obtain ⟨k,hk,rfl,hf⟩:=hrel;clear HN2 e0 h1 h2 h3;by_cases hlt:k < s.size
  ·have hd:=zh (by_at s k hlt);go_wp2
   all_goals first
    | (go_ret
       exact ⟨ret_b (by rw [hf.out,hd.out,List.all_cons,partC_f (by simp only [bne_iff_ne,ne_eq] at *;omega)];rfl),rfl⟩)
    | (go_round
       case rel=>exact ⟨k+1,by omega,by go_num,(by show _=_;rw [hf.out,hd.out,List.all_cons,partC_t (by simp only [bne_eq_false_iff_eq] at *;omega)];rfl)⟩
       case measure=>exact zm)
  ·go_wp2;go_ret;exact ⟨ret_b (by rw [hf.out,by_nil s k hlt];rfl),rfl⟩

theorem Split_ref (s:ByteArray) (c:UInt8) (w:World) (hs:s.size≤4294967295):Calls Tryz.prog 173 #[.string s,.int .u8 c.toNat] w fun e w'=>∃ v,e=.returned v∧Is w' v (splitAt c [] s.data.toList)∧Below w.heap.size w w':=by
  go_enter Tryz.func173,Tryz.ntmps173;go_wp2
  go_loopw [5,6,7] (fun out from_ i wr=>∃ (k f:Nat) (ys:List ByteArray),k≤s.size∧f≤k∧i=.int .i64 k∧from_=.int .i64 f∧ys.length≤k ∧
   wr.ownsRow w.heap.size 9 1 out ys.length (ys.map Value.string)∧Below w.heap.size w wr∧(∀ x∈ys,x.size≤s.size) ∧
   Hid (splitAt c [] s.data.toList=ys++splitAt c ((s.data.toList.drop f).take (k - f)) (s.data.toList.drop k))) (fun _ _ i _=>s.size - (intOf i).toNat)
  case atStart=>exact ⟨0,0,[],by omega,by omega,rfl,rfl,by simp,⟨rfl,.inl ⟨rfl,rfl⟩⟩,Below.refl _ _,by simp,by simp [Hid]⟩
  case round =>
   obtain ⟨k,f,ys,hk,hfk,rfl,rfl,hys,hown,hb,hsz,hf⟩:=hrel;have HS:=zh hsz;have HB:=zh hb;have hB:w.heap.size≤wr.heap.size:=hb.size;clear hsz hb;by_cases hlt:k < s.size
   ·go_wp2_with (at_builtin;refine app_str rfl _ _ rfl w.heap.size _ _ _ rfl hown (s.extract f k) rfl ?c4 ?c5 ?_)
    case c4=>omega
    case c5=>omega
    ·intro v' w1 hown1 hgrow1 _;have HG:=zh hgrow1;clear hgrow1;have ht:((s[k].toNat:Int) == (c.toNat:Int))=true:=by assumption
     have hc:s.data.toList[k]?=some s[k]:=by simp [hlt];rfl
     have hd:=by_at s k hlt;go_wp2;go_roundw
     case rel =>
      refine ⟨k+1,k+1,ys++[s.extract f k],by omega,by omega,by go_num,by go_num,by simp;omega,by simpa using hown1,?_,?_,?_⟩
      ·exact (HB.out.alloc (by omega) _).app HG.out (by simp;omega) hown
      ·intro x hx;simp only [List.mem_append,List.mem_singleton] at hx;rcases hx with hx | rfl
       ·exact HS.out x hx
       ·simp;omega
      ·show _=_;rw [hf.out,hd,splitAt_cons,if_pos (u8_t c ht),extract_mkS];simp
     case measure=>exact zm
    ·have ht:((s[k].toNat:Int) == (c.toNat:Int))=false:=by assumption
     have hc:s.data.toList[k]?=some s[k]:=by simp [hlt];rfl
     have hd:=by_at s k hlt;go_roundw
     case rel =>
      refine ⟨k+1,f,ys,by omega,by omega,by go_num,rfl,by omega,hown,HB.out,HS.out,?_⟩;show _=_;rw [hf.out,hd,splitAt_cons,if_neg (u8_f c ht),cut_snoc _ _ _ _ hfk hc]
     case measure=>exact zm
   ·go_wp2_with (at_builtin;refine app_str rfl _ _ rfl w.heap.size _ _ _ rfl hown (s.extract f s.size) rfl ?d4 ?d5 ?_)
    case d4=>omega
    case d5=>omega
    intro v' w1 hown1 hgrow1 _;have HG:=zh hgrow1;clear hgrow1;go_wp2;go_ret;refine ⟨_,rfl,?_,(HB.out.alloc (by omega) _).app HG.out (by simp;omega) hown⟩;have hk':k=s.size:=by omega
    have e:splitAt c [] s.data.toList=ys++[s.extract f s.size]:=by
     rw [hf.out,hk',extract_mkS,show s.data.toList.drop s.size=[] from List.drop_eq_nil_of_le (by simp)];rfl
    rw [e];refine own_str (by simpa using hown1) ?_;intro x hx;simp only [List.mem_append,List.mem_singleton] at hx;unfold maxLen;rcases hx with hx | rfl
    ·have:=HS.out x hx;omega
    ·simp;omega
theorem Path_ref (s:ByteArray) (w:World) (hs:s.size < 4294967281) :
  Calls Tryz.prog 122 #[.string s] w fun e w'=>e=.returned (.int .i64 (pathE s))∧Below w.heap.size w w':=by
 have hsp:=Split_ref s 47 w (by omega);have HF:Hid (pathE s=if decide ((128:Int) < s.size) || decide ((8:Int) < (splitAt 47 [] s.data.toList).length) || (splitAt 47 [] s.data.toList).any (fun p=>!partB p) then 2 else 0):=rfl;have hn:(splitAt 47 [] s.data.toList).length≤s.size+1:=by
  rw [splitAt_len];have:=List.count_le_length (a:=(47:UInt8)) (l:=s.data.toList);rw [by_len] at this;omega
 by_cases q1:(128:Int) < s.size
 case pos =>
  have HT:Hid (pathE s=2):=by show _=_;rw [HF.out,decide_eq_true q1];rfl
  clear HF;go_enter Tryz.func122,Tryz.ntmps122;go_wp2_with fail
  go_ret;exact ⟨by rw [HT.out];rfl,Below.refl _ _⟩
 go_enter Tryz.func122,Tryz.ntmps122;go_wp2_with fail
 refine hsp.mono ?_;rintro e w1 ⟨v1,rfl,h1,hb1⟩;obtain ⟨a,c,rfl,hnc,hcm,hr⟩:=list_inv h1;unfold maxLen at hcm;clear h1 hsp;generalize hK:splitAt 47 [] s.data.toList=ps at *;have HB:=zh hb1;have HR:=zh hr;clear hb1 hK hr;by_cases q2:(8:Int) < ps.length
 case pos =>
  have HT:Hid (pathE s=2):=by show _=_;rw [HF.out,decide_eq_true q2];simp
  clear HF;go_wp2_with fail
  go_ret;exact ⟨by rw [HT.out];rfl,HB.out⟩
 have HT:Hid (pathE s=if ps.any (fun p=>!partB p) then 2 else 0):=by show _=_;rw [HF.out,decide_eq_false (by omega),decide_eq_false (by omega)];simp
 clear HF;go_wp2_with fail
 go_loopw [16] (fun i wr=>∃ k:Nat,k≤ps.length∧i=.int .i64 k∧wr=w1∧Hid (pathE s=if (ps.drop k).any (fun p=>!partB p) then 2 else 0)) (fun i _=>ps.length - (intOf i).toNat)
 case atStart=>exact ⟨0,Nat.zero_le _,rfl,rfl,HT⟩
 case round =>
  obtain ⟨k,hk,rfl,rfl,hf⟩:=hrel;clear HT;by_cases hlt:k < ps.length
  ·obtain ⟨p,hp⟩:=get_lt hlt;obtain ⟨b,off,rfl,hb,c0,hsz⟩:=str_at HR.out hp;have hcall:=Part_ref p wr hsz;have hd:=zh (drop_at hp);clear hp;cases q:partB p;case true =>
    have HM:Hid (pathE s=if (ps.drop (k+1)).any (fun p=>!partB p) then 2 else 0):=by show _=_;rw [hf.out,hd.out,List.any_cons,q];rfl
    rw [q] at hcall;go_wp2_with fail
    refine hcall.mono ?_;rintro e w2 ⟨rfl,rfl⟩;go_wp2;go_roundw
    case rel=>exact ⟨k+1,by omega,by go_num,by first | rfl | trivial,HM⟩
    case measure=>exact zm
   case false =>
    have HM:Hid (pathE s=2):=by show _=_;rw [hf.out,hd.out,List.any_cons,q];rfl
    rw [q] at hcall;go_wp2_with fail
    refine hcall.mono ?_;rintro e w2 ⟨rfl,rfl⟩;go_wp2;go_ret;exact ⟨by rw [HM.out];rfl,HB.out⟩
  ·go_wp2;go_ret;exact ⟨by rw [hf.out,List.drop_eq_nil_of_le (by omega)];rfl,HB.out⟩
end Go.Proofs.YtcbopdbbcgdkcaaGreatDoor
namespace Go.Proofs.YtcbopdbbcgdkcaaGreatDoor
open Go Go.RowKit Go.ChangeShapes Go.Lib

theorem EqualZ_ref (w:World) (k:Int) (n x:ByteArray) (ks:List LExpr) (a:Option Addr) (c:Nat) :
  Calls Tryz.prog 172 #[.agg #[.int .i64 k,.string n,.string x,.slice a ks.length c],.agg #[.int .i64 0,.string ⟨#[]⟩,.string ⟨#[]⟩,.slice none 0 0]] w fun e w'=>e=.returned (.bool (zeroE (.mk k n x ks)))∧Below w.heap.size w w':=by
 have HZ:Hid (zeroE (.mk k n x ks)=(k == 0 && n.toList.isEmpty && x.toList.isEmpty && ((ks.length:Int) == 0))):=rfl;generalize zeroE (.mk k n x ks)=z at *;generalize ks.length=L at *;cases q0:(k == 0);case false =>
  have q0':(k != 0)=true:=by simpa using q0
  go_enter Tryz.func172,Tryz.ntmps172;go_wp2;go_ret;exact ⟨ret_b (by rw [HZ.out,q0];rfl),bw⟩
 have q0':(k != 0)=false:=by simpa using q0
 cases q1:n.toList.isEmpty;case false =>
  have q1':(n.toList == [])=false:=by rw [← q1];cases n.toList <;> rfl
  go_enter Tryz.func172,Tryz.ntmps172;go_wp2;go_ret;exact ⟨ret_b (by rw [HZ.out,q0,q1];rfl),bw⟩
 cases q2:x.toList.isEmpty;case false =>
  go_enter Tryz.func172,Tryz.ntmps172;go_wp2;go_ret;exact ⟨ret_b (by rw [HZ.out,q0,q1,q2];rfl),bw⟩
 cases q3:((L:Int) == 0);case false =>
  have q3':((L:Int) != 0)=true:=by simpa using q3
  have q3n:¬ L=0:=by simpa using q3
  go_enter Tryz.func172,Tryz.ntmps172;go_wp2;go_ret;exact ⟨ret_b (by rw [HZ.out,q0,q1,q2,q3];rfl),bw⟩
 obtain rfl:L=0:=by simpa using q3
 clear q3;go_enter Tryz.func172,Tryz.ntmps172;go_wp2;go_loop [5] (fun i=>i=.int .i64 0) (fun _=>0)
 case atStart=>rfl
 case round =>
  obtain rfl:=hrel;go_wp2;go_ret;exact ⟨ret_b (by rw [HZ.out,q0,q1,q2];rfl),bw⟩

theorem zqrfd0 {p:Prop} (h:p:=by
 go_enter Tryz.func121,Tryz.ntmps121;go_wp2_with fail
 go_quiet (fail)
 try simp only [zl]
 go_wp2_with fail
 refine (hpl _).mono ?_;rintro e w1 ⟨rfl,hb1⟩;have m1:=kb w hb1 1 (.string comp);have m2:=kb w hb1 2 (.string out);go_wp2;go_ret;exact ⟨ret_b (by simp [extraF,hL,emp, *] <;> omega),bw⟩):p:=h
theorem zqrfd2 {p:Prop} (h:p:=by
 have p_duty':(duty != 0)=true:=by simpa using p_duty
 go_enter Tryz.func121,Tryz.ntmps121;go_wp2_with fail
 go_quiet (fail)
 try simp only [zl]
 go_wp2_with fail
 go_ret;exact ⟨ret_b (by simp [extraF,hL,emp, *] <;> omega),bw⟩):p:=h
theorem zqrfd3 {p:Prop} (h:p:=by
 have p_way':(way != 0)=true:=by simpa using p_way
 go_enter Tryz.func121,Tryz.ntmps121;go_wp2_with fail
 go_quiet (fail)
 try simp only [zl]
 go_wp2_with fail
 go_ret;exact ⟨ret_b (by simp [extraF,hL,emp, *] <;> omega),bw⟩):p:=h
theorem zqrfd5 {p:Prop} (h:p:=by
 have hl1:0 < L:=by omega
 go_enter Tryz.func121,Tryz.ntmps121;go_wp2_with fail
 go_quiet (fail)
 try simp only [zl]
 go_wp2_with fail
 go_ret;exact ⟨ret_b (by simp [extraF,hL,emp, *] <;> omega),bw⟩):p:=h
theorem zrrfd0 {p:Prop} (h:p:=by
 go_enter Tryz.func121,Tryz.ntmps121;go_wp2_with fail
 go_quiet (fail)
 try simp only [zl]
 go_wp2_with fail
 refine (hpl _).mono ?_;rintro e w1 ⟨rfl,hb1⟩;have m1:=kb w hb1 1 (.string comp);have m2:=kb w hb1 2 (.string out);go_wp2;go_ret;exact ⟨ret_b (by simp [extraF,hL,emp, *] <;> omega),bw⟩):p:=h
theorem plainF_0 (w:World) (comp out en ex:ByteArray) (rel way duty ek:Int) (ch:Bool) (eks:List LExpr) (l:List ByteArray) (ae al:Option Addr) (ce cl:Nat) :
  Calls Tryz.prog 121 #[.agg #[.int .i64 0,.string comp,.string out,.int .i64 rel,.int .i64 way,.int .i64 duty,.bool ch,.int .i64 ek,.string en,.string ex,.slice ae eks.length ce,.slice al l.length cl]] w
   fun e w'=>e=.returned (.bool (!extraF (.mk 0 comp out rel way duty ch (.mk ek en ex eks) l)))∧Below w.heap.size w w':=by
 have hpl:=fun W=>EqualZ_ref W ek en ex eks ae ce;generalize hzE:zeroE (.mk ek en ex eks)=zE at hpl;generalize hL:l.length=L;generalize hE:eks.length=E at *;cases p_way:(way == 0);case false =>exact zqrfd3
 have p_way':(way != 0)=false:=by simpa using p_way
 cases p_duty:(duty == 0);case false =>exact zqrfd2
 have p_duty':(duty != 0)=false:=by simpa using p_duty
 by_cases p_list:(0:Int) < (L:Int)
 case pos =>exact zqrfd5
 cases zE;case false =>exact zqrfd0
 exact zrrfd0
theorem zqrfd1 {p:Prop} (h:p:=by
 go_enter Tryz.func121,Tryz.ntmps121;go_wp2_with fail
 go_quiet (fail)
 try simp only [zl]
 go_wp2_with fail
 go_ret;exact ⟨ret_b (by simp [extraF,hL,emp, *] <;> omega),bw⟩):p:=h
theorem zqrfd4 {p:Prop} (h:p:=by
 have p_rel':(rel != 0)=true:=by simpa using p_rel
 go_enter Tryz.func121,Tryz.ntmps121;go_wp2_with fail
 go_quiet (fail)
 try simp only [zl]
 go_wp2_with fail
 go_ret;exact ⟨ret_b (by simp [extraF,hL,emp, *] <;> omega),bw⟩):p:=h
theorem plainF_1 (w:World) (comp out en ex:ByteArray) (rel way duty ek:Int) (ch:Bool) (eks:List LExpr) (l:List ByteArray) (ae al:Option Addr) (ce cl:Nat) :
  Calls Tryz.prog 121 #[.agg #[.int .i64 1,.string comp,.string out,.int .i64 rel,.int .i64 way,.int .i64 duty,.bool ch,.int .i64 ek,.string en,.string ex,.slice ae eks.length ce,.slice al l.length cl]] w
   fun e w'=>e=.returned (.bool (!extraF (.mk 1 comp out rel way duty ch (.mk ek en ex eks) l)))∧Below w.heap.size w w':=by
 generalize hL:l.length=L;generalize hE:eks.length=E at *;cases p_rel:(rel == 0);case false =>exact zqrfd4
 have p_rel':(rel != 0)=false:=by simpa using p_rel
 cases ch;case true =>exact zqrfd1
 cases p_way:(way == 0);case false =>exact zqrfd3
 have p_way':(way != 0)=false:=by simpa using p_way
 cases p_duty:(duty == 0);case false =>exact zqrfd2
 have p_duty':(duty != 0)=false:=by simpa using p_duty
 by_cases p_list:(0:Int) < (L:Int)
 case pos =>exact zqrfd5
 cases p_out:out.toList.isEmpty;case false =>exact zqrfd1
 go_enter Tryz.func121,Tryz.ntmps121;go_wp2_with fail
 go_quiet (fail)
 try simp only [zl]
 go_wp2_with fail
 go_ret;exact ⟨ret_b (by simp [extraF,hL,emp, *] <;> omega),bw⟩
theorem plainF_2 (w:World) (comp out en ex:ByteArray) (rel way duty ek:Int) (ch:Bool) (eks:List LExpr) (l:List ByteArray) (ae al:Option Addr) (ce cl:Nat) :
  Calls Tryz.prog 121 #[.agg #[.int .i64 2,.string comp,.string out,.int .i64 rel,.int .i64 way,.int .i64 duty,.bool ch,.int .i64 ek,.string en,.string ex,.slice ae eks.length ce,.slice al l.length cl]] w
   fun e w'=>e=.returned (.bool (!extraF (.mk 2 comp out rel way duty ch (.mk ek en ex eks) l)))∧Below w.heap.size w w':=by
 have hpl:=fun W=>EqualZ_ref W ek en ex eks ae ce;generalize hzE:zeroE (.mk ek en ex eks)=zE at hpl;generalize hL:l.length=L;generalize hE:eks.length=E at *;cases p_rel:(rel == 0);case false =>exact zqrfd4
 have p_rel':(rel != 0)=false:=by simpa using p_rel
 cases ch;case true =>exact zqrfd1
 cases p_duty:(duty == 0);case false =>exact zqrfd2
 have p_duty':(duty != 0)=false:=by simpa using p_duty
 by_cases p_list:(0:Int) < (L:Int)
 case pos =>exact zqrfd5
 cases zE;case false =>exact zqrfd0
 cases p_comp:comp.toList.isEmpty;case false =>exact zqrfd0
 exact zrrfd0
theorem plainF_3 (w:World) (comp out en ex:ByteArray) (rel way duty ek:Int) (ch:Bool) (eks:List LExpr) (l:List ByteArray) (ae al:Option Addr) (ce cl:Nat) :
  Calls Tryz.prog 121 #[.agg #[.int .i64 3,.string comp,.string out,.int .i64 rel,.int .i64 way,.int .i64 duty,.bool ch,.int .i64 ek,.string en,.string ex,.slice ae eks.length ce,.slice al l.length cl]] w
   fun e w'=>e=.returned (.bool (!extraF (.mk 3 comp out rel way duty ch (.mk ek en ex eks) l)))∧Below w.heap.size w w':=by
 have hpl:=fun W=>EqualZ_ref W ek en ex eks ae ce;generalize hzE:zeroE (.mk ek en ex eks)=zE at hpl;generalize hL:l.length=L;generalize hE:eks.length=E at *;cases p_rel:(rel == 0);case false =>exact zqrfd4
 have p_rel':(rel != 0)=false:=by simpa using p_rel
 cases ch;case true =>exact zqrfd1
 cases p_way:(way == 0);case false =>exact zqrfd3
 have p_way':(way != 0)=false:=by simpa using p_way
 cases p_duty:(duty == 0);case false =>exact zqrfd2
 have p_duty':(duty != 0)=false:=by simpa using p_duty
 cases zE;case false =>exact zqrfd0
 cases p_comp:comp.toList.isEmpty;case false =>exact zqrfd0
 exact zrrfd0
theorem plainF_4 (w:World) (comp out en ex:ByteArray) (rel way duty ek:Int) (ch:Bool) (eks:List LExpr) (l:List ByteArray) (ae al:Option Addr) (ce cl:Nat) :
  Calls Tryz.prog 121 #[.agg #[.int .i64 4,.string comp,.string out,.int .i64 rel,.int .i64 way,.int .i64 duty,.bool ch,.int .i64 ek,.string en,.string ex,.slice ae eks.length ce,.slice al l.length cl]] w
   fun e w'=>e=.returned (.bool (!extraF (.mk 4 comp out rel way duty ch (.mk ek en ex eks) l)))∧Below w.heap.size w w':=by
 have hpl:=fun W=>EqualZ_ref W ek en ex eks ae ce;generalize hzE:zeroE (.mk ek en ex eks)=zE at hpl;generalize hL:l.length=L;generalize hE:eks.length=E at *;cases p_rel:(rel == 0);case false =>exact zqrfd4
 have p_rel':(rel != 0)=false:=by simpa using p_rel
 cases ch;case true =>exact zqrfd1
 cases p_way:(way == 0);case false =>exact zqrfd3
 have p_way':(way != 0)=false:=by simpa using p_way
 by_cases p_list:(0:Int) < (L:Int)
 case pos =>exact zqrfd5
 cases zE;case false =>exact zqrfd0
 cases p_out:out.toList.isEmpty;case false =>exact zqrfd0
 exact zrrfd0
theorem plainF_ref (w:World) (k:Int) (comp out en ex:ByteArray) (rel way duty ek:Int) (ch:Bool) (eks:List LExpr) (l:List ByteArray) (ae al:Option Addr) (ce cl:Nat) (h0:0≤k) (h4:k≤4) :
  Calls Tryz.prog 121 #[.agg #[.int .i64 k,.string comp,.string out,.int .i64 rel,.int .i64 way,.int .i64 duty,.bool ch,.int .i64 ek,.string en,.string ex,.slice ae eks.length ce,.slice al l.length cl]] w
   fun e w'=>e=.returned (.bool (!extraF (.mk k comp out rel way duty ch (.mk ek en ex eks) l)))∧Below w.heap.size w w':=by
 obtain rfl | rfl | rfl | rfl | rfl:k=0∨k=1∨k=2∨k=3∨k=4:=by omega
 ·exact plainF_0 w comp out en ex rel way duty ek ch eks l ae al ce cl
 ·exact plainF_1 w comp out en ex rel way duty ek ch eks l ae al ce cl
 ·exact plainF_2 w comp out en ex rel way duty ek ch eks l ae al ce cl
 ·exact plainF_3 w comp out en ex rel way duty ek ch eks l ae al ce cl
 ·exact plainF_4 w comp out en ex rel way duty ek ch eks l ae al ce cl
open Go.Sort

theorem zqrfd6 {p:Prop} (h:p:=by
 cases qq:(p1 == 0)
 all_goals
  have qq':(p1 != 0)=!(p1 == 0):=rfl;rw [qq] at qq';go_wp2_with fail
  refine (HP1.out _ HB1.out).mono ?_;rintro e w3 ⟨rfl,hb3⟩;go_wp2_with fail
  go_meet
  case rel=>exact ⟨by rw [qq];rfl,zh hb3⟩):p:=h
theorem zqrfd7 {p:Prop} (h:p:=by
 cases qq:(p2 == 0)
 all_goals
  have qq':(p2 != 0)=!(p2 == 0):=rfl;rw [qq] at qq';go_wp2_with fail
  refine (HP2.out _ HB2.out).mono ?_;rintro e w3 ⟨rfl,hb3⟩;go_wp2_with fail
  go_meet
  case rel=>exact ⟨by rw [qq];rfl,zh hb3⟩):p:=h
theorem zrrfd1 {p:Prop} (h:p:=by
 clear HF3 HCF HFI;go_wp2_with fail
 go_ret;exact ⟨by rw [HT.out];rfl,HB3.out⟩):p:=h
theorem zrrfd2 {p:Prop} (h:p:=by
 go_wp2_with fail
 go_meet
 case rel=>exact ⟨rfl,zh (Below.refl _ _)⟩):p:=h
theorem zrrfd4 {p:Prop} (h:p:=by
 refine tkB 12 hH3 rfl ?_;try simp only [tkS,Act.put]
 refine wpAnyH_done (by kernel_rfl) ?_ _;go_wp2_with fail
 go_meet
 case rel=>exact ⟨rfl,zh hb6⟩):p:=h
theorem zrrfd5 {p:Prop} (h:p:=by
 clear HF HCF HEX HP1 HP2 HFI;go_enter Tryz.func54,Tryz.ntmps54;go_wp2_with fail
 go_ret;exact ⟨by rw [HT.out];rfl,hb0⟩):p:=h
theorem fact_ref (w:World) (vc v:Value) (c:Catalog) (f:Fact) (hc:Is w vc c) (h:Is w v f) (hfit:fitF f) :
  Calls Tryz.prog 54 #[vc,v] w fun e w'=>e=.returned (.int .i64 (factE c f))∧Below w.heap.size w w':=by
 obtain ⟨ki,co,ou,re,wa,du,ch,⟨ek,en,ex,eks⟩,li⟩:=f;obtain ⟨ht1,ht2,ht3⟩:=hfit;simp only at ht1 ht2 ht3
 have HF:Hid (factE c (.mk ki co ou re wa du ch (.mk ek en ex eks) li) =
   if decide (ki < 0) || decide (4 < ki) || extraF (.mk ki co ou re wa du ch (.mk ek en ex eks) li) then 1
   else if (ki == 0 || ki == 1 || ki == 4) && !(pathE co == 0) || (ki == 0 || ki == 2 || ki == 3) && !(pathE ou == 0) then 2
   else if decide (re < 0) || decide (2 < re) || decide (wa < 0) || decide (2 < wa) || decide (du < 0) || decide (3 < du) then 3
   else if ki == 1 then checkE c (.mk ek en ex eks) else listE c li):=rfl
 obtain ⟨ae,ce,al,cl,rfl,s0,s1,s2,s3,s4,s5,s6,s7,s8,le,me,hre,ll,ml,hrl⟩:=Fact.inv h;have HX:Hid (Is w (.agg #[.int .i64 ek,.string en,.string ex,.slice ae eks.length ce]) (LExpr.mk ek en ex eks)):=zh (LExpr.mk' s6 s7 s8 le me hre);have HC:=zh hc;have HRL:=zh hrl;have ml':li.length≤9223372036854775807:=by simp only [maxLen] at ml;omega
 obtain ⟨a0,N0,c0,a1,N1,c1,a2,N2,c2,a3,N3,c3,rfl⟩:=catBox2 hc;have HCF:Hid (∀ W,Below w.heap.size w W→Calls Tryz.prog 123 #[.agg #[.slice a0 N0 c0,.slice a1 N1 c1,.slice a2 N2 c2,.slice a3 N3 c3],.agg #[.int .i64 ek,.string en,.string ex,.slice ae eks.length ce]] W fun e w'=>e=.returned (.int .i64 (checkE c (LExpr.mk ek en ex eks)))∧Below W.heap.size W w') :=
  fun W hb=>Check32_ref c _ ht3 W _ _ (HC.out.mono hb) (HX.out.mono hb)
 have HEX:Hid (∀ W,0≤ki→ki≤4→Calls Tryz.prog 121 #[.agg #[.int .i64 ki,.string co,.string ou,.int .i64 re,.int .i64 wa,.int .i64 du,.bool ch,.int .i64 ek,.string en,.string ex,.slice ae eks.length ce,.slice al li.length cl]] W
   fun e w'=>e=.returned (.bool (!extraF (.mk ki co ou re wa du ch (.mk ek en ex eks) li)))∧Below W.heap.size W w') :=
  fun W h1 h2=>plainF_ref W ki co ou en ex re wa du ek ch eks li ae al ce cl h1 h2
 have HP1:Hid (∀ W,Below w.heap.size w W→Calls Tryz.prog 122 #[.string co] W fun e w'=>e=.returned (.int .i64 (pathE co))∧Below W.heap.size W w'):=fun W hb=>Path_ref co W ht1;have HP2:Hid (∀ W,Below w.heap.size w W→Calls Tryz.prog 122 #[.string ou] W fun e w'=>e=.returned (.int .i64 (pathE ou))∧Below W.heap.size W w'):=fun W hb=>Path_ref ou W ht2;have HFI:Hid (∀ W s,Below w.heap.size w W→Calls Tryz.prog 70 #[.agg #[.slice a0 N0 c0,.slice a1 N1 c1,.slice a2 N2 c2,.slice a3 N3 c3],.string s] W fun e w'=>e=.returned (.tuple #[licV ((findC c s).getD noLic),.bool (findC c s).isSome])∧Below W.heap.size W w') :=
  fun W s hb=>Find_ref W _ c s (HC.out.mono hb)
 generalize extraF (.mk ki co ou re wa du ch (.mk ek en ex eks) li)=xt at *;generalize checkE c (.mk ek en ex eks)=cx at *;generalize pathE co=p1 at *;generalize pathE ou=p2 at *;generalize eks.length=E at *;generalize hL:li.length=L at *;have HL:=zh hL;clear h hc hre hrl HX ht1 ht2 ht3 s0 s1 s2 s3 s4 s5 s6 s7 s8 le me ll ml hL;generalize factE c (.mk ki co ou re wa du ch (.mk ek en ex eks) li)=fe at *;have hb0:Below w.heap.size w ((w.alloc (.cells #[.slice a0 N0 c0,.slice a1 N1 c1,.slice a2 N2 c2,.slice a3 N3 c3] 27)).alloc (.cells #[.int .i64 ki,.string co,.string ou,.int .i64 re,.int .i64 wa,.int .i64 du,.bool ch,.int .i64 ek,.string en,.string ex,.slice ae E ce,.slice al L cl] 70)):=bw;have d0:((w.alloc (.cells #[.slice a0 N0 c0,.slice a1 N1 c1,.slice a2 N2 c2,.slice a3 N3 c3] 27)).alloc (.cells #[.int .i64 ki,.string co,.string ou,.int .i64 re,.int .i64 wa,.int .i64 du,.bool ch,.int .i64 ek,.string en,.string ex,.slice ae E ce,.slice al L cl] 70)).cell? ⟨w.heap.size,0,none⟩=some (.slice a0 N0 c0):=kept (W:=w.alloc (.cells #[.slice a0 N0 c0,.slice a1 N1 c1,.slice a2 N2 c2,.slice a3 N3 c3] 27)) bw (a:=⟨w.heap.size,0,none⟩) (v:=.slice a0 N0 c0) (by simp);have d1:((w.alloc (.cells #[.slice a0 N0 c0,.slice a1 N1 c1,.slice a2 N2 c2,.slice a3 N3 c3] 27)).alloc (.cells #[.int .i64 ki,.string co,.string ou,.int .i64 re,.int .i64 wa,.int .i64 du,.bool ch,.int .i64 ek,.string en,.string ex,.slice ae E ce,.slice al L cl] 70)).cell? ⟨w.heap.size,1,none⟩=some (.slice a1 N1 c1):=kept (W:=w.alloc (.cells #[.slice a0 N0 c0,.slice a1 N1 c1,.slice a2 N2 c2,.slice a3 N3 c3] 27)) bw (a:=⟨w.heap.size,1,none⟩) (v:=.slice a1 N1 c1) (by simp);have d2:((w.alloc (.cells #[.slice a0 N0 c0,.slice a1 N1 c1,.slice a2 N2 c2,.slice a3 N3 c3] 27)).alloc (.cells #[.int .i64 ki,.string co,.string ou,.int .i64 re,.int .i64 wa,.int .i64 du,.bool ch,.int .i64 ek,.string en,.string ex,.slice ae E ce,.slice al L cl] 70)).cell? ⟨w.heap.size,2,none⟩=some (.slice a2 N2 c2):=kept (W:=w.alloc (.cells #[.slice a0 N0 c0,.slice a1 N1 c1,.slice a2 N2 c2,.slice a3 N3 c3] 27)) bw (a:=⟨w.heap.size,2,none⟩) (v:=.slice a2 N2 c2) (by simp);have d3:((w.alloc (.cells #[.slice a0 N0 c0,.slice a1 N1 c1,.slice a2 N2 c2,.slice a3 N3 c3] 27)).alloc (.cells #[.int .i64 ki,.string co,.string ou,.int .i64 re,.int .i64 wa,.int .i64 du,.bool ch,.int .i64 ek,.string en,.string ex,.slice ae E ce,.slice al L cl] 70)).cell? ⟨w.heap.size,3,none⟩=some (.slice a3 N3 c3):=kept (W:=w.alloc (.cells #[.slice a0 N0 c0,.slice a1 N1 c1,.slice a2 N2 c2,.slice a3 N3 c3] 27)) bw (a:=⟨w.heap.size,3,none⟩) (v:=.slice a3 N3 c3) (by simp);have f0:((w.alloc (.cells #[.slice a0 N0 c0,.slice a1 N1 c1,.slice a2 N2 c2,.slice a3 N3 c3] 27)).alloc (.cells #[.int .i64 ki,.string co,.string ou,.int .i64 re,.int .i64 wa,.int .i64 du,.bool ch,.int .i64 ek,.string en,.string ex,.slice ae E ce,.slice al L cl] 70)).cell? ⟨w.heap.size+1,0,none⟩=some (.int .i64 ki):=by simp
 have f1:((w.alloc (.cells #[.slice a0 N0 c0,.slice a1 N1 c1,.slice a2 N2 c2,.slice a3 N3 c3] 27)).alloc (.cells #[.int .i64 ki,.string co,.string ou,.int .i64 re,.int .i64 wa,.int .i64 du,.bool ch,.int .i64 ek,.string en,.string ex,.slice ae E ce,.slice al L cl] 70)).cell? ⟨w.heap.size+1,1,none⟩=some (.string co):=by simp
 have f2:((w.alloc (.cells #[.slice a0 N0 c0,.slice a1 N1 c1,.slice a2 N2 c2,.slice a3 N3 c3] 27)).alloc (.cells #[.int .i64 ki,.string co,.string ou,.int .i64 re,.int .i64 wa,.int .i64 du,.bool ch,.int .i64 ek,.string en,.string ex,.slice ae E ce,.slice al L cl] 70)).cell? ⟨w.heap.size+1,2,none⟩=some (.string ou):=by simp
 have f3:((w.alloc (.cells #[.slice a0 N0 c0,.slice a1 N1 c1,.slice a2 N2 c2,.slice a3 N3 c3] 27)).alloc (.cells #[.int .i64 ki,.string co,.string ou,.int .i64 re,.int .i64 wa,.int .i64 du,.bool ch,.int .i64 ek,.string en,.string ex,.slice ae E ce,.slice al L cl] 70)).cell? ⟨w.heap.size+1,3,none⟩=some (.int .i64 re):=by simp
 have f4:((w.alloc (.cells #[.slice a0 N0 c0,.slice a1 N1 c1,.slice a2 N2 c2,.slice a3 N3 c3] 27)).alloc (.cells #[.int .i64 ki,.string co,.string ou,.int .i64 re,.int .i64 wa,.int .i64 du,.bool ch,.int .i64 ek,.string en,.string ex,.slice ae E ce,.slice al L cl] 70)).cell? ⟨w.heap.size+1,4,none⟩=some (.int .i64 wa):=by simp
 have f5:((w.alloc (.cells #[.slice a0 N0 c0,.slice a1 N1 c1,.slice a2 N2 c2,.slice a3 N3 c3] 27)).alloc (.cells #[.int .i64 ki,.string co,.string ou,.int .i64 re,.int .i64 wa,.int .i64 du,.bool ch,.int .i64 ek,.string en,.string ex,.slice ae E ce,.slice al L cl] 70)).cell? ⟨w.heap.size+1,5,none⟩=some (.int .i64 du):=by simp
 have f6:((w.alloc (.cells #[.slice a0 N0 c0,.slice a1 N1 c1,.slice a2 N2 c2,.slice a3 N3 c3] 27)).alloc (.cells #[.int .i64 ki,.string co,.string ou,.int .i64 re,.int .i64 wa,.int .i64 du,.bool ch,.int .i64 ek,.string en,.string ex,.slice ae E ce,.slice al L cl] 70)).cell? ⟨w.heap.size+1,6,none⟩=some (.bool ch):=by simp
 have f7:((w.alloc (.cells #[.slice a0 N0 c0,.slice a1 N1 c1,.slice a2 N2 c2,.slice a3 N3 c3] 27)).alloc (.cells #[.int .i64 ki,.string co,.string ou,.int .i64 re,.int .i64 wa,.int .i64 du,.bool ch,.int .i64 ek,.string en,.string ex,.slice ae E ce,.slice al L cl] 70)).cell? ⟨w.heap.size+1,7,none⟩=some (.int .i64 ek):=by simp
 have f8:((w.alloc (.cells #[.slice a0 N0 c0,.slice a1 N1 c1,.slice a2 N2 c2,.slice a3 N3 c3] 27)).alloc (.cells #[.int .i64 ki,.string co,.string ou,.int .i64 re,.int .i64 wa,.int .i64 du,.bool ch,.int .i64 ek,.string en,.string ex,.slice ae E ce,.slice al L cl] 70)).cell? ⟨w.heap.size+1,8,none⟩=some (.string en):=by simp
 have f9:((w.alloc (.cells #[.slice a0 N0 c0,.slice a1 N1 c1,.slice a2 N2 c2,.slice a3 N3 c3] 27)).alloc (.cells #[.int .i64 ki,.string co,.string ou,.int .i64 re,.int .i64 wa,.int .i64 du,.bool ch,.int .i64 ek,.string en,.string ex,.slice ae E ce,.slice al L cl] 70)).cell? ⟨w.heap.size+1,9,none⟩=some (.string ex):=by simp
 have f10:((w.alloc (.cells #[.slice a0 N0 c0,.slice a1 N1 c1,.slice a2 N2 c2,.slice a3 N3 c3] 27)).alloc (.cells #[.int .i64 ki,.string co,.string ou,.int .i64 re,.int .i64 wa,.int .i64 du,.bool ch,.int .i64 ek,.string en,.string ex,.slice ae E ce,.slice al L cl] 70)).cell? ⟨w.heap.size+1,10,none⟩=some (.slice ae E ce):=by simp
 have f11:((w.alloc (.cells #[.slice a0 N0 c0,.slice a1 N1 c1,.slice a2 N2 c2,.slice a3 N3 c3] 27)).alloc (.cells #[.int .i64 ki,.string co,.string ou,.int .i64 re,.int .i64 wa,.int .i64 du,.bool ch,.int .i64 ek,.string en,.string ex,.slice ae E ce,.slice al L cl] 70)).cell? ⟨w.heap.size+1,11,none⟩=some (.slice al L cl):=by simp
 by_cases k0:ki < 0
 case pos =>
  have HT:Hid (fe=1):=by show _=_;rw [HF.out,decide_eq_true k0];rfl
  exact zrrfd5
 by_cases kw4:4 < ki
 case pos =>
  have HT:Hid (fe=1):=by show _=_;rw [HF.out,decide_eq_true kw4];simp
  exact zrrfd5
 have hex:=HEX.out ((w.alloc (.cells #[.slice a0 N0 c0,.slice a1 N1 c1,.slice a2 N2 c2,.slice a3 N3 c3] 27)).alloc (.cells #[.int .i64 ki,.string co,.string ou,.int .i64 re,.int .i64 wa,.int .i64 du,.bool ch,.int .i64 ek,.string en,.string ex,.slice ae E ce,.slice al L cl] 70)) (by omega) (by omega)
 have HF1:Hid (fe=if xt then 1 else if (ki == 0 || ki == 1 || ki == 4) && !(p1 == 0) || (ki == 0 || ki == 2 || ki == 3) && !(p2 == 0) then 2
   else if decide (re < 0) || decide (2 < re) || decide (wa < 0) || decide (2 < wa) || decide (du < 0) || decide (3 < du) then 3
   else if ki == 1 then cx else listE c li):=by
  show _=_;rw [HF.out,decide_eq_false k0,decide_eq_false kw4];rfl
 clear HF HEX;go_enter Tryz.func54,Tryz.ntmps54;go_wp2_with fail
 generalize ((w.alloc (.cells #[.slice a0 N0 c0,.slice a1 N1 c1,.slice a2 N2 c2,.slice a3 N3 c3] 27)).alloc (.cells #[.int .i64 ki,.string co,.string ou,.int .i64 re,.int .i64 wa,.int .i64 du,.bool ch,.int .i64 ek,.string en,.string ex,.slice ae E ce,.slice al L cl] 70))=W0 at *;refine hex.mono ?_;rintro e w1 ⟨rfl,hb1⟩;have HB1:Hid (Below w.heap.size w w1):=zh (hb0.trans (hb1.mono hb0.size));have hz:W0.heap.size≤w1.heap.size:=hb1.size;obtain ⟨d0,d1,d2,d3⟩:=k4 hb1 d0 d1 d2 d3;obtain ⟨f0,f1,f2,f3⟩:=k4 hb1 f0 f1 f2 f3;obtain ⟨f4,f5,f6,f7⟩:=k4 hb1 f4 f5 f6 f7;obtain ⟨f8,f9,f10,f11⟩:=k4 hb1 f8 f9 f10 f11;have hs1:w.heap.size+1 < w1.heap.size:=cell_lt f0;have hs0:w.heap.size < w1.heap.size:=by omega
 clear hex hb0 hb1;cases xt;case true =>
  have HT:Hid (fe=1):=HF1.out;clear HF1 HCF HP1 HP2 HFI;go_wp2_with fail
  go_ret;exact ⟨by rw [HT.out];rfl,HB1.out⟩
 go_upto_region 3 with (fail)
 go_cut [35] (fun vv wx=>vv=.bool ((ki == 0 || ki == 1 || ki == 4) && !(p1 == 0))∧Hid (Below w1.heap.size w1 wx))
 case first =>
  clear HF1;have hkk:ki=0∨ki=1∨ki=2∨ki=3∨ki=4:=by omega
  rcases hkk with rfl | rfl | rfl | rfl | rfl
  ·exact zqrfd6
  ·exact zqrfd6
  ·exact zrrfd2
  ·exact zrrfd2
  ·exact zqrfd6
 case rest =>
  obtain ⟨rfl,hbc⟩:=hcut;obtain ⟨w2,hw2⟩:∃ w2,w2=wc:=⟨_,rfl⟩
  subst hw2;have HB2:=zh (HB1.out.trans (hbc.out.mono HB1.out.size));obtain ⟨d0,d1,d2,d3⟩:=k4 hbc.out d0 d1 d2 d3;obtain ⟨f0,f1,f2,f3⟩:=k4 hbc.out f0 f1 f2 f3;obtain ⟨f4,f5,f6,f7⟩:=k4 hbc.out f4 f5 f6 f7;obtain ⟨f8,f9,f10,f11⟩:=k4 hbc.out f8 f9 f10 f11;have hs2:w.heap.size+1 < w2.heap.size:=cell_lt f0;have hs0:w.heap.size < w2.heap.size:=by omega
  clear hbc hs1 HB1 hz;cases q1:((ki == 0 || ki == 1 || ki == 4) && !(p1 == 0));case true =>
   have HT:Hid (fe=2):=by show _=_;rw [HF1.out,q1];rfl
   clear HF1 HCF HP1 HP2 HFI;go_wp2_with fail
   go_ret;exact ⟨by rw [HT.out];rfl,HB2.out⟩
  have HF2:Hid (fe=if (ki == 0 || ki == 2 || ki == 3) && !(p2 == 0) then 2
    else if decide (re < 0) || decide (2 < re) || decide (wa < 0) || decide (2 < wa) || decide (du < 0) || decide (3 < du) then 3
    else if ki == 1 then cx else listE c li):=by
   show _=_;rw [HF1.out,q1];rfl
  clear HF1 q1;have HF1:=HF2;go_upto_region 5 with (fail)
  go_cut [49] (fun vv wx=>vv=.bool ((ki == 0 || ki == 2 || ki == 3) && !(p2 == 0))∧Hid (Below w2.heap.size w2 wx))
  case first =>
   clear HF1;have hkk:ki=0∨ki=1∨ki=2∨ki=3∨ki=4:=by omega
   rcases hkk with rfl | rfl | rfl | rfl | rfl
   ·exact zqrfd7
   ·exact zrrfd2
   ·exact zqrfd7
   ·exact zqrfd7
   ·exact zrrfd2
  case rest =>
   obtain ⟨rfl,hbc⟩:=hcut;obtain ⟨w3,hw2⟩:∃ w2,w2=wc:=⟨_,rfl⟩
   subst hw2;have HB3:=zh (HB2.out.trans (hbc.out.mono HB2.out.size));obtain ⟨d0,d1,d2,d3⟩:=k4 hbc.out d0 d1 d2 d3;obtain ⟨f0,f1,f2,f3⟩:=k4 hbc.out f0 f1 f2 f3;obtain ⟨f4,f5,f6,f7⟩:=k4 hbc.out f4 f5 f6 f7;obtain ⟨f8,f9,f10,f11⟩:=k4 hbc.out f8 f9 f10 f11;have hs3:w.heap.size+1 < w3.heap.size:=cell_lt f0;have hs0:w.heap.size < w3.heap.size:=by omega
   clear hbc hs2 HB2 HF1 HP1 HP2;cases q1:((ki == 0 || ki == 2 || ki == 3) && !(p2 == 0));case true =>
    have HT:Hid (fe=2):=by show _=_;rw [HF2.out,q1];rfl
    clear HF2 HCF HFI;go_wp2_with fail
    go_ret;exact ⟨by rw [HT.out];rfl,HB3.out⟩
   have HF3:Hid (fe=if decide (re < 0) || decide (2 < re) || decide (wa < 0) || decide (2 < wa) || decide (du < 0) || decide (3 < du) then 3
     else if ki == 1 then cx else listE c li):=by
    show _=_;rw [HF2.out,q1];rfl
   clear HF2 q1;by_cases r0:re < 0
   case pos =>
    have HT:Hid (fe=3):=by
     show _=_;rw [HF3.out,if_pos];simp [r0]
    exact zrrfd1
   by_cases r1:2 < re
   case pos =>
    have HT:Hid (fe=3):=by
     show _=_;rw [HF3.out,if_pos];simp [r0,r1]
    exact zrrfd1
   by_cases r2:wa < 0
   case pos =>
    have HT:Hid (fe=3):=by
     show _=_;rw [HF3.out,if_pos];simp [r0,r1,r2]
    exact zrrfd1
   by_cases r3:2 < wa
   case pos =>
    have HT:Hid (fe=3):=by
     show _=_;rw [HF3.out,if_pos];simp [r0,r1,r2,r3]
    exact zrrfd1
   by_cases r4:du < 0
   case pos =>
    have HT:Hid (fe=3):=by
     show _=_;rw [HF3.out,if_pos];simp [r0,r1,r2,r3,r4]
    exact zrrfd1
   by_cases r5:3 < du
   case pos =>
    have HT:Hid (fe=3):=by
     show _=_;rw [HF3.out,if_pos];simp [r0,r1,r2,r3,r4,r5]
    exact zrrfd1
   have HF4:Hid (fe=if ki == 1 then cx else listE c li):=by
    show _=_;rw [HF3.out,if_neg];simp only [decide_eq_false r0,decide_eq_false r1,decide_eq_false r2,decide_eq_false r3,decide_eq_false r4,decide_eq_false r5];decide
   clear HF3;cases u4:(ki == 1);case true =>
    have HT:Hid (fe=cx):=by show _=_;rw [HF4.out,u4];rfl
    clear HF4;go_wp2_with fail
    refine (HCF.out _ HB3.out).mono ?_;rintro e w4 ⟨rfl,hb4⟩;go_wp2_with fail
    go_ret;exact ⟨by rw [HT.out];rfl,HB3.out.trans (hb4.mono HB3.out.size)⟩
   have HT:Hid (fe=listE c li):=by show _=_;rw [HF4.out,u4];rfl
   clear HF4 HCF;have D0:=zh d0;have D1:=zh d1;have D2:=zh d2;have D3:=zh d3;have F11:=zh f11;go_wp2_with fail
   clear d0 d1 d2 d3 f0 f1 f2 f3 f4 f5 f6 f7 f8 f9 f10 f11 r0 r1 r2 r3 r4 r5;go_loopw [5] (fun kv wr=>∃ k:Nat,k≤L∧kv=.int .i64 k∧Hid ((li.take k).any (fun s=>(findC c s).isNone)=false)∧Hid (Below w3.heap.size w3 wr)) (fun kv _=>L - (intOf kv).toNat)
   case atStart=>exact ⟨0,by omega,rfl,rfl,zh (Below.refl _ _)⟩
   case round =>
    obtain ⟨k,hk,rfl,HK,hbr⟩:=hrel;have HBR:=zh (HB3.out.trans (hbr.out.mono HB3.out.size));have F11R:=zh (kept hbr.out F11.out);have f11:=F11R.out;have hsr:=cell_lt f11;by_cases hki:k < L
    ·have hkz:(k:Int) < (L:Int):=by omega
     have hk0:(0:Int)≤(k:Int):=by omega
     obtain ⟨x,hx⟩:=get_lt (xs:=li) (k:=k) (by rw [HL.out];exact hki);obtain ⟨bx,ox,rfl,hbx,x0',-⟩:=str_at HRL.out hx;have X0:=zh (kept HBR.out x0');have D0R:=zh (kept hbr.out D0.out);have D1R:=zh (kept hbr.out D1.out);have D2R:=zh (kept hbr.out D2.out);have D3R:=zh (kept hbr.out D3.out);have HS:=zh (any_none_at (p:=fun s=>(findC c s).isNone) hx);have HM:=zh (any_hit_at (p:=fun s=>(findC c s).isNone) hx);have HCALL:Hid (∀ W,Below wr.heap.size wr W→Calls Tryz.prog 70 #[.agg #[.slice a0 N0 c0,.slice a1 N1 c1,.slice a2 N2 c2,.slice a3 N3 c3],.string x] W fun e w'=>e=.returned (.tuple #[licV ((findC c x).getD noLic),.bool (findC c x).isSome])∧Below W.heap.size W w'):=fun W hb=>HFI.out W x (HBR.out.trans (hb.mono HBR.out.size));have hzr:w3.heap.size≤wr.heap.size:=hbr.out.size;clear hx x0' hbx;generalize (findC c x)=o at *;have hob:o.isNone=!o.isSome:=by cases o <;> rfl
     have HOB:=zh hob;clear hob;generalize hlv:licV (o.getD noLic)=lv at *;obtain ⟨l0,l1,l2,l3,rfl⟩:∃ l0 l1 l2 l3,lv=.agg #[.string l0,.string l1,.int .i64 l2,.string l3]:=⟨_,_,_,_,hlv.symm⟩
     clear hlv;generalize o.isSome=sm at *;go_upto_region 14 with (fail)
     go_cut [7] (fun vv wx=>vv=.bool sm∧Hid (Below wr.heap.size wr wx))
     case first =>
      refine wp_region_held_drew (S:=(fun w':World=>Below wr.heap.size wr w')) (by kernel_rfl) (by exact (Below.refl _ _).drew) (fun hH0=>?_);generalize wr.drew=wd at *;refine tkB 0 hH0 rfl ?_ (by intro w hSw;(try dsimp only at hSw);have y0:=kept hSw D0R.out;have y1:=kept hSw D1R.out;have y2:=kept hSw D2R.out;have y3:=kept hSw D3R.out;have y9:=cell_lt y0;go_simp;all_goals with_reducible rfl);try simp only [tkS,Act.put]
      refine tkB 1 hH0 rfl ?_ (by intro w hSw;(try dsimp only at hSw);have f11:=kept hSw F11R.out;have x0:=kept hSw X0.out;have y9:=cell_lt f11;have y8:=cell_lt x0;go_simp;all_goals with_reducible rfl);try simp only [tkS,Act.put]
      refine tkB 2 hH0 rfl ?_ (by intro w hSw;(try dsimp only at hSw);have f11:=kept hSw F11R.out;have x0:=kept hSw X0.out;have y9:=cell_lt f11;have y8:=cell_lt x0;go_simp;all_goals with_reducible rfl);try simp only [tkS,Act.put]
      refine tkB 3 hH0 rfl ?_;try simp only [tkS,Act.put]
      refine tkB 4 hH0 rfl ?_ (by intro w hSw;(try dsimp only at hSw);have f11:=kept hSw F11R.out;have x0:=kept hSw X0.out;have y9:=cell_lt f11;have y8:=cell_lt x0;go_simp;all_goals with_reducible rfl);try simp only [tkS,Act.put]
      refine tkB 5 hH0 rfl ?_ (by intro w hSw;(try dsimp only at hSw);have f11:=kept hSw F11R.out;have x0:=kept hSw X0.out;have y9:=cell_lt f11;have y8:=cell_lt x0;go_simp;all_goals with_reducible rfl);try simp only [tkS,Act.put]
      refine rd2 6 10 rfl rfl (fun K hK=>?_) (fun K hK=>?_)
      ·go_simp;go_at_call 70
       refine (HCALL.out _ hH0).mono ?_;rintro e w5 ⟨rfl,hb⟩;have hbb:Below wr.heap.size wr w5:=hH0.trans (hb.mono hH0.size);go_wp2_with fail
       refine hK.out _ _ ?_ (fun hH1=>?_)
       ·exact hbb
       try simp only [tkS,Act.put]
       clear hK K;refine tkB 7 hH1 rfl ?_;try simp only [tkS,Act.put]
       refine tkB 8 hH1 rfl ?_;try simp only [tkS,Act.put]
       refine tkB 9 hH1 rfl ?_;try simp only [tkS,Act.put]
       refine rd1 10 rfl (fun K hK=>?_);go_simp;go_wp2_with fail
       refine hK.out _ _ ?_ (fun hH2=>?_)
       ·exact hbb.alloc hbb.size _
       try simp only [tkS,Act.put]
       clear hK K;refine rd1 11 rfl (fun K hK=>?_);go_simp;have hb6:Below wr.heap.size wr (w5.alloc (.cells #[.string l0,.string l1,.int .i64 l2,.string l3] 106)):=hbb.alloc hbb.size _;go_wp2_with fail
       refine hK.out _ _ ?_ (fun hH3=>?_)
       ·exact hb6
       try simp only [tkS,Act.put]
       clear hK K;generalize (w5.alloc (.cells #[.string l0,.string l1,.int .i64 l2,.string l3] 106))=w6 at *;exact zrrfd4
      ·go_simp;have hOB:=World.alloc_heap_new wd (.cells #[.string ByteArray.empty,.string ByteArray.empty,.int .i64 0,.string ByteArray.empty] 106);have hbA2:Below wr.heap.size wr (wd.alloc (.cells #[.string ByteArray.empty,.string ByteArray.empty,.int .i64 0,.string ByteArray.empty] 106)):=hH0.alloc hH0.size _;have hge:wr.heap.size≤wd.heap.size:=hH0.size;go_wp2_with fail
       refine hK.out _ _ ?_ (fun hH1=>?_)
       ·exact hbA2
       try simp only [tkS,Act.put]
       clear hK K;clear hH0 hbA2;refine rd1 6 rfl (fun K hK=>?_);go_simp;go_at_call 70
       refine (HCALL.out _ hH1).mono ?_;rintro e w5 ⟨rfl,hb⟩;have hbb:Below wr.heap.size wr w5:=hH1.trans (hb.mono hH1.size);have hOA:=obj_below hOB hb;go_wp2_with fail
       refine hK.out _ _ ?_ (fun hH2=>?_)
       ·exact hbb
       try simp only [tkS,Act.put]
       clear hK K;refine tkB 7 hH2 rfl ?_;try simp only [tkS,Act.put]
       refine tkB 8 hH2 rfl ?_;try simp only [tkS,Act.put]
       refine tkB 9 hH2 rfl ?_;try simp only [tkS,Act.put]
       refine rd1 11 rfl (fun K hK=>?_);have z0:=objcell hOA (j:=0) rfl;have f0:=objfrozen hOA (j:=0);have z1:=objcell hOA (j:=1) rfl;have f1:=objfrozen hOA (j:=1);have z2:=objcell hOA (j:=2) rfl;have f2:=objfrozen hOA (j:=2);have z3:=objcell hOA (j:=3) rfl;have f3:=objfrozen hOA (j:=3);have hlg:wd.heap.size < w5.heap.size:=cell_lt z0;go_simp;have hb6:Below wr.heap.size wr ((((w5.setCell ⟨wd.heap.size,0,none⟩ (.string l0)).setCell ⟨wd.heap.size,1,none⟩ (.string l1)).setCell ⟨wd.heap.size,2,none⟩ (.int .i64 l2)).setCell ⟨wd.heap.size,3,none⟩ (.string l3)):=((((hbb.setCell (by exact hge) _).setCell (by exact hge) _).setCell (by exact hge) _).setCell (by exact hge) _)
       go_wp2_with fail
       refine hK.out _ _ ?_ (fun hH3=>?_)
       ·exact hb6
       try simp only [tkS,Act.put]
       clear hK K;generalize ((((w5.setCell ⟨wd.heap.size,0,none⟩ (.string l0)).setCell ⟨wd.heap.size,1,none⟩ (.string l1)).setCell ⟨wd.heap.size,2,none⟩ (.int .i64 l2)).setCell ⟨wd.heap.size,3,none⟩ (.string l3))=w6 at *;exact zrrfd4
     case rest =>
      obtain ⟨rfl,hbc⟩:=hcut;obtain ⟨w6,hw2⟩:∃ w2,w2=wc:=⟨_,rfl⟩
      subst hw2;have HB6:=zh (hbr.out.trans (hbc.out.mono hbr.out.size));clear hbc;cases sm;case false =>
       have HT2:Hid (listE c li=7):=by
        show _=_;unfold listE;rw [if_pos];exact HM.out (by rw [HOB.out];rfl)
       clear HM HS;go_wp2_with fail
       go_ret;exact ⟨by rw [HT.out,HT2.out];rfl,HB3.out.trans (HB6.out.mono HB3.out.size)⟩
      case true =>
       have HK2:Hid ((li.take (k+1)).any (fun s=>(findC c s).isNone)=false):=by
        show _=_;rw [HS.out,HK.out,HOB.out];rfl
       clear HM HS HK;go_wp2_with fail
       go_roundw
       case rel=>exact ⟨k+1,by omega,by go_num,HK2,HB6⟩
       case measure=>exact zm
    ·have hkz:¬ (k:Int) < (L:Int):=by omega
     have HA:Hid (li.any (fun s=>(findC c s).isNone)=false):=by
      show _=_;have:=HK.out;rwa [List.take_of_length_le (by rw [HL.out];omega)] at this
     have HT2:Hid (listE c li=if !incr slt li then 5 else 0):=by
      show _=_;unfold listE;rw [HA.out];rfl
     clear HK HA hbr;go_wp2_with fail
     have hzr:w.heap.size+1 < wr.heap.size:=cell_lt F11R.out;clear f11;go_loopw [8] (fun kv ws=>∃ k:Nat,1≤k∧k≤L+1∧kv=.int .i64 k∧(∃ n,ws=wr.drewN n)∧Hid (incr slt li=incr slt (li.drop (k - 1)))) (fun kv _=>L - (intOf kv).toNat)
     case atStart=>exact ⟨1,by omega,by omega,rfl,⟨0,rfl⟩,rfl⟩
     case round =>
      obtain ⟨m1,hlo,hm1,rfl,⟨n,rfl⟩,hf⟩:=hrel;have f11:=F11R.out;by_cases hmi:m1 < L
      ·obtain ⟨m,rfl⟩:∃ m,m1=m+1:=⟨m1 - 1,by omega⟩
       obtain ⟨u,hu⟩:=get_lt (xs:=li) (k:=m) (by rw [HL.out];omega);obtain ⟨y,hy⟩:=get_lt (xs:=li) (k:=m+1) (by rw [HL.out];omega);obtain ⟨b3,off3,rfl,hb3,g0',-⟩:=str_at HRL.out hu;obtain ⟨b5,off5,he5,hb5,g1',-⟩:=str_at HRL.out hy;obtain ⟨rfl,rfl⟩:b3=b5∧off3=off5:=by simpa using he5
       have g0:=kept HBR.out g0';have g1:=kept HBR.out g1';have hd:=zh (show li.drop (m+1 - 1)=u :: li.drop (m+1) from drop_at hu);have hd2:=zh (drop_at hy);clear hu hy he5 g0' g1';have HSL:Hid (slt u y=Op.bytesLess u.toList y.toList):=zh rfl;cases q1:(!Op.bytesLess u.toList y.toList);case true =>
        have HT3:Hid (listE c li=5):=by
         show _=_;have q2:Op.bytesLess u.toList y.toList=false:=by simpa using q1
         rw [HT2.out,hf.out,hd.out,hd2.out,incr_cons,HSL.out,q2];rfl
        clear HT2 hf hd hd2;go_wp2_with fail
        go_quiet (fail)
        go_wp2_with fail
        go_ret;exact ⟨by rw [HT.out,HT3.out];rfl,by have hq:=HBR.out;exact bw⟩
       have HF2:Hid (incr slt li=incr slt (li.drop (m+1+1 - 1))):=by
        show _=_;have q2:Op.bytesLess u.toList y.toList=true:=by simpa using q1
        rw [hf.out,hd.out,hd2.out,incr_cons,HSL.out,q2,Bool.true_and,← hd2.out];rfl
       clear hf hd hd2;go_wp2_with fail
       go_quiet (fail)
       go_wp2_with fail
       go_roundw
       case rel=>exact ⟨m+1+1,by omega,by omega,by go_num,⟨_,rfl⟩,HF2⟩
       case measure=>exact zm
      ·have HT3:Hid (listE c li=0):=by
        show _=_;rw [HT2.out,hf.out,incr_short _ _ (by simp [HL.out];omega)];rfl
       clear HT2 hf;go_wp2_with fail
       go_ret;exact ⟨by rw [HT.out,HT3.out];rfl,by have hq:=HBR.out;exact bw⟩
end Go.Proofs.YtcbopdbbcgdkcaaGreatDoor
namespace Go.Proofs.YtcbopdbbcgdkcaaGreatDoor
open Go Go.RowKit Go.ChangeShapes Go.Lib

theorem CheckD_ref (w:World) (vc vx:Value) (c:Catalog) (x:List Fact) (hc:Is w vc c) (h:Is w vx x) (hfit:∀ f∈x,fitF f) :
  Calls Tryz.prog 14 #[vc,vx] w fun e w'=>e=.returned (.tuple #[.int .i64 (caseE c x).1,.int .i64 (caseE c x).2])∧Below w.heap.size w w':=by
 have HF:Hid (caseE c x=if !(checkC c == 0) then (-1,1) else if decide ((256:Int) < x.length) then (-1,10) else factsE c 0 x):=rfl;obtain ⟨a,n,rfl,hn,hm,hr⟩:=list_inv h;have hm':x.length≤9223372036854775807:=by simp only [maxLen] at hm;omega
 have HR:=zh hr;have HC:=zh hc;obtain ⟨a0,N0,c0,a1,N1,c1,a2,N2,c2,a3,N3,c3,rfl⟩:=catBox2 hc;have HFA:Hid (∀ (W:World) (v:Value) (f:Fact),Below w.heap.size w W→f∈x→Is W v f→Calls Tryz.prog 54 #[.agg #[.slice a0 N0 c0,.slice a1 N1 c1,.slice a2 N2 c2,.slice a3 N3 c3],v] W fun e w'=>e=.returned (.int .i64 (factE c f))∧Below W.heap.size W w') :=
  fun W v f hb hf hi=>fact_ref W _ v c f (HC.out.mono hb) hi (hfit f hf)
 have hcall:=Check_ref (w.alloc (.cells #[.slice a0 N0 c0,.slice a1 N1 c1,.slice a2 N2 c2,.slice a3 N3 c3] 27)) _ c (hc.mono zb);generalize checkC c=cc at *;generalize hL:x.length=L at *;have HL:=zh hL;clear h hr hc hfit hn hm hL;go_enter Tryz.func14,Tryz.ntmps14;go_wp2_with fail
 refine hcall.mono ?_;rintro e w1 ⟨rfl,hb1⟩;clear hcall;have d0:=kb w hb1 0 (.slice a0 N0 c0);have d1:=kb w hb1 1 (.slice a1 N1 c1);have d2:=kb w hb1 2 (.slice a2 N2 c2);have d3:=kb w hb1 3 (.slice a3 N3 c3);have hs1:w.heap.size < w1.heap.size:=cell_lt d0;have HB1:Hid (Below w.heap.size w w1):=zh (zb.trans (hb1.mono (by simp)));clear hb1;cases q:(cc == 0);case false =>
  have q':(cc != 0)=true:=by rw [show (cc != 0)=!(cc == 0) from rfl,q];rfl
  have HT:Hid (caseE c x=(-1,1)):=by show _=_;rw [HF.out,q];rfl
  clear HF;go_wp2_with fail
  go_ret2;exact ⟨by rw [HT.out];rfl,HB1.out⟩
 have q':(cc != 0)=false:=by rw [show (cc != 0)=!(cc == 0) from rfl,q];rfl
 by_cases q2:(256:Int) < (L:Int)
 case pos =>
  have HT:Hid (caseE c x=(-1,10)):=by show _=_;rw [HF.out,q,decide_eq_true q2];rfl
  clear HF;go_wp2_with fail
  go_ret2;exact ⟨by rw [HT.out];rfl,HB1.out⟩
 have HT:Hid (caseE c x=factsE c 0 x):=by show _=_;rw [HF.out,q,decide_eq_false q2];rfl
 clear HF;have D0:=zh d0;have D1:=zh d1;have D2:=zh d2;have D3:=zh d3;go_wp2_with fail
 clear d0 d1 d2 d3 q;go_loopw [6] (fun kv wr=>∃ k:Nat,k≤L∧kv=.int .i64 k∧Hid (caseE c x=factsE c k (x.drop k))∧Hid (Below w1.heap.size w1 wr)) (fun kv _=>L - (intOf kv).toNat)
 case atStart=>exact ⟨0,by omega,rfl,zh HT.out,zh (Below.refl _ _)⟩
 case round =>
  obtain ⟨k,hk,rfl,HK,hbr⟩:=hrel;have HBR:=zh (HB1.out.trans (hbr.out.mono HB1.out.size));by_cases hki:k < L
  ·have hkz:(k:Int) < (L:Int):=by omega
   have hk0:(0:Int)≤(k:Int):=by omega
   obtain ⟨f,hx⟩:=get_lt (xs:=x) (k:=k) (by rw [HL.out];exact hki);have hmem:=List.mem_of_getElem? hx;have hstep:=zh (factsE_step c hx);obtain ⟨ki,co,ou,re,wa,du,ch,⟨ek,en,ex,eks⟩,li⟩:=f;obtain ⟨bx,ox,rfl,hbx,ae,ce,al,cl,x0',x1',x2',x3',x4',x5',x6',x7',x8',x9',x10',x11',hrest⟩:=Fact.at_row HR.out hx;have hval:=zh (Fact.mk' (ch6:=ch) hrest);have hzr:w1.heap.size≤wr.heap.size:=hbr.out.size;have hzs:w.heap.size < wr.heap.size:=Nat.lt_of_lt_of_le hs1 hzr;have d0:=kept hbr.out D0.out;have d1:=kept hbr.out D1.out;have d2:=kept hbr.out D2.out;have d3:=kept hbr.out D3.out;have x0:=kept HBR.out x0';have x1:=kept HBR.out x1';have x2:=kept HBR.out x2';have x3:=kept HBR.out x3';have x4:=kept HBR.out x4';have x5:=kept HBR.out x5';have x6:=kept HBR.out x6';have x7:=kept HBR.out x7';have x8:=kept HBR.out x8';have x9:=kept HBR.out x9';have x10:=kept HBR.out x10';have x11:=kept HBR.out x11';clear x0' x1' x2' x3' x4' x5' x6' x7' x8' x9' x10' x11' hx hrest hbx;generalize eks.length=E at *;generalize li.length=M at *;have hcall:=HFA.out wr.drew _ _ (HBR.out.drewN 1) hmem (hval.out.mono (HBR.out.drewN 1));clear hmem hval;generalize factE c _=fe at *;go_wp2_with fail
   refine still_tail 5 (by kernel_rfl) (by kernel_rfl) ?_;simp only [zt];repeat still_step
   refine wpStill_nil ?_;go_wp2_with fail
   refine hcall.mono ?_;rintro e w4 ⟨rfl,hb4⟩;clear hcall;have HB4:Hid (Below w1.heap.size w1 w4):=zh (hbr.out.drew.trans (hb4.mono hzr));clear hb4;cases q3:(fe == 0);case false =>
    have q3':(fe != 0)=true:=by rw [show (fe != 0)=!(fe == 0) from rfl,q3];rfl
    have HT2:Hid (caseE c x=((k:Int),fe)):=by show _=_;rw [HK.out,hstep.out,q3];rfl
    clear HK hstep HT;go_wp2_with fail
    go_ret2;exact ⟨by rw [HT2.out];rfl,HB1.out.trans (HB4.out.mono HB1.out.size)⟩
   case true =>
    have q3':(fe != 0)=false:=by rw [show (fe != 0)=!(fe == 0) from rfl,q3];rfl
    have HK2:Hid (caseE c x=factsE c (k+1) (x.drop (k+1))):=by show _=_;rw [HK.out,hstep.out,q3];rfl
    clear HK hstep HT q3;go_wp2_with fail
    go_roundw
    case rel=>exact ⟨k+1,by omega,by go_num,HK2,HB4⟩
    case measure=>exact zm
  ·have hkz:¬ (k:Int) < (L:Int):=by omega
   have HT2:Hid (caseE c x=(0,0)):=by
    show _=_;rw [HK.out,List.drop_eq_nil_of_le (by rw [HL.out];omega)];rfl
   clear HK HT;go_wp2_with fail
   go_ret2;exact ⟨by rw [HT2.out];rfl,HBR.out⟩

theorem idxFrom_none (nm:ByteArray) (ls:List ByteArray) (i:Int) (hi:0≤i):decide (idxFrom nm ls i < 0)=!ls.any (seq nm):=by
 induction ls generalizing i with
 | nil=>rfl
 | cons x r ih =>
  rw [idxFrom,List.any_cons];by_cases h:x=nm
  ·subst h;rw [if_pos rfl,seq_eq,decide_eq_true rfl,decide_eq_false (by omega)];rfl
  ·rw [if_neg h,ih (i+1) (by omega)];rw [seq_eq,decide_eq_false (fun q=>h q.symm)];rfl
theorem IndexO_ref (w:World) (x0:Value) (nm:ByteArray) (ls:List ByteArray) (h:Is w x0 ls) :
  Calls Tryz.prog 57 #[x0,.string nm] w fun e w'=>e=.returned (.int .i64 (idxFrom nm ls 0))∧w=w':=by
 obtain ⟨a,c,rfl,hnc,hc,hr⟩:=list_inv h;unfold maxLen at hc;clear h;go_enter Tryz.func57,Tryz.ntmps57;go_wp2;go_loop [5] (fun i=>∃ k:Nat,k≤ls.length∧i=.int .i64 k∧Hid (idxFrom nm ls 0=idxFrom nm (ls.drop k) k)) (fun i=>ls.length - (intOf i).toNat)
 case atStart=>exact ⟨0,Nat.zero_le _,rfl,rfl⟩
 case round =>
  obtain ⟨k,hk,rfl,hf⟩:=hrel;by_cases hlt:k < ls.length
  ·obtain ⟨x,hx⟩:=get_lt hlt;obtain ⟨b,off,rfl,hb,c0,-⟩:=str_at hr hx;have hd:=zh (drop_at hx);clear hx hr;go_wp2
   ·have ht:(x.toList == nm.toList)=true:=by assumption
    go_ret;exact ⟨ret_i (by rw [hf.out,hd.out];simp [idxFrom,ba_eq_t ht]),rfl⟩
   ·have ht:(x.toList == nm.toList)=false:=by assumption
    go_round
    case rel=>exact ⟨k+1,by omega,by go_num,by rw [hf.out,hd.out];simp [idxFrom,ba_eq_f ht,Hid]⟩
    case measure=>exact zm
  ·go_wp2;go_ret;refine ⟨ret_i ?_,rfl⟩;rw [hf.out,List.drop_eq_nil_of_le (by omega)];rfl
theorem zrrfd6 {p:Prop} (h:p:=by
 go_wp2_with fail
 go_roundw
 case rel=>exact ⟨k+1,_,_,by omega,by go_num,HK2,HTS,HOS,HSM,HLE5,hbr⟩
 case measure=>exact zm):p:=h
theorem Values_ref (w:World) (vc vx:Value) (c:Catalog) (x:List Fact) (hc:Is w vc c) (h:Is w vx x) (hfit:∀ f∈x,fitF f) (hsz:∀ f∈x,sizeE f.expr≤5000) :
  Calls Tryz.prog 16 #[vc,vx] w fun e w'=>VO (valuesC c x) w e w':=by
 have HF:Hid (valuesC c x=if (caseE c x).2 == 0 then valsF c [] [] x else ([],[],(caseE c x).2)):=rfl;have HF2:Hid ((caseE c x).2=0→x.length≤256):=by
  show _→_;intro h0;unfold caseE at h0;split at h0
  ·cases h0
  ·split at h0
   ·cases h0
   ·rename_i h1;simp at h1;omega
 obtain ⟨a,n,rfl,hn,hm,hr⟩:=list_inv h;have hm':x.length≤9223372036854775807:=by simp only [maxLen] at hm;omega
 have HR:=zh hr;have HC:=zh hc;obtain ⟨a0,N0,c0,a1,N1,c1,a2,N2,c2,a3,N3,c3,rfl⟩:=catBox2 hc;have HOF:Hid (∀ (W:World) (v:Value) (f:Fact),Below w.heap.size w W→f∈x→Is W v f.expr→Calls Tryz.prog 56 #[.agg #[.slice a0 N0 c0,.slice a1 N1 c1,.slice a2 N2 c2,.slice a3 N3 c3],v] W fun e w'=>OfO (ofP c f.expr) W e w') :=
  fun W v f hb hf hi=>Of_ref c f.expr (hsz f hf) W _ v (HC.out.mono hb) hi
 have hcall:=CheckD_ref (w.alloc (.cells #[.slice a0 N0 c0,.slice a1 N1 c1,.slice a2 N2 c2,.slice a3 N3 c3] 27)) _ _ c x (hc.mono zb) (h.mono zb) hfit;generalize caseE c x=ce at *;obtain ⟨ce1,ce2⟩:=ce;simp only at hcall HF HF2;generalize hL:x.length=L at *;have HL:=zh hL;clear h hr hc hfit hn hm hL hsz;go_enter Tryz.func16,Tryz.ntmps16;go_wp2_with fail
 refine hcall.mono ?_;rintro e w1 ⟨rfl,hb1⟩;clear hcall;have d0:=kb w hb1 0 (.slice a0 N0 c0);have d1:=kb w hb1 1 (.slice a1 N1 c1);have d2:=kb w hb1 2 (.slice a2 N2 c2);have d3:=kb w hb1 3 (.slice a3 N3 c3);have hs1:w.heap.size < w1.heap.size:=cell_lt d0;have HB1:Hid (Below w.heap.size w w1):=zh (zb.trans (hb1.mono (by simp)));clear hb1;cases q:(ce2 == 0);case false =>
  have q':(ce2 != 0)=true:=by rw [show (ce2 != 0)=!(ce2 == 0) from rfl,q];rfl
  have HT:Hid (valuesC c x=([],[],ce2)):=by show _=_;rw [HF.out,q];rfl
  clear HF;go_wp2_with fail
  go_ret3;exact ⟨_,_,by rw [HT.out];rfl,by rw [HT.out];exact OwnT.nil _ _,by rw [HT.out];exact OwnV.nil _ _ _ _,by rw [HT.out];simp,HB1.out⟩
 have q':(ce2 != 0)=false:=by rw [show (ce2 != 0)=!(ce2 == 0) from rfl,q];rfl
 have HT:Hid (valuesC c x=valsF c [] [] x):=by show _=_;rw [HF.out,q];rfl
 have hL256:L≤256:=HF2.out (by simpa using q);clear HF HF2;have D0:=zh d0;have D1:=zh d1;have D2:=zh d2;have D3:=zh d3;go_wp2_with fail
 clear d0 d1 d2 d3 q;go_loopw [9,10,11] (fun v1 v2 kv wr=>∃ (k:Nat) (ts:List (List (List Term))) (os:List ByteArray),k≤L∧kv=.int .i64 k∧Hid (valuesC c x=valsF c ts os (x.drop k))∧Hid (OwnT w1.heap.size wr v1 ts)∧Hid (OwnV Value.string w1.heap.size 9 wr v2 os)∧Hid (∀ o∈os,o.size≤maxLen)∧Hid (ts.length≤k∧os.length≤k)∧Hid (Below w1.heap.size w1 wr)) (fun _ _ kv _=>L - (intOf kv).toNat)
 case atStart=>exact ⟨0,[],[],by omega,rfl,zh HT.out,zh (OwnT.nil _ _),zh (OwnV.nil _ _ _ _),zh (by simp),zh ⟨Nat.le_refl _,Nat.le_refl _⟩,zh (Below.refl _ _)⟩
 case round =>
  obtain ⟨k,ts,os,hk,rfl,HK,HTS,HOS,HSM,HLE,hbr⟩:=hrel;have HBR:=zh (HB1.out.trans (hbr.out.mono HB1.out.size));have hzr:w1.heap.size≤wr.heap.size:=hbr.out.size;have hzs:w.heap.size < wr.heap.size:=Nat.lt_of_lt_of_le hs1 hzr;obtain ⟨at',ct,hvt,-⟩:=list_inv HTS.out.is;obtain ⟨ao,co',hvo,-⟩:=list_inv (HOS.out.strs HSM.out);subst hvt;subst hvo;by_cases hki:k < L
  ·have hkz:(k:Int) < (L:Int):=by omega
   have hk0:(0:Int)≤(k:Int):=by omega
   obtain ⟨f,hx⟩:=get_lt (xs:=x) (k:=k) (by rw [HL.out];exact hki);have hmem:=List.mem_of_getElem? hx;have HD:=zh (drop_at hx);obtain ⟨ki,co,ou,re,wa,du,ch,⟨ek,en,ex,eks⟩,li⟩:=f;obtain ⟨bx,ox,rfl,hbx,ae,ce,al,cl,x0',x1',x2',x3',x4',x5',x6',x7',x8',x9',x10',x11',hrest⟩:=Fact.at_row HR.out hx;have HXV:=zh (LExpr.mk' hrest.2.2.2.2.2.2.1 hrest.2.2.2.2.2.2.2.1 hrest.2.2.2.2.2.2.2.2.1 hrest.2.2.2.2.2.2.2.2.2.1 hrest.2.2.2.2.2.2.2.2.2.2.1 hrest.2.2.2.2.2.2.2.2.2.2.2.1);have HSZ:=zh (And.intro hrest.2.1 hrest.2.2.1);have X0W:=zh x0';have x0:=kept HBR.out x0';have X0:=zh x0;have X2:=zh (kept HBR.out x2');have X7:=zh (kept HBR.out x7');have X8:=zh (kept HBR.out x8');have X9:=zh (kept HBR.out x9');have X10:=zh (kept HBR.out x10');clear x0' x1' x2' x3' x4' x5' x6' x7' x8' x9' x10' x11' hx hrest hbx;generalize eks.length=E at *;generalize li.length=M at *;have D0R:=zh (kept hbr.out D0.out);have D1R:=zh (kept hbr.out D1.out);have D2R:=zh (kept hbr.out D2.out);have D3R:=zh (kept hbr.out D3.out);cases k1:(ki == 1);case true =>
    have k2:(ki == 2)=false:=by
     have:=eq_of_beq k1;subst this;rfl
    have HCALL:Hid (∀ W,Below wr.heap.size wr W→Calls Tryz.prog 56 #[.agg #[.slice a0 N0 c0,.slice a1 N1 c1,.slice a2 N2 c2,.slice a3 N3 c3],.agg #[.int .i64 ek,.string en,.string ex,.slice ae E ce]] W fun e w'=>OfO (ofP c (.mk ek en ex eks)) W e w') :=
     fun W hb=>HOF.out W _ ⟨ki,co,ou,re,wa,du,ch,.mk ek en ex eks,li⟩ (HBR.out.trans (hb.mono HBR.out.size)) hmem (HXV.out.mono (HBR.out.trans (hb.mono HBR.out.size)))
    have HV:=zh (valsF_lic c ts os (f:=⟨ki,co,ou,re,wa,du,ch,.mk ek en ex eks,li⟩) (r:=x.drop (k+1)) k1);have HV2:Hid (valuesC c x=if (ofP c (.mk ek en ex eks)).2 == 0 then valsF c (ts++[(ofP c (.mk ek en ex eks)).1]) os (x.drop (k+1)) else ([],[],(ofP c (.mk ek en ex eks)).2)):=by
     show _=_;rw [HK.out,HD.out];exact HV.out
    clear HV HK hmem HXV HOF;generalize ofP c (.mk ek en ex eks)=op at *;obtain ⟨ol,oe⟩:=op;simp only at HV2;unfold OfO at HCALL;go_upto_region 10 with (fail)
    refine wp_region_held_drew (S:=(fun w':World=>Below wr.heap.size wr w')) (by kernel_rfl) (by exact (Below.refl _ _).drew) (fun hH0=>?_);refine tkB 0 hH0 rfl ?_ (by intro w hSw;(try dsimp only at hSw);have y0:=kept hSw D0R.out;have y1:=kept hSw D1R.out;have y2:=kept hSw D2R.out;have y3:=kept hSw D3R.out;have y9:=cell_lt y0;go_simp;all_goals with_reducible rfl);try simp only [tkS,Act.put]
    refine tkB 1 hH0 rfl ?_;try simp only [tkS,Act.put]
    refine tkB 2 hH0 rfl ?_;try simp only [tkS,Act.put]
    refine tkB 3 hH0 rfl ?_;try simp only [tkS,Act.put]
    refine tkB 4 hH0 rfl ?_;try simp only [tkS,Act.put]
    refine tkB 5 hH0 rfl ?_ (by intro w hSw;(try dsimp only at hSw);have y7:=kept hSw X7.out;have y8:=kept hSw X8.out;have y9:=kept hSw X9.out;have y10:=kept hSw X10.out;have y0:=cell_lt y7;go_simp;all_goals with_reducible rfl);try simp only [tkS,Act.put]
    refine rd1 6 rfl (fun K hK=>?_);go_simp;go_at_call 56
    refine (HCALL.out _ hH0).mono ?_;rintro e w4 ⟨v4,rfl,ho4,hb⟩;have HO4:=zh ho4;obtain ⟨a4,c4,hv4,-⟩:=list_inv ho4.is;subst hv4;have hb4:Below wr.heap.size wr w4:=hH0.trans (hb.mono hH0.size);clear ho4;go_wp2_with fail
    refine hK.out _ _ ?_ (fun hH1=>?_)
    ·exact hb4
    try simp only [tkS,Act.put]
    clear hK K;refine tkB 7 hH1 rfl ?_;try simp only [tkS,Act.put]
    refine tkB 8 hH1 rfl ?_;try simp only [tkS,Act.put]
    refine tkB 9 hH1 rfl ?_;try simp only [tkS,Act.put]
    refine tkB 10 hH1 rfl ?_;try simp only [tkS,Act.put]
    refine tkB 11 hH1 rfl ?_;try simp only [tkS,Act.put]
    refine wpAnyH_done (by kernel_rfl) ?_ _;have HB4:=zh hb4;have hz4:wr.heap.size≤w4.heap.size:=HB4.out.size;have x0:=kept hb4 X0.out;clear hb4 hb X7 X8 X9 X10 X2;cases q3:(oe == 0);case false =>
     have q3':(oe != 0)=true:=by rw [show (oe != 0)=!(oe == 0) from rfl,q3];rfl
     have HT2:Hid (valuesC c x=([],[],oe)):=by show _=_;rw [HV2.out,q3];rfl
     clear HV2 HT;go_wp2_with fail
     go_ret3;exact ⟨_,_,by rw [HT2.out];rfl,by rw [HT2.out];exact OwnT.nil _ _,by rw [HT2.out];exact OwnV.nil _ _ _ _,by rw [HT2.out];simp,HBR.out.trans (HB4.out.mono HBR.out.size)⟩
    case true =>
     have q3':(oe != 0)=false:=by rw [show (oe != 0)=!(oe == 0) from rfl,q3];rfl
     have HK2:Hid (valuesC c x=valsF c (ts++[ol]) os (x.drop (k+1))):=by show _=_;rw [HV2.out,q3];rfl
     have HTS4:=zh (HTS.out.below HB4.out);clear HV2 HT q3 HTS;clear x0;go_wp2_with (at_builtin;go_loud (refine app_lists rfl _ _ rfl w1.heap.size _ _ rfl HTS4.out ol ?cx ?c1 ?c2 ?c3 ?_))
     case cx=>show Value.slice (some ⟨w4.heap.size,0,none⟩) 1 1=_;simp
     case c1=>intro w'' hA;exact lists_stable (HO4.out.below bw) hA
     case c2=>have:=HLE.out.1;omega
     case c3=>omega
     intro v5 w5 ho5 hb5 hA5 hs5;have HB5:Hid (Below w1.heap.size w1 w5):=zh ((hbr.out.trans (HB4.out.mono hzr)).trans hb5);have HOS5:=zh ((HOS.out.below HB4.out).agree hA5 (by decide));have HO5:=zh ho5;have HLE5:Hid ((ts++[ol]).length≤k+1∧os.length≤k+1):=by have:=HLE.out;show _∧_;simp;omega
     have x0:=kept (HB1.out.trans (HB5.out.mono HB1.out.size)) X0W.out;clear ho5 hb5 hA5 HTS4;go_wp2;go_roundw
     case rel=>exact ⟨k+1,_,_,by omega,by go_num,HK2,HO5,HOS5,HSM,HLE5,HB5⟩
     case measure=>exact zm
   case false =>
    cases k2:(ki == 2);case false =>
     have HK2:Hid (valuesC c x=valsF c ts os (x.drop (k+1))):=by
      show _=_;rw [HK.out,HD.out];exact valsF_other c ts os k1 k2
     have HLE5:Hid (ts.length≤k+1∧os.length≤k+1):=by have:=HLE.out;show _∧_;omega
     clear HK HT hmem HXV HOF;exact zrrfd6
    case true =>
     have hcall:=IndexO_ref wr _ ou os (HOS.out.strs HSM.out);have HV2:Hid (valuesC c x=if os.any (seq ou) then valsF c ts os (x.drop (k+1)) else valsF c ts (os++[ou]) (x.drop (k+1))):=by
      show _=_;rw [HK.out,HD.out];exact valsF_ship c ts os k1 k2
     have hi:decide (idxFrom ou os 0 < 0)=!os.any (seq ou):=idxFrom_none ou os 0 (by omega);have HK9:=HK;clear HK HT hmem HXV HOF;generalize idxFrom ou os 0=id0 at *;have x2:=X2.out;cases bb:os.any (seq ou);case true =>
      have HK2:Hid (valuesC c x=valsF c ts os (x.drop (k+1))):=by show _=_;rw [HV2.out,bb];rfl
      have HLE5:Hid (ts.length≤k+1∧os.length≤k+1):=by have:=HLE.out;show _∧_;omega
      rw [bb] at hi;clear HV2 bb HK9;go_wp2_with fail
      refine hcall.mono ?_;rintro e w4 ⟨rfl,rfl⟩;clear hcall;exact zrrfd6
     case false =>
      have HK2:Hid (valuesC c x=valsF c ts (os++[ou]) (x.drop (k+1))):=by show _=_;rw [HV2.out,bb];rfl
      have HLE5:Hid (ts.length≤k+1∧(os++[ou]).length≤k+1):=by have:=HLE.out;show _∧_;simp;omega
      have HSM5:Hid (∀ o∈os++[ou],o.size≤maxLen):=by
       show ∀ o∈os++[ou],_;intro o ho;rcases List.mem_append.1 ho with ho | ho
       ·exact HSM.out o ho
       ·simp at ho;subst ho;exact HSZ.out.2
      rw [bb] at hi;clear HV2 bb HK9;go_wp2_with fail
      refine hcall.mono ?_;rintro e w4 ⟨rfl,rfl⟩;clear hcall;go_wp2_with (at_builtin;go_loud (refine app_strA rfl _ _ rfl w1.heap.size _ _ rfl HOS.out ou ?cx ?c2 ?c3 ?_))
      case cx=>show Value.slice (some ⟨wr.heap.size,0,none⟩) 1 1=_;simp
      case c2=>have:=HLE.out.2;omega
      case c3=>omega
      intro v5 w5 ho5 hb5 hA5 hs5;have HB5:Hid (Below w1.heap.size w1 w5):=zh (hbr.out.trans hb5);have HTS5:=zh (HTS.out.other (E':=(·=9)) hA5 (fun x hx=>by subst hx;unfold Ev;decide) (by decide));have HO5:=zh ho5;clear ho5 hb5 hA5 HTS HOS;go_wp2;go_roundw
      case rel=>exact ⟨k+1,_,_,by omega,by go_num,HK2,HTS5,HO5,HSM5,HLE5,HB5⟩
      case measure=>exact zm
  ·have hkz:¬ (k:Int) < (L:Int):=by omega
   have HT2:Hid (valuesC c x=(ts,os,0)):=by
    show _=_;rw [HK.out,List.drop_eq_nil_of_le (by rw [HL.out];omega)];rfl
   clear HK HT;go_wp2_with fail
   go_ret3;exact ⟨_,_,by rw [HT2.out];rfl,by rw [HT2.out];exact HTS.out.weaken (by omega),by rw [HT2.out];exact HOS.out.weaken (by omega),by rw [HT2.out];exact HSM.out,HBR.out⟩

end Go.Proofs.YtcbopdbbcgdkcaaGreatDoor
