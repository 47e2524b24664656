/- Lemmas. -/
import Derived.Test.YtcbopdbbcgdkcaaGreatDoorProg
import Derived.Deep.Light
import Derived.StillTailTactics
import Derived.Test.YtcbopdbbcgdkcaaGreatDoorLCat
set_option linter.all false
set_option maxRecDepth 100000
set_option maxHeartbeats 16000000
namespace Go.Proofs.YtcbopdbbcgdkcaaGreatDoor
open Go Go.RowKit Go.ChangeShapes

theorem plain_ref (s:ByteArray) (w:World) (hs:s.size≤maxLen):Calls Tryz.prog 169 #[.string s] w fun e w'=>e=.returned (.bool (plainB s))∧w=w':=by
 unfold maxLen at hs;go_enter Tryz.func169,Tryz.ntmps169;go_wp2;go_loop [3] (fun i=>∃ k:Nat,k≤s.size∧i=.int .i64 k∧Hid (plainB s=(s.data.toList.drop k).all plainC)) (fun i=>s.size - (intOf i).toNat)
 case atStart=>exact ⟨0,Nat.zero_le _,rfl,rfl⟩
 case round =>
  obtain ⟨k,hk,rfl,hf⟩:=hrel;by_cases hlt:k < s.size
  ·have hd:=zh (by_at s k hlt);by_cases hp:(s[k].toNat:Int)=10
   ·have e1:((s[k].toNat:Int) != 10)=false:=by simp [hp]
    clear hp;go_wp2;go_round
    case rel=>exact ⟨k+1,by omega,by go_num,by rw [hf.out,hd.out];simp at e1;simp [Hid,plainC];omega⟩
    case measure=>exact zm
   ·have e1:((s[k].toNat:Int) != 10)=true:=by simp [hp]
    clear hp;by_cases h1:(s[k].toNat:Int) < 32
    ·go_wp2;go_ret;exact ⟨ret_b (by rw [hf.out,hd.out];simp at e1;simp [plainC];omega),rfl⟩
    ·by_cases h2:(126:Int) < s[k].toNat
     ·go_wp2;go_ret;exact ⟨ret_b (by rw [hf.out,hd.out];simp at e1;simp [plainC];omega),rfl⟩
     ·go_wp2;go_round
      case rel=>exact ⟨k+1,by omega,by go_num,by rw [hf.out,hd.out];simp [Hid,plainC];omega⟩
      case measure=>exact zm
  ·go_wp2;go_ret;exact ⟨ret_b (by rw [hf.out,by_nil s k hlt];rfl),rfl⟩

theorem find_ref (w:World) (x0 x1 x2 x3:Value) (nm:ByteArray) (ls:List License) (h:Is w x0 ls) :
  Calls Tryz.prog 128 #[.agg #[x0,x1,x2,x3],.string nm] w fun e w'=>e=.returned (.int .i64 (findFrom nm ls 0))∧Below w.heap.size w w':=by
 obtain ⟨a,c,rfl,hnc,hc,hr⟩:=list_inv h;unfold maxLen at hc;clear h;go_enter Tryz.func128,Tryz.ntmps128;go_wp2;go_loop [5] (fun i=>∃ k:Nat,k≤ls.length∧i=.int .i64 k∧Hid (findFrom nm ls 0=findFrom nm (ls.drop k) k)) (fun i=>ls.length - (intOf i).toNat)
 case atStart=>exact ⟨0,Nat.zero_le _,rfl,rfl⟩
 case round =>
  obtain ⟨k,hk,rfl,hf⟩:=hrel;by_cases hlt:k < ls.length
  ·obtain ⟨x,hx⟩:=get_lt hlt;obtain ⟨b,off,rfl,hb,c0,-⟩:=License.at_row hr hx;have hd:=zh (drop_at hx);clear hx hr;go_wp2
   ·have ht:(x.name.toList == nm.toList)=true:=by assumption
    go_ret;exact ⟨ret_i (by rw [hf.out,hd.out];simp [findFrom,ba_eq_t ht]),by exact zb⟩
   ·have ht:(x.name.toList == nm.toList)=false:=by assumption
    go_round
    case rel=>exact ⟨k+1,by omega,by go_num,by rw [hf.out,hd.out];simp [findFrom,ba_eq_f ht,Hid]⟩
    case measure=>exact zm
  ·go_wp2;go_ret;refine ⟨ret_i ?_,zb⟩;rw [hf.out,List.drop_eq_nil_of_le (by omega)];rfl


theorem strRow:(Tryz.prog.info? 9).map (fun i=>(i.zero,i.size,i.bytes))=some (some (.string ByteArray.empty),1,16):=by kernel_rfl

theorem app_str {ops:Array Oper} {rest:List Oper} {o:Oper} {a:Act} {Q:Exit→Act→World→Prop} {w:World} (hgd:o.guard=none) (s x:Operand)
  (ho:o.op=.call { callee:=.builtin .append,args:=#[s,x],argTypes:=#[36,36] })
  (B:Nat) (v:Value) (n:Nat) (xs:List Value) (hs:a.eval s=v) (hown:w.ownsRow B 9 1 v n xs)
  (y:ByteArray) (hx:a.eval x=.slice (some ⟨w.heap.size,0,none⟩) 1 1)
  (hb:n≤4294967296) (hB:B≤w.heap.size)
  (h:∀ v' w',w'.ownsRow B 9 1 v' (n+1) (xs++[.string y])→(w.alloc (.cells #[.string y] 9)).grownBy w' v.ownBlock→¬ v'=.slice none 0 0→wpList Tryz.prog ops Q rest (a.put o.dst v') w') :
  wpList Tryz.prog ops Q (o :: rest) a (w.alloc (.cells #[.string y] 9)) :=
 wp_app strRow rfl (by decide) Tryz.underlying36 hgd s x ho B v n xs hs hown #[.string y] hx rfl (by simp [Value.oneCell']) (by omega) hB h

theorem own_str {w:World} {B:Nat} {e:TypeId} {v:Value} {xs:List ByteArray} (h:w.ownsRow B e 1 v xs.length (xs.map Value.string)) (hs:∀ x∈xs,x.size≤maxLen) :
  Is w v xs:=by
 obtain ⟨h1,h2⟩:=h;rcases h2 with ⟨rfl,h0⟩ | ⟨g,cap,cur,rfl,hg,hh,hn,hc,hsz,ht⟩
 ·obtain rfl:xs=[]:=List.length_eq_zero_iff.1 h0;exact nil_mk w
 ·refine list_mk hn hc fun i x hx=>⟨g,0,rfl,?_,?_,hs x (List.mem_of_getElem? hx)⟩
  ·rcases Nat.lt_or_ge g w.heap.size with h | h
   ·exact h
   ·simp [Array.getElem?_eq_none h] at hh
  ·have hi:i < xs.length:=lt_get hx;show w.cell? ⟨g,0+i * 1+0,none⟩=_;simp only [World.cell?,hh,Nat.zero_add,Nat.mul_one,Nat.add_zero];have e1:cur.toList[i]?=(xs.map Value.string)[i]?:=by rw [← ht,List.getElem?_take,if_pos (by omega)]
   simpa [hx] using e1

theorem splitAt_cons (d:UInt8) (cur:List UInt8) (c:UInt8) (r:List UInt8):splitAt d cur (c :: r)=if c=d then mkS cur :: splitAt d [] r else splitAt d (cur++[c]) r:=rfl
theorem cut_snoc (l:List UInt8) (f k:Nat) (c:UInt8) (hf:f≤k) (h:l[k]?=some c):(l.drop f).take (k+1 - f)=(l.drop f).take (k - f)++[c]:=by
 rw [show k+1 - f=(k - f)+1 by omega,List.take_add_one,List.getElem?_drop,show f+(k - f)=k by omega,h];rfl

theorem lines_ref (s:ByteArray) (w:World) (hs:s.size≤4294967296):Calls Tryz.prog 168 #[.string s] w fun e w'=>∃ v,e=.returned v∧Is w' v (linesB s)∧Below w.heap.size w w':=by
 by_cases h0:s.toList=[]
 ·have e1:s=ByteArray.empty:=WideShapes.bytes_inj (by rw [← ByteArray.toList_eq,h0];rfl);have e2:linesB s=[]:=by subst e1;rfl
  have h1:(s.toList == [])=true:=by simp [h0]
  have h2:s.toList.isEmpty=true:=by simp [h0]
  clear h0 e1;have E2:=zh e2;clear e2;go_enter Tryz.func168,Tryz.ntmps168;go_wp2;go_ret;exact ⟨_,rfl,by rw [E2.out];exact nil_mk _,Below.refl _ _⟩
 ·have e2:linesB s=splitAt 10 [] s.data.toList:=by unfold linesB linesL;rw [if_neg (by rw [← ByteArray.toList_eq];exact h0)]
  have E2:=zh e2;have h2:s.toList.isEmpty=false:=by simp [h0]
  clear h0 e2;go_enter Tryz.func168,Tryz.ntmps168;go_wp2
  go_loopw [3,4,5] (fun out from_ i wr=>∃ (k f:Nat) (ys:List ByteArray),k≤s.size∧f≤k∧i=.int .i64 k∧from_=.int .i64 f∧ys.length≤k ∧
   wr.ownsRow w.heap.size 9 1 out ys.length (ys.map Value.string)∧Below w.heap.size w wr∧(∀ x∈ys,x.size≤s.size) ∧
   Hid (splitAt 10 [] s.data.toList=ys++splitAt 10 ((s.data.toList.drop f).take (k - f)) (s.data.toList.drop k))) (fun _ _ i _=>s.size - (intOf i).toNat)
  case atStart=>exact ⟨0,0,[],by omega,by omega,rfl,rfl,by simp,⟨rfl,.inl ⟨rfl,rfl⟩⟩,Below.refl _ _,by simp,by simp [Hid]⟩
  case round =>
   obtain ⟨k,f,ys,hk,hfk,rfl,rfl,hys,hown,hb,hsz,hf⟩:=hrel;have HS:=zh hsz;have HB:=zh hb;have hB:w.heap.size≤wr.heap.size:=hb.size;clear hsz hb;by_cases hlt:k < s.size
   ·go_wp2_with (at_builtin;refine app_str rfl _ _ rfl w.heap.size _ _ _ rfl hown (s.extract f k) rfl ?c4 ?c5 ?_)
    case c4=>omega
    case c5=>omega
    ·intro v' w1 hown1 hgrow1 _;have HG:=zh hgrow1;clear hgrow1;have ht:((s[k].toNat:Int) == 10)=true:=by assumption
     have hc:s.data.toList[k]?=some s[k]:=by simp [hlt];rfl
     have hd:=by_at s k hlt;go_wp2;go_roundw
     case rel =>
      refine ⟨k+1,k+1,ys++[s.extract f k],by omega,by omega,by go_num,by go_num,by simp;omega,by simpa using hown1,?_,?_,?_⟩
      ·exact (HB.out.alloc (by omega) _).app HG.out (by simp;omega) hown
      ·intro x hx;simp only [List.mem_append,List.mem_singleton] at hx;rcases hx with hx | rfl
       ·exact HS.out x hx
       ·simp;omega
      ·show _=_;rw [hf.out,hd,splitAt_cons,if_pos (u8_t 10 ht),extract_mkS];simp
     case measure=>exact zm
    ·have ht:((s[k].toNat:Int) == 10)=false:=by assumption
     have hc:s.data.toList[k]?=some s[k]:=by simp [hlt];rfl
     have hd:=by_at s k hlt;go_roundw
     case rel =>
      refine ⟨k+1,f,ys,by omega,by omega,by go_num,rfl,by omega,hown,HB.out,HS.out,?_⟩;show _=_;rw [hf.out,hd,splitAt_cons,if_neg (u8_f 10 ht),cut_snoc _ _ _ _ hfk hc]
     case measure=>exact zm
   ·go_wp2_with (at_builtin;refine app_str rfl _ _ rfl w.heap.size _ _ _ rfl hown (s.extract f s.size) rfl ?d4 ?d5 ?_)
    case d4=>omega
    case d5=>omega
    intro v' w1 hown1 hgrow1 _;have HG:=zh hgrow1;clear hgrow1;go_wp2;go_ret;refine ⟨_,rfl,?_,(HB.out.alloc (by omega) _).app HG.out (by simp;omega) hown⟩;have hk':k=s.size:=by omega
    have e:linesB s=ys++[s.extract f s.size]:=by
     rw [E2.out,hf.out,hk',extract_mkS,show s.data.toList.drop s.size=[] from List.drop_eq_nil_of_le (by simp)];rfl
    rw [e];refine own_str (by simpa using hown1) ?_;intro x hx;simp only [List.mem_append,List.mem_singleton] at hx;unfold maxLen;rcases hx with hx | rfl
    ·have:=HS.out x hx;omega
    ·simp;omega

theorem nameL_cons (c:UInt8) (r:List UInt8):nameL (c :: r)=(decide (r.length < 32) && lowC c && !((c :: r) == [97,110,100]) && !((c :: r) == [111,114]) && !((c :: r) == [119,105,116,104]) && (c :: r).all nameC):=rfl
theorem nameB_at {s:ByteArray} (h:0 < s.size):nameB s=(decide (s.size≤32) && lowC s[0] && !(s.toList == [97,110,100]) && !(s.toList == [111,114]) && !(s.toList == [119,105,116,104]) && s.data.toList.all nameC):=by
 have e:=by_at s 0 h;rw [List.drop_zero] at e;have hl:(s.data.toList.drop (0+1)).length+1=s.size:=by rw [List.length_drop,by_len];omega
 unfold nameB;rw [ByteArray.toList_eq,e,nameL_cons];congr 5;rw [decide_eq_decide];omega

theorem zqrefu0 {p:Prop} (h:p:=by
 go_enter Tryz.func167,Tryz.ntmps167;go_wp2;go_ret;exact ⟨ret_b (by rw [HN.out];simp [lowC];try omega),rfl⟩):p:=h
theorem Name_ref (s:ByteArray) (w:World) (hs:s.size≤maxLen):Calls Tryz.prog 167 #[.string s] w fun e w'=>e=.returned (.bool (nameB s))∧w=w':=by
 unfold maxLen at hs;by_cases h0:0 < s.size
 case neg =>
  have e:s.data.toList=[]:=by rw [← List.length_eq_zero_iff,by_len];omega
  have HN:Hid (nameB s=false):=by unfold nameB;rw [e];rfl
  have e0:(s.size:Int) < 1:=by omega
  clear e h0;go_enter Tryz.func167,Tryz.ntmps167;go_wp2;go_ret;exact ⟨ret_b (by rw [HN.out];try (simp [lowC];try omega)),rfl⟩
 have HN:=zh (nameB_at h0);have e0:(1:Int)≤s.size:=by omega
 by_cases h1:(s.size:Int)≤32
 case neg =>exact zqrefu0
 by_cases h2:(97:Int)≤s[0].toNat
 case neg =>exact zqrefu0
 by_cases h3:(s[0].toNat:Int)≤122
 case neg =>exact zqrefu0
 cases h4:(s.toList == [97,110,100]);case true =>
  go_enter Tryz.func167,Tryz.ntmps167;go_wp2;go_ret;exact ⟨ret_b (by rw [HN.out];simp [lowC,h4];try omega),rfl⟩
 cases h5:(s.toList == [111,114]);case true =>
  go_enter Tryz.func167,Tryz.ntmps167;go_wp2;go_ret;exact ⟨ret_b (by rw [HN.out];simp [lowC,h5];try omega),rfl⟩
 cases h6:(s.toList == [119,105,116,104]);case true =>
  go_enter Tryz.func167,Tryz.ntmps167;go_wp2;go_ret;exact ⟨ret_b (by rw [HN.out];simp [lowC,h6];try omega),rfl⟩
 have HN2:Hid (nameB s=s.data.toList.all nameC):=by
  show _=_;rw [HN.out,h4,h5,h6];simp [lowC];try omega
 clear HN;go_enter Tryz.func167,Tryz.ntmps167;go_wp2;go_loop [3,4] (fun i _=>∃ k:Nat,k≤s.size∧i=.int .i64 k∧Hid (nameB s=(s.data.toList.drop k).all nameC)) (fun i _=>s.size - (intOf i).toNat)
 case atStart=>exact ⟨0,Nat.zero_le _,rfl,HN2.out⟩
 case round =>
  obtain ⟨k,hk,rfl,hf⟩:=hrel;clear HN2 e0;by_cases hlt:k < s.size
  ·have hd:=zh (by_at s k hlt);cases q1:decide ((97:Int)≤s[k].toNat);case false =>
    cases q3:decide ((48:Int)≤s[k].toNat);case false =>
     cases q5:((s[k].toNat:Int) == 45);case true =>
      go_wp2;go_round
      case rel=>exact ⟨k+1,by omega,by go_num,(by show _=_;rw [hf.out,hd.out];simp [nameC,lowC,digC,q1,q3,q5])⟩
      case measure=>exact zm
     cases q6:((s[k].toNat:Int) == 46);case true =>
      go_wp2;go_round
      case rel=>exact ⟨k+1,by omega,by go_num,(by show _=_;rw [hf.out,hd.out];simp [nameC,lowC,digC,q1,q3,q5,q6])⟩
      case measure=>exact zm
     go_wp2;go_ret;exact ⟨ret_b (by rw [hf.out,hd.out];simp [nameC,lowC,digC,q1,q3,q5,q6]),rfl⟩
    cases q4:decide ((s[k].toNat:Int)≤57);case true =>
     go_wp2;go_round
     case rel=>exact ⟨k+1,by omega,by go_num,(by show _=_;rw [hf.out,hd.out];simp [nameC,lowC,digC,q1,q3,q4])⟩
     case measure=>exact zm
    cases q5:((s[k].toNat:Int) == 45);case true =>
     go_wp2;go_round
     case rel=>exact ⟨k+1,by omega,by go_num,(by show _=_;rw [hf.out,hd.out];simp [nameC,lowC,digC,q1,q3,q4,q5])⟩
     case measure=>exact zm
    cases q6:((s[k].toNat:Int) == 46);case true =>
     go_wp2;go_round
     case rel=>exact ⟨k+1,by omega,by go_num,(by show _=_;rw [hf.out,hd.out];simp [nameC,lowC,digC,q1,q3,q4,q5,q6])⟩
     case measure=>exact zm
    go_wp2;go_ret;exact ⟨ret_b (by rw [hf.out,hd.out];simp [nameC,lowC,digC,q1,q3,q4,q5,q6]),rfl⟩
   cases q2:decide ((s[k].toNat:Int)≤122);case true =>
    go_wp2;go_round
    case rel=>exact ⟨k+1,by omega,by go_num,(by show _=_;rw [hf.out,hd.out];simp [nameC,lowC,digC,q1,q2])⟩
    case measure=>exact zm
   cases q3:decide ((48:Int)≤s[k].toNat);case false =>
    cases q5:((s[k].toNat:Int) == 45);case true =>
     go_wp2;go_round
     case rel=>exact ⟨k+1,by omega,by go_num,(by show _=_;rw [hf.out,hd.out];simp [nameC,lowC,digC,q1,q2,q3,q5])⟩
     case measure=>exact zm
    cases q6:((s[k].toNat:Int) == 46);case true =>
     go_wp2;go_round
     case rel=>exact ⟨k+1,by omega,by go_num,(by show _=_;rw [hf.out,hd.out];simp [nameC,lowC,digC,q1,q2,q3,q5,q6])⟩
     case measure=>exact zm
    go_wp2;go_ret;exact ⟨ret_b (by rw [hf.out,hd.out];simp [nameC,lowC,digC,q1,q2,q3,q5,q6]),rfl⟩
   cases q4:decide ((s[k].toNat:Int)≤57);case true =>
    go_wp2;go_round
    case rel=>exact ⟨k+1,by omega,by go_num,(by show _=_;rw [hf.out,hd.out];simp [nameC,lowC,digC,q1,q2,q3,q4])⟩
    case measure=>exact zm
   cases q5:((s[k].toNat:Int) == 45);case true =>
    go_wp2;go_round
    case rel=>exact ⟨k+1,by omega,by go_num,(by show _=_;rw [hf.out,hd.out];simp [nameC,lowC,digC,q1,q2,q3,q4,q5])⟩
    case measure=>exact zm
   cases q6:((s[k].toNat:Int) == 46);case true =>
    go_wp2;go_round
    case rel=>exact ⟨k+1,by omega,by go_num,(by show _=_;rw [hf.out,hd.out];simp [nameC,lowC,digC,q1,q2,q3,q4,q5,q6])⟩
    case measure=>exact zm
   go_wp2;go_ret;exact ⟨ret_b (by rw [hf.out,hd.out];simp [nameC,lowC,digC,q1,q2,q3,q4,q5,q6]),rfl⟩
  ·go_wp2;go_ret;exact ⟨ret_b (by rw [hf.out,by_nil s k hlt];rfl),rfl⟩

theorem last_take {α:Type} {xs:List α} {i:Nat} {p:α} (h:xs[i]?=some p):(xs.take (i+1)).getLast?=some p:=by
 rw [take_at h];simp

theorem license_ref (w:World) (x0 x1 x2 x3:Value) (ls:List License) (i:Nat) (x:License) (h:Is w x0 ls) (hx:ls[i]?=some x) :
  Calls Tryz.prog 117 #[.agg #[x0,x1,x2,x3],.int .i64 i] w fun e w'=>e=.returned (.int .i64 (licErr (ls.take i) x))∧Below w.heap.size w w':=by
 obtain ⟨a,c,rfl,hnc,hc,hr⟩:=list_inv h;unfold maxLen at hc;clear h;have hlt:i < ls.length:=lt_get hx;obtain ⟨b,off,rfl,hb,c0,c1,c2,c3,s0,s1,-,s3⟩:=License.at_row hr hx;have HX:=zh hx;clear hx;cases q1:nameB x.name;case true =>
  cases q2:nameB x.family;case true =>
   cases q3:decide (x.version < 0);case true =>
    go_enter Tryz.func117,Tryz.ntmps117;go_wp2_with (first | (go_at_call 167;refine (Name_ref _ _ (by assumption)).mono ?_;rintro e w1 ⟨rfl,rfl⟩) | (go_at_call 169;refine (plain_ref _ _ (by assumption)).mono ?_;rintro e w1 ⟨rfl,rfl⟩))
    go_ret;exact ⟨ret_i (by simp [licErr,q1,q2,q3]),bw⟩
   cases q4:decide (999 < x.version);case true =>
    go_enter Tryz.func117,Tryz.ntmps117;go_wp2_with (first | (go_at_call 167;refine (Name_ref _ _ (by assumption)).mono ?_;rintro e w1 ⟨rfl,rfl⟩) | (go_at_call 169;refine (plain_ref _ _ (by assumption)).mono ?_;rintro e w1 ⟨rfl,rfl⟩))
    go_ret;exact ⟨ret_i (by simp [licErr,q1,q2,q3,q4]),bw⟩
   cases q5:decide ((4096:Int) < x.text.size);case true =>
    go_enter Tryz.func117,Tryz.ntmps117;go_wp2_with (first | (go_at_call 167;refine (Name_ref _ _ (by assumption)).mono ?_;rintro e w1 ⟨rfl,rfl⟩) | (go_at_call 169;refine (plain_ref _ _ (by assumption)).mono ?_;rintro e w1 ⟨rfl,rfl⟩))
    go_ret;exact ⟨ret_i (by simp [licErr,q1,q2,q3,q4,q5]),bw⟩
   have HQ:Hid (licErr (ls.take i) x=if decide ((999:Int) < (linesB x.text).length) then 10 else if !plainB x.text then 4 else if !after License.name (ls.take i) x.name then 5 else if ((ls.take i).any fun y=>decide (y.family=x.family) && decide (y.version=x.version)) then 6 else 0):=by
    show _=_;simp [licErr,q1,q2,q3,q4,q5]
   have hsz:x.text.size≤4294967296:=by simp at q5;omega
   go_enter Tryz.func117,Tryz.ntmps117;go_wp2_with (first | (go_at_call 167;refine (Name_ref _ _ (by assumption)).mono ?_;rintro e w1 ⟨rfl,rfl⟩) | (go_at_call 169;refine (plain_ref _ _ (by assumption)).mono ?_;rintro e w1 ⟨rfl,rfl⟩))
   refine (lines_ref _ _ hsz).mono ?_;rintro e w1 ⟨v,rfl,hv,hb1⟩;obtain ⟨a',c',hve,hm',hk',-⟩:=list_inv hv;subst hve;have d0:=kb w hb1 0 (.slice (some ⟨b,off,none⟩) ls.length c);have d1:=kb1 w hb1 0 (.string x.name);have d2:=kb1 w hb1 1 (.string x.family);have d3:=kb1 w hb1 2 (.int .i64 x.version);have d4:=kb1 w hb1 3 (.string x.text);have hbw:Below w.heap.size w w1:=bw;have HR:=zh (hr.mono hbw);have HB:=zh hbw;simp only [maxLen] at hk';clear hv hb1 c0 c1 c2 c3 hr hbw;cases q6:decide ((999:Int) < (linesB x.text).length);case true =>
    go_wp2_with (first | (go_at_call 167;refine (Name_ref _ _ (by assumption)).mono ?_;rintro e w1 ⟨rfl,rfl⟩) | (go_at_call 169;refine (plain_ref _ _ (by assumption)).mono ?_;rintro e w1 ⟨rfl,rfl⟩))
    go_ret;exact ⟨ret_i (by rw [HQ.out,q6];rfl),HB.out⟩
   cases q7:plainB x.text;case false =>
    go_wp2_with (first | (go_at_call 167;refine (Name_ref _ _ (by assumption)).mono ?_;rintro e w1 ⟨rfl,rfl⟩) | (go_at_call 169;refine (plain_ref _ _ (by assumption)).mono ?_;rintro e w1 ⟨rfl,rfl⟩))
    go_ret;exact ⟨ret_i (by rw [HQ.out,q6,q7];rfl),HB.out⟩
   have HQ2:Hid (licErr (ls.take i) x=if !after License.name (ls.take i) x.name then 5 else if ((ls.take i).any fun y=>decide (y.family=x.family) && decide (y.version=x.version)) then 6 else 0):=by
    show _=_;rw [HQ.out,q6,q7];rfl
   clear HQ;cases i with
   | zero =>
    have HQ3:Hid (licErr (ls.take 0) x=if ((ls.take 0).any fun y=>decide (y.family=x.family) && decide (y.version=x.version)) then 6 else 0):=by
     show _=_;rw [HQ2.out];rfl
    clear HQ2;go_wp2_with (first | (go_at_call 167;refine (Name_ref _ _ (by assumption)).mono ?_;rintro e w1 ⟨rfl,rfl⟩) | (go_at_call 169;refine (plain_ref _ _ (by assumption)).mono ?_;rintro e w1 ⟨rfl,rfl⟩))
    go_quiet (fail)
    go_wp2;go_loopw [6] (fun kv wr=>∃ k:Nat,k≤0∧kv=.int .i64 k∧(∃ n,wr=w1.drewN n)∧Hid ((ls.take 0).any (fun y=>decide (y.family=x.family) && decide (y.version=x.version))=((ls.take 0).drop k).any (fun y=>decide (y.family=x.family) && decide (y.version=x.version)))) (fun kv _=>0 - (intOf kv).toNat)
    case atStart=>exact ⟨0,Nat.zero_le _,rfl,⟨_,rfl⟩,rfl⟩
    case round =>
     obtain ⟨k,hk,rfl,⟨n,rfl⟩,hf⟩:=hrel;by_cases hki:k < 0
     ·omega
     ·go_wp2;go_ret;refine ⟨ret_i ?_,by exact (HB.out.drewN _)⟩;rw [HQ3.out,hf.out,List.drop_eq_nil_of_le (by simp)];rfl
   | succ j =>
    obtain ⟨p,hp⟩:=get_lt (xs:=ls) (k:=j) (by omega);obtain ⟨b2,off2,he,hb2,e0,e1,e2,e3,-⟩:=License.at_row HR.out hp;obtain ⟨rfl,rfl⟩:b=b2∧off=off2:=by simpa using he
    have hpl:j < ls.length:=lt_get hp;have HP:=zh (last_take hp);clear hp he;cases q8:Op.bytesLess p.name.toList x.name.toList;case false =>
     go_wp2_with (first | (go_at_call 167;refine (Name_ref _ _ (by assumption)).mono ?_;rintro e w1 ⟨rfl,rfl⟩) | (go_at_call 169;refine (plain_ref _ _ (by assumption)).mono ?_;rintro e w1 ⟨rfl,rfl⟩))
     go_quiet (fail)
     go_wp2;go_ret;exact ⟨ret_i (by rw [HQ2.out];simp only [after,HP.out,slt,q8];rfl),HB.out.drewN _⟩
    have HQ3:Hid (licErr (ls.take (j+1)) x=if ((ls.take (j+1)).any fun y=>decide (y.family=x.family) && decide (y.version=x.version)) then 6 else 0):=by
     show _=_;rw [HQ2.out];simp only [after,HP.out,slt,q8];rfl
    clear HQ2;go_wp2_with (first | (go_at_call 167;refine (Name_ref _ _ (by assumption)).mono ?_;rintro e w1 ⟨rfl,rfl⟩) | (go_at_call 169;refine (plain_ref _ _ (by assumption)).mono ?_;rintro e w1 ⟨rfl,rfl⟩))
    go_quiet (fail)
    go_wp2;go_loopw [6] (fun kv wr=>∃ k:Nat,k≤(j+1)∧kv=.int .i64 k∧(∃ n,wr=w1.drewN n)∧Hid ((ls.take (j+1)).any (fun y=>decide (y.family=x.family) && decide (y.version=x.version))=((ls.take (j+1)).drop k).any (fun y=>decide (y.family=x.family) && decide (y.version=x.version)))) (fun kv _=>(j+1) - (intOf kv).toNat)
    case atStart=>exact ⟨0,Nat.zero_le _,rfl,⟨_,rfl⟩,rfl⟩
    case round =>
     obtain ⟨k,hk,rfl,⟨n,rfl⟩,hf⟩:=hrel;by_cases hki:k < (j+1)
     ·obtain ⟨y,hy⟩:=get_lt (xs:=ls) (k:=k) (by omega);obtain ⟨b3,off3,he3,hb3,g0,g1,g2,g3,-⟩:=License.at_row HR.out hy;obtain ⟨rfl,rfl⟩:b=b3∧off=off3:=by simpa using he3
      have hyl:k < ls.length:=lt_get hy;have hd:=zh (drop_at (xs:=ls.take (j+1)) (k:=k) (x:=y) (by rw [List.getElem?_take,if_pos hki];exact hy));clear hy he3;cases r1:(y.family.toList == x.family.toList);case false =>
       go_wp2;go_quiet (fail)
       go_wp2;go_roundw
       case rel=>exact ⟨k+1,by omega,by go_num,⟨_,rfl⟩,by show _=_;rw [hf.out,hd.out];rw [ba_eq] at r1;simp [r1]⟩
       case measure=>exact zm
      cases r2:(y.version == x.version);case false =>
       go_wp2;go_quiet (fail)
       go_wp2;go_roundw
       case rel=>exact ⟨k+1,by omega,by go_num,⟨_,rfl⟩,by show _=_;rw [hf.out,hd.out];simp at r2;simp [r2]⟩
       case measure=>exact zm
      go_wp2;go_quiet (fail)
      go_wp2;go_ret;refine ⟨ret_i ?_,by exact (HB.out.drewN _).drewN _⟩;rw [HQ3.out,hf.out,hd.out];rw [ba_eq] at r1;simp at r1 r2;simp [r1,r2]
     ·go_wp2;go_ret;refine ⟨ret_i ?_,by exact (HB.out.drewN _)⟩;rw [HQ3.out,hf.out,List.drop_eq_nil_of_le (by simp;omega)];rfl
  go_enter Tryz.func117,Tryz.ntmps117;go_wp2_with (first | (go_at_call 167;refine (Name_ref _ _ (by assumption)).mono ?_;rintro e w1 ⟨rfl,rfl⟩) | (go_at_call 169;refine (plain_ref _ _ (by assumption)).mono ?_;rintro e w1 ⟨rfl,rfl⟩))
  go_ret;exact ⟨ret_i (by simp [licErr,q1,q2]),bw⟩
 go_enter Tryz.func117,Tryz.ntmps117;go_wp2_with (first | (go_at_call 167;refine (Name_ref _ _ (by assumption)).mono ?_;rintro e w1 ⟨rfl,rfl⟩) | (go_at_call 169;refine (plain_ref _ _ (by assumption)).mono ?_;rintro e w1 ⟨rfl,rfl⟩))
 go_ret;exact ⟨ret_i (by simp [licErr,q1]),bw⟩

theorem dutyOK_eq (y:Int):dutyOK y=(!decide (y < 0) && !decide (5 < y)):=by
 unfold dutyOK;rw [Bool.eq_iff_iff];simp
theorem ilt_le (u y:Int):ilt u y=!decide (y≤u):=by unfold ilt;rw [Bool.eq_iff_iff];simp
theorem incr_cons {α:Type} (lt:α→α→Bool) (a b:α) (r:List α):incr lt (a :: b :: r)=(lt a b && incr lt (b :: r)):=rfl
theorem incr_short {α:Type} (lt:α→α→Bool) (l:List α) (h:l.length≤1):incr lt l=true:=by
 match l,h with
 | [],_=>rfl
 | [_],_=>rfl
 | _ :: _ :: _,h=>simp at h

theorem zrrefu0 {p:Prop} (h:p:=by
 go_wp2;go_ret;exact ⟨ret_i (by rw [HQ5.out,hf.out];rw [incr_short _ _ (by simp;omega)];rfl),HB.out.drewN _⟩):p:=h
theorem exception_ref (w:World) (x0 x1 x2 x3:Value) (ls:List License) (es:List Exc) (i:Nat) (x:Exc) (h0:Is w x0 ls) (h:Is w x1 es) (hx:es[i]?=some x) :
  Calls Tryz.prog 118 #[.agg #[x0,x1,x2,x3],.int .i64 i] w fun e w'=>e=.returned (.int .i64 (excErr ls (es.take i) x))∧Below w.heap.size w w':=by
 obtain ⟨a,c,rfl,hnc,hc,hr⟩:=list_inv h;simp only [maxLen] at hc;clear h;have hlt:i < es.length:=lt_get hx;obtain ⟨b,off,rfl,hb,a2,c2,c0,c1,c2',s0,s1,m2,k2,r2⟩:=Exc.at_row hr hx;simp only [maxLen] at k2;clear hx;cases q1:nameB x.name;case true =>
  have HQ:Hid (excErr ls (es.take i) x=if decide (findFrom x.license ls 0 < 0) then 7 else if !x.lifts.all dutyOK then 3 else if ((x.lifts.length:Int) == 0) || !after Exc.name (es.take i) x.name then 5 else if !incr ilt x.lifts then 5 else 0):=by
   show _=_;simp [excErr,q1]
  have HR:=zh hr;clear hr;go_enter Tryz.func118,Tryz.ntmps118;go_wp2_with (first | (go_at_call 167;refine (Name_ref _ _ (by assumption)).mono ?_;rintro e w1 ⟨rfl,rfl⟩))
  refine (find_ref _ _ _ _ _ _ ls (h0.mono bw)).mono ?_;rintro e w1 ⟨rfl,hb1⟩;have d0:=kb w hb1 1 (.slice (some ⟨b,off,none⟩) es.length c);have d1:=kb1 w hb1 0 (.string x.name);have d3:=kb1 w hb1 2 (.slice a2 x.lifts.length c2);have hbw:Below w.heap.size w w1:=bw;have HR1:=zh (HR.out.mono hbw);have HR2:=zh (r2.mono hbw);have HB:=zh hbw;clear hb1 c0 c1 c2' r2 hbw;cases q2:decide (findFrom x.license ls 0 < 0);case true =>
   go_wp2;go_ret;exact ⟨ret_i (by rw [HQ.out,q2];rfl),HB.out⟩
  have HQ2:Hid (excErr ls (es.take i) x=if !x.lifts.all dutyOK then 3 else if ((x.lifts.length:Int) == 0) || !after Exc.name (es.take i) x.name then 5 else if !incr ilt x.lifts then 5 else 0):=by
   show _=_;rw [HQ.out,q2];rfl
  clear HQ;go_wp2;go_loop [6] (fun kv=>∃ k:Nat,0≤k∧k≤x.lifts.length∧kv=.int .i64 k∧Hid (x.lifts.all dutyOK=(x.lifts.drop k).all dutyOK)) (fun kv=>x.lifts.length - (intOf kv).toNat)
  case atStart=>exact ⟨0,by omega,by omega,rfl,rfl⟩
  case round =>
   obtain ⟨k,hlo,hk,rfl,hf⟩:=hrel;by_cases hki:k < x.lifts.length
   ·obtain ⟨y,hy⟩:=get_lt hki;obtain ⟨b3,off3,rfl,hb3,g0,-⟩:=int_at HR2.out hy;have hd:=zh (drop_at hy);clear hy;cases q3:decide (y < 0);case true =>
     go_wp2;go_ret;exact ⟨ret_i (by rw [HQ2.out,hf.out,hd.out];simp [List.all_cons,dutyOK_eq,q3]),HB.out⟩
    cases q4:decide (5 < y);case true =>
     go_wp2;go_ret;exact ⟨ret_i (by rw [HQ2.out,hf.out,hd.out];simp [List.all_cons,dutyOK_eq,q3,q4]),HB.out⟩
    go_wp2;go_round
    case rel=>exact ⟨k+1,by omega,by omega,by go_num,by show _=_;rw [hf.out,hd.out];simp [List.all_cons,dutyOK_eq,q3,q4]⟩
    case measure=>exact zm
   ·have HQ3:Hid (excErr ls (es.take i) x=if ((x.lifts.length:Int) == 0) || !after Exc.name (es.take i) x.name then 5 else if !incr ilt x.lifts then 5 else 0):=by
     show _=_;rw [HQ2.out,hf.out,List.drop_eq_nil_of_le (by omega)];rfl
    clear HQ2 hf;go_wp2;cases q5:((x.lifts.length:Int) == 0);case true =>
     go_quiet (fail)
     go_wp2;go_ret;exact ⟨ret_i (by rw [HQ3.out,q5];rfl),HB.out.drewN _⟩
    have hpos:0 < x.lifts.length:=by simp only [beq_eq_false_iff_ne,ne_eq] at q5;omega
    have HQ4:Hid (excErr ls (es.take i) x=if !after Exc.name (es.take i) x.name then 5 else if !incr ilt x.lifts then 5 else 0):=by
     show _=_;rw [HQ3.out,q5];rfl
    clear HQ3;cases i with
    | zero =>
     have HQ5:Hid (excErr ls (es.take 0) x=if !incr ilt x.lifts then 5 else 0):=by
      show _=_;rw [HQ4.out];rfl
     clear HQ4;go_quiet (fail)
     go_wp2;go_loopw [7] (fun kv wr=>∃ k:Nat,1≤k∧k≤x.lifts.length∧kv=.int .i64 k∧(∃ n,wr=(w1).drewN n)∧Hid (incr ilt x.lifts=incr ilt (x.lifts.drop (k - 1)))) (fun kv _=>x.lifts.length - (intOf kv).toNat)
     case atStart=>exact ⟨1,by omega,by omega,rfl,⟨_,rfl⟩,rfl⟩
     case round =>
      obtain ⟨k,hlo,hk,rfl,⟨n,rfl⟩,hf⟩:=hrel;by_cases hki:k < x.lifts.length
      ·obtain ⟨m,rfl⟩:∃ m,k=m+1:=⟨k - 1,by omega⟩
       obtain ⟨u,hu⟩:=get_lt (xs:=x.lifts) (k:=m) (by omega);obtain ⟨y,hy⟩:=get_lt hki;obtain ⟨b3,off3,rfl,hb3,g0,-⟩:=int_at HR2.out hu;obtain ⟨b5,off5,he5,hb5,g1,-⟩:=int_at HR2.out hy;obtain ⟨rfl,rfl⟩:b3=b5∧off3=off5:=by simpa using he5
       have hd:=zh (show x.lifts.drop (m+1 - 1)=u :: x.lifts.drop (m+1) from drop_at hu);have hd2:=zh (drop_at hy);have hul:m < x.lifts.length:=lt_get hu;clear hu hy he5;cases q6:decide (y≤u);case true =>
        go_wp2;go_quiet (fail)
        go_wp2;go_ret;exact ⟨ret_i (by rw [HQ5.out];rw [hf.out,hd.out,hd2.out,incr_cons,ilt_le,q6];rfl),(HB.out.drewN _).drewN _⟩
       go_wp2;go_quiet (fail)
       go_wp2;go_roundw
       case rel=>exact ⟨m+1+1,by omega,by omega,by go_num,⟨_,rfl⟩,by show _=_;rw [hf.out,hd.out,hd2.out,incr_cons,ilt_le,q6];rw [Bool.not_false,Bool.true_and,← hd2.out];rfl⟩
       case measure=>exact zm
      ·exact zrrefu0
    | succ j =>
     obtain ⟨p,hp⟩:=get_lt (xs:=es) (k:=j) (by omega);obtain ⟨b4,off4,he,hb4,_,_,e0,e1,e2,-⟩:=Exc.at_row HR1.out hp;obtain ⟨rfl,rfl⟩:b=b4∧off=off4:=by simpa using he
     have hpl:j < es.length:=lt_get hp;have HP:=zh (last_take hp);clear hp he;cases q8:Op.bytesLess p.name.toList x.name.toList;case false =>
      go_quiet (fail)
      go_wp2;go_ret;exact ⟨ret_i (by rw [HQ4.out];simp only [after,HP.out,slt,q8];rfl),HB.out.drewN _⟩
     have HQ5:Hid (excErr ls (es.take (j+1)) x=if !incr ilt x.lifts then 5 else 0):=by
      show _=_;rw [HQ4.out];simp only [after,HP.out,slt,q8];rfl
     clear HQ4;go_quiet (fail)
     go_wp2;go_loopw [7] (fun kv wr=>∃ k:Nat,1≤k∧k≤x.lifts.length∧kv=.int .i64 k∧(∃ n,wr=(w1).drewN n)∧Hid (incr ilt x.lifts=incr ilt (x.lifts.drop (k - 1)))) (fun kv _=>x.lifts.length - (intOf kv).toNat)
     case atStart=>exact ⟨1,by omega,by omega,rfl,⟨_,rfl⟩,rfl⟩
     case round =>
      obtain ⟨k,hlo,hk,rfl,⟨n,rfl⟩,hf⟩:=hrel;by_cases hki:k < x.lifts.length
      ·obtain ⟨m,rfl⟩:∃ m,k=m+1:=⟨k - 1,by omega⟩
       obtain ⟨u,hu⟩:=get_lt (xs:=x.lifts) (k:=m) (by omega);obtain ⟨y,hy⟩:=get_lt hki;obtain ⟨b3,off3,rfl,hb3,g0,-⟩:=int_at HR2.out hu;obtain ⟨b5,off5,he5,hb5,g1,-⟩:=int_at HR2.out hy;obtain ⟨rfl,rfl⟩:b3=b5∧off3=off5:=by simpa using he5
       have hd:=zh (show x.lifts.drop (m+1 - 1)=u :: x.lifts.drop (m+1) from drop_at hu);have hd2:=zh (drop_at hy);have hul:m < x.lifts.length:=lt_get hu;clear hu hy he5;cases q7:decide (y≤u);case true =>
        go_wp2;go_quiet (fail)
        go_wp2;go_ret;exact ⟨ret_i (by rw [HQ5.out];rw [hf.out,hd.out,hd2.out,incr_cons,ilt_le,q7];rfl),(HB.out.drewN _).drewN _⟩
       go_wp2;go_quiet (fail)
       go_wp2;go_roundw
       case rel=>exact ⟨m+1+1,by omega,by omega,by go_num,⟨_,rfl⟩,by show _=_;rw [hf.out,hd.out,hd2.out,incr_cons,ilt_le,q7];rw [Bool.not_false,Bool.true_and,← hd2.out];rfl⟩
       case measure=>exact zm
      ·exact zrrefu0
 go_enter Tryz.func118,Tryz.ntmps118;go_wp2_with (first | (go_at_call 167;refine (Name_ref _ _ (by assumption)).mono ?_;rintro e w1 ⟨rfl,rfl⟩))
 go_ret;exact ⟨ret_i (by simp [excErr,q1]),bw⟩
end Go.Proofs.YtcbopdbbcgdkcaaGreatDoor
