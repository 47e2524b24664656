/- Lemmas. -/
import Derived.Lib.SlTrimSet
import Derived.Lib.SplitLaws
import Derived.Lib.LaidTab
import Derived.Test.YtcbopdbbcgdkcaaGreatDoorLRefV
set_option linter.all false
set_option maxRecDepth 100000
set_option maxHeartbeats 16000000
namespace Go.Proofs.YtcbopdbbcgdkcaaGreatDoor
open Go Go.RowKit Go.ChangeShapes

def cmpS (a b:ByteArray):Int:=if slt a b then -1 else if seq a b then 0 else 1
def cmpI (a b:Int):Int:=if decide (a < b) then -1 else if decide (b < a) then 1 else 0

theorem isNaN_s (s:ByteArray) (w:World):Calls Tryz.prog 148 #[.string s] w fun e w'=>e=.returned (.bool false)∧w=w':=by
 go_enter Tryz.func148,Tryz.ntmps148;go_wp2;go_ret;exact ⟨ret_b (by simp),rfl⟩
theorem isNaN_i (s:Int) (w:World):Calls Tryz.prog 188 #[.int .i64 s] w fun e w'=>e=.returned (.bool false)∧w=w':=by
 go_enter Tryz.func188,Tryz.ntmps188;go_wp2;go_ret;exact ⟨ret_b (by simp),rfl⟩
theorem zrprou0 {p:Prop} (h:p:=by
 go_enter Tryz.func98,Tryz.ntmps98;go_wp2_with (go_at_call 148;refine (isNaN_s _ _).mono ?_;rintro e w1 ⟨rfl,rfl⟩)
 go_ret;exact ⟨ret_i (by simp [cmpS,seq,slt,q1,q2]),rfl⟩):p:=h
theorem Compare_s (a b:ByteArray) (w:World):Calls Tryz.prog 98 #[.string a,.string b] w fun e w'=>e=.returned (.int .i64 (cmpS a b))∧w=w':=by
 cases q1:Op.bytesLess a.toList b.toList;case true =>
  go_enter Tryz.func98,Tryz.ntmps98;go_wp2_with (go_at_call 148;refine (isNaN_s _ _).mono ?_;rintro e w1 ⟨rfl,rfl⟩)
  go_ret;exact ⟨ret_i (by simp [cmpS,seq,slt,q1]),rfl⟩
 cases q2:(a.toList == b.toList);case true =>
  exact zrprou0
 exact zrprou0
theorem zrprou1 {p:Prop} (h:p:=by
 go_enter Tryz.func135,Tryz.ntmps135;go_wp2_with (go_at_call 188;refine (isNaN_i _ _).mono ?_;rintro e w1 ⟨rfl,rfl⟩)
 go_ret;exact ⟨ret_i (by simp [cmpI,q1,q2]),rfl⟩):p:=h
theorem Compare_i (a b:Int) (w:World):Calls Tryz.prog 135 #[.int .i64 a,.int .i64 b] w fun e w'=>e=.returned (.int .i64 (cmpI a b))∧w=w':=by
 cases q1:decide (a < b);case true =>
  go_enter Tryz.func135,Tryz.ntmps135;go_wp2_with (go_at_call 188;refine (isNaN_i _ _).mono ?_;rintro e w1 ⟨rfl,rfl⟩)
  go_ret;exact ⟨ret_i (by simp [cmpI,q1]),rfl⟩
 cases q2:decide (b < a);case true =>
  exact zrprou1
 exact zrprou1
def orI:List Int→Int
 | []=>0
 | x :: r=>if x != 0 then x else orI r
theorem orI_cons (x:Int) (r:List Int):orI (x :: r)=if x != 0 then x else orI r:=rfl
theorem Or_i (w:World) (x0:Value) (xs:List Int) (h:Is w x0 xs):Calls Tryz.prog 134 #[x0] w fun e w'=>e=.returned (.int .i64 (orI xs))∧w=w':=by
 obtain ⟨a,c,rfl,hnc,hc,hr⟩:=list_inv h;simp only [maxLen] at hc;clear h;go_enter Tryz.func134,Tryz.ntmps134;go_wp2;go_loop [8] (fun kv=>∃ k:Nat,0≤k∧k≤xs.length+0∧kv=.int .i64 k∧Hid (orI xs=orI (xs.drop k))) (fun kv=>xs.length - (intOf kv).toNat)
 case atStart=>exact ⟨0,by omega,by omega,rfl,rfl⟩
 case round =>
  obtain ⟨k,hlo,hk,rfl,hf⟩:=hrel;by_cases hki:k < xs.length
  ·obtain ⟨x,hx⟩:=get_lt hki;obtain ⟨b,off,rfl,hb,c0,-⟩:=int_at hr hx;have hd:=zh (drop_at hx);clear hx;cases q1:(x != 0);case true =>
    go_wp2;go_ret;exact ⟨ret_i (by rw [hf.out,hd.out,orI_cons,q1];rfl),rfl⟩
   go_wp2;go_round
   case rel=>exact ⟨k+1,by omega,by omega,by go_num,by show _=_;rw [hf.out,hd.out,orI_cons,q1];rfl⟩
   case measure=>exact zm
  ·go_wp2;go_ret;exact ⟨ret_i (by rw [hf.out,List.drop_eq_nil_of_le (by omega)];rfl),rfl⟩

theorem zrprou2 {p:Prop} (h:p:=by
 go_enter Tryz.func157,Tryz.ntmps157;go_wp2;go_ret;exact ⟨ret_b (by simp only [dutyOK,q1,q2];rfl),rfl⟩):p:=h
theorem isDuty_p (n:Int) (w:World):Calls Tryz.prog 157 #[.int .i64 n] w fun e w'=>e=.returned (.bool (dutyOK n))∧w=w':=by
 cases q1:decide (0≤n);case true =>
  cases q2:decide (n≤5);case true =>
   exact zrprou2
  exact zrprou2
 go_enter Tryz.func157,Tryz.ntmps157;go_wp2;go_ret;exact ⟨ret_b (by simp only [dutyOK,q1];rfl),rfl⟩

def cmpClause (a b:Clause):Int:=orI [cmpS a.license b.license,cmpI a.way b.way,cmpI a.relation b.relation,cmpI a.duty b.duty]
def cmpPair (a b:Pair):Int:=orI [cmpS a.a b.a,cmpS a.b b.b]
theorem cmpS_in (a b:ByteArray):inI64 (cmpS a b):=by unfold cmpS inI64;split <;> (try split) <;> omega
theorem cmpI_in (a b:Int):inI64 (cmpI a b):=by unfold cmpI inI64;split <;> (try split) <;> omega
theorem ints_box (w:World) (xs:List Int) (e:TypeId) (h:∀ x∈xs,inI64 x) (hn:xs.length≤maxLen) {cs:Array Value} (hx:cs=(xs.map (Value.int .i64)).toArray) {b:Nat} (hb:b=w.heap.size):Is (w.alloc (.cells cs e)) (.slice (some ⟨b,0,none⟩) xs.length xs.length) xs:=by
 subst hx hb;refine list_mk (Nat.le_refl _) hn fun i x hi=>⟨_,_,rfl,by simp,?_,h x (List.mem_of_getElem? hi)⟩
 show World.cell? _ ⟨w.heap.size,0+i * 1+0,none⟩=_;rw [World.cell?_alloc_at _ _ _ _ rfl];simp [hi]
theorem Compare_q (a b:ByteArray) (w:World):Calls Tryz.prog 98 #[.string a,.string b] w fun e w'=>e=.returned (.int .i64 (cmpS a b))∧w'=w:=(Compare_s a b w).mono fun _ _ h=>⟨h.1,h.2.symm⟩
theorem Compare_r (a b:Int) (w:World):Calls Tryz.prog 135 #[.int .i64 a,.int .i64 b] w fun e w'=>e=.returned (.int .i64 (cmpI a b))∧w'=w:=(Compare_i a b w).mono fun _ _ h=>⟨h.1,h.2.symm⟩

theorem compareClauses_p (w:World) (x0 x1:Value) (a b:Clause) (h0:Is w x0 a) (h1:Is w x1 b) :
  Calls Tryz.prog 102 #[x0,x1] w fun e w'=>e=.returned (.int .i64 (cmpClause a b))∧Below w.heap.size w w':=by
 obtain ⟨a4,c4,rfl,s0,-⟩:=Clause.inv h0;obtain ⟨b4,d4,rfl,t0,-⟩:=Clause.inv h1;clear h0 h1;go_enter Tryz.func102,Tryz.ntmps102;go_wp2;refine still_tail 20 (by kernel_rfl) (by kernel_rfl) ?_;simp only [zt];repeat still_step
 still_call (Compare_q a.license b.license _)
 repeat still_step
 still_call (Compare_r a.way b.way _)
 repeat still_step
 still_call (Compare_r a.relation b.relation _)
 repeat still_step
 still_call (Compare_r a.duty b.duty _)
 repeat still_step
 refine wpStill_nil ?_;go_wp2_with fail
 refine (Or_i _ _ [cmpS a.license b.license,cmpI a.way b.way,cmpI a.relation b.relation,cmpI a.duty b.duty] ?_).mono ?_
 ·refine (ints_box _ [cmpS a.license b.license,cmpI a.way b.way,cmpI a.relation b.relation,cmpI a.duty b.duty] _ ?_ (Nat.le_of_ble_eq_true rfl) rfl (by simp)).mono (Below.refl _ _).drew;simp [cmpS_in,cmpI_in]
 rintro e w1 ⟨rfl,rfl⟩;go_wp2;go_ret;exact ⟨rfl,bw⟩

theorem comparePairs_p (w:World) (x0 x1:Value) (a b:Pair) (h0:Is w x0 a) (h1:Is w x1 b) :
  Calls Tryz.prog 104 #[x0,x1] w fun e w'=>e=.returned (.int .i64 (cmpPair a b))∧Below w.heap.size w w':=by
 obtain ⟨rfl,s0,-⟩:=Pair.inv h0;obtain ⟨rfl,t0,-⟩:=Pair.inv h1;clear h0 h1;go_enter Tryz.func104,Tryz.ntmps104;go_wp2;refine still_tail 10 (by kernel_rfl) (by kernel_rfl) ?_;simp only [zt];repeat still_step
 still_call (Compare_q a.a b.a _)
 repeat still_step
 still_call (Compare_q a.b b.b _)
 repeat still_step
 refine wpStill_nil ?_;go_wp2_with fail
 refine (Or_i _ _ [cmpS a.a b.a,cmpS a.b b.b] ?_).mono ?_
 ·refine (ints_box _ [cmpS a.a b.a,cmpS a.b b.b] _ ?_ (Nat.le_of_ble_eq_true rfl) rfl (by simp)).mono (Below.refl _ _).drew;simp [cmpS_in,cmpI_in]
 rintro e w1 ⟨rfl,rfl⟩;go_wp2;go_ret;exact ⟨rfl,bw⟩


theorem dw_nil {α:Type} (p:α→Bool) (l:List α):l.dropWhile p=[]↔∀ x∈l,p x=true:=by
 induction l with
 | nil=>simp
 | cons a l ih=>cases h:p a <;> simp [List.dropWhile_cons,h,ih]
theorem dw_head {α:Type} (p:α→Bool) (l:List α) {z:α} {zs:List α} (h:l.dropWhile p=z :: zs):p z=false:=by
 induction l with
 | nil=>simp at h
 | cons a l ih =>
  cases ha:p a
  ·rw [List.dropWhile_cons,ha] at h;simp at h;rw [← h.1];exact ha
  ·rw [List.dropWhile_cons,ha] at h;exact ih (by simpa using h)
theorem trimS_nil (l cs:List UInt8):(Lib.trimS l cs).isEmpty=l.all (cs.contains ·):=by
 unfold Lib.trimS Lib.trimLeftS Lib.trimRightS;rw [Bool.eq_iff_iff,List.isEmpty_iff,List.all_eq_true,dw_nil];constructor
 ·intro h;cases hd:l.reverse.dropWhile (cs.contains ·) with
  | nil =>
   rw [dw_nil] at hd;exact fun y hy=>hd y (by simpa using hy)
  | cons z zs =>
   exfalso;have h1:=dw_head _ _ hd;have h2:=h z (by rw [hd];simp);rw [h1] at h2;cases h2
 ·intro h x hx;have h2:x∈l.reverse:=(List.dropWhile_sublist _).mem (List.mem_reverse.1 hx);exact h x (by simpa using h2)

theorem u8_all {p:UInt8→Bool} (h:∀ n:Fin 256,p (UInt8.ofNat n.val)=true) (c:UInt8):p c=true:=by
 have:=h ⟨c.toNat,c.toNat_lt⟩;simpa using this

def nameCs:List UInt8:=[97,98,99,100,101,102,103,104,105,106,107,108,109,110,111,112,113,114,115,116,117,118,119,120,121,122,48,49,50,51,52,53,54,55,56,57,45,46]
def digitCs:List UInt8:=[48,49,50,51,52,53,54,55,56,57]
theorem nameCs_eq (c:UInt8):nameCs.contains c=nameC c:=by
 have:=u8_all (p:=fun c=>nameCs.contains c == nameC c) (by decide +kernel) c;simpa using this
theorem digitCs_eq (c:UInt8):digitCs.contains c=digC c:=by
 have:=u8_all (p:=fun c=>digitCs.contains c == digC c) (by decide +kernel) c;simpa using this

theorem index_one (l:List UInt8) (d:UInt8):Lib.index l [d]=Lib.indexByte l d:=by
 induction l with
 | nil=>rfl
 | cons b l ih =>
  unfold Lib.index Lib.indexByte;rw [ih];have e:[d].isPrefixOf (b :: l)=(b == d):=by
   simp only [List.isPrefixOf,Bool.and_true];rw [Bool.eq_iff_iff,beq_iff_eq,beq_iff_eq,eq_comm]
  rw [e]
theorem indexByte_app (d:UInt8) (r:List UInt8):∀ cur:List UInt8,cur.count d=0→Lib.indexByte (cur++d :: r) d=cur.length
 | [],_=>by simp [Lib.indexByte]
 | b :: cur,h=>by
  have hb:(b == d)=false:=by
   cases hb:b == d
   ·rfl
   ·rw [beq_iff_eq] at hb;subst hb;simp at h
  have hb':¬ b=d:=by simpa using hb
  have h':cur.count d=0:=by rw [List.count_cons,hb] at h;simpa using h
  have ih:=indexByte_app d r cur h';show Lib.indexByte (b :: (cur++d :: r)) d=_;unfold Lib.indexByte;rw [ih,hb];simp only [List.length_cons,Bool.false_eq_true,if_false];rw [if_neg (by simp;try omega)];try omega
theorem splitK_at (d:UInt8):∀ (l cur:List UInt8),cur.count d=0→(Lib.splitK [d] 0 (l.count d) (cur++l)).map mkS=splitAt d cur l
 | [],cur,_=>by simp [Lib.splitK,splitAt]
 | c :: r,cur,h=>by
  rw [splitAt_cons];by_cases hc:c=d
  ·subst hc;rw [if_pos rfl,List.count_cons_self];have hi:Lib.index (cur++c :: r) [c]=cur.length:=by rw [index_one];exact indexByte_app c r cur h
   unfold Lib.splitK;rw [hi,if_neg (by simp;try omega)];have ih:=splitK_at c r [] (by simp);simp only [List.nil_append] at ih;simp [ih]
  ·rw [if_neg hc,List.count_cons_of_ne (by simpa using hc)];have e:cur++c :: r=(cur++[c])++r:=by simp
   rw [e];exact splitK_at d r (cur++[c]) (by rw [List.count_append,h];simp [hc])
theorem countB_one (s:ByteArray) (d:UInt8):Lib.countB s (mkS [d])=s.data.toList.count d:=Lib.count_one d s.data.toList
theorem splitB_at (s:ByteArray) (d:UInt8):Lib.splitB (mkS [d]) 0 (Lib.countB s (mkS [d])) s=splitAt d [] s.data.toList:=by
 have e:=Lib.splitB_data (mkS [d]) 0 (Lib.countB s (mkS [d])) s;rw [mkS_toList,countB_one] at e;have h:=splitK_at d s.data.toList [] (by simp);rw [List.nil_append,← e,List.map_map] at h;rw [countB_one,← h];rw [show (mkS ∘ fun x:ByteArray=>x.data.toList)=id from funext fun x=>mkS_self x];simp
end Go.Proofs.YtcbopdbbcgdkcaaGreatDoor
