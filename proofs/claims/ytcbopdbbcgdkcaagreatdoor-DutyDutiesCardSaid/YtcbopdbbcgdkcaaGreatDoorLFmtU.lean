/- Lemmas. -/
import Derived.Deep.Upon
import Derived.Deep.AppendLies
import Derived.Test.YtcbopdbbcgdkcaaGreatDoorLProY
set_option linter.all false
set_option maxRecDepth 100000
set_option maxHeartbeats 16000000
namespace Go.Proofs.YtcbopdbbcgdkcaaGreatDoor
open Go Go.RowKit Go.ChangeShapes

theorem joinB_eq (d:List UInt8):∀ ws:List ByteArray,joinB d ws=Lib.join (ws.map (·.data.toList)) d
 | []=>rfl
 | [a]=>by simp [joinB,Lib.join_one]
 | a :: b :: r=>by
  rw [joinB,joinB_eq d (b :: r)]
  ·simp only [List.map_cons];rw [Lib.join_cons,Lib.join_cons];simp [Lib.joinTail]
  ·simp

theorem app_ow {ops:Array Oper} {rest:List Oper} {o:Oper} {a:Act} {Q:Exit→Act→World→Prop} {w:World} (hgd:o.guard=none) (s x:Operand)
  (ho:o.op=.call { callee:=.builtin .append,args:=#[s,x],argTypes:=#[36,36] })
  (B:Nat) (v:Value) (xs:List ByteArray) (hs:a.eval s=v) (hown:OwnV Value.string B 9 w v xs)
  (y:ByteArray) (hx:a.eval x=.slice (some ⟨w.heap.size,0,none⟩) 1 1)
  (hb:xs.length≤4294967296) (hB:B≤w.heap.size)
  (h:∀ v' w',OwnV Value.string B 9 w' v' (xs++[y])→Below B w w'→w.heap.size < w'.heap.size→wpList Tryz.prog ops Q rest (a.put o.dst v') w') :
  wpList Tryz.prog ops Q (o :: rest) a (w.alloc (.cells #[.string y] 9)):=by
 refine app_str hgd s x ho B v xs.length _ hs hown y hx hb hB fun v' w' h1 h2 _=>h v' w' ?_ ?_ ?_
 ·show World.ownsRow _ _ _ _ _ _ _;simpa using h1
 ·exact ((Below.refl _ _).alloc (by omega) _).app h2 (by simp;omega) hown
 ·have:=h2.size;simp at this;omega
theorem wpo_app_strs {o:Oper} {a:Act} {K:Act→World→Prop} {Q:Exit→Act→World→Prop} {w:World} (s x:Operand)
  (ho:o.op=.call { callee:=.builtin .append,args:=#[s,x],argTypes:=#[36,36] })
  (B:Nat) (v:Value) (xs:List ByteArray) (hs:a.eval s=v) (hown:OwnV Value.string B 9 w v xs)
  (u:Value) (ys:List ByteArray) (hx:a.eval x=u) (hu:Is w u ys) (hb:xs.length+ys.length≤4294967296) (hB:B≤w.heap.size)
  (h:∀ v' w',OwnV Value.string B 9 w' v' (xs++ys)→w.grownBy w' v.ownBlock→K (a.put o.dst v') w'):o.wp Tryz.prog a w K Q:=by
 obtain ⟨i0,hi,hz0,hz1,hz2⟩:=info_parts strRow;obtain ⟨ua,uc,rfl,hnc,hc,hr⟩:=list_inv hu;cases ua with
 | none =>
  have hys:ys=[]:=by
   cases ys with
   | nil=>rfl
   | cons y r=>obtain ⟨_,_,he,-⟩:=hr 0 y rfl;cases he
  subst hys;obtain ⟨va,vc,rfl,hvc,-⟩:=hown.shape;have hrun:=run_append_nothing (P:=Tryz.prog) w 36 36 o.type 9 i0 Tryz.underlying36 hi va xs.length vc hvc (.slice none 0 uc) (Src.ofNil w Tryz.underlying36 uc);have hk:=h (.slice va xs.length vc) w (by simpa using hown) ⟨rfl,rfl,rfl,Nat.le_refl _,fun _ _ _=>rfl⟩;simp only [List.length_nil] at hx;unfold Oper.wp execOp;simp only [ho,resolve,invoke,builtin,Sem.run_bind,Sem.run_pure,Result.andThen_ok,List.map_toArray,List.map_cons,List.map_nil,hs,hx,hrun];exact hk
 | some ad =>
  refine wp_append_own w s x 36 ho B 9 i0 _ 1 16 Tryz.underlying36 hi hz0 hz1 hz2 rfl (by omega) v xs.length _ hs hown ad ys.length uc (ys.map Value.string) hx (by simp) ?_ (by simp [Value.oneCell']) (by unfold maxLen;omega) (by omega) hB ?_
  ·intro j z hj;rw [List.getElem?_map,Option.map_eq_some_iff] at hj;obtain ⟨y,hy,rfl⟩:=hj;obtain ⟨b',off',he,-,h0,-⟩:=str_at hr hy;cases he;have e2:(⟨b',off',none⟩:Addr).add j=⟨b',off'+j,none⟩:=by
    unfold Addr.add;split
    ·subst j;rfl
    ·simp
   rw [e2];exact h0
  ·intro v' w' h2 h3 _;exact h v' w' (by show World.ownsRow _ _ _ _ _ _ _;simpa using h2) h3
theorem step_app_strs {ops:Array Oper} {o:Oper} {a:Act} {K:Act→World→Prop} {Q:Exit→Act→World→Prop} {E:Prop} {w:World} (hgd:o.guard=none) (s x:Operand)
  (ho:o.op=.call { callee:=.builtin .append,args:=#[s,x],argTypes:=#[36,36] })
  (B:Nat) (v:Value) (xs:List ByteArray) (hs:a.eval s=v) (hown:OwnV Value.string B 9 w v xs)
  (u:Value) (ys:List ByteArray) (hx:a.eval x=u) (hu:Is w u ys) (hb:xs.length+ys.length≤4294967296) (hB:B≤w.heap.size)
  (h:∀ v' w',OwnV Value.string B 9 w' v' (xs++ys)→w.grownBy w' v.ownBlock→K (a.put o.dst v') w') :
  if Region.wanted o (yielded ops a.tmps)=true then Oper.wp Tryz.prog o a w K Q else E:=by
 have hw:Region.wanted o (yielded ops a.tmps)=true:=by simp [Region.wanted,hgd]
 rw [if_pos hw];exact wpo_app_strs s x ho B v xs hs hown u ys hx hu hb hB h

theorem obj_cell {w:World} {g j:Nat} {cs:Array Value} {e:TypeId} {fr:Nat×Nat} {v:Value} (h:w.heap[g]?=some (.cells cs e fr)) (hv:cs[j]?=some v):w.cell? ⟨g,j,none⟩=some v:=by
 simp [World.cell?,h,hv]
theorem obj_lt {w:World} {g:Nat} {o:Obj} (h:w.heap[g]?=some o):g < w.heap.size:=by
 rcases Nat.lt_or_ge g w.heap.size with h1 | h1
 ·exact h1
 ·rw [Array.getElem?_eq_none h1] at h;cases h
theorem obj_new (w:World) (o:Obj):(w.alloc o).heap[w.heap.size]?=some o:=by show (w.heap.push _)[w.heap.size]?=_;exact Array.getElem?_push_size
def dutyA:Array Value:=(dutyW.map fun l=>Value.string (mkS l)).toArray
theorem obj_below {w w':World} {g:Nat} {o:Obj} (h:w.heap[g]?=some o) (hb:Below w.heap.size w w'):w'.heap[g]?=some o:=by rw [hb.block g (obj_lt h)];exact h
theorem duty_x (w:World):Calls Tryz.prog 197 #[] w fun e w'=>e=.returned (.slice (some ⟨w.heap.size,0,none⟩) 6 6)∧∃ T,w'=w.alloc (.cells dutyA T):=by
 go_enter Tryz.func197,Tryz.ntmps197;go_wp2;go_ret;exact ⟨rfl,_,rfl⟩
def wayA:Array Value:=(wayW.map fun l=>Value.string (mkS l)).toArray
theorem way_x (w:World):Calls Tryz.prog 198 #[] w fun e w'=>e=.returned (.slice (some ⟨w.heap.size,0,none⟩) 3 3)∧∃ T,w'=w.alloc (.cells wayA T):=by
 go_enter Tryz.func198,Tryz.ntmps198;go_wp2;go_ret;exact ⟨rfl,_,rfl⟩
def relA:Array Value:=(relW.map fun l=>Value.string (mkS l)).toArray
theorem rel_x (w:World):Calls Tryz.prog 199 #[] w fun e w'=>e=.returned (.slice (some ⟨w.heap.size,0,none⟩) 3 3)∧∃ T,w'=w.alloc (.cells relA T):=by
 go_enter Tryz.func199,Tryz.ntmps199;go_wp2;go_ret;exact ⟨rfl,_,rfl⟩
theorem idxFromS_find (s:ByteArray):∀ (ws:List (List UInt8)) (i:Nat),Lib.idxFromS (ws.map mkS) s i=match ws.findIdx? (isW s) with | none => -1 | some k=>((i+k:Nat):Int)
 | [],_=>rfl
 | l :: r,i=>by
  have ih:=idxFromS_find s r (i+1);simp only [List.map_cons,Lib.idxFromS,List.findIdx?_cons];by_cases h:s.data.toList=l
  ·have h1:mkS l=s:=by rw [← h];exact mkS_self s
   have h2:isW s l=true:=by unfold isW;exact decide_eq_true h
   simp [h1,h2]
  ·have h1:¬ mkS l=s:=fun e=>h (by rw [← e,mkS_toList]);have h2:isW s l=false:=by unfold isW;exact decide_eq_false h
   rw [if_neg h1,ih,h2];cases r.findIdx? (isW s) with
   | none=>rfl
   | some k=>show ((i+1+k:Nat):Int)=((i+(k+1):Nat):Int);congr 1;omega
theorem idxOfS_word (ws:List (List UInt8)) (s:ByteArray):Lib.idxOfS (ws.map mkS) s=wordIx ws s:=by
 unfold Lib.idxOfS wordIx;rw [idxFromS_find];cases ws.findIdx? (isW s) with
 | none=>rfl
 | some k=>simp
theorem wordIx_lt {ws:List (List UInt8)} {s:ByteArray}:wordIx ws s < ws.length:=by
 unfold wordIx;cases h:ws.findIdx? (isW s) with
 | none=>show (-1:Int) < _;omega
 | some k=>have:=(List.findIdx?_eq_some_iff_getElem.1 h).1;show (k:Int) < _;omega
theorem duty_ix (w W:World) (T:TypeId) (g:Nat) (s:ByteArray) (hg:g=w.heap.size) (hb:Below (w.alloc (.cells dutyA T)).heap.size (w.alloc (.cells dutyA T)) W) :
  Calls Tryz.prog 93 #[.slice (some ⟨g,0,none⟩) 6 6,.string s] W fun e w'=>e=.returned (.int .i64 (wordIx dutyW s))∧w'=W:=by
 subst hg
 have h:=Tryz.slices_Index_string w.heap.size 0 6 6 (dutyW.map mkS) s W (by decide) (by decide) (by
  intro j hj;have hj':j < dutyW.length:=by simpa using hj
  have h1:=obj_below (obj_new w (.cells dutyA T)) hb;refine obj_cell (j:=0+j) h1 ?_;simp [dutyA,hj',List.getD_eq_getElem?_getD])
 have e:((dutyW.map mkS).take 6)=dutyW.map mkS:=List.take_of_length_le (by decide);rw [e,idxOfS_word] at h;exact h
end Go.Proofs.YtcbopdbbcgdkcaaGreatDoor
