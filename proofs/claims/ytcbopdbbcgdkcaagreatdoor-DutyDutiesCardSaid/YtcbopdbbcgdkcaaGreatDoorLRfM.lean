/- Lemmas. -/
import Derived.Test.YtcbopdbbcgdkcaaGreatDoorLPairU
import Derived.Test.YtcbopdbbcgdkcaaGreatDoorLDecU
import Derived.Test.YtcbopdbbcgdkcaaGreatDoorLLookV
set_option linter.all false
set_option maxRecDepth 100000
set_option maxHeartbeats 16000000
namespace Go.Proofs.YtcbopdbbcgdkcaaGreatDoor
open Go Go.RowKit Go.ChangeShapes Go.Sort Go.Lib

theorem rowT_nil (B:Nat) (w:World):RowT B w (.slice none 0 0) []:=⟨⟨by simp,.inl ⟨rfl,rfl⟩⟩,fun x hx=>by simp at hx⟩
theorem RowT.snoc {B:Nat} {w':World} {v':Value} {xs:List Term} {t:Term} (h:w'.ownsRow B 61 2 v' (xs.length+1) ((xs.map encT).flatten++[.string t.license,.string t.exception]))
  (hs:∀ x∈xs,x.license.size≤maxLen∧x.exception.size≤maxLen) (h1:t.license.size≤maxLen) (h2:t.exception.size≤maxLen):RowT B w' v' (xs++[t]):=by
 refine ⟨?_,fun x hx=>?_⟩
 ·rw [List.length_append,List.map_append,List.flatten_append];exact h
 ·rcases List.mem_append.1 hx with hx | hx
  ·exact hs x hx
  ·simp at hx;subst hx;exact ⟨h1,h2⟩
theorem app_term {ops:Array Oper} {rest:List Oper} {o:Oper} {a:Act} {Q:Exit→Act→World→Prop} {w:World} (hgd:o.guard=none) (s x:Operand)
  (ho:o.op=.call { callee:=.builtin .append,args:=#[s,x],argTypes:=#[58,58] })
  (B:Nat) (v:Value) (xs:List Term) (hs:a.eval s=v) (hown:RowT B w v xs) (t:Term) (hx:a.eval x=.slice (some ⟨w.heap.size,0,none⟩) 1 1)
  (h1:t.license.size≤maxLen) (h2:t.exception.size≤maxLen) (hb:xs.length≤1000000000) (hB:B≤w.heap.size)
  (h:∀ v' w',RowT B w' v' (xs++[t])→Below B w w'→wpList Tryz.prog ops Q rest (a.put o.dst v') w') :
  wpList Tryz.prog ops Q (o :: rest) a (w.alloc (.cells #[.string t.license,.string t.exception] 61)):=by
 refine wp_app infoTerm rfl (by decide) Tryz.underlying58 hgd s x ho B v xs.length _ hs hown.1 #[.string t.license,.string t.exception] hx rfl (by intro q hq;simp at hq;rcases hq with rfl | rfl <;> rfl) (by omega) hB fun v' w' k2 k3 _=>?_;exact h v' w' (RowT.snoc k2 hown.2 h1 h2) (((Below.refl _ _).alloc (by omega) _).app k3 (by simp;omega) hown.1)
end Go.Proofs.YtcbopdbbcgdkcaaGreatDoor
namespace Go.Proofs.YtcbopdbbcgdkcaaGreatDoor
open Go Go.RowKit Go.ChangeShapes Go.Lib

def addS (out:List Term) (done:Bool) (rest:List Term) (t:Term):List Term:=if done then out++rest else out++addT rest t
theorem addS_end (out:List Term) (done:Bool) (t:Term):addS out done [] t=if done then out else out++[t]:=by unfold addS;cases done <;> simp [addT]
theorem addS_done {out:List Term} {x t:Term} {r:List Term}:addS out true (x :: r) t=addS (out++[x]) true r t:=by simp [addS]
theorem addS_hit {out:List Term} {x:Term} {r:List Term}:addS out false (x :: r) x=addS (out++[x]) true r x:=by simp [addS,addT]
theorem addS_put {out:List Term} {x t:Term} {r:List Term} (hne:¬ x=t) (hb:bef t x=true):addS out false (x :: r) t=addS (out++[t,x]) true r t:=by simp [addS,addT,hne,hb]
theorem addS_on {out:List Term} {x t:Term} {r:List Term} (hne:¬ x=t) (hb:bef t x=false):addS out false (x :: r) t=addS (out++[x]) false r t:=by simp [addS,addT,hne,hb]
def RoO (B:Nat) (xs:List Term) (w:World) (e:Ending) (w':World):Prop:=∃ v,e=.returned v∧RowT B w' v xs∧Below w.heap.size w w'
theorem RowT.weaken {B B':Nat} {w:World} {v:Value} {xs:List Term} (h:RowT B w v xs) (hB:B'≤B):RowT B' w v xs:=⟨ownsRow_weaken h.1 hB,h.2⟩
theorem zqrfm0 {p:Prop} (h:p:=by
 intro w' hw';obtain ⟨hb5,f0,f1,x0,x1⟩:=hw';go_simp;first
 | with_reducible rfl
 | exact ⟨rfl,rfl⟩
 | (go_at_call 262;refine (hbf _).mono ?_;rintro e w'' ⟨rfl,hb6⟩;refine ⟨?_,hb5.trans (hb6.mono hb5.size),kept hb6 f0,kept hb6 f1,kept hb6 x0,kept hb6 x1⟩;with_reducible rfl)):p:=h
theorem zrrfm1 {p:Prop} (h:p:=by
 have HB6:Hid (Below w0.heap.size w0 w6):=HB5'.out.trans hb6;have HO6:=zh ho6;clear ho6 hb6 hlb;go_wp2;go_roundw
 case rel=>exact ⟨k+1,out++[x],true,by omega,by go_num,rfl,HB6,HO6,(by show _≤_;have h:=HL.out;simp only [List.length_append,List.length_cons,List.length_nil,Bool.toNat_true,Bool.toNat_false] at h ⊢;omega),HT⟩
 case measure=>exact zm):p:=h
theorem Add_ref (w:World) (v:Value) (xs:List Term) (t:Term) (h:Is w v xs) (t0:t.license.size≤maxLen) (t1:t.exception.size≤maxLen) (hl:xs.length≤1000000) :
  Calls Tryz.prog 260 #[v,.agg #[.string t.license,.string t.exception]] w fun e w'=>RoO w.heap.size (addT xs t) w e w':=by
 obtain ⟨a,c,rfl,hnc,hcm,hr⟩:=list_inv h;simp only [maxLen] at hcm;have HR:=zh hr;have HF:Hid (addT xs t=addS [] false xs t):=by show _=_;simp [addS]
 clear hr h;generalize addT xs t=rr at *;generalize hN:xs.length=N at *;have HN:=zh hN;clear hN;go_enter Tryz.func260,Tryz.ntmps260;go_wp2;have hba:Below w.heap.size w (w.alloc (.cells #[.string t.license,.string t.exception] 61)):=bw;have e0:(w.alloc (.cells #[.string t.license,.string t.exception] 61)).cell? ⟨w.heap.size,0,none⟩=some (.string t.license):=by simp
 have e1:(w.alloc (.cells #[.string t.license,.string t.exception] 61)).cell? ⟨w.heap.size,1,none⟩=some (.string t.exception):=by simp
 have hz0:w.heap.size+1≤(w.alloc (.cells #[.string t.license,.string t.exception] 61)).heap.size:=by simp
 generalize w.alloc (.cells #[.string t.license,.string t.exception] 61)=w0 at *;have HBA:=zh hba;have E0:=zh e0;have E1:=zh e1;have HZ0:=zh hz0;clear hba e0 e1 hz0;go_loopw [5,6,7] (fun sv dv kv wr=>∃ (k:Nat) (out:List Term) (done:Bool),k≤N∧kv=.int .i64 k∧dv=.bool done∧Hid (Below w0.heap.size w0 wr)∧Hid (RowT w0.heap.size wr sv out)∧Hid (out.length≤k+done.toNat)∧Hid (rr=addS out done (xs.drop k) t)) (fun _ _ kv _=>N - (intOf kv).toNat)
 case atStart=>exact ⟨0,[],false,by omega,rfl,rfl,zh (Below.refl _ _),zh (rowT_nil _ _),Nat.zero_le _,HF⟩
 case round =>
  obtain ⟨k,out,done,hk,rfl,rfl,HB,HO,HL,HS⟩:=hrel;have f0:=kept HB.out E0.out;have f1:=kept HB.out E1.out;have hsf:=cell_lt f0;have hz1:w0.heap.size≤wr.heap.size:=HB.out.size;by_cases hki:k < N
  ·have hkz:(k:Int) < (N:Int):=by omega
   have hk0:(0:Int)≤(k:Int):=by omega
   obtain ⟨x,hx⟩:=get_lt (xs:=xs) (k:=k) (by rw [HN.out];exact hki);obtain ⟨b,off,rfl,hb,x0',x1',s0,s1⟩:=Term.at_row HR.out hx;have HBW:Hid (Below w.heap.size w wr):=HBA.out.trans (HB.out.mono HBA.out.size);have x0:=kept HBW.out x0';have x1:=kept HBW.out x1';have hsb:=cell_lt x0;have hq:=fun W=>eqlT x t W;have HD:Hid (rr=addS out done (x :: xs.drop (k+1)) t):=by show _=_;rw [HS.out,drop_at hx]
   have hbf:=fun W=>Before_ref W t x;have hln:out.length≤1000001:=by have:=HL.out;have:=Bool.toNat_le done;omega
   have X0:=zh x0';have X1:=zh x1';clear hx x0' x1' HS;cases done;case true =>
    have HT:Hid (rr=addS (out++[x]) true (xs.drop (k+1)) t):=by show _=_;rw [HD.out,addS_done]
    cases e9:decide (x=t);case true =>
     rw [e9] at hq;clear e9;go_wp2;go_quiet (fail)
     go_wp2;refine wp_region_quietC (C:=fun w'=>Below wr.heap.size wr w'∧w'.cell? ⟨w.heap.size,0,none⟩=some (.string t.license)∧w'.cell? ⟨w.heap.size,1,none⟩=some (.string t.exception)∧w'.cell? ⟨b,off+k * 2,none⟩=some (.string x.license)∧w'.cell? ⟨b,off+k * 2+1,none⟩=some (.string x.exception)) (by kernel_rfl) (by kernel_rfl) (by exact ⟨((Below.refl _ _).drewN _).drewN 1,f0,f1,x0,x1⟩) ?_
     repeat
      first
      | (refine quiet_no (by rfl) ?_;try simp only [tkS,Act.put])
      | (refine quiet_yes (v:=?_) (by rfl) ?_ ?_
         rotate_left
         ·exact zqrfm0
         try simp only [tkS,Act.put])
     refine wpQuiet_nil ?_;intro w5 hw';obtain ⟨hb5,f0,f1,x0,x1⟩:=hw';have HB5':Hid (Below w0.heap.size w0 w5):=HB.out.trans (hb5.mono hz1);have HO5:=zh (HO.out.below hb5);have hz5:w0.heap.size≤w5.heap.size:=HB5'.out.size;have hsb:=cell_lt x0;have hsg:=cell_lt f0;clear hb5 hbf hq;have hlb:out.length≤1000000000:=by first | omega | (simp only [List.length_append,List.length_cons,List.length_nil];omega)
     go_wp2_with (at_builtin;go_loud (refine app_term rfl _ _ rfl w0.heap.size _ out rfl HO5.out x ?cx1 s0 s1 hlb hz5 ?_))
     (try case cx1=>show Value.slice (some ⟨w5.heap.size,0,none⟩) 1 1=_;simp)
     intro v6 w6 ho6 hb6;exact zrrfm1
    case false =>
     rw [e9] at hq;clear e9;go_wp2;go_quiet (fail)
     go_wp2;refine wp_region_quietC (C:=fun w'=>Below wr.heap.size wr w'∧w'.cell? ⟨w.heap.size,0,none⟩=some (.string t.license)∧w'.cell? ⟨w.heap.size,1,none⟩=some (.string t.exception)∧w'.cell? ⟨b,off+k * 2,none⟩=some (.string x.license)∧w'.cell? ⟨b,off+k * 2+1,none⟩=some (.string x.exception)) (by kernel_rfl) (by kernel_rfl) (by exact ⟨((Below.refl _ _).drewN _).drewN 1,f0,f1,x0,x1⟩) ?_
     repeat
      first
      | (refine quiet_no (by rfl) ?_;try simp only [tkS,Act.put])
      | (refine quiet_yes (v:=?_) (by rfl) ?_ ?_
         rotate_left
         ·exact zqrfm0
         try simp only [tkS,Act.put])
     refine wpQuiet_nil ?_;intro w5 hw';obtain ⟨hb5,f0,f1,x0,x1⟩:=hw';have HB5':Hid (Below w0.heap.size w0 w5):=HB.out.trans (hb5.mono hz1);have HO5:=zh (HO.out.below hb5);have hz5:w0.heap.size≤w5.heap.size:=HB5'.out.size;have hsb:=cell_lt x0;have hsg:=cell_lt f0;clear hb5 hbf hq;have hlb:out.length≤1000000000:=by first | omega | (simp only [List.length_append,List.length_cons,List.length_nil];omega)
     go_wp2_with (at_builtin;go_loud (refine app_term rfl _ _ rfl w0.heap.size _ out rfl HO5.out x ?cx2 s0 s1 hlb hz5 ?_))
     (try case cx2=>show Value.slice (some ⟨w5.heap.size,0,none⟩) 1 1=_;simp)
     intro v6 w6 ho6 hb6;exact zrrfm1
   case false =>
    by_cases hxt:x=t
    ·have e9:decide (x=t)=true:=decide_eq_true hxt;have HT:Hid (rr=addS (out++[x]) true (xs.drop (k+1)) t):=by show _=_;rw [HD.out,hxt,addS_hit]
     rw [e9] at hq;clear e9 hxt;go_wp2;go_quiet (fail)
     go_wp2;refine wp_region_quietC (C:=fun w'=>Below wr.heap.size wr w'∧w'.cell? ⟨w.heap.size,0,none⟩=some (.string t.license)∧w'.cell? ⟨w.heap.size,1,none⟩=some (.string t.exception)∧w'.cell? ⟨b,off+k * 2,none⟩=some (.string x.license)∧w'.cell? ⟨b,off+k * 2+1,none⟩=some (.string x.exception)) (by kernel_rfl) (by kernel_rfl) (by exact ⟨((Below.refl _ _).drewN _).drewN 1,f0,f1,x0,x1⟩) ?_
     repeat
      first
      | (refine quiet_no (by rfl) ?_;try simp only [tkS,Act.put])
      | (refine quiet_yes (v:=?_) (by rfl) ?_ ?_
         rotate_left
         ·exact zqrfm0
         try simp only [tkS,Act.put])
     refine wpQuiet_nil ?_;intro w5 hw';obtain ⟨hb5,f0,f1,x0,x1⟩:=hw';have HB5':Hid (Below w0.heap.size w0 w5):=HB.out.trans (hb5.mono hz1);have HO5:=zh (HO.out.below hb5);have hz5:w0.heap.size≤w5.heap.size:=HB5'.out.size;have hsb:=cell_lt x0;have hsg:=cell_lt f0;clear hb5 hbf hq;have hlb:out.length≤1000000000:=by first | omega | (simp only [List.length_append,List.length_cons,List.length_nil];omega)
     go_wp2_with (at_builtin;go_loud (refine app_term rfl _ _ rfl w0.heap.size _ out rfl HO5.out x ?cx3 s0 s1 hlb hz5 ?_))
     (try case cx3=>show Value.slice (some ⟨w5.heap.size,0,none⟩) 1 1=_;simp)
     intro v6 w6 ho6 hb6;exact zrrfm1
    ·have e9:decide (x=t)=false:=decide_eq_false hxt;rw [e9] at hq;clear e9;cases q8:bef t x;case false =>
      have HT:Hid (rr=addS (out++[x]) false (xs.drop (k+1)) t):=by show _=_;rw [HD.out,addS_on hxt q8]
      rw [q8] at hbf;clear hxt q8;go_wp2;go_quiet (fail)
      go_wp2;refine wp_region_quietC (C:=fun w'=>Below wr.heap.size wr w'∧w'.cell? ⟨w.heap.size,0,none⟩=some (.string t.license)∧w'.cell? ⟨w.heap.size,1,none⟩=some (.string t.exception)∧w'.cell? ⟨b,off+k * 2,none⟩=some (.string x.license)∧w'.cell? ⟨b,off+k * 2+1,none⟩=some (.string x.exception)) (by kernel_rfl) (by kernel_rfl) (by exact ⟨((Below.refl _ _).drewN _).drewN 1,f0,f1,x0,x1⟩) ?_
      repeat
       first
       | (refine quiet_no (by rfl) ?_;try simp only [tkS,Act.put])
       | (refine quiet_yes (v:=?_) (by rfl) ?_ ?_
          rotate_left
          ·exact zqrfm0
          try simp only [tkS,Act.put])
      refine wpQuiet_nil ?_;intro w5 hw';obtain ⟨hb5,f0,f1,x0,x1⟩:=hw';have HB5':Hid (Below w0.heap.size w0 w5):=HB.out.trans (hb5.mono hz1);have HO5:=zh (HO.out.below hb5);have hz5:w0.heap.size≤w5.heap.size:=HB5'.out.size;have hsb:=cell_lt x0;have hsg:=cell_lt f0;clear hb5 hbf hq;have hlb:out.length≤1000000000:=by first | omega | (simp only [List.length_append,List.length_cons,List.length_nil];omega)
      go_wp2_with (at_builtin;go_loud (refine app_term rfl _ _ rfl w0.heap.size _ out rfl HO5.out x ?cx4 s0 s1 hlb hz5 ?_))
      (try case cx4=>show Value.slice (some ⟨w5.heap.size,0,none⟩) 1 1=_;simp)
      intro v6 w6 ho6 hb6;have HB6:Hid (Below w0.heap.size w0 w6):=HB5'.out.trans hb6;have HO6:=zh ho6;clear ho6 hb6 hlb;go_wp2;go_roundw
      case rel=>exact ⟨k+1,out++[x],false,by omega,by go_num,rfl,HB6,HO6,(by show _≤_;have h:=HL.out;simp only [List.length_append,List.length_cons,List.length_nil,Bool.toNat_true,Bool.toNat_false] at h ⊢;omega),HT⟩
      case measure=>exact zm
     case true =>
      have HT:Hid (rr=addS (out++[t,x]) true (xs.drop (k+1)) t):=by show _=_;rw [HD.out,addS_put hxt q8]
      rw [q8] at hbf;clear hxt q8;go_wp2;go_quiet (fail)
      go_wp2;refine wp_region_quietC (C:=fun w'=>Below wr.heap.size wr w'∧w'.cell? ⟨w.heap.size,0,none⟩=some (.string t.license)∧w'.cell? ⟨w.heap.size,1,none⟩=some (.string t.exception)∧w'.cell? ⟨b,off+k * 2,none⟩=some (.string x.license)∧w'.cell? ⟨b,off+k * 2+1,none⟩=some (.string x.exception)) (by kernel_rfl) (by kernel_rfl) (by exact ⟨((Below.refl _ _).drewN _).drewN 1,f0,f1,x0,x1⟩) ?_
      repeat
       first
       | (refine quiet_no (by rfl) ?_;try simp only [tkS,Act.put])
       | (refine quiet_yes (v:=?_) (by rfl) ?_ ?_
          rotate_left
          ·exact zqrfm0
          try simp only [tkS,Act.put])
      refine wpQuiet_nil ?_;intro w5 hw';obtain ⟨hb5,f0,f1,x0,x1⟩:=hw';have HB5':Hid (Below w0.heap.size w0 w5):=HB.out.trans (hb5.mono hz1);have HO5:=zh (HO.out.below hb5);have hz5:w0.heap.size≤w5.heap.size:=HB5'.out.size;have hsb:=cell_lt x0;have hsg:=cell_lt f0;clear hb5 hbf hq;have hlb:out.length≤1000000000:=by first | omega | (simp only [List.length_append,List.length_cons,List.length_nil];omega)
      go_wp2_with (at_builtin;go_loud (refine app_term rfl _ _ rfl w0.heap.size _ out rfl HO5.out t ?cx5 t0 t1 hlb hz5 ?_))
      (try case cx5=>show Value.slice (some ⟨w5.heap.size,0,none⟩) 1 1=_;simp)
      intro v7 w7 ho7 hb7;have HB7:Hid (Below w0.heap.size w0 w7):=HB5'.out.trans hb7;have HO7:=zh ho7;clear ho7 hb7 hlb;have z0:=kept (HBA.out.trans (HB7.out.mono HBA.out.size)) X0.out;have z1:=kept (HBA.out.trans (HB7.out.mono HBA.out.size)) X1.out;have hsz:=cell_lt z0;have hz7:w0.heap.size≤w7.heap.size:=HB7.out.size;have hlb:(out++[t]).length≤1000000000:=by first | omega | (simp only [List.length_append,List.length_cons,List.length_nil];omega)
      go_wp2_with (at_builtin;go_loud (refine app_term rfl _ _ rfl w0.heap.size _ (out++[t]) rfl HO7.out x ?cx6 s0 s1 hlb hz7 ?_))
      (try case cx6=>show Value.slice (some ⟨w7.heap.size,0,none⟩) 1 1=_;simp)
      intro v6 w6 ho6 hb6;have HB6:Hid (Below w0.heap.size w0 w6):=HB7.out.trans hb6;have HO6:=zh ho6;clear ho6 hb6 hlb;go_wp2;go_roundw
      case rel=>exact ⟨k+1,out++[t,x],true,by omega,by go_num,rfl,HB6,HO6,(by show _≤_;have h:=HL.out;simp only [List.length_append,List.length_cons,List.length_nil,Bool.toNat_true,Bool.toNat_false] at h ⊢;omega),HT⟩
      case measure=>exact zm
  ·have hkz:¬ (k:Int) < (N:Int):=by omega
   have HT:Hid (rr=if done then out else out++[t]):=by show _=_;rw [HS.out,List.drop_eq_nil_of_le (by rw [HN.out];omega),addS_end]
   have hln:out.length≤1000001:=by have:=HL.out;have:=Bool.toNat_le done;omega
   have HBW:Hid (Below w.heap.size w wr):=HBA.out.trans (HB.out.mono HBA.out.size);have hz00:w.heap.size≤w0.heap.size:=HBA.out.size;cases done;case true =>
    go_wp2;go_ret;exact ⟨_,rfl,by rw [HT.out];exact RowT.weaken HO.out hz00,HBW.out⟩
   case false =>
    have hlb:out.length≤1000000000:=by first | omega | (simp only [List.length_append,List.length_cons,List.length_nil];omega)
    go_wp2_with (at_builtin;go_loud (refine app_term rfl _ _ rfl w0.heap.size _ out rfl HO.out t ?cx7 t0 t1 hlb hz1 ?_))
    (try case cx7=>show Value.slice (some ⟨wr.heap.size,0,none⟩) 1 1=_;simp)
    intro v6 w6 ho6 hb6;have HB6:Hid (Below w0.heap.size w0 w6):=HB.out.trans hb6;have HO6:=zh ho6;clear ho6 hb6 hlb;go_wp2;go_ret;exact ⟨_,rfl,by rw [HT.out];exact RowT.weaken HO6.out hz00,HBA.out.trans (HB6.out.mono HBA.out.size)⟩
theorem addT_len (t:Term):∀ l:List Term,(addT l t).length≤l.length+1
 | []=>by simp [addT]
 | x :: r=>by
  unfold addT;split
  ·simp
  ·split
   ·simp
   ·have:=addT_len t r;simp;omega
theorem foldT_len:∀ (l acc:List Term),(l.foldl addT acc).length≤acc.length+l.length
 | [],acc=>by simp
 | x :: r,acc=>by
  have h1:=foldT_len r (addT acc x);have h2:=addT_len x acc;simp only [List.foldl_cons,List.length_cons];omega
theorem foldT_snoc {acc xs:List Term} {k:Nat} {x:Term} (hx:xs[k]?=some x):(xs.take (k+1)).foldl addT acc=addT ((xs.take k).foldl addT acc) x:=by
 rw [take_at hx,List.foldl_append];rfl
theorem join_ref (w:World) (v u:Value) (xs ys:List Term) (h:Is w v xs) (k:Is w u ys) (hl:xs.length≤400000) (hl2:ys.length≤400000) :
  Calls Tryz.prog 229 #[v,u] w fun e w'=>RoO w.heap.size (joinT xs ys) w e w':=by
 obtain ⟨a,c,rfl,hnc,hcm,hr⟩:=list_inv h;obtain ⟨b,d,rfl,hnd,hdm,hs⟩:=list_inv k;simp only [maxLen] at hcm hdm;have HR:=zh hr;have HS:=zh hs;have HF:Hid (joinT xs ys=ys.foldl addT (xs.foldl addT [])):=rfl;clear hr hs h k;generalize joinT xs ys=rr at *;generalize hN:xs.length=N at *;have HN:=zh hN;clear hN;generalize hM:ys.length=M at *;have HM:=zh hM;clear hM;go_enter Tryz.func229,Tryz.ntmps229;go_wp2;go_loopw [5,6] (fun sv kv wr=>∃ k:Nat,k≤N∧kv=.int .i64 k∧Hid (Below w.heap.size w wr)∧Hid (RowT w.heap.size wr sv ((xs.take k).foldl addT []))) (fun _ kv _=>N - (intOf kv).toNat)
 case atStart=>exact ⟨0,by omega,rfl,zh (Below.refl _ _),zh (rowT_nil _ _)⟩
 case round =>
  obtain ⟨k,hk,rfl,HB,HO⟩:=hrel;have hz1:w.heap.size≤wr.heap.size:=HB.out.size;by_cases hki:k < N
  ·have hkz:(k:Int) < (N:Int):=by omega
   have hk0:(0:Int)≤(k:Int):=by omega
   obtain ⟨x,hx⟩:=get_lt (xs:=xs) (k:=k) (by rw [HN.out];exact hki);obtain ⟨b1,off,rfl,hb,x0',x1',s0,s1⟩:=Term.at_row HR.out hx;have x0:=kept HB.out x0';have x1:=kept HB.out x1';have hsb:=cell_lt x0;have HX:=zh (foldT_snoc (acc:=[]) hx);have hln:((xs.take k).foldl addT []).length≤1000000:=by have:=foldT_len (xs.take k) [];rw [List.length_take] at this;simp at this;omega
   have hcall:=Add_ref wr _ _ x HO.out.is s0 s1 hln;obtain ⟨ao,co,rfl⟩:=HO.out.shape;clear hx x0' x1';generalize ((xs.take k).foldl addT []).length=L at *;go_wp2_with fail
   refine hcall.mono ?_;unfold RoO;rintro e w2 ⟨v2,rfl,ho2,hb2⟩;have HB2:Hid (Below w.heap.size w w2):=HB.out.trans (hb2.mono hz1);have HO2:Hid (RowT w.heap.size w2 v2 ((xs.take (k+1)).foldl addT [])):=by show RowT _ _ _ _;rw [HX.out];exact RowT.weaken ho2 hz1
   clear hcall ho2 hb2;go_wp2;go_roundw
   case rel=>exact ⟨k+1,by omega,by go_num,HB2,HO2⟩
   case measure=>exact zm
  ·have hkz:¬ (k:Int) < (N:Int):=by omega
   have e1:xs.take k=xs:=List.take_of_length_le (by rw [HN.out];omega);rw [e1] at HO;have HLX:Hid ((xs.foldl addT []).length≤N):=by show _≤_;have:=foldT_len xs [];rw [HN.out] at this;simpa using this
   clear e1;generalize xs.foldl addT []=acc at *;go_wp2;generalize wr=w1 at *;go_loopw [5,7] (fun sv kv wr=>∃ k:Nat,k≤M∧kv=.int .i64 k∧Hid (Below w.heap.size w wr)∧Hid (RowT w.heap.size wr sv ((ys.take k).foldl addT acc))) (fun _ kv _=>M - (intOf kv).toNat)
   case atStart=>exact ⟨0,by omega,rfl,HB,HO⟩
   case round =>
    clear HB HO hz1;obtain ⟨j,hj,rfl,HB,HO⟩:=hrel;have hz1:w.heap.size≤wr.heap.size:=HB.out.size;by_cases hji:j < M
    ·have hjz:(j:Int) < (M:Int):=by omega
     have hj0:(0:Int)≤(j:Int):=by omega
     obtain ⟨x,hx⟩:=get_lt (xs:=ys) (k:=j) (by rw [HM.out];exact hji);obtain ⟨b1,off,rfl,hb,x0',x1',s0,s1⟩:=Term.at_row HS.out hx;have x0:=kept HB.out x0';have x1:=kept HB.out x1';have hsb:=cell_lt x0;have HX:=zh (foldT_snoc (acc:=acc) hx);have hln:((ys.take j).foldl addT acc).length≤1000000:=by have:=foldT_len (ys.take j) acc;have h2:=HLX.out;rw [List.length_take] at this;omega
     have hcall:=Add_ref wr _ _ x HO.out.is s0 s1 hln;obtain ⟨ao,co,rfl⟩:=HO.out.shape;clear hx x0' x1';generalize ((ys.take j).foldl addT acc).length=L at *;go_wp2_with fail
     refine hcall.mono ?_;unfold RoO;rintro e w2 ⟨v2,rfl,ho2,hb2⟩;have HB2:Hid (Below w.heap.size w w2):=HB.out.trans (hb2.mono hz1);have HO2:Hid (RowT w.heap.size w2 v2 ((ys.take (j+1)).foldl addT acc)):=by show RowT _ _ _ _;rw [HX.out];exact RowT.weaken ho2 hz1
     clear hcall ho2 hb2;go_wp2;go_roundw
     case rel=>exact ⟨j+1,by omega,by go_num,HB2,HO2⟩
     case measure=>exact zm
    ·have hjz:¬ (j:Int) < (M:Int):=by omega
     have e1:ys.take j=ys:=List.take_of_length_le (by rw [HM.out];omega);rw [e1] at HO;go_wp2;go_ret;exact ⟨_,rfl,by rw [HF.out];exact HO.out,HB.out⟩
end Go.Proofs.YtcbopdbbcgdkcaaGreatDoor
namespace Go.Proofs.YtcbopdbbcgdkcaaGreatDoor
open Go

def insA {α:Type} (S:List α) (x:α) (k:Nat):List α:=S.take k++x :: S.drop k
section
variable {α:Type} {S:List α} {x y:α} {k:Nat}
theorem insA_end:insA S x S.length=S++[x]:=by simp [insA]
theorem insA_length (h:k≤S.length):(insA S x k).length=S.length+1:=by simp [insA];omega
theorem insA_at (h:k≤S.length):(insA S x k)[k]?=some x:=by
 unfold insA;rw [List.getElem?_append_right (by simp;omega)];simp [Nat.min_eq_left h]
theorem insA_before (h:k < S.length):(insA S x (k+1))[k]?=S[k]?:=by
 unfold insA;rw [List.getElem?_append_left (by simp;omega),List.getElem?_take,if_pos (by omega)]
theorem insA_swap (h:k < S.length) (hy:S[k]?=some y):((insA S x (k+1)).set (k+1) y).set k x=insA S x k:=by
 have hd:S.drop k=y :: S.drop (k+1):=by
  rw [List.drop_eq_getElem_cons h];rw [List.getElem?_eq_getElem h] at hy;rw [Option.some.inj hy]
 have ht:S.take (k+1)=S.take k++[y]:=by rw [List.take_add_one,hy];rfl
 unfold insA;rw [hd,ht];have hl:(S.take k).length=k:=by simp;omega
 rw [List.append_assoc,List.set_append_right _ _ (by omega),hl,show k+1 - k=1 by omega];show (S.take k++y :: y :: S.drop (k+1)).set k x=_;rw [List.set_append_right _ _ (by omega),hl,Nat.sub_self];rfl
theorem insA_perm (h:k≤S.length):(insA S x k).Perm (S++[x]):=by
 unfold insA;refine (List.perm_middle).trans ?_;rw [List.take_append_drop];exact (List.perm_append_singleton x S).symm
end
theorem ins_done {S xs:List (List Term)} {x:List Term} {k:Nat} (hk:k≤S.length) (h1:∀ y∈S.drop k,acmp x y < 0) (h2:∀ y,0 < k→S[k - 1]?=some y→¬ acmp x y < 0) (hp:S=sortS (ltC acmp) xs) :
  insA S x k=sortS (ltC acmp) (xs++[x]):=by
 have hs:S.Pairwise fun a b=>acmp a b≤0:=by rw [hp];exact sortS_le acmp_to xs
 refine sort_unique acmp_to ?_ ?_
 ·refine (insA_perm hk).trans ?_;rw [hp];exact (sortS_permA _ _).append_right _
 ·unfold insA;have h3:∀ a∈S.take k,acmp a x≤0:=by
   intro a ha;obtain ⟨i,hi,rfl⟩:=List.mem_iff_getElem.1 ha;have hik:i < k:=by simp at hi;omega
   have hz:=List.getElem?_eq_getElem (l:=S) (i:=k - 1) (by omega);have h4:=h2 _ (by omega) hz;have h5:=acmp_to.sw x S[k - 1];rw [List.getElem_take];by_cases e:i=k - 1
   ·subst e;omega
   ·have h6:=List.pairwise_iff_getElem.1 hs i (k - 1) (by omega) (by omega) (by omega);exact acmp_to.le_tr h6 (by omega)
  rw [List.pairwise_append,List.pairwise_cons];refine ⟨hs.sublist (List.take_sublist _ _),⟨fun y hy=>Int.le_of_lt (h1 y hy),hs.sublist (List.drop_sublist _ _)⟩,fun a ha b hb=>?_⟩;rcases List.mem_cons.1 hb with rfl | hb
  ·exact h3 a ha
  ·exact acmp_to.le_tr (h3 a ha) (Int.le_of_lt (h1 b hb))
theorem ins_next {S:List (List Term)} {x y:List Term} {k:Nat} (h1:∀ y∈S.drop (k+1),acmp x y < 0) (hy:S[k]?=some y) (h:acmp x y < 0):∀ y∈S.drop k,acmp x y < 0:=by
 intro z hz;have hk:k < S.length:=by
  rcases Nat.lt_or_ge k S.length with h | h
  ·exact h
  ·rw [List.getElem?_eq_none h] at hy;cases hy
 rw [List.drop_eq_getElem_cons hk] at hz;rw [List.getElem?_eq_getElem hk] at hy;rcases List.mem_cons.1 hz with rfl | hz
 ·rw [Option.some.inj hy];exact h
 ·exact h1 z hz
def keptR (all:List (List Term)) (i:Nat):List (List Term):=sortS (ltC acmp) (((List.range i).filter (keepR all)).map fun i=>all.getD i [])
theorem keptR_skip {all:List (List Term)} {i:Nat} (h:keepR all i=false):keptR all (i+1)=keptR all i:=by
 unfold keptR;rw [List.range_succ,List.filter_append];simp [h]
theorem keptR_list {all:List (List Term)} {i:Nat} (h:keepR all i=true):((List.range (i+1)).filter (keepR all)).map (fun i=>all.getD i [])=((List.range i).filter (keepR all)).map (fun i=>all.getD i [])++[all.getD i []]:=by
 rw [List.range_succ,List.filter_append];simp [h]
theorem keptR_length (all:List (List Term)) (i:Nat):(keptR all i).length≤i:=by
 unfold keptR;rw [(sortS_permA _ _).length_eq,List.length_map];have:=List.length_filter_le (keepR all) (List.range i);simpa using this
theorem keptR_all (l:List (List Term)):keptR (l.map normT) l.length=minimalP l:=by
 rw [← minimal_same l];unfold keptR minimalR;simp
open Go.RowKit Go.ChangeShapes Go.Sort Go.Lib

def condR (all:List (List Term)) (i k:Nat):Bool:=!(k == i) && conA (all.getD i []) (all.getD k []) && (decide ((all.getD k []).length < (all.getD i []).length) || decide (k < i))
theorem keepR_cond (all:List (List Term)) (i:Nat):keepR all i=!(List.range all.length).any (condR all i):=rfl
theorem range_any_succ (p:Nat→Bool) (k:Nat):(List.range (k+1)).any p=((List.range k).any p || p k):=by rw [List.range_succ,List.any_append];simp
theorem getD_get {α:Type} {l:List α} {d x:α} {i:Nat} (h:l[i]?=some x):l.getD i d=x:=by rw [List.getD_eq_getElem?_getD,h];rfl
theorem condR_at {all:List (List Term)} {i k:Nat} {x y:List Term} (hx:all[i]?=some x) (hy:all[k]?=some y):condR all i k=(!(k == i) && conA x y && (decide (y.length < x.length) || decide (k < i))):=by
 unfold condR;rw [getD_get hx,getD_get hy]
theorem OwnZ.put1 {B:Nat} {w:World} {g n c:Nat} {xs:List (List Term)} (h:OwnZ B 59 w (.slice (some ⟨g,0,none⟩) n c) xs) {i:Nat} (hi:i < xs.length) {u:Value} {x:List Term} (hs:∀ w',Agree 0 (Ez 59) w w'→Is w' u x) :
  OwnZ B 59 (w.setCell ⟨g,i,none⟩ u) (.slice (some ⟨g,0,none⟩) n c) (xs.set i x):=by
 have e1:w.setCell ⟨g,i,none⟩ u=w.setCells g (i * Lay.n (List Term)) [u]:=by rw [show i * Lay.n (List Term)=i from Nat.mul_one i];rfl
 have h1:∀ w',Agree 0 (Ez 59) w w'→Lay.is w' (fun q=>[u][q]?) x:=fun w' hA=>by
  obtain ⟨a,c,rfl,k1,k2,k3⟩:=list_inv (hs w' hA);exact ⟨a,c,rfl,k1,k2,k3⟩
 rw [e1];refine ⟨h.1.put Ez_alt hi rfl h1,((h.own (Nat.le_refl B)).put Ez_alt hi rfl (fun w' hA=>h1 w' (hA.lower (Nat.zero_le _)))).row⟩
theorem elemF {B:Nat} {w:World} {a:Option Addr} {n c:Nat} {xs:List (List Term)} (h:OwnZ B 59 w (.slice a n c) xs) {j:Nat} {x:List Term} (hx:xs[j]?=some x) :
  ∃ (g:Nat) (ax:Option Addr) (cx:Nat),a=some ⟨g,0,none⟩∧B≤g∧w.cell? ⟨g,j,none⟩=some (.slice ax x.length cx)∧w.frozen? ⟨g,j,none⟩=false∧∀ w',Agree 0 (Ez 59) w w'→Is w' (.slice ax x.length cx) x:=by
 obtain ⟨g0,-,hB⟩:∃ g,a=some ⟨g,0,none⟩∧B≤g:=by
  obtain ⟨g,y,he,-,hB,-⟩:=(h.own (Nat.le_refl B)).elem hx;exact ⟨g,he,hB⟩
 obtain ⟨g,y,rfl,-,-,-,hl,hc,hs,-⟩:=h.1.elem hx;obtain ⟨g',y',he,-,hB',-⟩:=(h.own (Nat.le_refl B)).elem hx;cases he;match y,hl with
 | [u],_ =>
  obtain ⟨ax,cx,k0,k1,k2,k3⟩:=hs w (Agree.refl _ _ _);simp at k0;subst k0;have hc0:=hc 0 _ rfl;simp only [Lay.n,Nat.mul_one,Nat.add_zero] at hc0;refine ⟨g,ax,cx,rfl,hB',hc0.1,hc0.2,fun w' hA=>?_⟩;obtain ⟨a',c',k0,k1,k2,k3⟩:=hs w' hA;simp at k0;obtain ⟨rfl,rfl⟩:=k0;exact list_mk k1 k2 k3
theorem zrrfm0 {p:Prop} (h:p:=by
 go_wp2;refine wp_region_quietC (C:=fun w'=>Below wr.heap.size wr w'∧w'.cell? ⟨g,i,none⟩=some (.slice ax LX cx)∧w'.cell? ⟨g,k,none⟩=some (.slice ay LY cy)) (by kernel_rfl) (by kernel_rfl) (by exact ⟨(Below.refl _ _).drewN _,c0,c1⟩) ?_;repeat (go_big_quiet_step ((intro hb5 c0 c1;(try go_simp);first | with_reducible rfl | (go_at_call 230;refine (hcall _ hb5).mono ?_;rintro e w'' ⟨rfl,hb6⟩;refine ⟨?_,hb5.trans (hb6.mono hb5.size),kept hb6 c0,kept hb6 c1⟩;with_reducible rfl))))
 refine wpQuiet_nil ?_;intro w5 hw';obtain ⟨hb5,c0,c1⟩:=hw';have HB6:Hid (Below w2.heap.size w2 w5):=HBk.out.trans (hb5.mono HBk.out.size);clear hb5 hcall;go_wp2;go_roundw
 case rel=>exact ⟨k+1,b,by omega,rfl,by go_num,HN2,HB6⟩
 case measure=>exact zm):p:=h
theorem Minimal_ref (w:World) (v:Value) (xs:List (List Term)) (h:Is w v xs) (hn:∀ x∈xs,x.length≤400000) (hl:xs.length≤1000000) :
  Calls Tryz.prog 182 #[v] w fun e w'=>MO w.heap.size (minimalP xs) w e w':=by
 obtain ⟨a,c,rfl,hnc,hcm,hr⟩:=list_inv h;simp only [maxLen] at hcm;have HR:=zh hr;have HNN:=zh hn;have HE:=zh (keptR_all xs);clear hr h hn;generalize hN:xs.length=N at *;have HN:=zh hN;clear hN;go_enter Tryz.func182,Tryz.ntmps182;go_wp2;go_loopw [3,4] (fun sv kv wr=>∃ k:Nat,k≤N∧kv=.int .i64 k∧Hid (Below w.heap.size w wr)∧Hid (OwnZ w.heap.size 59 wr sv ((xs.take k).map normT))) (fun _ kv _=>N - (intOf kv).toNat)
 case atStart=>exact ⟨0,by omega,rfl,zh (Below.refl _ _),zh (OwnZ.nil _ _ _)⟩
 case round =>
  obtain ⟨k,hk,rfl,HB,HO⟩:=hrel;by_cases hki:k < N
  ·have hkz:(k:Int) < (N:Int):=by omega
   have hk0:(0:Int)≤(k:Int):=by omega
   obtain ⟨x,hx⟩:=get_lt (xs:=xs) (k:=k) (by rw [HN.out];exact hki);obtain ⟨bx,ox,rfl,hbx,ax,cx,x0',hx1,hx2,hx3⟩:=list_at HR.out hx;have x0:=kept HB.out x0';have hsx:=cell_lt x0;have hxl:=HNN.out x (List.mem_of_getElem? hx);have hcall:=join_ref wr (.slice ax x.length cx) (.slice none 0 0) x [] (list_mk hx1 hx2 (hx3.mono HB.out)) (nil_mk wr) hxl (by decide);rw [joinT_norm,List.append_nil] at hcall;have HX:=zh hx;clear hx x0' hx3 hx1 hx2;go_wp2_with fail
   refine hcall.mono ?_;unfold RoO;rintro e w4 ⟨v4,rfl,ho4,hb4⟩;obtain ⟨a4,c4,rfl⟩:=ho4.shape;have HB4:=zh hb4;have HO4:=zh ho4;have HOB:=zh (HO.out.below HB4.out);have hz1:w.heap.size≤wr.heap.size:=HB.out.size;have hz2:wr.heap.size≤w4.heap.size:=HB4.out.size;clear hcall ho4 hb4 HO;go_wp2_with (at_builtin;go_loud (refine app_alt rfl _ _ rfl w.heap.size _ _ rfl HOB.out (normT x) ?cx ?c1 ?c2 ?c3 ?_))
   case cx=>show Value.slice (some ⟨w4.heap.size,0,none⟩) 1 1=_;simp
   case c1=>intro w'' hA;exact (rowT_agree (HO4.out.below bw) hA).is
   case c2=>rw [List.length_map,List.length_take];omega
   case c3=>omega
   intro v5 w5 ho5 hb5 hA5 hs5;have HB5:Hid (Below w.heap.size w w5):=(HB.out.trans (HB4.out.mono hz1)).trans hb5;have HO5:=zh ho5;clear ho5 hb5 hA5 HOB HO4;go_wp2;go_roundw
   case rel =>
    refine ⟨k+1,by omega,by go_num,HB5,?_⟩;show OwnZ _ _ _ _ _;rw [take_at HX.out,List.map_append,List.map_take];exact HO5.out
   case measure=>exact zm
  ·have hkz:¬ (k:Int) < (N:Int):=by omega
   have HA:Hid (OwnZ w.heap.size 59 wr u3 (xs.map normT)):=by
    have:=HO.out;rw [List.take_of_length_le (by rw [HN.out];omega)] at this;exact this
   have HLen:Hid ((xs.map normT).length=N):=by show _=_;rw [List.length_map,HN.out]
   have HE2:=HE;obtain ⟨a3,c3,he3,hc3,hm3,-⟩:=list_inv HA.out.is;simp only [maxLen] at hm3;rw [HLen.out] at he3 hc3;subst he3;clear HO HE HNN HR HN;generalize xs.map normT=al at *;go_wp2;generalize wr=w1 at *;go_loopw [5,6] (fun sv kv wr=>∃ i:Nat,i≤N∧kv=.int .i64 i∧Hid (Below w1.heap.size w1 wr)∧Hid (OwnZ w1.heap.size 59 wr sv (keptR al i))) (fun _ kv _=>N - (intOf kv).toNat)
   case atStart=>exact ⟨0,by omega,rfl,zh (Below.refl _ _),zh (OwnZ.nil _ _ _)⟩
   case round =>
    obtain ⟨i,hi,rfl,HBi,HOi⟩:=hrel;have hz1:w1.heap.size≤wr.heap.size:=HBi.out.size;by_cases hii:i < N
    case neg =>
     have hiz:¬ (i:Int) < (N:Int):=by omega
     have hiN:i=N:=by omega
     have HF:Hid (OwnZ w1.heap.size 59 wr u5 (minimalP xs)):=by have:=HOi.out;rw [hiN,HE2.out] at this;exact this
     have hz0:w.heap.size≤w1.heap.size:=HB.out.size;go_wp2;go_ret;exact ⟨u5,rfl,HF.out.weaken hz0,HB.out.trans (HBi.out.mono hz0)⟩
    have hiz:(i:Int) < (N:Int):=by omega
    have hi0:(0:Int)≤(i:Int):=by omega
    obtain ⟨x,hx⟩:=get_lt (xs:=al) (k:=i) (by rw [HLen.out];exact hii);obtain ⟨g,ax,cx,rfl,-,hcx,-,hdx⟩:=elemF HA.out hx;have HCX:=zh hcx;have HDX:=zh hdx;have HX:=zh hx;clear hcx hdx hx;go_wp2;generalize wr=w2 at *;go_loopw [7,8] (fun bv kv wr=>∃ (k:Nat) (b:Bool),k≤N∧bv=.bool b∧kv=.int .i64 k∧Hid (b=!(List.range k).any (condR al i))∧Hid (Below w2.heap.size w2 wr)) (fun _ kv _=>N - (intOf kv).toNat)
    case atStart=>exact ⟨0,true,by omega,rfl,rfl,rfl,zh (Below.refl _ _)⟩
    case round =>
     obtain ⟨k,b,hk,rfl,rfl,HK,HBk⟩:=hrel;have HBk1:Hid (Below w1.heap.size w1 wr):=HBi.out.trans (HBk.out.mono hz1);by_cases hki:k < N
     ·have hkz:(k:Int) < (N:Int):=by omega
      have hk0:(0:Int)≤(k:Int):=by omega
      obtain ⟨y,hy⟩:=get_lt (xs:=al) (k:=k) (by rw [HLen.out];exact hki);obtain ⟨g',ay,cy,he,-,hcy,-,hdy⟩:=elemF HA.out hy;cases he;have c0:=kept HBk1.out HCX.out;have c1:=kept HBk1.out hcy;have hsg:=cell_lt c0;have hcall:=fun W (hb:Below wr.heap.size wr W)=>Contains_ref W (.slice ax x.length cx) (.slice ay y.length cy) x y (HDX.out W (Agree.of_below (HBk1.out.trans (hb.mono HBk1.out.size)))) (hdy W (Agree.of_below (HBk1.out.trans (hb.mono HBk1.out.size))));have HC:=zh (condR_at HX.out hy);have HS:=zh (range_any_succ (condR al i) k);have hlx:x.length≤9223372036854775807∧y.length≤9223372036854775807:=by
       obtain ⟨_,_,he,h1,h2,-⟩:=list_inv (HDX.out w1 (Agree.refl _ _ _));obtain ⟨_,_,he',h1',h2',-⟩:=list_inv (hdy w1 (Agree.refl _ _ _));cases he;cases he';simp only [maxLen] at h2 h2';omega
      obtain ⟨hlx,hly⟩:=hlx;clear hy hcy hdy;generalize conA x y=bb at *;generalize x.length=LX at *;generalize y.length=LY at *;by_cases hke:k=i
      ·have qe:((k:Int) != (i:Int))=false:=by simp [hke]
       have qn:(k == i)=true:=by simp [hke]
       clear hke;have HN2:Hid (b=!(List.range (k+1)).any (condR al i)):=by show _=_;rw [HS.out,HC.out,HK.out];simp [qn]
       exact zrrfm0
      have qe:((k:Int) != (i:Int))=true:=by simp;omega
      have qn:(k == i)=false:=by simp;exact hke
      cases bb;case false =>
       clear hke;have HN2:Hid (b=!(List.range (k+1)).any (condR al i)):=by show _=_;rw [HS.out,HC.out,HK.out];simp
       exact zrrfm0
      case true =>
       by_cases hlt:(LY:Int) < (LX:Int)
       ·have hltn:LY < LX:=by omega

        have HN2:Hid (false=!(List.range (k+1)).any (condR al i)):=by show _=_;rw [HS.out,HC.out];simp [qn,hltn]
        go_wp2;refine wp_region_quietC (C:=fun w'=>Below wr.heap.size wr w'∧w'.cell? ⟨g,i,none⟩=some (.slice ax LX cx)∧w'.cell? ⟨g,k,none⟩=some (.slice ay LY cy)) (by kernel_rfl) (by kernel_rfl) (by exact ⟨(Below.refl _ _).drewN _,c0,c1⟩) ?_;repeat (go_big_quiet_step ((intro hb5 c0 c1;(try go_simp);first | with_reducible rfl | (go_at_call 230;refine (hcall _ hb5).mono ?_;rintro e w'' ⟨rfl,hb6⟩;refine ⟨?_,hb5.trans (hb6.mono hb5.size),kept hb6 c0,kept hb6 c1⟩;with_reducible rfl))))
        refine wpQuiet_nil ?_;intro w5 hw';obtain ⟨hb5,c0,c1⟩:=hw';have HB6:Hid (Below w2.heap.size w2 w5):=HBk.out.trans (hb5.mono HBk.out.size);clear hb5 hcall;go_wp2;go_roundw
        case rel=>exact ⟨k+1,false,by omega,rfl,by go_num,HN2,HB6⟩
        case measure=>exact zm
       ·have hltn:¬ LY < LX:=by omega
        by_cases hk2:(k:Int) < (i:Int)
        ·have hk3:k < i:=by omega

         have HN2:Hid (false=!(List.range (k+1)).any (condR al i)):=by show _=_;rw [HS.out,HC.out];simp [qn,hltn,hk3]
         go_wp2;refine wp_region_quietC (C:=fun w'=>Below wr.heap.size wr w'∧w'.cell? ⟨g,i,none⟩=some (.slice ax LX cx)∧w'.cell? ⟨g,k,none⟩=some (.slice ay LY cy)) (by kernel_rfl) (by kernel_rfl) (by exact ⟨(Below.refl _ _).drewN _,c0,c1⟩) ?_;repeat (go_big_quiet_step ((intro hb5 c0 c1;(try go_simp);first | with_reducible rfl | (go_at_call 230;refine (hcall _ hb5).mono ?_;rintro e w'' ⟨rfl,hb6⟩;refine ⟨?_,hb5.trans (hb6.mono hb5.size),kept hb6 c0,kept hb6 c1⟩;with_reducible rfl))))
         refine wpQuiet_nil ?_;intro w5 hw';obtain ⟨hb5,c0,c1⟩:=hw';have HB6:Hid (Below w2.heap.size w2 w5):=HBk.out.trans (hb5.mono HBk.out.size);clear hb5 hcall;go_wp2;go_roundw
         case rel=>exact ⟨k+1,false,by omega,rfl,by go_num,HN2,HB6⟩
         case measure=>exact zm
        ·have hk3:¬ k < i:=by omega

         have HN2:Hid (b=!(List.range (k+1)).any (condR al i)):=by show _=_;rw [HS.out,HC.out,HK.out];simp [qn,hltn,hk3]
         go_wp2;refine wp_region_quietC (C:=fun w'=>Below wr.heap.size wr w'∧w'.cell? ⟨g,i,none⟩=some (.slice ax LX cx)∧w'.cell? ⟨g,k,none⟩=some (.slice ay LY cy)) (by kernel_rfl) (by kernel_rfl) (by exact ⟨(Below.refl _ _).drewN _,c0,c1⟩) ?_;repeat (go_big_quiet_step ((intro hb5 c0 c1;(try go_simp);first | with_reducible rfl | (go_at_call 230;refine (hcall _ hb5).mono ?_;rintro e w'' ⟨rfl,hb6⟩;refine ⟨?_,hb5.trans (hb6.mono hb5.size),kept hb6 c0,kept hb6 c1⟩;with_reducible rfl))))
         refine wpQuiet_nil ?_;intro w5 hw';obtain ⟨hb5,c0,c1⟩:=hw';have HB6:Hid (Below w2.heap.size w2 w5):=HBk.out.trans (hb5.mono HBk.out.size);clear hb5 hcall;go_wp2;go_roundw
         case rel=>exact ⟨k+1,b,by omega,rfl,by go_num,HN2,HB6⟩
         case measure=>exact zm
     ·have hkz:¬ (k:Int) < (N:Int):=by omega
      have HKK:Hid (b=keepR al i):=by
       show _=_;have e:k=N:=by omega
       rw [keepR_cond,HLen.out,← e];exact HK.out
      clear HK;cases b;case false =>
       have HO3:Hid (OwnZ w1.heap.size 59 wr u5 (keptR al (i+1))):=by show OwnZ _ _ _ _ _;rw [keptR_skip HKK.out.symm];exact HOi.out.below HBk.out
       go_wp2;go_roundw
       case rel=>exact ⟨i+1,by omega,by go_num,HBk1,HO3⟩
       case measure=>exact zm
      case true =>
       have HO3:Hid (OwnZ w1.heap.size 59 wr u5 (keptR al i)):=zh (HOi.out.below HBk.out);have hz3:w1.heap.size≤wr.heap.size:=HBk1.out.size;have c0:=kept HBk1.out HCX.out;have hsg:=cell_lt c0;have hml:(keptR al i).length≤1000000:=by have:=keptR_length al i;omega
       have HKL:=zh (keptR_list HKK.out.symm);clear HKK HOi;go_wp2_with (at_builtin;go_loud (refine app_alt rfl _ _ rfl w1.heap.size _ _ rfl HO3.out x ?dx ?d1 ?d2 ?d3 ?_))
       (try case dx=>show Value.slice (some ⟨wr.heap.size,0,none⟩) 1 1=_;simp)
       case d1=>intro w'' hA;exact HDX.out w'' (((Agree.of_below HBk1.out).trans (Agree.of_below bw)).trans hA)
       (try case d2=>omega)
       (try case d3=>omega)
       intro v5 w5 ho5 hb5 hA5 hs5;have HB5:Hid (Below w1.heap.size w1 w5):=HBk1.out.trans hb5;have hS:keptR al i=sortS (ltC acmp) (((List.range i).filter (keepR al)).map fun i=>al.getD i []):=rfl;obtain ⟨S,hSS⟩:∃ S,S=keptR al i:=⟨_,rfl⟩
       rw [← hSS] at ho5 hml;have HDONE:Hid (∀ k,k≤S.length→(∀ y∈S.drop k,acmp x y < 0)→(∀ y,0 < k→S[k - 1]?=some y→¬ acmp x y < 0)→insA S x k=keptR al (i+1)):=by
        show ∀ k,_;intro k h1 h2 h3;have h4:=ins_done h1 h2 h3 (hSS.trans hS);rw [h4];show _=sortS _ _;rw [HKL.out,getD_get HX.out]
       have HO5:Hid (OwnZ w1.heap.size 59 w5 v5 (insA S x S.length)):=by show OwnZ _ _ _ _ _;rw [insA_end];exact ho5
       obtain ⟨a5,c5,he5,h51,h52,-⟩:=list_inv HO5.out.is;simp only [maxLen] at h52;rw [insA_length (Nat.le_refl _)] at he5 h51;subst he5;clear ho5 hb5 hA5 HO3 hSS hS HKL c0 hsg;generalize hm:S.length=m at *;have HM:=zh hm;clear hm;go_wp2;go_loopw [9] (fun kv wr=>∃ k:Nat,k≤m∧kv=.int .i64 k∧Hid (Below w1.heap.size w1 wr)∧Hid (OwnZ w1.heap.size 59 wr (.slice a5 (m+1) c5) (insA S x k))∧Hid (∀ y∈S.drop k,acmp x y < 0)) (fun kv _=>(intOf kv).toNat)
       case atStart=>exact ⟨m,Nat.le_refl _,by go_num,HB5,HO5,by show ∀ y∈_,_;intro y hy;rw [List.drop_eq_nil_of_le (by rw [HM.out];exact Nat.le_refl _)] at hy;simp at hy⟩
       case round =>
        clear HO5 HB5;obtain ⟨k,hk,rfl,HB5,HO5,HGT⟩:=hrel;have hz5:w1.heap.size≤wr.heap.size:=HB5.out.size;cases k with
        | zero =>
         have HF:Hid (OwnZ w1.heap.size 59 wr (.slice a5 (m+1) c5) (keptR al (i+1))):=by
          show OwnZ _ _ _ _ _;rw [← HDONE.out 0 (Nat.zero_le _) HGT.out (fun y h=>absurd h (by decide))];exact HO5.out
         go_wp2;go_quiet (fail)
         go_wp2;go_roundw
         case rel=>exact ⟨i+1,by omega,by go_num,zh (HB5.out.drewN _),zh (HF.out.below ((Below.refl _ _).drewN _))⟩
         case measure=>exact zm
        | succ k =>
         have hkm:k < S.length:=by rw [HM.out];omega
         obtain ⟨y,hy⟩:=get_lt hkm;have hkx:=insA_at (S:=S) (x:=x) (k:=k+1) (by omega);have hky:=insA_before (S:=S) (x:=x) (k:=k) hkm;rw [hy] at hky;obtain ⟨g5,bx,dx,rfl,hg5,c0,fz0,hdx5⟩:=elemF HO5.out hkx;obtain ⟨g6,by',dy,he,-,c1,fz1,hdy5⟩:=elemF HO5.out hky;cases he;have HC0:=zh c0;have HC1:=zh c1;have hsg:=cell_lt c0;have hcall:=fun W (hb:Below wr.heap.size wr W)=>Compare_ref W (.slice bx x.length dx) (.slice by' y.length dy) x y (hdx5 W (Agree.of_below hb)) (hdy5 W (Agree.of_below hb));have HY:=zh hy;have hk1:((k+1:Nat):Int)=(k:Int)+1:=by omega
         have hkp:(0:Int) < (k:Int)+1:=by omega
         have hkq:(k:Int)+1 < (m:Int)+1:=by omega
         have hkr:(k:Int) < (m:Int)+1:=by omega
         have hks:(0:Int)≤(k:Int):=by omega
         rw [hk1];obtain ⟨r,hr⟩:∃ r,r=acmp x y:=⟨_,rfl⟩
         have HRR:=zh hr;rw [← hr] at hcall;have HSW:Hid (∀ W,OwnZ w1.heap.size 59 W (.slice (some ⟨g5,0,none⟩) (m+1) c5) (insA S x (k+1))→Agree 0 (Ez 59) wr W→OwnZ w1.heap.size 59 ((W.setCell ⟨g5,k+1,none⟩ (.slice by' y.length dy)).setCell ⟨g5,k,none⟩ (.slice bx x.length dx)) (.slice (some ⟨g5,0,none⟩) (m+1) c5) (insA S x k)):=by
          show ∀ W,_;intro W hW hAW;have p1:=OwnZ.put1 hW (i:=k+1) (by rw [insA_length (by omega)];omega) (u:=.slice by' y.length dy) (x:=y) (fun w' hA=>hdy5 w' (hAW.trans hA));have hAg:Agree 0 (Ez 59) W (W.setCell ⟨g5,k+1,none⟩ (.slice by' y.length dy)):=by
           obtain ⟨g7,y7,he7,-,-,-,-,-,-,cur,hcur⟩:=hW.1.elem hkx;cases he7;exact (agree_setCells (o:=k+1) (y:=[Value.slice by' y.length dy]) (Nat.zero_le _) hcur).mono fun _ h=>h ▸ Ez_alt
          have p2:=OwnZ.put1 p1 (i:=k) (by rw [List.length_set,insA_length (by omega)];omega) (u:=.slice bx x.length dx) (x:=x) (fun w' hA=>hdx5 w' ((hAW.trans hAg).trans hA));rw [insA_swap hkm HY.out] at p2;exact p2
         clear hy hkx hky hdx5 hdy5 hr;by_cases q:r < 0
         ·have HGN:Hid (∀ y∈S.drop k,acmp x y < 0):=ins_next HGT.out HY.out (by rw [← HRR.out];exact q);go_wp2;refine wp_region_quietC (C:=fun w'=>Below wr.heap.size wr w'∧w'.cell? ⟨g5,k+1,none⟩=some (.slice bx x.length dx)∧w'.cell? ⟨g5,k,none⟩=some (.slice by' y.length dy)) (by kernel_rfl) (by kernel_rfl) (by exact ⟨(Below.refl _ _).drewN _,c0,c1⟩) ?_;repeat (go_big_quiet_step ((intro hb6 c0 c1;(try go_simp);first | with_reducible rfl | (go_at_call 231;refine (hcall _ hb6).mono ?_;rintro e w'' ⟨rfl,hb7⟩;refine ⟨?_,hb6.trans (hb7.mono hb6.size),kept hb7 c0,kept hb7 c1⟩;with_reducible rfl))))
          refine wpQuiet_nil ?_;intro w6 hw';obtain ⟨hb6,c0,c1⟩:=hw';have HB6:=zh hb6;clear hb6 hcall;have HO6:=zh (HO5.out.below HB6.out);have HB7:Hid (Below w1.heap.size w1 w6):=HB5.out.trans (HB6.out.mono hz5);have hsw:=HSW.out w6.drew (HO6.out.below (Below.refl _ _).drew) ((Agree.of_below HB6.out).trans (Agree.of_below (Below.refl _ _).drew));have hbs:Below w1.heap.size w6.drew ((w6.drew.setCell ⟨g5,k+1,none⟩ (.slice by' y.length dy)).setCell ⟨g5,k,none⟩ (.slice bx x.length dx)):=((Below.refl _ _).setCell hg5 _).setCell hg5 _;have HB8:Hid (Below w1.heap.size w1 ((w6.drew.setCell ⟨g5,k+1,none⟩ (.slice by' y.length dy)).setCell ⟨g5,k,none⟩ (.slice bx x.length dx))):=(HB7.out.drew).trans hbs;have HO8:=zh hsw;have fz0':=keptF HB6.out HC0.out fz0;have fz1':=keptF HB6.out HC1.out fz1;have mixed:Tryz.prog.follows .mixedOrders=true:=by kernel_rfl
          clear hsw hbs HSW HO5 HO6 HB6 HB5 fz0 fz1;go_wp2;go_big_region_o
          go_wp2;go_roundw
          case rel=>exact ⟨k,by omega,by go_num,HB8,HO8,HGN⟩
          case measure=>simp [intOf]
         ·have HF:Hid (OwnZ w1.heap.size 59 wr (.slice (some ⟨g5,0,none⟩) (m+1) c5) (keptR al (i+1))):=by
           show OwnZ _ _ _ _ _;rw [← HDONE.out (k+1) (by omega) HGT.out (fun z _ hz=>by rw [Nat.add_sub_cancel,HY.out] at hz;cases hz;have:=HRR.out;omega)];exact HO5.out
          go_wp2;refine wp_region_quietC (C:=fun w'=>Below wr.heap.size wr w'∧w'.cell? ⟨g5,k+1,none⟩=some (.slice bx x.length dx)∧w'.cell? ⟨g5,k,none⟩=some (.slice by' y.length dy)) (by kernel_rfl) (by kernel_rfl) (by exact ⟨(Below.refl _ _).drewN _,c0,c1⟩) ?_;repeat (go_big_quiet_step ((intro hb6 c0 c1;(try go_simp);first | with_reducible rfl | (go_at_call 231;refine (hcall _ hb6).mono ?_;rintro e w'' ⟨rfl,hb7⟩;refine ⟨?_,hb6.trans (hb7.mono hb6.size),kept hb7 c0,kept hb7 c1⟩;with_reducible rfl))))
          refine wpQuiet_nil ?_;intro w6 hw';obtain ⟨hb6,c0,c1⟩:=hw';have HB6:=zh hb6;clear hb6 hcall;go_wp2;go_roundw
          case rel=>exact ⟨i+1,by omega,by go_num,zh (HB5.out.trans (HB6.out.mono hz5)),zh (HF.out.below HB6.out)⟩
          case measure=>exact zm

theorem RowF.nil (B:Nat) (w0 w:World):RowF B w0 w (.slice none 0 0) []:=⟨[],rfl,⟨by simp,.inl ⟨rfl,rfl⟩⟩,fun i u x h _=>by simp at h⟩
theorem either_ref (w:World) (v u:Value) (xs ys:List (List Term)) (h:Is w v xs) (k:Is w u ys) (hn:∀ x∈xs,x.length≤400000) (hn2:∀ x∈ys,x.length≤400000) (hl:xs.length+ys.length≤1000000) :
  Calls Tryz.prog 183 #[v,u] w fun e w'=>MO w.heap.size (minimalP (xs++ys)) w e w':=by
 have HI:=zh h;have HJ:=zh k;have HN:Hid (∀ x∈xs++ys,x.length≤400000):=by
  show ∀ x∈_,_;intro x hx;rcases List.mem_append.1 hx with hx | hx
  ·exact hn x hx
  ·exact hn2 x hx
 obtain ⟨a,c,rfl,hnc,hcm,-⟩:=list_inv h;obtain ⟨b,d,rfl,hnd,hdm,-⟩:=list_inv k;simp only [maxLen] at hcm hdm;clear h k hn hn2;have HX:=zh (rfl:xs.length=xs.length);generalize hN1:xs.length=N at *;generalize hM1:ys.length=M at *;have HLX:Hid (xs.length=N):=hN1;have HLY:Hid (ys.length=M):=hM1;clear hN1 hM1 HX;have HE0:=zh (RowF.nil w.heap.size w w);have e1:([]:List (List Term)).length+xs.length≤1000000000:=by have:=HLX.out;rw [List.length_nil];omega
 have e2:(([]:List (List Term))++xs).length+ys.length≤1000000000:=by have h1:=HLX.out;have h2:=HLY.out;rw [List.nil_append];omega
 have E1:=zh e1;have E2:=zh e2;clear e1 e2;go_enter Tryz.func183,Tryz.ntmps183;go_wp2_with (at_builtin;go_loud (refine app_alts rfl _ _ rfl w.heap.size _ _ [] xs rfl rfl HE0.out HI.out (Below.refl _ _) E1.out (Nat.le_refl _) ?_))
 intro v1 w1 ho1 hb1;have HO1:=zh ho1;have HB1:=zh hb1;have hz1:w.heap.size≤w1.heap.size:=hb1.size;clear ho1 hb1 HE0;go_wp2_with (at_builtin;go_loud (refine app_alts rfl _ _ rfl w.heap.size _ _ _ ys rfl rfl HO1.out HJ.out HB1.out E2.out hz1 ?_))
 intro v2 w2 ho2 hb2;have HB2:Hid (Below w.heap.size w w2):=HB1.out.trans hb2;have HO2:Hid (Is w2 v2 (xs++ys)):=zh (ho2.is HB2.out);clear ho2 hb2 HO1;have hcall:=Minimal_ref w2 v2 (xs++ys) HO2.out HN.out (by rw [List.length_append,HLX.out,HLY.out];exact hl);obtain ⟨a2,c2,rfl,-⟩:=list_inv HO2.out;generalize (xs++ys).length=L2 at *;go_wp2_with fail
 refine hcall.mono ?_;unfold MO;rintro e w3 ⟨v3,rfl,ho3,hb3⟩;have HO3:=zh ho3;have HB3:Hid (Below w.heap.size w w3):=HB2.out.trans (hb3.mono HB2.out.size);have hz2:w.heap.size≤w2.heap.size:=HB2.out.size;clear ho3 hb3 hcall;go_wp2;go_ret;exact ⟨v3,rfl,HO3.out.weaken hz2,HB3.out⟩
theorem pairs_snoc (a b:List (List Term)) {i:Nat} {x:List Term} (hx:a[i]?=some x):pairsA (a.take (i+1)) b=pairsA (a.take i) b++b.map (x++·):=by
 unfold pairsA;rw [take_at hx,List.flatMap_append];simp
theorem pairs_norm (l:List (List Term)):minimalP (l.map normT)=minimalP l:=min_unique (minimal_min _) (minimal_min _) fun ts=>by rw [minimal_sat,minimal_sat,satP_norm]
theorem normT_len (a:List Term):(normT a).length≤a.length:=by
 unfold normT;refine Nat.le_trans (compact_len _) ?_;rw [(sortS_permA _ _).length_eq];exact Nat.le_refl _
theorem zrrfm2 {p:Prop} (h:p:=by
 have h2:ys.length≤1000:=by have:=HM.out;omega
 exact Nat.le_trans (Nat.mul_le_mul h1 h2) (by decide)):p:=h
theorem both_ref (w:World) (v u:Value) (xs ys:List (List Term)) (h:Is w v xs) (k:Is w u ys) (hn:∀ x∈xs,x.length≤200000) (hn2:∀ x∈ys,x.length≤200000) (hl:xs.length≤1000) (hl2:ys.length≤1000) :
  Calls Tryz.prog 184 #[v,u] w fun e w'=>MO w.heap.size (minimalP (pairsA xs ys)) w e w':=by
 obtain ⟨a,c,rfl,hnc,hcm,hr⟩:=list_inv h;obtain ⟨b,d,rfl,hnd,hdm,hs⟩:=list_inv k;simp only [maxLen] at hcm hdm;have HR:=zh hr;have HS:=zh hs;have HNX:=zh hn;have HNY:=zh hn2;clear h k hn hn2 hr hs;generalize hN:xs.length=N at *;generalize hM:ys.length=M at *;have HN:=zh hN;have HM:=zh hM;clear hN hM;go_enter Tryz.func184,Tryz.ntmps184;go_wp2;go_loopw [5,6] (fun sv kv wr=>∃ i:Nat,i≤N∧kv=.int .i64 i∧Hid (Below w.heap.size w wr)∧Hid (OwnZ w.heap.size 59 wr sv ((pairsA (xs.take i) ys).map normT))) (fun _ kv _=>N - (intOf kv).toNat)
 case atStart=>exact ⟨0,by omega,rfl,zh (Below.refl _ _),zh (OwnZ.nil _ _ _)⟩
 case round =>
  obtain ⟨i,hi,rfl,HB,HO⟩:=hrel;have hz1:w.heap.size≤wr.heap.size:=HB.out.size;by_cases hki:i < N
  ·have hkz:(i:Int) < (N:Int):=by omega
   have hk0:(0:Int)≤(i:Int):=by omega
   obtain ⟨x,hx⟩:=get_lt (xs:=xs) (k:=i) (by rw [HN.out];exact hki);have HP:=zh (pairs_snoc xs ys hx);obtain ⟨bx,ox,rfl,hbx,ax,cx,x0',hx1,hx2,hx3⟩:=list_at HR.out hx;have HX0:=zh x0';have HX3:=zh (fun W (hb:Below w.heap.size w W)=>list_mk hx1 hx2 (hx3.mono hb));have hxl:=HNX.out x (List.mem_of_getElem? hx);have hpl:(pairsA (xs.take i) ys).length≤1000000:=by
    rw [pairs_count];have h1:(xs.take i).length≤1000:=by rw [List.length_take];have:=HN.out;omega
    exact zrrfm2
   clear hx hx1 hx2 hx3;go_wp2;go_loopw [5,7] (fun sv kv wr=>∃ j:Nat,j≤M∧kv=.int .i64 j∧Hid (Below w.heap.size w wr)∧Hid (OwnZ w.heap.size 59 wr sv ((pairsA (xs.take i) ys).map normT++((ys.take j).map (x++·)).map normT))) (fun _ kv _=>M - (intOf kv).toNat)
   case atStart=>exact ⟨0,by omega,rfl,HB,by show OwnZ _ _ _ _ _;simp;exact HO.out⟩
   case round =>
    clear HB HO hz1;obtain ⟨j,hj,rfl,HB,HO⟩:=hrel;have hz1:w.heap.size≤wr.heap.size:=HB.out.size;by_cases hji:j < M
    ·have hjz:(j:Int) < (M:Int):=by omega
     have hj0:(0:Int)≤(j:Int):=by omega
     obtain ⟨y,hy⟩:=get_lt (xs:=ys) (k:=j) (by rw [HM.out];exact hji);obtain ⟨by',oy,rfl,hby,ay,cy,y0',hy1,hy2,hy3⟩:=list_at HS.out hy;have x0:=kept HB.out HX0.out;have y0:=kept HB.out y0';have hsx:=cell_lt x0;have hsy:=cell_lt y0;have hyl:=HNY.out y (List.mem_of_getElem? hy);have hcall:=fun W (hb:Below wr.heap.size wr W)=>join_ref W (.slice ax x.length cx) (.slice ay y.length cy) x y (HX3.out W (HB.out.trans (hb.mono hz1))) (list_mk hy1 hy2 (hy3.mono (HB.out.trans (hb.mono hz1)))) (by omega) (by omega);have HY:=zh hy;have hln:((pairsA (xs.take i) ys).map normT++((ys.take j).map (x++·)).map normT).length≤1000000000:=by
      rw [List.length_append,List.length_map,List.length_map,List.length_map,List.length_take];omega
     have HJ:=zh (joinT_norm x y);generalize joinT x y=jt at *;generalize x.length=LX at *;generalize y.length=LY at *;have HY0:=zh y0';clear hy y0' hy1 hy2 hy3;go_wp2;refine wp_region_held_drew (S:=(fun w':World=>w'.cell? ⟨bx,ox+i,none⟩=some (.slice ax LX cx)∧w'.cell? ⟨by',oy+j,none⟩=some (.slice ay LY cy))) (by kernel_rfl) (by exact ⟨x0,y0⟩) (fun hH0=>?_);refine tkB 0 hH0 rfl ?_;try simp only [tkS,Act.put]
     refine tkB 1 hH0 rfl ?_;try simp only [tkS,Act.put]
     refine tkB 2 hH0 rfl ?_;try simp only [tkS,Act.put]
     refine tkB 3 hH0 rfl ?_;try simp only [tkS,Act.put]
     refine tkB 4 hH0 rfl ?_;try simp only [tkS,Act.put]
     refine tkB 5 hH0 rfl ?_;try simp only [tkS,Act.put]
     refine tkB 6 hH0 rfl ?_;try simp only [tkS,Act.put]
     refine tkB 7 hH0 rfl ?_;try simp only [tkS,Act.put]
     refine tkB 8 hH0 rfl ?_;try simp only [tkS,Act.put]
     refine rd1 9 rfl (fun K hK=>?_);go_simp;go_at_call 229
     refine (hcall _ bw).mono ?_;unfold RoO;rintro e w5 ⟨v5,rfl,ho5,hb5⟩;have HB5:Hid (Below wr.heap.size wr w5):=zh (by exact bw);have HO5:=zh ho5;obtain ⟨a5,c5,rfl⟩:=ho5.shape;go_wp2_with fail
     refine hK.out _ _ ?_ (fun hH1=>?_)
     ·exact ⟨kept HB5.out x0,kept HB5.out y0⟩
     try simp only [tkS,Act.put]
     clear hK K;have HB5w:Hid (Below w.heap.size w w5):=HB.out.trans (HB5.out.mono hz1);have hz5:w.heap.size≤w5.heap.size:=HB5w.out.size;have HOB:=zh (HO.out.below HB5.out);clear HO ho5 hb5 hcall;refine rd1 10 rfl (fun K hK=>?_);go_simp;refine hK.out _ _ ?_ (fun hH2=>?_)
     ·exact ⟨kept bw hH1.1,kept bw hH1.2⟩
     try simp only [tkS,Act.put]
     clear hK K;have hba:Below w5.heap.size w5 (w5.alloc (.cells #[.slice a5 jt.length c5] 59)):=bw;have hu:=ownZ_one w5 (u:=.slice a5 jt.length c5) (y:=jt) (fun w' hA=>(rowT_agree (HO5.out.below bw) hA).is);have HOC:=zh (HOB.out.below hba);refine rd1 11 rfl (fun K hK=>?_);refine wpo_appW (E:=Ez 59) (bytes:=24) altRow rfl (by decide) Tryz.underlying41 alt_one _ _ rfl 0 w.heap.size (Nat.zero_le _) _ _ _ [jt] rfl ?c0 Ez_alt HOC.out hu.1 ?c1 ?c2 ?_;case c0=>rfl
     case c1=>simp only [List.length_cons,List.length_nil];omega
     case c2=>have:=hba.size;omega
     intro v8 w8 ho8 hb8;have HB8:Hid (Below w.heap.size w w8):=(HB5w.out.trans (hba.mono hz5)).trans hb8;have HO8:Hid (OwnZ w.heap.size 59 w8 v8 (((pairsA (xs.take i) ys).map normT++((ys.take j).map (x++·)).map normT)++[jt])):=ho8;go_wp2_with fail
     refine hK.out _ _ ?_ (fun hH3=>?_)
     ·exact ⟨kept HB8.out HX0.out,kept HB8.out HY0.out⟩
     try simp only [tkS,Act.put]
     clear hK K;refine tkB 12 hH3 rfl ?_;try simp only [tkS,Act.put]
     refine wpAnyH_done (by kernel_rfl) ?_ _;go_wp2;go_roundw
     case rel =>
      refine ⟨j+1,by omega,by go_num,HB8,?_⟩;show OwnZ _ _ _ _ _;have h:=HO8.out;rw [HJ.out,List.append_assoc] at h;rw [take_at HY.out,List.map_append,List.map_append];exact h
     case measure=>exact zm
    ·have hjz:¬ (j:Int) < (M:Int):=by omega
     have HO1:Hid (OwnZ w.heap.size 59 wr u5 ((pairsA (xs.take (i+1)) ys).map normT)):=by
      show OwnZ _ _ _ _ _;rw [HP.out,List.map_append];have:=HO.out;rw [show ys.take j=ys from List.take_of_length_le (by have:=HM.out;omega)] at this;exact this
     go_wp2;go_roundw
     case rel=>exact ⟨i+1,by omega,by go_num,HB,HO1⟩
     case measure=>exact zm
  ·have hkz:¬ (i:Int) < (N:Int):=by omega
   have HO1:Hid (OwnZ w.heap.size 59 wr u5 ((pairsA xs ys).map normT)):=by
    have:=HO.out;rw [List.take_of_length_le (by rw [HN.out];omega)] at this;exact this
   have hpl:((pairsA xs ys).map normT).length≤1000000:=by
    rw [List.length_map,pairs_count];have h1:xs.length≤1000:=by have:=HN.out;omega
    exact zrrfm2
   have hcall:=Minimal_ref wr u5 ((pairsA xs ys).map normT) HO1.out.is (fun a ha=>by
    obtain ⟨z,hz,rfl⟩:=List.mem_map.1 ha;have h1:=pairs_len HNX.out HNY.out z hz;have h2:=normT_len z;omega) hpl
   rw [pairs_norm] at hcall;obtain ⟨a6,c6,he6,-⟩:=list_inv HO1.out.is;subst he6;clear HO HO1;generalize ((pairsA xs ys).map normT).length=L6 at *;go_wp2_with fail
   refine hcall.mono ?_;unfold MO;rintro e w3 ⟨v3,rfl,ho3,hb3⟩;have HO3:=zh ho3;have HB3:Hid (Below w.heap.size w w3):=HB.out.trans (hb3.mono hz1);clear ho3 hb3 hcall;go_wp2;go_ret;exact ⟨v3,rfl,HO3.out.weaken hz1,HB3.out⟩
end Go.Proofs.YtcbopdbbcgdkcaaGreatDoor
