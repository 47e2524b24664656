/- Lemmas. -/
import Derived.Test.YtcbopdbbcgdkcaaGreatDoorLOwnU
set_option linter.all false
set_option maxRecDepth 100000
set_option maxHeartbeats 16000000
namespace Go.Proofs.YtcbopdbbcgdkcaaGreatDoor
open Go Go.RowKit Go.ChangeShapes
theorem ownsRow_weaken {w:World} {B B' sz n:Nat} {e:TypeId} {v:Value} {xs:List Value} (h:w.ownsRow B e sz v n xs) (hB:B'≤B):w.ownsRow B' e sz v n xs:=by
 refine ⟨h.1,h.2.imp id ?_⟩;rintro ⟨g,cap,cur,a,b,c⟩;exact ⟨g,cap,cur,a,Nat.le_trans hB b,c⟩
theorem app_clause2 {ops:Array Oper} {rest:List Oper} {o:Oper} {a:Act} {Q:Exit→Act→World→Prop} {w:World} (hgd:o.guard=none) (s x:Operand)
  (ho:o.op=.call { callee:=.builtin .append,args:=#[s,x],argTypes:=#[24,24] })
  (B B0:Nat) (hB0:B0≤B) (v:Value) (xs:List Clause) (hs:a.eval s=v) (hown:OwnL B (·=74) 74 w v xs) (hown0:OwnL B0 (·=74) 74 w v xs)
  (news:Array Value) (y:Clause) (hx:a.eval x=.slice (some ⟨w.heap.size,0,none⟩) 1 1) (hn:news.size=Lay.n Clause) (h1:∀ u∈news.toList,u.oneCell'=true)
  (hy:∀ w'',Agree B0 (·=74) (w.alloc (.cells news 74)) w''→Lay.is w'' (fun j=>news.toList[j]?) y)
  (hb:xs.length≤1000000000) (hB:B≤w.heap.size)
  (h:∀ v' w',OwnL B (·=74) 74 w' v' (xs++[y])→OwnL B0 (·=74) 74 w' v' (xs++[y])→Below B w w'→w.heap.size < w'.heap.size→wpList Tryz.prog ops Q rest (a.put o.dst v') w') :
  wpList Tryz.prog ops Q (o :: rest) a (w.alloc (.cells news 74)):=by
 obtain ⟨cs,hrow⟩:=hown.row;have hal:Below w.heap.size w (w.alloc (.cells news 74)):=zb;refine wp_app clRow rfl (by decide) Tryz.underlying24 hgd s x ho B v xs.length cs hs hrow news hx hn h1 (by omega) hB fun v' w' h2 h3 _=>?_;refine h v' w' (OwnL.snoc (E:=fun x=>x=74) rfl hown hal (by rw [Array.length_toList];exact hn) (fun w'' hA=>hy w'' (hA.lower hB0)) h3 fun cs2 h4=>?_) (OwnL.snoc (E:=fun x=>x=74) rfl hown0 hal (by rw [Array.length_toList];exact hn) hy h3 fun cs2 h4=>?_) ?_ ?_
 ·rw [OwnL.row_unique hrow h4] at h2;exact h2
 ·rw [OwnL.row_unique (ownsRow_weaken hrow hB0) h4] at h2;exact ownsRow_weaken h2 hB0
 ·exact ((Below.refl _ _).alloc (by omega) _).app h3 (by simp;omega) hrow
 ·have:=h3.size;simp at this;omega
def CO (B0:Nat) (xs:List Clause) (w:World) (e:Ending) (w':World):Prop:=∃ s,e=.returned s∧OwnL B0 (·=74) 74 w' s xs∧Below w.heap.size w w'
theorem zqliftu0 {p:Prop} (h:p:=by
 refine ⟨k+1,by omega,by go_num,by have hq:=hbr.out;exact bw,?_,?_⟩
 ·show OwnL _ _ _ _ _ _;rw [HT.out,HP.out];simpa using HO.out.below bw
 ·show OwnL _ _ _ _ _ _;rw [HT.out,HP.out];simpa using HO0.out.below bw):p:=h
theorem zrliftu0 {p:Prop} (h:p:=by
 go_wp2;go_roundw
 case rel =>exact zqliftu0
 case measure=>exact zm):p:=h
theorem Clauses_o (B0:Nat) (w:World) (x0:Value) (c:Catalog) (t:Term) (way rel:Int) (hg:Glob w) (h:Is w x0 c) (hB0:B0≤w.heap.size) :
  Calls Tryz.prog 37 #[x0,.agg #[.string t.license,.string t.exception],.int .i64 way,.int .i64 rel] w fun e w'=>CO B0 (clausesC c t way rel) w e w':=by
 have HI:=zh h;obtain ⟨a0,c0,a1,c1,a2,c2,a3,c3,rfl,l0,m0,r0,l1,m1,r1,l2,m2,r2,l3,m3,r3⟩:=Catalog.inv h;have R2:=zh r2;have n2:c.clauses.length≤9223372036854775807:=by simp only [maxLen] at m2;omega
 clear h r0 r1 r2 r3 m0 m1 m2 m3 l1 l2 l3 l0;go_enter Tryz.func37,Tryz.ntmps37;go_wp2_with fail
 refine (lifts_p _ _ c t (hg.mono bw) (HI.out.mono bw)).mono ?_;rintro e w1 ⟨s,rfl,hs,hb1⟩;have d2:=kb w hb1 2 (.slice a2 c.clauses.length c2);have e0:=kb1 w hb1 0 (.string t.license);have hbw:Below w.heap.size w w1:=bw;have HB1:=zh hbw;have hz1:w.heap.size < w1.heap.size:=cell_lt d2;have hz2:w.heap.size+1 < w1.heap.size:=cell_lt e0;have HL:=zh hs;clear hb1 hbw hs;cases q1:liftsC c t with
 | none =>
  have HF:Hid (clausesC c t way rel=[]):=by show _=_;unfold clausesC;rw [q1]
  go_wp2;go_ret;unfold CO;exact ⟨_,rfl,by rw [HF.out];exact OwnL.nil _ _ _ _,by have hq:=HB1.out;have hqs:=hq.size;exact bw⟩
 | some l =>
 rw [q1] at HL;simp only [Option.getD_some,Option.isSome_some] at HL ⊢;have HF:Hid (clausesC c t way rel=c.clauses.filter (clauseIs t way rel l)):=by show _=_;unfold clausesC;rw [q1]
 have hB01:B0≤w1.heap.size:=Nat.le_trans hB0 HB1.out.size;have hlen:=clauses_128 (lifts_check q1);have HLN:=zh (lists_32 (lifts_check q1));clear q1;go_wp2;go_loopw [11,25] (fun vo kv wr=>∃ k:Nat,k≤c.clauses.length∧kv=.int .i64 k∧Below w1.heap.size w1 wr∧Hid (OwnL w1.heap.size (·=74) 74 wr vo ((c.clauses.take k).filter (clauseIs t way rel l)))∧Hid (OwnL B0 (·=74) 74 wr vo ((c.clauses.take k).filter (clauseIs t way rel l)))) (fun _ kv _=>c.clauses.length - (intOf kv).toNat)
 case atStart=>exact ⟨0,by omega,rfl,Below.refl _ _,OwnL.nil _ _ _ _,OwnL.nil _ _ _ _⟩
 case round =>
  obtain ⟨k,hk,rfl,hbr0,HO,HO0⟩:=hrel;have hbr:=zh hbr0;have hwr:w1.heap.size≤wr.heap.size:=hbr0.size;clear hbr0;by_cases hki:k < c.clauses.length
  ·have g2:=kept hbr.out d2;have g3:=kept hbr.out e0;have hs1:w.heap.size < wr.heap.size:=cell_lt g2;have hs2:w.heap.size+1 < wr.heap.size:=cell_lt g3;obtain ⟨x,hx⟩:=get_lt hki;have HT:Hid ((c.clauses.take (k+1)).filter (clauseIs t way rel l)=(c.clauses.take k).filter (clauseIs t way rel l)++(if clauseIs t way rel l x then [x] else [])):=by
    show _=_;rw [take_at hx,List.filter_append];simp [List.filter_cons]
   have hx32:=HLN.out x (List.mem_of_getElem? hx);obtain ⟨b,off,rfl,hb,ya,yc,y0',y1',y2',y3',y4',ys0,ys1,ys2,ys3,hyl,hyc,hyr⟩:=Clause.at_row (R2.out.mono HB1.out) hx;have y0:=kept hbr.out y0';have y1:=kept hbr.out y1';have y2:=kept hbr.out y2';have y3:=kept hbr.out y3';have y4:=kept hbr.out y4';have HY:=zh (list_mk hyl hyc hyr);have HSZ:=zh (row_size hyr);have HS:=zh (And.intro ys0 (And.intro ys1 (And.intro ys2 ys3)));have hs3:b < wr.heap.size:=cell_lt y0;clear hx hyr y0' y1' y2' y3' y4' hyl hyc ys0 ys1 ys2 ys3;cases q1:(x.license.toList == t.license.toList);case true =>
    cases q2:(x.way == way);case true =>
     cases q3:(x.relation == rel);case true =>
      have hal:Below wr.heap.size wr (wr.alloc (.cells #[.string x.license,.int .i64 x.way,.int .i64 x.relation,.int .i64 x.duty,.slice ya x.list.length yc] 74)):=bw;go_wp2_with fail
      refine (ContainsInt_p _ _ l x.duty (HL.out.mono (by have hq:=hbr.out;exact bw))).mono ?_;rintro e w2 ⟨rfl,rfl⟩;cases q4:l.contains x.duty;case true =>
       have HP:Hid (clauseIs t way rel l x=false):=by show _=_;unfold clauseIs seq;rw [q1,q2,q3,q4];rfl
       exact zrliftu0
      case false =>
       have HP:Hid (clauseIs t way rel l x=true):=by show _=_;unfold clauseIs seq;rw [q1,q2,q3,q4];rfl
       go_wp2_with fail
       refine (Clone_p _ _ x.list (HY.out.mono (by have hq:=hbr.out;exact bw)) (by omega)).mono ?_;rintro e w2 ⟨za,zc,rfl,hos,hb2⟩;have z0:=kept hb2 (a:=⟨wr.heap.size,0,none⟩) (v:=.string x.license) (by simp);have z1:=kept hb2 (a:=⟨wr.heap.size,1,none⟩) (v:=.int .i64 x.way) (by simp);have z2:=kept hb2 (a:=⟨wr.heap.size,2,none⟩) (v:=.int .i64 x.relation) (by simp);have z3:=kept hb2 (a:=⟨wr.heap.size,3,none⟩) (v:=.int .i64 x.duty) (by simp);have z4:=kept hb2 (a:=⟨wr.heap.size,4,none⟩) (v:=.slice ya x.list.length yc) (by simp);have f4:=keptF hb2 (a:=⟨wr.heap.size,4,none⟩) (v:=.slice ya x.list.length yc) (by simp) (by simp);have hlt:wr.heap.size < w2.heap.size:=cell_lt z0;have hb3:Below wr.heap.size wr w2:=bw;have HB3:=zh hb3;have HOS:=zh hos;clear hb2 hos hb3 hal;go_wp2_with (at_builtin;go_loud (refine app_clause2 rfl _ _ rfl w1.heap.size B0 hB01 _ _ rfl (HO.out.below ?c0) (HO0.out.below ?c00) _ ⟨x.license,x.way,x.relation,x.duty,x.list⟩ ?cx rfl ?c1 ?c2 ?c3 ?c4 ?_))
       case c0=>have hq:=HB3.out;exact bw
       case c00=>have hq:=HB3.out;exact bw
       case cx=>show Value.slice (some ⟨w2.heap.size,0,none⟩) 1 1=_;simp
       case c1=>exact ⟨rfl,rfl,rfl,rfl,rfl⟩
       case c2 =>
        intro w'' hA;obtain ⟨s0,s1,s2,s3⟩:=HS.out;have ho:OwnV Value.string (wr.heap.size+1) 9 w'' (.slice za x.list.length zc) x.list :=
         (((HOS.out.weaken (B':=wr.heap.size+1) (by simp)).setCell (a:=⟨wr.heap.size,4,none⟩) (u:=.slice za x.list.length zc) (by show wr.heap.size < _;omega)).below bw).agree hA (by decide)
        have hi:=ho.strs HSZ.out;obtain ⟨a',c',he,h1,h2,h3⟩:=list_inv hi;cases he;exact Clause.is_iff.2 ⟨za,zc,rfl,rfl,rfl,rfl,rfl,s0,s1,s2,s3,h1,h2,h3⟩
       case c3=>exact Nat.le_trans (List.length_filter_le _ _) (by rw [List.length_take];omega)
       case c4=>simp;omega
       intro v' w3 ho ho0 hb4 hsz;have hsz':w2.heap.size < w3.heap.size:=by simpa using hsz
       have HO3:=zh ho;have HO30:=zh ho0;have hb5:Below w1.heap.size w1 w3:=by
        have hq:=hbr.out;have hq3:=HB3.out;have h6:Below w1.heap.size w1 (w2.setCell ⟨wr.heap.size,4,none⟩ (.slice za x.list.length zc)):=bw;exact h6.trans hb4
       have HB5:=zh hb5;clear ho ho0 hb4 hsz hb5;go_wp2;go_roundw
       case rel =>
        refine ⟨k+1,by omega,by go_num,HB5.out,?_,?_⟩
        ·show OwnL _ _ _ _ _ _;rw [HT.out,HP.out];exact HO3.out
        ·show OwnL _ _ _ _ _ _;rw [HT.out,HP.out];exact HO30.out
       case measure=>exact zm
     have HP:Hid (clauseIs t way rel l x=false):=by show _=_;unfold clauseIs seq;rw [q1,q2,q3];rfl
     exact zrliftu0
    have HP:Hid (clauseIs t way rel l x=false):=by show _=_;unfold clauseIs seq;rw [q1,q2];rfl
    exact zrliftu0
   have HP:Hid (clauseIs t way rel l x=false):=by show _=_;unfold clauseIs seq;rw [q1];rfl
   exact zrliftu0
  ·have HQ:Hid ((c.clauses.take k).filter (clauseIs t way rel l)=clausesC c t way rel):=by
    show _=_;rw [HF.out,List.take_of_length_le (by omega)]
   go_wp2;go_ret;unfold CO;exact ⟨_,rfl,by have:=HO0.out;rw [HQ.out] at this;exact this,by have hq:=HB1.out;have hqs:=hq.size;have hr:=hbr.out;have hrs:=hr.size;exact bw⟩
theorem run_clear_k {P:Program} (w:World) (t e ty:TypeId) (z:Value) (ht:P.underlying t=some (.slice e)) (hv:∀ w,(zeroValue e).run P w=.ok z w) (ys:List Value) (b o n c:Nat) (hn:0 < n) (hys:(Builtin.zeroCells z.cells n).toList=ys)
  (h1:∀ v∈ys,v.oneCell'=true) (hc:∀ j,j < ys.length→(w.cell? ⟨b,o+j,none⟩).isSome=true) (hf:∀ j,j < ys.length→w.frozen? ⟨b,o+j,none⟩=false) :
  (Builtin.clear_ #[t] ty #[.slice (some ⟨b,o,none⟩) n c]).run P w=.ok (.tuple #[]) (w.setCells b o ys):=by
 have hst:=run_storeCells_cells (P:=P) b o ys 0 w (by simpa using hc) (by simpa using hf) h1;simp only [Nat.add_zero] at hst;obtain ⟨m,rfl⟩:∃ m,n=m+1:=⟨n - 1,by omega⟩
 simp [Builtin.clear_,run_underlying ht,hv,hys,hst]
theorem zeroCells_mem {z:Array Value} (hz:0 < z.size) (h:∀ v∈z.toList,v.oneCell'=true) {n:Nat} {v:Value} (hv:v∈(Builtin.zeroCells z n).toList):v.oneCell'=true:=by
 simp only [Builtin.zeroCells,Array.toList_map,List.mem_map] at hv;obtain ⟨i,-,rfl⟩:=hv;have hi:i % z.size < z.size:=Nat.mod_lt _ hz;rw [getElem!_pos z (i % z.size) hi];exact h _ (by simp)
theorem zeroCells_len (z:Array Value) (n:Nat):(Builtin.zeroCells z n).toList.length=n * z.size:=by simp [Builtin.zeroCells]
theorem OwnL.join {α:Type} [Lay α] {B:Nat} {E:TypeId→Prop} {e:TypeId} (hE:E e) {w w':World} {v v' u:Value} {xs ys:List α} (h:OwnL B E e w v xs) (k:OwnL B E e w u ys) (hg:w.grownBy w' v.ownBlock)
  (ho:∀ cs ds,w.ownsRow B e (Lay.n α) v xs.length cs→w.ownsRow B e (Lay.n α) u ys.length ds→w'.ownsRow B e (Lay.n α) v' (xs.length+ys.length) (cs++ds)) :
  OwnL B E e w' v' (xs++ys):=by
 obtain ⟨zs,h1,h2,h3⟩:=h;obtain ⟨us,k1,k2,k3⟩:=k;have hag:Agree B E w w':=Agree.app hE h2 hg;refine ⟨zs++us,by simp [h1,k1],?_,?_⟩
 ·simpa using ho _ _ h2 k2
 ·intro i y z hy hz;by_cases hi:i < xs.length
  ·rw [List.getElem?_append_left (by omega)] at hy;rw [List.getElem?_append_left hi] at hz;obtain ⟨a,b⟩:=h3 i y z hy hz;exact ⟨a,fun w'' hw=>b w'' (hag.trans hw)⟩
  ·rw [List.getElem?_append_right (by omega),h1] at hy;rw [List.getElem?_append_right (by omega)] at hz;obtain ⟨a,b⟩:=k3 _ y z hy hz;exact ⟨a,fun w'' hw=>b w'' (hag.trans hw)⟩
theorem agree_blk {B:Nat} {e t:TypeId} {w w':World} {k:Nat} {cs:Array Value} {fr:Nat×Nat} (h:Agree B (·=e) w w') (hk:w.heap[k]?=some (.cells cs t fr)) (hne:t≠e):w'.heap[k]?=some (.cells cs t fr):=by
 have hlt:k < w.heap.size:=by
  rcases Nat.lt_or_ge k w.heap.size with h | h
  ·exact h
  ·rw [Array.getElem?_eq_none h] at hk;cases hk
 rw [h.2 k hlt (.inr fun ⟨cs',e',fr',he,hh⟩=>by rw [hk] at hh;cases hh;exact hne he),hk]
theorem below_blk {w w':World} {k:Nat} {o:Obj} (h:Below w.heap.size w w') (hk:w.heap[k]?=some o):w'.heap[k]?=some o:=by
 have hlt:k < w.heap.size:=by
  rcases Nat.lt_or_ge k w.heap.size with h | h
  ·exact h
  ·rw [Array.getElem?_eq_none h] at hk;cases hk
 rw [h.block k hlt,hk]
end Go.Proofs.YtcbopdbbcgdkcaaGreatDoor
