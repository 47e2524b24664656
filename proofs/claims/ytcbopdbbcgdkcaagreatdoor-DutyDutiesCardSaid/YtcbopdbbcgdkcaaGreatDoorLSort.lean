/- Lemmas. -/
import Derived.Test.YtcbopdbbcgdkcaaGreatDoorLProV
import Derived.Test.YtcbopdbbcgdkcaaGreatDoorLShelfV
set_option linter.all false
set_option maxRecDepth 100000
set_option maxHeartbeats 16000000
namespace Go.Proofs.YtcbopdbbcgdkcaaGreatDoor
open Go Go.RowKit Go.ChangeShapes

def Agree (B:Nat) (E:TypeId→Prop) (w w':World):Prop :=
 w.heap.size≤w'.heap.size∧∀ k,k < w.heap.size→(k < B∨¬ ∃ cs e fr,E e∧w.heap[k]?=some (.cells cs e fr))→w'.heap[k]?=w.heap[k]?
theorem Agree.refl (B:Nat) (E:TypeId→Prop) (w:World):Agree B E w w:=⟨Nat.le_refl _,fun _ _ _=>rfl⟩
theorem Agree.mono {B:Nat} {E E':TypeId→Prop} {a b:World} (h:Agree B E a b) (hs:∀ x,E x→E' x):Agree B E' a b :=
 ⟨h.1,fun i hi hc=>h.2 i hi (hc.imp id fun hn ⟨cs,e,fr,he,hh⟩=>hn ⟨cs,e,fr,hs e he,hh⟩)⟩
theorem Agree.trans {B:Nat} {E:TypeId→Prop} {a b c:World} (h:Agree B E a b) (k:Agree B E b c):Agree B E a c :=
 ⟨Nat.le_trans h.1 k.1,fun i hi hc=>by
  have h1:=h.2 i hi hc;rw [k.2 i (Nat.lt_of_lt_of_le hi h.1) (by rw [h1];exact hc),h1]⟩
theorem Agree.of_below {B:Nat} {E:TypeId→Prop} {w w':World} (h:Below w.heap.size w w'):Agree B E w w':=⟨h.size,fun k hk _=>h.block k hk⟩
theorem Agree.app {B:Nat} {E:TypeId→Prop} {e:TypeId} (hE:E e) {w w':World} {sz n:Nat} {v:Value} {xs:List Value} (ho:w.ownsRow B e sz v n xs) (hg:w.grownBy w' v.ownBlock):Agree B E w w':=by
 refine ⟨hg.size,fun k hk hc=>hg.block k hk fun hv=>?_⟩;rcases ho.2 with ⟨rfl,_⟩ | ⟨g,cap,cur,rfl,hB,hh,_⟩
 ·cases hv
 ·cases hv;rcases hc with hc | hc
  ·exact absurd hB (Nat.not_le.2 hc)
  ·exact hc ⟨_,_,_,hE,hh⟩

def OwnL {α:Type} [Lay α] (B:Nat) (E:TypeId→Prop) (e:TypeId) (w:World) (v:Value) (xs:List α):Prop :=
 ∃ ys:List (List Value),ys.length=xs.length∧w.ownsRow B e (Lay.n α) v xs.length ys.flatten ∧
  ∀ (i:Nat) (y:List Value) (x:α),ys[i]?=some y→xs[i]?=some x→y.length=Lay.n α∧∀ w',Agree B E w w'→Lay.is w' (fun j=>y[j]?) x

theorem OwnL.nil {α:Type} [Lay α] (B:Nat) (E:TypeId→Prop) (e:TypeId) (w:World):OwnL B E e w (.slice none 0 0) ([]:List α) :=
 ⟨[],rfl,⟨by simp,.inl ⟨rfl,rfl⟩⟩,fun i y x h _=>by simp at h⟩
theorem OwnL.row {α:Type} [Lay α] {B:Nat} {E:TypeId→Prop} {e:TypeId} {w:World} {v:Value} {xs:List α} (h:OwnL B E e w v xs):∃ cs,w.ownsRow B e (Lay.n α) v xs.length cs :=
 let ⟨_,_,h2,_⟩:=h;⟨_,h2⟩
theorem zqsort2 {p:Prop} (h:p:=by
 rcases Nat.lt_or_ge g w.heap.size with h | h
 ·exact h
 ·rw [Array.getElem?_eq_none h] at c;cases c):p:=h
theorem OwnL.below {α:Type} [Lay α] {B:Nat} {E:TypeId→Prop} {e:TypeId} {w w':World} {v:Value} {xs:List α} (h:OwnL B E e w v xs) (hb:Below w.heap.size w w'):OwnL B E e w' v xs:=by
 obtain ⟨ys,h1,h2,h3⟩:=h;refine ⟨ys,h1,?_,fun i y x hy hx=>⟨(h3 i y x hy hx).1,fun w'' hw=>(h3 i y x hy hx).2 w'' ((Agree.of_below hb).trans hw)⟩⟩;refine ⟨h2.1,?_⟩;rcases h2.2 with h | ⟨g,cap,cur,a,b,c,d⟩
 ·exact .inl h
 ·refine .inr ⟨g,cap,cur,a,b,?_,d⟩;have hg:g < w.heap.size:=by exact zqsort2
  rw [hb.block g hg];exact c
theorem flatten_get {n:Nat}:∀ (ys:List (List Value)) (i j:Nat) (y:List Value),(∀ z∈ys,z.length=n)→ys[i]?=some y→j < n→ys.flatten[i * n+j]?=y[j]?
 | [],i,j,y,_,h,_=>by simp at h
 | z :: ys,0,j,y,hl,h,hj=>by
  simp at h;subst h;have hz:z.length=n:=hl z (by simp);rw [Nat.zero_mul,Nat.zero_add,List.flatten_cons,List.getElem?_append_left (by omega)]
 | z :: ys,i+1,j,y,hl,h,hj=>by
  have hz:z.length=n:=hl z (by simp);have e:(i+1) * n=n+i * n:=by rw [Nat.succ_mul];omega
  rw [e,List.flatten_cons,List.getElem?_append_right (by omega),show n+i * n+j - z.length=i * n+j by omega];exact flatten_get ys i j y (fun u hu=>hl u (by simp [hu])) (by simpa using h) hj
theorem OwnL.all {α:Type} [Lay α] {xs:List α} {ys:List (List Value)} {P:List Value→Prop} (h1:ys.length=xs.length) (h:∀ (i:Nat) (y:List Value) (x:α),ys[i]?=some y→xs[i]?=some x→P y):∀ z∈ys,P z:=by
 intro z hz;obtain ⟨i,hi,rfl⟩:=List.mem_iff_getElem.1 hz;exact h i ys[i] (xs[i]'(by omega)) (by simp [hi]) (by simp)
theorem zqsort1 {p:Prop} (h:p:=by
 rcases Nat.lt_or_ge g w.heap.size with h | h
 ·exact h
 ·rw [Array.getElem?_eq_none h] at hh;cases hh):p:=h
theorem OwnL.is {α:Type} [Lay α] {B:Nat} {E:TypeId→Prop} {e:TypeId} {w:World} {v:Value} {xs:List α} (h:OwnL B E e w v xs):Is w v xs:=by
 obtain ⟨ys,h1,⟨h2,h2'⟩,h3⟩:=h;have hall:=OwnL.all (P:=fun z=>z.length=Lay.n α) h1 (fun i y x hy hx=>(h3 i y x hy hx).1);rcases h2' with ⟨rfl,h0⟩ | ⟨g,cap,cur,rfl,hg,hh,hn',hc,hsz,ht⟩
 ·obtain rfl:xs=[]:=List.length_eq_zero_iff.1 h0;exact nil_mk w
 ·refine list_mk hn' hc fun i x hx=>⟨g,0,rfl,?_,?_⟩
  ·exact zqsort1
  ·have hi:i < xs.length:=lt_get hx;obtain ⟨y,hy⟩:=get_lt (xs:=ys) (k:=i) (by omega);obtain ⟨hl,hr⟩:=h3 i y x hy hx;refine Lay.congr (fun j hj=>?_) (hr w (Agree.refl _ _ _));show y[j]?=w.cell? ⟨g,0+i * Lay.n α+j,none⟩;simp only [World.cell?,hh];have e1:i * Lay.n α+j < xs.length * Lay.n α:=by
    have:(i+1) * Lay.n α≤xs.length * Lay.n α:=Nat.mul_le_mul_right _ hi;rw [Nat.succ_mul] at this;omega
   rw [show 0+i * Lay.n α+j=i * Lay.n α+j by omega];have e2:=flatten_get ys i j y hall hy hj;rw [← ht,List.getElem?_take,if_pos e1] at e2;simpa using e2.symm
theorem OwnL.row_unique {w:World} {B sz n:Nat} {e:TypeId} {v:Value} {xs ys:List Value} (h:w.ownsRow B e sz v n xs) (k:w.ownsRow B e sz v n ys):xs=ys:=by
 rcases h with ⟨hl,h⟩
 rcases k with ⟨kl,k⟩
 rcases h with ⟨rfl,h0⟩ | ⟨g,cap,cur,rfl,_,hh,_,_,_,ht⟩
 ·subst h0;simp at hl kl;rw [hl,kl]
 ·rcases k with ⟨k,_⟩ | ⟨g',cap',cur',k,_,kh,_,_,_,kt⟩
  ·cases k
  ·cases k;rw [hh] at kh;cases kh;rw [← ht,← kt]
theorem Agree.lower {B B':Nat} {E:TypeId→Prop} {w w':World} (h:Agree B' E w w') (hB:B≤B'):Agree B E w w' :=
 ⟨h.1,fun i hi hc=>h.2 i hi (hc.imp (fun h=>Nat.lt_of_lt_of_le h hB) id)⟩
theorem OwnL.other {α:Type} [Lay α] {B:Nat} {E E':TypeId→Prop} {e:TypeId} {w w':World} {v:Value} {xs:List α} (h:OwnL B E e w v xs) (hA:Agree B E' w w') (hs:∀ x,E' x→E x) (hne:¬ E' e):OwnL B E e w' v xs:=by
 obtain ⟨ys,h1,h2,h3⟩:=h;refine ⟨ys,h1,?_,fun i y x hy hx=>⟨(h3 i y x hy hx).1,fun w'' hw=>(h3 i y x hy hx).2 w'' ((hA.mono hs).trans hw)⟩⟩;refine ⟨h2.1,?_⟩;rcases h2.2 with h | ⟨g,cap,cur,a,b,c,d⟩
 ·exact .inl h
 ·refine .inr ⟨g,cap,cur,a,b,?_,d⟩;have hg:g < w.heap.size:=by exact zqsort2
  rw [hA.2 g hg (.inr fun ⟨cs,e',fr,he,hh⟩=>by rw [c] at hh;cases hh;exact hne he)];exact c
theorem OwnL.snoc {α:Type} [Lay α] {B:Nat} {E:TypeId→Prop} {e:TypeId} (hE:E e) {w w1 w':World} {v v':Value} {xs:List α} (h:OwnL B E e w v xs) (hb:Below w.heap.size w w1) {news:List Value} {x:α} (hl:news.length=Lay.n α)
  (hx:∀ w'',Agree B E w1 w''→Lay.is w'' (fun j=>news[j]?) x) (hg:w1.grownBy w' v.ownBlock) (ho:∀ cs,w.ownsRow B e (Lay.n α) v xs.length cs→w'.ownsRow B e (Lay.n α) v' (xs.length+1) (cs++news)) :
  OwnL B E e w' v' (xs++[x]):=by
 have h':=h.below hb;obtain ⟨ys,h1,h2,h3⟩:=h;obtain ⟨cs',hrow'⟩:=h'.row;have hag:Agree B E w1 w':=Agree.app hE hrow' hg;refine ⟨ys++[news],by simp [h1],?_,?_⟩
 ·simpa using ho _ h2
 ·intro i y z hy hz;by_cases hi:i < xs.length
  ·rw [List.getElem?_append_left (by omega)] at hy;rw [List.getElem?_append_left hi] at hz;obtain ⟨a,b⟩:=h3 i y z hy hz;exact ⟨a,fun w'' hw=>b w'' (((Agree.of_below hb).trans hag).trans hw)⟩
  ·rw [List.getElem?_append_right (by omega)] at hy;rw [List.getElem?_append_right (by omega)] at hz;have hi0:i - xs.length=0:=by
    rcases Nat.eq_zero_or_pos (i - xs.length) with h | h
    ·exact h
    ·rw [List.getElem?_eq_none (by simp;omega)] at hz;cases hz
   rw [hi0] at hz;rw [h1,hi0] at hy;simp at hy hz;subst hy hz;exact ⟨hl,fun w'' hw=>hx w'' (hag.trans hw)⟩
theorem wp_appL {α:Type} [Lay α] {P:Program} {t e:TypeId} {z:Value} {bytes:Nat} (hinfo:(P.info? e).map (fun i=>(i.zero,i.size,i.bytes))=some (some z,Lay.n α,bytes))
  (hz:z.cells.size=Lay.n α) (hsz:0 < Lay.n α) (ht:P.underlying t=some (.slice e))
  {ops:Array Oper} {rest:List Oper} {o:Oper} {a:Act} {Q:Exit→Act→World→Prop} {w:World} (hgd:o.guard=none) (s x:Operand)
  (ho:o.op=.call { callee:=.builtin .append,args:=#[s,x],argTypes:=#[t,t] })
  (B:Nat) (E:TypeId→Prop) (v:Value) (xs:List α) (hs:a.eval s=v) (hE:E e) (hown:OwnL B E e w v xs)
  (news:Array Value) (y:α) (hx:a.eval x=.slice (some ⟨w.heap.size,0,none⟩) 1 1) (hn:news.size=Lay.n α) (h1:∀ u∈news.toList,u.oneCell'=true)
  (hy:∀ w'',Agree B E (w.alloc (.cells news e)) w''→Lay.is w'' (fun j=>news.toList[j]?) y)
  (hb:(xs.length+1) * (bytes+1)≤140737488355328) (hB:B≤w.heap.size)
  (h:∀ v' w',OwnL B E e w' v' (xs++[y])→Below B w w'→Agree B (·=e) w w'→w.heap.size < w'.heap.size→wpList P ops Q rest (a.put o.dst v') w') :
  wpList P ops Q (o :: rest) a (w.alloc (.cells news e)):=by
 obtain ⟨cs,hrow⟩:=hown.row;have hal:Below w.heap.size w (w.alloc (.cells news e)):=zb;refine wp_app hinfo hz hsz ht hgd s x ho B v xs.length cs hs hrow news hx hn h1 hb hB fun v' w' h2 h3 _=>?_;refine h v' w' (OwnL.snoc hE hown hal (by simpa using hn) hy h3 fun cs2 h4=>?_) ?_ ?_ ?_
 ·rw [OwnL.row_unique hrow h4] at h2;exact h2
 ·exact ((Below.refl _ _).alloc (by omega) _).app h3 (by simp;omega) hrow
 ·obtain ⟨cs',hrow'⟩:=(hown.below hal).row;exact (Agree.of_below hal).trans (Agree.app (E:=(·=e)) rfl hrow' h3)
 ·have:=h3.size;simp at this;omega
theorem blk_set_other (w:World) (a:Addr) (u:Value) (k:Nat) (h:k≠a.block):(w.setCell a u).heap[k]?=w.heap[k]?:=by
 simp only [World.setCell,Array.getElem?_modify,if_neg (Ne.symm h)]
def OwnV {α:Type} (enc:α→Value) (B:Nat) (e:TypeId) (w:World) (v:Value) (xs:List α):Prop:=w.ownsRow B e 1 v xs.length (xs.map enc)
section
variable {α:Type} {enc:α→Value} {B:Nat} {e:TypeId} {w w':World} {v:Value} {xs:List α}
theorem OwnV.congr (h:OwnV enc B e w v xs) (hk:∀ g,g < w.heap.size→B≤g→(∃ cs fr,w.heap[g]?=some (.cells cs e fr))→w'.heap[g]?=w.heap[g]?):OwnV enc B e w' v xs:=by
 refine ⟨h.1,h.2.imp id ?_⟩;rintro ⟨g,cap,cur,a,b,c,d⟩;have hg:g < w.heap.size:=by exact zqsort2
 exact ⟨g,cap,cur,a,b,by rw [hk g hg b ⟨_,_,c⟩];exact c,d⟩
theorem OwnV.below (h:OwnV enc B e w v xs) (hb:Below w.heap.size w w'):OwnV enc B e w' v xs:=h.congr fun g hg _ _=>hb.block g hg
theorem OwnV.agree (h:OwnV enc B e w v xs) {B':Nat} {E:TypeId→Prop} (hA:Agree B' E w w') (hE:¬ E e):OwnV enc B e w' v xs :=
 h.congr fun g hg _ ⟨cs,fr,hh⟩=>hA.2 g hg (.inr fun ⟨cs',e',fr',he,hh'⟩=>by rw [hh] at hh';cases hh';exact hE he)
theorem OwnV.setCell (h:OwnV enc B e w v xs) {a:Addr} {u:Value} (ha:a.block < B):OwnV enc B e (w.setCell a u) v xs :=
 h.congr fun g _ hB _=>blk_set_other w a u g (by omega)
theorem OwnV.nil (enc:α→Value) (B:Nat) (e:TypeId) (w:World):OwnV enc B e w (.slice none 0 0) []:=⟨rfl,.inl ⟨rfl,rfl⟩⟩
theorem OwnV.shape (h:OwnV enc B e w v xs):∃ a c,v=.slice a xs.length c∧xs.length≤c∧c≤maxLen:=by
 rcases h.2 with ⟨rfl,h0⟩ | ⟨g,cap,cur,rfl,-,-,h1,h2,-⟩
 ·rw [h0];exact ⟨none,0,rfl,Nat.le_refl _,Nat.zero_le _⟩
 ·exact ⟨_,_,rfl,h1,h2⟩
theorem OwnV.weaken (h:OwnV enc B e w v xs) {B':Nat} (hB:B'≤B):OwnV enc B' e w v xs:=by
 refine ⟨h.1,h.2.imp id ?_⟩;rintro ⟨g,cap,cur,a,b,c⟩;exact ⟨g,cap,cur,a,Nat.le_trans hB b,c⟩
end
theorem OwnV.strs {B:Nat} {e:TypeId} {w:World} {v:Value} {xs:List ByteArray} (h:OwnV Value.string B e w v xs) (hs:∀ x∈xs,x.size≤maxLen):Is w v xs:=own_str h hs
theorem OwnV.ints {B:Nat} {e:TypeId} {w:World} {v:Value} {xs:List Int} (h:OwnV (Value.int .i64) B e w v xs) (hs:∀ x∈xs,inI64 x):Is w v xs:=by
 obtain ⟨h1,h2⟩:=h;rcases h2 with ⟨rfl,h0⟩ | ⟨g,cap,cur,rfl,hg,hh,hn,hc,hsz,ht⟩
 ·obtain rfl:xs=[]:=List.length_eq_zero_iff.1 h0;exact nil_mk w
 ·refine list_mk hn hc fun i x hx=>⟨g,0,rfl,?_,?_,hs x (List.mem_of_getElem? hx)⟩
  ·exact zqsort1
  ·have hi:i < xs.length:=lt_get hx;simp only [World.cell?,hh];have e2:(cur.toList.take (xs.length * 1))[i]?=(xs.map (Value.int .i64))[i]?:=by rw [ht]
   rw [List.getElem?_take,if_pos (by omega),List.getElem?_map,hx] at e2;simpa [Lay.n] using e2
open Go.Sort

abbrev Hd:=Option Addr×Nat×Nat

theorem flat_get {k:Nat}:∀ (ls:List (List Value)) (t:Nat),(∀ l∈ls,l.length=k)→t < ls.length * k→ls.flatten[t]?=some ((ls[t / k]!)[t % k]!)
 | ls,t,h,ht=>by
  have hk:0 < k:=by
   rcases Nat.eq_zero_or_pos k with h0 | h0
   ·subst h0;simp at ht
   ·exact h0
  have hq:t / k < ls.length:=Nat.div_lt_of_lt_mul (by rwa [Nat.mul_comm]);have hm:t % k < k:=Nat.mod_lt _ hk;have h1:=flatten_get ls (t / k) (t % k) ls[t / k] h (by simp [hq]) hm;rw [show t / k * k+t % k=t by rw [Nat.mul_comm];exact Nat.div_add_mod t k] at h1;have hl:(ls[t / k]).length=k:=h _ (List.getElem_mem hq);rw [h1,getElem!_pos ls _ hq,getElem!_pos _ _ (by omega),List.getElem?_eq_getElem (by omega)]
theorem flatK_toList {α:Type} [Inhabited α] (enc:α→List Value) (k:Nat) (hk:∀ x,(enc x).length=k) (d:Array α):(flatK enc k d).toList=(d.toList.map enc).flatten:=by
 have hl:∀ l∈d.toList.map enc,l.length=k:=by intro l hl;obtain ⟨x,_,rfl⟩:=List.mem_map.1 hl;exact hk x
 have hlen:(d.toList.map enc).flatten.length=d.size * k:=by
  have:∀ ls:List (List Value),(∀ l∈ls,l.length=k)→ls.flatten.length=ls.length * k:=by
   intro ls;induction ls with
   | nil=>simp
   | cons a r ih=>intro h;simp only [List.flatten_cons,List.length_append,List.length_cons,ih (fun l hl=>h l (by simp [hl])),h a (by simp)];rw [Nat.succ_mul];omega
  rw [this _ hl];simp
 refine List.ext_getElem? fun t=>?_;by_cases ht:t < d.size * k
 ·rw [flat_get _ t hl (by simpa using ht)];have hk0:0 < k:=by
   rcases Nat.eq_zero_or_pos k with h0 | h0
   ·subst h0;simp at ht
   ·exact h0
  have hq:t / k < d.size:=Nat.div_lt_of_lt_mul (by rwa [Nat.mul_comm]);have:=get_flatK enc k d t ht;rw [Array.getElem?_toList,Array.getElem?_eq_getElem (by simpa using ht),← getElem!_pos _ _ (by simpa using ht),this];rw [getElem!_pos (d.toList.map enc) _ (by simpa using hq)];rw [getElem!_pos d (t / k) hq];simp
 ·rw [List.getElem?_eq_none (by simp;omega),List.getElem?_eq_none (by omega)]

theorem putRowK_heap {α:Type} [Inhabited α] (enc:α→List Value) (k:Nat) (w:World) (g:Nat) (d:Array α) {cur:Array Value} {e:TypeId} {fr:Nat×Nat} (h:w.heap[g]?=some (.cells cur e fr)) :
  (putRowK enc k w g 0 d).heap[g]?=some (.cells (putCells id 0 (flatK enc k d) cur) e fr):=by
 unfold putRowK putRow mapBlock;simp only [Array.getElem?_modify,if_pos rfl,h];rfl
theorem putRowK_heap_other {α:Type} [Inhabited α] (enc:α→List Value) (k:Nat) (w:World) (g i:Nat) (d:Array α) (h:i≠g):(putRowK enc k w g 0 d).heap[i]?=w.heap[i]?:=by
 unfold putRowK putRow mapBlock;simp only [Array.getElem?_modify,if_neg (Ne.symm h)]
theorem putCells_size {α:Type} [Inhabited α] (enc:α→Value) (off:Nat) (d:Array α) (c:Array Value):(putCells enc off d c).size=c.size:=by simp [putCells]
theorem putCells_take (F cur:Array Value) (n:Nat) (hn:F.size=n) (hc:n≤cur.size):(putCells id 0 F cur).toList.take n=F.toList:=by
 refine List.ext_getElem? fun t=>?_;rw [List.getElem?_take];by_cases ht:t < n
 ·rw [if_pos ht];have hF:t < F.size:=by omega
  simp only [putCells,Array.toList_mapIdx,List.getElem?_mapIdx,Array.getElem?_toList];rw [Array.getElem?_eq_getElem (by omega:t < cur.size),Array.getElem?_eq_getElem hF];simp [hF,getElem!_pos F t hF]
 ·rw [if_neg ht,List.getElem?_eq_none (by simp;omega)]
theorem sortWorldK_heap {α:Type} [Inhabited α] (enc:α→List Value) (k:Nat) (w:World) (g m:Nat) (d:Array α) (os:Array Obj) {i:Nat} (hi:i < w.heap.size) :
  (sortWorldK enc k w g 0 m d os).heap[i]?=(putRowK enc k w g 0 d).heap[i]?:=by
 unfold sortWorldK;rw [heap_grow_old _ _ (by rw [size_putRowK];exact hi)];rfl
theorem sortWorldK_size {α:Type} [Inhabited α] (enc:α→List Value) (k:Nat) (w:World) (g m:Nat) (d:Array α) (os:Array Obj):w.heap.size≤(sortWorldK enc k w g 0 m d os).heap.size:=by
 unfold sortWorldK;rw [size_grow,size_putRowK];exact Nat.le_add_right _ _

theorem OwnL.sorted {α:Type} [Lay α] [Inhabited α] {B:Nat} {E:TypeId→Prop} {e:TypeId} {w:World} {v:Value} {xs:List α} (h:OwnL B E e w v xs) (hE:E e) (enc:α×Hd→List Value) (hk:∀ x,(enc x).length=Lay.n α) (hpos:0 < Lay.n α)
  (hof:∀ (w:World) (y:List Value) (x:α),y.length=Lay.n α→Lay.is w (fun j=>y[j]?) x→∃ hd,y=enc (x,hd)) (hne:xs≠[]) :
  ∃ g cap,∃ d:Array (α×Hd),v=.slice (some ⟨g,0,none⟩) d.size cap∧g < w.heap.size∧B≤g∧d.toList.map Prod.fst=xs∧HoldsK enc (Lay.n α) w g 0 d ∧
   ∀ (d':Array (α×Hd)) (m:Nat) (os:Array Obj),d'.toList.Perm d.toList→OwnL B E e (sortWorldK enc (Lay.n α) w g 0 m d' os) v (d'.toList.map Prod.fst) ∧
    Below B w (sortWorldK enc (Lay.n α) w g 0 m d' os)∧Agree B (·=e) w (sortWorldK enc (Lay.n α) w g 0 m d' os):=by
 obtain ⟨ys,h1,⟨h2,h2'⟩,h3⟩:=h;rcases h2' with ⟨_,h0⟩ | ⟨g,cap,cur,rfl,hB,hh,hn',hc,hsz,ht⟩
 ·exact absurd (List.length_eq_zero_iff.1 h0) hne
 have hg:g < w.heap.size:=by exact zqsort1
 have hd0:∃ l:List (α×Hd),l.map Prod.fst=xs∧l.map enc=ys:=by
  have aux:∀ (xs:List α) (ys:List (List Value)),ys.length=xs.length→(∀ (i:Nat) (y:List Value) (x:α),ys[i]?=some y→xs[i]?=some x→∃ hd,y=enc (x,hd))→∃ l:List (α×Hd),l.map Prod.fst=xs∧l.map enc=ys:=by
   intro xs;induction xs with
   | nil=>intro ys hl _;exact ⟨[],rfl,by simpa using (List.length_eq_zero_iff.1 hl).symm⟩
   | cons x r ih =>
    intro ys hl hy;match ys,hl with
    | y :: s,hl =>
     obtain ⟨hd,rfl⟩:=hy 0 y x rfl rfl;obtain ⟨l,la,lb⟩:=ih s (by simpa using hl) (fun i y' x' hy' hx'=>hy (i+1) y' x' (by simpa using hy') (by simpa using hx'));exact ⟨(x,hd) :: l,by simp [la],by simp [lb]⟩
  exact aux xs ys h1 fun i y x hy hx=>hof w y x (h3 i y x hy hx).1 ((h3 i y x hy hx).2 w (Agree.refl _ _ _))
 obtain ⟨l,la,lb⟩:=hd0;have hll:l.length=xs.length:=by rw [← la];simp
 refine ⟨g,cap,l.toArray,by simp [hll],hg,hB,by simpa using la,?_,?_⟩
 ·-- the cells
  have hfl:(flatK enc (Lay.n α) l.toArray).toList=cur.toList.take (xs.length * Lay.n α):=by rw [flatK_toList enc _ hk,ht];simp [lb]
  intro j hj;have hj':j < xs.length * Lay.n α:=by simpa [hll] using hj
  have hle:xs.length * Lay.n α≤cap * Lay.n α:=Nat.mul_le_mul_right _ hn';refine ⟨?_,?_⟩
  ·simp only [World.cell?,hh];have e2:(flatK enc (Lay.n α) l.toArray).toList[j]?=cur.toList[j]?:=by rw [hfl,List.getElem?_take,if_pos hj']
   rw [Array.getElem?_toList,Array.getElem?_toList,Array.getElem?_eq_getElem hj] at e2;rw [getElem!_pos (flatK enc (Lay.n α) l.toArray) j hj,Nat.zero_add];simpa using e2.symm
  ·simp [World.frozen?,hh]
 ·intro d' m os hp;have hlen':d'.size=xs.length:=by have:=hp.length_eq;simpa [hll] using this
  have hle:xs.length * Lay.n α≤cap * Lay.n α:=Nat.mul_le_mul_right _ hn';have hag:Agree B (·=e) w (sortWorldK enc (Lay.n α) w g 0 m d' os):=by
   refine ⟨sortWorldK_size _ _ _ _ _ _ _,fun k hk' hc'=>?_⟩;rw [sortWorldK_heap _ _ _ _ _ _ _ hk'];refine putRowK_heap_other _ _ _ _ _ _ ?_;rintro rfl;rcases hc' with hc' | hc'
   ·omega
   ·exact hc' ⟨_,_,_,rfl,hh⟩
  refine ⟨⟨d'.toList.map enc,by simp,?_,?_⟩,?_,hag⟩
  ·have hflat:(d'.toList.map enc).flatten.length=d'.size * Lay.n α:=by rw [← flatK_toList enc _ hk];simp
   refine ⟨by simpa using hflat,.inr ⟨g,cap,putCells id 0 (flatK enc (Lay.n α) d') cur,by simp [hlen'],hB,?_,by simpa [hlen'] using hn',hc,by rw [putCells_size];exact hsz,?_⟩⟩
   ·rw [sortWorldK_heap _ _ _ _ _ _ _ hg];exact putRowK_heap _ _ _ _ _ hh
   ·rw [← flatK_toList enc _ hk];refine putCells_take _ _ _ (by simp) ?_;simp [hlen'];omega
  ·intro i y x hy hx;have hmem:∀ a:α×Hd,a∈d'.toList→(enc a).length=Lay.n α∧∀ w',Agree B E w w'→Lay.is w' (fun j=>(enc a)[j]?) a.1:=by
    intro a ha;have ha':a∈l:=by have:=hp.mem_iff.1 ha;simpa using this
    obtain ⟨i,hi,rfl⟩:=List.mem_iff_getElem.1 ha';exact h3 i (enc l[i]) l[i].1 (by rw [← lb];simp [hi]) (by rw [← la];simp [hi])
   obtain ⟨hi,rfl⟩:=List.getElem?_eq_some_iff.1 hy;obtain ⟨hi2,rfl⟩:=List.getElem?_eq_some_iff.1 hx;simp only [List.getElem_map];obtain ⟨m1,m2⟩:=hmem (d'.toList[i]'(by simpa using hi)) (List.getElem_mem _);exact ⟨m1,fun w' hw=>m2 w' ((hag.mono (fun x hx=>hx ▸ hE)).trans hw)⟩
  ·refine ⟨rfl,rfl,rfl,sortWorldK_size _ _ _ _ _ _ _,fun k hk'=>?_⟩;rcases Nat.lt_or_ge k w.heap.size with hkw | hkw
   ·rw [sortWorldK_heap _ _ _ _ _ _ _ hkw];exact putRowK_heap_other _ _ _ _ _ _ (by omega)
   ·omega
end Go.Proofs.YtcbopdbbcgdkcaaGreatDoor
namespace Go.Proofs.YtcbopdbbcgdkcaaGreatDoor
open Go Go.Sort

theorem zrsort5 {p:Prop} (h:p:=by
 rw [getElem!_pos _ _ (by simp)];simp [List.getElem_append_right]):p:=h
theorem swp_list {α:Type} [Inhabited α] (d:Array α) (A B:List α) (x y:α) (h:d.toList=A++x :: y :: B):(swp d (A.length+1) A.length).toList=A++y :: x :: B:=by
 obtain ⟨l⟩:=d;simp only at h;subst h;have hx:(A++x :: y :: B).toArray[A.length]! = x:=by
  rw [getElem!_pos _ _ (by simp)];simp
 have hy:(A++x :: y :: B).toArray[A.length+1]! = y:=by
  exact zrsort5
 unfold swp;rw [hx,hy];simp only [List.setIfInBounds_toArray];rw [List.set_append_right _ _ (by omega),List.set_append_right _ _ (by omega)];simp
theorem insInner_list {α:Type} [Inhabited α] (lt:α→α→Bool):∀ (L R:List α) (x:α) (d:Array α),d.toList=L.reverse++x :: R→(insInner lt 0 L.length d).toList=(insR lt x L).reverse++R
 | [],R,x,d,h=>by simpa [insInner,insR] using h
 | y :: L,R,x,d,h=>by
  have h':d.toList=L.reverse++y :: x :: R:=by rw [h];simp
  obtain ⟨l⟩:=d;simp only at h';subst h';have hy:(L.reverse++y :: x :: R).toArray[L.length]! = y:=by
   exact zrsort5
  have hx:(L.reverse++y :: x :: R).toArray[L.length+1]! = x:=by
   exact zrsort5
  simp only [List.length_cons,insInner,hx,hy,insR];by_cases hl:lt x y=true
  ·simp only [hl,Bool.and_true,Nat.zero_lt_succ,decide_true,gt_iff_lt,if_true];have hs:=swp_list (L.reverse++y :: x :: R).toArray L.reverse R y x rfl;rw [List.length_reverse] at hs;rw [insInner_list lt L (y :: R) x _ hs];simp
  ·simp only [Bool.not_eq_true] at hl;simp [hl]
theorem insR_length {α:Type} (lt:α→α→Bool) (x:α):∀ l:List α,(insR lt x l).length=l.length+1
 | []=>rfl
 | y :: r=>by unfold insR;split <;> simp [insR_length lt x r]
theorem insOuter_list {α:Type} [Inhabited α] (lt:α→α→Bool):∀ (R L:List α) (d:Array α) (n:Nat),d.toList=L.reverse++R→n=d.size→(insOuter lt 0 n L.length d).toList=(sortR lt L R).reverse
 | [],L,d,n,h,hn=>by
  have:d.size=L.length:=by have:=congrArg List.length h;simpa using this
  rw [insOuter_stop lt _ _ _ _ (by omega)];simpa [sortR] using h
 | x :: R,L,d,n,h,hn=>by
  have hs:d.size=L.length+(R.length+1):=by have:=congrArg List.length h;simpa using this
  rw [insOuter_go lt _ _ _ _ (by omega)];have h1:=insInner_list lt L R x d h
  have h2:=insOuter_list lt R (insR lt x L) (insInner lt 0 L.length d) n h1 (by
   have:=congrArg List.length h1;simp [insR_length] at this;omega)
  rw [insR_length] at h2;rw [h2,sortR]
theorem insertionSort_list {α:Type} [Inhabited α] (lt:α→α→Bool) (d:Array α):(insertionSort lt d 0 d.size).toList=sortS lt d.toList:=by
 unfold insertionSort sortS;cases h:d.toList with
 | nil =>
  have:d.size=0:=by have:=congrArg List.length h;simpa using this
  rw [insOuter_stop lt _ _ _ _ (by omega)];simpa [sortR] using h
 | cons x R =>
  have:=insOuter_list lt R [x] d d.size (by simpa using h) rfl;simpa [sortR,insR] using this
theorem insR_perm {α:Type} (lt:α→α→Bool) (x:α):∀ l:List α,(insR lt x l).Perm (x :: l)
 | []=>.refl _
 | y :: r=>by
  unfold insR;split
  ·exact ((insR_perm lt x r).cons y).trans (.swap x y r)
  ·exact .refl _
theorem sortR_perm {α:Type} (lt:α→α→Bool):∀ (R L:List α),(sortR lt L R).Perm (L++R)
 | [],L=>by simp [sortR]
 | x :: R,L=>by
  unfold sortR;refine (sortR_perm lt R _).trans (((insR_perm lt x L).append_right R).trans ?_);simpa using (List.perm_middle (l₁:=L) (l₂:=R) (a:=x)).symm
theorem sortS_perm {α:Type} (lt:α→α→Bool) (xs:List α):(sortS lt xs).Perm xs:=by
 unfold sortS;exact (List.reverse_perm _).trans (by simpa using sortR_perm lt xs [])
theorem insR_map {α β:Type} (f:α→β) (lt:β→β→Bool) (x:α):∀ l:List α,(insR (fun a b=>lt (f a) (f b)) x l).map f=insR lt (f x) (l.map f)
 | []=>rfl
 | y :: r=>by
  simp only [insR,List.map_cons];split
  ·simp [insR_map f lt x r]
  ·simp
theorem sortR_map {α β:Type} (f:α→β) (lt:β→β→Bool):∀ (R L:List α),(sortR (fun a b=>lt (f a) (f b)) L R).map f=sortR lt (L.map f) (R.map f)
 | [],L=>rfl
 | x :: R,L=>by simp only [sortR,List.map_cons];rw [sortR_map f lt R,insR_map]
theorem sortS_map {α β:Type} (f:α→β) (lt:β→β→Bool) (xs:List α):(sortS (fun a b=>lt (f a) (f b)) xs).map f=sortS lt (xs.map f):=by
 unfold sortS;rw [List.map_reverse,sortR_map];rfl
open Go.RowKit Go.ChangeShapes

def Grew (w w':World):Prop:=∃ q os,w'=grow (w.drewN q) os
theorem Grew.refl (w:World):Grew w w:=⟨0,#[],by rw [grow_empty];rfl⟩
theorem Grew.alloc {w w':World} (h:Grew w w') (o:Obj):Grew w (w'.alloc o):=by
 obtain ⟨q,os,rfl⟩:=h;exact ⟨q,os++#[o],by rw [alloc_eq_grow,grow_grow]⟩
theorem drewN_add (w:World) (a b:Nat):(w.drewN a).drewN b=w.drewN (a+b):=by
 unfold World.drewN;simp [Nat.add_assoc]
theorem Grew.drewN {w w':World} (h:Grew w w') (n:Nat):Grew w (w'.drewN n):=by
 obtain ⟨q,os,rfl⟩:=h;exact ⟨q+n,os,by rw [← drewN_add];rfl⟩
theorem Grew.drew {w w':World} (h:Grew w w'):Grew w w'.drew:=h.drewN 1
theorem Grew.trans {a b c:World} (h:Grew a b) (k:Grew b c):Grew a c:=by
 obtain ⟨q,os,rfl⟩:=k;obtain ⟨p,os1,rfl⟩:=h;exact ⟨p+q,os1++os,by rw [← drewN_add];show grow (grow ((a.drewN p).drewN q) os1) os=_;rw [grow_grow]⟩

theorem cmpI_neg (a b:Int):decide (cmpI a b < 0)=decide (a < b):=by
 unfold cmpI;cases h:decide (a < b)
 ·simp only [Bool.false_eq_true,if_false];split <;> rfl
 ·rfl
theorem neg_of {n:Int} {b:Bool} (h:decide (0≤n)=!b):decide (n < 0)=b:=by
 cases b
 ·simp only [Bool.not_false,decide_eq_true_eq] at h;simp;omega
 ·simp only [Bool.not_true,decide_eq_false_iff_not] at h;simp;omega
def encLic (x:License×Hd):List Value:=[.string x.1.name,.string x.1.family,.int .i64 x.1.version,.string x.1.text]
def encExc (x:Exc×Hd):List Value:=[.string x.1.name,.string x.1.license,.slice x.2.1 x.1.lifts.length x.2.2.2]
def encClause (x:Clause×Hd):List Value:=[.string x.1.license,.int .i64 x.1.way,.int .i64 x.1.relation,.int .i64 x.1.duty,.slice x.2.1 x.1.list.length x.2.2.2]
def encPair (x:Pair×Hd):List Value:=[.string x.1.a,.string x.1.b]
theorem list_of {n:Nat} {y:List Value} (hl:y.length=n) {z:List Value} (hz:z.length=n) (h:∀ j,j < n→y[j]?=z[j]?):y=z:=by
 refine List.ext_getElem? fun j=>?_;by_cases hj:j < n
 ·exact h j hj
 ·rw [List.getElem?_eq_none (by omega),List.getElem?_eq_none (by omega)]
theorem ofLic (w:World) (y:List Value) (x:License) (hl:y.length=Lay.n License) (h:Lay.is w (fun j=>y[j]?) x):∃ hd,y=encLic (x,hd):=by
 obtain ⟨g0,g1,g2,g3,-⟩:=License.is_iff.1 h;refine ⟨(none,0,0),list_of (n:=4) hl rfl fun j hj=>?_⟩;match j,hj with
 | 0,_=>exact g0
 | 1,_=>exact g1
 | 2,_=>exact g2
 | 3,_=>exact g3
theorem ofExc (w:World) (y:List Value) (x:Exc) (hl:y.length=Lay.n Exc) (h:Lay.is w (fun j=>y[j]?) x):∃ hd,y=encExc (x,hd):=by
 obtain ⟨a,c,g0,g1,g2,-⟩:=Exc.is_iff.1 h;refine ⟨(a,0,c),list_of (n:=3) hl rfl fun j hj=>?_⟩;match j,hj with
 | 0,_=>exact g0
 | 1,_=>exact g1
 | 2,_=>exact g2
theorem ofClause (w:World) (y:List Value) (x:Clause) (hl:y.length=Lay.n Clause) (h:Lay.is w (fun j=>y[j]?) x):∃ hd,y=encClause (x,hd):=by
 obtain ⟨a,c,g0,g1,g2,g3,g4,-⟩:=Clause.is_iff.1 h;refine ⟨(a,0,c),list_of (n:=5) hl rfl fun j hj=>?_⟩;match j,hj with
 | 0,_=>exact g0
 | 1,_=>exact g1
 | 2,_=>exact g2
 | 3,_=>exact g3
 | 4,_=>exact g4
theorem ofPair (w:World) (y:List Value) (x:Pair) (hl:y.length=Lay.n Pair) (h:Lay.is w (fun j=>y[j]?) x):∃ hd,y=encPair (x,hd):=by
 obtain ⟨g0,g1,-⟩:=Pair.is_iff.1 h;refine ⟨(none,0,0),list_of (n:=2) hl rfl fun j hj=>?_⟩;match j,hj with
 | 0,_=>exact g0
 | 1,_=>exact g1
theorem zrsort3 {p:Prop} (h:p:=by
 go_wp2;go_ret;exact ⟨rfl,(by repeat (first | exact Grew.refl _ | refine Grew.drew ?_ | refine Grew.alloc ?_ _ | refine Grew.drewN ?_ _))⟩):p:=h
theorem zrsort7 {p:Prop} (h:p:=by
 go_wp2_with fail
 refine (Compare_q x.1.name y.1.name _).mono ?_;rintro e w1 ⟨rfl,rfl⟩;exact zrsort3):p:=h
theorem lessLic (x y:License×Hd) (w:World):Calls Tryz.prog 97 #[.agg (encLic x).toArray,.agg (encLic y).toArray] w fun e w'=>e=.returned (.int .i64 (cmpS x.1.name y.1.name))∧Grew w w':=by
 unfold encLic;go_enter Tryz.func97,Tryz.ntmps97;exact zrsort7
theorem lessExc (x y:Exc×Hd) (w:World):Calls Tryz.prog 100 #[.agg (encExc x).toArray,.agg (encExc y).toArray] w fun e w'=>e=.returned (.int .i64 (cmpS x.1.name y.1.name))∧Grew w w':=by
 unfold encExc;go_enter Tryz.func100,Tryz.ntmps100;exact zrsort7
theorem lessVer (x y:License×Hd) (w:World):Calls Tryz.prog 221 #[.agg (encLic x).toArray,.agg (encLic y).toArray] w fun e w'=>e=.returned (.int .i64 (cmpI x.1.version y.1.version))∧Grew w w':=by
 unfold encLic;go_enter Tryz.func221,Tryz.ntmps221;go_wp2_with fail
 refine (Compare_r x.1.version y.1.version _).mono ?_;rintro e w1 ⟨rfl,rfl⟩;exact zrsort3
theorem lessClause (x y:Clause×Hd) (w:World):Calls Tryz.prog 102 #[.agg (encClause x).toArray,.agg (encClause y).toArray] w fun e w'=>e=.returned (.int .i64 (cmpClause x.1 y.1))∧Grew w w':=by
 unfold encClause;go_enter Tryz.func102,Tryz.ntmps102;go_wp2;refine still_tail 20 (by kernel_rfl) (by kernel_rfl) ?_;simp only [zt];repeat still_step
 still_call (Compare_q x.1.license y.1.license _)
 repeat still_step
 still_call (Compare_r x.1.way y.1.way _)
 repeat still_step
 still_call (Compare_r x.1.relation y.1.relation _)
 repeat still_step
 still_call (Compare_r x.1.duty y.1.duty _)
 repeat still_step
 refine wpStill_nil ?_;go_wp2_with fail
 refine (Or_i _ _ [cmpS x.1.license y.1.license,cmpI x.1.way y.1.way,cmpI x.1.relation y.1.relation,cmpI x.1.duty y.1.duty] ?_).mono ?_
 ·refine (ints_box _ [cmpS x.1.license y.1.license,cmpI x.1.way y.1.way,cmpI x.1.relation y.1.relation,cmpI x.1.duty y.1.duty] _ ?_ (Nat.le_of_ble_eq_true rfl) rfl (by simp)).mono (Below.refl _ _).drew;simp [cmpS_in,cmpI_in]
 rintro e w1 ⟨rfl,rfl⟩;exact zrsort3
theorem lessPair (x y:Pair×Hd) (w:World):Calls Tryz.prog 104 #[.agg (encPair x).toArray,.agg (encPair y).toArray] w fun e w'=>e=.returned (.int .i64 (cmpPair x.1 y.1))∧Grew w w':=by
 unfold encPair;go_enter Tryz.func104,Tryz.ntmps104;go_wp2;refine still_tail 10 (by kernel_rfl) (by kernel_rfl) ?_;simp only [zt];repeat still_step
 still_call (Compare_q x.1.a y.1.a _)
 repeat still_step
 still_call (Compare_q x.1.b y.1.b _)
 repeat still_step
 refine wpStill_nil ?_;go_wp2_with fail
 refine (Or_i _ _ [cmpS x.1.a y.1.a,cmpS x.1.b y.1.b] ?_).mono ?_
 ·refine (ints_box _ [cmpS x.1.a y.1.a,cmpS x.1.b y.1.b] _ ?_ (Nat.le_of_ble_eq_true rfl) rfl (by simp)).mono (Below.refl _ _).drew;simp [cmpS_in,cmpI_in]
 rintro e w1 ⟨rfl,rfl⟩;exact zrsort3
theorem insertLic (blk cap:Nat) (d:Array (License×Hd)) (w:World) (hH:HoldsK encLic (Lay.n License) w blk 0 d) (hblk:blk < w.heap.size) (hsz:d.size < 4611686018427387904) :
  Calls Tryz.prog 200 #[.slice (some ⟨blk,0,none⟩) d.size cap,.int .i64 0,.int .i64 d.size,.func (.func 97) #[] #[]] w fun e w'=>e=.returned (.tuple #[])∧∃ n os,w'=sortWorldK encLic (Lay.n License) w blk 0 n (insertionSort (ltOf (fun x y=>cmpS x.1.name y.1.name)) d 0 d.size) os :=
 AnyQ.insertionSortCmpFunc Tryz.insertionLicense (Lay.n License) Tryz.isAgg106 Tryz.sizeOf106 encLic (fun _=>rfl) (fun x v hv=>by simp [encLic] at hv;rcases hv with rfl | rfl | rfl | rfl <;> rfl) (fun x y=>cmpS x.1.name y.1.name) 97 #[] blk 0 cap 0 d.size d w
  (enters_of Tryz.func97 (by kernel_rfl) rfl) (fun _ _ _ _ x y=>(lessLic x y _).mono fun _ _ h=>h) hH hblk (Nat.zero_le _) (Nat.le_refl _) hsz
theorem zrsort0 {p:Prop} (h:p:=by
 go_wp2;refine wp_loop_rounds 1 ?_;rw [rounds_succ];go_wp2_with fail
 refine hcon.mono ?_;rintro e w1 ⟨rfl,m,os,rfl⟩;go_wp2;refine wp_loop_rounds 1 ?_;rw [rounds_succ];go_wp2;go_end0
 go_wp2;go_end0
 exact ⟨rfl,m,os,rfl⟩):p:=h
theorem stableRowLic (blk cap:Nat) (d:Array (License×Hd)) (w:World) (hH:HoldsK encLic (Lay.n License) w blk 0 d) (hblk:blk < w.heap.size) (h20:d.size < 20) :
  Calls Tryz.prog 96 #[.slice (some ⟨blk,0,none⟩) d.size cap,.func (.func 97) #[] #[]] w fun e w'=>e=.returned (.tuple #[])∧∃ n os,w'=sortWorldK encLic (Lay.n License) w blk 0 n (insertionSort (ltOf (fun x y=>cmpS x.1.name y.1.name)) d 0 d.size) os:=by
 have hcon:=insertLic blk cap d w hH hblk (by omega);clear hH;generalize insertionSort (ltOf (fun x y=>cmpS x.1.name y.1.name)) d 0 d.size=r at hcon ⊢;have q1:decide ((20:Int)≤(d.size:Int))=false:=by simp;omega
 have q2:decide ((20:Int) < (d.size:Int))=false:=by simp;omega
 generalize d.size=n at *;go_enter Tryz.func96,Tryz.ntmps96;go_wp2_with fail
 go_enter Tryz.func147,Tryz.ntmps147;exact zrsort0
theorem zrsort4 {p:Prop} (h:p:=by
 go_wp2;refine wp_loop_rounds 1 ?_;rw [rounds_succ];go_wp2;go_end0
 exact ⟨rfl,rfl⟩):p:=h
theorem insertNilLic (a:Option Addr) (c:Nat) (w:World):Calls Tryz.prog 200 #[.slice a 0 c,.int .i64 0,.int .i64 0,.func (.func 97) #[] #[]] w fun e w'=>e=.returned (.tuple #[])∧w'=w:=by
 go_enter Tryz.func200,Tryz.ntmps200;exact zrsort4
theorem zrsort1 {p:Prop} (h:p:=by
 go_wp2;refine wp_loop_rounds 1 ?_;rw [rounds_succ];go_wp2_with fail
 refine hcon.mono ?_;rintro e w1 ⟨rfl,rfl⟩;go_wp2;refine wp_loop_rounds 1 ?_;rw [rounds_succ];go_wp2;go_end0
 go_wp2;go_end0
 exact ⟨rfl,rfl⟩):p:=h
theorem stableNilLic (a:Option Addr) (c:Nat) (w:World):Calls Tryz.prog 96 #[.slice a 0 c,.func (.func 97) #[] #[]] w fun e w'=>e=.returned (.tuple #[])∧w'=w:=by
 have hcon:=insertNilLic a c w;go_enter Tryz.func96,Tryz.ntmps96;go_wp2_with fail
 go_enter Tryz.func147,Tryz.ntmps147;exact zrsort1
theorem zqsort0 {p:Prop} (h:p:=by
 rcases hv with ⟨rfl,-⟩ | ⟨g,cap,cur,rfl,-⟩
 ·exact ⟨_,_,rfl⟩
 ·exact ⟨_,_,rfl⟩):p:=h
theorem zrsort2 {p:Prop} (h:p:=by
 have hl:(insertionSort (ltOf (fun x y=>cmpS x.1.name y.1.name)) d 0 d.size).toList=sortS (fun a b=>(fun a b=>slt a.name b.name) a.1 b.1) d.toList:=by
  rw [insertionSort_list];congr 1;funext x y
  exact cmpS_neg _ _
 obtain ⟨p1,p2,p3⟩:=hpost (insertionSort (ltOf (fun x y=>cmpS x.1.name y.1.name)) d 0 d.size) m os (by rw [hl];exact sortS_perm _ _);have e3:(insertionSort (ltOf (fun x y=>cmpS x.1.name y.1.name)) d 0 d.size).toList.map Prod.fst=sortS (fun a b=>slt a.name b.name) xs:=by
  rw [hl];have e4:=sortS_map Prod.fst (fun a b=>slt a.name b.name) d.toList;rw [hd] at e4;exact e4
 rw [e3] at p1;exact ⟨rfl,p1,p2,p3⟩):p:=h
theorem zrsort6 {p:Prop} (h:p:=by
 exact ⟨rfl,h,Below.refl _ _,Agree.refl _ _ _⟩):p:=h
theorem stableLic {B:Nat} {E:TypeId→Prop} {w:World} {v:Value} {xs:List License} (h:OwnL B E 106 w v xs) (hE:E 106) (h20:xs.length < 20) :
  Calls Tryz.prog 96 #[v,.func (.func 97) #[] #[]] w fun e w'=>e=.returned (.tuple #[])∧OwnL B E 106 w' v (sortS (fun a b=>slt a.name b.name) xs)∧Below B w w'∧Agree B (·=106) w w':=by
 by_cases hne:xs=[]
 ·subst hne;obtain ⟨cs,-,hv⟩:=h.row;obtain ⟨a,c,rfl⟩:∃ a c,v=.slice a 0 c:=by exact zqsort0
  refine (stableNilLic a c w).mono ?_;rintro e w' ⟨rfl,rfl⟩;exact zrsort6
 ·obtain ⟨g,cap,d,rfl,hg,hB,hd,hH,hpost⟩:=h.sorted hE encLic (fun _=>rfl) (by decide) ofLic hne;have hds:d.size=xs.length:=by rw [← hd];simp
  refine (stableRowLic g cap d w hH hg (by omega)).mono ?_;rintro e w' ⟨rfl,m,os,rfl⟩;exact zrsort2
theorem insertExc (blk cap:Nat) (d:Array (Exc×Hd)) (w:World) (hH:HoldsK encExc (Lay.n Exc) w blk 0 d) (hblk:blk < w.heap.size) (hsz:d.size < 4611686018427387904) :
  Calls Tryz.prog 202 #[.slice (some ⟨blk,0,none⟩) d.size cap,.int .i64 0,.int .i64 d.size,.func (.func 100) #[] #[]] w fun e w'=>e=.returned (.tuple #[])∧∃ n os,w'=sortWorldK encExc (Lay.n Exc) w blk 0 n (insertionSort (ltOf (fun x y=>cmpS x.1.name y.1.name)) d 0 d.size) os :=
 AnyQ.insertionSortCmpFunc Tryz.insertionExc (Lay.n Exc) Tryz.isAgg145 Tryz.sizeOf145 encExc (fun _=>rfl) (fun x v hv=>by simp [encExc] at hv;rcases hv with rfl | rfl | rfl <;> rfl) (fun x y=>cmpS x.1.name y.1.name) 100 #[] blk 0 cap 0 d.size d w
  (enters_of Tryz.func100 (by kernel_rfl) rfl) (fun _ _ _ _ x y=>(lessExc x y _).mono fun _ _ h=>h) hH hblk (Nat.zero_le _) (Nat.le_refl _) hsz
theorem stableRowExc (blk cap:Nat) (d:Array (Exc×Hd)) (w:World) (hH:HoldsK encExc (Lay.n Exc) w blk 0 d) (hblk:blk < w.heap.size) (h20:d.size < 20) :
  Calls Tryz.prog 99 #[.slice (some ⟨blk,0,none⟩) d.size cap,.func (.func 100) #[] #[]] w fun e w'=>e=.returned (.tuple #[])∧∃ n os,w'=sortWorldK encExc (Lay.n Exc) w blk 0 n (insertionSort (ltOf (fun x y=>cmpS x.1.name y.1.name)) d 0 d.size) os:=by
 have hcon:=insertExc blk cap d w hH hblk (by omega);clear hH;generalize insertionSort (ltOf (fun x y=>cmpS x.1.name y.1.name)) d 0 d.size=r at hcon ⊢;have q1:decide ((20:Int)≤(d.size:Int))=false:=by simp;omega
 have q2:decide ((20:Int) < (d.size:Int))=false:=by simp;omega
 generalize d.size=n at *;go_enter Tryz.func99,Tryz.ntmps99;go_wp2_with fail
 go_enter Tryz.func149,Tryz.ntmps149;exact zrsort0
theorem insertNilExc (a:Option Addr) (c:Nat) (w:World):Calls Tryz.prog 202 #[.slice a 0 c,.int .i64 0,.int .i64 0,.func (.func 100) #[] #[]] w fun e w'=>e=.returned (.tuple #[])∧w'=w:=by
 go_enter Tryz.func202,Tryz.ntmps202;exact zrsort4
theorem stableNilExc (a:Option Addr) (c:Nat) (w:World):Calls Tryz.prog 99 #[.slice a 0 c,.func (.func 100) #[] #[]] w fun e w'=>e=.returned (.tuple #[])∧w'=w:=by
 have hcon:=insertNilExc a c w;go_enter Tryz.func99,Tryz.ntmps99;go_wp2_with fail
 go_enter Tryz.func149,Tryz.ntmps149;exact zrsort1
theorem stableExc {B:Nat} {E:TypeId→Prop} {w:World} {v:Value} {xs:List Exc} (h:OwnL B E 145 w v xs) (hE:E 145) (h20:xs.length < 20) :
  Calls Tryz.prog 99 #[v,.func (.func 100) #[] #[]] w fun e w'=>e=.returned (.tuple #[])∧OwnL B E 145 w' v (sortS (fun a b=>slt a.name b.name) xs)∧Below B w w'∧Agree B (·=145) w w':=by
 by_cases hne:xs=[]
 ·subst hne;obtain ⟨cs,-,hv⟩:=h.row;obtain ⟨a,c,rfl⟩:∃ a c,v=.slice a 0 c:=by exact zqsort0
  refine (stableNilExc a c w).mono ?_;rintro e w' ⟨rfl,rfl⟩;exact zrsort6
 ·obtain ⟨g,cap,d,rfl,hg,hB,hd,hH,hpost⟩:=h.sorted hE encExc (fun _=>rfl) (by decide) ofExc hne;have hds:d.size=xs.length:=by rw [← hd];simp
  refine (stableRowExc g cap d w hH hg (by omega)).mono ?_;rintro e w' ⟨rfl,m,os,rfl⟩;exact zrsort2
theorem insertClause (blk cap:Nat) (d:Array (Clause×Hd)) (w:World) (hH:HoldsK encClause (Lay.n Clause) w blk 0 d) (hblk:blk < w.heap.size) (hsz:d.size < 4611686018427387904) :
  Calls Tryz.prog 204 #[.slice (some ⟨blk,0,none⟩) d.size cap,.int .i64 0,.int .i64 d.size,.func (.func 102) #[] #[]] w fun e w'=>e=.returned (.tuple #[])∧∃ n os,w'=sortWorldK encClause (Lay.n Clause) w blk 0 n (insertionSort (ltOf (fun x y=>cmpClause x.1 y.1)) d 0 d.size) os :=
 AnyQ.insertionSortCmpFunc Tryz.insertionClause (Lay.n Clause) Tryz.isAgg74 Tryz.sizeOf74 encClause (fun _=>rfl) (fun x v hv=>by simp [encClause] at hv;rcases hv with rfl | rfl | rfl | rfl | rfl <;> rfl) (fun x y=>cmpClause x.1 y.1) 102 #[] blk 0 cap 0 d.size d w
  (enters_of Tryz.func102 (by kernel_rfl) rfl) (fun _ _ _ _ x y=>(lessClause x y _).mono fun _ _ h=>h) hH hblk (Nat.zero_le _) (Nat.le_refl _) hsz
theorem stableRowClause (blk cap:Nat) (d:Array (Clause×Hd)) (w:World) (hH:HoldsK encClause (Lay.n Clause) w blk 0 d) (hblk:blk < w.heap.size) (h20:d.size < 20) :
  Calls Tryz.prog 101 #[.slice (some ⟨blk,0,none⟩) d.size cap,.func (.func 102) #[] #[]] w fun e w'=>e=.returned (.tuple #[])∧∃ n os,w'=sortWorldK encClause (Lay.n Clause) w blk 0 n (insertionSort (ltOf (fun x y=>cmpClause x.1 y.1)) d 0 d.size) os:=by
 have hcon:=insertClause blk cap d w hH hblk (by omega);clear hH;generalize insertionSort (ltOf (fun x y=>cmpClause x.1 y.1)) d 0 d.size=r at hcon ⊢;have q1:decide ((20:Int)≤(d.size:Int))=false:=by simp;omega
 have q2:decide ((20:Int) < (d.size:Int))=false:=by simp;omega
 generalize d.size=n at *;go_enter Tryz.func101,Tryz.ntmps101;go_wp2_with fail
 go_enter Tryz.func150,Tryz.ntmps150;exact zrsort0
theorem insertNilClause (a:Option Addr) (c:Nat) (w:World):Calls Tryz.prog 204 #[.slice a 0 c,.int .i64 0,.int .i64 0,.func (.func 102) #[] #[]] w fun e w'=>e=.returned (.tuple #[])∧w'=w:=by
 go_enter Tryz.func204,Tryz.ntmps204;exact zrsort4
theorem stableNilClause (a:Option Addr) (c:Nat) (w:World):Calls Tryz.prog 101 #[.slice a 0 c,.func (.func 102) #[] #[]] w fun e w'=>e=.returned (.tuple #[])∧w'=w:=by
 have hcon:=insertNilClause a c w;go_enter Tryz.func101,Tryz.ntmps101;go_wp2_with fail
 go_enter Tryz.func150,Tryz.ntmps150;exact zrsort1
theorem stableClause {B:Nat} {E:TypeId→Prop} {w:World} {v:Value} {xs:List Clause} (h:OwnL B E 74 w v xs) (hE:E 74) (h20:xs.length < 20) :
  Calls Tryz.prog 101 #[v,.func (.func 102) #[] #[]] w fun e w'=>e=.returned (.tuple #[])∧OwnL B E 74 w' v (sortS (clauseLt) xs)∧Below B w w'∧Agree B (·=74) w w':=by
 by_cases hne:xs=[]
 ·subst hne;obtain ⟨cs,-,hv⟩:=h.row;obtain ⟨a,c,rfl⟩:∃ a c,v=.slice a 0 c:=by exact zqsort0
  refine (stableNilClause a c w).mono ?_;rintro e w' ⟨rfl,rfl⟩;exact zrsort6
 ·obtain ⟨g,cap,d,rfl,hg,hB,hd,hH,hpost⟩:=h.sorted hE encClause (fun _=>rfl) (by decide) ofClause hne;have hds:d.size=xs.length:=by rw [← hd];simp
  refine (stableRowClause g cap d w hH hg (by omega)).mono ?_;rintro e w' ⟨rfl,m,os,rfl⟩;have hl:(insertionSort (ltOf (fun x y=>cmpClause x.1 y.1)) d 0 d.size).toList=sortS (fun a b=>(clauseLt) a.1 b.1) d.toList:=by
   rw [insertionSort_list];congr 1;funext x y
   exact neg_of (cmpClause_lt _ _)
  obtain ⟨p1,p2,p3⟩:=hpost (insertionSort (ltOf (fun x y=>cmpClause x.1 y.1)) d 0 d.size) m os (by rw [hl];exact sortS_perm _ _);have e3:(insertionSort (ltOf (fun x y=>cmpClause x.1 y.1)) d 0 d.size).toList.map Prod.fst=sortS (clauseLt) xs:=by
   rw [hl];have e4:=sortS_map Prod.fst (clauseLt) d.toList;rw [hd] at e4;exact e4
  rw [e3] at p1;exact ⟨rfl,p1,p2,p3⟩
theorem insertPair (blk cap:Nat) (d:Array (Pair×Hd)) (w:World) (hH:HoldsK encPair (Lay.n Pair) w blk 0 d) (hblk:blk < w.heap.size) (hsz:d.size < 4611686018427387904) :
  Calls Tryz.prog 206 #[.slice (some ⟨blk,0,none⟩) d.size cap,.int .i64 0,.int .i64 d.size,.func (.func 104) #[] #[]] w fun e w'=>e=.returned (.tuple #[])∧∃ n os,w'=sortWorldK encPair (Lay.n Pair) w blk 0 n (insertionSort (ltOf (fun x y=>cmpPair x.1 y.1)) d 0 d.size) os :=
 AnyQ.insertionSortCmpFunc Tryz.insertionPair (Lay.n Pair) Tryz.isAgg151 Tryz.sizeOf151 encPair (fun _=>rfl) (fun x v hv=>by simp [encPair] at hv;rcases hv with rfl | rfl <;> rfl) (fun x y=>cmpPair x.1 y.1) 104 #[] blk 0 cap 0 d.size d w
  (enters_of Tryz.func104 (by kernel_rfl) rfl) (fun _ _ _ _ x y=>(lessPair x y _).mono fun _ _ h=>h) hH hblk (Nat.zero_le _) (Nat.le_refl _) hsz
theorem stableRowPair (blk cap:Nat) (d:Array (Pair×Hd)) (w:World) (hH:HoldsK encPair (Lay.n Pair) w blk 0 d) (hblk:blk < w.heap.size) (h20:d.size < 20) :
  Calls Tryz.prog 103 #[.slice (some ⟨blk,0,none⟩) d.size cap,.func (.func 104) #[] #[]] w fun e w'=>e=.returned (.tuple #[])∧∃ n os,w'=sortWorldK encPair (Lay.n Pair) w blk 0 n (insertionSort (ltOf (fun x y=>cmpPair x.1 y.1)) d 0 d.size) os:=by
 have hcon:=insertPair blk cap d w hH hblk (by omega);clear hH;generalize insertionSort (ltOf (fun x y=>cmpPair x.1 y.1)) d 0 d.size=r at hcon ⊢;have q1:decide ((20:Int)≤(d.size:Int))=false:=by simp;omega
 have q2:decide ((20:Int) < (d.size:Int))=false:=by simp;omega
 generalize d.size=n at *;go_enter Tryz.func103,Tryz.ntmps103;go_wp2_with fail
 go_enter Tryz.func151,Tryz.ntmps151;exact zrsort0
theorem insertNilPair (a:Option Addr) (c:Nat) (w:World):Calls Tryz.prog 206 #[.slice a 0 c,.int .i64 0,.int .i64 0,.func (.func 104) #[] #[]] w fun e w'=>e=.returned (.tuple #[])∧w'=w:=by
 go_enter Tryz.func206,Tryz.ntmps206;exact zrsort4
theorem stableNilPair (a:Option Addr) (c:Nat) (w:World):Calls Tryz.prog 103 #[.slice a 0 c,.func (.func 104) #[] #[]] w fun e w'=>e=.returned (.tuple #[])∧w'=w:=by
 have hcon:=insertNilPair a c w;go_enter Tryz.func103,Tryz.ntmps103;go_wp2_with fail
 go_enter Tryz.func151,Tryz.ntmps151;exact zrsort1
theorem stablePair {B:Nat} {E:TypeId→Prop} {w:World} {v:Value} {xs:List Pair} (h:OwnL B E 151 w v xs) (hE:E 151) (h20:xs.length < 20) :
  Calls Tryz.prog 103 #[v,.func (.func 104) #[] #[]] w fun e w'=>e=.returned (.tuple #[])∧OwnL B E 151 w' v (sortS (pairLt) xs)∧Below B w w'∧Agree B (·=151) w w':=by
 by_cases hne:xs=[]
 ·subst hne;obtain ⟨cs,-,hv⟩:=h.row;obtain ⟨a,c,rfl⟩:∃ a c,v=.slice a 0 c:=by exact zqsort0
  refine (stableNilPair a c w).mono ?_;rintro e w' ⟨rfl,rfl⟩;exact zrsort6
 ·obtain ⟨g,cap,d,rfl,hg,hB,hd,hH,hpost⟩:=h.sorted hE encPair (fun _=>rfl) (by decide) ofPair hne;have hds:d.size=xs.length:=by rw [← hd];simp
  refine (stableRowPair g cap d w hH hg (by omega)).mono ?_;rintro e w' ⟨rfl,m,os,rfl⟩;have hl:(insertionSort (ltOf (fun x y=>cmpPair x.1 y.1)) d 0 d.size).toList=sortS (fun a b=>(pairLt) a.1 b.1) d.toList:=by
   rw [insertionSort_list];congr 1;funext x y
   exact neg_of (cmpPair_lt _ _)
  obtain ⟨p1,p2,p3⟩:=hpost (insertionSort (ltOf (fun x y=>cmpPair x.1 y.1)) d 0 d.size) m os (by rw [hl];exact sortS_perm _ _);have e3:(insertionSort (ltOf (fun x y=>cmpPair x.1 y.1)) d 0 d.size).toList.map Prod.fst=sortS (pairLt) xs:=by
   rw [hl];have e4:=sortS_map Prod.fst (pairLt) d.toList;rw [hd] at e4;exact e4
  rw [e3] at p1;exact ⟨rfl,p1,p2,p3⟩
end Go.Proofs.YtcbopdbbcgdkcaaGreatDoor
