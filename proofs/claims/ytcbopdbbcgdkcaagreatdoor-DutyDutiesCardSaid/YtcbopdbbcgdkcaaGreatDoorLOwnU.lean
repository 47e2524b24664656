/- Lemmas. -/
import Derived.Test.YtcbopdbbcgdkcaaGreatDoorLReadU
set_option linter.all false
namespace Go.Proofs.YtcbopdbbcgdkcaaGreatDoor
open Go Go.RowKit Go.ChangeShapes
def putMany (cur:Array Value):Nat→List Value→Array Value
 | _,[]=>cur
 | o,v :: r=>putMany (cur.setIfInBounds o v) (o+1) r
theorem putMany_size:∀ (y:List Value) (cur:Array Value) (o:Nat),(putMany cur o y).size=cur.size
 | [],_,_=>rfl
 | v :: r,cur,o=>by rw [putMany,putMany_size r];simp
theorem putMany_get:∀ (y:List Value) (cur:Array Value) (o k:Nat),o+y.length≤cur.size→(putMany cur o y)[k]?=if o≤k∧k < o+y.length then y[k - o]? else cur[k]?
 | [],cur,o,k,_=>by rw [putMany,if_neg (by simp)]
 | v :: r,cur,o,k,h=>by
  simp only [List.length_cons] at h;rw [putMany,putMany_get r _ _ _ (by simp;omega)];simp only [List.length_cons];by_cases h1:o+1≤k∧k < o+1+r.length
  ·rw [if_pos h1,if_pos (by omega),show k - o=(k - (o+1))+1 by omega,List.getElem?_cons_succ]
  ·rw [if_neg h1];by_cases h2:k=o
   ·subst h2;rw [if_pos (by omega),Nat.sub_self,Array.getElem?_setIfInBounds_self,if_pos (by omega)];rfl
   ·rw [if_neg (by omega),Array.getElem?_setIfInBounds_ne (by omega)]
theorem setCells_obj (g:Nat) {e:TypeId} {fr:Nat×Nat}:∀ (y:List Value) (o:Nat) (w:World) (cur:Array Value),w.heap[g]?=some (.cells cur e fr)→(w.setCells g o y).heap[g]?=some (.cells (putMany cur o y) e fr)
 | [],_,_,_,h=>h
 | v :: r,o,w,cur,h=>by
  rw [World.setCells,putMany];exact setCells_obj g r (o+1) _ _ (setCell_obj w g o v h)
theorem setCells_other (g:Nat) {k:Nat} (hk:k≠g):∀ (y:List Value) (o:Nat) (w:World),(w.setCells g o y).heap[k]?=w.heap[k]?
 | [],_,_=>rfl
 | v :: r,o,w=>by
  rw [World.setCells,setCells_other g hk r,blk_set_other _ _ _ _ hk]
theorem setCells_size (g:Nat):∀ (y:List Value) (o:Nat) (w:World),(w.setCells g o y).heap.size=w.heap.size
 | [],_,_=>rfl
 | v :: r,o,w=>by rw [World.setCells,setCells_size g r];simp [World.setCell]
theorem agree_setCells {B:Nat} {w:World} {g o:Nat} {y:List Value} {cur:Array Value} {e:TypeId} {fr:Nat×Nat} (hB:B≤g) (h:w.heap[g]?=some (.cells cur e fr)):Agree B (·=e) w (w.setCells g o y):=by
 refine ⟨Nat.le_of_eq (setCells_size g y o w).symm,fun k hk hc=>setCells_other g (fun hkg=>?_) y o w⟩;subst hkg;rcases hc with hc | hc
 ·exact absurd hc (Nat.not_lt.2 hB)
 ·exact hc ⟨_,_,_,rfl,h⟩
theorem below_setCellsO {B g:Nat} (hB:B≤g):∀ (y:List Value) (o:Nat) (w0 w:World),Below B w0 w→Below B w0 (w.setCells g o y)
 | [],_,_,_,h=>h
 | v :: r,o,w0,w,h=>by
  rw [World.setCells];exact below_setCellsO hB r (o+1) w0 _ (h.setCell hB _)
section
variable {α:Type} [Lay α] {B:Nat} {E:TypeId→Prop} {e:TypeId} {w:World} {g cap:Nat} {xs:List α}
theorem OwnL.elem {a:Option Addr} {n c:Nat} (h:OwnL B E e w (.slice a n c) xs) {j:Nat} {x:α} (hx:xs[j]?=some x) :
  ∃ (g:Nat) (y:List Value),a=some ⟨g,0,none⟩∧n=xs.length∧B≤g∧g < w.heap.size∧y.length=Lay.n α∧(∀ q u,y[q]?=some u→w.cell? ⟨g,j * Lay.n α+q,none⟩=some u∧w.frozen? ⟨g,j * Lay.n α+q,none⟩=false)∧(∀ w',Agree B E w w'→Lay.is w' (fun q=>y[q]?) x)∧∃ cur,w.heap[g]?=some (.cells cur e (0,0)):=by
 obtain ⟨ys,h1,⟨h2,h2'⟩,h3⟩:=h;have hj:=lt_get hx;rcases h2' with ⟨he,h0⟩ | ⟨g,cap,cur,he,hg,hh,hn',hc,hsz,ht⟩
 ·omega
 ·cases he;obtain ⟨y,hy⟩:=get_lt (xs:=ys) (k:=j) (by omega);obtain ⟨hl,hs⟩:=h3 j y x hy hx;have hall:=OwnL.all (P:=fun z=>z.length=Lay.n α) h1 (fun i y x hy hx=>(h3 i y x hy hx).1);refine ⟨g,y,rfl,rfl,hg,?_,hl,fun q u hq=>⟨objcell hh ?_,objfrozen hh⟩,hs,cur,hh⟩
  ·rcases Nat.lt_or_ge g w.heap.size with h | h
   ·exact h
   ·rw [Array.getElem?_eq_none h] at hh;cases hh
  ·have hq':q < Lay.n α:=by rw [← hl];exact lt_get hq
   have e1:j * Lay.n α+q < xs.length * Lay.n α:=by
    have:(j+1) * Lay.n α≤xs.length * Lay.n α:=Nat.mul_le_mul_right _ hj;rw [Nat.succ_mul] at this;omega
   have e2:=flatten_get ys j q y hall hy hq';rw [← ht,List.getElem?_take,if_pos e1,hq] at e2;simpa using e2
theorem flatten_set {n:Nat}:∀ (ys:List (List Value)) (i:Nat) (y:List Value),(∀ z∈ys,z.length=n)→y.length=n→i < ys.length→∀ k,(ys.set i y).flatten[k]?=if i * n≤k∧k < i * n+n then y[k - i * n]? else ys.flatten[k]?
 | [],i,y,_,_,h,k=>by simp at h
 | z :: ys,0,y,hl,hy,_,k=>by
  have hz:=hl z (by simp);simp only [List.set_cons_zero,List.flatten_cons,Nat.zero_mul,Nat.zero_le,true_and,Nat.zero_add,Nat.sub_zero];by_cases h:k < n
  ·rw [if_pos h,List.getElem?_append_left (by omega)]
  ·rw [if_neg h,List.getElem?_append_right (by omega),List.getElem?_append_right (by omega),hy,hz]
 | z :: ys,i+1,y,hl,hy,hi,k=>by
  have hz:=hl z (by simp);simp only [List.set_cons_succ,List.flatten_cons];by_cases h:k < n
  ·rw [List.getElem?_append_left (by omega),List.getElem?_append_left (by omega),if_neg (by rw [Nat.succ_mul];omega)]
  ·rw [List.getElem?_append_right (by omega),List.getElem?_append_right (by omega),hz];rw [flatten_set ys i y (fun u hu=>hl u (by simp [hu])) hy (by simpa using hi) (k - n),Nat.succ_mul];by_cases h2:i * n≤k - n∧k - n < i * n+n
   ·rw [if_pos h2,if_pos (by omega)];congr 1;omega
   ·rw [if_neg h2,if_neg (by omega)]
theorem OwnL.put {n c:Nat} (h:OwnL B E e w (.slice (some ⟨g,0,none⟩) n c) xs) (hE:E e) {i:Nat} (hi:i < xs.length) {y:List Value} {x:α} (hl:y.length=Lay.n α) (hs:∀ w',Agree B E w w'→Lay.is w' (fun q=>y[q]?) x) :
  OwnL B E e (w.setCells g (i * Lay.n α) y) (.slice (some ⟨g,0,none⟩) n c) (xs.set i x):=by
 obtain ⟨ys,k1,⟨h2,h2'⟩,h3⟩:=h;rcases h2' with ⟨he,h0⟩ | ⟨g',cap',cur,he,hg,hh,hn',hc,hsz,ht⟩
 ·omega
 ·cases he;have hall:=OwnL.all (P:=fun z=>z.length=Lay.n α) k1 (fun i y x hy hx=>(h3 i y x hy hx).1);have hAg:Agree B E w (w.setCells g (i * Lay.n α) y):=(agree_setCells hg hh).mono fun z hz=>hz ▸ hE;have hcap:i * Lay.n α+Lay.n α≤xs.length * Lay.n α:=by
   have:(i+1) * Lay.n α≤xs.length * Lay.n α:=Nat.mul_le_mul_right _ hi;rw [Nat.succ_mul] at this;exact this
  have hfl:ys.flatten.length=xs.length * Lay.n α:=by rw [← h2]
  have hcs:xs.length * Lay.n α≤cur.size:=by rw [hsz];exact Nat.mul_le_mul_right _ hn'
  have hset:(putMany cur (i * Lay.n α) y).toList.take (xs.length * Lay.n α)=(ys.set i y).flatten:=by
   refine List.ext_getElem? fun k=>?_;rw [flatten_set ys i y hall hl (by omega) k,List.getElem?_take];by_cases hk:k < xs.length * Lay.n α
   ·rw [if_pos hk,Array.getElem?_toList,putMany_get y cur _ k (by omega),hl];by_cases h5:i * Lay.n α≤k∧k < i * Lay.n α+Lay.n α
    ·rw [if_pos h5,if_pos h5]
    ·rw [if_neg h5,if_neg h5,← ht,List.getElem?_take,if_pos hk,Array.getElem?_toList]
   ·rw [if_neg hk,if_neg (by omega),List.getElem?_eq_none (by omega)]
  refine ⟨ys.set i y,by simp [k1],⟨?_,.inr ⟨g,c,putMany cur (i * Lay.n α) y,by rw [List.length_set],hg,setCells_obj g y _ w cur hh,by rw [List.length_set];exact hn',hc,by rw [putMany_size];exact hsz,by rw [List.length_set];exact hset⟩⟩,?_⟩
  ·have hz:(putMany cur (i * Lay.n α) y).toList.length=cur.size:=by rw [Array.length_toList,putMany_size]
   rw [List.length_set,← hset,List.length_take,hz];omega
  ·intro q z v hz hv;by_cases hq:q=i
   ·subst hq;rw [List.getElem?_set_self (by omega)] at hz;rw [List.getElem?_set_self hi] at hv;cases hz;cases hv;exact ⟨hl,fun w' hw=>hs w' (hAg.trans hw)⟩
   ·rw [List.getElem?_set_ne (by omega)] at hz hv;exact ⟨(h3 q z v hz hv).1,fun w' hw=>(h3 q z v hz hv).2 w' (hAg.trans hw)⟩
theorem OwnL.cut {n c:Nat} (h:OwnL B E e w (.slice (some ⟨g,0,none⟩) n c) xs) (hE:E e) {m:Nat} (hm:m≤xs.length) (y:List Value) (hy:m * Lay.n α+y.length≤xs.length * Lay.n α) :
  OwnL B E e (w.setCells g (m * Lay.n α) y) (.slice (some ⟨g,0,none⟩) m c) (xs.take m):=by
 obtain ⟨ys,k1,⟨h2,h2'⟩,h3⟩:=h;rcases h2' with ⟨he,h0⟩ | ⟨g',cap',cur,he,hg,hh,hn',hc,hsz,ht⟩
 ·cases he
 ·cases he;have hall:=OwnL.all (P:=fun z=>z.length=Lay.n α) k1 (fun i y x hy hx=>(h3 i y x hy hx).1);have hAg:Agree B E w (w.setCells g (m * Lay.n α) y):=(agree_setCells hg hh).mono fun z hz=>hz ▸ hE;have hfl:ys.flatten.length=xs.length * Lay.n α:=by rw [← h2]
  have hcs:xs.length * Lay.n α≤cur.size:=by rw [hsz];exact Nat.mul_le_mul_right _ hn'
  have hmx:m * Lay.n α≤xs.length * Lay.n α:=Nat.mul_le_mul_right _ hm;have htl:(xs.take m).length=m:=by rw [List.length_take];omega
  have hft:(ys.take m).flatten=ys.flatten.take (m * Lay.n α):=by
   have key:∀ (ys:List (List Value)) (m:Nat),(∀ z∈ys,z.length=Lay.n α)→(ys.take m).flatten=ys.flatten.take (m * Lay.n α):=by
    intro ys;induction ys with
    | nil=>intro m _;simp
    | cons z r ih =>
     intro m hz;cases m with
     | zero=>simp
     | succ m =>
      have hzz:=hz z (by simp);rw [List.take_succ_cons,List.flatten_cons,List.flatten_cons,ih m fun u hu=>hz u (by simp [hu]),Nat.succ_mul,List.take_append,hzz];rw [List.take_of_length_le (l:=z) (by omega)];congr 2;omega
   exact key ys m hall
  refine ⟨ys.take m,by simp [k1],⟨?_,.inr ⟨g,c,putMany cur (m * Lay.n α) y,by rw [htl],hg,setCells_obj g y _ w cur hh,by rw [htl];omega,hc,by rw [putMany_size];exact hsz,?_⟩⟩,?_⟩
  ·rw [hft,List.length_take,htl,hfl];omega
  ·rw [htl,hft,← ht,List.take_take,Nat.min_eq_left hmx];refine List.ext_getElem? fun k=>?_;rw [List.getElem?_take,List.getElem?_take];by_cases hk:k < m * Lay.n α
   ·rw [if_pos hk,if_pos hk,Array.getElem?_toList,Array.getElem?_toList,putMany_get y cur _ k (by omega),if_neg (by omega)]
   ·rw [if_neg hk,if_neg hk]
  ·intro q z v hz hv;rw [List.getElem?_take] at hz hv;split at hz
   ·rename_i hq
    rw [if_pos hq] at hv;exact ⟨(h3 q z v hz hv).1,fun w' hw=>(h3 q z v hz hv).2 w' (hAg.trans hw)⟩
   ·cases hz
end
end Go.Proofs.YtcbopdbbcgdkcaaGreatDoor
