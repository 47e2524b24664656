/- Lemmas. -/
import Derived.Test.YtcbopdbbcgdkcaaGreatDoorJMeanU
import Derived.Test.YtcbopdbbcgdkcaaGreatDoorJLookU
import Derived.Test.YtcbopdbbcgdkcaaGreatDoorJR33U
set_option linter.all false
namespace Go.Proofs.YtcbopdbbcgdkcaaGreatDoor
open Go Go.RowKit Go.ChangeShapes
open Go.Sort Go.Lib

section
variable {α:Type} [Lay α] {B:Nat} {E:TypeId→Prop} {e:TypeId} {w w':World} {v:Value} {xs:List α}
end

end Go.Proofs.YtcbopdbbcgdkcaaGreatDoor
namespace Go.Proofs.YtcbopdbbcgdkcaaGreatDoor
open Go Go.RowKit Go.ChangeShapes
open Go.Lib

def OwnW {α:Type} [Lay α] (B0 B:Nat) (E:TypeId→Prop) (e:TypeId) (w:World) (v:Value) (xs:List α):Prop:=OwnL B0 E e w v xs∧∃ cs,w.ownsRow B e (Lay.n α) v xs.length cs
section
variable {α:Type} [Lay α] {B0 B:Nat} {E:TypeId→Prop} {e:TypeId} {w w':World} {v:Value} {xs:List α}
theorem OwnW.is (h:OwnW B0 B E e w v xs):Is w v xs:=h.1.is
theorem wpo_appW {P:Program} {t:TypeId} {z:Value} {bytes:Nat} (hinfo:(P.info? e).map (fun i=>(i.zero,i.size,i.bytes))=some (some z,Lay.n α,bytes))
  (hz:z.cells.size=Lay.n α) (hsz:0 < Lay.n α) (ht:P.underlying t=some (.slice e)) (hone:∀ (y:List Value) (x:α) (w:World),y.length=Lay.n α→Lay.is w (fun j=>y[j]?) x→∀ u∈y,u.oneCell'=true)
  {o:Oper} {a:Act} {K:Act→World→Prop} {Q:Exit→Act→World→Prop} (s x:Operand)
  (ho:o.op=.call { callee:=.builtin .append,args:=#[s,x],argTypes:=#[t,t] })
  (B0 B:Nat) (hB0:B0≤B) (v u:Value) (xs ys:List α) (hs:a.eval s=v) (hx:a.eval x=u) (hE:E e) (hown:OwnW B0 B E e w v xs) (hu:OwnL B0 E e w u ys)
  (hb:(xs.length+ys.length) * (bytes+1)≤140737488355328) (hB:B≤w.heap.size)
  (h:∀ v' w',OwnW B0 B E e w' v' (xs++ys)→Below B w w'→K (a.put o.dst v') w'):o.wp P a w K Q:=by
 obtain ⟨i0,hi,hz0,hz1,hz2⟩:=info_parts hinfo;have e1:(xs.length+ys.length) * (bytes+1)=(xs.length+ys.length) * bytes+(xs.length+ys.length):=by rw [Nat.mul_add,Nat.mul_one]
 obtain ⟨us,k1,k2,k3⟩:=id hu;obtain ⟨cs,hcs⟩:=hown.2;rcases k2.2 with ⟨rfl,h0⟩ | ⟨g,cap,cur,rfl,hg,hh,hn',hc,hsz',htk⟩
 ·obtain rfl:ys=[]:=List.length_eq_zero_iff.1 h0;obtain ⟨va,vc,rfl,hvc,-⟩:=list_inv hown.is;have hrun:=run_append_nothing (P:=P) w t t o.type e i0 ht hi va xs.length vc hvc (.slice none 0 0) (Src.ofNil w ht 0);have hk:=h (.slice va xs.length vc) w (by simpa using hown) (Below.refl _ _);unfold Oper.wp execOp;simp only [ho,resolve,invoke,builtin,Sem.run_bind,Sem.run_pure,Result.andThen_ok,List.map_toArray,List.map_cons,List.map_nil,hs,hx,hrun];exact hk
 ·have hall:=OwnL.all (P:=fun z=>∀ u∈z,u.oneCell'=true) k1 (fun i y x hy hx=>hone y x w (k3 i y x hy hx).1 ((k3 i y x hy hx).2 w (Agree.refl _ _ _)));refine wp_append_own w s x t ho B e i0 z (Lay.n α) bytes ht hi hz0 hz1 hz2 hz hsz v xs.length cs hs hcs ⟨g,0,none⟩ ys.length cap us.flatten hx k2.1 ?_ ?_ ?_ ?_ hB ?_
  ·intro j q hj;have e2:(⟨g,0,none⟩:Addr).add j=⟨g,j,none⟩:=by
    unfold Addr.add;split
    ·subst j;rfl
    ·simp
   rw [e2];refine objcell hh ?_;rw [← htk,List.getElem?_take] at hj;split at hj
   ·simpa using hj
   ·cases hj
  ·intro q hq;obtain ⟨y,hy,hqy⟩:=List.mem_flatten.1 hq;exact hall y hy q hqy
  ·unfold maxLen;omega
  ·omega
  ·intro v' w' h2 h3 h4;refine h v' w' ⟨OwnL.join hE hown.1 hu h3 fun cs' ds' r1 r2=>?_,⟨cs++us.flatten,?_⟩⟩ ((Below.refl _ _).app h3 (by omega) hcs)
   ·rw [OwnL.row_unique r1 (ownsRow_weaken hcs (hB0)),OwnL.row_unique r2 k2];exact ownsRow_weaken h2 (hB0)
   ·rw [List.length_append];exact h2
end
end Go.Proofs.YtcbopdbbcgdkcaaGreatDoor
