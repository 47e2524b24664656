/- Plain: the values of a case and how many choices they give (for DutyProduct). -/
import Derived.Test.YtcbopdbbcgdkcaaGreatDoorJDuL
import Derived.Test.YtcbopdbbcgdkcaaGreatDoorJMeaY
set_option linter.all false
namespace Go.Proofs.YtcbopdbbcgdkcaaGreatDoor
open Go

def licN (x:List Fact):Nat:=(x.filter fun f=>f.kind == 1).length
theorem licN_snoc {x:List Fact} {i:Nat} {f:Fact} (h:x[i]?=some f):licN (x.take (i+1))=licN (x.take i)+(if f.kind == 1 then 1 else 0):=by
 unfold licN
 rw [take_at h,List.filter_append,List.length_append]
 by_cases q:f.kind == 1 <;> simp [q]
theorem licN_take (x:List Fact) (i:Nat):licN (x.take i)≤licN x:=((List.take_sublist i x).filter _).length_le
theorem licN_lt {x:List Fact} {i:Nat} {f:Fact} (h:x[i]?=some f) (hk:(f.kind == 1)=true):licN (x.take i) < licN x:=by
 have h1:=licN_snoc h
 rw [if_pos hk] at h1
 have:=licN_take x (i+1)
 omega
structure ValsO (c:Catalog) (x:List Fact) (ts:List (List (List Term))) (os:List ByteArray):Prop where
 len:ts.length=licN x
 ok:∀ l∈ts,checkA l=0∧l≠[]∧l.length≤64∧∀ a∈l,a.length≤64
 ships:∀ f∈x,(f.kind == 2)=true→os.any (seq f.output)=true
 once:∀ (i:Nat) (o:ByteArray),os[i]?=some o→(os.take i).any (seq o)=false
 outs:∀ o∈os,x.any (fun y=>y.kind == 2 && seq y.output o)=true
theorem of_ok {c:Catalog} {e:LExpr} (h:(ofP c e).2=0):checkA (ofP c e).1=0∧(ofP c e).1≠[]∧(ofP c e).1.length≤64∧∀ a∈(ofP c e).1,a.length≤64:=by
 obtain ⟨h1,h2⟩:=ofP_ok h
 refine ⟨of_checkA h,?_,(ofE_len h).1,(ofE_len h).2⟩
 rw [h2]
 exact (mean_good e h1 (by rw [← h2];exact h)).1
theorem seq_self (s:ByteArray):seq s s=true:=by rw [seq_eq];simp
theorem any_app {α:Type} {p:α→Bool} {l m:List α} (h:l.any p=true):(l++m).any p=true:=by rw [List.any_append,h];rfl
theorem vals_ok (c:Catalog):∀ (r pre:List Fact) (ts:List (List (List Term))) (os:List ByteArray),ValsO c pre ts os→(valsF c ts os r).2.2=0→ValsO c (pre++r) (valsF c ts os r).1 (valsF c ts os r).2.1
 | [],pre,ts,os,h,_=>by rw [List.append_nil];exact h
 | f :: r,pre,ts,os,h,h0=>by
  rw [show pre++f :: r=(pre++[f])++r by simp]
  rw [valsF] at *
  have hl:licN (pre++[f])=licN pre+(if f.kind == 1 then 1 else 0):=by
   unfold licN
   rw [List.filter_append,List.length_append]
   by_cases q:f.kind == 1 <;> simp [q]
  have hout:∀ o∈os,(pre++[f]).any (fun y=>y.kind == 2 && seq y.output o)=true:=fun o ho=>any_app (h.outs o ho)
  by_cases k1:(f.kind == 1)=true
  ·rw [if_pos k1] at *
   by_cases e0:((ofP c f.expr).2 == 0)=true
   ·rw [if_pos e0] at *
    refine vals_ok c r _ _ _ ⟨by rw [hl,List.length_append,h.len];rfl,fun l hm=>?_,fun g hg hk=>?_,h.once,hout⟩ h0
    ·rcases List.mem_append.1 hm with hm | hm
     ·exact h.ok l hm
     ·rw [List.mem_singleton.1 hm];exact of_ok (by simpa using e0)
    ·rcases List.mem_append.1 hg with hg | hg
     ·exact h.ships g hg hk
     ·rw [List.mem_singleton.1 hg] at hk
      have a1:f.kind=1:=by simpa using k1
      have a2:f.kind=2:=by simpa using hk
      omega
   ·rw [if_neg e0] at h0
    exact absurd (by simpa using h0) e0
  ·rw [if_neg k1] at *
   by_cases k2:(f.kind == 2 && !os.any (seq f.output))=true
   ·rw [if_pos k2] at *
    obtain ⟨k3,k4⟩:=Bool.and_eq_true_iff.1 k2
    have k5:os.any (seq f.output)=false:=by simpa using k4
    refine vals_ok c r _ _ _ ⟨by rw [hl,h.len];rfl,h.ok,fun g hg hk=>?_,fun i o hi=>?_,fun o ho=>?_⟩ h0
    ·rcases List.mem_append.1 hg with hg | hg
     ·exact any_app (h.ships g hg hk)
     ·rw [List.mem_singleton.1 hg,List.any_append,List.any_cons,seq_self];simp
    ·by_cases hlt:i < os.length
     ·rw [List.take_append_of_le_length (Nat.le_of_lt hlt)]
      rw [List.getElem?_append_left hlt] at hi
      exact h.once i o hi
     ·rw [List.getElem?_append_right (by omega)] at hi
      have hi0:i - os.length=0:=by
       rcases Nat.eq_zero_or_pos (i - os.length) with q | q
       ·exact q
       ·rw [List.getElem?_eq_none (by show 1≤_;exact q)] at hi;cases hi
      rw [hi0] at hi
      have:o=f.output:=by simpa using hi.symm
      subst this
      have:i=os.length:=by omega
      subst this
      rw [List.take_append_of_le_length (Nat.le_refl _),List.take_length]
      exact k5
    ·rcases List.mem_append.1 ho with ho | ho
     ·exact hout o ho
     ·rw [List.mem_singleton.1 ho,List.any_append,List.any_cons,k3,seq_self];simp
   ·rw [if_neg k2] at *
    refine vals_ok c r _ _ _ ⟨by rw [hl,h.len];rfl,h.ok,fun g hg hk=>?_,h.once,hout⟩ h0
    rcases List.mem_append.1 hg with hg | hg
    ·exact h.ships g hg hk
    ·rw [List.mem_singleton.1 hg] at hk ⊢
     cases q:os.any (seq f.output)
     ·exact absurd (by rw [hk,q];rfl) k2
     ·rfl
theorem values_ok {c:Catalog} {x:List Fact} (h:(valuesC c x).2.2=0):ValsO c x (valuesC c x).1 (valuesC c x).2.1:=by
 unfold valuesC at *
 by_cases q:((caseE c x).2 == 0)=true
 ·rw [if_pos q] at *
  have:=vals_ok c x [] [] [] ⟨rfl,by simp,by simp,by simp,by simp⟩ h
  simpa using this
 ·rw [if_neg q] at h
  exact absurd (by simpa using h) q
theorem minF_snoc (n:Nat) (l:List Nat) (r:Nat):minF n (l++[r])=min (minF n l * r) 1073741824:=by unfold minF;rw [List.foldl_append];rfl
theorem minF_le (n:Nat) (l:List Nat) (h:n≤1073741824):minF n l≤1073741824:=by rw [min_mul l n h];omega
theorem prod_end (c:Catalog) (ts:List (List (List Term))) (os:List ByteArray) (p:Nat) (cn:Int×Int)
  (hp:p=minF 1 (ts.map List.length++os.map fun _=>c.licenses.length)) (hc:cn=if 4096 < totalR (radC c ts os) then (0,10) else ((totalR (radC c ts os):Int),0)) :
  (4096 < p∧cn.2=10)∨(p≤4096∧cn.2=0∧cn.1=p):=by
 have h1:=total_mul (radC c ts os)
 have e:minF 1 (radC c ts os)=p:=hp.symm
 rw [e] at h1
 rcases h1 with ⟨a1,a2,a3⟩ | ⟨a1,a2,a3⟩
 ·right
  rw [if_neg (by omega)] at hc
  subst hc
  exact ⟨by omega,rfl,by show (totalR _:Int)=_;omega⟩
 ·left
  rw [if_pos a2] at hc
  subst hc
  exact ⟨a3,rfl⟩
end Go.Proofs.YtcbopdbbcgdkcaaGreatDoor
namespace Go.Proofs.YtcbopdbbcgdkcaaGreatDoor
open Go

theorem total_pos2 {l:List Nat} (h:0 < totalR l):∀ r∈l,0 < r:=fun r hr=>by
 rcases Nat.eq_zero_or_pos r with q | q
 ·subst q
  unfold totalR at h
  rw [if_pos (by simpa using hr)] at h
  omega
 ·exact q
theorem choiceT_ok (p:Bool):∀ (ts:List (List (List Term))) (ds:List Nat),(∀ (i:Nat) (l:List (List Term)) (d:Nat),ts[i]?=some l→ds[i]?=some d→d < l.length)→ts.length≤ds.length →
  (choiceT ts ds).length=ts.length∧termsOk p ts (choiceT ts ds)=true∧∀ a∈choiceT ts ds,∃ l∈ts,a∈l
 | [],ds,_,_=>⟨by cases ds <;> rfl,by cases ds <;> rfl,by cases ds <;> simp [choiceT]⟩
 | l :: ts,[],_,h=>by simp at h
 | l :: ts,d :: ds,h,hl=>by
  obtain ⟨h1,h2,h3⟩:=choiceT_ok p ts ds (fun i m e hm he=>h (i+1) m e (by simpa using hm) (by simpa using he)) (by simpa using hl)
  have hd:d < l.length:=h 0 l d rfl rfl
  have hg:(l[d]?).getD []=l[d]:=by rw [List.getElem?_eq_getElem hd];rfl
  have hm:(l[d]?).getD []∈l:=by rw [hg];exact List.getElem_mem hd
  refine ⟨by rw [choiceT,List.length_cons,h1,List.length_cons],?_,fun a ha=>?_⟩
  ·rw [choiceT,termsOk,h2,List.contains_iff_mem.2 hm];simp
  ·rw [choiceT] at ha
   rcases List.mem_cons.1 ha with rfl | ha
   ·exact ⟨l,by simp,hm⟩
   ·obtain ⟨m,hm,ha⟩:=h3 a ha
    exact ⟨m,by simp [hm],ha⟩
structure NthO (c:Catalog) (x:List Fact) (y:Choice):Prop where
 ok:∀ p,choiceE c x y p=0
 terms:y.terms.length=(valuesC c x).1.length
 own:y.own.length=(valuesC c x).2.1.length
 alts:∀ a∈y.terms,a.length≤64
theorem rad_len (c:Catalog) (ts:List (List (List Term))) (os:List ByteArray):(radC c ts os).length=ts.length+os.length:=by unfold radC;simp
theorem nth_ok {c:Catalog} {x:List Fact} {n:Nat} (h:(countC c x).2=0) (hn:(n:Int) < (countC c x).1):(nthC c x n).2=0∧NthO c x (nthC c x n).1:=by
 have hv0:(valuesC c x).2.2=0:=by
  unfold countC at h
  by_cases q:((valuesC c x).2.2 == 0)=true
  ·simpa using q
  ·rw [if_neg q] at h;exact h
 have hv:=values_ok hv0
 have hc:countC c x=if 4096 < totalR (radC c (valuesC c x).1 (valuesC c x).2.1) then (0,10) else ((totalR (radC c (valuesC c x).1 (valuesC c x).2.1):Int),0):=by
  unfold countC;rw [if_pos (by simpa using hv0)]
 by_cases q:4096 < totalR (radC c (valuesC c x).1 (valuesC c x).2.1)
 ·rw [hc,if_pos q] at h;cases h
 rw [if_neg q] at hc
 have hn2:n < totalR (radC c (valuesC c x).1 (valuesC c x).2.1):=by rw [hc] at hn;simp only at hn;omega
 have hpos:=total_pos2 (l:=radC c (valuesC c x).1 (valuesC c x).2.1) (by omega)
 have hnth:nthC c x n=(choiceC c (valuesC c x).1 (valuesC c x).2.1 n,0):=by
  unfold nthC
  rw [if_pos (by rw [h];rfl),if_neg (by
   rw [Bool.or_eq_true,decide_eq_true_iff,decide_eq_true_iff]
   omega)]
  rfl
 rw [hnth]
 refine ⟨rfl,?_⟩
 have hdl:=digits_len (radC c (valuesC c x).1 (valuesC c x).2.1) n
 have hlt:=fun i r d=>digits_lt (radC c (valuesC c x).1 (valuesC c x).2.1) n i r d hpos
 rw [rad_len] at hdl
 have hE:∀ p,choiceE c x (choiceC c (valuesC c x).1 (valuesC c x).2.1 n) p=if decide ((choiceC c (valuesC c x).1 (valuesC c x).2.1 n).terms.length≠(valuesC c x).1.length) || decide ((choiceC c (valuesC c x).1 (valuesC c x).2.1 n).own.length≠(valuesC c x).2.1.length) then 9
    else if !termsOk p (valuesC c x).1 (choiceC c (valuesC c x).1 (valuesC c x).2.1 n).terms then 1
    else if (choiceC c (valuesC c x).1 (valuesC c x).2.1 n).own.any fun s=>!(p && emp s || c.licenses.any fun l=>seq l.name s) then 7 else 0:=fun p=>by
  unfold choiceE;rw [if_pos (by simpa using hv0)]
 have hr1:∀ (i:Nat) (l:List (List Term)),(valuesC c x).1[i]?=some l→(radC c (valuesC c x).1 (valuesC c x).2.1)[i]?=some l.length:=fun i l hl=>by
  unfold radC
  obtain ⟨hi,-⟩:=List.getElem?_eq_some_iff.1 hl
  rw [List.getElem?_append_left (by simpa using hi),List.getElem?_map,hl];rfl
 have hr2:∀ j,j < (valuesC c x).2.1.length→(radC c (valuesC c x).1 (valuesC c x).2.1)[(valuesC c x).1.length+j]?=some c.licenses.length:=fun j hj=>by
  unfold radC
  rw [List.getElem?_append_right (by simp),List.length_map,Nat.add_sub_cancel_left,List.getElem?_map,List.getElem?_eq_getElem hj];rfl
 have hok:=hv.ok
 unfold choiceC at hE ⊢
 generalize (digitsR (radC c (valuesC c x).1 (valuesC c x).2.1) n).1=ds at *
 generalize hT:(valuesC c x).1=ts at *
 generalize hO:(valuesC c x).2.1=os at *
 have h1:=fun p=>choiceT_ok p ts ds (fun i l d hl hd=>hlt i l.length d (hr1 i l hl) hd) (by omega)
 have h2:(choiceO c (ds.drop ts.length)).length=os.length:=by unfold choiceO;rw [List.length_map,List.length_drop,hdl];omega
 have h3:∀ s∈choiceO c (ds.drop ts.length),(c.licenses.any fun l=>seq l.name s)=true:=fun s hs=>by
  unfold choiceO at hs
  obtain ⟨d,hd,rfl⟩:=List.mem_map.1 hs
  obtain ⟨j,hj⟩:=List.mem_iff_getElem?.1 hd
  rw [List.getElem?_drop] at hj
  have hjl:ts.length+j < ds.length:=(List.getElem?_eq_some_iff.1 hj).1
  have hd2:=hlt _ _ _ (hr2 j (by omega)) hj
  rw [List.getElem?_eq_getElem hd2]
  exact List.any_eq_true.2 ⟨c.licenses[d],List.getElem_mem hd2,by rw [seq_eq];simp⟩
 refine ⟨fun p=>?_,by rw [hT];exact (h1 true).1,by rw [hO];exact h2,fun a ha=>?_⟩
 ·rw [hE p,if_neg (by simp only [Bool.or_eq_true,decide_eq_true_iff];rw [(h1 p).1,h2];simp),(h1 p).2.1,if_neg (by simp),if_neg]
  rw [Bool.not_eq_true,List.any_eq_false]
  intro s hs
  rw [h3 s hs];simp
 ·obtain ⟨l,hl,hal⟩:=(h1 true).2.2 a ha
  exact (hok l hl).2.2.2 a hal
end Go.Proofs.YtcbopdbbcgdkcaaGreatDoor
