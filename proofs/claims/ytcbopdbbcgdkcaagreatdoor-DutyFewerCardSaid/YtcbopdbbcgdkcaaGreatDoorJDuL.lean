/- Plain: what layer 39 computes (cases, choices, duties). -/
import Derived.Test.YtcbopdbbcgdkcaaGreatDoorJDuA
import Derived.Test.YtcbopdbbcgdkcaaGreatDoorJProY
import Derived.Test.YtcbopdbbcgdkcaaGreatDoorJMeanU
set_option linter.all false
namespace Go.Proofs.YtcbopdbbcgdkcaaGreatDoor
open Go

def partC (c:UInt8):Bool:=lowC c || digC c || ((c.toNat:Int) == 46) || ((c.toNat:Int) == 95) || ((c.toNat:Int) == 45)
def partL:List UInt8→Bool
 | []=>false
 | c :: r=>decide (r.length < 32) && !((c.toNat:Int) == 46) && !((c.toNat:Int) == 45) && (c :: r).all partC
def partB (s:ByteArray):Bool:=partL s.data.toList
def pathE (s:ByteArray):Int :=
 if decide ((128:Int) < s.size) || decide ((8:Int) < (splitAt 47 [] s.data.toList).length) || (splitAt 47 [] s.data.toList).any (fun p=>!partB p) then 2 else 0
def factE (c:Catalog) (f:Fact):Int :=
 if decide (f.kind < 0) || decide (4 < f.kind) || extraF f then 1
 else if (f.kind == 0 || f.kind == 1 || f.kind == 4) && !(pathE f.component == 0) || (f.kind == 0 || f.kind == 2 || f.kind == 3) && !(pathE f.output == 0) then 2
 else if decide (f.relation < 0) || decide (2 < f.relation) || decide (f.way < 0) || decide (2 < f.way) || decide (f.duty < 0) || decide (3 < f.duty) then 3
 else if f.kind == 1 then checkE c f.expr
 else if f.list.any fun s=>(findC c s).isNone then 7
 else if !incr slt f.list then 5 else 0
def factsE (c:Catalog):Nat→List Fact→Int×Int
 | _,[]=>(0,0)
 | i,f :: r=>if factE c f == 0 then factsE c (i+1) r else (i,factE c f)
def caseE (c:Catalog) (x:List Fact):Int×Int :=
 if !(checkC c == 0) then (-1,1) else if decide ((256:Int) < x.length) then (-1,10) else factsE c 0 x
def valsF (c:Catalog):List (List (List Term))→List ByteArray→List Fact→List (List (List Term))×List ByteArray×Int
 | ts,os,[]=>(ts,os,0)
 | ts,os,f :: r =>
  if f.kind == 1 then (if (ofP c f.expr).2 == 0 then valsF c (ts++[(ofP c f.expr).1]) os r else ([],[],(ofP c f.expr).2))
  else if f.kind == 2 && !os.any (seq f.output) then valsF c ts (os++[f.output]) r
  else valsF c ts os r
def valuesC (c:Catalog) (x:List Fact):List (List (List Term))×List ByteArray×Int :=
 if (caseE c x).2 == 0 then valsF c [] [] x else ([],[],(caseE c x).2)
def radC (c:Catalog) (ts:List (List (List Term))) (os:List ByteArray):List Nat:=ts.map List.length++os.map fun _=>c.licenses.length
def prodR:Nat→List Nat→Nat
 | n,[]=>n
 | n,r :: rs=>if 4096 < n * r then n * r else prodR (n * r) rs
def totalR (l:List Nat):Nat:=if l.contains 0 then 0 else prodR 1 l
def countC (c:Catalog) (x:List Fact):Int×Int :=
 if (valuesC c x).2.2 == 0 then (if 4096 < totalR (radC c (valuesC c x).1 (valuesC c x).2.1) then (0,10) else (totalR (radC c (valuesC c x).1 (valuesC c x).2.1),0)) else (0,(valuesC c x).2.2)
def digitsR:List Nat→Nat→List Nat×Nat
 | [],n=>([],n)
 | r :: rs,n=>((digitsR rs n).2 % r :: (digitsR rs n).1,(digitsR rs n).2 / r)
def choiceT:List (List (List Term))→List Nat→List (List Term)
 | l :: ls,d :: ds=>(l[d]?).getD [] :: choiceT ls ds
 | _,_=>[]
def choiceO (c:Catalog) (ds:List Nat):List ByteArray:=ds.map fun d=>((c.licenses[d]?).map License.name).getD ByteArray.empty
def choiceC (c:Catalog) (ts:List (List (List Term))) (os:List ByteArray) (n:Nat):Choice :=
 ⟨choiceT ts (digitsR (radC c ts os) n).1,choiceO c ((digitsR (radC c ts os) n).1.drop ts.length)⟩
def nthC (c:Catalog) (x:List Fact) (n:Int):Choice×Int :=
 if (countC c x).2 == 0 then (if decide (n < 0) || decide ((countC c x).1≤n) then (⟨[],[]⟩,3) else (choiceC c (valuesC c x).1 (valuesC c x).2.1 n.toNat,0)) else (⟨[],[]⟩,(countC c x).2)
def termsOk (partly:Bool):List (List (List Term))→List (List Term)→Bool
 | l :: ls,a :: bs=>(partly && a.isEmpty || l.contains a) && termsOk partly ls bs
 | _,_=>true
def choiceE (c:Catalog) (x:List Fact) (y:Choice) (partly:Bool):Int :=
 if (valuesC c x).2.2 == 0 then
  (if decide (y.terms.length≠(valuesC c x).1.length) || decide (y.own.length≠(valuesC c x).2.1.length) then 9
   else if !termsOk partly (valuesC c x).1 y.terms then 1
   else if y.own.any fun s=>!(partly && emp s || c.licenses.any fun l=>seq l.name s) then 7 else 0)
 else (valuesC c x).2.2
def dueT (c:Catalog) (comp:ByteArray) (u:Fact) (way:Int) (t:Term):List Due :=
 ((clausesC c t way u.relation).filter fun k=>!(k.duty == 2) || u.changed).map fun k=>⟨u.output,comp,t,way,u.relation,k.duty⟩
def pairsF (x:List Fact) (comp:ByteArray):List (Fact×Int) :=
 (x.filter fun u=>u.kind == 0 && seq u.component comp).flatMap fun u=>(x.filter fun s=>s.kind == 2 && seq s.output u.output).map fun s=>(u,s.way)
def duesF (c:Catalog) (x:List Fact):List Fact→List (List Term)→List Due
 | [],_=>[]
 | f :: r,ts=>if f.kind == 1 then ((pairsF x f.component).flatMap fun p=>(ts.headD []).flatMap fun t=>dueT c f.component p.1 p.2 t)++duesF c x r ts.tail else duesF c x r ts
def onceD:List Due→List Due→List Due
 | out,[]=>out
 | out,d :: r=>onceD (if out.contains d then out else out++[d]) r
def dutiesC (c:Catalog) (x:List Fact) (y:Choice):List Due×Int :=
 if choiceE c x y true == 0 then (onceD [] (duesF c x x y.terms),0) else ([],choiceE c x y true)
end Go.Proofs.YtcbopdbbcgdkcaaGreatDoor
namespace Go.Proofs.YtcbopdbbcgdkcaaGreatDoor
open Go

def mulR:List Nat→Nat
 | []=>1
 | r :: rs=>r * mulR rs
theorem digits_carry:∀ (l:List Nat) (n:Nat),(digitsR l n).2=n / mulR l
 | [],n=>by simp [digitsR,mulR]
 | r :: rs,n=>by
  simp only [digitsR,mulR]
  rw [digits_carry rs n,Nat.div_div_eq_div_mul,Nat.mul_comm]
theorem digits_len:∀ (l:List Nat) (n:Nat),(digitsR l n).1.length=l.length
 | [],n=>by simp [digitsR]
 | r :: rs,n=>by simp [digitsR,digits_len rs n]
theorem digits_lt:∀ (l:List Nat) (n i:Nat) (r d:Nat),(∀ r∈l,0 < r)→l[i]?=some r→(digitsR l n).1[i]?=some d→d < r
 | [],n,i,r,d,_,h,_=>by simp at h
 | q :: rs,n,0,r,d,hp,h,k=>by
  simp [digitsR] at h k
  subst h;subst k
  exact Nat.mod_lt _ (hp _ (by simp))
 | q :: rs,n,i+1,r,d,hp,h,k=>by
  simp [digitsR] at h k
  exact digits_lt rs n i r d (fun r hr=>hp r (by simp [hr])) h k
def lexN:List Nat→List Nat→Int
 | a :: as',b :: bs=>if a=b then lexN as' bs else (a:Int) - b
 | _,_=>0
theorem mulR_pos:∀ (l:List Nat),(∀ r∈l,0 < r)→0 < mulR l
 | [],_=>by simp [mulR]
 | r :: rs,h=>Nat.mul_pos (h r (by simp)) (mulR_pos rs fun q hq=>h q (by simp [hq]))
theorem digits_next:∀ (l:List Nat) (n:Nat),(∀ r∈l,0 < r)→(n+1) % mulR l≠0→lexN (digitsR l n).1 (digitsR l (n+1)).1 < 0
 | [],n,_,h=>by simp [mulR,Nat.mod_one] at h
 | r :: rs,n,hp,h=>by
  have hP:=mulR_pos rs fun q hq=>hp q (by simp [hq])
  have hr:0 < r:=hp r (by simp)
  simp only [digitsR,digits_carry,lexN]
  simp only [mulR] at h
  by_cases q:(n+1) % mulR rs=0
  ·have h1:(n+1) / mulR rs=n / mulR rs+1:=by rw [Nat.succ_div,if_pos (Nat.dvd_of_mod_eq_zero q)]
   rw [h1]
   have h2:(n / mulR rs+1) % r≠0:=by
    intro h0
    apply h
    obtain ⟨k,hk⟩:=Nat.dvd_of_mod_eq_zero h0
    obtain ⟨j,hj⟩:=Nat.dvd_of_mod_eq_zero q
    have h3:(n+1) / mulR rs=j:=by rw [hj];exact Nat.mul_div_cancel_left _ hP
    rw [h1,hk] at h3
    refine Nat.mod_eq_zero_of_dvd ⟨k,?_⟩
    rw [hj,← h3,← Nat.mul_assoc,Nat.mul_comm (mulR rs) r]
   have h4:(n / mulR rs+1) % r=n / mulR rs % r+1:=by
    have h5:=Nat.mod_lt (n / mulR rs) hr
    rcases Nat.lt_or_ge (n / mulR rs % r+1) r with h6 | h6
    ·rw [Nat.add_mod]
     rcases Nat.lt_or_ge 1 r with h7 | h7
     ·rw [Nat.mod_eq_of_lt h7,Nat.mod_eq_of_lt h6]
     ·omega
    ·exfalso
     apply h2
     have h7:n / mulR rs % r+1=r:=by omega
     rw [Nat.add_mod]
     rcases Nat.lt_or_ge 1 r with h8 | h8
     ·rw [Nat.mod_eq_of_lt h8,h7,Nat.mod_self]
     ·have:r=1:=by omega
      subst this;exact Nat.mod_one _
   rw [h4,if_neg (by omega)]
   omega
  ·have h1:(n+1) / mulR rs=n / mulR rs:=by
    rw [Nat.succ_div,if_neg (fun hd=>q (Nat.mod_eq_zero_of_dvd hd)),Nat.add_zero]
   rw [h1,if_pos rfl]
   exact digits_next rs n (fun q hq=>hp q (by simp [hq])) q
theorem once_mem {d:Due}:∀ (l out:List Due),d∈onceD out l↔d∈out∨d∈l
 | [],out=>by simp [onceD]
 | a :: r,out=>by
  rw [onceD,once_mem r,List.mem_cons]
  by_cases q:out.contains a=true
  ·rw [if_pos q]
   have hm:a∈out:=by simpa using q
   constructor
   ·rintro (h | h)
    ·exact .inl h
    ·exact .inr (.inr h)
   ·rintro (h | rfl | h)
    ·exact .inl h
    ·exact .inl hm
    ·exact .inr h
  ·rw [if_neg q,List.mem_append,List.mem_singleton,or_assoc]
theorem once_nodup:∀ (l out:List Due),out.Nodup→(onceD out l).Nodup
 | [],out,h=>by simpa [onceD] using h
 | a :: r,out,h=>by
  rw [onceD]
  by_cases q:out.contains a=true
  ·rw [if_pos q];exact once_nodup r out h
  ·rw [if_neg q]
   refine once_nodup r _ (List.nodup_append.2 ⟨h,by simp,?_⟩)
   intro x hx y hy e
   simp at hy
   subst hy;subst e
   exact q (by simpa using hx)
theorem once_append:∀ (l m out:List Due),onceD out (l++m)=onceD (onceD out l) m
 | [],m,out=>by simp [onceD]
 | a :: r,m,out=>by rw [List.cons_append,onceD,onceD,once_append r m]
def newD (m:List Due):List Due→List Due
 | []=>[]
 | a :: r=>if m.contains a then newD m r else a :: newD (m++[a]) r
theorem once_new:∀ (l m:List Due),onceD m l=m++newD m l
 | [],m=>by simp [onceD,newD]
 | a :: r,m=>by
  rw [onceD,newD]
  by_cases q:m.contains a=true
  ·rw [if_pos q,if_pos q];exact once_new r m
  ·rw [if_neg q,if_neg q,once_new r,List.append_assoc];rfl
theorem once_newD:∀ (l m out:List Due),(∀ d∈m,d∈out)→onceD out (newD m l)=onceD out l
 | [],m,out,_=>by simp [newD]
 | a :: r,m,out,h=>by
  rw [newD]
  by_cases q:m.contains a=true
  ·rw [if_pos q,once_newD r m out h]
   have hm:a∈m:=by simpa using q
   rw [onceD,if_pos (by simpa using h a hm)]
  ·rw [if_neg q,onceD,onceD]
   refine once_newD r _ _ fun d hd=>?_
   by_cases k:out.contains a=true
   ·rw [if_pos k]
    rcases List.mem_append.1 hd with hd | hd
    ·exact h d hd
    ·simp at hd;subst hd;simpa using k
   ·rw [if_neg k]
    rcases List.mem_append.1 hd with hd | hd
    ·exact List.mem_append.2 (.inl (h d hd))
    ·exact List.mem_append.2 (.inr hd)
theorem once_once (l out:List Due):onceD out (onceD [] l)=onceD out l:=by
 rw [once_new l [],List.nil_append]
 exact once_newD l [] out (by simp)
def duePart (c:Catalog) (x:List Fact) (f:Fact) (a:List Term):List Due:=(pairsF x f.component).flatMap fun p=>a.flatMap fun t=>dueT c f.component p.1 p.2 t
def partsD (c:Catalog) (x:List Fact):List Fact→List (List Term)→List (List Due)
 | [],_=>[]
 | f :: r,ts=>if f.kind == 1 then duePart c x f (ts.headD []) :: partsD c x r ts.tail else partsD c x r ts
theorem dues_parts (c:Catalog) (x:List Fact):∀ (fs:List Fact) (ts:List (List Term)),duesF c x fs ts=(partsD c x fs ts).flatten
 | [],ts=>by simp [duesF,partsD]
 | f :: r,ts=>by
  rw [duesF,partsD]
  by_cases q:(f.kind == 1)=true
  ·rw [if_pos q,if_pos q,List.flatten_cons,dues_parts c x r];rfl
  ·rw [if_neg q,if_neg q];exact dues_parts c x r ts
def onlyT:List (List Term)→Nat→List (List Term)
 | [],_=>[]
 | t :: r,0=>t :: r.map fun _=>[]
 | _ :: r,i+1=>[] :: onlyT r i
theorem part_nil (c:Catalog) (x:List Fact) (f:Fact):duePart c x f []=[]:=by simp [duePart]
theorem dues_none (c:Catalog) (x:List Fact):∀ (fs:List Fact) (ts:List (List Term)),(∀ t∈ts,t=[])→duesF c x fs ts=[]
 | [],ts,_=>by simp [duesF]
 | f :: r,ts,h=>by
  rw [duesF]
  by_cases q:(f.kind == 1)=true
  ·have h1:ts.headD []=[]:=by cases ts with | nil=>rfl | cons a l=>exact h a (by simp)
   rw [if_pos q,h1,dues_none c x r ts.tail fun t ht=>h t (List.mem_of_mem_tail ht)]
   exact (List.append_nil _).trans (part_nil c x f)
  ·rw [if_neg q];exact dues_none c x r ts h
theorem dues_only (c:Catalog) (x:List Fact):∀ (fs:List Fact) (ts:List (List Term)) (i:Nat),(fs.filter fun f=>f.kind == 1).length=ts.length→duesF c x fs (onlyT ts i)=((partsD c x fs ts)[i]?).getD []
 | [],ts,i,_=>by simp [duesF,partsD]
 | f :: r,ts,i,h=>by
  rw [duesF,partsD]
  by_cases q:(f.kind == 1)=true
  ·rw [if_pos q,if_pos q]
   rw [List.filter_cons,if_pos q] at h
   cases ts with
   | nil=>simp at h
   | cons t l =>
    have hl:(r.filter fun f=>f.kind == 1).length=l.length:=by simpa using h
    cases i with
    | zero =>
     have h1:=dues_none c x r (l.map fun _=>([]:List Term)) (by intro t ht;obtain ⟨_,-,rfl⟩:=List.mem_map.1 ht;rfl)
     show _++duesF c x r (l.map fun _=>[])=_
     rw [h1,List.append_nil];rfl
    | succ i =>
     have h2:=dues_only c x r l i hl
     show duePart c x f []++duesF c x r (onlyT l i)=_
     rw [part_nil,List.nil_append,h2];rfl
  ·rw [if_neg q,if_neg q]
   rw [List.filter_cons,if_neg q] at h
   exact dues_only c x r ts i h
theorem parts_len (c:Catalog) (x:List Fact):∀ (fs:List Fact) (ts:List (List Term)),(partsD c x fs ts).length=(fs.filter fun f=>f.kind == 1).length
 | [],ts=>by simp [partsD]
 | f :: r,ts=>by
  rw [partsD,List.filter_cons]
  by_cases q:(f.kind == 1)=true
  ·rw [if_pos q,if_pos q,List.length_cons,List.length_cons,parts_len c x r]
  ·rw [if_neg q,if_neg q];exact parts_len c x r ts
theorem once_flat:∀ (ps:List (List Due)) (out:List Due),onceD out ps.flatten=ps.foldl (fun all p=>onceD all (onceD [] p)) out
 | [],out=>by simp [onceD]
 | p :: r,out=>by rw [List.flatten_cons,once_append,once_flat r,List.foldl_cons,once_once]
theorem duties_parts (c:Catalog) (x:List Fact) (ts:List (List Term)) (h:(x.filter fun f=>f.kind == 1).length=ts.length) :
  (List.range ts.length).foldl (fun all i=>onceD all (onceD [] (duesF c x x (onlyT ts i)))) []=onceD [] (duesF c x x ts):=by
 rw [dues_parts c x x ts,once_flat]
 have h1:∀ (ps:List (List Due)) (out:List Due),(List.range ps.length).foldl (fun all i=>onceD all (onceD [] ((ps[i]?).getD []))) out=ps.foldl (fun all p=>onceD all (onceD [] p)) out:=by
  intro ps
  induction ps with
  | nil=>intro out;simp
  | cons p r ih =>
   intro out
   rw [List.length_cons,List.range_succ_eq_map,List.foldl_cons,List.foldl_map,List.foldl_cons]
   exact ih _
 have h2:=h1 (partsD c x x ts) []
 rw [parts_len,h] at h2
 rw [← h2]
 congr 1
 funext all i
 rw [dues_only c x x ts i h]
theorem pairs_mem {x:List Fact} {comp:ByteArray} {p:Fact×Int}:p∈pairsF x comp↔(p.1∈x∧p.1.kind=0∧p.1.component=comp)∧∃ s∈x,s.kind=2∧s.output=p.1.output∧s.way=p.2:=by
 obtain ⟨u,way⟩:=p
 unfold pairsF
 rw [List.mem_flatMap]
 constructor
 ·rintro ⟨u',hu,hp⟩
  obtain ⟨s,hs,he⟩:=List.mem_map.1 hp
  cases he
  simp only [List.mem_filter,Bool.and_eq_true,beq_iff_eq,seq_eq,decide_eq_true_eq] at hu hs
  exact ⟨⟨hu.1,hu.2.1,hu.2.2⟩,s,hs.1,hs.2.1,hs.2.2,rfl⟩
 ·rintro ⟨⟨h1,h2,h3⟩,s,hs,h4,h5,h6⟩
  simp only at h1 h2 h3 h5 h6
  exact ⟨u,by simp [List.mem_filter,seq_eq,h1,h2,h3],List.mem_map.2 ⟨s,by simp [List.mem_filter,seq_eq,hs,h4,h5],by rw [h6]⟩⟩
theorem dueT_mem {c:Catalog} {comp:ByteArray} {u:Fact} {way:Int} {t:Term} {d:Due} (h:d∈dueT c comp u way t) :
  d.output=u.output∧d.component=comp∧d.term=t∧d.way=way∧d.relation=u.relation∧(u.changed=true∨d.duty≠2)∧∃ k∈clausesC c t way u.relation,k.duty=d.duty:=by
 unfold dueT at h
 obtain ⟨k,hk,rfl⟩:=List.mem_map.1 h
 simp only [List.mem_filter,Bool.or_eq_true,Bool.not_eq_true',beq_eq_false_iff_ne] at hk
 exact ⟨rfl,rfl,rfl,rfl,rfl,hk.2.symm,k,hk.1,rfl⟩
theorem part_mem {c:Catalog} {x:List Fact} {f:Fact} {a:List Term} {d:Due} (h:d∈duePart c x f a) :
  d.component=f.component∧d.term∈a∧(∃ u∈x,u.kind=0∧u.component=d.component∧u.output=d.output∧u.relation=d.relation∧(u.changed=true∨d.duty≠2)) ∧
   (∃ s∈x,s.kind=2∧s.output=d.output∧s.way=d.way)∧∃ k∈clausesC c d.term d.way d.relation,k.duty=d.duty:=by
 unfold duePart at h
 obtain ⟨p,hp,h⟩:=List.mem_flatMap.1 h
 obtain ⟨t,ht,h⟩:=List.mem_flatMap.1 h
 obtain ⟨⟨p1,p2,p3⟩,s,hs,h4,h5,h6⟩:=pairs_mem.1 hp
 obtain ⟨e1,e2,e3,e4,e5,e6,e7⟩:=dueT_mem h
 refine ⟨e2,e3 ▸ ht,⟨p.1,p1,p2,p3.trans e2.symm,e1.symm,e5.symm,e6⟩,⟨s,hs,h4,h5.trans e1.symm,h6.trans e4.symm⟩,?_⟩
 rw [e3,e4,e5];exact e7
theorem dues_mem {c:Catalog} {x:List Fact} {d:Due}:∀ {fs:List Fact} {ts:List (List Term)},d∈duesF c x fs ts→∃ f∈fs,∃ a,f.kind=1∧d∈duePart c x f a
 | [],ts,h=>by simp [duesF] at h
 | f :: r,ts,h=>by
  rw [duesF] at h
  by_cases q:(f.kind == 1)=true
  ·rw [if_pos q] at h
   rcases List.mem_append.1 h with h | h
   ·exact ⟨f,by simp,_,by simpa using q,h⟩
   ·obtain ⟨g,hg,a,h1,h2⟩:=dues_mem h
    exact ⟨g,by simp [hg],a,h1,h2⟩
  ·rw [if_neg q] at h
   obtain ⟨g,hg,a,h1,h2⟩:=dues_mem h
   exact ⟨g,by simp [hg],a,h1,h2⟩
theorem dues_clause {c:Catalog} {x fs:List Fact} {ts:List (List Term)} {d:Due} (h:d∈duesF c x fs ts) :
  (∃ u∈x,u.kind=0∧u.component=d.component∧u.output=d.output∧u.relation=d.relation∧(u.changed=true∨d.duty≠2)) ∧
   (∃ s∈x,s.kind=2∧s.output=d.output∧s.way=d.way)∧∃ k∈clausesC c d.term d.way d.relation,k.duty=d.duty:=by
 obtain ⟨f,-,a,-,h⟩:=dues_mem h
 exact (part_mem h).2.2
theorem part_mono {c:Catalog} {x y:List Fact} (hs:∀ f∈x,f∈y) {f:Fact} {a:List Term} {d:Due} (h:d∈duePart c x f a):d∈duePart c y f a:=by
 unfold duePart at *
 obtain ⟨p,hp,h⟩:=List.mem_flatMap.1 h
 refine List.mem_flatMap.2 ⟨p,?_,h⟩
 obtain ⟨⟨p1,p2,p3⟩,s,hs',h4⟩:=pairs_mem.1 hp
 exact pairs_mem.2 ⟨⟨hs _ p1,p2,p3⟩,s,hs _ hs',h4⟩
def dropT:List Fact→List (List Term)→Nat→List (List Term)
 | [],ts,_=>ts
 | f :: _,ts,0=>if f.kind == 1 then ts.tail else ts
 | f :: r,ts,i+1=>if f.kind == 1 then ts.headD [] :: dropT r ts.tail i else dropT r ts i
theorem dues_mono {c:Catalog} {x y:List Fact} (hs:∀ f∈x,f∈y) {d:Due}:∀ (fs:List Fact) (ts:List (List Term)),d∈duesF c x fs ts→d∈duesF c y fs ts
 | [],ts,h=>by simp [duesF] at h
 | f :: r,ts,h=>by
  rw [duesF] at *
  by_cases q:(f.kind == 1)=true
  ·rw [if_pos q] at *
   rcases List.mem_append.1 h with h | h
   ·exact List.mem_append.2 (.inl (part_mono hs h))
   ·exact List.mem_append.2 (.inr (dues_mono hs r _ h))
  ·rw [if_neg q] at *;exact dues_mono hs r ts h
theorem dues_fewer {c:Catalog} {x y:List Fact} (hs:∀ f∈x,f∈y) {d:Due}:∀ (fs:List Fact) (ts:List (List Term)) (i:Nat),d∈duesF c x (fs.eraseIdx i) (dropT fs ts i)→d∈duesF c y fs ts
 | [],ts,i,h=>by simp [duesF] at h
 | f :: r,ts,0,h=>by
  rw [List.eraseIdx_cons_zero,dropT] at h
  rw [duesF]
  by_cases q:(f.kind == 1)=true
  ·rw [if_pos q] at *;exact List.mem_append.2 (.inr (dues_mono hs r _ h))
  ·rw [if_neg q] at *;exact dues_mono hs r ts h
 | f :: r,ts,i+1,h=>by
  rw [List.eraseIdx_cons_succ,dropT] at h
  rw [duesF]
  by_cases q:(f.kind == 1)=true
  ·rw [if_pos q] at *
   rw [duesF,if_pos q] at h
   rcases List.mem_append.1 h with h | h
   ·exact List.mem_append.2 (.inl (part_mono hs h))
   ·exact List.mem_append.2 (.inr (dues_fewer hs r ts.tail i h))
  ·rw [if_neg q] at *
   rw [duesF,if_neg q] at h
   exact dues_fewer hs r ts i h
def minF (n:Nat) (l:List Nat):Nat:=l.foldl (fun p r=>min (p * r) 1073741824) n
theorem min_mul:∀ (l:List Nat) (n:Nat),n≤1073741824→minF n l=min (n * mulR l) 1073741824
 | [],n,h=>by show n=_;rw [mulR,Nat.mul_one];omega
 | r :: rs,n,h=>by
  show minF (min (n * r) 1073741824) rs=_
  rw [min_mul rs _ (by omega),mulR,← Nat.mul_assoc]
  rcases Nat.le_total (n * r) 1073741824 with q | q
  ·rw [Nat.min_eq_left q]
  ·rw [Nat.min_eq_right q]
   rcases Nat.eq_zero_or_pos (mulR rs) with k | k
   ·rw [k,Nat.mul_zero,Nat.mul_zero]
   ·have h1:1073741824≤1073741824 * mulR rs:=Nat.le_mul_of_pos_right _ k
    have h2:1073741824≤n * r * mulR rs:=Nat.le_trans q (Nat.le_mul_of_pos_right _ k)
    omega
theorem prod_mul:∀ (l:List Nat) (n:Nat),n≤4096→(∀ r∈l,0 < r)→(n * mulR l≤4096∧prodR n l=n * mulR l)∨(4096 < n * mulR l∧4096 < prodR n l)
 | [],n,h,_=>.inl ⟨by rw [mulR];omega,by rw [prodR,mulR,Nat.mul_one]⟩
 | r :: rs,n,h,hp=>by
  have hP:=mulR_pos rs fun q hq=>hp q (by simp [hq])
  rw [prodR,mulR,← Nat.mul_assoc]
  by_cases q:4096 < n * r
  ·rw [if_pos q]
   exact .inr ⟨Nat.lt_of_lt_of_le q (Nat.le_mul_of_pos_right _ hP),q⟩
  ·rw [if_neg q]
   exact prod_mul rs (n * r) (by omega) fun q hq=>hp q (by simp [hq])
theorem mulR_zero:∀ (l:List Nat),0∈l→mulR l=0
 | r :: rs,h=>by
  rw [mulR]
  rcases List.mem_cons.1 h with h | h
  ·rw [← h,Nat.zero_mul]
  ·rw [mulR_zero rs h,Nat.mul_zero]
theorem total_mul (l:List Nat):(mulR l≤4096∧totalR l=mulR l∧minF 1 l=mulR l)∨(4096 < mulR l∧4096 < totalR l∧4096 < minF 1 l):=by
 rw [min_mul l 1 (by omega),Nat.one_mul]
 unfold totalR
 by_cases q:l.contains 0=true
 ·rw [if_pos q]
  have h0:=mulR_zero l (by simpa using q)
  exact .inl ⟨by omega,by omega,by omega⟩
 ·rw [if_neg q]
  have hp:∀ r∈l,0 < r:=fun r hr=>by
   rcases Nat.eq_zero_or_pos r with h | h
   ·subst h;exact absurd (by simpa using hr) q
   ·exact h
  have h1:=prod_mul l 1 (by omega) hp
  rw [Nat.one_mul] at h1
  rcases h1 with ⟨h1,h2⟩ | ⟨h1,h2⟩
  ·exact .inl ⟨h1,h2,by omega⟩
  ·exact .inr ⟨h1,h2,by omega⟩
theorem total_next {l:List Nat} {n:Nat} (h:n+1 < totalR l) (h2:totalR l≤4096):lexN (digitsR l n).1 (digitsR l (n+1)).1 < 0:=by
 have h1:=total_mul l
 refine digits_next l n (fun r hr=>?_) ?_
 ·rcases Nat.eq_zero_or_pos r with q | q
  ·subst q
   have:totalR l=0:=by unfold totalR;rw [if_pos (by simpa using hr)]
   omega
  ·exact q
 ·rw [Nat.mod_eq_of_lt (by omega)];omega
end Go.Proofs.YtcbopdbbcgdkcaaGreatDoor
