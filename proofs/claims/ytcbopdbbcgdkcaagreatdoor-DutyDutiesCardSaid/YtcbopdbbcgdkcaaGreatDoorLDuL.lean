/- Lemmas. -/
import Derived.Test.YtcbopdbbcgdkcaaGreatDoorLDuA
import Derived.Test.YtcbopdbbcgdkcaaGreatDoorLMeanU
set_option linter.all false
namespace Go.Proofs.YtcbopdbbcgdkcaaGreatDoor
open Go

def partC (c:UInt8):Bool:=lowC c || digC c || ((c.toNat:Int) == 46) || ((c.toNat:Int) == 95) || ((c.toNat:Int) == 45)
def partL:List UInt8→Bool
 | []=>false
 | c :: r=>decide (r.length < 32) && !((c.toNat:Int) == 46) && !((c.toNat:Int) == 45) && (c :: r).all partC
def partB (s:ByteArray):Bool:=partL s.data.toList
def pathE (s:ByteArray):Int :=
 if decide ((128:Int) < s.size) || decide ((8:Int) < (splitAt 47 [] s.data.toList).length) || (splitAt 47 [] s.data.toList).any (fun p=>!partB p) then 2 else 0
def factE (c:Catalog) (f:Fact):Int :=
 if decide (f.kind < 0) || decide (4 < f.kind) || extraF f then 1
 else if (f.kind == 0 || f.kind == 1 || f.kind == 4) && !(pathE f.component == 0) || (f.kind == 0 || f.kind == 2 || f.kind == 3) && !(pathE f.output == 0) then 2
 else if decide (f.relation < 0) || decide (2 < f.relation) || decide (f.way < 0) || decide (2 < f.way) || decide (f.duty < 0) || decide (3 < f.duty) then 3
 else if f.kind == 1 then checkE c f.expr
 else if f.list.any fun s=>(findC c s).isNone then 7
 else if !incr slt f.list then 5 else 0
def factsE (c:Catalog):Nat→List Fact→Int×Int
 | _,[]=>(0,0)
 | i,f :: r=>if factE c f == 0 then factsE c (i+1) r else (i,factE c f)
def caseE (c:Catalog) (x:List Fact):Int×Int :=
 if !(checkC c == 0) then (-1,1) else if decide ((256:Int) < x.length) then (-1,10) else factsE c 0 x
def valsF (c:Catalog):List (List (List Term))→List ByteArray→List Fact→List (List (List Term))×List ByteArray×Int
 | ts,os,[]=>(ts,os,0)
 | ts,os,f :: r =>
  if f.kind == 1 then (if (ofP c f.expr).2 == 0 then valsF c (ts++[(ofP c f.expr).1]) os r else ([],[],(ofP c f.expr).2))
  else if f.kind == 2 && !os.any (seq f.output) then valsF c ts (os++[f.output]) r
  else valsF c ts os r
def valuesC (c:Catalog) (x:List Fact):List (List (List Term))×List ByteArray×Int :=
 if (caseE c x).2 == 0 then valsF c [] [] x else ([],[],(caseE c x).2)
def radC (c:Catalog) (ts:List (List (List Term))) (os:List ByteArray):List Nat:=ts.map List.length++os.map fun _=>c.licenses.length
def prodR:Nat→List Nat→Nat
 | n,[]=>n
 | n,r :: rs=>if 4096 < n * r then n * r else prodR (n * r) rs
def totalR (l:List Nat):Nat:=if l.contains 0 then 0 else prodR 1 l
def countC (c:Catalog) (x:List Fact):Int×Int :=
 if (valuesC c x).2.2 == 0 then (if 4096 < totalR (radC c (valuesC c x).1 (valuesC c x).2.1) then (0,10) else (totalR (radC c (valuesC c x).1 (valuesC c x).2.1),0)) else (0,(valuesC c x).2.2)
def digitsR:List Nat→Nat→List Nat×Nat
 | [],n=>([],n)
 | r :: rs,n=>((digitsR rs n).2 % r :: (digitsR rs n).1,(digitsR rs n).2 / r)
def choiceT:List (List (List Term))→List Nat→List (List Term)
 | l :: ls,d :: ds=>(l[d]?).getD [] :: choiceT ls ds
 | _,_=>[]
def choiceO (c:Catalog) (ds:List Nat):List ByteArray:=ds.map fun d=>((c.licenses[d]?).map License.name).getD ByteArray.empty
def choiceC (c:Catalog) (ts:List (List (List Term))) (os:List ByteArray) (n:Nat):Choice :=
 ⟨choiceT ts (digitsR (radC c ts os) n).1,choiceO c ((digitsR (radC c ts os) n).1.drop ts.length)⟩
def nthC (c:Catalog) (x:List Fact) (n:Int):Choice×Int :=
 if (countC c x).2 == 0 then (if decide (n < 0) || decide ((countC c x).1≤n) then (⟨[],[]⟩,3) else (choiceC c (valuesC c x).1 (valuesC c x).2.1 n.toNat,0)) else (⟨[],[]⟩,(countC c x).2)
def termsOk (partly:Bool):List (List (List Term))→List (List Term)→Bool
 | l :: ls,a :: bs=>(partly && a.isEmpty || l.contains a) && termsOk partly ls bs
 | _,_=>true
def choiceE (c:Catalog) (x:List Fact) (y:Choice) (partly:Bool):Int :=
 if (valuesC c x).2.2 == 0 then
  (if decide (y.terms.length≠(valuesC c x).1.length) || decide (y.own.length≠(valuesC c x).2.1.length) then 9
   else if !termsOk partly (valuesC c x).1 y.terms then 1
   else if y.own.any fun s=>!(partly && emp s || c.licenses.any fun l=>seq l.name s) then 7 else 0)
 else (valuesC c x).2.2
def dueT (c:Catalog) (comp:ByteArray) (u:Fact) (way:Int) (t:Term):List Due :=
 ((clausesC c t way u.relation).filter fun k=>!(k.duty == 2) || u.changed).map fun k=>⟨u.output,comp,t,way,u.relation,k.duty⟩
def pairsF (x:List Fact) (comp:ByteArray):List (Fact×Int) :=
 (x.filter fun u=>u.kind == 0 && seq u.component comp).flatMap fun u=>(x.filter fun s=>s.kind == 2 && seq s.output u.output).map fun s=>(u,s.way)
def duesF (c:Catalog) (x:List Fact):List Fact→List (List Term)→List Due
 | [],_=>[]
 | f :: r,ts=>if f.kind == 1 then ((pairsF x f.component).flatMap fun p=>(ts.headD []).flatMap fun t=>dueT c f.component p.1 p.2 t)++duesF c x r ts.tail else duesF c x r ts
def onceD:List Due→List Due→List Due
 | out,[]=>out
 | out,d :: r=>onceD (if out.contains d then out else out++[d]) r
def dutiesC (c:Catalog) (x:List Fact) (y:Choice):List Due×Int :=
 if choiceE c x y true == 0 then (onceD [] (duesF c x x y.terms),0) else ([],choiceE c x y true)

def mulR:List Nat→Nat
 | []=>1
 | r :: rs=>r * mulR rs
theorem digits_carry:∀ (l:List Nat) (n:Nat),(digitsR l n).2=n / mulR l
 | [],n=>by simp [digitsR,mulR]
 | r :: rs,n=>by
  simp only [digitsR,mulR];rw [digits_carry rs n,Nat.div_div_eq_div_mul,Nat.mul_comm]
theorem digits_len:∀ (l:List Nat) (n:Nat),(digitsR l n).1.length=l.length
 | [],n=>by simp [digitsR]
 | r :: rs,n=>by simp [digitsR,digits_len rs n]
theorem digits_lt:∀ (l:List Nat) (n i:Nat) (r d:Nat),(∀ r∈l,0 < r)→l[i]?=some r→(digitsR l n).1[i]?=some d→d < r
 | [],n,i,r,d,_,h,_=>by simp at h
 | q :: rs,n,0,r,d,hp,h,k=>by
  simp [digitsR] at h k;subst h;subst k;exact Nat.mod_lt _ (hp _ (by simp))
 | q :: rs,n,i+1,r,d,hp,h,k=>by
  simp [digitsR] at h k;exact digits_lt rs n i r d (fun r hr=>hp r (by simp [hr])) h k
theorem once_append:∀ (l m out:List Due),onceD out (l++m)=onceD (onceD out l) m
 | [],m,out=>by simp [onceD]
 | a :: r,m,out=>by rw [List.cons_append,onceD,onceD,once_append r m]
def duePart (c:Catalog) (x:List Fact) (f:Fact) (a:List Term):List Due:=(pairsF x f.component).flatMap fun p=>a.flatMap fun t=>dueT c f.component p.1 p.2 t
end Go.Proofs.YtcbopdbbcgdkcaaGreatDoor
