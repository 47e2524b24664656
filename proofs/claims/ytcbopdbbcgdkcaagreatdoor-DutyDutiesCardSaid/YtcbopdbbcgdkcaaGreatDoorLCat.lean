/- Lemmas. -/
import Derived.Test.YtcbopdbbcgdkcaaGreatDoorLBase
set_option linter.all false
namespace Go.Proofs.YtcbopdbbcgdkcaaGreatDoor
open Go

def slt (a b:ByteArray):Bool:=Op.bytesLess a.toList b.toList
def seq (a b:ByteArray):Bool:=a.toList == b.toList
def lowC (c:UInt8):Bool:=decide ((97:Int)≤c.toNat) && decide ((c.toNat:Int)≤122)
def digC (c:UInt8):Bool:=decide ((48:Int)≤c.toNat) && decide ((c.toNat:Int)≤57)
def nameC (c:UInt8):Bool:=lowC c || digC c || ((c.toNat:Int) == 45) || ((c.toNat:Int) == 46)
def nameL (l:List UInt8):Bool :=
 match l with
 | []=>false
 | c :: r=>decide (r.length < 32) && lowC c && !(l == [97,110,100]) && !(l == [111,114]) && !(l == [119,105,116,104]) && l.all nameC
def nameB (s:ByteArray):Bool:=nameL s.data.toList
def plainC (c:UInt8):Bool:=((c.toNat:Int) == 10) || (decide ((32:Int)≤c.toNat) && decide ((c.toNat:Int)≤126))
def plainB (s:ByteArray):Bool:=s.data.toList.all plainC
def after {α:Type} (f:α→ByteArray) (pre:List α) (n:ByteArray):Bool :=
 match pre.getLast? with
 | none=>true
 | some p=>slt (f p) n
def findFrom (nm:ByteArray):List License→Int→Int
 | [],_ => -1
 | x :: xs,i=>if x.name=nm then i else findFrom nm xs (i+1)
def idxFrom (nm:ByteArray):List ByteArray→Int→Int
 | [],_ => -1
 | x :: xs,i=>if x=nm then i else idxFrom nm xs (i+1)
def mkS (l:List UInt8):ByteArray:=⟨l.toArray⟩
def splitAt (d:UInt8):List UInt8→List UInt8→List ByteArray
 | cur,[]=>[mkS cur]
 | cur,c :: r=>if c=d then mkS cur :: splitAt d [] r else splitAt d (cur++[c]) r
def linesL (l:List UInt8):List ByteArray:=if l=[] then [] else splitAt 10 [] l
def linesB (s:ByteArray):List ByteArray:=linesL s.data.toList
def licErr (pre:List License) (x:License):Int :=
 if !nameB x.name || !nameB x.family then 2
 else if decide (x.version < 0) || decide (999 < x.version) then 3
 else if decide ((4096:Int) < x.text.size) || decide ((999:Int) < (linesB x.text).length) then 10
 else if !plainB x.text then 4
 else if !after License.name pre x.name then 5
 else if (pre.any fun y=>decide (y.family=x.family) && decide (y.version=x.version)) then 6 else 0
def dutyOK (n:Int):Bool:=decide (0≤n) && decide (n≤5)
def incr {α:Type} (lt:α→α→Bool):List α→Bool
 | a :: b :: r=>lt a b && incr lt (b :: r)
 | _=>true
def ilt (a b:Int):Bool:=decide (a < b)
def excErr (ls:List License) (pre:List Exc) (x:Exc):Int :=
 if !nameB x.name then 2
 else if decide (findFrom x.license ls 0 < 0) then 7
 else if !x.lifts.all dutyOK then 3
 else if ((x.lifts.length:Int) == 0) || !after Exc.name pre x.name then 5
 else if !incr ilt x.lifts then 5 else 0
def clauseLt (a b:Clause):Bool :=
 if !seq a.license b.license then slt a.license b.license
 else if a.way != b.way then decide (a.way < b.way)
 else if a.relation != b.relation then decide (a.relation < b.relation)
 else decide (a.duty < b.duty)
def behind {α:Type} (lt:α→α→Bool) (pre:List α) (x:α):Bool :=
 match pre.getLast? with
 | none=>true
 | some p=>lt p x
def clauseErr (ls:List License) (pre:List Clause) (x:Clause):Int :=
 if decide (findFrom x.license ls 0 < 0) then 7
 else if decide (x.way < 0) || decide (2 < x.way) || decide (x.relation < 0) || decide (2 < x.relation) || decide (x.duty < 0) || decide (5 < x.duty) then 3
 else if (x.duty == 4) != decide (0 < x.list.length) then 1
 else if !(x.list.all fun s=>!decide (findFrom s ls 0 < 0)) then 7
 else if !incr slt x.list then 5
 else if !behind clauseLt pre x then 5 else 0
def pairLt (a b:Pair):Bool:=slt a.a b.a || (seq a.a b.a && slt a.b b.b)
def pairErr (ls:List License) (pre:List Pair) (x:Pair):Int :=
 if decide (findFrom x.a ls 0 < 0) || decide (findFrom x.b ls 0 < 0) then 7
 else if !slt x.a x.b || !behind pairLt pre x then 5 else 0
def firstErr {α:Type} (f:List α→α→Int):List α→List α→Int
 | _,[]=>0
 | pre,x :: xs=>if f pre x != 0 then f pre x else firstErr f (pre++[x]) xs
def orElse (a b:Int):Int:=if a != 0 then a else b
def checkC (c:Catalog):Int :=
 if decide ((32:Int) < c.licenses.length) || decide ((16:Int) < c.exceptions.length) || decide ((128:Int) < c.clauses.length) || decide ((64:Int) < c.apart.length) then 10
 else orElse (firstErr licErr [] c.licenses) (orElse (firstErr (excErr c.licenses) [] c.exceptions)
  (orElse (firstErr (clauseErr c.licenses) [] c.clauses) (firstErr (pairErr c.licenses) [] c.apart)))
theorem mkS_toList (l:List UInt8):(mkS l).data.toList=l:=by simp [mkS]
theorem mkS_self (s:ByteArray):mkS s.data.toList=s:=by cases s;simp [mkS]
theorem mkS_size (l:List UInt8):(mkS l).size=l.length:=by simp [mkS,ByteArray.size]
theorem extract_mkS (s:ByteArray) (a b:Nat):s.extract a b=mkS ((s.data.toList.drop a).take (b - a)):=by
 rw [← mkS_self (s.extract a b)];congr 1;simp [ByteArray.data_extract,Array.toList_extract]

theorem blt_cons (a b:UInt8) (x y:List UInt8):Op.bytesLess (a :: x) (b :: y)=(decide (a < b) || (a == b && Op.bytesLess x y)):=rfl
theorem blt_irrefl:∀ a:List UInt8,Op.bytesLess a a=false
 | []=>rfl
 | a :: x=>by rw [blt_cons,blt_irrefl x];simp
theorem blt_trans:∀ a b c:List UInt8,Op.bytesLess a b=true→Op.bytesLess b c=true→Op.bytesLess a c=true
 | _,_,[],_,h=>by cases ‹List UInt8› <;> cases h
 | [],_,_ :: _,_,_=>rfl
 | _ :: _,[],_,h,_=>by cases h
 | a :: x,b :: y,c :: z,h1,h2=>by
  rw [blt_cons] at *;simp only [Bool.or_eq_true,decide_eq_true_eq,Bool.and_eq_true,beq_iff_eq,UInt8.lt_iff_toNat_lt] at *;rcases h1 with h1 | ⟨rfl,h1⟩ <;> rcases h2 with h2 | ⟨rfl,h2⟩
  ·left;omega
  ·left;exact h1
  ·left;exact h2
  ·right;exact ⟨rfl,blt_trans x y z h1 h2⟩
theorem blt_trich:∀ a b:List UInt8,Op.bytesLess a b=!(Op.bytesLess b a || b == a)
 | [],[]=>rfl
 | [],_ :: _=>rfl
 | _ :: _,[]=>rfl
 | a :: x,b :: y=>by
  rw [blt_cons,blt_cons,blt_trich x y];rw [Bool.eq_iff_iff];simp only [Bool.or_eq_true,decide_eq_true_eq,Bool.and_eq_true,beq_iff_eq,UInt8.lt_iff_toNat_lt,Bool.not_eq_true',Bool.or_eq_false_iff,decide_eq_false_iff_not,Bool.and_eq_false_iff,beq_eq_false_iff_ne,ne_eq,List.cons.injEq,not_and];constructor
  ·rintro (h | ⟨rfl,h1,h2⟩)
   ·refine ⟨⟨by omega,Or.inl fun e=>by subst e;omega⟩,fun e=>by subst e;omega⟩
   ·refine ⟨⟨by omega,Or.inr h1⟩,fun _=>h2⟩
  ·rintro ⟨⟨h1,h2⟩,h3⟩;by_cases e:b=a
   ·subst e;rcases h2 with h2 | h2
    ·exact absurd rfl h2
    ·exact Or.inr ⟨rfl,h2,h3 rfl⟩
   ·left
    have:a.toNat≠b.toNat:=fun h=>e (UInt8.toNat_inj.1 h).symm;omega
theorem slt_irrefl (a:ByteArray):slt a a=false:=blt_irrefl _
theorem slt_trans {a b c:ByteArray} (h:slt a b=true) (k:slt b c=true):slt a c=true:=blt_trans _ _ _ h k
theorem slt_trich (a b:ByteArray):slt a b=!(slt b a || seq b a):=blt_trich _ _
theorem slt_le (u y:ByteArray):slt u y=!(Op.bytesLess y.toList u.toList || y.toList == u.toList):=blt_trich _ _
theorem seq_eq (a b:ByteArray):seq a b=decide (a=b):=by
 unfold seq;rw [ByteArray.toList_eq,ByteArray.toList_eq,Bool.eq_iff_iff,beq_iff_eq,decide_eq_true_iff];exact ⟨fun h=>by rw [← mkS_self a,← mkS_self b,h],fun h=>by rw [h]⟩
theorem slt_asymm {a b:ByteArray} (h:slt a b=true):slt b a=false:=by
 cases hb:slt b a
 ·rfl
 ·have:=slt_trans h hb;rw [slt_irrefl] at this;cases this
theorem slt_ne {a b:ByteArray} (h:slt a b=true):a≠b:=by
 rintro rfl;rw [slt_irrefl] at h;cases h
theorem behind_all {α:Type} {lt:α→α→Bool} (htr:∀ a b c,lt a b=true→lt b c=true→lt a c=true) {pre:List α} (hp:pre.Pairwise fun a b=>lt a b=true) {x:α} (h:behind lt pre x=true) :
  ∀ y∈pre,lt y x=true:=by
 intro y hy;unfold behind at h;cases hl:pre.getLast? with
 | none=>rw [List.getLast?_eq_none_iff] at hl;subst hl;simp at hy
 | some p =>
  rw [hl] at h;obtain ⟨zs,rfl⟩:=List.getLast?_eq_some_iff.1 hl;rw [List.pairwise_append] at hp;rcases List.mem_append.1 hy with hy | hy
  ·exact htr _ _ _ (hp.2.2 y hy p (by simp)) h
  ·simp at hy;subst hy;exact h
theorem firstErr_pairwise {α:Type} {f:List α→α→Int} {lt:α→α→Bool} (htr:∀ a b c,lt a b=true→lt b c=true→lt a c=true) (hb:∀ pre x,f pre x=0→behind lt pre x=true) :
  ∀ (xs pre:List α),(pre.Pairwise fun a b=>lt a b=true)→firstErr f pre xs=0→(pre++xs).Pairwise fun a b=>lt a b=true
 | [],pre,hp,_=>by simpa using hp
 | x :: xs,pre,hp,h=>by
  unfold firstErr at h;split at h
  ·rename_i hne;rw [h] at hne;simp at hne
  ·rename_i he
   have he:f pre x=0:=by simpa using he
   have hall:=behind_all htr hp (hb _ _ he);have hp2:(pre++[x]).Pairwise fun a b=>lt a b=true:=by
    rw [List.pairwise_append];exact ⟨hp,by simp,fun a ha b hb=>by simp at hb;subst hb;exact hall a ha⟩
   have:=firstErr_pairwise htr hb xs (pre++[x]) hp2 h;simpa using this
theorem after_behind {α:Type} (f:α→ByteArray) (pre:List α) (x:α):after f pre (f x)=behind (fun a b=>slt (f a) (f b)) pre x:=by
 unfold after behind;cases pre.getLast? <;> rfl
theorem licErr_zero {pre:List License} {x:License} (h:licErr pre x=0):behind (fun a b=>slt a.name b.name) pre x=true:=by
 rw [← after_behind];unfold licErr at h;cases ha:after License.name pre x.name
 ·rw [ha] at h;simp at h;(repeat' split at h) <;> simp_all
 ·rfl
theorem lic_sorted {ls:List License} (h:firstErr licErr [] ls=0):ls.Pairwise fun a b=>slt a.name b.name=true:=by
 have:=firstErr_pairwise (lt:=fun a b=>slt a.name b.name) (fun a b c h1 h2=>slt_trans (a:=a.name) (b:=b.name) (c:=c.name) h1 h2) (fun pre x h=>licErr_zero h) ls [] (by simp) h;simpa using this
theorem lic_nodup {ls:List License} (h:firstErr licErr [] ls=0):(ls.map License.name).Nodup:=by
 rw [List.Nodup,List.pairwise_map];exact (lic_sorted h).imp fun h=>slt_ne h

def isW (a:ByteArray) (l:List UInt8):Bool:=decide (a.data.toList=l)
def wayW:List (List UInt8):=[[115,111,117,114,99,101],[98,105,110,97,114,121],[115,101,114,118,105,99,101]]
def relW:List (List UInt8):=[[105,110],[98,121],[111,118,101,114]]
def dutyW:List (List UInt8):=[[116,101,120,116],[110,111,116,105,99,101],[99,104,97,110,103,101,115],[115,111,117,114,99,101],[115,104,97,114,101],[102,111,114,98,105,100]]
def wordIx (ws:List (List UInt8)) (s:ByteArray):Int :=
 match ws.findIdx? (isW s) with
 | none => -1
 | some k=>(k:Int)
def wordsB (s:ByteArray):List ByteArray:=(splitAt 32 [] s.data.toList).filter fun a=>!isW a []
def numV (l:List UInt8):Int:=l.foldl (fun n c=>10 * n+((c.toNat:Int) - 48)) 0
def numC (s:ByteArray):Option Int :=
 let l:=s.data.toList
 if l=[] || decide (3 < l.length) || (decide (1 < l.length) && decide (l.head?=some 48)) || !l.all digC then none else some (numV l)
def joinB (d:List UInt8):List ByteArray→List UInt8
 | []=>[]
 | [a]=>a.data.toList
 | a :: r=>a.data.toList++d++joinB d r
inductive LineRes where
 | err (e:Int)
 | ok (c:Catalog) (n:Nat)
def readLic (c:Catalog) (ws rest:List ByteArray):LineRes :=
 match ws with
 | [a,b,v,n] =>
  match numC v,numC n with
  | some v,some n=>if decide ((rest.length:Int) < n) then .err 13
   else .ok { c with licenses:=c.licenses++[⟨a,b,v,mkS (joinB [10] (rest.take n.toNat))⟩] } n.toNat
  | _,_=>.err 4
 | _=>.err 4
def dutyIxs:List ByteArray→Option (List Int)
 | []=>some []
 | s :: r=>if wordIx dutyW s < 0 then none else
  match dutyIxs r with
  | none=>none
  | some l=>some (wordIx dutyW s :: l)
def readExc (c:Catalog):List ByteArray→LineRes
 | a :: b :: r =>
  match dutyIxs r with
  | none=>.err 4
  | some l=>.ok { c with exceptions:=c.exceptions++[⟨a,b,l⟩] } 0
 | _=>.err 4
def readClause (c:Catalog):List ByteArray→LineRes
 | a :: w :: r :: d :: l =>
  if decide (wordIx wayW w < 0) || decide (wordIx relW r < 0) || decide (wordIx dutyW d < 0) then .err 4
  else .ok { c with clauses:=c.clauses++[⟨a,wordIx wayW w,wordIx relW r,wordIx dutyW d,l⟩] } 0
 | _=>.err 4
def readApart (c:Catalog):List ByteArray→LineRes
 | [a,b]=>.ok { c with apart:=c.apart++[⟨a,b⟩] } 0
 | _=>.err 4
def wLicense:List UInt8:=[108,105,99,101,110,115,101]
def wException:List UInt8:=[101,120,99,101,112,116,105,111,110]
def wClause:List UInt8:=[99,108,97,117,115,101]
def wApart:List UInt8:=[97,112,97,114,116]
def readLine (c:Catalog) (s:ByteArray) (rest:List ByteArray):LineRes :=
 match wordsB s with
 | []=>.ok c 0
 | h :: ws =>
  if h.data.toList.head?=some 35 then .ok c 0
  else if isW h wLicense then readLic c ws rest
  else if isW h wException then readExc c ws
  else if isW h wClause then readClause c ws
  else if isW h wApart then readApart c ws
  else .err 4
def readLines:Int→Nat→Catalog→List ByteArray→Int×Int×Catalog
 | _,_,c,[]=>(0,0,c)
 | a,k+1,c,_ :: rest=>readLines (a+1) k c rest
 | a,0,c,s :: rest =>
  match readLine c s rest with
  | .err e=>(a,e,⟨[],[],[],[]⟩)
  | .ok c' n=>readLines (a+1) n c' rest
def insR {α:Type} (lt:α→α→Bool) (x:α):List α→List α
 | []=>[x]
 | y :: r=>if lt x y then y :: insR lt x r else x :: y :: r
def sortR {α:Type} (lt:α→α→Bool):List α→List α→List α
 | acc,[]=>acc
 | acc,x :: r=>sortR lt (insR lt x acc) r
def sortS {α:Type} (lt:α→α→Bool) (xs:List α):List α:=(sortR lt [] xs).reverse
def sortC (c:Catalog):Catalog :=
 ⟨sortS (fun a b=>slt a.name b.name) c.licenses,sortS (fun a b=>slt a.name b.name) c.exceptions,sortS clauseLt c.clauses,sortS pairLt c.apart⟩
def textLines (s:ByteArray):List ByteArray :=
 let l:=splitAt 10 [] s.data.toList
 match l.getLast? with
 | none=>[]
 | some b=>if isW b [] then l.dropLast else l
def emptyC:Catalog:=⟨[],[],[],[]⟩
def parseC (s:ByteArray):Int×Int×Catalog :=
 if decide (65536 < s.size) then (0,10,emptyC)
 else
  match readLines 0 0 emptyC (textLines s) with
  | (a,e,c)=>if e != 0 then (a,e,emptyC) else if checkC (sortC c) != 0 then (-1,checkC (sortC c),emptyC) else (0,0,sortC c)
end Go.Proofs.YtcbopdbbcgdkcaaGreatDoor
