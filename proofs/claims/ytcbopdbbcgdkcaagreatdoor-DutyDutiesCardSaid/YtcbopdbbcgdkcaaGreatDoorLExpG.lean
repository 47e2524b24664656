/- Lemmas. -/
import Derived.Test.YtcbopdbbcgdkcaaGreatDoorLAltG
set_option linter.all false

namespace Go.Proofs.YtcbopdbbcgdkcaaGreatDoor
open Go

inductive LExpr where
 | mk (kind:Int) (name exc:ByteArray) (kids:List LExpr)
deriving Inhabited
namespace LExpr
def kind:LExpr→Int | mk k _ _ _=>k
def name:LExpr→ByteArray | mk _ n _ _=>n
def exc:LExpr→ByteArray | mk _ _ x _=>x
def kids:LExpr→List LExpr | mk _ _ _ l=>l
end LExpr
theorem LExpr.ind {P:LExpr→Prop} (h:∀ k n x ks,(∀ e∈ks,P e)→P (.mk k n x ks)) (e:LExpr):P e :=
 LExpr.rec (motive_1:=P) (motive_2:=fun ks=>∀ e∈ks,P e) (fun k n x ks ih=>h k n x ks ih) (fun _ he=>by simp at he)
  (fun a r ha hr e he=>by
   rcases List.mem_cons.1 he with rfl | he
   ·exact ha
   ·exact hr e he) e
mutual
def sizeE:LExpr→Nat
 | .mk _ _ _ ks=>sizeKs ks+1
def sizeKs:List LExpr→Nat
 | []=>0
 | e :: r=>sizeE e+sizeKs r
end
mutual
def depthE:LExpr→Nat
 | .mk _ _ _ ks=>depthKs ks+1
def depthKs:List LExpr→Nat
 | []=>0
 | e :: r=>max (depthE e) (depthKs r)
end
mutual
def nodesE:LExpr→List LExpr
 | .mk k n x ks=>.mk k n x ks :: nodesKs ks
def nodesKs:List LExpr→List LExpr
 | []=>[]
 | e :: r=>nodesE e++nodesKs r
end
theorem nodes_length:∀ e,(nodesE e).length=sizeE e:=by
 have h:∀ ks:List LExpr,(∀ e∈ks,(nodesE e).length=sizeE e)→(nodesKs ks).length=sizeKs ks:=by
  intro ks;induction ks with
  | nil=>intro _;rfl
  | cons a r ih=>intro h;rw [nodesKs,sizeKs,List.length_append,h a (by simp),ih fun e he=>h e (by simp [he])]
 refine LExpr.ind fun k n x ks ih=>?_;rw [nodesE,sizeE,List.length_cons,h ks ih]
def emp (s:ByteArray):Bool:=s.toList.isEmpty
def nodeErr:LExpr→Int
 | .mk k n x ks =>
  if k == 0 || k == 1 then
   if decide ((0:Int) < ks.length) || (k == 1 && !emp x) then 1 else if !nameB n || (!emp x && !nameB x) then 2 else 0
  else if k == 2 || k == 3 then
   if decide ((ks.length:Int) < 2) || !emp n || !emp x then 1 else 0
  else 1
def nodesErr:List LExpr→Int
 | []=>0
 | e :: r=>if nodeErr e == 0 then nodesErr r else nodeErr e
def formE (e:LExpr):Int :=
 if decide ((64:Int) < sizeE e) then 10 else if decide ((24:Int) < depthE e) then 11 else nodesErr (nodesE e)
open Go.RowKit Go.ChangeShapes

inductive ExpIs (w:World):(Nat→Option Value)→LExpr→Prop
 | mk {get:Nat→Option Value} {k:Int} {n x:ByteArray} {ks:List LExpr} (a:Option Addr) (c b off:Nat)
   (h0:get 0=some (.int .i64 k)) (i0:inI64 k) (h1:get 1=some (.string n)) (s1:n.size≤maxLen) (h2:get 2=some (.string x)) (s2:x.size≤maxLen)
   (h3:get 3=some (.slice a ks.length c)) (l3:ks.length≤c) (m3:c≤maxLen) (ha:ks≠[]→a=some ⟨b,off,none⟩∧b < w.heap.size)
   (hk:∀ i e,ks[i]?=some e→ExpIs w (fun j=>w.cell? ⟨b,off+i * 4+j,none⟩) e):ExpIs w get (.mk k n x ks)
theorem ExpIs.mono {w w':World} (hb:Below w.heap.size w w') {get:Nat→Option Value} {e:LExpr} (h:ExpIs w get e):ExpIs w' get e:=by
 induction h with
 | @mk get k n x ks a c b off h0 i0 h1 s1 h2 s2 h3 l3 m3 ha hk ih =>
  refine .mk a c b off h0 i0 h1 s1 h2 s2 h3 l3 m3 (fun hn=>⟨(ha hn).1,Nat.lt_of_lt_of_le (ha hn).2 hb.size⟩) fun i e he=>?_;have hn:ks≠[]:=by rintro rfl;simp at he
  have e1:(fun j=>w'.cell? ⟨b,off+i * 4+j,none⟩)=fun j=>w.cell? ⟨b,off+i * 4+j,none⟩:=by
   funext j;exact hb.cell (p:=⟨b,off+i * 4+j,none⟩) (ha hn).2
  rw [e1];exact ih i e he
instance:Lay LExpr where
 n:=4
 agg:=true
 is:=ExpIs
 mono hb h:=h.mono hb
 congr hg h:=by
  cases h with
  | mk a c b off h0 i0 h1 s1 h2 s2 h3 l3 m3 ha hk =>
   exact .mk a c b off (by rw [← hg 0 (by decide)];exact h0) i0 (by rw [← hg 1 (by decide)];exact h1) s1 (by rw [← hg 2 (by decide)];exact h2) s2 (by rw [← hg 3 (by decide)];exact h3) l3 m3 ha hk
theorem LExpr.is_iff {w:World} {get:Nat→Option Value} {k:Int} {n x:ByteArray} {ks:List LExpr}:Lay.is w get (LExpr.mk k n x ks) ↔
  ∃ a c,get 0=some (.int .i64 k)∧get 1=some (.string n)∧get 2=some (.string x)∧get 3=some (.slice a ks.length c)∧inI64 k∧n.size≤maxLen∧x.size≤maxLen∧ks.length≤c∧c≤maxLen∧Row w a ks:=by
 constructor
 ·intro h;cases h with
  | mk a c b off h0 i0 h1 s1 h2 s2 h3 l3 m3 ha hk =>
   refine ⟨a,c,h0,h1,h2,h3,i0,s1,s2,l3,m3,fun i e he=>?_⟩;have hn:ks≠[]:=by rintro rfl;simp at he
   exact ⟨b,off,(ha hn).1,(ha hn).2,hk i e he⟩
 ·rintro ⟨a,c,h0,h1,h2,h3,i0,s1,s2,l3,m3,hr⟩;cases ks with
  | nil=>exact .mk a c 0 0 h0 i0 h1 s1 h2 s2 h3 l3 m3 (fun h=>absurd rfl h) fun i e he=>by simp at he
  | cons y r =>
   obtain ⟨b,off,rfl,hb,-⟩:=hr 0 y rfl;refine .mk _ c b off h0 i0 h1 s1 h2 s2 h3 l3 m3 (fun _=>⟨rfl,hb⟩) fun i e he=>?_;obtain ⟨b',off',hab,-,hi⟩:=hr i e he;cases hab;exact hi
theorem LExpr.at_row {w:World} {a:Option Addr} {i:Nat} {xs:List LExpr} {k:Int} {n x:ByteArray} {ks:List LExpr} (h:Row w a xs) (hx:xs[i]?=some (LExpr.mk k n x ks)) :
  ∃ b off,a=some ⟨b,off,none⟩∧b < w.heap.size∧∃ a3 c3,w.cell? ⟨b,off+i * 4,none⟩=some (.int .i64 k)∧w.cell? ⟨b,off+i * 4+1,none⟩=some (.string n)∧w.cell? ⟨b,off+i * 4+2,none⟩=some (.string x)∧w.cell? ⟨b,off+i * 4+3,none⟩=some (.slice a3 ks.length c3)∧inI64 k∧n.size≤maxLen∧x.size≤maxLen∧ks.length≤c3∧c3≤maxLen∧Row w a3 ks:=by
 obtain ⟨b,off,ha,hb,hi⟩:=h i _ hx;obtain ⟨a3,c3,h0,h1,h2,h3,r⟩:=LExpr.is_iff.1 hi;exact ⟨b,off,ha,hb,a3,c3,h0,h1,h2,h3,r⟩
theorem LExpr.inv {w:World} {v:Value} {k:Int} {n x:ByteArray} {ks:List LExpr} (h:Is w v (LExpr.mk k n x ks)) :
  ∃ a c,v=.agg #[.int .i64 k,.string n,.string x,.slice a ks.length c]∧inI64 k∧n.size≤maxLen∧x.size≤maxLen∧ks.length≤c∧c≤maxLen∧Row w a ks:=by
 obtain ⟨cs,hs,hv,h⟩:=h;obtain ⟨a,c,g0,g1,g2,g3,r⟩:=LExpr.is_iff.1 h;refine ⟨a,c,?_,r⟩;rw [hv];refine congrArg Value.agg (Array.ext_getElem? fun j=>?_);have hs':cs.size=4:=hs;match j with
 | 0=>simpa using g0
 | 1=>simpa using g1
 | 2=>simpa using g2
 | 3=>simpa using g3
 | j+4=>rw [Array.getElem?_eq_none (by omega),Array.getElem?_eq_none (by simp)]
theorem LExpr.mk' {w:World} {k:Int} {n x:ByteArray} {ks:List LExpr} {a:Option Addr} {c:Nat} (i0:inI64 k) (s1:n.size≤maxLen) (s2:x.size≤maxLen) (l:ks.length≤c) (m:c≤maxLen) (r:Row w a ks) :
  Is w (.agg #[.int .i64 k,.string n,.string x,.slice a ks.length c]) (LExpr.mk k n x ks) :=
 ⟨#[.int .i64 k,.string n,.string x,.slice a ks.length c],rfl,rfl,LExpr.is_iff.2 ⟨a,c,rfl,rfl,rfl,rfl,i0,s1,s2,l,m,r⟩⟩
theorem list_at {α:Type} [Lay α] {w:World} {a:Option Addr} {i:Nat} {xs:List (List α)} {x:List α} (h:Row w a xs) (hx:xs[i]?=some x) :
  ∃ b off,a=some ⟨b,off,none⟩∧b < w.heap.size∧∃ a3 c3,w.cell? ⟨b,off+i,none⟩=some (.slice a3 x.length c3)∧x.length≤c3∧c3≤maxLen∧Row w a3 x:=by
 obtain ⟨b,off,ha,hb,a3,c3,h1,h2⟩:=h i x hx;refine ⟨b,off,ha,hb,a3,c3,?_,h2⟩;have h1':w.cell? ⟨b,off+i * 1+0,none⟩=some (.slice a3 x.length c3):=h1;simpa using h1'
end Go.Proofs.YtcbopdbbcgdkcaaGreatDoor
