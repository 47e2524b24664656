/- Lemmas. -/
import Derived.Test.YtcbopdbbcgdkcaaGreatDoorProg
import Derived.Test.YtcbopdbbcgdkcaaGreatDoorLExpG
set_option linter.all false
set_option maxRecDepth 100000
set_option maxHeartbeats 16000000
namespace Go.Proofs.YtcbopdbbcgdkcaaGreatDoor
open Go Go.RowKit

structure Fact where
 kind:Int
 component:ByteArray
 output:ByteArray
 relation:Int
 way:Int
 duty:Int
 changed:Bool
 expr:LExpr
 list:List ByteArray
instance:Lay Fact where
 n:=12
 agg:=true
 is w get x:=Lay.is w (fun j=>get j) x.kind∧Lay.is w (fun j=>get (1+j)) x.component∧Lay.is w (fun j=>get (2+j)) x.output∧Lay.is w (fun j=>get (3+j)) x.relation∧Lay.is w (fun j=>get (4+j)) x.way∧Lay.is w (fun j=>get (5+j)) x.duty∧Lay.is w (fun j=>get (6+j)) x.changed∧Lay.is w (fun j=>get (7+j)) x.expr∧Lay.is w (fun j=>get (11+j)) x.list
 mono hb h:=⟨Lay.mono hb h.1,Lay.mono hb h.2.1,Lay.mono hb h.2.2.1,Lay.mono hb h.2.2.2.1,Lay.mono hb h.2.2.2.2.1,Lay.mono hb h.2.2.2.2.2.1,Lay.mono hb h.2.2.2.2.2.2.1,Lay.mono hb h.2.2.2.2.2.2.2.1,Lay.mono hb h.2.2.2.2.2.2.2.2⟩
 congr hg h:=⟨Lay.congr (fun j hj=>hg j (by simp [Lay.n] at hj;omega)) h.1,Lay.congr (fun j hj=>hg (1+j) (by simp [Lay.n] at hj;omega)) h.2.1,Lay.congr (fun j hj=>hg (2+j) (by simp [Lay.n] at hj;omega)) h.2.2.1,Lay.congr (fun j hj=>hg (3+j) (by simp [Lay.n] at hj;omega)) h.2.2.2.1,Lay.congr (fun j hj=>hg (4+j) (by simp [Lay.n] at hj;omega)) h.2.2.2.2.1,Lay.congr (fun j hj=>hg (5+j) (by simp [Lay.n] at hj;omega)) h.2.2.2.2.2.1,Lay.congr (fun j hj=>hg (6+j) (by simp [Lay.n] at hj;omega)) h.2.2.2.2.2.2.1,Lay.congr (fun j hj=>hg (7+j) (by simp [Lay.n] at hj;omega)) h.2.2.2.2.2.2.2.1,Lay.congr (fun j hj=>hg (11+j) (by simp [Lay.n] at hj;omega)) h.2.2.2.2.2.2.2.2⟩
theorem Fact.is_iff {w:World} {get:Nat→Option Value} {ki0:Int} {co1:ByteArray} {ou2:ByteArray} {re3:Int} {wa4:Int} {du5:Int} {ch6:Bool} {ek:Int} {en:ByteArray} {ex:ByteArray} {eks:List LExpr} {li8:List ByteArray}:Lay.is w get (Fact.mk ki0 co1 ou2 re3 wa4 du5 ch6 (LExpr.mk ek en ex eks) li8)↔∃ ae ce a11 c11,get 0=some (.int .i64 ki0)∧get 1=some (.string co1)∧get 2=some (.string ou2)∧get 3=some (.int .i64 re3)∧get 4=some (.int .i64 wa4)∧get 5=some (.int .i64 du5)∧get 6=some (.bool ch6)∧get 7=some (.int .i64 ek)∧get 8=some (.string en)∧get 9=some (.string ex)∧get 10=some (.slice ae eks.length ce)∧get 11=some (.slice a11 li8.length c11)∧inI64 ki0∧co1.size≤maxLen∧ou2.size≤maxLen∧inI64 re3∧inI64 wa4∧inI64 du5∧inI64 ek∧en.size≤maxLen∧ex.size≤maxLen∧eks.length≤ce∧ce≤maxLen∧Row w ae eks∧li8.length≤c11∧c11≤maxLen∧Row w a11 li8:=by
 constructor
 ·intro h;obtain ⟨⟨g0,s0⟩,⟨g1,s1⟩,⟨g2,s2⟩,⟨g3,s3⟩,⟨g4,s4⟩,⟨g5,s5⟩,g6,he,⟨a11,c11,g11,l11,m11,r11⟩⟩:=h;obtain ⟨ae,ce,g7,g8,g9,g10,se0,se1,se2,le,me,re⟩:=LExpr.is_iff.1 he;exact ⟨ae,ce,a11,c11,g0,g1,g2,g3,g4,g5,g6,g7,g8,g9,g10,g11,s0,s1,s2,s3,s4,s5,se0,se1,se2,le,me,re,l11,m11,r11⟩
 ·rintro ⟨ae,ce,a11,c11,g0,g1,g2,g3,g4,g5,g6,g7,g8,g9,g10,g11,s0,s1,s2,s3,s4,s5,se0,se1,se2,le,me,re,l11,m11,r11⟩;exact ⟨⟨g0,s0⟩,⟨g1,s1⟩,⟨g2,s2⟩,⟨g3,s3⟩,⟨g4,s4⟩,⟨g5,s5⟩,g6,LExpr.is_iff.2 ⟨ae,ce,g7,g8,g9,g10,se0,se1,se2,le,me,re⟩,⟨a11,c11,g11,l11,m11,r11⟩⟩
theorem Fact.at_row {w:World} {a:Option Addr} {i:Nat} {xs:List Fact} {ki0:Int} {co1:ByteArray} {ou2:ByteArray} {re3:Int} {wa4:Int} {du5:Int} {ch6:Bool} {ek:Int} {en:ByteArray} {ex:ByteArray} {eks:List LExpr} {li8:List ByteArray} (h:Row w a xs) (hx:xs[i]?=some (Fact.mk ki0 co1 ou2 re3 wa4 du5 ch6 (LExpr.mk ek en ex eks) li8)) :
  ∃ b off,a=some ⟨b,off,none⟩∧b < w.heap.size∧∃ ae ce a11 c11,w.cell? ⟨b,off+i * 12,none⟩=some (.int .i64 ki0)∧w.cell? ⟨b,off+i * 12+1,none⟩=some (.string co1)∧w.cell? ⟨b,off+i * 12+2,none⟩=some (.string ou2)∧w.cell? ⟨b,off+i * 12+3,none⟩=some (.int .i64 re3)∧w.cell? ⟨b,off+i * 12+4,none⟩=some (.int .i64 wa4)∧w.cell? ⟨b,off+i * 12+5,none⟩=some (.int .i64 du5)∧w.cell? ⟨b,off+i * 12+6,none⟩=some (.bool ch6)∧w.cell? ⟨b,off+i * 12+7,none⟩=some (.int .i64 ek)∧w.cell? ⟨b,off+i * 12+8,none⟩=some (.string en)∧w.cell? ⟨b,off+i * 12+9,none⟩=some (.string ex)∧w.cell? ⟨b,off+i * 12+10,none⟩=some (.slice ae eks.length ce)∧w.cell? ⟨b,off+i * 12+11,none⟩=some (.slice a11 li8.length c11)∧inI64 ki0∧co1.size≤maxLen∧ou2.size≤maxLen∧inI64 re3∧inI64 wa4∧inI64 du5∧inI64 ek∧en.size≤maxLen∧ex.size≤maxLen∧eks.length≤ce∧ce≤maxLen∧Row w ae eks∧li8.length≤c11∧c11≤maxLen∧Row w a11 li8:=by
 obtain ⟨b,off,ha,hb,hi⟩:=h i _ hx;obtain ⟨ae,ce,a11,c11,g0,g1,g2,g3,g4,g5,g6,g7,g8,g9,g10,g11,r⟩:=Fact.is_iff.1 hi;exact ⟨b,off,ha,hb,ae,ce,a11,c11,g0,g1,g2,g3,g4,g5,g6,g7,g8,g9,g10,g11,r⟩
theorem Fact.inv {w:World} {v:Value} {ki0:Int} {co1:ByteArray} {ou2:ByteArray} {re3:Int} {wa4:Int} {du5:Int} {ch6:Bool} {ek:Int} {en:ByteArray} {ex:ByteArray} {eks:List LExpr} {li8:List ByteArray} (h:Is w v (Fact.mk ki0 co1 ou2 re3 wa4 du5 ch6 (LExpr.mk ek en ex eks) li8)):∃ ae ce a11 c11,v=.agg #[.int .i64 ki0,.string co1,.string ou2,.int .i64 re3,.int .i64 wa4,.int .i64 du5,.bool ch6,.int .i64 ek,.string en,.string ex,.slice ae eks.length ce,.slice a11 li8.length c11]∧inI64 ki0∧co1.size≤maxLen∧ou2.size≤maxLen∧inI64 re3∧inI64 wa4∧inI64 du5∧inI64 ek∧en.size≤maxLen∧ex.size≤maxLen∧eks.length≤ce∧ce≤maxLen∧Row w ae eks∧li8.length≤c11∧c11≤maxLen∧Row w a11 li8:=by
 obtain ⟨cs,hs,hv,h⟩:=h;obtain ⟨ae,ce,a11,c11,g0,g1,g2,g3,g4,g5,g6,g7,g8,g9,g10,g11,r⟩:=Fact.is_iff.1 h;refine ⟨ae,ce,a11,c11,?_,r⟩;rw [hv];refine congrArg Value.agg (Array.ext_getElem? fun j=>?_);have hs':cs.size=12:=hs;match j with
 | 0=>simpa using g0
 | 1=>simpa using g1
 | 2=>simpa using g2
 | 3=>simpa using g3
 | 4=>simpa using g4
 | 5=>simpa using g5
 | 6=>simpa using g6
 | 7=>simpa using g7
 | 8=>simpa using g8
 | 9=>simpa using g9
 | 10=>simpa using g10
 | 11=>simpa using g11
 | j+12=>rw [Array.getElem?_eq_none (by omega),Array.getElem?_eq_none (by simp)]
theorem Fact.mk' {w:World} {ki0:Int} {co1:ByteArray} {ou2:ByteArray} {re3:Int} {wa4:Int} {du5:Int} {ch6:Bool} {ek:Int} {en:ByteArray} {ex:ByteArray} {eks:List LExpr} {li8:List ByteArray} {ae:Option Addr} {ce:Nat} {a11:Option Addr} {c11:Nat} (h:inI64 ki0∧co1.size≤maxLen∧ou2.size≤maxLen∧inI64 re3∧inI64 wa4∧inI64 du5∧inI64 ek∧en.size≤maxLen∧ex.size≤maxLen∧eks.length≤ce∧ce≤maxLen∧Row w ae eks∧li8.length≤c11∧c11≤maxLen∧Row w a11 li8):Is w (.agg #[.int .i64 ki0,.string co1,.string ou2,.int .i64 re3,.int .i64 wa4,.int .i64 du5,.bool ch6,.int .i64 ek,.string en,.string ex,.slice ae eks.length ce,.slice a11 li8.length c11]) (Fact.mk ki0 co1 ou2 re3 wa4 du5 ch6 (LExpr.mk ek en ex eks) li8):=by
 obtain ⟨s0,s1,s2,s3,s4,s5,se0,se1,se2,le,me,re,l11,m11,r11⟩:=h;exact ⟨_,rfl,rfl,Fact.is_iff.2 ⟨ae,ce,a11,c11,rfl,rfl,rfl,rfl,rfl,rfl,rfl,rfl,rfl,rfl,rfl,rfl,s0,s1,s2,s3,s4,s5,se0,se1,se2,le,me,re,l11,m11,r11⟩⟩
structure Choice where
 terms:List (List Term)
 own:List ByteArray
instance:Lay Choice where
 n:=2
 agg:=true
 is w get x:=Lay.is w (fun j=>get j) x.terms∧Lay.is w (fun j=>get (1+j)) x.own
 mono hb h:=⟨Lay.mono hb h.1,Lay.mono hb h.2⟩
 congr hg h:=⟨Lay.congr (fun j hj=>hg j (by simp [Lay.n] at hj;omega)) h.1,Lay.congr (fun j hj=>hg (1+j) (by simp [Lay.n] at hj;omega)) h.2⟩
theorem Choice.is_iff {w:World} {get:Nat→Option Value} {te0:List (List Term)} {ow1:List ByteArray}:Lay.is w get (Choice.mk te0 ow1)↔∃ a0 c0 a1 c1,get 0=some (.slice a0 te0.length c0)∧get 1=some (.slice a1 ow1.length c1)∧te0.length≤c0∧c0≤maxLen∧Row w a0 te0∧ow1.length≤c1∧c1≤maxLen∧Row w a1 ow1:=by
 constructor
 ·intro h;obtain ⟨⟨a0,c0,g0,l0,m0,r0⟩,⟨a1,c1,g1,l1,m1,r1⟩⟩:=h;exact ⟨a0,c0,a1,c1,g0,g1,l0,m0,r0,l1,m1,r1⟩
 ·rintro ⟨a0,c0,a1,c1,g0,g1,l0,m0,r0,l1,m1,r1⟩;exact ⟨⟨a0,c0,g0,l0,m0,r0⟩,⟨a1,c1,g1,l1,m1,r1⟩⟩
theorem Choice.inv {w:World} {v:Value} {te0:List (List Term)} {ow1:List ByteArray} (h:Is w v (Choice.mk te0 ow1)):∃ a0 c0 a1 c1,v=.agg #[.slice a0 te0.length c0,.slice a1 ow1.length c1]∧te0.length≤c0∧c0≤maxLen∧Row w a0 te0∧ow1.length≤c1∧c1≤maxLen∧Row w a1 ow1:=by
 obtain ⟨cs,hs,hv,h⟩:=h;obtain ⟨a0,c0,a1,c1,g0,g1,r⟩:=Choice.is_iff.1 h;refine ⟨a0,c0,a1,c1,?_,r⟩;rw [hv];refine congrArg Value.agg (Array.ext_getElem? fun j=>?_);have hs':cs.size=2:=hs;match j with
 | 0=>simpa using g0
 | 1=>simpa using g1
 | j+2=>rw [Array.getElem?_eq_none (by omega),Array.getElem?_eq_none (by simp)]
theorem Choice.mk' {w:World} {te0:List (List Term)} {ow1:List ByteArray} {a0:Option Addr} {c0:Nat} {a1:Option Addr} {c1:Nat} (h:te0.length≤c0∧c0≤maxLen∧Row w a0 te0∧ow1.length≤c1∧c1≤maxLen∧Row w a1 ow1):Is w (.agg #[.slice a0 te0.length c0,.slice a1 ow1.length c1]) (Choice.mk te0 ow1):=by
 obtain ⟨l0,m0,r0,l1,m1,r1⟩:=h;exact ⟨_,rfl,rfl,Choice.is_iff.2 ⟨a0,c0,a1,c1,rfl,rfl,l0,m0,r0,l1,m1,r1⟩⟩
structure Due where
 output:ByteArray
 component:ByteArray
 term:Term
 way:Int
 relation:Int
 duty:Int
deriving Inhabited,DecidableEq
instance:Lay Due where
 n:=7
 agg:=true
 is w get x:=Lay.is w (fun j=>get j) x.output∧Lay.is w (fun j=>get (1+j)) x.component∧Lay.is w (fun j=>get (2+j)) x.term∧Lay.is w (fun j=>get (4+j)) x.way∧Lay.is w (fun j=>get (5+j)) x.relation∧Lay.is w (fun j=>get (6+j)) x.duty
 mono hb h:=⟨Lay.mono hb h.1,Lay.mono hb h.2.1,Lay.mono hb h.2.2.1,Lay.mono hb h.2.2.2.1,Lay.mono hb h.2.2.2.2.1,Lay.mono hb h.2.2.2.2.2⟩
 congr hg h:=⟨Lay.congr (fun j hj=>hg j (by simp [Lay.n] at hj;omega)) h.1,Lay.congr (fun j hj=>hg (1+j) (by simp [Lay.n] at hj;omega)) h.2.1,Lay.congr (fun j hj=>hg (2+j) (by simp [Lay.n] at hj;omega)) h.2.2.1,Lay.congr (fun j hj=>hg (4+j) (by simp [Lay.n] at hj;omega)) h.2.2.2.1,Lay.congr (fun j hj=>hg (5+j) (by simp [Lay.n] at hj;omega)) h.2.2.2.2.1,Lay.congr (fun j hj=>hg (6+j) (by simp [Lay.n] at hj;omega)) h.2.2.2.2.2⟩
theorem Due.is_iff {w:World} {get:Nat→Option Value} {ou0:ByteArray} {co1:ByteArray} {tl:ByteArray} {tx:ByteArray} {wa3:Int} {re4:Int} {du5:Int}:Lay.is w get (Due.mk ou0 co1 (Term.mk tl tx) wa3 re4 du5)↔get 0=some (.string ou0)∧get 1=some (.string co1)∧get 2=some (.string tl)∧get 3=some (.string tx)∧get 4=some (.int .i64 wa3)∧get 5=some (.int .i64 re4)∧get 6=some (.int .i64 du5)∧ou0.size≤maxLen∧co1.size≤maxLen∧tl.size≤maxLen∧tx.size≤maxLen∧inI64 wa3∧inI64 re4∧inI64 du5:=by
 constructor
 ·intro h;obtain ⟨⟨g0,s0⟩,⟨g1,s1⟩,ht,⟨g4,s4⟩,⟨g5,s5⟩,⟨g6,s6⟩⟩:=h;obtain ⟨g2,g3,st0,st1⟩:=Term.is_iff.1 ht;exact ⟨g0,g1,g2,g3,g4,g5,g6,s0,s1,st0,st1,s4,s5,s6⟩
 ·rintro ⟨g0,g1,g2,g3,g4,g5,g6,s0,s1,st0,st1,s4,s5,s6⟩;exact ⟨⟨g0,s0⟩,⟨g1,s1⟩,Term.is_iff.2 ⟨g2,g3,st0,st1⟩,⟨g4,s4⟩,⟨g5,s5⟩,⟨g6,s6⟩⟩
theorem Due.at_row {w:World} {a:Option Addr} {i:Nat} {xs:List Due} {ou0:ByteArray} {co1:ByteArray} {tl:ByteArray} {tx:ByteArray} {wa3:Int} {re4:Int} {du5:Int} (h:Row w a xs) (hx:xs[i]?=some (Due.mk ou0 co1 (Term.mk tl tx) wa3 re4 du5)) :
  ∃ b off,a=some ⟨b,off,none⟩∧b < w.heap.size∧w.cell? ⟨b,off+i * 7,none⟩=some (.string ou0)∧w.cell? ⟨b,off+i * 7+1,none⟩=some (.string co1)∧w.cell? ⟨b,off+i * 7+2,none⟩=some (.string tl)∧w.cell? ⟨b,off+i * 7+3,none⟩=some (.string tx)∧w.cell? ⟨b,off+i * 7+4,none⟩=some (.int .i64 wa3)∧w.cell? ⟨b,off+i * 7+5,none⟩=some (.int .i64 re4)∧w.cell? ⟨b,off+i * 7+6,none⟩=some (.int .i64 du5)∧ou0.size≤maxLen∧co1.size≤maxLen∧tl.size≤maxLen∧tx.size≤maxLen∧inI64 wa3∧inI64 re4∧inI64 du5:=by
 obtain ⟨b,off,ha,hb,hi⟩:=h i _ hx;obtain ⟨g0,g1,g2,g3,g4,g5,g6,r⟩:=Due.is_iff.1 hi;exact ⟨b,off,ha,hb,g0,g1,g2,g3,g4,g5,g6,r⟩
end Go.Proofs.YtcbopdbbcgdkcaaGreatDoor
namespace Go.Proofs.YtcbopdbbcgdkcaaGreatDoor
open Go

def zeroE:LExpr→Bool
 | .mk k n x ks=>k == 0 && emp n && emp x && ((ks.length:Int) == 0)
def extraF (f:Fact):Bool :=
 !(f.kind == 0 || f.kind == 1 || f.kind == 4) && !emp f.component || !(f.kind == 0 || f.kind == 2 || f.kind == 3) && !emp f.output
 || !(f.kind == 0) && !(f.relation == 0) || !(f.kind == 0) && f.changed || !(f.kind == 1) && !zeroE f.expr || !(f.kind == 2) && !(f.way == 0) || !(f.kind == 3) && decide ((0:Int) < f.list.length) || !(f.kind == 4) && !(f.duty == 0)
open Go.RowKit Go.ChangeShapes Go.Lib

theorem plain_p (w:World) (k:Int) (n x:ByteArray) (ks:List LExpr) (a:Option Addr) (c:Nat) :
  Calls Tryz.prog 160 #[.agg #[.int .i64 k,.string n,.string x,.slice a ks.length c]] w fun e w'=>e=.returned (.bool (zeroE (.mk k n x ks)))∧Below w.heap.size w w':=by
 generalize hL:ks.length=L;cases q0:(k == 0);case false =>
  go_enter Tryz.func160,Tryz.ntmps160;go_wp2;go_ret;exact ⟨by simp [zeroE,q0],bw⟩
 cases q1:n.toList.isEmpty;case false =>
  go_enter Tryz.func160,Tryz.ntmps160;go_wp2;go_ret;exact ⟨by simp [zeroE,q0,emp,q1],bw⟩
 cases q2:x.toList.isEmpty;case false =>
  go_enter Tryz.func160,Tryz.ntmps160;go_wp2;go_ret;exact ⟨by simp [zeroE,q0,emp,q1,q2],bw⟩
 go_enter Tryz.func160,Tryz.ntmps160;go_wp2;go_ret;exact ⟨by simp [zeroE,q0,emp,q1,q2,hL],bw⟩
def usesB (k:Int):Array Value :=
 #[.bool (k == 0 || k == 1 || k == 4),.bool (k == 0 || k == 2 || k == 3),.bool (k == 0),.bool (k == 0),.bool (k == 1),.bool (k == 2),.bool (k == 3),.bool (k == 4)]
theorem uses_p (w:World) (k:Int) :
  Calls Tryz.prog 112 #[.int .i64 k] w fun e w'=>e=.returned (.tuple #[.agg (usesB k),.bool (decide (0≤k) && decide (k≤4))])∧Below w.heap.size w w':=by
 by_cases q0:k=0
 ·subst q0;go_enter Tryz.func112,Tryz.ntmps112;go_wp2;refine bodyPost_ret (v:=.tuple #[.agg (usesB 0),.bool true]) (by simp [results,Tryz.results112,go_sem,usesB]) rfl ⟨rfl,bw⟩
 by_cases q1:k=1
 ·subst q1;go_enter Tryz.func112,Tryz.ntmps112;go_wp2;refine bodyPost_ret (v:=.tuple #[.agg (usesB 1),.bool true]) (by simp [results,Tryz.results112,go_sem,usesB]) rfl ⟨rfl,bw⟩
 by_cases q2:k=2
 ·subst q2;go_enter Tryz.func112,Tryz.ntmps112;go_wp2;refine bodyPost_ret (v:=.tuple #[.agg (usesB 2),.bool true]) (by simp [results,Tryz.results112,go_sem,usesB]) rfl ⟨rfl,bw⟩
 by_cases q3:k=3
 ·subst q3;go_enter Tryz.func112,Tryz.ntmps112;go_wp2;refine bodyPost_ret (v:=.tuple #[.agg (usesB 3),.bool true]) (by simp [results,Tryz.results112,go_sem,usesB]) rfl ⟨rfl,bw⟩
 by_cases q4:k=4
 ·subst q4;go_enter Tryz.func112,Tryz.ntmps112;go_wp2;refine bodyPost_ret (v:=.tuple #[.agg (usesB 4),.bool true]) (by simp [results,Tryz.results112,go_sem,usesB]) rfl ⟨rfl,bw⟩
 have hf:(decide (0≤k) && decide (k≤4))=false:=by simp;omega
 have e0:(k == 0)=false:=by simpa using q0
 have e1:(k == 1)=false:=by simpa using q1
 have e2:(k == 2)=false:=by simpa using q2
 have e3:(k == 3)=false:=by simpa using q3
 have e4:(k == 4)=false:=by simpa using q4
 clear q0 q1 q2 q3 q4;go_enter Tryz.func112,Tryz.ntmps112;go_wp2;refine bodyPost_ret (v:=.tuple #[.agg (usesB k),.bool false]) (by simp [results,Tryz.results112,go_sem,usesB,e0,e1,e2,e3,e4]) rfl ⟨by rw [hf],bw⟩
end Go.Proofs.YtcbopdbbcgdkcaaGreatDoor
