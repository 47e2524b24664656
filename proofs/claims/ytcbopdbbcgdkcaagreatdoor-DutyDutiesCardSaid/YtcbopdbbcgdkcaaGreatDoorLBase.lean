/- Lemmas. -/
import Derived.WalkSpells
import Derived.WalkLawsBesides
import Derived.BigQuiet
import Derived.Lib.Hide
set_option linter.all false
namespace Go.Proofs.YtcbopdbbcgdkcaaGreatDoor
open Go Go.RowKit Go.ChangeShapes

class Lay (α:Type) where
 n:Nat
 agg:Bool
 is:World→(Nat→Option Value)→α→Prop
 mono:∀ {w w':World} {get:Nat→Option Value} {x:α},Below w.heap.size w w'→is w get x→is w' get x
 congr:∀ {w:World} {g g':Nat→Option Value} {x:α},(∀ j,j < n→g j=g' j)→is w g x→is w g' x

def Is {α:Type} [Lay α] (w:World) (v:Value) (x:α):Prop :=
 ∃ cs:Array Value,cs.size=Lay.n α∧v=(if Lay.agg α then .agg cs else cs.getD 0 undef)∧Lay.is w (fun j=>cs[j]?) x

theorem Is.mono {α:Type} [Lay α] {w w':World} {v:Value} {x:α} (h:Is w v x) (hb:Below w.heap.size w w'):Is w' v x :=
 let ⟨cs,h1,h2,h3⟩:=h;⟨cs,h1,h2,Lay.mono hb h3⟩

def Row {α:Type} [Lay α] (w:World) (a:Option Addr) (xs:List α):Prop :=
 ∀ i x,xs[i]?=some x→∃ b off,a=some ⟨b,off,none⟩∧b < w.heap.size∧Lay.is w (fun j=>w.cell? ⟨b,off+i * Lay.n α+j,none⟩) x

theorem Row.mono {α:Type} [Lay α] {w w':World} {a:Option Addr} {xs:List α} (h:Row w a xs) (hb:Below w.heap.size w w'):Row w' a xs:=by
 intro i x hx;obtain ⟨b,off,ha,hlt,hi⟩:=h i x hx;refine ⟨b,off,ha,Nat.lt_of_lt_of_le hlt hb.size,?_⟩;exact Lay.congr (fun j _=>(hb.cell (p:=⟨b,off+i * Lay.n α+j,none⟩) hlt).symm) (Lay.mono hb hi)

instance:Lay ByteArray where
 n:=1
 agg:=false
 is _ get s:=get 0=some (.string s)∧s.size≤maxLen
 mono _ h:=h
 congr hg h:=⟨by rw [← hg 0 (by decide)];exact h.1,h.2⟩

def inI64 (n:Int):Prop := -9223372036854775808≤n∧n≤9223372036854775807

instance:Lay Int where
 n:=1
 agg:=false
 is _ get k:=get 0=some (.int .i64 k)∧inI64 k
 mono _ h:=h
 congr hg h:=⟨by rw [← hg 0 (by decide)];exact h.1,h.2⟩

instance:Lay Bool where
 n:=1
 agg:=false
 is _ get k:=get 0=some (.bool k)
 mono _ h:=h
 congr hg h:=by rw [← hg 0 (by decide)];exact h

instance {α:Type} [Lay α]:Lay (List α) where
 n:=1
 agg:=false
 is w get xs:=∃ a c,get 0=some (.slice a xs.length c)∧xs.length≤c∧c≤maxLen∧Row w a xs
 mono hb h:=by
  obtain ⟨a,c,h1,h2,h3,h4⟩:=h;exact ⟨a,c,h1,h2,h3,h4.mono hb⟩
 congr hg h:=by
  obtain ⟨a,c,h1,h2⟩:=h;exact ⟨a,c,by rw [← hg 0 (by decide)];exact h1,h2⟩

theorem cells_one {cs:Array Value} {v u:Value} (h:cs.size=1) (hv:v=cs.getD 0 undef) (hu:cs[0]?=some u):v=u:=by
 rw [hv,Array.getD_eq_getD_getElem?,hu];rfl

theorem str_inv {w:World} {v:Value} {s:ByteArray} (h:Is w v s):v=.string s∧s.size≤maxLen :=
 let ⟨_,h1,h2,h3⟩:=h;⟨cells_one h1 h2 h3.1,h3.2⟩
theorem list_inv {α:Type} [Lay α] {w:World} {v:Value} {xs:List α} (h:Is w v xs):∃ a c,v=.slice a xs.length c∧xs.length≤c∧c≤maxLen∧Row w a xs :=
 let ⟨_,h1,h2,a,c,h3,h4⟩:=h;⟨a,c,cells_one h1 h2 h3,h4⟩
theorem str_mk (w:World) {s:ByteArray} (h:s.size≤maxLen):Is w (.string s) s:=⟨#[.string s],rfl,rfl,rfl,h⟩
theorem list_mk {α:Type} [Lay α] {w:World} {xs:List α} {a:Option Addr} {c:Nat} (h1:xs.length≤c) (h2:c≤maxLen) (h:Row w a xs):Is w (.slice a xs.length c) xs :=
 ⟨#[.slice a xs.length c],rfl,rfl,a,c,rfl,h1,h2,h⟩
theorem nil_mk {α:Type} [Lay α] (w:World):Is w (.slice none 0 0) ([]:List α) :=
 list_mk (xs:=[]) (Nat.le_refl _) (by decide) (fun i x h=>by simp at h)

theorem str_at {w:World} {a:Option Addr} {i:Nat} {xs:List ByteArray} {x:ByteArray} (h:Row w a xs) (hx:xs[i]?=some x) :
  ∃ b off,a=some ⟨b,off,none⟩∧b < w.heap.size∧w.cell? ⟨b,off+i,none⟩=some (.string x)∧x.size≤maxLen:=by
 obtain ⟨b,off,ha,hb,hi⟩:=h i x hx;have h1:w.cell? ⟨b,off+i * 1+0,none⟩=some (.string x):=hi.1;exact ⟨b,off,ha,hb,by simpa using h1,hi.2⟩
theorem int_at {w:World} {a:Option Addr} {i:Nat} {xs:List Int} {x:Int} (h:Row w a xs) (hx:xs[i]?=some x) :
  ∃ b off,a=some ⟨b,off,none⟩∧b < w.heap.size∧w.cell? ⟨b,off+i,none⟩=some (.int .i64 x)∧inI64 x:=by
 obtain ⟨b,off,ha,hb,hi⟩:=h i x hx;have h1:w.cell? ⟨b,off+i * 1+0,none⟩=some (.int .i64 x):=hi.1;exact ⟨b,off,ha,hb,by simpa using h1,hi.2⟩

structure License where
 name:ByteArray
 family:ByteArray
 version:Int
 text:ByteArray
deriving Inhabited,DecidableEq

instance:Lay License where
 n:=4
 agg:=true
 is w get x:=Lay.is w (fun j=>get j) x.name∧Lay.is w (fun j=>get (1+j)) x.family∧Lay.is w (fun j=>get (2+j)) x.version∧Lay.is w (fun j=>get (3+j)) x.text
 mono hb h:=⟨Lay.mono hb h.1,Lay.mono hb h.2.1,Lay.mono hb h.2.2.1,Lay.mono hb h.2.2.2⟩
 congr hg h:=⟨Lay.congr (fun j hj=>hg j (by simp [Lay.n] at hj;omega)) h.1,Lay.congr (fun j hj=>hg (1+j) (by simp [Lay.n] at hj;omega)) h.2.1,Lay.congr (fun j hj=>hg (2+j) (by simp [Lay.n] at hj;omega)) h.2.2.1,Lay.congr (fun j hj=>hg (3+j) (by simp [Lay.n] at hj;omega)) h.2.2.2⟩

theorem License.is_iff {w:World} {get:Nat→Option Value} {x:License}:Lay.is w get x↔get 0=some (.string x.name)∧get 1=some (.string x.family)∧get 2=some (.int .i64 x.version)∧get 3=some (.string x.text)∧x.name.size≤maxLen∧x.family.size≤maxLen∧inI64 x.version∧x.text.size≤maxLen:=by
 constructor
 ·intro h;obtain ⟨⟨g0,s0⟩,⟨g1,s1⟩,⟨g2,s2⟩,⟨g3,s3⟩⟩:=h;exact ⟨g0,g1,g2,g3,s0,s1,s2,s3⟩
 ·rintro ⟨g0,g1,g2,g3,s0,s1,s2,s3⟩;exact ⟨⟨g0,s0⟩,⟨g1,s1⟩,⟨g2,s2⟩,⟨g3,s3⟩⟩

theorem License.at_row {w:World} {a:Option Addr} {i:Nat} {xs:List License} {x:License} (h:Row w a xs) (hx:xs[i]?=some x) :
  ∃ b off,a=some ⟨b,off,none⟩∧b < w.heap.size∧w.cell? ⟨b,off+i * 4,none⟩=some (.string x.name)∧w.cell? ⟨b,off+i * 4+1,none⟩=some (.string x.family)∧w.cell? ⟨b,off+i * 4+2,none⟩=some (.int .i64 x.version)∧w.cell? ⟨b,off+i * 4+3,none⟩=some (.string x.text)∧x.name.size≤maxLen∧x.family.size≤maxLen∧inI64 x.version∧x.text.size≤maxLen:=by
 obtain ⟨b,off,ha,hb,hi⟩:=h i x hx;obtain ⟨g0,g1,g2,g3,s0,s1,s2,s3⟩:=License.is_iff.1 hi;exact ⟨b,off,ha,hb,g0,g1,g2,g3,s0,s1,s2,s3⟩

theorem zrbase0 {p:Prop} (h:p:=by
 refine congrArg Value.agg (Array.ext_getElem? fun j=>?_);have hs':cs.size=4:=hs;match j with
 | 0=>simpa using g0
 | 1=>simpa using g1
 | 2=>simpa using g2
 | 3=>simpa using g3
 | j+4=>rw [Array.getElem?_eq_none (by omega),Array.getElem?_eq_none (by simp)]):p:=h
theorem License.inv {w:World} {v:Value} {x:License} (h:Is w v x):v=.agg #[.string x.name,.string x.family,.int .i64 x.version,.string x.text]∧x.name.size≤maxLen∧x.family.size≤maxLen∧inI64 x.version∧x.text.size≤maxLen:=by
 obtain ⟨cs,hs,hv,h⟩:=h;obtain ⟨g0,g1,g2,g3,s0,s1,s2,s3⟩:=License.is_iff.1 h;refine ⟨?_,s0,s1,s2,s3⟩;rw [hv];exact zrbase0

theorem License.mk' {w:World} {x:License} (h:x.name.size≤maxLen∧x.family.size≤maxLen∧inI64 x.version∧x.text.size≤maxLen):Is w (.agg #[.string x.name,.string x.family,.int .i64 x.version,.string x.text]) x:=by
 obtain ⟨s0,s1,s2,s3⟩:=h;exact ⟨_,rfl,rfl,License.is_iff.2 ⟨rfl,rfl,rfl,rfl,s0,s1,s2,s3⟩⟩

structure Exc where
 name:ByteArray
 license:ByteArray
 lifts:List Int
deriving Inhabited,DecidableEq

instance:Lay Exc where
 n:=3
 agg:=true
 is w get x:=Lay.is w (fun j=>get j) x.name∧Lay.is w (fun j=>get (1+j)) x.license∧Lay.is w (fun j=>get (2+j)) x.lifts
 mono hb h:=⟨Lay.mono hb h.1,Lay.mono hb h.2.1,Lay.mono hb h.2.2⟩
 congr hg h:=⟨Lay.congr (fun j hj=>hg j (by simp [Lay.n] at hj;omega)) h.1,Lay.congr (fun j hj=>hg (1+j) (by simp [Lay.n] at hj;omega)) h.2.1,Lay.congr (fun j hj=>hg (2+j) (by simp [Lay.n] at hj;omega)) h.2.2⟩

theorem Exc.is_iff {w:World} {get:Nat→Option Value} {x:Exc}:Lay.is w get x↔∃ a2 c2,get 0=some (.string x.name)∧get 1=some (.string x.license)∧get 2=some (.slice a2 x.lifts.length c2)∧x.name.size≤maxLen∧x.license.size≤maxLen∧x.lifts.length≤c2∧c2≤maxLen∧Row w a2 x.lifts:=by
 constructor
 ·intro h;obtain ⟨⟨g0,s0⟩,⟨g1,s1⟩,⟨a2,c2,g2,m2,k2,r2⟩⟩:=h;exact ⟨a2,c2,g0,g1,g2,s0,s1,m2,k2,r2⟩
 ·rintro ⟨a2,c2,g0,g1,g2,s0,s1,m2,k2,r2⟩;exact ⟨⟨g0,s0⟩,⟨g1,s1⟩,⟨a2,c2,g2,m2,k2,r2⟩⟩

theorem Exc.at_row {w:World} {a:Option Addr} {i:Nat} {xs:List Exc} {x:Exc} (h:Row w a xs) (hx:xs[i]?=some x) :
  ∃ b off,a=some ⟨b,off,none⟩∧b < w.heap.size∧∃ a2 c2,w.cell? ⟨b,off+i * 3,none⟩=some (.string x.name)∧w.cell? ⟨b,off+i * 3+1,none⟩=some (.string x.license)∧w.cell? ⟨b,off+i * 3+2,none⟩=some (.slice a2 x.lifts.length c2)∧x.name.size≤maxLen∧x.license.size≤maxLen∧x.lifts.length≤c2∧c2≤maxLen∧Row w a2 x.lifts:=by
 obtain ⟨b,off,ha,hb,hi⟩:=h i x hx;obtain ⟨a2,c2,g0,g1,g2,s0,s1,m2,k2,r2⟩:=Exc.is_iff.1 hi;exact ⟨b,off,ha,hb,a2,c2,g0,g1,g2,s0,s1,m2,k2,r2⟩

structure Clause where
 license:ByteArray
 way:Int
 relation:Int
 duty:Int
 list:List ByteArray
deriving Inhabited,DecidableEq

instance:Lay Clause where
 n:=5
 agg:=true
 is w get x:=Lay.is w (fun j=>get j) x.license∧Lay.is w (fun j=>get (1+j)) x.way∧Lay.is w (fun j=>get (2+j)) x.relation∧Lay.is w (fun j=>get (3+j)) x.duty∧Lay.is w (fun j=>get (4+j)) x.list
 mono hb h:=⟨Lay.mono hb h.1,Lay.mono hb h.2.1,Lay.mono hb h.2.2.1,Lay.mono hb h.2.2.2.1,Lay.mono hb h.2.2.2.2⟩
 congr hg h:=⟨Lay.congr (fun j hj=>hg j (by simp [Lay.n] at hj;omega)) h.1,Lay.congr (fun j hj=>hg (1+j) (by simp [Lay.n] at hj;omega)) h.2.1,Lay.congr (fun j hj=>hg (2+j) (by simp [Lay.n] at hj;omega)) h.2.2.1,Lay.congr (fun j hj=>hg (3+j) (by simp [Lay.n] at hj;omega)) h.2.2.2.1,Lay.congr (fun j hj=>hg (4+j) (by simp [Lay.n] at hj;omega)) h.2.2.2.2⟩

theorem Clause.is_iff {w:World} {get:Nat→Option Value} {x:Clause}:Lay.is w get x↔∃ a4 c4,get 0=some (.string x.license)∧get 1=some (.int .i64 x.way)∧get 2=some (.int .i64 x.relation)∧get 3=some (.int .i64 x.duty)∧get 4=some (.slice a4 x.list.length c4)∧x.license.size≤maxLen∧inI64 x.way∧inI64 x.relation∧inI64 x.duty∧x.list.length≤c4∧c4≤maxLen∧Row w a4 x.list:=by
 constructor
 ·intro h;obtain ⟨⟨g0,s0⟩,⟨g1,s1⟩,⟨g2,s2⟩,⟨g3,s3⟩,⟨a4,c4,g4,m4,k4,r4⟩⟩:=h;exact ⟨a4,c4,g0,g1,g2,g3,g4,s0,s1,s2,s3,m4,k4,r4⟩
 ·rintro ⟨a4,c4,g0,g1,g2,g3,g4,s0,s1,s2,s3,m4,k4,r4⟩;exact ⟨⟨g0,s0⟩,⟨g1,s1⟩,⟨g2,s2⟩,⟨g3,s3⟩,⟨a4,c4,g4,m4,k4,r4⟩⟩

theorem Clause.at_row {w:World} {a:Option Addr} {i:Nat} {xs:List Clause} {x:Clause} (h:Row w a xs) (hx:xs[i]?=some x) :
  ∃ b off,a=some ⟨b,off,none⟩∧b < w.heap.size∧∃ a4 c4,w.cell? ⟨b,off+i * 5,none⟩=some (.string x.license)∧w.cell? ⟨b,off+i * 5+1,none⟩=some (.int .i64 x.way)∧w.cell? ⟨b,off+i * 5+2,none⟩=some (.int .i64 x.relation)∧w.cell? ⟨b,off+i * 5+3,none⟩=some (.int .i64 x.duty)∧w.cell? ⟨b,off+i * 5+4,none⟩=some (.slice a4 x.list.length c4)∧x.license.size≤maxLen∧inI64 x.way∧inI64 x.relation∧inI64 x.duty∧x.list.length≤c4∧c4≤maxLen∧Row w a4 x.list:=by
 obtain ⟨b,off,ha,hb,hi⟩:=h i x hx;obtain ⟨a4,c4,g0,g1,g2,g3,g4,s0,s1,s2,s3,m4,k4,r4⟩:=Clause.is_iff.1 hi;exact ⟨b,off,ha,hb,a4,c4,g0,g1,g2,g3,g4,s0,s1,s2,s3,m4,k4,r4⟩

theorem Clause.inv {w:World} {v:Value} {x:Clause} (h:Is w v x):∃ a4 c4,v=.agg #[.string x.license,.int .i64 x.way,.int .i64 x.relation,.int .i64 x.duty,.slice a4 x.list.length c4]∧x.license.size≤maxLen∧inI64 x.way∧inI64 x.relation∧inI64 x.duty∧x.list.length≤c4∧c4≤maxLen∧Row w a4 x.list:=by
 obtain ⟨cs,hs,hv,h⟩:=h;obtain ⟨a4,c4,g0,g1,g2,g3,g4,s0,s1,s2,s3,m4,k4,r4⟩:=Clause.is_iff.1 h;refine ⟨a4,c4,?_,s0,s1,s2,s3,m4,k4,r4⟩;rw [hv];refine congrArg Value.agg (Array.ext_getElem? fun j=>?_);have hs':cs.size=5:=hs;match j with
 | 0=>simpa using g0
 | 1=>simpa using g1
 | 2=>simpa using g2
 | 3=>simpa using g3
 | 4=>simpa using g4
 | j+5=>rw [Array.getElem?_eq_none (by omega),Array.getElem?_eq_none (by simp)]

theorem Clause.mk' {w:World} {x:Clause} {a4:Option Addr} {c4:Nat} (h:x.license.size≤maxLen∧inI64 x.way∧inI64 x.relation∧inI64 x.duty∧x.list.length≤c4∧c4≤maxLen∧Row w a4 x.list):Is w (.agg #[.string x.license,.int .i64 x.way,.int .i64 x.relation,.int .i64 x.duty,.slice a4 x.list.length c4]) x:=by
 obtain ⟨s0,s1,s2,s3,m4,k4,r4⟩:=h;exact ⟨_,rfl,rfl,Clause.is_iff.2 ⟨a4,c4,rfl,rfl,rfl,rfl,rfl,s0,s1,s2,s3,m4,k4,r4⟩⟩

structure Pair where
 a:ByteArray
 b:ByteArray
deriving Inhabited,DecidableEq

instance:Lay Pair where
 n:=2
 agg:=true
 is w get x:=Lay.is w (fun j=>get j) x.a∧Lay.is w (fun j=>get (1+j)) x.b
 mono hb h:=⟨Lay.mono hb h.1,Lay.mono hb h.2⟩
 congr hg h:=⟨Lay.congr (fun j hj=>hg j (by simp [Lay.n] at hj;omega)) h.1,Lay.congr (fun j hj=>hg (1+j) (by simp [Lay.n] at hj;omega)) h.2⟩

theorem Pair.is_iff {w:World} {get:Nat→Option Value} {x:Pair}:Lay.is w get x↔get 0=some (.string x.a)∧get 1=some (.string x.b)∧x.a.size≤maxLen∧x.b.size≤maxLen:=by
 constructor
 ·intro h;obtain ⟨⟨g0,s0⟩,⟨g1,s1⟩⟩:=h;exact ⟨g0,g1,s0,s1⟩
 ·rintro ⟨g0,g1,s0,s1⟩;exact ⟨⟨g0,s0⟩,⟨g1,s1⟩⟩

theorem Pair.at_row {w:World} {a:Option Addr} {i:Nat} {xs:List Pair} {x:Pair} (h:Row w a xs) (hx:xs[i]?=some x) :
  ∃ b off,a=some ⟨b,off,none⟩∧b < w.heap.size∧w.cell? ⟨b,off+i * 2,none⟩=some (.string x.a)∧w.cell? ⟨b,off+i * 2+1,none⟩=some (.string x.b)∧x.a.size≤maxLen∧x.b.size≤maxLen:=by
 obtain ⟨b,off,ha,hb,hi⟩:=h i x hx;obtain ⟨g0,g1,s0,s1⟩:=Pair.is_iff.1 hi;exact ⟨b,off,ha,hb,g0,g1,s0,s1⟩

theorem zrbase1 {p:Prop} (h:p:=by
 refine ⟨?_,s0,s1⟩;rw [hv];refine congrArg Value.agg (Array.ext_getElem? fun j=>?_);have hs':cs.size=2:=hs;match j with
 | 0=>simpa using g0
 | 1=>simpa using g1
 | j+2=>rw [Array.getElem?_eq_none (by omega),Array.getElem?_eq_none (by simp)]):p:=h
theorem Pair.inv {w:World} {v:Value} {x:Pair} (h:Is w v x):v=.agg #[.string x.a,.string x.b]∧x.a.size≤maxLen∧x.b.size≤maxLen:=by
 obtain ⟨cs,hs,hv,h⟩:=h;obtain ⟨g0,g1,s0,s1⟩:=Pair.is_iff.1 h;exact zrbase1

theorem Pair.mk' {w:World} {x:Pair} (h:x.a.size≤maxLen∧x.b.size≤maxLen):Is w (.agg #[.string x.a,.string x.b]) x:=by
 obtain ⟨s0,s1⟩:=h;exact ⟨_,rfl,rfl,Pair.is_iff.2 ⟨rfl,rfl,s0,s1⟩⟩

structure Term where
 license:ByteArray
 exception:ByteArray
deriving Inhabited,DecidableEq

instance:Lay Term where
 n:=2
 agg:=true
 is w get x:=Lay.is w (fun j=>get j) x.license∧Lay.is w (fun j=>get (1+j)) x.exception
 mono hb h:=⟨Lay.mono hb h.1,Lay.mono hb h.2⟩
 congr hg h:=⟨Lay.congr (fun j hj=>hg j (by simp [Lay.n] at hj;omega)) h.1,Lay.congr (fun j hj=>hg (1+j) (by simp [Lay.n] at hj;omega)) h.2⟩

theorem Term.is_iff {w:World} {get:Nat→Option Value} {x:Term}:Lay.is w get x↔get 0=some (.string x.license)∧get 1=some (.string x.exception)∧x.license.size≤maxLen∧x.exception.size≤maxLen:=by
 constructor
 ·intro h;obtain ⟨⟨g0,s0⟩,⟨g1,s1⟩⟩:=h;exact ⟨g0,g1,s0,s1⟩
 ·rintro ⟨g0,g1,s0,s1⟩;exact ⟨⟨g0,s0⟩,⟨g1,s1⟩⟩

theorem Term.at_row {w:World} {a:Option Addr} {i:Nat} {xs:List Term} {x:Term} (h:Row w a xs) (hx:xs[i]?=some x) :
  ∃ b off,a=some ⟨b,off,none⟩∧b < w.heap.size∧w.cell? ⟨b,off+i * 2,none⟩=some (.string x.license)∧w.cell? ⟨b,off+i * 2+1,none⟩=some (.string x.exception)∧x.license.size≤maxLen∧x.exception.size≤maxLen:=by
 obtain ⟨b,off,ha,hb,hi⟩:=h i x hx;obtain ⟨g0,g1,s0,s1⟩:=Term.is_iff.1 hi;exact ⟨b,off,ha,hb,g0,g1,s0,s1⟩

theorem Term.inv {w:World} {v:Value} {x:Term} (h:Is w v x):v=.agg #[.string x.license,.string x.exception]∧x.license.size≤maxLen∧x.exception.size≤maxLen:=by
 obtain ⟨cs,hs,hv,h⟩:=h;obtain ⟨g0,g1,s0,s1⟩:=Term.is_iff.1 h;exact zrbase1

theorem Term.mk' {w:World} {x:Term} (h:x.license.size≤maxLen∧x.exception.size≤maxLen):Is w (.agg #[.string x.license,.string x.exception]) x:=by
 obtain ⟨s0,s1⟩:=h;exact ⟨_,rfl,rfl,Term.is_iff.2 ⟨rfl,rfl,s0,s1⟩⟩

structure Catalog where
 licenses:List License
 exceptions:List Exc
 clauses:List Clause
 apart:List Pair
deriving Inhabited,DecidableEq

instance:Lay Catalog where
 n:=4
 agg:=true
 is w get x:=Lay.is w (fun j=>get j) x.licenses∧Lay.is w (fun j=>get (1+j)) x.exceptions∧Lay.is w (fun j=>get (2+j)) x.clauses∧Lay.is w (fun j=>get (3+j)) x.apart
 mono hb h:=⟨Lay.mono hb h.1,Lay.mono hb h.2.1,Lay.mono hb h.2.2.1,Lay.mono hb h.2.2.2⟩
 congr hg h:=⟨Lay.congr (fun j hj=>hg j (by simp [Lay.n] at hj;omega)) h.1,Lay.congr (fun j hj=>hg (1+j) (by simp [Lay.n] at hj;omega)) h.2.1,Lay.congr (fun j hj=>hg (2+j) (by simp [Lay.n] at hj;omega)) h.2.2.1,Lay.congr (fun j hj=>hg (3+j) (by simp [Lay.n] at hj;omega)) h.2.2.2⟩

theorem Catalog.is_iff {w:World} {get:Nat→Option Value} {x:Catalog}:Lay.is w get x↔∃ a0 c0,∃ a1 c1,∃ a2 c2,∃ a3 c3,get 0=some (.slice a0 x.licenses.length c0)∧get 1=some (.slice a1 x.exceptions.length c1)∧get 2=some (.slice a2 x.clauses.length c2)∧get 3=some (.slice a3 x.apart.length c3)∧x.licenses.length≤c0∧c0≤maxLen∧Row w a0 x.licenses∧x.exceptions.length≤c1∧c1≤maxLen∧Row w a1 x.exceptions∧x.clauses.length≤c2∧c2≤maxLen∧Row w a2 x.clauses∧x.apart.length≤c3∧c3≤maxLen∧Row w a3 x.apart:=by
 constructor
 ·intro h;obtain ⟨⟨a0,c0,g0,m0,k0,r0⟩,⟨a1,c1,g1,m1,k1,r1⟩,⟨a2,c2,g2,m2,k2,r2⟩,⟨a3,c3,g3,m3,k3,r3⟩⟩:=h;exact ⟨a0,c0,a1,c1,a2,c2,a3,c3,g0,g1,g2,g3,m0,k0,r0,m1,k1,r1,m2,k2,r2,m3,k3,r3⟩
 ·rintro ⟨a0,c0,a1,c1,a2,c2,a3,c3,g0,g1,g2,g3,m0,k0,r0,m1,k1,r1,m2,k2,r2,m3,k3,r3⟩;exact ⟨⟨a0,c0,g0,m0,k0,r0⟩,⟨a1,c1,g1,m1,k1,r1⟩,⟨a2,c2,g2,m2,k2,r2⟩,⟨a3,c3,g3,m3,k3,r3⟩⟩

theorem Catalog.inv {w:World} {v:Value} {x:Catalog} (h:Is w v x):∃ a0 c0,∃ a1 c1,∃ a2 c2,∃ a3 c3,v=.agg #[.slice a0 x.licenses.length c0,.slice a1 x.exceptions.length c1,.slice a2 x.clauses.length c2,.slice a3 x.apart.length c3]∧x.licenses.length≤c0∧c0≤maxLen∧Row w a0 x.licenses∧x.exceptions.length≤c1∧c1≤maxLen∧Row w a1 x.exceptions∧x.clauses.length≤c2∧c2≤maxLen∧Row w a2 x.clauses∧x.apart.length≤c3∧c3≤maxLen∧Row w a3 x.apart:=by
 obtain ⟨cs,hs,hv,h⟩:=h;obtain ⟨a0,c0,a1,c1,a2,c2,a3,c3,g0,g1,g2,g3,m0,k0,r0,m1,k1,r1,m2,k2,r2,m3,k3,r3⟩:=Catalog.is_iff.1 h;refine ⟨a0,c0,a1,c1,a2,c2,a3,c3,?_,m0,k0,r0,m1,k1,r1,m2,k2,r2,m3,k3,r3⟩;rw [hv];exact zrbase0

theorem Catalog.mk' {w:World} {x:Catalog} {a0:Option Addr} {c0:Nat} {a1:Option Addr} {c1:Nat} {a2:Option Addr} {c2:Nat} {a3:Option Addr} {c3:Nat} (h:x.licenses.length≤c0∧c0≤maxLen∧Row w a0 x.licenses∧x.exceptions.length≤c1∧c1≤maxLen∧Row w a1 x.exceptions∧x.clauses.length≤c2∧c2≤maxLen∧Row w a2 x.clauses∧x.apart.length≤c3∧c3≤maxLen∧Row w a3 x.apart):Is w (.agg #[.slice a0 x.licenses.length c0,.slice a1 x.exceptions.length c1,.slice a2 x.clauses.length c2,.slice a3 x.apart.length c3]) x:=by
 obtain ⟨m0,k0,r0,m1,k1,r1,m2,k2,r2,m3,k3,r3⟩:=h;exact ⟨_,rfl,rfl,Catalog.is_iff.2 ⟨a0,c0,a1,c1,a2,c2,a3,c3,rfl,rfl,rfl,rfl,m0,k0,r0,m1,k1,r1,m2,k2,r2,m3,k3,r3⟩⟩

structure RefResult where
 catalog:Catalog
 line:Int
 error:Int
deriving Inhabited,DecidableEq

instance:Lay RefResult where
 n:=6
 agg:=true
 is w get x:=Lay.is w (fun j=>get j) x.catalog∧Lay.is w (fun j=>get (4+j)) x.line∧Lay.is w (fun j=>get (5+j)) x.error
 mono hb h:=⟨Lay.mono hb h.1,Lay.mono hb h.2.1,Lay.mono hb h.2.2⟩
 congr hg h:=⟨Lay.congr (fun j hj=>hg j (by simp [Lay.n] at hj;omega)) h.1,Lay.congr (fun j hj=>hg (4+j) (by simp [Lay.n] at hj;omega)) h.2.1,Lay.congr (fun j hj=>hg (5+j) (by simp [Lay.n] at hj;omega)) h.2.2⟩


theorem drop_at {α:Type} {xs:List α} {k:Nat} {x:α} (h:xs[k]?=some x):xs.drop k=x :: xs.drop (k+1):=by
 obtain ⟨hk,rfl⟩:=List.getElem?_eq_some_iff.1 h;exact List.drop_eq_getElem_cons hk
theorem take_at {α:Type} {xs:List α} {k:Nat} {x:α} (h:xs[k]?=some x):xs.take (k+1)=xs.take k++[x]:=by
 rw [List.take_add_one,h];rfl
theorem get_lt {α:Type} {xs:List α} {k:Nat} (h:k < xs.length):∃ x,xs[k]?=some x:=⟨xs[k],by simp [h]⟩
theorem lt_get {α:Type} {xs:List α} {k:Nat} {x:α} (h:xs[k]?=some x):k < xs.length:=(List.getElem?_eq_some_iff.1 h).1
theorem ba_eq (a b:ByteArray):(a.toList == b.toList)=decide (a=b):=by
 rw [ByteArray.toList_eq,ByteArray.toList_eq,Bool.eq_iff_iff,beq_iff_eq,decide_eq_true_iff];exact ⟨WideShapes.bytes_inj,fun h=>by rw [h]⟩
theorem ba_eq_t {a b:ByteArray} (h:(a.toList == b.toList)=true):a=b:=by rw [ba_eq] at h;exact of_decide_eq_true h
theorem ba_eq_f {a b:ByteArray} (h:(a.toList == b.toList)=false):¬ a=b:=by rw [ba_eq] at h;exact of_decide_eq_false h
theorem ret_i {a b:Int} (h:a=b):Ending.returned (.int .i64 a)=.returned (.int .i64 b):=by rw [h]
theorem ret_b {a b:Bool} (h:a=b):Ending.returned (.bool a)=.returned (.bool b):=by rw [h]
theorem cell_lt {w:World} {a:Addr} {v:Value} (h:w.cell? a=some v):a.block < w.heap.size:=by
 rcases Nat.lt_or_ge a.block w.heap.size with g | g
 ·exact g
 ·unfold World.cell? at h;rw [Array.getElem?_eq_none g] at h;cases h
theorem kept {W w1:World} (hb:Below W.heap.size W w1) {a:Addr} {v:Value} (h:W.cell? a=some v):w1.cell? a=some v:=by
 rw [hb.cell (cell_lt h)];exact h
theorem kept_in {W w1:World} {B:Nat} (hb:Below B W w1) {a:Addr} {v:Value} (hB:a.block < B) (h:W.cell? a=some v):w1.cell? a=some v:=by
 rw [hb.cell hB];exact h
theorem keptF {W w1:World} (hb:Below W.heap.size W w1) {a:Addr} {v:Value} (h:W.cell? a=some v) (hf:W.frozen? a=false):w1.frozen? a=false:=by
 rw [hb.frozen (cell_lt h)];exact hf
theorem u8_t {c:UInt8} (d:UInt8) (h:((c.toNat:Int) == (d.toNat:Int))=true):c=d:=by
 rw [beq_iff_eq] at h;exact UInt8.toNat_inj.1 (by omega)
theorem u8_f {c:UInt8} (d:UInt8) (h:((c.toNat:Int) == (d.toNat:Int))=false):¬ c=d:=by
 rintro rfl;simp at h
theorem own_block {w:World} {B:Nat} {e:TypeId} {sz n:Nat} {v:Value} {xs:List Value} (h:w.ownsRow B e sz v n xs):∀ k,v.ownBlock=some k→B≤k:=by
 rcases h.2 with ⟨rfl,_⟩ | ⟨g,cap,cur,rfl,hg,_⟩
 ·intro k hk;cases hk
 ·intro k hk;cases hk;exact hg
end Go.Proofs.YtcbopdbbcgdkcaaGreatDoor
namespace Go.RowKit
open Go Go.ChangeShapes Go.Proofs.YtcbopdbbcgdkcaaGreatDoor
theorem Below.app {B:Nat} {a w w':World} {e:TypeId} {sz n:Nat} {v:Value} {xs:List Value} (h:Below B a w) (hg:w.grownBy w' v.ownBlock) (hB:B≤w.heap.size) {w0:World} (ho:w0.ownsRow B e sz v n xs):Below B a w' :=
 h.grown hg hB (own_block ho)
theorem Below.drewN {B:Nat} {a w:World} (h:Below B a w) (n:Nat):Below B a (w.drewN n):=⟨h.os,h.tape,h.output,h.size,h.block⟩
end Go.RowKit
namespace Go.Proofs.YtcbopdbbcgdkcaaGreatDoor
open Go Go.RowKit Go.ChangeShapes

theorem by_at (s:ByteArray) (k:Nat) (h:k < s.size):s.data.toList.drop k=s[k] :: s.data.toList.drop (k+1):=by
 rw [List.drop_eq_getElem_cons (by simpa using h)];rfl
theorem by_nil (s:ByteArray) (k:Nat) (h:¬ k < s.size):s.data.toList.drop k=[]:=List.drop_eq_nil_of_le (by simpa using h)
theorem by_len (s:ByteArray):s.data.toList.length=s.size:=by simp
theorem dec_cons {α:Type} [DecidableEq α] {xs ys xs' ys':List α} {x y:α} (h:xs'=x :: xs) (h':ys'=y :: ys) (b:Bool) (hb:b=decide (xs'=ys')):b=(decide (x=y) && decide (xs=ys)):=by
 rw [hb,h,h'];simp
theorem wp_app {P:Program} {t e:TypeId} {z:Value} {sz bytes:Nat} (hinfo:(P.info? e).map (fun i=>(i.zero,i.size,i.bytes))=some (some z,sz,bytes))
  (hz:z.cells.size=sz) (hsz:0 < sz) (ht:P.underlying t=some (.slice e))
  {ops:Array Oper} {rest:List Oper} {o:Oper} {a:Act} {Q:Exit→Act→World→Prop} {w:World} (hgd:o.guard=none) (s x:Operand)
  (ho:o.op=.call { callee:=.builtin .append,args:=#[s,x],argTypes:=#[t,t] })
  (B:Nat) (v:Value) (n:Nat) (xs:List Value) (hs:a.eval s=v) (hown:w.ownsRow B e sz v n xs)
  (news:Array Value) (hx:a.eval x=.slice (some ⟨w.heap.size,0,none⟩) 1 1) (hn:news.size=sz) (h1:∀ u∈news.toList,u.oneCell'=true)
  (hb:(n+1) * (bytes+1)≤140737488355328) (hB:B≤w.heap.size)
  (h:∀ v' w',w'.ownsRow B e sz v' (n+1) (xs++news.toList)→(w.alloc (.cells news e)).grownBy w' v.ownBlock→¬ v'=.slice none 0 0→wpList P ops Q rest (a.put o.dst v') w') :
  wpList P ops Q (o :: rest) a (w.alloc (.cells news e)):=by
 obtain ⟨i0,hi,hz0,hz1,hz2⟩:=info_parts hinfo;have e1:(n+1) * (bytes+1)=(n+1) * bytes+(n+1):=by rw [Nat.mul_add,Nat.mul_one]
 refine wpList_append_own _ hgd s x t ho B e i0 z sz bytes ht hi hz0 hz1 hz2 hz hsz v n xs hs (hown.alloc _) ⟨w.heap.size,0,none⟩ 1 1 news.toList hx (by simp [hn]) ?_ h1 ?_ ?_ ?_ ?_
 ·intro j u hj;have hj':news[j]?=some u:=by simpa using hj
  have e2:(⟨w.heap.size,0,none⟩:Addr).add j=⟨w.heap.size,j,none⟩:=by
   unfold Addr.add;split
   ·subst j;rfl
   ·simp
  rw [e2,World.cell?_alloc_at _ _ _ _ rfl];exact hj'
 ·unfold maxLen;omega
 ·omega
 ·simp;omega
 ·intro v' w' h2 h3 h4;exact h v' w' h2 h3 (by simp [h4])
theorem zR (n:Nat) (w:World):Below n w w:=Below.refl n w
theorem zN {n:Nat} {w w':World} (h:Below n w w') (k:Nat):Below n w (w'.drewN k):=h.drewN k
theorem zD {n:Nat} {w w':World} (h:Below n w w'):Below n w w'.drew:=h.drew
theorem zA {n:Nat} {w w':World} (h:Below n w w') (hn:n≤w'.heap.size) (o:Obj):Below n w (w'.alloc o):=h.alloc hn o
theorem zS {n:Nat} {w w':World} {a:Addr} (h:Below n w w') (hn:n≤a.block) (v:Value):Below n w (w'.setCell a v):=h.setCell hn v
theorem zT {n:Nat} {a b c:World} (h:Below n a b) (k:Below n b c):Below n a c:=h.trans k
theorem zM {n m:Nat} {a b:World} (h:Below m a b) (hn:n≤m):Below n a b:=h.mono hn
theorem bw {B:Nat} {w w1:World} (h:Below B w w1:=by repeat (first | exact zR _ _ | assumption | refine zN ?_ _ | refine zD ?_ | refine zA ?_ ?_ _ | refine zS ?_ ?_ _ | refine zT ?_ (zM (by assumption) ?_) | exact Nat.le_refl _ | (simp <;> omega) | omega)):Below B w w1:=h
theorem zh {p:Prop} (h:p):Hid p:=h
theorem zb {w:World} {o:Obj}:Below w.heap.size w (w.alloc o):=(Below.refl _ _).alloc (Nat.le_refl _) _
theorem k4 {W w1:World} (hb:Below W.heap.size W w1) {a b c d:Addr} {p q r s:Value} (h1:W.cell? a=some p) (h2:W.cell? b=some q) (h3:W.cell? c=some r) (h4:W.cell? d=some s):w1.cell? a=some p∧w1.cell? b=some q∧w1.cell? c=some r∧w1.cell? d=some s:=⟨kept hb h1,kept hb h2,kept hb h3,kept hb h4⟩
theorem zm {p:Prop} (h:p:=by simp [intOf];omega):p:=h
theorem kb {W W1:World} (w:World) (hb:Below W.heap.size W W1) (j:Nat) (v:Value) (h:W.cell? ⟨w.heap.size,j,none⟩=some v:=by simp):W1.cell? ⟨w.heap.size,j,none⟩=some v:=kept hb h
theorem kb1 {W W1:World} (w:World) (hb:Below W.heap.size W W1) (j:Nat) (v:Value) (h:W.cell? ⟨w.heap.size+1,j,none⟩=some v:=by simp):W1.cell? ⟨w.heap.size+1,j,none⟩=some v:=kept hb h
theorem zl:(∀ (α:Type) (a b:List α),List.append a b=a++b)∧(∀ (α:Type) (x:α) (a b:List α),(x :: a)++b=x :: (a++b))∧(∀ (α:Type) (a:List α),[]++a=a):=⟨fun _ _ _=>rfl,fun _ _ _ _=>rfl,fun _ _=>rfl⟩
theorem zt:(∀ (α:Type) (n:Nat) (x:α) (a:List α),List.take (n+1) (x :: a)=x :: a.take n)∧(∀ (α:Type) (a:List α),List.take 0 a=[])∧(∀ (α:Type) (n:Nat) (x:α) (a:List α),List.drop (n+1) (x :: a)=a.drop n)∧(∀ (α:Type) (a:List α),List.drop 0 a=a):=⟨fun _ _ _ _=>rfl,fun _ a=>by cases a <;> rfl,fun _ _ _ _=>rfl,fun _ _=>rfl⟩
end Go.Proofs.YtcbopdbbcgdkcaaGreatDoor
