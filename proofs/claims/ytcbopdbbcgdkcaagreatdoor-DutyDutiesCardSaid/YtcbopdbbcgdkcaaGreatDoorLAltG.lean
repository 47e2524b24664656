/- Lemmas. -/
import Derived.Test.YtcbopdbbcgdkcaaGreatDoorLCat
set_option linter.all false
namespace Go.Proofs.YtcbopdbbcgdkcaaGreatDoor
open Go

structure TO {α:Type} (c:α→α→Int):Prop where
 rng:∀ a b,c a b = -1∨c a b=0∨c a b=1
 eq:∀ a b,c a b=0↔a=b
 sw:∀ a b,c b a = - c a b
 tr:∀ a b d,c a b < 0→c b d < 0→c a d < 0
def scmp (a b:ByteArray):Int:=if slt a b then -1 else if slt b a then 1 else 0
theorem scmp_to:TO scmp:=by
 have h0:∀ a b,slt a b=true→slt b a=false:=fun a b h=>slt_asymm h
 have h1:∀ a b,slt a b=false→slt b a=false→a=b:=fun a b h k=>by
  rw [slt_trich,k,Bool.false_or,seq_eq,Bool.not_eq_false',decide_eq_true_iff] at h;exact h.symm
 refine ⟨fun a b=>?_,fun a b=>?_,fun a b=>?_,fun a b d h k=>?_⟩
 ·unfold scmp;split
  ·exact .inl rfl
  ·split
   ·exact .inr (.inr rfl)
   ·exact .inr (.inl rfl)
 ·constructor
  ·intro h;unfold scmp at h;cases p:slt a b
   ·cases q:slt b a
    ·exact h1 a b p q
    ·rw [p,q] at h;simp at h
   ·rw [p] at h;simp at h
  ·rintro rfl;unfold scmp;rw [slt_irrefl];rfl
 ·unfold scmp;cases p:slt a b
  ·cases q:slt b a <;> simp
  ·rw [h0 a b p];simp
 ·have e:∀ x y,scmp x y < 0→slt x y=true:=fun x y h=>by
   unfold scmp at h;cases p:slt x y
   ·rw [p] at h;simp at h;split at h <;> omega
   ·rfl
  have:=slt_trans (e a b h) (e b d k);unfold scmp;rw [this,if_pos rfl];decide
def lex2 (x y:Int):Int:=if x=0 then y else x
def tcmp (a b:Term):Int:=lex2 (scmp a.license b.license) (scmp a.exception b.exception)
theorem lex2_tr {x x' x'' y y' y'':Int} (hx:x < 0→x' < 0→x'' < 0) (h0:x=0→x''=x') (h0':x'=0→x''=x) (hy:y < 0→y' < 0→y'' < 0) (h:lex2 x y < 0) (k:lex2 x' y' < 0):lex2 x'' y'' < 0:=by
 unfold lex2 at *;by_cases p:x=0
 ·rw [if_pos p] at h;rw [h0 p];by_cases q:x'=0
  ·rw [if_pos q] at k ⊢;exact hy h k
  ·rw [if_neg q] at k ⊢;exact k
 ·rw [if_neg p] at h;by_cases q:x'=0
  ·rw [h0' q,if_neg p];exact h
  ·rw [if_neg q] at k;have:=hx h k;rw [if_neg (by omega)];exact this
theorem lex2_rng {x y:Int} (hx:x = -1∨x=0∨x=1) (hy:y = -1∨y=0∨y=1):lex2 x y = -1∨lex2 x y=0∨lex2 x y=1:=by
 unfold lex2;split <;> assumption
theorem lex2_zero {x y:Int}:lex2 x y=0↔x=0∧y=0:=by
 unfold lex2;constructor
 ·intro h;split at h
  ·exact ⟨by assumption,h⟩
  ·omega
 ·rintro ⟨rfl,rfl⟩;rfl
theorem lex2_neg (x y:Int):lex2 (-x) (-y) = - lex2 x y:=by
 unfold lex2;by_cases h:x=0
 ·subst h;rw [if_pos rfl];simp
 ·rw [if_neg (by omega),if_neg h]
theorem tcmp_to:TO tcmp:=by
 have S:=scmp_to;refine ⟨fun a b=>lex2_rng (S.rng _ _) (S.rng _ _),fun a b=>?_,fun a b=>?_,fun a b d h k=>?_⟩
 ·unfold tcmp;rw [lex2_zero,S.eq,S.eq];constructor
  ·rintro ⟨h,k⟩;cases a;cases b;simp at h k;rw [h,k]
  ·rintro rfl;exact ⟨rfl,rfl⟩
 ·unfold tcmp;rw [S.sw a.license,S.sw a.exception,lex2_neg]
 ·refine lex2_tr (S.tr _ _ _) (fun e=>?_) (fun e=>?_) (S.tr _ _ _) h k
  ·rw [(S.eq _ _).1 e]
  ·rw [← (S.eq _ _).1 e]
def lcmp {α:Type} (c:α→α→Int):List α→List α→Int
 | [],[]=>0
 | [],_ :: _ => -1
 | _ :: _,[]=>1
 | a :: x,b :: y=>lex2 (c a b) (lcmp c x y)
theorem lcmp_to {α:Type} {c:α→α→Int} (S:TO c):TO (lcmp c):=by
 have r:∀ a b,lcmp c a b = -1∨lcmp c a b=0∨lcmp c a b=1:=by
  intro a;induction a with
  | nil=>intro b;cases b <;> simp [lcmp]
  | cons x a ih =>
   intro b;cases b with
   | nil=>simp [lcmp]
   | cons y b=>exact lex2_rng (S.rng _ _) (ih b)
 have e:∀ a b,lcmp c a b=0↔a=b:=by
  intro a;induction a with
  | nil=>intro b;cases b <;> simp [lcmp]
  | cons x a ih =>
   intro b;cases b with
   | nil=>simp [lcmp]
   | cons y b=>rw [lcmp,lex2_zero,S.eq,ih b,List.cons.injEq]
 have s:∀ a b,lcmp c b a = - lcmp c a b:=by
  intro a;induction a with
  | nil=>intro b;cases b <;> simp [lcmp]
  | cons x a ih =>
   intro b;cases b with
   | nil=>simp [lcmp]
   | cons y b=>rw [lcmp,lcmp,S.sw,ih b,lex2_neg]
 refine ⟨r,e,s,?_⟩;intro a;induction a with
 | nil=>intro b d h k;cases b <;> cases d <;> simp [lcmp] at *
 | cons x a ih =>
  intro b d h k;cases b with
  | nil=>simp [lcmp] at h
  | cons y b =>
   cases d with
   | nil=>simp [lcmp] at k
   | cons z d =>
    rw [lcmp] at *;refine lex2_tr (S.tr _ _ _) (fun q=>?_) (fun q=>?_) (ih b d) h k
    ·rw [(S.eq _ _).1 q]
    ·rw [← (S.eq _ _).1 q]
def ncmp (a b:Nat):Int:=if a < b then -1 else if b < a then 1 else 0
def acmp (a b:List Term):Int:=lex2 (ncmp a.length b.length) (lcmp tcmp a b)
theorem acmp_to:TO acmp:=by
 have S:=lcmp_to tcmp_to;have n0:∀ a b,ncmp a b=0↔a=b:=by intro a b;unfold ncmp;(repeat' split) <;> omega
 refine ⟨fun a b=>lex2_rng (by unfold ncmp;(repeat' split) <;> simp) (S.rng _ _),fun a b=>?_,fun a b=>?_,fun a b d h k=>?_⟩
 ·unfold acmp;rw [lex2_zero,S.eq];exact ⟨fun h=>h.2,fun h=>⟨by rw [h];unfold ncmp;simp,h⟩⟩
 ·unfold acmp;have e:ncmp b.length a.length = - ncmp a.length b.length:=by
   unfold ncmp;rcases Nat.lt_trichotomy a.length b.length with h | h | h
   ·rw [if_neg (by omega),if_pos h,if_pos h];rfl
   ·rw [if_neg (by omega),if_neg (by omega),if_neg (by omega),if_neg (by omega)];rfl
   ·rw [if_pos h,if_neg (by omega),if_pos h]
  rw [S.sw,e,lex2_neg]
 ·refine lex2_tr (fun h k=>?_) (fun q=>?_) (fun q=>?_) (S.tr _ _ _) h k
  ·have hn:∀ x y,ncmp x y < 0→x < y:=fun x y h=>by
    unfold ncmp at h;rcases Nat.lt_or_ge x y with h1 | h1
    ·exact h1
    ·rw [if_neg (by omega)] at h;split at h <;> omega
   have h1:=hn _ _ h;have h2:=hn _ _ k;unfold ncmp;rw [if_pos (by omega)];decide
  ·rw [(n0 _ _).1 q]
  ·rw [← (n0 _ _).1 q]
def hasT (l:List Term) (t:Term):Bool:=l.any fun y=>decide (y=t)
theorem hasT_iff {l:List Term} {t:Term}:hasT l t=true↔t∈l:=by
 unfold hasT;rw [List.any_eq_true];exact ⟨fun ⟨y,hy,h⟩=>by rw [← of_decide_eq_true h];exact hy,fun h=>⟨t,h,decide_eq_true rfl⟩⟩
def conA (a b:List Term):Bool:=b.all (hasT a)
theorem conA_iff {a b:List Term}:conA a b=true↔∀ t∈b,t∈a:=by
 unfold conA;rw [List.all_eq_true];exact ⟨fun h t ht=>hasT_iff.1 (h t ht),fun h t ht=>hasT_iff.2 (h t ht)⟩
theorem conA_refl (a:List Term):conA a a=true:=conA_iff.2 fun _ h=>h
theorem conA_trans {a b c:List Term} (h:conA a b=true) (k:conA b c=true):conA a c=true :=
 conA_iff.2 fun t ht=>conA_iff.1 h t (conA_iff.1 k t ht)
def rises {α:Type} (c:α→α→Int):List α→Bool
 | a :: b :: r=>decide (c a b < 0) && rises c (b :: r)
 | _=>true
def clash (pre:List (List Term)):List (List Term)→Bool
 | []=>false
 | a :: r=>pre.any (conA a) || clash (pre++[a]) r
def ltC {α:Type} (c:α→α→Int) (a b:α):Bool:=decide (c a b < 0)
def compact {α:Type} [DecidableEq α]:List α→List α
 | a :: b :: r=>if a=b then compact (b :: r) else a :: compact (b :: r)
 | l=>l
def normT (a:List Term):List Term:=compact (sortS (ltC tcmp) a)
def keepMin:List (List Term)→List (List Term)→List (List Term)
 | out,[]=>out
 | out,a :: r=>if out.any (conA a) then keepMin out r else keepMin (out++[a]) r
def minimalP (l:List (List Term)):List (List Term):=keepMin [] (sortS (ltC acmp) (l.map normT))
def pairsA (a b:List (List Term)):List (List Term):=a.flatMap fun x=>b.map fun y=>x++y
def sizedP (l:List (List Term)):List (List Term)×Int:=if decide ((64:Int) < l.length) then ([],10) else (l,0)
def satP (l:List (List Term)) (ts:List Term):Bool:=l.any (conA ts)

theorem pw_all {α:Type} {R:α→α→Prop}:∀ {l:List α},l.Pairwise R→∀ a∈l,∀ b∈l,a=b∨R a b∨R b a
 | [],_,a,ha,_,_=>by simp at ha
 | x :: r,h,a,ha,b,hb=>by
  obtain ⟨h1,h2⟩:=List.pairwise_cons.1 h;rcases List.mem_cons.1 ha with rfl | ha' <;> rcases List.mem_cons.1 hb with rfl | hb'
  ·exact .inl rfl
  ·exact .inr (.inl (h1 b hb'))
  ·exact .inr (.inr (h1 a ha'))
  ·exact pw_all h2 a ha' b hb'
theorem TO.irr {α:Type} {c:α→α→Int} (S:TO c) (a:α):¬ c a a < 0:=by rw [(S.eq a a).2 rfl];decide
theorem TO.le_lt {α:Type} {c:α→α→Int} (S:TO c) {a b:α} (h:c a b≤0) (hn:a≠b):c a b < 0:=by
 have:=mt (S.eq a b).1 hn;omega
theorem TO.le_tr {α:Type} {c:α→α→Int} (S:TO c) {a b d:α} (h:c a b≤0) (k:c b d≤0):c a d≤0:=by
 by_cases p:c a b=0
 ·rw [(S.eq _ _).1 p];exact k
 ·by_cases q:c b d=0
  ·rw [← (S.eq _ _).1 q];exact h
  ·exact Int.le_of_lt (S.tr a b d (by omega) (by omega))
theorem altInc_sub {α:Type} {c:α→α→Int} (S:TO c):∀ (B A:List α),(B.Pairwise fun a b=>c a b < 0)→(A.Pairwise fun a b=>c a b < 0)→(∀ t∈A,t∈B)→A.Sublist B
 | B,[],_,_,_=>List.nil_sublist B
 | [],a :: A,_,_,h=>by have:=h a (by simp);simp at this
 | b :: B,a :: A,hB,hA,h=>by
  obtain ⟨b1,b2⟩:=List.pairwise_cons.1 hB;obtain ⟨a1,a2⟩:=List.pairwise_cons.1 hA;rcases List.mem_cons.1 (h a (by simp)) with rfl | hab
  ·refine (altInc_sub S B A b2 a2 fun t ht=>?_).cons_cons a;rcases List.mem_cons.1 (h t (by simp [ht])) with rfl | h1
   ·exact absurd (a1 t ht) (S.irr t)
   ·exact h1
  ·refine (altInc_sub S B (a :: A) b2 hA fun t ht=>?_).cons b;rcases List.mem_cons.1 (h t ht) with rfl | h1
   ·have hlt:=b1 a hab;rcases List.mem_cons.1 ht with rfl | ht'
    ·exact hab
    ·exact absurd (S.tr _ _ _ (a1 t ht') hlt) (S.irr a)
   ·exact h1
theorem altInc_eq {α:Type} {c:α→α→Int} (S:TO c) {A B:List α} (hA:A.Pairwise fun a b=>c a b < 0) (hB:B.Pairwise fun a b=>c a b < 0) (h:∀ t,t∈A↔t∈B):A=B:=by
 have h1:=altInc_sub S B A hB hA fun t=>(h t).1;have h2:=altInc_sub S A B hA hB fun t=>(h t).2;exact h1.eq_of_length (Nat.le_antisymm h1.length_le h2.length_le)
structure MinL (l:List (List Term)):Prop where
 srt:∀ a∈l,a.Pairwise fun x y=>tcmp x y < 0
 ord:l.Pairwise fun a b=>acmp a b < 0
 apt:∀ a∈l,∀ b∈l,conA a b=true→a=b
theorem con_sub {a b:List Term} (ha:a.Pairwise fun x y=>tcmp x y < 0) (hb:b.Pairwise fun x y=>tcmp x y < 0) (h:conA a b=true):b.Sublist a :=
 altInc_sub tcmp_to a b ha hb (conA_iff.1 h)
theorem con_eq {a b:List Term} (ha:a.Pairwise fun x y=>tcmp x y < 0) (hb:b.Pairwise fun x y=>tcmp x y < 0) (h:conA a b=true) (k:conA b a=true):a=b :=
 altInc_eq tcmp_to ha hb fun t=>⟨conA_iff.1 k t,conA_iff.1 h t⟩
theorem acmp_len {a b:List Term} (h:acmp a b≤0):a.length≤b.length:=by
 rcases Nat.lt_or_ge b.length a.length with h1 | h1
 ·exfalso;unfold acmp lex2 ncmp at h;rw [if_neg (Nat.lt_asymm h1),if_pos h1] at h;simp at h
 ·exact h1
theorem clash_iff:∀ {l pre:List (List Term)},clash pre l=false↔(∀ a∈l,∀ p∈pre,conA a p=false)∧l.Pairwise fun x y=>conA y x=false
 | [],pre=>by simp [clash]
 | a :: r,pre=>by
  rw [clash,Bool.or_eq_false_iff,clash_iff,List.pairwise_cons,List.any_eq_false];constructor
  ·rintro ⟨h1,h2,h3⟩;refine ⟨fun x hx p hp=>?_,fun y hy=>h2 y hy a (by simp),h3⟩;rcases List.mem_cons.1 hx with rfl | hx
   ·simpa using h1 p hp
   ·exact h2 x hx p (by simp [hp])
  ·rintro ⟨h1,h2,h3⟩;refine ⟨fun p hp=>by simpa using h1 a (by simp) p hp,fun x hx p hp=>?_,h3⟩;rcases List.mem_append.1 hp with hp | hp
   ·exact h1 x (by simp [hx]) p hp
   ·obtain rfl:=List.mem_singleton.1 hp;exact h2 x hx
theorem minL_mk {l:List (List Term)} (h1:∀ a∈l,a.Pairwise fun x y=>tcmp x y < 0) (h2:l.Pairwise fun a b=>acmp a b < 0) (h3:l.Pairwise fun x y=>conA y x=false):MinL l:=by
 have h4:l.Pairwise fun x y=>conA y x=false∧acmp x y < 0:=h3.and h2
 have key:∀ x∈l,∀ y∈l,acmp x y < 0→conA x y=true→False:=fun x hx y hy hc hk=>by
  have s:=con_sub (h1 x hx) (h1 y hy) hk;have:=acmp_len (Int.le_of_lt hc);have e:=s.eq_of_length (Nat.le_antisymm s.length_le this);rw [e] at hc;exact acmp_to.irr _ hc
 refine ⟨h1,h2,fun a ha b hb hc=>?_⟩;rcases pw_all h4 a ha b hb with rfl | ⟨k1,k2⟩ | ⟨k1,k2⟩
 ·rfl
 ·exact (key a ha b hb k2 hc).elim
 ·rw [hc] at k1;cases k1
theorem satP_iff {l:List (List Term)} {ts:List Term}:satP l ts=true↔∃ a∈l,conA ts a=true:=by
 unfold satP;rw [List.any_eq_true]
theorem min_unique {l m:List (List Term)} (hl:MinL l) (hm:MinL m) (h:∀ ts,satP l ts=satP m ts):l=m:=by
 have half:∀ {l m:List (List Term)},MinL l→MinL m→(∀ ts,satP l ts=satP m ts)→∀ x∈l,x∈m:=by
  intro l m hl hm h x hx;have h1:satP l x=true:=satP_iff.2 ⟨x,hx,conA_refl x⟩;rw [h] at h1;obtain ⟨y,hy,h2⟩:=satP_iff.1 h1;have h3:satP m y=true:=satP_iff.2 ⟨y,hy,conA_refl y⟩;rw [← h] at h3;obtain ⟨z,hz,h4⟩:=satP_iff.1 h3;have e:=hl.apt x hx z hz (conA_trans h2 h4);subst e;rw [con_eq (hl.srt _ hx) (hm.srt _ hy) h2 h4];exact hy
 exact altInc_eq acmp_to hl.ord hm.ord fun t=>⟨half hl hm h t,half hm hl (fun ts=>(h ts).symm) t⟩
theorem insR_permA {α:Type} (lt:α→α→Bool) (x:α):∀ l:List α,(insR lt x l).Perm (x :: l)
 | []=>.refl _
 | y :: r=>by
  unfold insR;split
  ·exact ((insR_permA lt x r).cons y).trans (.swap x y r)
  ·exact .refl _
theorem sortR_permA {α:Type} (lt:α→α→Bool):∀ (R L:List α),(sortR lt L R).Perm (L++R)
 | [],L=>by simp [sortR]
 | x :: R,L=>by
  unfold sortR;refine (sortR_permA lt R _).trans (((insR_permA lt x L).append_right R).trans ?_);simpa using (List.perm_middle (l₁:=L) (l₂:=R) (a:=x)).symm
theorem sortS_permA {α:Type} (lt:α→α→Bool) (xs:List α):(sortS lt xs).Perm xs:=by
 unfold sortS;exact (List.reverse_perm _).trans (by simpa using sortR_permA lt xs [])
theorem insR_le {α:Type} {c:α→α→Int} (S:TO c) (x:α):∀ l:List α,(l.Pairwise fun a b=>c b a≤0)→(insR (ltC c) x l).Pairwise fun a b=>c b a≤0
 | [],_=>by simp [insR]
 | y :: r,h=>by
  obtain ⟨h1,h2⟩:=List.pairwise_cons.1 h;unfold insR;split
  ·rename_i hl
   have hl:c x y < 0:=of_decide_eq_true hl;refine List.pairwise_cons.2 ⟨fun z hz=>?_,insR_le S x r h2⟩;rcases List.mem_cons.1 ((insR_permA (ltC c) x r).mem_iff.1 hz) with rfl | hz
   ·omega
   ·exact h1 z hz
  ·rename_i hl
   have hl:¬ c x y < 0:=fun h=>hl (decide_eq_true h);have hyx:c y x≤0:=by rw [S.sw x y];omega
   refine List.pairwise_cons.2 ⟨fun z hz=>?_,h⟩;rcases List.mem_cons.1 hz with rfl | hz
   ·exact hyx
   ·exact S.le_tr (h1 z hz) hyx
theorem sortS_le {α:Type} {c:α→α→Int} (S:TO c) (xs:List α):(sortS (ltC c) xs).Pairwise fun a b=>c a b≤0:=by
 have h:∀ (R L:List α),(L.Pairwise fun a b=>c b a≤0)→(sortR (ltC c) L R).Pairwise fun a b=>c b a≤0:=by
  intro R;induction R with
  | nil=>intro L h;exact h
  | cons x R ih=>intro L h;exact ih _ (insR_le S x L h)
 unfold sortS;rw [List.pairwise_reverse];exact h xs [] List.Pairwise.nil
theorem sort_unique {α:Type} {c:α→α→Int} (S:TO c) {xs ys:List α} (hp:ys.Perm xs) (hs:ys.Pairwise fun a b=>c a b≤0):ys=sortS (ltC c) xs:=by
 refine List.Perm.eq_of_pairwise (le:=fun a b=>c a b≤0) ?_ hs (sortS_le S xs) (hp.trans (sortS_permA _ xs).symm);intro a b _ _ h1 h2;have:=S.sw a b;exact (S.eq a b).1 (by omega)
theorem compact_mem {α:Type} [DecidableEq α] {t:α}:∀ {l:List α},t∈compact l↔t∈l
 | []=>by simp [compact]
 | [a]=>by simp [compact]
 | a :: b :: r=>by
  rw [compact];split
  ·rename_i h;subst h;rw [compact_mem];simp
  ·rw [List.mem_cons,compact_mem,List.mem_cons,List.mem_cons,List.mem_cons]
theorem compact_incr {α:Type} [DecidableEq α] {c:α→α→Int} (S:TO c):∀ {l:List α},(l.Pairwise fun a b=>c a b≤0)→(compact l).Pairwise fun a b=>c a b < 0
 | [],_=>by simp [compact]
 | [a],_=>by simp [compact]
 | a :: b :: r,h=>by
  obtain ⟨h1,h2⟩:=List.pairwise_cons.1 h;rw [compact];split
  ·exact compact_incr S h2
  ·rename_i hn
   refine List.pairwise_cons.2 ⟨fun z hz=>?_,compact_incr S h2⟩;have hz:=compact_mem.1 hz;have hab:c a b < 0:=S.le_lt (h1 b (by simp)) hn;rcases List.mem_cons.1 hz with rfl | hz
   ·exact hab
   ·have hbz:=(List.pairwise_cons.1 h2).1 z hz;by_cases q:c b z=0
    ·rw [← (S.eq _ _).1 q];exact hab
    ·exact S.tr a b z hab (by omega)
theorem normT_incr (a:List Term):(normT a).Pairwise fun x y=>tcmp x y < 0:=compact_incr tcmp_to (sortS_le tcmp_to a)
theorem normT_mem {a:List Term} {t:Term}:t∈normT a↔t∈a:=by
 unfold normT;rw [compact_mem,(sortS_permA _ a).mem_iff]
theorem conA_norm (ts a:List Term):conA ts (normT a)=conA ts a:=by
 rw [Bool.eq_iff_iff,conA_iff,conA_iff];exact ⟨fun h t ht=>h t (normT_mem.2 ht),fun h t ht=>h t (normT_mem.1 ht)⟩
theorem satP_append (a b:List (List Term)) (ts:List Term):satP (a++b) ts=(satP a ts || satP b ts):=by simp [satP]
theorem satP_cons (a:List Term) (b:List (List Term)) (ts:List Term):satP (a :: b) ts=(conA ts a || satP b ts):=by simp [satP]
theorem conA_append (ts x y:List Term):conA ts (x++y)=(conA ts x && conA ts y):=by simp [conA]
theorem satP_perm {a b:List (List Term)} (h:a.Perm b) (ts:List Term):satP a ts=satP b ts:=by
 rw [Bool.eq_iff_iff,satP_iff,satP_iff];exact ⟨fun ⟨x,hx,hc⟩=>⟨x,h.mem_iff.1 hx,hc⟩,fun ⟨x,hx,hc⟩=>⟨x,h.mem_iff.2 hx,hc⟩⟩
theorem satP_norm (l:List (List Term)) (ts:List Term):satP (l.map normT) ts=satP l ts:=by
 unfold satP;rw [List.any_map];congr 1;funext a;exact conA_norm ts a
theorem satP_pairs (a b:List (List Term)) (ts:List Term):satP (pairsA a b) ts=(satP a ts && satP b ts):=by
 rw [Bool.eq_iff_iff,Bool.and_eq_true,satP_iff,satP_iff,satP_iff];unfold pairsA;constructor
 ·rintro ⟨z,hz,hc⟩;obtain ⟨x,hx,hz⟩:=List.mem_flatMap.1 hz;obtain ⟨y,hy,rfl⟩:=List.mem_map.1 hz;rw [conA_append,Bool.and_eq_true] at hc;exact ⟨⟨x,hx,hc.1⟩,⟨y,hy,hc.2⟩⟩
 ·rintro ⟨⟨x,hx,h1⟩,⟨y,hy,h2⟩⟩;exact ⟨x++y,List.mem_flatMap.2 ⟨x,hx,List.mem_map.2 ⟨y,hy,rfl⟩⟩,by rw [conA_append,h1,h2];rfl⟩
theorem keepMin_mem:∀ (l out:List (List Term)),∀ x∈keepMin out l,x∈out∨x∈l
 | [],out,x,h=>.inl h
 | a :: r,out,x,h=>by
  rw [keepMin] at h;split at h
  ·exact (keepMin_mem r out x h).imp id fun h=>by simp [h]
  ·rcases keepMin_mem r _ x h with h | h
   ·rcases List.mem_append.1 h with h | h
    ·exact .inl h
    ·obtain rfl:=List.mem_singleton.1 h;exact .inr (by simp)
   ·exact .inr (by simp [h])
theorem keepMin_sat (ts:List Term):∀ (l out:List (List Term)),satP (keepMin out l) ts=(satP out ts || satP l ts)
 | [],out=>by simp [keepMin,satP]
 | a :: r,out=>by
  rw [keepMin,satP_cons];split
  ·rename_i h
   rw [keepMin_sat ts r out];cases hc:conA ts a
   ·rw [Bool.false_or]
   ·obtain ⟨b,hb,h2⟩:=List.any_eq_true.1 h;have:satP out ts=true:=satP_iff.2 ⟨b,hb,conA_trans hc h2⟩;rw [this];rfl
  ·rw [keepMin_sat ts r,satP_append,satP_cons];have e:satP [] ts=false:=rfl;rw [e,Bool.or_false,Bool.or_assoc]
theorem keepMin_pw:∀ (l out:List (List Term)),(out.Pairwise fun a b=>acmp a b < 0)→(out.Pairwise fun x y=>conA y x=false)→((out++l).Pairwise fun a b=>acmp a b≤0) →
  ((keepMin out l).Pairwise fun a b=>acmp a b < 0)∧((keepMin out l).Pairwise fun x y=>conA y x=false)
 | [],out,h1,h2,_=>⟨h1,h2⟩
 | a :: r,out,h1,h2,h3=>by
  rw [keepMin];split
  ·refine keepMin_pw r out h1 h2 ?_;rw [List.pairwise_append] at h3 ⊢;exact ⟨h3.1,(List.pairwise_cons.1 h3.2.1).2,fun x hx y hy=>h3.2.2 x hx y (by simp [hy])⟩
  ·rename_i hn
   have hn:∀ b∈out,conA a b=false:=fun b hb=>by
    cases hc:conA a b
    ·rfl
    ·exact absurd (List.any_eq_true.2 ⟨b,hb,hc⟩) hn
   refine keepMin_pw r (out++[a]) ?_ ?_ (by simpa using h3)
   ·rw [List.pairwise_append];refine ⟨h1,by simp,fun x hx y hy=>?_⟩;obtain rfl:=List.mem_singleton.1 hy;refine acmp_to.le_lt ((List.pairwise_append.1 h3).2.2 x hx y (by simp)) fun e=>?_;subst e;have:=hn x hx;rw [conA_refl] at this;cases this
   ·rw [List.pairwise_append];refine ⟨h2,by simp,fun x hx y hy=>?_⟩;obtain rfl:=List.mem_singleton.1 hy;exact hn x hx
theorem minimal_mem {l:List (List Term)} {x:List Term} (h:x∈minimalP l):∃ y∈l,x=normT y:=by
 rcases keepMin_mem _ _ x h with h | h
 ·simp at h
 ·obtain ⟨y,hy,rfl⟩:=List.mem_map.1 ((sortS_permA _ _).mem_iff.1 h);exact ⟨y,hy,rfl⟩
theorem minimal_sat (l:List (List Term)) (ts:List Term):satP (minimalP l) ts=satP l ts:=by
 unfold minimalP;rw [keepMin_sat,satP_perm (sortS_permA _ _),satP_norm];rfl
theorem minimal_min (l:List (List Term)):MinL (minimalP l):=by
 obtain ⟨h1,h2⟩:=keepMin_pw (sortS (ltC acmp) (l.map normT)) [] (by simp) (by simp) (by simpa using sortS_le acmp_to (l.map normT));refine minL_mk (fun a ha=>?_) h1 h2;obtain ⟨y,-,rfl⟩:=minimal_mem ha;exact normT_incr y
theorem minimal_self {l:List (List Term)} (h:MinL l):minimalP l=l:=min_unique (minimal_min l) h (minimal_sat l)
end Go.Proofs.YtcbopdbbcgdkcaaGreatDoor
