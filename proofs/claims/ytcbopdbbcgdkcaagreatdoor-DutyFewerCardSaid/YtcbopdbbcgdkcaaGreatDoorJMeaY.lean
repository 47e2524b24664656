/- Plain laws of expressions that are parts of others. -/
import Derived.Test.YtcbopdbbcgdkcaaGreatDoorJAltG
import Derived.Test.YtcbopdbbcgdkcaaGreatDoorJExpG
import Derived.Test.YtcbopdbbcgdkcaaGreatDoorJMeanU
import Derived.Test.YtcbopdbbcgdkcaaGreatDoorJLaw
import Derived.Test.YtcbopdbbcgdkcaaGreatDoorJRfE
set_option linter.all false
namespace Go.Proofs.YtcbopdbbcgdkcaaGreatDoor
open Go

theorem ofP_ok {c:Catalog} {e:LExpr} (h:(ofP c e).2=0):checkE c e=0∧ofP c e=meanP c e:=by
 unfold ofP at *
 by_cases q:checkE c e=0
 ·rw [q];exact ⟨rfl,rfl⟩
 ·rw [if_pos (by simpa using q)] at h;exact absurd h q
theorem sized_zero {l:List (List Term)} (h:(sizedP l).2=0):(sizedP l).1=l:=by
 unfold sizedP at *
 split at h
 ·simp at h
 ·rename_i q;rw [if_neg q]
end Go.Proofs.YtcbopdbbcgdkcaaGreatDoor
namespace Go.Proofs.YtcbopdbbcgdkcaaGreatDoor
open Go

theorem minL_nil:MinL []:=minL_mk (by simp) (by simp) (by simp)
theorem minL_one {a:List Term} (h:a.Pairwise fun x y=>tcmp x y < 0):MinL [a]:=minL_mk (by simpa using h) (by simp) (by simp)
theorem sized_min (l:List (List Term)):MinL (sizedP (minimalP l)).1:=by
 unfold sizedP
 split
 ·exact minL_nil
 ·exact minimal_min l
theorem meanKs_min (c:Catalog) (k:Int):∀ (ks:List LExpr) (first:Bool) (out:List (List Term)),MinL (meanKs c k first out ks).1
 | [],first,out=>by rw [meanKs];exact sized_min out
 | e :: r,first,out=>by
  rw [meanKs]
  simp only
  split
  ·exact minL_nil
  split
  ·exact meanKs_min c k r _ _
  split
  ·exact meanKs_min c k r _ _
  split
  ·exact minL_nil
  ·exact meanKs_min c k r _ _
theorem mean_min (c:Catalog) (e:LExpr):MinL (meanP c e).1:=by
 obtain ⟨k,n,x,ks⟩:=e
 rw [meanP]
 split
 ·exact minL_one (by simp)
 split
 ·exact sized_min _
 ·exact meanKs_min c k ks _ _
theorem checkE_iff {c:Catalog} {e:LExpr}:checkE c e=0↔checkC c=0∧formE e=0∧∀ y∈nodesE e,knownN c y=true:=by
 unfold checkE
 by_cases q:checkC c=0
 ·rw [q]
  by_cases q2:formE e=0
  ·rw [q2]
   cases q3:(nodesE e).all (knownN c)
   ·simp only [List.all_eq_false] at q3
    obtain ⟨y,hy,h⟩:=q3
    constructor
    ·intro h;simp at h
    ·intro h2;exact absurd (h2.2.2 y hy) h
   ·rw [List.all_eq_true] at q3
    exact ⟨fun _=>⟨rfl,rfl,q3⟩,fun _=>rfl⟩
  ·rw [if_neg (by decide),if_pos (by simpa using q2)]
   exact ⟨fun h=>absurd h q2,fun h=>absurd h.2.1 q2⟩
 ·rw [if_pos (by simpa using q)]
  exact ⟨fun h=>by simp at h,fun h=>absurd h.1 q⟩
theorem formE_iff {e:LExpr}:formE e=0↔sizeE e≤64∧depthE e≤24∧∀ y∈nodesE e,nodeErr y=0:=by
 unfold formE
 by_cases q:(64:Int) < sizeE e
 ·rw [if_pos (decide_eq_true q)]
  exact ⟨fun h=>by simp at h,fun h=>by omega⟩
 ·rw [if_neg (by simpa using q)]
  by_cases q2:(24:Int) < depthE e
  ·rw [if_pos (decide_eq_true q2)]
   exact ⟨fun h=>by simp at h,fun h=>by omega⟩
  ·rw [if_neg (by simpa using q2)]
   exact ⟨fun h=>⟨by omega,by omega,nodesErr_mem h⟩,fun h=>nodesErr_zero h.2.2⟩
theorem depth_mem {e:LExpr}:∀ {ks:List LExpr},e∈ks→depthE e≤depthKs ks
 | a :: r,h=>by
  rw [depthKs]
  rcases List.mem_cons.1 h with rfl | h
  ·omega
  ·have:=depth_mem h;omega
theorem node_kid {k:Int} {n x:ByteArray} {ks:List LExpr} {e y:LExpr} (he:e∈ks) (hy:y∈nodesE e):y∈nodesE (.mk k n x ks):=by
 rw [nodesE];exact List.mem_cons_of_mem _ (nodesKs_mem he hy)
theorem check_kid {c:Catalog} {k:Int} {n x:ByteArray} {ks:List LExpr} {e:LExpr} (h:checkE c (.mk k n x ks)=0) (he:e∈ks):checkE c e=0:=by
 rw [checkE_iff,formE_iff] at *
 obtain ⟨h1,⟨h2,h3,h4⟩,h5⟩:=h
 rw [sizeE] at h2
 rw [depthE] at h3
 have:=size_mem he
 have:=depth_mem he
 exact ⟨h1,⟨by omega,by omega,fun y hy=>h4 y (node_kid he hy)⟩,fun y hy=>h5 y (node_kid he hy)⟩
theorem big_small {l:List (List Term)} (h:l.length≤64) (h2:∀ a∈l,a.length≤64):bigA l=false:=by
 unfold bigA
 rw [Bool.or_eq_false_iff,List.any_eq_false]
 exact ⟨by simp;omega,fun a ha=>by have:=h2 a ha;simp;omega⟩
theorem check_small {l:List (List Term)} (hm:MinL l) (h:l.length≤64) (h2:∀ a∈l,a.length≤64):checkA l=0:=checkA_ok.2 ⟨hm,big_small h h2⟩
end Go.Proofs.YtcbopdbbcgdkcaaGreatDoor
namespace Go.Proofs.YtcbopdbbcgdkcaaGreatDoor
open Go

structure OkL (large:Bool) (l:List (List Term)) (f:List Term→Bool):Prop where
 ok:large=false→checkA l=0∧MinL l∧∀ ts,satP l ts=f ts
theorem OkL.of {large:Bool} {l:List (List Term)} (h:checkA l=0):OkL large l (satP l):=⟨fun _=>⟨h,(checkA_ok.1 h).1,fun _=>rfl⟩⟩
theorem OkL.up {large big:Bool} {l:List (List Term)} {f:List Term→Bool} (h:OkL large l f):OkL (large || big) l f:=⟨fun e=>h.ok (by simp at e;exact e.1)⟩
theorem OkL.same {large:Bool} {a b:List (List Term)} {f g:List Term→Bool} (ha:OkL large a f) (hb:OkL large b g) (h:∀ ts,f ts=g ts):large=true∨a=b:=by
 cases large
 ·obtain ⟨-,a2,a3⟩:=ha.ok rfl
  obtain ⟨-,b2,b3⟩:=hb.ok rfl
  exact .inr (min_unique a2 b2 fun ts=>by rw [a3,b3,h])
 ·exact .inl rfl
end Go.Proofs.YtcbopdbbcgdkcaaGreatDoor
namespace Go.Proofs.YtcbopdbbcgdkcaaGreatDoor
open Go

theorem of_size {c:Catalog} {e:LExpr} (h:(ofP c e).2=0):sizeE e≤64:=(formE_iff.1 (checkE_iff.1 (ofP_ok h).1).2.1).1
theorem ofE_len {c:Catalog} {e:LExpr} (h:(ofP c e).2=0):(ofP c e).1.length≤64∧∀ a∈(ofP c e).1,a.length≤64:=by
 have hs:=of_size h
 obtain ⟨-,h2⟩:=ofP_ok h
 rw [h2]
 obtain ⟨h3,h4⟩:=mean_len c e
 exact ⟨h3,fun a ha=>Nat.le_trans (h4 a ha) hs⟩
end Go.Proofs.YtcbopdbbcgdkcaaGreatDoor
namespace Go.Proofs.YtcbopdbbcgdkcaaGreatDoor
open Go

theorem of_checkA {c:Catalog} {e:LExpr} (h:(ofP c e).2=0):checkA (ofP c e).1=0:=by
 obtain ⟨h1,h2⟩:=ofE_len h
 refine check_small ?_ h1 h2
 rw [(ofP_ok h).2];exact mean_min c e
end Go.Proofs.YtcbopdbbcgdkcaaGreatDoor
namespace Go.Proofs.YtcbopdbbcgdkcaaGreatDoor
open Go

def termE (t:Term):LExpr:=.mk 0 t.license t.exception []
end Go.Proofs.YtcbopdbbcgdkcaaGreatDoor
namespace Go.Proofs.YtcbopdbbcgdkcaaGreatDoor
open Go

def okT (c:Catalog) (t:Term):Prop:=nodeErr (termE t)=0∧knownN c (termE t)=true
def GoodA (c:Catalog) (l:List (List Term)):Prop:=∀ a∈l,a≠[]∧∀ t∈a,okT c t
theorem minimal_ne {l:List (List Term)} (h:l≠[]):minimalP l≠[]:=by
 obtain ⟨a,r,rfl⟩:=List.exists_cons_of_ne_nil h
 intro he
 have h1:satP (a :: r) a=true:=satP_iff.2 ⟨a,by simp,conA_refl a⟩
 rw [← minimal_sat,he] at h1
 cases h1
theorem norm_ne {a:List Term} (h:a≠[]):normT a≠[]:=by
 obtain ⟨t,r,rfl⟩:=List.exists_cons_of_ne_nil h
 exact List.ne_nil_of_mem (normT_mem.2 (show t∈t :: r by simp))
theorem good_min {c:Catalog} {l:List (List Term)} (h:GoodA c l):GoodA c (minimalP l):=by
 intro x hx
 obtain ⟨y,hy,rfl⟩:=minimal_mem hx
 exact ⟨norm_ne (h y hy).1,fun t ht=>(h y hy).2 t (normT_mem.1 ht)⟩
theorem good_sized {c:Catalog} {l:List (List Term)} (h:GoodA c l):GoodA c (sizedP (minimalP l)).1:=fun a ha=>good_min h a ((sized_ok _).2 a ha)
theorem good_pairs {c:Catalog} {l m:List (List Term)} (h:GoodA c l) (k:GoodA c m):GoodA c (pairsA l m):=by
 intro a ha
 unfold pairsA at ha
 obtain ⟨x,hx,ha⟩:=List.mem_flatMap.1 ha
 obtain ⟨y,hy,rfl⟩:=List.mem_map.1 ha
 refine ⟨by simp [(h x hx).1],fun t ht=>?_⟩
 rcases List.mem_append.1 ht with ht | ht
 ·exact (h x hx).2 t ht
 ·exact (k y hy).2 t ht
theorem pairs_ne {l m:List (List Term)} (h:l≠[]) (k:m≠[]):pairsA l m≠[]:=by
 obtain ⟨a,r,rfl⟩:=List.exists_cons_of_ne_nil h
 obtain ⟨b,s,rfl⟩:=List.exists_cons_of_ne_nil k
 simp [pairsA]
theorem good_append {c:Catalog} {l m:List (List Term)} (h:GoodA c l) (k:GoodA c m):GoodA c (l++m):=by
 intro a ha
 rcases List.mem_append.1 ha with ha | ha
 ·exact h a ha
 ·exact k a ha
theorem goodKs {c:Catalog} {k:Int}:∀ (ks:List LExpr) (first:Bool) (out:List (List Term)),(∀ e∈ks,(meanP c e).2=0→(meanP c e).1≠[]∧GoodA c (meanP c e).1)→GoodA c out→(out≠[]∨ks≠[])→(k≠3→first=false→out≠[]) →
  (meanKs c k first out ks).2=0→(meanKs c k first out ks).1≠[]∧GoodA c (meanKs c k first out ks).1
 | [],first,out,_,hg,hne,_,h=>by
  rw [meanKs] at h ⊢
  refine ⟨?_,good_sized hg⟩
  rw [sized_zero h]
  exact minimal_ne (hne.resolve_right (by simp))
 | e :: r,first,out,ih,hg,hne,hf,h=>by
  have hr:∀ e∈r,(meanP c e).2=0→(meanP c e).1≠[]∧GoodA c (meanP c e).1:=fun y hy=>ih y (by simp [hy])
  rw [meanKs] at h ⊢
  by_cases q:(meanP c e).2=0
  ·obtain ⟨h1,h2⟩:=ih e (by simp) q
   simp only [q] at h ⊢
   simp only [beq_self_eq_true,Bool.not_true,Bool.false_eq_true,if_false] at h ⊢
   by_cases q3:k=3
   ·subst q3
    simp only [beq_self_eq_true,if_true] at h ⊢
    exact goodKs r false _ hr (good_append hg h2) (.inl (by simp [h1])) (fun hk=>absurd rfl hk) h
   ·have q3':(k == 3)=false:=by simpa using q3
    simp only [q3',Bool.false_eq_true,if_false] at h ⊢
    cases first
    ·simp only [Bool.false_eq_true,if_false] at h ⊢
     by_cases q4:(sizedP (minimalP (pairsA out (meanP c e).1))).2=0
     ·simp only [q4] at h ⊢
      simp only [beq_self_eq_true,Bool.not_true,Bool.false_eq_true,if_false] at h ⊢
      have hn:(sizedP (minimalP (pairsA out (meanP c e).1))).1≠[]:=by
       rw [sized_zero q4];exact minimal_ne (pairs_ne (hf q3 rfl) h1)
      exact goodKs r false _ hr (good_sized (good_pairs hg h2)) (.inl hn) (fun _ _=>hn) h
     ·simp [q4] at h
    ·simp only [if_true] at h ⊢
     exact goodKs r false _ hr h2 (.inl h1) (fun _ _=>h1) h
  ·simp [q] at h
theorem name_emp {n:ByteArray} (h:nameB n=true):emp n=false:=by
 cases q:emp n
 ·rfl
 ·exfalso
  unfold emp at q
  rw [List.isEmpty_iff] at q
  have:n.data.toList=[]:=by rw [← ByteArray.toList_eq];exact q
  unfold nameB at h
  rw [this] at h
  cases h
theorem term_err {n x:ByteArray}:nodeErr (.mk 0 n x [])=if !nameB n || (!emp x && !nameB x) then 2 else 0:=by simp [nodeErr]
theorem licErr_name {pre:List License} {x:License} (h:licErr pre x=0):nameB x.name=true:=by
 unfold licErr at h
 cases q:nameB x.name
 ·rw [q] at h;simp at h
 ·rfl
theorem okT_later {c:Catalog} (hc:checkC c=0) {y:License} (hy:y∈c.licenses):okT c ⟨y.name,ByteArray.empty⟩:=by
 obtain ⟨p,hp⟩:=firstErr_all (check_parts hc).1 y hy
 have hn:=licErr_name hp
 refine ⟨?_,?_⟩
 ·show nodeErr (.mk 0 y.name ByteArray.empty [])=0
  rw [term_err,hn]
  have:emp ByteArray.empty=true:=by unfold emp;rw [ByteArray.toList_eq];rfl
  rw [this];rfl
 ·show (emp y.name || (liftsC c ⟨y.name,ByteArray.empty⟩).isSome)=true
  have:=lifts_empty hc hy
  unfold eS at this
  rw [this];simp
theorem mean_good {c:Catalog}:∀ e,checkE c e=0→(meanP c e).2=0→(meanP c e).1≠[]∧GoodA c (meanP c e).1:=by
 refine LExpr.ind fun k n x ks ih hc h=>?_
 obtain ⟨hC,hF,hN⟩:=checkE_iff.1 hc
 obtain ⟨hs,-,herr⟩:=formE_iff.1 hF
 have he:=herr (.mk k n x ks) (by rw [nodesE];simp)
 have hkn:=hN (.mk k n x ks) (by rw [nodesE];simp)
 by_cases q0:k=0
 ·subst q0
  obtain ⟨rfl,-⟩:=err_low he (by decide)
  have e1:(meanP c (.mk 0 n x [])).1=[[⟨n,x⟩]]:=by rw [meanP];rfl
  rw [e1]
  refine ⟨by simp,fun a ha=>?_⟩
  have:a=[⟨n,x⟩]:=by simpa using ha
  subst this
  refine ⟨by simp,fun t ht=>?_⟩
  have:t=⟨n,x⟩:=by simpa using ht
  subst this
  exact ⟨he,hkn⟩
 by_cases q1:k=1
 ·subst q1
  obtain ⟨rfl,hnm⟩:=err_low he (by decide)
  have e1:meanP c (.mk 1 n x [])=sizedP (minimalP (((laterC c n).getD []).map fun s=>[⟨s,ByteArray.empty⟩])):=by rw [meanP];rfl
  rw [e1] at h ⊢
  have hk2:(liftsC c ⟨n,x⟩).isSome=true:=by
   have h0:(emp n || (liftsC c ⟨n,x⟩).isSome)=true:=hkn
   rw [name_emp hnm] at h0
   simpa using h0
  have hfi:(findC c n).isSome=true:=by
   unfold liftsC at hk2
   split at hk2
   ·assumption
   ·cases hk2
  obtain ⟨L,hL⟩:=Option.isSome_iff_exists.1 hfi
  have hlook:=(find_check hL).2
  have hmem:=(look_mem hlook).1
  have hnm2:laterC c n=some ((laterL c L).map License.name):=by unfold laterC;rw [hL];rfl
  obtain ⟨r,hr⟩:=later_head hC hmem
  have hne:(((laterC c n).getD []).map fun s=>[(⟨s,ByteArray.empty⟩:Term)])≠[]:=by rw [hnm2,hr];simp
  refine ⟨by rw [sized_zero h];exact minimal_ne hne,good_sized fun a ha=>?_⟩
  obtain ⟨s,hsm,rfl⟩:=List.mem_map.1 ha
  rw [hnm2] at hsm
  obtain ⟨y,hy,rfl⟩:=List.mem_map.1 (by simpa using hsm:s∈(laterL c L).map License.name)
  refine ⟨by simp,fun t ht=>?_⟩
  have:t=⟨y.name,ByteArray.empty⟩:=by simpa using ht
  subst this
  exact okT_later hC (later_mem.1 hy).1
 have e0:(k == 0)=false:=by simpa using q0
 have e1:(k == 1)=false:=by simpa using q1
 have hks:ks≠[]:=by
  rintro rfl
  have hk:¬ (k < 0∨3 < k):=fun q=>by rw [nodeErr_bad q] at he;cases he
  rw [nodeErr_hi (by omega) (by omega)] at he
  simp at he
 rw [meanP,e0,e1] at h ⊢
 simp only [Bool.false_eq_true,if_false] at h ⊢
 exact goodKs ks true [] (fun e hm hz=>ih e hm (check_kid hc hm) hz) (fun a ha=>by simp at ha) (.inr hks) (fun _ hf=>by simp at hf) h
end Go.Proofs.YtcbopdbbcgdkcaaGreatDoor
