/- Plain: a case without one of its facts (for DutyFewer). -/
import Derived.Test.YtcbopdbbcgdkcaaGreatDoorJLiftU
import Derived.Test.YtcbopdbbcgdkcaaGreatDoorJDuH
import Derived.Test.YtcbopdbbcgdkcaaGreatDoorJDuI
import Derived.Test.YtcbopdbbcgdkcaaGreatDoorJHedU
set_option linter.all false
namespace Go.Proofs.YtcbopdbbcgdkcaaGreatDoor
open Go

theorem vals_zero (c:Catalog):∀ (x:List Fact) (ts:List (List (List Term))) (os:List ByteArray),(valsF c ts os x).2.2=0↔∀ f∈x,(f.kind == 1)=true→(ofP c f.expr).2=0
 | [],ts,os=>by simp [valsF]
 | f :: r,ts,os=>by
  rw [valsF]
  by_cases k1:(f.kind == 1)=true
  ·rw [if_pos k1]
   by_cases e0:((ofP c f.expr).2 == 0)=true
   ·rw [if_pos e0,vals_zero c r]
    constructor
    ·intro h g hg hk
     rcases List.mem_cons.1 hg with rfl | hg
     ·simpa using e0
     ·exact h g hg hk
    ·exact fun h g hg=>h g (by simp [hg])
   ·rw [if_neg e0]
    constructor
    ·intro h;exact absurd (by simpa using h) e0
    ·intro h;exact absurd (by simpa using h f (by simp) k1) e0
  ·rw [if_neg k1]
   have key:(∀ g∈f :: r,(g.kind == 1)=true→(ofP c g.expr).2=0)↔∀ g∈r,(g.kind == 1)=true→(ofP c g.expr).2=0:=by
    constructor
    ·exact fun h g hg=>h g (by simp [hg])
    ·intro h g hg hk
     rcases List.mem_cons.1 hg with rfl | hg
     ·exact absurd hk k1
     ·exact h g hg hk
   split
   ·rw [vals_zero c r];exact key.symm
   ·rw [vals_zero c r];exact key.symm
theorem vals_terms (c:Catalog):∀ (x:List Fact) (ts:List (List (List Term))) (os:List ByteArray),(valsF c ts os x).2.2=0→(valsF c ts os x).1=ts++(x.filter fun f=>f.kind == 1).map fun f=>(ofP c f.expr).1
 | [],ts,os,_=>by simp [valsF]
 | f :: r,ts,os,h=>by
  rw [valsF] at *
  by_cases k1:(f.kind == 1)=true
  ·rw [if_pos k1] at *
   by_cases e0:((ofP c f.expr).2 == 0)=true
   ·rw [if_pos e0] at *
    rw [vals_terms c r _ _ h,List.filter_cons,if_pos k1];simp
   ·rw [if_neg e0] at h;exact absurd (by simpa using h) e0
  ·rw [if_neg k1] at *
   rw [List.filter_cons,if_neg k1]
   split at h
   ·rename_i q;rw [if_pos q];exact vals_terms c r _ _ h
   ·rename_i q;rw [if_neg q];exact vals_terms c r _ _ h
theorem facts_zero (c:Catalog):∀ (x:List Fact) (i:Nat),(factsE c i x).2=0↔∀ f∈x,factE c f=0
 | [],i=>by simp [factsE]
 | f :: r,i=>by
  rw [factsE]
  by_cases q:(factE c f == 0)=true
  ·rw [if_pos q,facts_zero c r]
   constructor
   ·intro h g hg
    rcases List.mem_cons.1 hg with rfl | hg
    ·simpa using q
    ·exact h g hg
   ·exact fun h g hg=>h g (by simp [hg])
  ·rw [if_neg q]
   constructor
   ·intro h;exact absurd (by simpa using h) q
   ·intro h;exact absurd (by simpa using h f (by simp)) q
theorem values_zero {c:Catalog} {x:List Fact}:(valuesC c x).2.2=0↔checkC c=0∧x.length≤256∧(∀ f∈x,factE c f=0)∧∀ f∈x,(f.kind == 1)=true→(ofP c f.expr).2=0:=by
 have hcase:(caseE c x).2=0↔checkC c=0∧x.length≤256∧∀ f∈x,factE c f=0:=by
  unfold caseE
  by_cases k:checkC c=0
  ·rw [if_neg (by simp [k])]
   by_cases l:(256:Int) < x.length
   ·rw [if_pos (by simpa using l)]
    constructor
    ·intro h;cases h
    ·rintro ⟨-,h,-⟩;omega
   ·rw [if_neg (by simpa using l),facts_zero]
    constructor
    ·exact fun h=>⟨k,by omega,h⟩
    ·exact fun h=>h.2.2
  ·rw [if_pos (by simp [k])]
   constructor
   ·intro h;cases h
   ·exact fun h=>absurd h.1 k
 unfold valuesC
 by_cases q:((caseE c x).2 == 0)=true
 ·rw [if_pos q,vals_zero]
  have q2:=hcase.1 (by simpa using q)
  constructor
  ·exact fun h=>⟨q2.1,q2.2.1,q2.2.2,h⟩
  ·exact fun h=>h.2.2.2
 ·rw [if_neg q]
  constructor
  ·intro h;exact absurd (by simpa using h) q
  ·intro h
   have:=hcase.2 ⟨h.1,h.2.1,h.2.2.1⟩
   exact this
theorem values_terms {c:Catalog} {x:List Fact} (h:(valuesC c x).2.2=0):(valuesC c x).1=(x.filter fun f=>f.kind == 1).map fun f=>(ofP c f.expr).1:=by
 unfold valuesC at *
 by_cases q:((caseE c x).2 == 0)=true
 ·rw [if_pos q] at *
  rw [vals_terms c x [] [] h,List.nil_append]
 ·rw [if_neg q] at h;exact absurd (by simpa using h) q
theorem less_zero {c:Catalog} {x:List Fact} (h:(valuesC c x).2.2=0) (i:Nat):(valuesC c (x.eraseIdx i)).2.2=0:=by
 obtain ⟨h1,h2,h3,h4⟩:=values_zero.1 h
 refine values_zero.2 ⟨h1,Nat.le_trans (List.length_eraseIdx_le ..) h2,fun f hf=>h3 f (List.mem_of_mem_eraseIdx hf),fun f hf=>h4 f (List.mem_of_mem_eraseIdx hf)⟩
theorem drop_len:∀ (fs:List Fact) (ts:List (List Term)) (i:Nat),licN fs=ts.length→(dropT fs ts i).length=licN (fs.eraseIdx i)
 | [],ts,i,h=>by simp [dropT,licN] at *;exact List.length_eq_zero_iff.1 h.symm
 | f :: r,ts,0,h=>by
  rw [dropT,List.eraseIdx_cons_zero]
  unfold licN at *
  rw [List.filter_cons] at h
  split
  ·rename_i q;rw [if_pos q] at h;simp at h ⊢;omega
  ·rename_i q;rw [if_neg q] at h;exact h.symm
 | f :: r,ts,i+1,h=>by
  rw [dropT,List.eraseIdx_cons_succ]
  unfold licN at *
  rw [List.filter_cons] at h ⊢
  split
  ·rename_i q
   rw [if_pos q] at h
   have:=drop_len r ts.tail i (by unfold licN;simp at h ⊢;omega)
   unfold licN at this
   rw [List.length_cons,List.length_cons,this]
  ·rename_i q
   rw [if_neg q] at h
   have:=drop_len r ts i (by unfold licN;exact h)
   unfold licN at this
   exact this
theorem drop_mem:∀ (fs:List Fact) (ts:List (List Term)) (i:Nat) (t:List Term),t∈dropT fs ts i→t=[]∨t∈ts
 | [],ts,i,t,h=>.inr (by simpa [dropT] using h)
 | f :: r,ts,0,t,h=>by
  rw [dropT] at h
  split at h
  ·exact .inr (List.mem_of_mem_tail h)
  ·exact .inr h
 | f :: r,ts,i+1,t,h=>by
  rw [dropT] at h
  split at h
  ·rcases List.mem_cons.1 h with rfl | h
   ·cases ts with
    | nil=>exact .inl rfl
    | cons a q=>exact .inr (by simp)
   ·rcases drop_mem r ts.tail i t h with h | h
    ·exact .inl h
    ·exact .inr (List.mem_of_mem_tail h)
  ·exact drop_mem r ts i t h
theorem termsOk_drop (g:Fact→List (List Term)):∀ (fs:List Fact) (ts:List (List Term)) (i:Nat),termsOk true ((fs.filter fun f=>f.kind == 1).map g) ts=true→termsOk true (((fs.eraseIdx i).filter fun f=>f.kind == 1).map g) (dropT fs ts i)=true
 | [],ts,i,h=>by simpa [dropT] using h
 | f :: r,ts,0,h=>by
  rw [dropT,List.eraseIdx_cons_zero]
  rw [List.filter_cons] at h
  split
  ·rename_i q
   rw [if_pos q,List.map_cons] at h
   cases ts with
   | nil=>cases (r.filter fun f=>f.kind == 1).map g <;> rfl
   | cons a w =>
    rw [termsOk,Bool.and_eq_true] at h
    exact h.2
  ·rename_i q;rw [if_neg q] at h;exact h
 | f :: r,ts,i+1,h=>by
  rw [dropT,List.eraseIdx_cons_succ]
  rw [List.filter_cons] at h ⊢
  split
  ·rename_i q
   rw [if_pos q,List.map_cons] at h
   rw [List.map_cons]
   cases ts with
   | nil =>
    rw [List.headD_nil,List.tail_nil,termsOk,termsOk_drop g r [] i (by cases (r.filter fun f=>f.kind == 1).map g <;> rfl)]
    rfl
   | cons a w =>
    rw [termsOk,Bool.and_eq_true] at h
    rw [List.headD_cons,List.tail_cons,termsOk,h.1,termsOk_drop g r w i h.2]
    rfl
  ·rename_i q;rw [if_neg q] at h;exact termsOk_drop g r ts i h
structure LessO (c:Catalog) (x:List Fact) (y:Choice) (i:Nat):Prop where
 vals:(valuesC c (x.eraseIdx i)).2.2=0
 dues:∀ n,n=(valuesC c (x.eraseIdx i)).2.1.length→dutiesC c (x.eraseIdx i) ⟨dropT x y.terms i,List.replicate n ByteArray.empty⟩=(onceD [] (duesF c (x.eraseIdx i) (x.eraseIdx i) (dropT x y.terms i)),0)
 alts:∀ t∈dropT x y.terms i,t.length≤64
 sub:∀ d∈onceD [] (duesF c (x.eraseIdx i) (x.eraseIdx i) (dropT x y.terms i)),d∈onceD [] (duesF c x x y.terms)
 lic:licN x=y.terms.length
theorem less_ok {c:Catalog} {x:List Fact} {y:Choice} (h:NthO c x y) (i:Nat):LessO c x y i:=by
 have hv:=nth_val h
 have hl:licN x=y.terms.length:=by rw [h.terms,(values_ok hv).len]
 have hz:=less_zero hv i
 refine ⟨hz,fun n hn=>?_,fun t ht=>?_,fun d hd=>?_,hl⟩
 ·have e:choiceE c (x.eraseIdx i) ⟨dropT x y.terms i,List.replicate n ByteArray.empty⟩ true=0:=by
   unfold choiceE
   rw [if_pos (by rw [hz];rfl)]
   simp only
   rw [if_neg (by rw [drop_len x y.terms i hl,List.length_replicate,(values_ok hz).len,hn];simp)]
   have ht:=nth_terms h
   rw [values_terms hv] at ht
   rw [values_terms hz,termsOk_drop _ x y.terms i ht,if_neg (by simp),if_neg]
   rw [Bool.not_eq_true,List.any_eq_false]
   intro s hs
   rw [(List.mem_replicate.1 hs).2]
   simp [emp]
  unfold dutiesC;rw [e];rfl
 ·rcases drop_mem x y.terms i t ht with rfl | ht
  ·simp
  ·exact h.alts t ht
 ·rw [once_mem] at hd ⊢
  rcases hd with hd | hd
  ·exact .inl hd
  ·exact .inr (dues_fewer (fun f hf=>List.mem_of_mem_eraseIdx hf) x y.terms i hd)
def restT (x:List Fact) (ts:List (List Term)) (i j k:Nat):List (List Term):=if j≤i then dropT (x.drop j) (ts.drop k) (i - j) else ts.drop k
theorem rest_zero (x:List Fact) (ts:List (List Term)) (i:Nat):restT x ts i 0 0=dropT x ts i:=by unfold restT;rw [if_pos (Nat.zero_le _)];rfl
theorem rest_ne {x:List Fact} {ts:List (List Term)} {i j k:Nat} {f:Fact} {t:List Term} (hf:x[j]?=some f) (hl:(f.kind == 1)=true) (ht:ts[k]?=some t) (hj:j≠i):restT x ts i j k=t :: restT x ts i (j+1) (k+1):=by
 unfold restT
 by_cases q:j≤i
 ·rw [if_pos q,if_pos (by omega),drop_at hf,show i - j=(i - (j+1))+1 by omega,dropT,if_pos hl,drop_at ht];rfl
 ·rw [if_neg q,if_neg (by omega),drop_at ht]
theorem rest_eq {x:List Fact} {ts:List (List Term)} {i k:Nat} {f:Fact} (hf:x[i]?=some f) (hl:(f.kind == 1)=true):restT x ts i i k=restT x ts i (i+1) (k+1):=by
 unfold restT
 rw [if_pos (Nat.le_refl _),if_neg (by omega),drop_at hf,Nat.sub_self,dropT,if_pos hl,List.tail_drop]
theorem rest_not {x:List Fact} {ts:List (List Term)} {i j k:Nat} {f:Fact} (hf:x[j]?=some f) (hl:¬ (f.kind == 1)=true):restT x ts i j k=restT x ts i (j+1) k:=by
 unfold restT
 by_cases q:j≤i
 ·rw [if_pos q,drop_at hf]
  by_cases q2:j=i
  ·subst q2
   rw [if_neg (by omega),Nat.sub_self,dropT,if_neg hl]
  ·rw [if_pos (by omega),show i - j=(i - (j+1))+1 by omega,dropT,if_neg hl]
 ·rw [if_neg q,if_neg (by omega)]
end Go.Proofs.YtcbopdbbcgdkcaaGreatDoor
namespace Go.Proofs.YtcbopdbbcgdkcaaGreatDoor
open Go Go.RowKit Go.ChangeShapes Go.Sort Go.Lib

theorem tkA {P:Program} {ops:Array Oper} {Q:Exit→Act→World→Prop} {md:Region.Mode} {S:World→Prop} {oi:Oper} {v:Value} {fuel:Nat} {listed:Array Bool} {a:Act} {w:World} (i:Nat) (hS:S w) (hi:ops[i]?=some oi) (hy:∀ w,S w→(execOp a.eval oi).run P w=.ok (.value v) w)
  (h:wpAnyH P md ops Q S fuel (listed.setIfInBounds i true) (a.put oi.dst v) w) (hs:Region.noSelect ops=true:=by kernel_rfl) (hf:Region.free md ops listed i=true:=by kernel_rfl) (hr:(Region.ready md ops listed).contains i=true:=by kernel_rfl) (hw:Region.wanted oi (yielded ops a.tmps)=true:=by kernel_rfl)
  (hQ:∀ c a w,Q (.panic c) (a.put oi.dst v) w→Q (.panic c) a w:=by exact fun _ _ _ h=>h):wpAnyH P md ops Q S (fuel+1) listed a w:=wpAnyH_take hi hs hf hr hQ (.inl ⟨hw,hy⟩) hS h
def faV0:Value:=.agg #[.int .i64 0,.string ⟨#[]⟩,.string ⟨#[]⟩,.int .i64 0,.int .i64 0,.int .i64 0,.bool false,.int .i64 0,.string ⟨#[]⟩,.string ⟨#[]⟩,.slice none 0 0,.slice none 0 0]
theorem zeroFa (w:World):(zeroValue 70).run Tryz.prog w=.ok faV0 w:=by kernel_rfl
theorem flatten_drop12:∀ (ys:List (List Value)) (m:Nat),(∀ y∈ys,y.length=12)→(ys.drop m).flatten=ys.flatten.drop (m * 12)
 | ys,0,_=>by simp
 | [],m+1,_=>by simp
 | y :: r,m+1,h=>by
  have hy:=h y (by simp)
  have e1:y.drop ((m+1) * 12)=[]:=List.drop_eq_nil_of_le (by omega)
  rw [List.drop_succ_cons,flatten_drop12 r m (fun z hz=>h z (by simp [hz])),List.flatten_cons,List.drop_append,hy,e1,List.nil_append,show (m+1) * 12 - 12=m * 12 by omega]
theorem flatten_take12:∀ (ys:List (List Value)) (m:Nat),(∀ y∈ys,y.length=12)→(ys.take m).flatten=ys.flatten.take (m * 12)
 | ys,0,_=>by simp
 | [],m+1,_=>by simp
 | y :: r,m+1,h=>by
  have hy:=h y (by simp)
  have e1:y.take ((m+1) * 12)=y:=List.take_of_length_le (by omega)
  rw [List.take_succ_cons,List.flatten_cons,flatten_take12 r m (fun z hz=>h z (by simp [hz])),List.flatten_cons,List.take_append,hy,e1,show (m+1) * 12 - 12=m * 12 by omega]
def DelO (B:Nat) (xs:List Fact) (w:World) (e:Ending) (w':World):Prop:=∃ v',e=.returned v'∧Is w' v' xs∧Below B w w'
set_option maxRecDepth 100000 in
set_option maxHeartbeats 4000000 in
theorem DeleteFact_p (w0 w:World) (v:Value) (xs:List Fact) (i B:Nat) (h:RowFa B w0 w v xs) (hB0:w0.heap.size≤B) (hw0:Below w0.heap.size w0 w) (hi:i < xs.length) (hn:xs.length≤1000000) :
  Calls Tryz.prog 39 #[v,.int .i64 (i:Int),.int .i64 ((i:Int)+1)] w fun e w'=>DelO B (xs.eraseIdx i) w e w':=by
 obtain ⟨ys,h1,⟨h2,h2'⟩,h3⟩:=h
 rcases h2' with ⟨he,h0⟩ | ⟨g,cap,cur,rfl,hg,hh,hn',hc,hsz,ht⟩
 ·omega
 have h12:∀ y∈ys,y.length=12∧∀ u∈y,u.oneCell'=true:=fun y hy=>by
  obtain ⟨k,hk,rfl⟩:=List.mem_iff_getElem.1 hy
  obtain ⟨q1,q2,-⟩:=h3 k ys[k] _ (by simp) (List.getElem?_eq_getElem (by omega))
  exact ⟨q1,q2⟩
 have hfl:ys.flatten.length=xs.length * 12:=by rw [cellsF_len (fun y hy=>(h12 y hy).1),h1]
 have hcell:∀ q u,ys.flatten[q]?=some u→cur[q]?=some u:=fun q u hq=>by
  have hlt:=lt_get hq
  rw [← ht,List.getElem?_take,if_pos (by omega)] at hq
  simpa using hq
 obtain ⟨news,hnw⟩:∃ news,news=(ys.drop (i+1)).flatten:=⟨_,rfl⟩
 have hnl:news.length=(xs.length - (i+1)) * 12:=by rw [hnw,cellsF_len (fun y hy=>(h12 y (List.mem_of_mem_drop hy)).1),List.length_drop,h1]
 have hno:∀ u∈news,u.oneCell'=true:=fun u hu=>by
  rw [hnw] at hu
  obtain ⟨y,hy,hu⟩:=List.mem_flatten.1 hu
  exact (h12 y (List.mem_of_mem_drop hy)).2 u hu
 have hng:∀ q u,news[q]?=some u→cur[(i+1) * 12+q]?=some u:=fun q u hq=>by
  rw [hnw,flatten_drop12 _ _ (fun y hy=>(h12 y hy).1),List.getElem?_drop] at hq
  exact hcell _ _ hq
 have HNG:=Lib.hid hng
 have HNW:=Lib.hid hnw
 have H3:=Lib.hid h3
 have H1:=Lib.hid h1
 have HHO:=Lib.hid h12
 have HT:=Lib.hid ht
 have HSZ:=Lib.hid hsz
 have HHG:=Lib.hid hh
 have HW0:=Lib.hid hw0
 have HFL:=Lib.hid hfl
 simp only [maxLen] at hc
 generalize hN:xs.length=N at *
 have HN:=Lib.hid hN
 clear hng hnw h3 h1 h12 ht hsz hh hw0 hfl hcell hN h2
 have hiz:(i:Int)≤(N:Int):=by omega
 have hjz:(i:Int)+1≤(N:Int):=by omega
 have hi0:(0:Int)≤(i:Int):=by omega
 have hne:((i:Int) == (i:Int)+1)=false:=by simp;omega
 have hij:(i:Int)≤(i:Int)+1:=by omega
 have hNc:(N:Int)≤(cap:Int):=by omega
 have hjc:(i:Int)+1≤(cap:Int):=by omega
 have hic:(i:Int)≤(cap:Int):=by omega
 have hj0:(0:Int)≤(i:Int)+1:=by omega
 obtain ⟨i0,hinf,hz0,hz1,hz2⟩:=info_parts infoFact
 go_enter Tryz.func39,Tryz.ntmps39
 have hfz:=fun j=>objfrozen HHG.out (j:=j)
 have hgs:g < w.heap.size:=heap_lt HHG.out
 go_wp2
 by_cases hcap:i+1=cap
 case neg =>
  have hcapz:¬ (cap:Int)=(i:Int)+1:=by omega
  have hcapn:¬ cap=i+1:=by omega
  refine wp_region_held_drew (S:=(fun w':World=>Below B w w')) (by kernel_rfl) (by exact (Below.refl _ _).drew) (fun hH0=>?_)
  refine tkA (v:=?_) 0 hH0 rfl ?_ ?_;rotate_left
  ·intro w hSw;(try dsimp only at hSw);go_simp;all_goals with_reducible rfl
  try simp only [tkS,Act.put]
  refine tkA (v:=?_) 1 hH0 rfl ?_ ?_;rotate_left
  ·intro w hSw;(try dsimp only at hSw);go_simp;all_goals with_reducible rfl
  try simp only [tkS,Act.put]
  refine tkA (v:=?_) 2 hH0 rfl ?_ ?_;rotate_left
  ·intro w hSw;(try dsimp only at hSw);go_simp;all_goals with_reducible rfl
  try simp only [tkS,Act.put]
  refine tkA (v:=?_) 3 hH0 rfl ?_ ?_;rotate_left
  ·intro w hSw;(try dsimp only at hSw);go_simp;all_goals with_reducible rfl
  try simp only [tkS,Act.put]
  refine tkA (v:=?_) 4 hH0 rfl ?_ ?_;rotate_left
  ·intro w hSw;(try dsimp only at hSw);go_simp;all_goals with_reducible rfl
  try simp only [tkS,Act.put]
  refine tkA (v:=?_) 5 hH0 rfl ?_ ?_;rotate_left
  ·intro w hSw;(try dsimp only at hSw);go_simp;all_goals with_reducible rfl
  try simp only [tkS,Act.put]
  refine wpAnyH_ready (rs:=[6]) (by kernel_rfl) (by simp) ?_
  refine AllReadyH.cons (o:=_) rfl (fun K hK=>?_) AllReadyH.nil
  refine step_append_room (by rfl) _ _ 29 (by rfl) 70 i0 12 Tryz.underlying29 hinf hz1 g 0 i cap (by rfl) ⟨g,(i+1) * 12,none⟩ (N - (i+1)) (cap - (i+1)) news (by rfl) hnl ?_ hno (by omega) ?_ ?_
  ·intro q u hq
   rw [addr_add];exact objcell (show w.drew.heap[g]?=_ from HHG.out) (HNG.out q u hq)
  ·intro q hq
   obtain ⟨u,hu⟩:∃ u,cur[0+i * 12+q]?=some u:=⟨_,Array.getElem?_eq_getElem (by rw [HSZ.out];omega)⟩
   exact ⟨by rw [objcell (show w.drew.heap[g]?=_ from HHG.out) hu];rfl,objfrozen (show w.drew.heap[g]?=_ from HHG.out)⟩
  have hb1:Below B w (w.drew.setCells g (0+i * 12) news):=below_setCellsO hg news (0+i * 12) w w.drew (Below.refl _ _).drew
  have hg1:=setCells_obj g news (0+i * 12) w.drew cur (show w.drew.heap[g]?=_ from HHG.out)
  refine hK.out _ _ ?_ (fun hH1=>?_)
  ·exact hb1
  try simp only [tkS,Act.put]
  clear hK K hH0
  refine tkA (v:=?_) 7 hH1 rfl ?_ ?_;rotate_left
  ·intro w hSw;(try dsimp only at hSw);go_simp;all_goals with_reducible rfl
  try simp only [tkS,Act.put]
  refine wpAnyH_done (by kernel_rfl) ?_ _
  generalize hM:i+(N - (i+1))=M at *
  have hMN:M+1=N:=by omega
  have hHeap:Hid ((w.drew.setCells g (0+i * 12) news).heap[g]?=some (.cells (putMany cur (0+i * 12) news) 70 (0,0))):=hg1
  have HB1:=Lib.hid hb1
  generalize (w.drew.setCells g (0+i * 12) news)=w1 at *
  have hMz:(M:Int)≤(N:Int):=by omega
  have hM0:(0:Int)≤(M:Int):=by omega
  have hNc2:(N:Int)≤(cap:Int):=by omega
  have hcM:¬ (cap:Int)=(M:Int):=by omega
  have hcM2:¬ cap=M:=by omega
  have hgs1:g < w1.heap.size:=heap_lt hHeap.out
  obtain ⟨zs,hzs⟩:∃ zs,(Builtin.zeroCells faV0.cells (N - M)).toList=zs:=⟨_,rfl⟩
  have hzl:zs.length=12:=by rw [← hzs,zeroCells_len,show N - M=1 by omega];rfl
  have hzo:∀ v∈zs,v.oneCell'=true:=fun v hv=>zeroCells_mem (z:=faV0.cells) (by decide) (by intro v hv;simp [faV0,Value.cells] at hv;rcases hv with rfl | rfl | rfl | rfl | rfl | rfl | rfl <;> rfl) (by rw [hzs];exact hv)
  have hps:(putMany cur (0+i * 12) news).size=cap * 12:=by rw [putMany_size,HSZ.out]
  have hclear:∀ ty,(Builtin.clear_ #[29] ty #[.slice (some ⟨g,M * 12,none⟩) (N - M) (cap - M)]).run Tryz.prog w1=.ok (.tuple #[]) (w1.setCells g (M * 12) zs):=fun ty =>
   run_clear_k w1 29 70 ty faV0 Tryz.underlying29 zeroFa zs g (M * 12) (N - M) (cap - M) (by omega) hzs hzo (fun q hq=>by
    rw [objcell hHeap.out (Array.getElem?_eq_getElem (by rw [hps];omega))];rfl) (fun q hq=>objfrozen hHeap.out)
  have hb2:Below B w (w1.setCells g (M * 12) zs):=below_setCellsO hg zs (M * 12) w w1 HB1.out
  have hg2:=setCells_obj g zs (M * 12) w1 _ hHeap.out
  have hlen:(xs.eraseIdx i).length=M:=by rw [List.length_eraseIdx,if_pos (by rw [HN.out];exact hi),HN.out];omega
  have hyl:(ys.eraseIdx i).length=(xs.eraseIdx i).length:=by rw [List.length_eraseIdx,List.length_eraseIdx,H1.out,HN.out]
  have hye:(ys.eraseIdx i).flatten=ys.flatten.take (i * 12)++news:=by
   rw [List.eraseIdx_eq_take_drop_succ,List.flatten_append,flatten_take12 _ _ (fun y hy=>(HHO.out y hy).1),HNW.out]
  have hcl:i * 12+news.length=M * 12:=by omega
  have htk:(putMany (putMany cur (0+i * 12) news) (M * 12) zs).toList.take (M * 12)=(ys.eraseIdx i).flatten:=by
   rw [hye]
   refine List.ext_getElem? fun k=>?_
   rw [List.getElem?_take]
   by_cases hk:k < M * 12
   ·rw [if_pos hk,Array.getElem?_toList,putMany_get _ _ _ _ (by rw [hps];omega),if_neg (by omega),putMany_get _ _ _ _ (by rw [HSZ.out];omega),Nat.zero_add]
    by_cases hk2:k < i * 12
    ·rw [if_neg (by omega),List.getElem?_append_left (by rw [List.length_take,HFL.out];omega),List.getElem?_take,if_pos hk2,← HT.out,List.getElem?_take,if_pos (by omega),Array.getElem?_toList]
    ·rw [if_pos (by omega),List.getElem?_append_right (by rw [List.length_take,HFL.out];omega),List.length_take,HFL.out,Nat.min_eq_left (by omega)]
   ·rw [if_neg hk,List.getElem?_eq_none (by rw [List.length_append,List.length_take,HFL.out];omega)]
  have hown:(w1.setCells g (M * 12) zs).ownsRow B 70 12 (.slice (some ⟨g,0,none⟩) M cap) (xs.eraseIdx i).length (ys.eraseIdx i).flatten:=by
   refine ⟨by rw [hye,List.length_append,List.length_take,HFL.out,hlen];omega,.inr ⟨g,cap,_,by rw [hlen],hg,hg2,by rw [hlen];omega,by simp only [maxLen];omega,by rw [putMany_size,hps],by rw [hlen];exact htk⟩⟩
  have HFIN:Hid (Is (w1.setCells g (M * 12) zs) (.slice (some ⟨g,0,none⟩) M cap) (xs.eraseIdx i)):=row_is hyl hown (fun k y x hy hx=>by
   rw [List.getElem?_eraseIdx] at hy hx
   have hbw:Below w0.heap.size w0 (w1.setCells g (M * 12) zs):=HW0.out.trans (hb2.mono hB0)
   split at hy
   ·rename_i hq
    rw [if_pos hq] at hx
    obtain ⟨e1,-,e3⟩:=H3.out k y x hy hx
    exact ⟨e1,e3 _ hbw⟩
   ·rename_i hq
    rw [if_neg hq] at hx
    obtain ⟨e1,-,e3⟩:=H3.out (k+1) y x hy hx
    exact ⟨e1,e3 _ hbw⟩)
  have HB2:=Lib.hid hb2
  clear hown htk hcl hye hyl hlen hg2 hb2 hps hzo hzl hzs hb1 hg1 hH1 hM
  go_wp2_with fail
  go_ret
  exact ⟨_,rfl,HFIN.out,HB2.out⟩
 case pos =>
  subst hcap
  obtain rfl:N=i+1:=by omega
  have HNN:Hid (news=[]):=List.length_eq_zero_iff.1 (by omega)
  refine wp_region_held_drew (S:=(fun w':World=>Below B w w')) (by kernel_rfl) (by exact (Below.refl _ _).drew) (fun hH0=>?_)
  refine tkA (v:=?_) 0 hH0 rfl ?_ ?_;rotate_left
  ·intro w hSw;(try dsimp only at hSw);go_simp;all_goals with_reducible rfl
  try simp only [tkS,Act.put]
  refine tkA (v:=?_) 1 hH0 rfl ?_ ?_;rotate_left
  ·intro w hSw;(try dsimp only at hSw);go_simp;all_goals with_reducible rfl
  try simp only [tkS,Act.put]
  refine tkA (v:=?_) 2 hH0 rfl ?_ ?_;rotate_left
  ·intro w hSw;(try dsimp only at hSw);go_simp;all_goals with_reducible rfl
  try simp only [tkS,Act.put]
  refine tkA (v:=?_) 3 hH0 rfl ?_ ?_;rotate_left
  ·intro w hSw;(try dsimp only at hSw);go_simp;all_goals with_reducible rfl
  try simp only [tkS,Act.put]
  refine tkA (v:=?_) 4 hH0 rfl ?_ ?_;rotate_left
  ·intro w hSw;(try dsimp only at hSw);go_simp;all_goals with_reducible rfl
  try simp only [tkS,Act.put]
  refine tkA (v:=?_) 5 hH0 rfl ?_ ?_;rotate_left
  ·intro w hSw;(try dsimp only at hSw);go_simp;all_goals with_reducible rfl
  try simp only [tkS,Act.put]
  refine wpAnyH_ready (rs:=[6]) (by kernel_rfl) (by simp) ?_
  refine AllReadyH.cons (o:=_) rfl (fun K hK=>?_) AllReadyH.nil
  refine step_append_room (by rfl) _ _ 29 (by rfl) 70 i0 12 Tryz.underlying29 hinf hz1 g 0 i (i+1) (by rfl) ⟨g,0,none⟩ 0 0 [] (by rfl) rfl (by intro q u hq;simp at hq) (by simp) (by omega) (by intro q hq;simp at hq) ?_
  refine hK.out _ _ ?_ (fun hH1=>?_)
  ·exact (Below.refl _ _).drew
  try simp only [tkS,Act.put]
  clear hK K hH0
  refine tkA (v:=?_) 7 hH1 rfl ?_ ?_;rotate_left
  ·intro w hSw;(try dsimp only at hSw);go_simp;all_goals with_reducible rfl
  try simp only [tkS,Act.put]
  refine wpAnyH_done (by kernel_rfl) ?_ _
  have hHeap:Hid (w.drew.heap[g]?=some (.cells cur 70 (0,0))):=HHG.out
  have HB1:Hid (Below B w w.drew):=(Below.refl _ _).drew
  show Exit.then _ _ _ _ w.drew
  generalize w.drew=w1 at *
  have hgs1:g < w1.heap.size:=heap_lt hHeap.out
  obtain ⟨zs,hzs⟩:∃ zs,(Builtin.zeroCells faV0.cells 1).toList=zs:=⟨_,rfl⟩
  have hzl:zs.length=12:=by rw [← hzs,zeroCells_len];rfl
  have hzo:∀ v∈zs,v.oneCell'=true:=fun v hv=>zeroCells_mem (z:=faV0.cells) (by decide) (by intro v hv;simp [faV0,Value.cells] at hv;rcases hv with rfl | rfl | rfl | rfl | rfl | rfl | rfl <;> rfl) (by rw [hzs];exact hv)
  have hps:cur.size=(i+1) * 12:=HSZ.out
  have hclear:∀ ty,(Builtin.clear_ #[29] ty #[.slice (some ⟨g,i * 12,none⟩) 1 1]).run Tryz.prog w1=.ok (.tuple #[]) (w1.setCells g (i * 12) zs):=fun ty =>
   run_clear_k w1 29 70 ty faV0 Tryz.underlying29 zeroFa zs g (i * 12) 1 1 (by omega) hzs hzo (fun q hq=>by
    rw [objcell hHeap.out (Array.getElem?_eq_getElem (by rw [hps];omega))];rfl) (fun q hq=>objfrozen hHeap.out)
  have hb2:Below B w (w1.setCells g (i * 12) zs):=below_setCellsO hg zs (i * 12) w w1 HB1.out
  have hg2:=setCells_obj g zs (i * 12) w1 _ hHeap.out
  have hlen:(xs.eraseIdx i).length=i:=by rw [List.length_eraseIdx,if_pos (by rw [HN.out];exact hi),HN.out];omega
  have hyl:(ys.eraseIdx i).length=(xs.eraseIdx i).length:=by rw [List.length_eraseIdx,List.length_eraseIdx,H1.out,HN.out]
  have hye:(ys.eraseIdx i).flatten=ys.flatten.take (i * 12):=by
   rw [List.eraseIdx_eq_take_drop_succ,List.flatten_append,flatten_take12 _ _ (fun y hy=>(HHO.out y hy).1),← HNW.out,HNN.out,List.append_nil]
  have htk:(putMany cur (i * 12) zs).toList.take (i * 12)=(ys.eraseIdx i).flatten:=by
   rw [hye]
   refine List.ext_getElem? fun k=>?_
   rw [List.getElem?_take]
   by_cases hk:k < i * 12
   ·rw [if_pos hk,Array.getElem?_toList,putMany_get _ _ _ _ (by rw [hps];omega),if_neg (by omega),List.getElem?_take,if_pos hk,← HT.out,List.getElem?_take,if_pos (by omega),Array.getElem?_toList]
   ·rw [if_neg hk,List.getElem?_eq_none (by rw [List.length_take,HFL.out];omega)]
  have hown:(w1.setCells g (i * 12) zs).ownsRow B 70 12 (.slice (some ⟨g,0,none⟩) i (i+1)) (xs.eraseIdx i).length (ys.eraseIdx i).flatten:=by
   refine ⟨by rw [hye,List.length_take,HFL.out,hlen];omega,.inr ⟨g,i+1,_,by rw [hlen],hg,hg2,by rw [hlen];omega,by simp only [maxLen];omega,by rw [putMany_size,hps],by rw [hlen];exact htk⟩⟩
  have HFIN:Hid (Is (w1.setCells g (i * 12) zs) (.slice (some ⟨g,0,none⟩) i (i+1)) (xs.eraseIdx i)):=row_is hyl hown (fun k y x hy hx=>by
   rw [List.getElem?_eraseIdx] at hy hx
   have hbw:Below w0.heap.size w0 (w1.setCells g (i * 12) zs):=HW0.out.trans (hb2.mono hB0)
   split at hy
   ·rename_i hq
    rw [if_pos hq] at hx
    obtain ⟨e1,-,e3⟩:=H3.out k y x hy hx
    exact ⟨e1,e3 _ hbw⟩
   ·rename_i hq
    rw [if_neg hq] at hx
    obtain ⟨e1,-,e3⟩:=H3.out (k+1) y x hy hx
    exact ⟨e1,e3 _ hbw⟩)
  have HB2:=Lib.hid hb2
  clear hown htk hye hyl hlen hg2 hb2 hps hzo hzl hzs hH1
  go_wp2_with fail
  go_ret
  exact ⟨_,rfl,HFIN.out,HB2.out⟩
end Go.Proofs.YtcbopdbbcgdkcaaGreatDoor
namespace Go.Proofs.YtcbopdbbcgdkcaaGreatDoor
open Go Go.RowKit Go.ChangeShapes Go.Lib Go.Shelf

theorem mk_strs2 (L:Nat) (hL:L≤2000000) (W:World):(Instr.makeSlice 36 (.int .i64 (L:Int)) (.int .i64 (L:Int))).run Tryz.prog W=.ok (.slice (some ⟨W.heap.size,0,none⟩) L L) (W.alloc (.cells (Array.replicate L (Value.string ByteArray.empty)) 9)):=by
 obtain ⟨i0,hi,hz0,hz1,hz2⟩:=info_parts strRow
 have h:=run_make (P:=Tryz.prog) W 36 9 i0 _ Tryz.underlying36 hi hz0 .i64 .i64 L L (by omega) (Int.le_refl _) (by rw [hz2];omega) (by omega)
 rw [h,hz1]
 have e:madeCells #[Value.string ByteArray.empty] L=Array.replicate L (Value.string ByteArray.empty):=by
  apply Array.toList_inj.1
  rw [toList_madeCells_one,Array.toList_replicate]
 show Result.ok (Value.slice (some ⟨W.heap.size,0,none⟩) (L:Int).toNat (L:Int).toNat) (W.alloc (.cells (madeCells #[Value.string ByteArray.empty] ((L:Int).toNat * 1)) 9))=_
 rw [Int.toNat_natCast,Nat.mul_one,e]
theorem zero_strs2 {w:World} {n gB:Nat} (hl:n≤maxLen) (hB:w.heap[gB]?=some (.cells (Array.replicate n (Value.string ByteArray.empty)) 9 (0,0))):Is w (.slice (some ⟨gB,0,none⟩) n n) (List.replicate n ByteArray.empty):=by
 have h1:Is w (.slice (some ⟨gB,0,none⟩) (List.replicate n ByteArray.empty).length n) (List.replicate n ByteArray.empty):=by
  refine list_mk (by simp) hl fun j t ht=>⟨gB,0,rfl,?_,?_⟩
  ·rcases Nat.lt_or_ge gB w.heap.size with h | h
   ·exact h
   ·rw [Array.getElem?_eq_none h] at hB;cases hB
  ·have hj:j < n:=by have:=lt_get ht;simpa using this
   rw [List.getElem?_replicate,if_pos hj] at ht
   cases ht
   exact ⟨objcell hB (by show _[0+(j * 1+0)]?=_;rw [Nat.mul_one,Nat.add_zero,Nat.zero_add,Array.getElem?_replicate,if_pos hj]),by decide⟩
 rw [List.length_replicate] at h1
 exact h1
theorem alt_heap {w1 w2:World} (hh:w1.heap=w2.heap) {get:Nat→Option Value} {x:List Term} (h:Lay.is w1 get x):Lay.is w2 get x:=by
 cases w1;cases w2
 simp only at hh
 subst hh
 exact h
theorem alt_agree {B:Nat} {E:TypeId→Prop} {w0 w w':World} (hb:Below w0.heap.size w0 w) (hB:w0.heap.size≤B) (hA:Agree B E w w') {get:Nat→Option Value} {x:List Term} (h:Lay.is w0 get x):Lay.is w' get x:=by
 have h1:Below w0.heap.size w0 { w0 with heap:=w'.heap }:=⟨rfl,rfl,rfl,Nat.le_trans hb.size hA.1,fun k hk=>by
  show w'.heap[k]?=_
  rw [hA.2 k (Nat.lt_of_lt_of_le hk hb.size) (.inl (by omega))]
  exact hb.block k hk⟩
 exact alt_heap (w1:={ w0 with heap:=w'.heap }) rfl (Lay.mono h1 h)
theorem wpo_appAl {o:Oper} {a:Act} {K:Act→World→Prop} {Q:Exit→Act→World→Prop} {w:World} (s x:Operand)
  (ho:o.op=.call { callee:=.builtin .append,args:=#[s,x],argTypes:=#[41,41] })
  (B:Nat) (v u:Value) (xs:List (List Term)) (y:List Term) (g:Nat) (hs:a.eval s=v) (hx:a.eval x=.slice (some ⟨g,0,none⟩) 1 1) (hg:w.cell? ⟨g,0,none⟩=some u)
  (hown:OwnL B (fun _=>True) 59 w v xs) (hy:∀ w'',Agree B (fun _=>True) w w''→Lay.is w'' (fun j=>[u][j]?) y) (h1:u.oneCell'=true) (hb:xs.length≤1000000000) (hB:B≤w.heap.size)
  (h:∀ v' w',OwnL B (fun _=>True) 59 w' v' (xs++[y])→Below B w w'→Agree B (·=59) w w'→K (a.put o.dst v') w'):o.wp Tryz.prog a w K Q:=by
 obtain ⟨i0,hi,hz0,hz1,hz2⟩:=info_parts altRow
 obtain ⟨cs,hrow⟩:=hown.row
 refine wp_append_own w s x 41 ho B 59 i0 _ 1 24 Tryz.underlying41 hi hz0 hz1 hz2 rfl (by decide) v xs.length cs hs hrow ⟨g,0,none⟩ 1 1 [u] hx rfl ?_ ?_ ?_ ?_ hB ?_
 ·intro j q hj
  match j,hj with
  | 0,hj=>simp at hj;subst hj;exact hg
  | j+1,hj=>simp at hj
 ·intro q hq;simp at hq;subst hq;exact h1
 ·unfold maxLen;omega
 ·omega
 ·intro v' w' h2 h3 h4
  refine h v' w' (OwnL.snoc trivial hown (Below.refl _ _) rfl hy h3 fun cs2 h5=>?_) ((Below.refl _ _).app h3 (by omega) hrow) (Agree.app (E:=(·=59)) rfl hrow h3)
  rw [OwnL.row_unique hrow h5] at h2
  exact h2
theorem outs_le (c:Catalog):∀ (x:List Fact) (ts:List (List (List Term))) (os:List ByteArray),(valsF c ts os x).2.1.length≤os.length+x.length
 | [],ts,os=>by simp [valsF]
 | f :: r,ts,os=>by
  rw [valsF,List.length_cons]
  split
  ·split
   ·have:=outs_le c r (ts++[(ofP c f.expr).1]) os;omega
   ·simp
  ·split
   ·have:=outs_le c r ts (os++[f.output]);rw [List.length_append] at this;simp at this;omega
   ·have:=outs_le c r ts os;omega
theorem values_outs (c:Catalog) (x:List Fact):(valuesC c x).2.1.length≤x.length:=by
 unfold valuesC
 split
 ·have:=outs_le c x [] [];simpa using this
 ·simp
end Go.Proofs.YtcbopdbbcgdkcaaGreatDoor
namespace Go.Proofs.YtcbopdbbcgdkcaaGreatDoor
open Go Go.RowKit Go.ChangeShapes Go.Lib Go.Shelf

set_option maxRecDepth 100000 in
theorem Fw1_p (W:World) (g:Nat) (vl v:Value) (l:List Due) (d:Due) (hc:W.cell? ⟨g,0,none⟩=some vl) (hl:Is W vl l) (hv:Is W v d) :
  Calls Tryz.prog 42 (#[v]++#[.pointer (some ⟨g,0,none⟩)]) W fun e w'=>e=.returned (.bool (!decide (d∈l)))∧Below W.heap.size W w':=by
 obtain ⟨o1,m1,⟨t1,s1⟩,p1,r1,v1⟩:=d
 obtain ⟨rfl,hk⟩:=Due.inv hv
 obtain ⟨a,c,rfl,-⟩:=list_inv hl
 have hs:=cell_lt hc
 have hba:Below W.heap.size W (W.alloc (.cells #[.string o1,.string m1,.string t1,.string s1,.int .i64 p1,.int .i64 r1,.int .i64 v1] 63)):=(Below.refl _ _).alloc (Nat.le_refl _) _
 have hcall:=ContainsDue_p (W.alloc (.cells #[.string o1,.string m1,.string t1,.string s1,.int .i64 p1,.int .i64 r1,.int .i64 v1] 63)) _ l ⟨o1,m1,⟨t1,s1⟩,p1,r1,v1⟩ (hl.mono hba) hk
 have hc2:=kept hba hc
 have HBA:=Lib.hid hba
 clear hl hv hk hba
 generalize decide ((⟨o1,m1,⟨t1,s1⟩,p1,r1,v1⟩:Due)∈l)=R at *
 generalize l.length=LL at *
 go_enter Tryz.func42,Tryz.ntmps42
 go_wp2_with fail
 refine hcall.mono ?_
 rintro e w1 ⟨rfl,hb1⟩
 clear hcall
 go_wp2
 go_ret
 exact ⟨rfl,HBA.out.trans (hb1.mono HBA.out.size)⟩
theorem few_less {c:Catalog} {x:List Fact} (h:FewX c x) (i:Nat):FewX c (x.eraseIdx i) :=
 ⟨h.1,h.2.1,Nat.le_trans (List.length_eraseIdx_le ..) h.2.2.1,fun f hf=>h.2.2.2 f (List.mem_of_mem_eraseIdx hf)⟩
theorem licN_len (x:List Fact):licN x≤x.length:=List.length_filter_le _ _
set_option maxRecDepth 100000 in
set_option maxHeartbeats 16000000 in
theorem DutyFewer_p (w:World) (vc vx:Value) (c:Catalog) (x:List Fact) (n mo:Int) (hg:Glob w) (hc:Is w vc c) (h:Is w vx x) (hn:(Lit.int .u16 n).wf=true) (hm8:(Lit.int .u8 mo).wf=true) (hok:∀ f∈x,okF f) :
  Calls Tryz.prog 9 #[vc,vx,.int .u16 n,.int .u8 mo] w fun e w'=>e=.returned (.bool true)∧Below w.heap.size w w':=by
 have hn1:=u16_range hn
 obtain ⟨nn,rfl⟩:∃ nn:Nat,n=nn:=⟨n.toNat,by omega⟩
 have hn2:nn≤65535:=by omega
 clear hn1 hn
 have HG:=Lib.hid hg
 have HX:=Lib.hid h
 have HC:=Lib.hid hc
 have HOK:=Lib.hid hok
 obtain ⟨a0,c0,a1,c1,a2,c2,a3,c3,rfl,-⟩:=Catalog.inv hc
 obtain ⟨ax,nx,rfl,hnx,hmx,hr⟩:=list_inv h
 simp only [maxLen] at hmx
 have hm':x.length≤9223372036854775807:=by omega
 have HR:=Lib.hid hr
 have hba:Below w.heap.size w (w.alloc (.cells #[.slice a0 c.licenses.length c0,.slice a1 c.exceptions.length c1,.slice a2 c.clauses.length c2,.slice a3 c.apart.length c3] 27)):=(Below.refl _ _).alloc (Nat.le_refl _) _
 have hcall:=awakeD_p (w.alloc (.cells #[.slice a0 c.licenses.length c0,.slice a1 c.exceptions.length c1,.slice a2 c.clauses.length c2,.slice a3 c.apart.length c3] 27)) (hg.mono hba)
 have HBA:=Lib.hid hba
 generalize hL:x.length=L at *
 have HL:=Lib.hid hL
 generalize hN0:c.licenses.length=N0 at *
 have HN0:=Lib.hid hN0
 generalize c.exceptions.length=N1 at *
 generalize hN2:c.clauses.length=N2 at *
 have HN2:=Lib.hid hN2
 generalize c.apart.length=N3 at *
 clear h hr hc hok hnx hmx hL hba hN0 hN2 hg
 go_enter Tryz.func9,Tryz.ntmps9
 go_wp2_with fail
 refine hcall.mono ?_
 rintro e w1 ⟨rfl,hb1⟩
 clear hcall
 have d0:=kept hb1 (a:=⟨w.heap.size,0,none⟩) (v:=.slice a0 N0 c0) (by simp)
 have d1:=kept hb1 (a:=⟨w.heap.size,1,none⟩) (v:=.slice a1 N1 c1) (by simp)
 have d2:=kept hb1 (a:=⟨w.heap.size,2,none⟩) (v:=.slice a2 N2 c2) (by simp)
 have d3:=kept hb1 (a:=⟨w.heap.size,3,none⟩) (v:=.slice a3 N3 c3) (by simp)
 have hs1:w.heap.size < w1.heap.size:=cell_lt d0
 have HB1:Hid (Below w.heap.size w w1):=Lib.hid (HBA.out.trans (hb1.mono (by simp)))
 clear hb1 HBA
 go_wp2_with fail
 refine (FewD_ref w1 _ _ c x (HC.out.mono HB1.out) (HX.out.mono HB1.out) HOK.out).mono ?_
 rintro e w2 ⟨fb,rfl,hfx,hb2⟩
 have HFX:=Lib.hid hfx
 have HB2:Hid (Below w.heap.size w w2):=Lib.hid (HB1.out.trans (hb2.mono HB1.out.size))
 cases fb
 case false =>
  clear hb2 hfx d0 d1 d2 d3
  go_wp2
  go_ret
  exact ⟨rfl,HB2.out⟩
 have HFW:=Lib.hid (HFX.out rfl)
 have HFIT:=Lib.hid HFW.out.fits
 have d0:=kept hb2 d0
 have d1:=kept hb2 d1
 have d2:=kept hb2 d2
 have d3:=kept hb2 d3
 have hs2:w.heap.size < w2.heap.size:=cell_lt d0
 clear hb2 hfx hs1 HB1 HFX
 by_cases hL0:L=0
 ·have hLt:((L:Int) == 0)=true:=by simp [hL0]
  clear hL0
  go_wp2
  go_ret
  exact ⟨rfl,HB2.out⟩
 have hLf:((L:Int) == 0)=false:=by simp;omega
 have hLp:0 < L:=by omega
 go_wp2_with fail
 refine (Count_p w2 _ _ c x (HG.out.mono HB2.out) (HC.out.mono HB2.out) (HX.out.mono HB2.out) HFIT.out (by have:=HFW.out.1;omega)).mono ?_
 have HNTH:=Lib.hid (fun (n:Nat) h1 h2=>nth_ok (c:=c) (x:=x) (n:=n) h1 h2)
 have HCR:=Lib.hid (count_nat c x)
 generalize countC c x=cn at *
 obtain ⟨cn1,cn2⟩:=cn
 simp only at HNTH HCR
 rintro e w3 ⟨rfl,hb3⟩
 have d0:=kept hb3 d0
 have d1:=kept hb3 d1
 have d2:=kept hb3 d2
 have d3:=kept hb3 d3
 have hs3:w.heap.size < w3.heap.size:=cell_lt d0
 have HB3:Hid (Below w.heap.size w w3):=Lib.hid (HB2.out.trans (hb3.mono HB2.out.size))
 clear hb3 hs2 HB2
 cases q:(cn2 == 0)
 case false =>
  have q':(cn2 != 0)=true:=by rw [show (cn2 != 0)=!(cn2 == 0) from rfl,q];rfl
  clear q HNTH HCR
  go_wp2
  go_ret
  exact ⟨rfl,HB3.out⟩
 have q':(cn2 != 0)=false:=by rw [show (cn2 != 0)=!(cn2 == 0) from rfl,q];rfl
 have q0:cn2=0:=by simpa using q
 subst q0
 obtain ⟨mm,rfl,hmm⟩:=HCR.out
 by_cases qm:mm=0
 ·subst qm
  clear q HNTH HCR
  go_wp2
  go_ret
  exact ⟨rfl,HB3.out⟩
 have qmf:((mm:Int) == 0)=false:=by simp;omega
 have hmp:0 < mm:=by omega
 obtain ⟨kk,hkk⟩:∃ kk:Nat,kk=nn % mm:=⟨_,rfl⟩
 have hkm:kk < mm:=by rw [hkk];exact Nat.mod_lt _ hmp
 have hrem:((nn:Int)).tmod (mm:Int)=(kk:Int):=by rw [hkk];exact (Int.ofNat_tmod nn mm).symm
 have hmz:¬ (mm:Int)=0:=by omega
 have hwrap:IntKind.i64.wrap (nn:Int)=(nn:Int):=by rw [IntKind.wrap_i64];omega
 obtain ⟨HN1',HN2'⟩:=HNTH.out kk rfl (by show (kk:Int) < (mm:Int);omega)
 have HNT:=Lib.hid HN2'
 have HNE:=Lib.hid HN1'
 have D0:=Lib.hid d0
 have D1:=Lib.hid d1
 have D2:=Lib.hid d2
 have D3:=Lib.hid d3
 have hcall:=fun W (hb:Below w3.heap.size w3 W)=>Nth_is W _ _ c x kk (HG.out.mono (HB3.out.trans (hb.mono HB3.out.size))) (HC.out.mono (HB3.out.trans (hb.mono HB3.out.size))) (HX.out.mono (HB3.out.trans (hb.mono HB3.out.size))) HFIT.out (by have:=HFW.out.1;omega)
 unfold NI at hcall
 rw [HN1'] at hcall
 generalize hY:(nthC c x kk).1=y at *
 have HCALL:=Lib.hid hcall
 clear q HNTH HCR HN1' HN2' hY hkk d0 d1 d2 d3 hcall HNE
 go_upto_region 8 with (fail)
 go_cut [10,11] (fun v8 v9 wx=>∃ (g:Nat) (a4:Option Addr) (c4:Nat) (a5:Option Addr) (c5:Nat),v8=.int .i64 0∧v9=.pointer (some ⟨g,0,none⟩)∧Hid (w3.heap.size≤g)∧Hid (wx.cell? ⟨g,0,none⟩=some (.slice a4 y.terms.length c4))∧Hid (wx.cell? ⟨g,1,none⟩=some (.slice a5 y.own.length c5))∧Hid (Is wx (.agg #[.slice a4 y.terms.length c4,.slice a5 y.own.length c5]) y)∧Hid (Below w3.heap.size w3 wx))
 case first =>
  refine wp_region_held_drew (S:=(fun w':World=>Below w3.heap.size w3 w')) (by kernel_rfl) (by exact bw) (fun hH0=>?_)
  generalize w3.drew=wd at *
  refine tkA (v:=?_) 0 hH0 rfl ?_ ?_;rotate_left
  ·intro w hSw;(try dsimp only at hSw);have d0:=kept hSw D0.out;have d1:=kept hSw D1.out;have d2:=kept hSw D2.out;have d3:=kept hSw D3.out;go_simp;all_goals with_reducible rfl
  try simp only [tkS,Act.put]
  refine tkA (v:=?_) 1 hH0 rfl ?_ ?_;rotate_left
  ·intro w hSw;(try dsimp only at hSw);go_simp;all_goals with_reducible rfl
  try simp only [tkS,Act.put]
  refine tkA (v:=?_) 2 hH0 rfl ?_ ?_;rotate_left
  ·intro w hSw;(try dsimp only at hSw);go_simp;all_goals with_reducible rfl
  try simp only [tkS,Act.put]
  refine tkA (v:=?_) 3 hH0 rfl ?_ ?_;rotate_left
  ·intro w hSw;(try dsimp only at hSw);go_simp;(try rw [hwrap]);all_goals with_reducible rfl
  try simp only [tkS,Act.put]
  refine tkA (v:=?_) 4 hH0 rfl ?_ ?_;rotate_left
  ·intro w hSw;(try dsimp only at hSw);go_simp;all_goals with_reducible rfl
  try simp only [tkS,Act.put]
  refine tkA (v:=?_) 5 hH0 rfl ?_ ?_;rotate_left
  ·intro w hSw;(try dsimp only at hSw);go_simp;(try rw [hrem]);all_goals with_reducible rfl
  try simp only [tkS,Act.put]
  refine wpAnyH_ready (rs:=[6,10]) (by kernel_rfl) (by simp) ?_
  refine AllReadyH.cons (o:=_) rfl (fun K hK=>?_) (AllReadyH.cons (o:=_) rfl (fun K hK=>?_) AllReadyH.nil)
  ·go_simp
   go_at_call 22
   refine (HCALL.out _ hH0).mono ?_
   rintro e w5 ⟨a4,c4,a5,c5,rfl,hch,hb⟩
   have hbb:Below w3.heap.size w3 w5:=hH0.trans (hb.mono hH0.size)
   go_wp2_with fail
   refine hK.out _ _ ?_ (fun hH1=>?_)
   ·exact hbb
   try simp only [tkS,Act.put]
   clear hK K
   refine tkA (v:=?_) 7 hH1 rfl ?_ ?_;rotate_left
   ·intro w hSw;(try dsimp only at hSw);go_simp;all_goals with_reducible rfl
   try simp only [tkS,Act.put]
   refine tkA (v:=?_) 8 hH1 rfl ?_ ?_;rotate_left
   ·intro w hSw;(try dsimp only at hSw);go_simp;all_goals with_reducible rfl
   try simp only [tkS,Act.put]
   refine tkA (v:=?_) 9 hH1 rfl ?_ ?_;rotate_left
   ·intro w hSw;(try dsimp only at hSw);go_simp;all_goals with_reducible rfl
   try simp only [tkS,Act.put]
   refine wpAnyH_ready (rs:=[10]) (by kernel_rfl) (by simp) ?_
   refine AllReadyH.cons (o:=_) rfl (fun K hK=>?_) AllReadyH.nil
   go_simp
   have hbA:Below w5.heap.size w5 (w5.alloc (.cells #[.slice none 0 0,.slice none 0 0] 43)):=(Below.refl _ _).alloc (Nat.le_refl _) _
   have hOA:=World.alloc_heap_new w5 (.cells #[.slice none 0 0,.slice none 0 0] 43)
   have hbA2:Below w3.heap.size w3 (w5.alloc (.cells #[.slice none 0 0,.slice none 0 0] 43)):=hbb.alloc hbb.size _
   go_wp2_with fail
   refine hK.out _ _ ?_ (fun hH2=>?_)
   ·exact hbA2
   try simp only [tkS,Act.put]
   clear hK K
   have hge:w3.heap.size≤w5.heap.size:=hbb.size
   refine wpAnyH_ready (rs:=[11]) (by kernel_rfl) (by simp) ?_
   refine AllReadyH.cons (o:=_) rfl (fun K hK=>?_) AllReadyH.nil
   go_simp
   have hb6:Below w3.heap.size w3 (w5.alloc (.cells #[.slice a4 y.terms.length c4,.slice a5 y.own.length c5] 43)):=hbb.alloc hbb.size _
   have hyy:Is (w5.alloc (.cells #[.slice a4 y.terms.length c4,.slice a5 y.own.length c5] 43)) (.agg #[.slice a4 y.terms.length c4,.slice a5 y.own.length c5]) y:=(hch.below ((Below.refl _ _).alloc (Nat.le_refl _) _)).is
   have z0:((w5.alloc (.cells #[.slice a4 y.terms.length c4,.slice a5 y.own.length c5] 43))).cell? ⟨w5.heap.size,0,none⟩=some (.slice a4 y.terms.length c4):=by simp
   have z1:((w5.alloc (.cells #[.slice a4 y.terms.length c4,.slice a5 y.own.length c5] 43))).cell? ⟨w5.heap.size,1,none⟩=some (.slice a5 y.own.length c5):=by simp
   go_wp2_with fail
   refine hK.out _ _ ?_ (fun hH3=>?_)
   ·exact hb6
   try simp only [tkS,Act.put]
   clear hK K
   generalize (w5.alloc (.cells #[.slice a4 y.terms.length c4,.slice a5 y.own.length c5] 43))=w6 at *
   refine tkA (v:=?_) 12 hH3 rfl ?_ ?_;rotate_left
   ·intro w hSw;(try dsimp only at hSw);go_simp;all_goals with_reducible rfl
   try simp only [tkS,Act.put]
   refine wpAnyH_done (by kernel_rfl) ?_ _
   go_wp2_with fail
   go_meet
   case rel=>exact ⟨w5.heap.size,a4,c4,a5,c5,rfl,rfl,Lib.hid hge,Lib.hid z0,Lib.hid z1,Lib.hid hyy,Lib.hid hb6⟩
  ·go_simp
   have hbA:Below wd.heap.size wd (wd.alloc (.cells #[.slice none 0 0,.slice none 0 0] 43)):=(Below.refl _ _).alloc (Nat.le_refl _) _
   have hOB:=World.alloc_heap_new wd (.cells #[.slice none 0 0,.slice none 0 0] 43)
   have hbA2:Below w3.heap.size w3 (wd.alloc (.cells #[.slice none 0 0,.slice none 0 0] 43)):=hH0.alloc hH0.size _
   have hge:w3.heap.size≤wd.heap.size:=hH0.size
   have hlt:wd.heap.size < (wd.alloc (.cells #[.slice none 0 0,.slice none 0 0] 43)).heap.size:=by simp
   go_wp2_with fail
   refine hK.out _ _ ?_ (fun hH1=>?_)
   ·exact hbA2
   try simp only [tkS,Act.put]
   clear hK K
   generalize (wd.alloc (.cells #[.slice none 0 0,.slice none 0 0] 43))=wA at *
   generalize wd.heap.size=gA at *
   clear hbA hH0
   refine wpAnyH_ready (rs:=[6]) (by kernel_rfl) (by simp) ?_
   refine AllReadyH.cons (o:=_) rfl (fun K hK=>?_) AllReadyH.nil
   go_simp
   go_at_call 22
   refine (HCALL.out _ hH1).mono ?_
   rintro e w5 ⟨a4,c4,a5,c5,rfl,hch,hb⟩
   have hbb:Below w3.heap.size w3 w5:=hH1.trans (hb.mono hH1.size)
   have hOA:=below_blk hb hOB
   go_wp2_with fail
   refine hK.out _ _ ?_ (fun hH2=>?_)
   ·exact hbb
   try simp only [tkS,Act.put]
   clear hK K
   refine tkA (v:=?_) 7 hH2 rfl ?_ ?_;rotate_left
   ·intro w hSw;(try dsimp only at hSw);go_simp;all_goals with_reducible rfl
   try simp only [tkS,Act.put]
   refine tkA (v:=?_) 8 hH2 rfl ?_ ?_;rotate_left
   ·intro w hSw;(try dsimp only at hSw);go_simp;all_goals with_reducible rfl
   try simp only [tkS,Act.put]
   refine tkA (v:=?_) 9 hH2 rfl ?_ ?_;rotate_left
   ·intro w hSw;(try dsimp only at hSw);go_simp;all_goals with_reducible rfl
   try simp only [tkS,Act.put]
   refine wpAnyH_ready (rs:=[11]) (by kernel_rfl) (by simp) ?_
   refine AllReadyH.cons (o:=_) rfl (fun K hK=>?_) AllReadyH.nil
   have y0:=objcell hOA (j:=0) rfl
   have y1:=objcell hOA (j:=1) rfl
   have f0:=objfrozen hOA (j:=0)
   have f1:=objfrozen hOA (j:=1)
   have hlg:gA < w5.heap.size:=cell_lt y0
   go_simp
   have hb6:Below w3.heap.size w3 ((w5.setCell ⟨gA,0,none⟩ (.slice a4 y.terms.length c4)).setCell ⟨gA,1,none⟩ (.slice a5 y.own.length c5)):=(hbb.setCell (by exact hge) _).setCell (by exact hge) _
   have hyy:Is ((w5.setCell ⟨gA,0,none⟩ (.slice a4 y.terms.length c4)).setCell ⟨gA,1,none⟩ (.slice a5 y.own.length c5)) (.agg #[.slice a4 y.terms.length c4,.slice a5 y.own.length c5]) y:=((hch.setCell _ (by exact hlt)).setCell _ (by exact hlt)).is
   have z0:(((w5.setCell ⟨gA,0,none⟩ (.slice a4 y.terms.length c4)).setCell ⟨gA,1,none⟩ (.slice a5 y.own.length c5))).cell? ⟨gA,0,none⟩=some (.slice a4 y.terms.length c4):=objcell (setCell_obj _ gA 1 _ (setCell_obj w5 gA 0 _ hOA)) (j:=0) rfl
   have z1:(((w5.setCell ⟨gA,0,none⟩ (.slice a4 y.terms.length c4)).setCell ⟨gA,1,none⟩ (.slice a5 y.own.length c5))).cell? ⟨gA,1,none⟩=some (.slice a5 y.own.length c5):=objcell (setCell_obj _ gA 1 _ (setCell_obj w5 gA 0 _ hOA)) (j:=1) rfl
   go_wp2_with fail
   refine hK.out _ _ ?_ (fun hH3=>?_)
   ·exact hb6
   try simp only [tkS,Act.put]
   clear hK K
   generalize ((w5.setCell ⟨gA,0,none⟩ (.slice a4 y.terms.length c4)).setCell ⟨gA,1,none⟩ (.slice a5 y.own.length c5))=w6 at *
   refine tkA (v:=?_) 12 hH3 rfl ?_ ?_;rotate_left
   ·intro w hSw;(try dsimp only at hSw);go_simp;all_goals with_reducible rfl
   try simp only [tkS,Act.put]
   refine wpAnyH_done (by kernel_rfl) ?_ _
   go_wp2_with fail
   go_meet
   case rel=>exact ⟨gA,a4,c4,a5,c5,rfl,rfl,Lib.hid hge,Lib.hid z0,Lib.hid z1,Lib.hid hyy,Lib.hid hb6⟩
 case rest =>
  obtain ⟨g,a4,c4,a5,c5,rfl,rfl,HGE,HC0,HC1,HYI,HB6⟩:=hcut
  have HBW6:Hid (Below w.heap.size w wc):=Lib.hid (HB3.out.trans (HB6.out.mono HB3.out.size))
  have d0:=kept HB6.out D0.out
  have d1:=kept HB6.out D1.out
  have d2:=kept HB6.out D2.out
  have d3:=kept HB6.out D3.out
  have e0:=HC0.out
  have e1:=HC1.out
  have hg6:g < wc.heap.size:=cell_lt e0
  have hs6:w.heap.size < wc.heap.size:=cell_lt d0
  have HDU:=Lib.hid (duties_ok HNT.out)
  have hcall:=Of_is wc _ _ _ c x y (HG.out.mono HBW6.out) (HC.out.mono HBW6.out) (HX.out.mono HBW6.out) HYI.out HFW.out HNT.out.alts
  unfold DI at hcall
  rw [HDU.out] at hcall
  simp only at hcall
  generalize hLD:onceD [] (duesF c x x y.terms)=l at *
  have HLD:=Lib.hid hLD
  generalize hLT:y.terms.length=LT at *
  generalize hLO:y.own.length=LO at *
  have HLT:=Lib.hid hLT
  have HLO:=Lib.hid hLO
  clear HCALL hLD hLT hLO HDU
  go_wp2_with fail
  refine hcall.mono ?_
  rintro e w7 ⟨a6,c6,rfl,hrd7,hb7⟩
  clear hcall
  have hl7:=hrd7.is
  have hok7:=hrd7.2
  obtain ⟨a6',c6',he6,hn6,hm6,hr6⟩:=list_inv hl7
  cases he6
  have HBW7:Hid (Below w.heap.size w w7):=Lib.hid (HBW6.out.trans (hb7.mono HBW6.out.size))
  have HL7:=Lib.hid hl7
  have HR7:=Lib.hid hr6
  have HOK7:=Lib.hid hok7
  have HYI7:=Lib.hid (HYI.out.mono hb7)
  have d0:=kept hb7 d0
  have d1:=kept hb7 d1
  have d2:=kept hb7 d2
  have d3:=kept hb7 d3
  have e0:=kept hb7 e0
  have e1:=kept hb7 e1
  have D0:=Lib.hid d0
  have D1:=Lib.hid d1
  have D2:=Lib.hid d2
  have D3:=Lib.hid d3
  have E0:=Lib.hid e0
  have E1:=Lib.hid e1
  have hs7:w.heap.size < w7.heap.size:=cell_lt d0
  have hg7:g < w7.heap.size:=cell_lt e0
  simp only [maxLen] at hm6
  have hm6':l.length≤9223372036854775807:=by omega
  generalize hLL:l.length=LL at *
  have HLL:=Lib.hid hLL
  clear hb7 hl7 hr6 hok7 hrd7 hg6 hs6 hLL HB6 HC0 HC1 HYI HB3 HBW6
  have hu:=u8_range hm8
  obtain ⟨oo,rfl⟩:∃ oo:Nat,mo=oo:=⟨mo.toNat,by omega⟩
  obtain ⟨ii,hii⟩:∃ ii:Nat,ii=oo % L:=⟨_,rfl⟩
  have hil:ii < L:=by rw [hii];exact Nat.mod_lt _ hLp
  have hrem2:((oo:Nat):Int).tmod (L:Int)=(ii:Int):=by rw [hii];exact (Int.ofNat_tmod oo L).symm
  have hwrap2:IntKind.i64.wrap (oo:Int)=(oo:Int):=by rw [IntKind.wrap_i64];omega
  have hLz:¬ (L:Int)=0:=by omega
  have HLESS:=Lib.hid (less_ok HNT.out ii)
  have hlt:=HLESS.out.lic
  rw [HLT.out] at hlt
  have hq1:LT≤L:=by have h1:=licN_len x;rw [HL.out] at h1;omega
  have hq2:LO≤L:=by have h1:=values_outs c x;rw [← HNT.out.own,HLO.out,HL.out] at h1;exact h1
  have hL2:L≤260:=by have h1:=HFW.out.2.2.1;rw [HL.out] at h1;exact h1
  have c1':¬ (L:Int) < (LO:Int):=by omega
  have c2':¬ (L:Int) < (LT:Int):=by omega
  have HLIC:=Lib.hid hlt
  obtain ⟨hyt,-⟩:=choice_parts HYI7.out
  obtain ⟨a4',c4',he4,-,-,hrt⟩:=list_inv hyt
  rw [HLT.out] at he4
  cases he4
  have HRT:=Lib.hid hrt
  have hb8:Below w7.heap.size w7 (w7.alloc (.cells #[.slice a6 LL c6] 50)):=(Below.refl _ _).alloc (Nat.le_refl _) _
  have hl8:(w7.alloc (.cells #[.slice a6 LL c6] 50)).cell? ⟨w7.heap.size,0,none⟩=some (.slice a6 LL c6):=by simp
  have e0:=kept hb8 E0.out
  have e1:=kept hb8 E1.out
  have hg8:g < (w7.alloc (.cells #[.slice a6 LL c6] 50)).heap.size:=cell_lt e0
  have HB8:=Lib.hid hb8
  clear hii hu hm8 hlt hq2 hyt hrt d0 d1 d2 d3 hb8
  go_wp2_with fail
  generalize (w7.alloc (.cells #[.slice a6 LL c6] 50))=w8 at *
  have HL8:=Lib.hid hl8
  have HBW8:Hid (Below w.heap.size w w8):=Lib.hid (HBW7.out.trans (HB8.out.mono HBW7.out.size))
  clear e0 e1 hg8 hl8 c1' c2' hrem2 hwrap2
  refine (CloneFact_p w8 _ x (HX.out.mono HBW8.out) (by rw [HL.out];omega) (by intro h0;rw [h0] at HL;have:=HL.out;simp at this;omega)).mono ?_
  rintro e w9 ⟨v9,rfl,hrow,hb9⟩
  have hi9:=hrow.is hb9
  obtain ⟨a9,c9,rfl,-⟩:=list_inv hi9
  have hdel:=DeleteFact_p w8 w9 _ x ii w8.heap.size hrow (Nat.le_refl _) hb9 (by rw [HL.out];exact hil) (by rw [HL.out];omega)
  rw [HL.out] at hdel ⊢
  have HB9:=Lib.hid hb9
  clear hrow hb9 hi9
  go_wp2_with fail
  refine hdel.mono ?_
  unfold DelO
  rintro e w10 ⟨v10,rfl,hless,hb10⟩
  obtain ⟨a10,c10,rfl,-⟩:=list_inv hless
  have HXL:=Lib.hid hless
  have HB10:Hid (Below w7.heap.size w7 w10):=Lib.hid (HB8.out.trans ((HB9.out.trans hb10).mono HB8.out.size))
  have HBW10:Hid (Below w.heap.size w w10):=Lib.hid (HBW7.out.trans (HB10.out.mono HBW7.out.size))
  have d0:=kept HB10.out D0.out
  have d1:=kept HB10.out D1.out
  have d2:=kept HB10.out D2.out
  have d3:=kept HB10.out D3.out
  have hl10:=kept (HB9.out.trans hb10) HL8.out
  have HL10:=Lib.hid hl10
  have hs10:w.heap.size < w10.heap.size:=cell_lt d0
  have hcall:=Values_is w10 _ _ c (x.eraseIdx ii) (HG.out.mono HBW10.out) (HC.out.mono HBW10.out) hless (fun f hf=>HFIT.out f (List.mem_of_mem_eraseIdx hf))
  unfold VI at hcall
  rw [HLESS.out.vals] at hcall
  have hLS:(valuesC c (x.eraseIdx ii)).2.1.length≤260:=by
   have h1:=values_outs c (x.eraseIdx ii)
   have h2:=(few_less HFW.out ii).2.2.1
   omega
  generalize hLSe:(valuesC c (x.eraseIdx ii)).2.1.length=LS at *
  have HLS:=Lib.hid hLSe
  generalize (valuesC c (x.eraseIdx ii)).1.length=LV at *
  generalize (x.eraseIdx ii).length=LE at *
  clear hdel hless hb10 hl10 hLSe HB9 HB8 HBW8 HL8
  go_wp2_with fail
  refine hcall.mono ?_
  rintro e w11 ⟨v1,v2,rfl,ht11,ho11,hb11⟩
  obtain ⟨at1,ct1,rfl,-⟩:=list_inv ht11
  obtain ⟨ao1,co1,rfl,-⟩:=list_inv ho11
  rw [HLS.out]
  generalize (valuesC c (x.eraseIdx ii)).1.length=LV at *
  have HB11:Hid (Below w7.heap.size w7 w11):=Lib.hid (HB10.out.trans (hb11.mono HB10.out.size))
  have HXL:=Lib.hid (HXL.out.mono hb11)
  have HL11:=Lib.hid (kept hb11 HL10.out)
  have hmkS:=mk_strs2 LS (by omega)
  obtain ⟨hbz,hS,hZ⟩:=boxD w11 (Array.replicate LS (Value.string ByteArray.empty)) #[.slice none 0 0,.slice (some ⟨w11.heap.size,0,none⟩) LS LS] 9 43
  clear ht11 ho11 hb11 hcall d0 d1 d2 d3 hs10 HB10 HBW10 HL10
  go_wp2_with fail
  have hz12:((w11.alloc (.cells (Array.replicate LS (Value.string ByteArray.empty)) 9)).alloc (.cells #[.slice none 0 0,.slice (some ⟨w11.heap.size,0,none⟩) LS LS] 43)).heap.size=w11.heap.size+2:=by simp
  have HBZ:=Lib.hid hbz
  have HS0:=Lib.hid hS
  have HZ0:=Lib.hid hZ
  clear hbz hS hZ hmkS
  generalize ((w11.alloc (.cells (Array.replicate LS (Value.string ByteArray.empty)) 9)).alloc (.cells #[.slice none 0 0,.slice (some ⟨w11.heap.size,0,none⟩) LS LS] 43))=w12 at *
  generalize hgS:w11.heap.size=gS at *
  have HGS:=Lib.hid hgS
  clear hgS
  go_loopw [20,111] (fun kv jv wr=>∃ (j k:Nat) (zt:Value) (zl:List (List Term)),j≤L∧jv=.int .i64 j∧kv=.int .i64 k∧k≤j∧zl.length≤j∧Hid (k=licN (x.take j))∧Hid (wr.heap[gS+1]?=some (.cells #[zt,.slice (some ⟨gS,0,none⟩) LS LS] 43 (0,0)))∧Hid (OwnL (gS+1) (fun _=>True) 59 wr zt zl)∧Hid (zl++restT x y.terms ii j k=dropT x y.terms ii)∧Hid (gS+2≤wr.heap.size)∧Hid (Below (gS+1) w12 wr)) (fun _ jv _=>L - (intOf jv).toNat)
  case atStart=>exact ⟨0,0,.slice none 0 0,[],by omega,rfl,rfl,Nat.le_refl _,Nat.le_refl _,rfl,HZ0,Lib.hid (OwnL.nil _ _ _ _),Lib.hid (rest_zero x y.terms ii),Lib.hid (Nat.le_of_eq hz12.symm),Lib.hid (Below.refl _ _)⟩
  case round =>
   obtain ⟨j,k,zt,zl,hj,rfl,rfl,hkj,hzl,HK,HZB,HZO,HRS,HZZ,HB⟩:=hrel
   have HBK:Hid (Below w11.heap.size w11 wr):=by show Below _ _ _;rw [HGS.out];exact HBZ.out.trans (HB.out.mono (by omega))
   have HB7:Hid (Below w7.heap.size w7 wr):=Lib.hid (HB11.out.trans (HBK.out.mono HB11.out.size))
   have HBW:Hid (Below w.heap.size w wr):=Lib.hid (HBW7.out.trans (HB7.out.mono HBW7.out.size))
   obtain ⟨az,cz,hzt⟩:=HZO.out.shape
   subst hzt
   have hgz:gS+1 < wr.heap.size:=heap_lt HZB.out
   by_cases hji:j < L
   ·have hjz:(j:Int) < (L:Int):=by omega
    have hj0:(0:Int)≤(j:Int):=by omega
    obtain ⟨f,hx⟩:=get_lt (xs:=x) (k:=j) (by rw [HL.out];exact hji)
    have HXF:=Lib.hid hx
    have HSN:=Lib.hid (licN_snoc hx)
    have HLT2:Hid ((f.kind == 1)=true→k < LT):=by
     show _→_
     intro h1
     have h2:=licN_lt hx h1
     rw [← HK.out,HLIC.out] at h2
     exact h2
    obtain ⟨ki,co,ou,re,wa,du,ch,⟨ek,en,ex,eks⟩,li⟩:=f
    simp only at HSN HLT2
    obtain ⟨bx,ox,rfl,hbx,ae,ce,al,cl,x0',x1',x2',x3',x4',x5',x6',x7',x8',x9',x10',x11',hrest⟩:=Fact.at_row HR.out hx
    have x0:=kept HBW.out x0'
    have x1:=kept HBW.out x1'
    have x2:=kept HBW.out x2'
    have x3:=kept HBW.out x3'
    have x4:=kept HBW.out x4'
    have x5:=kept HBW.out x5'
    have x6:=kept HBW.out x6'
    have x7:=kept HBW.out x7'
    have x8:=kept HBW.out x8'
    have x9:=kept HBW.out x9'
    have x10:=kept HBW.out x10'
    have x11:=kept HBW.out x11'
    have hbs:bx < wr.heap.size:=cell_lt x0
    clear x0' x1' x2' x3' x4' x5' x6' x7' x8' x9' x10' x11' hx hrest hbx
    generalize eks.length=E at *
    generalize li.length=M at *
    obtain ⟨wf,hwf⟩:∃ W,W=wr.alloc (.cells #[.int .i64 ki,.string co,.string ou,.int .i64 re,.int .i64 wa,.int .i64 du,.bool ch,.int .i64 ek,.string en,.string ex,.slice ae E ce,.slice al M cl] 70):=⟨_,rfl⟩
    have hba:Below wr.heap.size wr wf:=by rw [hwf];exact (Below.refl _ _).alloc (Nat.le_refl _) _
    have hobj0:wf.cell? ⟨wr.heap.size,0,none⟩=some (.int .i64 ki):=by rw [hwf];simp
    have HZBa:=Lib.hid (below_blk hba HZB.out)
    have HZOa:=Lib.hid (HZO.out.below hba)
    have HBa:Hid (Below (gS+1) w12 wf):=Lib.hid (HB.out.trans (hba.mono (by omega)))
    have HZZa:Hid (gS+2≤wf.heap.size):=Lib.hid (Nat.le_trans HZZ.out hba.size)
    generalize hZL:zl.length=ZL at *
    have HZL:=Lib.hid hZL
    clear hZL
    cases k1:(ki == 1)
    case false =>
     have k1n:(ki != 1)=true:=by rw [show (ki != 1)=!(ki == 1) from rfl,k1];rfl
     have HKN:Hid (k=licN (x.take (j+1))):=by show _=_;rw [HSN.out,if_neg (by rw [k1];simp),HK.out];rfl
     have HRN:Hid (zl++restT x y.terms ii (j+1) k=dropT x y.terms ii):=by show _=_;rw [← rest_not HXF.out (by rw [show (Fact.mk ki co ou re wa du ch (.mk ek en ex eks) li).kind=ki from rfl,k1];simp)];exact HRS.out
     clear HSN HLT2 HK HRS hba k1
     subst hwf
     go_wp2
     go_roundw
     case rel=>exact ⟨j+1,k,_,zl,by omega,by go_num,rfl,by omega,by rw [HZL.out];omega,HKN,HZBa,HZOa,HRN,HZZa,HBa⟩
     case measure=>simp [intOf];omega
    case true =>
     have k1n:(ki != 1)=false:=by rw [show (ki != 1)=!(ki == 1) from rfl,k1];rfl
     have hkl:=HLT2.out k1
     have hklz:(k:Int) < (LT:Int):=by omega
     have hk00:(0:Int)≤(k:Int):=by omega
     have HKN:Hid (k+1=licN (x.take (j+1))):=by show _=_;rw [HSN.out,if_pos k1,HK.out]
     have HKI:Hid ((Fact.mk ki co ou re wa du ch (.mk ek en ex eks) li).kind == 1):=Lib.hid k1
     have e0:=kept HB7.out E0.out
     have e0:=kept hba e0
     have hgr:g < wf.heap.size:=cell_lt e0
     clear HSN HLT2 HK
     by_cases hjeq:j=ii
     ·have hjn:((j:Int) != (ii:Int))=false:=by simp [hjeq]
      have HRN:Hid (zl++restT x y.terms ii (j+1) (k+1)=dropT x y.terms ii):=by
       show _=_
       rw [← HRS.out]
       have:=rest_eq (x:=x) (ts:=y.terms) (i:=ii) (k:=k) (by rw [← hjeq];exact HXF.out) HKI.out
       rw [hjeq,← this]
      clear HRS hba hjeq k1
      subst hwf
      go_wp2
      go_roundw
      case rel=>exact ⟨j+1,k+1,_,zl,by omega,by go_num,by go_num,by omega,by rw [HZL.out];omega,HKN,HZBa,HZOa,HRN,HZZa,HBa⟩
      case measure=>simp [intOf];omega
     ·have hjn:((j:Int) != (ii:Int))=true:=by simp;omega
      obtain ⟨ya,hya⟩:=get_lt (xs:=y.terms) (k:=k) (by rw [HLT.out];exact hkl)
      have HRN:Hid ((zl++[ya])++restT x y.terms ii (j+1) (k+1)=dropT x y.terms ii):=by
       show _=_
       rw [← HRS.out,rest_ne HXF.out HKI.out hya hjeq,List.append_assoc];rfl
      obtain ⟨b2,oy,rfl,hb2,ay,cy,y0',hy1,hy2,hy3⟩:=list_at HRT.out hya
      have HYL:Hid (Lay.is w7 (fun j=>[(Value.slice ay ya.length cy)][j]?) ya):=⟨ay,cy,rfl,hy1,hy2,hy3⟩
      have y0:=kept hba (kept HB7.out y0')
      have hby:=cell_lt y0
      have hb2q:=hb2
      clear HRS hya y0' hy1 hy2 hy3 hb2 k1 hjeq
      generalize ya.length=LY at *
      have HB7d:Hid (Below w7.heap.size w7 wf.drew):=Lib.hid ((HB7.out.trans (hba.mono HB7.out.size)).drew)
      have HZBd:Hid (wf.drew.heap[gS+1]?=some (.cells #[.slice az ZL cz,.slice (some ⟨gS,0,none⟩) LS LS] 43 (0,0))):=HZBa
      have HZOd:Hid (OwnL (gS+1) (fun _=>True) 59 wf.drew (.slice az ZL cz) zl):=Lib.hid (HZOa.out.below (Below.refl _ _).drew)
      have HBd:Hid (Below (gS+1) w12 wf.drew):=Lib.hid HBa.out.drew
      have hzd:gS+2≤wf.drew.heap.size:=HZZa.out
      have hzn:(zl++[ya]).length=ZL+1:=by rw [List.length_append,HZL.out];rfl
      have h7g:w7.heap.size≤gS:=by rw [← HGS.out];exact HB11.out.size
      have hb2g:b2 < w7.heap.size:=hb2q
      subst hwf
      go_wp2
      refine wp_region_held_drew (S:=(fun w':World=>w'.cell? ⟨g,0,none⟩=some (.slice (some ⟨b2,oy,none⟩) LT c4)∧w'.cell? ⟨b2,oy+k,none⟩=some (.slice ay LY cy))) (by kernel_rfl) (by exact ⟨e0,y0⟩) (fun hH0=>?_)
      have e0:=hH0.1
      have y0:=hH0.2
      generalize (wr.alloc (.cells #[.int .i64 ki,.string co,.string ou,.int .i64 re,.int .i64 wa,.int .i64 du,.bool ch,.int .i64 ek,.string en,.string ex,.slice ae E ce,.slice al M cl] 70)).drew=wd at *
      clear HZBa HZOa HBa HZZa hba hobj0
      have z0:=objcell HZBd.out (j:=0) (v:=.slice az ZL cz) rfl
      have hgz2:gS+1 < wd.heap.size:=heap_lt HZBd.out
      have hgr3:g < wd.heap.size:=cell_lt e0
      have hby3:b2 < wd.heap.size:=cell_lt y0
      refine tkA (v:=?_) 0 hH0 rfl ?_ ?_;rotate_left
      ·intro w hSw;(try dsimp only at hSw);go_simp;all_goals with_reducible rfl
      try simp only [tkS,Act.put]
      refine tkA (v:=?_) 2 hH0 rfl ?_ ?_;rotate_left
      ·intro w hSw;(try dsimp only at hSw);go_simp;all_goals with_reducible rfl
      try simp only [tkS,Act.put]
      refine tkA (v:=?_) 3 hH0 rfl ?_ ?_;rotate_left
      ·intro w hSw;(try dsimp only at hSw);go_simp;all_goals with_reducible rfl
      try simp only [tkS,Act.put]
      refine tkA (v:=?_) 4 hH0 rfl ?_ ?_;rotate_left
      ·intro w hSw;(try dsimp only at hSw);go_simp;all_goals with_reducible rfl
      try simp only [tkS,Act.put]
      refine tkA (v:=?_) 5 hH0 rfl ?_ ?_;rotate_left
      ·intro w hSw;(try dsimp only at hSw);go_simp;all_goals with_reducible rfl
      try simp only [tkS,Act.put]
      refine tkA (v:=?_) 6 hH0 rfl ?_ ?_;rotate_left
      ·intro w hSw;(try dsimp only at hSw);go_simp;all_goals with_reducible rfl
      try simp only [tkS,Act.put]
      have hbq:Below wd.heap.size wd (wd.alloc (.cells #[.slice ay LY cy] 59)):=(Below.refl _ _).alloc (Nat.le_refl _) _
      have HZBb:=Lib.hid (below_blk hbq HZBd.out)
      have HZOb:=Lib.hid (HZOd.out.below hbq)
      have HBb:Hid (Below (gS+1) w12 (wd.alloc (.cells #[.slice ay LY cy] 59))):=Lib.hid (HBd.out.trans (hbq.mono (by omega)))
      have hcb:(wd.alloc (.cells #[.slice ay LY cy] 59)).cell? ⟨wd.heap.size,0,none⟩=some (.slice ay LY cy):=by simp
      have hzb:gS+1≤(wd.alloc (.cells #[.slice ay LY cy] 59)).heap.size:=by simp;omega
      have hzb2:gS+2≤(wd.alloc (.cells #[.slice ay LY cy] 59)).heap.size:=by simp;omega
      have hyA:∀ w'',Agree (gS+1) (fun _=>True) (wd.alloc (.cells #[.slice ay LY cy] 59)) w''→Lay.is w'' (fun j=>[(Value.slice ay LY cy)][j]?) ya:=fun w'' hA=>alt_agree (w0:=w7) (HB7d.out.trans (hbq.mono HB7d.out.size)) (by omega) hA HYL.out
      have e2:=kept hbq e0
      have y2:=kept hbq y0
      have z2:=kept hbq z0
      refine wpAnyH_ready (rs:=[1,7]) (by kernel_rfl) (by simp) ?_
      refine AllReadyH.cons (o:=_) rfl (fun K hK=>?_) (AllReadyH.cons (o:=_) rfl (fun K hK=>?_) AllReadyH.nil)
      go_simp
      go_wp2_with fail
      refine hK.out _ _ ?_ (fun hH1=>?_)
      ·exact ⟨e0,y0⟩
      try simp only [tkS,Act.put]
      clear hK K
      refine wpAnyH_ready (rs:=[7]) (by kernel_rfl) (by simp) ?_
      refine AllReadyH.cons (o:=_) rfl (fun K hK=>?_) AllReadyH.nil
      go_simp
      go_wp2_with fail
      refine hK.out _ _ ?_ (fun hH2=>?_)
      ·exact ⟨e2,y2⟩
      try simp only [tkS,Act.put]
      clear hK K
      rotate_left
      go_simp
      go_wp2_with fail
      refine hK.out _ _ ?_ (fun hH1=>?_)
      ·exact ⟨e2,y2⟩
      try simp only [tkS,Act.put]
      clear hK K
      refine wpAnyH_ready (rs:=[1]) (by kernel_rfl) (by simp) ?_
      refine AllReadyH.cons (o:=_) rfl (fun K hK=>?_) AllReadyH.nil
      have hgz3:gS+1 < (wd.alloc (.cells #[.slice ay LY cy] 59)).heap.size:=by omega
      go_simp
      go_wp2_with fail
      refine hK.out _ _ ?_ (fun hH2=>?_)
      ·exact ⟨e2,y2⟩
      try simp only [tkS,Act.put]
      clear hK K
      all_goals
       refine wpAnyH_ready (rs:=[8]) (by kernel_rfl) (by simp) ?_
       refine AllReadyH.cons (o:=_) rfl (fun K hK=>?_) AllReadyH.nil
       refine wpo_appAl _ _ (by rfl) (gS+1) _ _ zl ya wd.heap.size (by rfl) (by rfl) hcb HZOb.out hyA (by rfl) (by rw [HZL.out];omega) hzb ?_
       intro v' w6 ho6 hb6 hA6
       obtain ⟨a6',c6',hv6⟩:=ho6.shape
       subst hv6
       rw [hzn] at ho6 ⊢
       have h96:=agree_blk hA6 HZBb.out (by decide)
       have f6:=objfrozen h96 (j:=0)
       have d6:=objcell h96 (j:=0) (v:=.slice az ZL cz) rfl
       have hs6:=heap_lt h96
       have e6:=(hb6.cell (p:=⟨g,0,none⟩) (by show g < gS+1;omega)).trans e2
       have y6:=(hb6.cell (p:=⟨b2,oy+k,none⟩) (by show b2 < gS+1;omega)).trans y2
       have HB6:Hid (Below (gS+1) w12 w6):=Lib.hid (HBb.out.trans hb6)
       have HO6:=Lib.hid ho6
       have H96:=Lib.hid h96
       have hz6:gS+2≤w6.heap.size:=by have:=hA6.1;have:=hzb2;omega
       clear ho6 hb6 hA6 h96 hcb hyA e2 y2
       go_wp2_with fail
       refine hK.out _ _ ?_ (fun hH4=>?_)
       ·exact ⟨e6,y6⟩
       try simp only [tkS,Act.put]
       clear hK K
       refine tkA (v:=?_) 9 hH4 rfl ?_ ?_;rotate_left
       ·intro w hSw;(try dsimp only at hSw);go_simp;all_goals with_reducible rfl
       try simp only [tkS,Act.put]
       refine wpAnyH_ready (rs:=[10]) (by kernel_rfl) (by simp) ?_
       refine AllReadyH.cons (o:=_) rfl (fun K hK=>?_) AllReadyH.nil
       go_simp
       go_wp2_with fail
       have hA7:=agree_setCell (B:=gS+1) (g:=gS+1) (j:=0) (u:=.slice a6' (ZL+1) c6') (Nat.le_refl _) H96.out
       have HO7:=Lib.hid (HO6.out.other hA7 (fun _ _=>trivial) (by decide))
       have HB7':Hid (Below (gS+1) w12 (w6.setCell ⟨gS+1,0,none⟩ (.slice a6' (ZL+1) c6'))):=Lib.hid (HB6.out.setCell (Nat.le_refl _) _)
       have HZ7:Hid ((w6.setCell ⟨gS+1,0,none⟩ (.slice a6' (ZL+1) c6')).heap[gS+1]?=some (.cells #[.slice a6' (ZL+1) c6',.slice (some ⟨gS,0,none⟩) LS LS] 43 (0,0))):=setCell_obj w6 (gS+1) 0 (.slice a6' (ZL+1) c6') H96.out
       have hz7:gS+2≤(w6.setCell ⟨gS+1,0,none⟩ (.slice a6' (ZL+1) c6')).heap.size:=by rw [World.size_setCell];exact hz6
       refine hK.out _ _ ?_ (fun hH5=>?_)
       ·exact ⟨by rw [World.cell?_setCell_far _ _ _ _ (by show gS+1≠g;omega)];exact e6,by rw [World.cell?_setCell_far _ _ _ _ (by show gS+1≠b2;omega)];exact y6⟩
       try simp only [tkS,Act.put]
       clear hK K
       generalize (w6.setCell ⟨gS+1,0,none⟩ (.slice a6' (ZL+1) c6'))=w7' at *
       refine wpAnyH_done (by kernel_rfl) ?_ _
       clear e6 y6 f6 d6 hs6 hA7 hH4 hH5
       go_wp2_with fail
       go_roundw
       case rel=>exact ⟨j+1,k+1,_,zl++[ya],by omega,by go_num,by go_num,by omega,by rw [hzn];omega,HKN,HZ7,HO7,HRN,Lib.hid hz7,HB7'⟩
       case measure=>simp [intOf];omega
   ·have hjz:¬ (j:Int) < (L:Int):=by omega
    have hjL:j=L:=by omega
    have hkT:Hid (k=LT):=by
     show _=_
     rw [HK.out,List.take_of_length_le (by rw [HL.out];omega),HLIC.out]
    have HZF:Hid (zl=dropT x y.terms ii):=by
     show _=_
     have h1:=HRS.out
     unfold restT at h1
     rw [if_neg (by omega),List.drop_eq_nil_of_le (by rw [hkT.out,HLT.out];exact Nat.le_refl _),List.append_nil] at h1
     exact h1
    have hSr:wr.heap[gS]?=some (.cells (Array.replicate LS (Value.string ByteArray.empty)) 9 (0,0)):=by rw [HB.out.block gS (by omega)];exact HS0.out
    have hzs:=zero_strs2 (w:=wr) (n:=LS) (by simp only [maxLen];omega) hSr
    have hzi:=HZO.out.is
    rw [HZF.out] at hzi
    have HZI:=Lib.hid (choice_mk hzi hzs)
    have hXL:=HXL.out.mono HBK.out
    have d0:=kept HB7.out D0.out
    have d1:=kept HB7.out D1.out
    have d2:=kept HB7.out D2.out
    have d3:=kept HB7.out D3.out
    have z0:=objcell HZB.out (j:=0) (v:=.slice az zl.length cz) rfl
    have z1:=objcell HZB.out (j:=1) (v:=.slice (some ⟨gS,0,none⟩) LS LS) rfl
    have hs9:w.heap.size < wr.heap.size:=cell_lt d0
    have hcall:=Of_is wr _ _ _ c (x.eraseIdx ii) ⟨dropT x y.terms ii,List.replicate LS ByteArray.empty⟩ (HG.out.mono HBW.out) (HC.out.mono HBW.out) hXL HZI.out (few_less HFW.out ii) HLESS.out.alts
    unfold DI at hcall
    rw [HLESS.out.dues LS HLS.out.symm] at hcall
    simp only at hcall
    have HSUB:=Lib.hid HLESS.out.sub
    rw [HLD.out] at HSUB
    have HL12:=Lib.hid (kept HBK.out HL11.out)
    rw [HZF.out] at z0
    generalize (dropT x y.terms ii).length=ZL at *
    generalize onceD [] (duesF c (x.eraseIdx ii) (x.eraseIdx ii) (dropT x y.terms ii))=sl at *
    clear HK HRS hzi hzs hSr hjL hkT hXL
    go_wp2_with fail
    refine hcall.mono ?_
    rintro e w14 ⟨a14,c14,rfl,hrd,hb14⟩
    have HBW14:Hid (Below w.heap.size w w14):=Lib.hid (HBW.out.trans (hb14.mono HBW.out.size))
    have hl14:=kept hb14 HL12.out
    have hli:=HL7.out.mono (HB7.out.trans (hb14.mono HB7.out.size))
    have hcall2:=ContainsFuncDue w14 _ sl (fun d=>!decide (d∈l)) 42 #[.pointer (some ⟨w7.heap.size,0,none⟩)] (enters_of Tryz.func42 (by kernel_rfl) rfl)
     hrd.is (fun i d _ V v hb hv=>Fw1_p V w7.heap.size _ v l d (kept hb hl14) (hli.mono hb) hv)
    have hnone:(sl.any fun d=>!decide (d∈l))=false:=by
     rw [List.any_eq_false]
     intro d hd
     simp [HSUB.out d hd]
    rw [hnone] at hcall2
    have hg14:w7.heap.size < w14.heap.size:=cell_lt hl14
    generalize sl.length=SL at *
    clear hcall hrd hb14 hli hnone d0 d1 d2 d3 z0 z1
    go_wp2_with fail
    refine hcall2.mono ?_
    rintro e w15 ⟨rfl,hb15⟩
    have HB15:=Lib.hid (HBW14.out.trans (hb15.mono HBW14.out.size))
    clear hcall2 hb15
    go_wp2
    go_ret
    exact ⟨rfl,HB15.out⟩
end Go.Proofs.YtcbopdbbcgdkcaaGreatDoor
