/- Lemmas. -/
import Derived.Test.YtcbopdbbcgdkcaaGreatDoorLFmtU
import Derived.Test.YtcbopdbbcgdkcaaGreatDoorLLaw
set_option linter.all false
set_option maxRecDepth 100000
set_option maxHeartbeats 16000000
namespace Go.Proofs.YtcbopdbbcgdkcaaGreatDoor
open Go Go.Sort

def numsFrom:Int→Nat→List Int
 | _,0=>[]
 | v,n+1=>v :: numsFrom (v+1) n
theorem numsFrom_mem:∀ {n:Nat} {v k:Int},k∈numsFrom v n↔v≤k∧k < v+n
 | 0,v,k=>by
  simp only [numsFrom,List.not_mem_nil,false_iff];omega
 | n+1,v,k=>by
  unfold numsFrom;rw [List.mem_cons,numsFrom_mem];omega
theorem numsFrom_lt:∀ (n:Nat) (v:Int),(numsFrom v n).Pairwise fun a b=>a < b
 | 0,_=>List.Pairwise.nil
 | n+1,v=>List.pairwise_cons.2 ⟨fun k hk=>by have:=numsFrom_mem.1 hk;omega,numsFrom_lt n (v+1)⟩
theorem numsFrom_snoc:∀ (n:Nat) (v:Int),numsFrom v (n+1)=numsFrom v n++[v+n]
 | 0,v=>by simp [numsFrom]
 | n+1,v=>by
  show v :: numsFrom (v+1) (n+1)=(v :: numsFrom (v+1) n)++[v+((n+1:Nat):Int)]
  rw [numsFrom_snoc n (v+1)];simp;omega
def famVer (x:License) (v:Int) (y:License):Bool:=seq y.family x.family && (y.version == v)
def laterR (c:Catalog) (x:License) (n:Nat):List License:=(numsFrom x.version n).flatMap fun v=>c.licenses.filter (famVer x v)
theorem short_perm {α:Type} {a b:List α} (h:a.Perm b) (hl:a.length≤1):a=b:=by
 match a,hl with
 | [],_=>exact (List.Perm.nil_eq h)
 | [x],_=>exact (List.singleton_perm.1 h).symm ▸ rfl
theorem laterR_eq {c:Catalog} (h:checkC c=0) {x:License} (hx:x∈c.licenses):laterR c x (1000 - x.version).toNat=laterL c x:=by
 have hv:∀ y∈c.licenses,0≤y.version∧y.version≤999:=by
  intro y hy;obtain ⟨p,hp⟩:=firstErr_all (check_parts h).1 y hy;unfold licErr at hp;repeat' split at hp
  all_goals try (cases hp;done)
  rename_i h2 _ _ _ _
  simp only [Bool.or_eq_true,decide_eq_true_eq,not_or,Int.not_lt] at h2;exact h2
 have hx0:=hv x hx
 have hp:=part_keys License.version (fun a b:Int=>a < b) (fun a=>Int.lt_irrefl a) (numsFrom x.version (1000 - x.version).toNat) (laterL c x) (numsFrom_lt _ _)
  ((later_incr h x).imp fun h=>by omega) (fun y hy=>by
   obtain ⟨h1,-,h2⟩:=later_mem.1 hy;have:=hv y h1;exact numsFrom_mem.2 ⟨h2,by omega⟩)
 rw [← hp];unfold laterR;rw [List.flatMap_def,List.flatMap_def];congr 1;refine List.map_congr_left fun v hvm=>?_;have hxv:=(numsFrom_mem.1 hvm).1;symm;refine short_perm (((laterL_perm c x).filter _).trans ?_) ?_
 ·rw [List.filter_filter];refine List.Perm.of_eq (List.filter_congr fun z _=>?_);rw [Bool.eq_iff_iff];simp only [laterIs,famVer,seq_eq,Bool.and_eq_true,decide_eq_true_eq,beq_iff_eq];constructor
  ·rintro ⟨a,b,_⟩;exact ⟨b,a⟩
  ·rintro ⟨a,b⟩;exact ⟨b,a,by omega⟩
 ·have hi:=(later_incr h x).filter (fun y=>decide (y.version=v));have hm:∀ y∈(laterL c x).filter (fun y=>decide (y.version=v)),y.version=v:=fun y hy=>by simpa using (List.mem_filter.1 hy).2
  generalize (laterL c x).filter (fun y=>decide (y.version=v))=l at hi hm;match l,hi,hm with
  | [],_,_=>exact Nat.zero_le _
  | [_],_,_=>exact Nat.le_refl _
  | a :: b :: r,hi,hm =>
   have h1:=(List.pairwise_cons.1 hi).1 b (by simp);have h2:=hm a (by simp);have h3:=hm b (by simp);omega
theorem find_look {nm:ByteArray}:∀ {ls:List License} {i:Int},0≤i→(findFrom nm ls i < 0∧lookL nm ls=none)∨(∃ (j:Nat) (x:License),findFrom nm ls i=i+j∧ls[j]?=some x∧lookL nm ls=some x)
 | [],i,_=>Or.inl ⟨by show (-1:Int) < 0;decide,rfl⟩
 | x :: r,i,hi=>by
  unfold findFrom lookL;by_cases e:x.name=nm
  ·rw [if_pos e,if_pos e];exact Or.inr ⟨0,x,by omega,rfl,rfl⟩
  ·rw [if_neg e,if_neg e];rcases find_look (nm:=nm) (ls:=r) (i:=i+1) (by omega) with h | ⟨j,y,h1,h2,h3⟩
   ·exact Or.inl h
   ·exact Or.inr ⟨j+1,y,by omega,h2,h3⟩
def liftsR (c:Catalog) (t:Term):Option (List Int):=if t.exception.toList.isEmpty then some [] else liftsL t c.exceptions
theorem known_eq (c:Catalog) (t:Term) (h:checkC c=0) (hf:¬ findFrom t.license c.licenses 0 < 0):liftsC c t=liftsR c t:=by
 unfold liftsC liftsR findC;rw [h];rcases find_look (nm:=t.license) (ls:=c.licenses) (i:=0) (by omega) with ⟨h1,-⟩ | ⟨j,x,h1,h2,h3⟩
 ·exact absurd h1 hf
 ·simp [h3]
theorem find_none {c:Catalog} {nm:ByteArray} (h:¬ checkC c=0∨findFrom nm c.licenses 0 < 0):findC c nm=none:=by
 unfold findC;rcases h with h | h
 ·rw [if_pos (by simpa using h)]
 ·split
  ·rfl
  ·rcases find_look (nm:=nm) (ls:=c.licenses) (i:=0) (by omega) with ⟨-,h3⟩ | ⟨j,x,h3,-,-⟩
   ·exact h3
   ·omega
theorem known_none {c:Catalog} {t:Term} (h:findC c t.license=none):liftsC c t=none:=by
 unfold liftsC;rw [h];rfl
theorem known_check (c:Catalog) (t:Term) (h:¬ checkC c=0):liftsC c t=none:=known_none (find_none (Or.inl h))
theorem known_find (c:Catalog) (t:Term) (hf:findFrom t.license c.licenses 0 < 0):liftsC c t=none:=known_none (find_none (Or.inr hf))
theorem clauses_due {c:Catalog} {t:Term} {l:List Int} (h:liftsC c t=some l) (way rel:Int):clausesC c t way rel=c.clauses.filter (clauseIs t way rel ((liftsR c t).getD [])):=by
 have hc:=lifts_check h;have hf:¬ findFrom t.license c.licenses 0 < 0:=fun hf=>by rw [known_find c t hf] at h;cases h
 have he:=known_eq c t hc hf;unfold clausesC;rw [← he,h];rfl
theorem clauses_none {c:Catalog} {t:Term} (h:liftsC c t=none) (way rel:Int):clausesC c t way rel=[]:=by unfold clausesC;rw [h]
end Go.Proofs.YtcbopdbbcgdkcaaGreatDoor
namespace Go.Proofs.YtcbopdbbcgdkcaaGreatDoor
open Go Go.RowKit Go.ChangeShapes
theorem keep4 {w:World} {p:Addr} {g:Nat} {u v0 v1 v2 v3:Value} (h:w.cell? p=some u) (hne:p.block≠g):((((w.setCell ⟨g,0,none⟩ v0).setCell ⟨g,1,none⟩ v1).setCell ⟨g,2,none⟩ v2).setCell ⟨g,3,none⟩ v3).cell? p=some u:=by
 unfold World.cell? at *;rw [blk_set_other _ _ _ _ hne,blk_set_other _ _ _ _ hne,blk_set_other _ _ _ _ hne,blk_set_other _ _ _ _ hne];exact h
theorem Find_ref (w:World) (x0:Value) (c:Catalog) (nm:ByteArray) (h:Is w x0 c) :
  Calls Tryz.prog 70 #[x0,.string nm] w fun e w'=>e=.returned (.tuple #[licV ((findC c nm).getD noLic),.bool (findC c nm).isSome])∧Below w.heap.size w w':=by
 have HI:=zh h;obtain ⟨a0,c0,a1,c1,a2,c2,a3,c3,rfl,l0,m0,r0,l1,m1,r1,l2,m2,r2,l3,m3,r3⟩:=Catalog.inv h;have R0:=zh r0;have L0:=zh (list_mk l0 m0 r0);have n0:c.licenses.length≤9223372036854775807:=by simp only [maxLen] at m0;omega
 clear h r0 r1 r2 r3 m0 m1 m2 m3 l1 l2 l3 l0;generalize hN:c.licenses.length=N0 at *;have HN:=zh hN;clear hN;generalize c.exceptions.length=N1 at *;generalize c.clauses.length=N2 at *;generalize c.apart.length=N3 at *;go_enter Tryz.func70,Tryz.ntmps70;go_wp2_with fail
 refine (Check_ref _ _ c (HI.out.mono bw)).mono ?_;rintro e w1 ⟨rfl,hb1⟩;have d0:=kb w hb1 0 (.slice a0 N0 c0);have d1:=kb w hb1 1 (.slice a1 N1 c1);have d2:=kb w hb1 2 (.slice a2 N2 c2);have d3:=kb w hb1 3 (.slice a3 N3 c3);have e0:=kb1 w hb1 0 (.string ⟨#[]⟩);have e1:=kb1 w hb1 1 (.string ⟨#[]⟩);have e2:=kb1 w hb1 2 (.int .i64 0);have e3:=kb1 w hb1 3 (.string ⟨#[]⟩);have f0:=keptF hb1 (a:=⟨w.heap.size+1,0,none⟩) (v:=.string ⟨#[]⟩) (by simp) (by simp);have f1:=keptF hb1 (a:=⟨w.heap.size+1,1,none⟩) (v:=.string ⟨#[]⟩) (by simp) (by simp);have f2:=keptF hb1 (a:=⟨w.heap.size+1,2,none⟩) (v:=.int .i64 0) (by simp) (by simp);have f3:=keptF hb1 (a:=⟨w.heap.size+1,3,none⟩) (v:=.string ⟨#[]⟩) (by simp) (by simp);have hbw:Below w.heap.size w w1:=bw;have HB1:=zh hbw;have hz1:w.heap.size+1 < w1.heap.size:=cell_lt e0;clear hb1 hbw;cases q1:(checkC c != 0);case true =>
  have HF:Hid (findC c nm=none):=by show _=_;unfold findC;rw [q1];rfl
  go_wp2;refine bodyPost_ret (v:=.tuple #[licV noLic,.bool false]) ?_ rfl ⟨by rw [HF.out];rfl,by have hq:=HB1.out;exact bw⟩;simp [results,Tryz.results70,go_sem,e0,e1,e2,e3,licV,noLic]
 have HQ:=zh q1;go_wp2_with fail
 refine (find_ref _ _ _ _ _ nm c.licenses (L0.out.mono HB1.out)).mono ?_;rintro e w2 ⟨rfl,hb2⟩;have d0':=kept hb2 d0;have d1':=kept hb2 d1;have d2':=kept hb2 d2;have d3':=kept hb2 d3;have e0':=kept hb2 e0;have e1':=kept hb2 e1;have e2':=kept hb2 e2;have e3':=kept hb2 e3;have f0':=keptF hb2 e0 f0;have f1':=keptF hb2 e1 f1;have f2':=keptF hb2 e2 f2;have f3':=keptF hb2 e3 f3;have HB2:=zh (HB1.out.trans (hb2.mono HB1.out.size));have hz2:w.heap.size+1 < w2.heap.size:=cell_lt e0';clear d0 d1 d2 d3 e0 e1 e2 e3 f0 f1 f2 f3 hb2 HB1 hz1;rcases find_look (nm:=nm) (ls:=c.licenses) (i:=0) (by omega) with ⟨hf,hl⟩ | ⟨j,x,hf,hx,hl⟩
 ·have q2:decide (findFrom nm c.licenses 0 < 0)=true:=by simpa using hf
  have HF:Hid (findC c nm=none):=by show _=_;unfold findC;rw [HQ.out];exact hl
  clear hf hl;go_wp2;refine bodyPost_ret (v:=.tuple #[licV noLic,.bool false]) ?_ rfl ⟨by rw [HF.out];rfl,by have hq:=HB2.out;exact bw⟩;simp [results,Tryz.results70,go_sem,e0',e1',e2',e3',licV,noLic]
 ·have q2:decide (findFrom nm c.licenses 0 < 0)=false:=by simp;omega
  have HF:Hid (findC c nm=some x):=by show _=_;unfold findC;rw [HQ.out];exact hl
  have hjl:j < N0:=by rw [← HN.out];exact lt_get hx
  have HJ:Hid (findFrom nm c.licenses 0=(j:Int)):=by show _=_;rw [hf];omega
  obtain ⟨b,off,rfl,hb,g0,g1,g2,g3,-⟩:=License.at_row (R0.out.mono HB2.out) hx;have hb0:b < w.heap.size:=by
   obtain ⟨b',off',he,hb',-⟩:=License.at_row R0.out hx;cases he;exact hb'
  clear hx hf hl hb;have hbn:b≠w.heap.size+1:=by omega
  have hj0:(0:Int)≤(j:Int):=by omega
  have hj1:(j:Int) < (N0:Int):=by omega
  go_wp2_with fail
  go_region_held3 (fun w'=>w'.cell? ⟨w.heap.size,0,none⟩=some (.slice (some ⟨b,off,none⟩) N0 c0)∧w'.cell? ⟨w.heap.size,1,none⟩=some (.slice a1 N1 c1)∧w'.cell? ⟨w.heap.size,2,none⟩=some (.slice a2 N2 c2)∧w'.cell? ⟨w.heap.size,3,none⟩=some (.slice a3 N3 c3)∧w'.cell? ⟨b,off+j * 4,none⟩=some (.string x.name)∧w'.cell? ⟨b,off+j * 4+1,none⟩=some (.string x.family)∧w'.cell? ⟨b,off+j * 4+2,none⟩=some (.int .i64 x.version)∧w'.cell? ⟨b,off+j * 4+3,none⟩=some (.string x.text))
   (first | exact ⟨kept hb3 (by simpa using d0'),kept hb3 (by simpa using d1'),kept hb3 (by simpa using d2'),kept hb3 (by simpa using d3'),kept hb3 (by simpa using g0),kept hb3 (by simpa using g1),kept hb3 (by simpa using g2),kept hb3 (by simpa using g3)⟩ | exact ⟨keep4 (kept hb3 (by simpa using d0')) (by simp),keep4 (kept hb3 (by simpa using d1')) (by simp),keep4 (kept hb3 (by simpa using d2')) (by simp),keep4 (kept hb3 (by simpa using d3')) (by simp),keep4 (kept hb3 (by simpa using g0)) hbn,keep4 (kept hb3 (by simpa using g1)) hbn,keep4 (kept hb3 (by simpa using g2)) hbn,keep4 (kept hb3 (by simpa using g3)) hbn⟩ | (go_keep;done))
   ((go_at_call 128;(with_reducible refine (find_ref _ _ _ _ _ nm c.licenses ?_).mono ?_);(focus (exact L0.out.mono HB2.out.drew));rintro e w3 ⟨rfl,hb3⟩;rw [HJ.out];have ee0:=kept (a:=⟨w.heap.size+1,0,none⟩) (v:=.string ⟨#[]⟩) hb3 (by simpa using e0');have ee1:=kept (a:=⟨w.heap.size+1,1,none⟩) (v:=.string ⟨#[]⟩) hb3 (by simpa using e1');have ee2:=kept (a:=⟨w.heap.size+1,2,none⟩) (v:=.int .i64 0) hb3 (by simpa using e2');have ee3:=kept (a:=⟨w.heap.size+1,3,none⟩) (v:=.string ⟨#[]⟩) hb3 (by simpa using e3');have ff0:=keptF (a:=⟨w.heap.size+1,0,none⟩) (v:=.string ⟨#[]⟩) hb3 (by simpa using e0') (by simpa using f0');have ff1:=keptF (a:=⟨w.heap.size+1,1,none⟩) (v:=.string ⟨#[]⟩) hb3 (by simpa using e1') (by simpa using f1');have ff2:=keptF (a:=⟨w.heap.size+1,2,none⟩) (v:=.int .i64 0) hb3 (by simpa using e2') (by simpa using f2');have ff3:=keptF (a:=⟨w.heap.size+1,3,none⟩) (v:=.string ⟨#[]⟩) hb3 (by simpa using e3') (by simpa using f3')))
  all_goals
   go_wp2;refine bodyPost_ret (v:=.tuple #[licV x,.bool true]) ?_ rfl ⟨by rw [HF.out];rfl,?_⟩
   ·simp [results,Tryz.results70,go_sem,ee0,ee1,ee2,ee3,licV,noLic]
   ·have hq:=HB2.out.drew;have hqs:=hq.size;have hq3:=hq.trans (hb3.mono hqs);have hq3s:=hq3.size;exact bw
def LOut (o:Option (List Int)) (w:World) (e:Ending) (w':World):Prop:=∃ s,e=.returned (.tuple #[s,.bool o.isSome])∧Is w' s (o.getD [])∧Below w.heap.size w w'
theorem lifts_ref (w:World) (x0:Value) (c:Catalog) (t:Term) (h:Is w x0 c) :
  Calls Tryz.prog 232 #[x0,.agg #[.string t.license,.string t.exception]] w fun e w'=>LOut (liftsR c t) w e w':=by
 obtain ⟨a0,c0,a1,c1,a2,c2,a3,c3,rfl,l0,m0,r0,l1,m1,r1,l2,m2,r2,l3,m3,r3⟩:=Catalog.inv h;have R1:=zh r1;have n1:c.exceptions.length≤9223372036854775807:=by simp only [maxLen] at m1;omega
 clear h r0 r1 r2 r3 m0 m1 m2 m3 l1 l2 l3 l0;generalize hN:c.exceptions.length=N1 at *;have HN:=zh hN;clear hN;generalize c.licenses.length=N0 at *;generalize c.clauses.length=N2 at *;generalize c.apart.length=N3 at *;cases q0:t.exception.toList.isEmpty;case true =>
  have HF:Hid (liftsR c t=some []):=by show _=_;unfold liftsR;rw [q0];rfl
  go_enter Tryz.func232,Tryz.ntmps232;go_wp2;refine bodyPost_ret (v:=.tuple #[.slice none 0 0,.bool true]) (by simp [results,Tryz.results232,go_sem]) rfl ?_;unfold LOut;exact ⟨.slice none 0 0,by rw [HF.out];rfl,by rw [HF.out];exact nil_mk _,bw⟩
 have HF:Hid (liftsR c t=liftsL t c.exceptions):=by show _=_;unfold liftsR;rw [q0];rfl
 go_enter Tryz.func232,Tryz.ntmps232;go_wp2;have hbw2:Below w.heap.size w ((w.alloc (.cells #[.slice a0 N0 c0,.slice a1 N1 c1,.slice a2 N2 c2,.slice a3 N3 c3] 27)).alloc (.cells #[.string t.license,.string t.exception] 61)):=bw;have HB2:=zh hbw2;have d1':((w.alloc (.cells #[.slice a0 N0 c0,.slice a1 N1 c1,.slice a2 N2 c2,.slice a3 N3 c3] 27)).alloc (.cells #[.string t.license,.string t.exception] 61)).cell? ⟨w.heap.size,1,none⟩=some (.slice a1 N1 c1):=by simp
 have e0':((w.alloc (.cells #[.slice a0 N0 c0,.slice a1 N1 c1,.slice a2 N2 c2,.slice a3 N3 c3] 27)).alloc (.cells #[.string t.license,.string t.exception] 61)).cell? ⟨w.heap.size+1,0,none⟩=some (.string t.license):=by simp
 have e1':((w.alloc (.cells #[.slice a0 N0 c0,.slice a1 N1 c1,.slice a2 N2 c2,.slice a3 N3 c3] 27)).alloc (.cells #[.string t.license,.string t.exception] 61)).cell? ⟨w.heap.size+1,1,none⟩=some (.string t.exception):=by simp
 clear hbw2;generalize (w.alloc (.cells #[.slice a0 N0 c0,.slice a1 N1 c1,.slice a2 N2 c2,.slice a3 N3 c3] 27)).alloc (.cells #[.string t.license,.string t.exception] 61)=w2 at *;have hy1:w.heap.size < w2.heap.size:=cell_lt d1';have hy2:w.heap.size+1 < w2.heap.size:=cell_lt e1';go_loopw [6] (fun kv wr=>∃ k:Nat,0≤k∧k≤N1+0∧kv=.int .i64 k∧Below (w2).heap.size (w2) wr∧Hid (liftsL t c.exceptions=liftsL t (c.exceptions.drop k))) (fun kv _=>N1 - (intOf kv).toNat)
 case atStart=>exact ⟨0,by omega,by omega,rfl,bw,rfl⟩
 case round =>
  obtain ⟨k,hlo,hk,rfl,hbr0,hf⟩:=hrel;have hbr:=zh hbr0;clear hbr0;have g1:=kept hbr.out d1';have g2:=kept hbr.out e0';have g3:=kept hbr.out e1';by_cases hki:k < N1
  ·obtain ⟨x,hx⟩:=get_lt (xs:=c.exceptions) (k:=k) (by rw [HN.out];exact hki);have hd:=zh (drop_at hx);obtain ⟨b,off,rfl,hb,ya,yc,y0',y1',y2',_,_,hyl,hyc,hyr⟩:=Exc.at_row (R1.out.mono HB2.out) hx;have y0:=kept hbr.out y0';have y1:=kept hbr.out y1';have y2:=kept hbr.out y2';have HY:=zh (list_mk hyl hyc hyr);have hs3:b < wr.heap.size:=cell_lt y0;clear hx hyr y0' y1' y2' hyl hyc;cases q1:(x.name.toList == t.exception.toList);case true =>
    cases q2:(x.license.toList == t.license.toList);case true =>
     have HQ:Hid (liftsR c t=some x.lifts):=by
      show _=_;rw [HF.out,hf.out,hd.out,liftsL_cons];simp [excIs,q1,q2]
     generalize x.lifts.length=NX at *;go_wp2;go_quiet (fail)
     go_wp2;refine bodyPost_ret (v:=.tuple #[.slice ya NX yc,.bool true]) (by simp [results,Tryz.results232,go_sem]) rfl ?_;unfold LOut;exact ⟨.slice ya NX yc,by rw [HQ.out];rfl,by rw [HQ.out];exact HY.out.mono (by have hq:=hbr.out;have hqs:=hq.size;exact bw),by have hq:=HB2.out;have hqs:=hq.size;have hr:=hbr.out;have hrs:=hr.size;exact bw⟩
    go_wp2;go_quiet (fail)
    go_wp2;go_roundw
    case rel=>exact ⟨k+1,by omega,by omega,by go_num,(by have hr:=hbr.out;have hrs:=hr.size;exact bw),by show _=_;rw [hf.out,hd.out,liftsL_cons];simp [excIs,q1,q2]⟩
    case measure=>exact zm
   go_wp2;go_quiet (fail)
   go_wp2;go_roundw
   case rel=>exact ⟨k+1,by omega,by omega,by go_num,(by have hr:=hbr.out;have hrs:=hr.size;exact bw),by show _=_;rw [hf.out,hd.out,liftsL_cons];simp [excIs,q1]⟩
   case measure=>exact zm
  ·have HQ:Hid (liftsR c t=none):=by
    show _=_;rw [HF.out,hf.out,List.drop_eq_nil_of_le (by rw [HN.out];omega)];rfl
   go_wp2;refine bodyPost_ret (v:=.tuple #[.slice none 0 0,.bool false]) (by simp [results,Tryz.results232,go_sem]) rfl ?_;unfold LOut;exact ⟨.slice none 0 0,by rw [HQ.out];rfl,by rw [HQ.out];exact nil_mk _,by have hq:=HB2.out;have hqs:=hq.size;have hr:=hbr.out;have hrs:=hr.size;exact bw⟩
theorem row_str_agree {E:TypeId→Prop} {w w1 w2:World} {a:Option Addr} {xs:List ByteArray} (h:Row w a xs) (hb:Below w.heap.size w w1) (hA:Agree w.heap.size E w1 w2):Row w2 a xs:=by
 intro i x hx;obtain ⟨b,off,ha,hlt,hi⟩:=h i x hx;have e:w2.heap[b]?=w.heap[b]?:=by rw [hA.2 b (Nat.lt_of_lt_of_le hlt hb.size) (.inl hlt),hb.block b hlt]
 refine ⟨b,off,ha,Nat.lt_of_lt_of_le hlt (Nat.le_trans hb.size hA.1),?_⟩;refine Lay.congr (fun j _=>?_) (show Lay.is w2 (fun j=>w.cell? ⟨b,off+i * Lay.n ByteArray+j,none⟩) x from hi);simp only [World.cell?,e]
theorem Known_ref (w:World) (x0:Value) (c:Catalog) (t:Term) (h:Is w x0 c) :
  Calls Tryz.prog 186 #[x0,.agg #[.string t.license,.string t.exception]] w fun e w'=>e=.returned (.bool (liftsC c t).isSome)∧Below w.heap.size w w':=by
 have HI:=zh h;obtain ⟨a0,c0,a1,c1,a2,c2,a3,c3,rfl,l0,m0,r0,l1,m1,r1,l2,m2,r2,l3,m3,r3⟩:=Catalog.inv h;have L0:=zh (list_mk l0 m0 r0);clear h r0 r1 r2 r3 m0 m1 m2 m3 l1 l2 l3 l0;generalize c.licenses.length=N0 at *;generalize c.exceptions.length=N1 at *;generalize c.clauses.length=N2 at *;generalize c.apart.length=N3 at *;go_enter Tryz.func186,Tryz.ntmps186;go_wp2_with fail
 refine (Check_ref _ _ c (HI.out.mono bw)).mono ?_;rintro e w1 ⟨rfl,hb1⟩;have d0:=kb w hb1 0 (.slice a0 N0 c0);have d1:=kb w hb1 1 (.slice a1 N1 c1);have d2:=kb w hb1 2 (.slice a2 N2 c2);have d3:=kb w hb1 3 (.slice a3 N3 c3);have e0:=kb1 w hb1 0 (.string t.license);have e1:=kb1 w hb1 1 (.string t.exception);have hbw:Below w.heap.size w w1:=bw;have HB1:=zh hbw;have hz1:w.heap.size+1 < w1.heap.size:=cell_lt e0;clear hb1 hbw;cases q1:(checkC c != 0);case true =>
  have HF:Hid (liftsC c t=none):=known_check c t (by simpa using q1);go_wp2;go_ret;exact ⟨ret_b (by rw [HF.out];rfl),by have hq:=HB1.out;exact bw⟩
 have HQ:=zh q1;go_wp2_with fail
 refine (find_ref _ _ _ _ _ t.license c.licenses (L0.out.mono HB1.out)).mono ?_;rintro e w2 ⟨rfl,hb2⟩;have d0':=kept hb2 d0;have d1':=kept hb2 d1;have d2':=kept hb2 d2;have d3':=kept hb2 d3;have e0':=kept hb2 e0;have e1':=kept hb2 e1;have HB2:=zh (HB1.out.trans (hb2.mono HB1.out.size));have hz2:w.heap.size+1 < w2.heap.size:=cell_lt e0';clear d0 d1 d2 d3 e0 e1 hb2 HB1 hz1;cases q2:decide (findFrom t.license c.licenses 0 < 0);case true =>
  have HF:Hid (liftsC c t=none):=known_find c t (by simpa using q2);go_wp2;go_ret;exact ⟨ret_b (by rw [HF.out];rfl),by have hq:=HB2.out;exact bw⟩
 have HF:Hid (liftsC c t=liftsR c t):=known_eq c t (by simpa using HQ.out) (by simpa using q2);generalize findFrom t.license c.licenses 0=ff at *;generalize checkC c=ck at *;go_wp2_with fail
 refine (lifts_ref _ _ c t (HI.out.mono HB2.out)).mono ?_;unfold LOut;rintro e w3 ⟨s,rfl,hs,hb3⟩;rw [← HF.out];have HB3:=zh (HB2.out.trans (hb3.mono HB2.out.size));clear hs hb3;obtain ⟨sm,hsm⟩:∃ sm,sm=(liftsC c t).isSome:=⟨_,rfl⟩
 rw [← hsm];have HSM:=zh hsm;clear hsm;go_wp2;go_ret;exact ⟨ret_b HSM.out,HB3.out⟩
theorem laterR_succ (c:Catalog) (x:License) (n:Nat):laterR c x (n+1)=laterR c x n++c.licenses.filter (famVer x (x.version+n)):=by
 unfold laterR;rw [numsFrom_snoc,List.flatMap_append];simp
theorem laterR_len (c:Catalog) (x:License):∀ n,(laterR c x n).length≤n * c.licenses.length
 | 0=>by simp [laterR,numsFrom]
 | n+1=>by
  rw [laterR_succ,List.length_append,Nat.succ_mul];have:=laterR_len c x n;have:=List.length_filter_le (famVer x (x.version+n)) c.licenses;omega
theorem lic_vers {c:Catalog} (h:checkC c=0) {x:License} (hx:x∈c.licenses):0≤x.version∧x.version≤999:=by
 obtain ⟨p,hp⟩:=firstErr_all (check_parts h).1 x hx;unfold licErr at hp;repeat' split at hp
 all_goals try (cases hp;done)
 rename_i h2 _ _ _ _
 simp only [Bool.or_eq_true,decide_eq_true_eq,not_or,Int.not_lt] at h2;exact h2
def LaOut (o:Option (List ByteArray)) (k:Int) (w:World) (e:Ending) (w':World):Prop:=∃ s,e=.returned (.tuple #[s,.int .i64 k])∧Is w' s (o.getD [])∧Below w.heap.size w w'
theorem zqlooku0 {p:Prop} (h:p:=by
 refine ⟨k+1,by omega,by go_num,zh (hbr.out.drewN _),?_⟩;show OwnV _ _ _ _ _ _;rw [HT.out,HP.out];simpa using HO.out.below bw):p:=h
theorem zrlooku0 {p:Prop} (h:p:=by
 go_wp2;go_quiet (fail)
 go_wp2;go_roundw
 case rel =>exact zqlooku0
 case measure=>exact zm):p:=h
theorem Later_ref (w:World) (x0:Value) (c:Catalog) (nm:ByteArray) (h:Is w x0 c) :
  Calls Tryz.prog 152 #[x0,.string nm] w fun e w'=>LaOut (laterC c nm) (laterE c nm) w e w':=by
 have HI:=zh h;obtain ⟨a0,c0,a1,c1,a2,c2,a3,c3,rfl,l0,m0,r0,l1,m1,r1,l2,m2,r2,l3,m3,r3⟩:=Catalog.inv h;have R0:=zh r0;have n0:c.licenses.length≤9223372036854775807:=by simp only [maxLen] at m0;omega
 clear h r0 r1 r2 r3 m0 m1 m2 m3 l1 l2 l3 l0;generalize hN:c.licenses.length=N0 at *;have HN:=zh hN;clear hN;generalize c.exceptions.length=N1 at *;generalize c.clauses.length=N2 at *;generalize c.apart.length=N3 at *;go_enter Tryz.func152,Tryz.ntmps152;go_wp2_with fail
 refine (Find_ref _ _ c _ (HI.out.mono bw)).mono ?_;rintro e w1 ⟨rfl,hb1⟩;have d0:=kb w hb1 0 (.slice a0 N0 c0);have hbw:Below w.heap.size w w1:=bw;have HB1:=zh hbw;have hz1:w.heap.size < w1.heap.size:=cell_lt d0;clear hb1 hbw;unfold licV;cases q1:findC c nm with
 | none =>
  have HF:Hid (laterC c nm=none):=by show _=_;unfold laterC;rw [q1];rfl
  have HE:Hid (laterE c nm=7):=by show _=_;unfold laterE;rw [q1]
  simp only [Option.isSome_none,Option.getD_none];go_wp2;refine bodyPost_ret (v:=.tuple #[.slice none 0 0,.int .i64 7]) (by simp [results,Tryz.results152,go_sem]) rfl ?_;unfold LaOut;exact ⟨.slice none 0 0,by rw [HE.out],by rw [HF.out];exact nil_mk _,by have hq:=HB1.out;have hqs:=hq.size;exact bw⟩
 | some z =>
 simp only [Option.isSome_some,Option.getD_some];have HF:Hid (laterC c nm=some ((laterL c z).map License.name)):=by show _=_;unfold laterC;rw [q1];rfl
 have HE:Hid (laterE c nm=0):=by show _=_;unfold laterE;rw [q1]
 obtain ⟨hck,hlk⟩:=find_check q1;have h32:N0≤32:=by rw [← HN.out];exact (check_parts hck).2.2.2.2.1
 have hv:=lic_vers hck (look_mem hlk).1;have HLR:=zh (laterR_eq hck (look_mem hlk).1)
 have HSZ:Hid (∀ y∈c.licenses,y.name.size≤maxLen):=fun y hy=>by
  obtain ⟨i,hi⟩:=List.getElem?_of_mem hy;obtain ⟨_,_,_,_,_,_,_,_,h,-⟩:=License.at_row R0.out hi;exact h
 have HLM:Hid (∀ y∈laterL c z,y∈c.licenses):=fun y hy=>(later_mem.1 hy).1;clear q1 hck hlk;obtain ⟨hv0,hv1⟩:=hv;obtain ⟨V,hV⟩:∃ V:Nat,z.version=(V:Int):=⟨z.version.toNat,by omega⟩
 have HV:=zh hV;rw [hV];have hV9:V≤999:=by omega
 clear hV hv0 hv1;go_wp2;have hbA:Below w1.heap.size w1 (w1.alloc (.cells #[.string z.name,.string z.family,.int .i64 (V:Int),.string z.text] 106)):=bw;have d0':=kept hbA d0;have e1':(w1.alloc (.cells #[.string z.name,.string z.family,.int .i64 (V:Int),.string z.text] 106)).cell? ⟨w1.heap.size,1,none⟩=some (.string z.family):=by simp
 have e2':(w1.alloc (.cells #[.string z.name,.string z.family,.int .i64 (V:Int),.string z.text] 106)).cell? ⟨w1.heap.size,2,none⟩=some (.int .i64 (V:Int)):=by simp
 have hbw2:Below w.heap.size w (w1.alloc (.cells #[.string z.name,.string z.family,.int .i64 (V:Int),.string z.text] 106)):=by have hq:=HB1.out;have hqs:=hq.size;exact bw
 have HB2:=zh hbw2;clear hbA hbw2 d0;generalize w1.alloc (.cells #[.string z.name,.string z.family,.int .i64 (V:Int),.string z.text] 106)=w2 at *;have hy1:w.heap.size < w2.heap.size:=cell_lt d0';have hy2:w1.heap.size < w2.heap.size:=cell_lt e1';go_loopw [8,9] (fun vo vv wr=>∃ n:Nat,V+n≤1000∧vv=.int .i64 ((V+n:Nat):Int)∧Hid (Below w2.heap.size w2 wr)∧Hid (OwnV Value.string w2.heap.size 9 wr vo ((laterR c z n).map License.name))) (fun _ vv _=>1000 - (intOf vv).toNat)
 case atStart=>exact ⟨0,by omega,rfl,zh (Below.refl _ _),by show OwnV _ _ _ _ _ _;exact OwnV.nil _ _ _ _⟩
 case round =>
  obtain ⟨n,hn,rfl,hbr,HO⟩:=hrel;have g0:=kept hbr.out d0';have g1:=kept hbr.out e1';have g2:=kept hbr.out e2';have hwr:w2.heap.size≤wr.heap.size:=hbr.out.size;by_cases hni:V+n < 1000
  ·have hle:((V+n:Nat):Int)≤999:=by omega
   have HRL:Hid ((laterR c z n).length≤32000):=by
    have h1:=laterR_len c z n;rw [HN.out] at h1;have h2:n * N0≤1000 * 32:=Nat.mul_le_mul (by omega) h32;exact Nat.le_trans h1 h2
   generalize hK:V+n=K at *;have HK:=zh hK;clear hK;go_wp2;go_loopw [8,10] (fun vo kv ws=>∃ k:Nat,k≤N0∧kv=.int .i64 k∧Hid (Below w2.heap.size w2 ws)∧Hid (OwnV Value.string w2.heap.size 9 ws vo ((laterR c z n++(c.licenses.take k).filter (famVer z (K:Int))).map License.name))) (fun _ kv _=>N0 - (intOf kv).toNat)
   case atStart=>exact ⟨0,by omega,rfl,hbr,by show OwnV _ _ _ _ _ _;have:=HO.out;simpa using this⟩
   case round =>
    clear g0 g1 g2 HO hbr hwr;obtain ⟨k,hk,rfl,hbr,HO⟩:=hrel;have g0:=kept hbr.out d0';have g1:=kept hbr.out e1';have g2:=kept hbr.out e2';have hwr:w2.heap.size≤wr.heap.size:=hbr.out.size;by_cases hki:k < N0
    ·obtain ⟨x,hx⟩:=get_lt (xs:=c.licenses) (k:=k) (by rw [HN.out];exact hki);have HT:Hid ((c.licenses.take (k+1)).filter (famVer z (K:Int))=(c.licenses.take k).filter (famVer z (K:Int))++(if famVer z (K:Int) x then [x] else [])):=by
      show _=_;rw [take_at hx,List.filter_append];simp [List.filter_cons]
     obtain ⟨b,off,rfl,hb,y0',y1',y2',y3',-⟩:=License.at_row (R0.out.mono HB2.out) hx;have y0:=kept hbr.out y0';have y1:=kept hbr.out y1';have y2:=kept hbr.out y2';have y3:=kept hbr.out y3';have hs3:b < wr.heap.size:=cell_lt y0;clear hx y0' y1' y2' y3';cases q1:(x.family.toList == z.family.toList);case true =>
      cases q2:(x.version == (K:Int));case true =>
       have HP:Hid (famVer z (K:Int) x=true):=by show _=_;unfold famVer seq;rw [q1,q2];rfl
       go_wp2;go_quiet (fail)
       go_wp2_with (at_builtin;refine app_ow rfl _ _ rfl w2.heap.size _ _ rfl (HO.out.below ?c0) x.name ?cx ?c3 ?c4 ?_)
       case c0=>exact bw
       case cx=>(show Value.slice (some ⟨wr.heap.size,0,none⟩) 1 1=_;simp)
       case c3 =>
        have h1:=HRL.out;have h2:=List.length_filter_le (famVer z (K:Int)) (c.licenses.take k);have h3:=List.length_take_le k c.licenses;rw [List.length_map,List.length_append];omega
       case c4=>simp;omega
       intro v' w3 ho hb4 hsz;have HO3:=zh ho;have HB5:Hid (Below w2.heap.size w2 w3):=by
        have hq:=hbr.out;show Below _ _ _;exact Below.trans (by exact bw) hb4
       clear ho hb4 hsz;go_wp2;go_roundw
       case rel =>
        refine ⟨k+1,by omega,by go_num,HB5,?_⟩;show OwnV _ _ _ _ _ _;have ho3:=HO3.out;rw [HT.out,HP.out,if_pos rfl];simpa using ho3
       case measure=>exact zm
      have HP:Hid (famVer z (K:Int) x=false):=by show _=_;unfold famVer seq;rw [q1,q2];rfl
      exact zrlooku0
     have HP:Hid (famVer z (K:Int) x=false):=by show _=_;unfold famVer seq;rw [q1];rfl
     exact zrlooku0
    ·have HQ:Hid (laterR c z n++(c.licenses.take k).filter (famVer z (K:Int))=laterR c z (n+1)):=by
      show _=_;rw [laterR_succ,List.take_of_length_le (by rw [HN.out];omega),HV.out,← HK.out];simp
     go_wp2;go_roundw
     case rel =>
      refine ⟨n+1,by have:=HK.out;omega,by have:=HK.out;go_num,hbr,?_⟩;show OwnV _ _ _ _ _ _;rw [← HQ.out];exact HO.out
     case measure=>have:=HK.out;simp [intOf];omega
  ·obtain rfl:n=1000 - V:=by omega
   have hgt:¬ ((V+(1000 - V):Nat):Int)≤999:=by omega
   have hv9:V+(1000 - V)=1000:=by omega
   rw [hv9];clear hgt hv9 hni hn;go_wp2;refine bodyPost_ret (v:=.tuple #[u8,.int .i64 0]) (by simp [results,Tryz.results152,go_sem]) rfl ?_;unfold LaOut;refine ⟨u8,by rw [HE.out],?_,by have hq:=HB2.out;have hqs:=hq.size;have hr:=hbr.out;have hrs:=hr.size;exact bw⟩;rw [HF.out];have ho:=HO.out;have e1:=HLR.out;rw [HV.out,show (1000 - (V:Int)).toNat=1000 - V by omega] at e1;rw [e1] at ho
   exact ho.strs (fun s hs=>by
    obtain ⟨y,hy,rfl⟩:=List.mem_map.1 hs;exact HSZ.out y (HLM.out y hy))
end Go.Proofs.YtcbopdbbcgdkcaaGreatDoor
