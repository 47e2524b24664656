/- Plain: the choice of the next index is greater (for DutyOrder). -/
import Derived.Test.YtcbopdbbcgdkcaaGreatDoorJDuE
import Derived.Test.YtcbopdbbcgdkcaaGreatDoorJR33U
import Derived.Test.YtcbopdbbcgdkcaaGreatDoorJHedU
set_option linter.all false
namespace Go.Proofs.YtcbopdbbcgdkcaaGreatDoor
open Go

def ixT (l:List (List Term)) (a:List Term):Int:=idxP (fun x=>decide (x=a)) l
def ixO (c:Catalog) (s:ByteArray):Int:=idxP (fun l=>seq l.name s) c.licenses
def cmpT:List (List (List Term))→List (List Term)→List (List Term)→Int
 | l :: ls,a :: aa,b :: bb=>if ixT l a=ixT l b then cmpT ls aa bb else ixT l a - ixT l b
 | _,_,_=>0
def cmpO (c:Catalog):List ByteArray→List ByteArray→Int
 | s :: ss,t :: tt=>if ixO c s=ixO c t then cmpO c ss tt else ixO c s - ixO c t
 | _,_=>0
def cmpC (c:Catalog) (ts:List (List (List Term))) (a b:Choice):Int:=if cmpT ts a.terms b.terms=0 then cmpO c a.own b.own else cmpT ts a.terms b.terms
theorem ixT_at {l:List (List Term)} (h:l.Nodup) {d:Nat} (hd:d < l.length):ixT l ((l[d]?).getD [])=d:=by
 have hg:l[d]?=some l[d]:=List.getElem?_eq_getElem hd
 unfold ixT
 rw [hg]
 refine idxP_hit hg (by simp) ?_
 rw [List.any_eq_false]
 intro x hx
 rw [← List.take_append_drop d l,drop_at hg] at h
 have:=(List.nodup_append.1 h).2.2 x hx l[d] (List.mem_cons_self ..)
 simpa using this
theorem ixO_at {c:Catalog} (h:(c.licenses.map License.name).Nodup) {d:Nat} (hd:d < c.licenses.length):ixO c (((c.licenses[d]?).map License.name).getD ByteArray.empty)=d:=by
 have hg:c.licenses[d]?=some c.licenses[d]:=List.getElem?_eq_getElem hd
 unfold ixO
 rw [hg]
 refine idxP_hit hg (by show seq _ _=true;rw [seq_eq];simp) ?_
 rw [List.any_eq_false]
 intro x hx
 rw [← List.take_append_drop d c.licenses,drop_at hg,List.map_append] at h
 have:=(List.nodup_append.1 h).2.2 x.name (List.mem_map.2 ⟨x,hx,rfl⟩) c.licenses[d].name (by rw [List.map_cons];exact List.mem_cons_self ..)
 show ¬ seq x.name c.licenses[d].name=true
 rw [seq_eq]
 simpa using this
theorem cmpT_dig:∀ (ts:List (List (List Term))) (da db:List Nat),(∀ l∈ts,l.Nodup)→(∀ (i:Nat) (l:List (List Term)) (d:Nat),ts[i]?=some l→da[i]?=some d→d < l.length) →
  (∀ (i:Nat) (l:List (List Term)) (d:Nat),ts[i]?=some l→db[i]?=some d→d < l.length)→ts.length≤da.length→ts.length≤db.length→cmpT ts (choiceT ts da) (choiceT ts db)=lexN (da.take ts.length) (db.take ts.length)
 | [],da,db,_,_,_,_,_=>by simp [cmpT,lexN]
 | l :: ts,[],db,_,_,_,h,_=>by simp at h
 | l :: ts,d :: da,[],_,_,_,_,h=>by simp at h
 | l :: ts,d :: da,e :: db,hn,h1,h2,h3,h4=>by
  have ih:=cmpT_dig ts da db (fun m hm=>hn m (by simp [hm])) (fun i m f hm hf=>h1 (i+1) m f (by simpa using hm) (by simpa using hf)) (fun i m f hm hf=>h2 (i+1) m f (by simpa using hm) (by simpa using hf)) (by simpa using h3) (by simpa using h4)
  have hd:=h1 0 l d rfl rfl
  have he:=h2 0 l e rfl rfl
  rw [choiceT,choiceT,cmpT,ixT_at (hn l (by simp)) hd,ixT_at (hn l (by simp)) he,ih,List.length_cons,List.take_succ_cons,List.take_succ_cons,lexN]
  by_cases q:d=e
  ·rw [if_pos q,if_pos (by rw [q])]
  ·rw [if_neg q,if_neg (by omega)]
theorem cmpO_dig {c:Catalog} (h:(c.licenses.map License.name).Nodup):∀ (da db:List Nat),(∀ d∈da,d < c.licenses.length)→(∀ d∈db,d < c.licenses.length)→da.length=db.length→cmpO c (choiceO c da) (choiceO c db)=lexN da db
 | [],db,_,_,hl=>by cases db with
  | nil=>rfl
  | cons e db=>simp at hl
 | d :: da,[],_,_,hl=>by simp at hl
 | d :: da,e :: db,h1,h2,hl=>by
  have ih:=cmpO_dig h da db (fun f hf=>h1 f (by simp [hf])) (fun f hf=>h2 f (by simp [hf])) (by simpa using hl)
  have e1:choiceO c (d :: da)=((c.licenses[d]?).map License.name).getD ByteArray.empty :: choiceO c da:=rfl
  have e2:choiceO c (e :: db)=((c.licenses[e]?).map License.name).getD ByteArray.empty :: choiceO c db:=rfl
  rw [e1,e2,cmpO,ixO_at h (h1 d (by simp)),ixO_at h (h2 e (by simp)),ih,lexN]
  by_cases q:d=e
  ·rw [if_pos q,if_pos (by rw [q])]
  ·rw [if_neg q,if_neg (by omega)]
theorem lexN_app:∀ (a b a' b':List Nat),a.length=b.length→lexN (a++a') (b++b')=if lexN a b=0 then lexN a' b' else lexN a b
 | [],[],a',b',_=>by simp [lexN]
 | [],y :: b,_,_,h=>by simp at h
 | x :: a,[],_,_,h=>by simp at h
 | x :: a,y :: b,a',b',h=>by
  rw [List.cons_append,List.cons_append,lexN,lexN,lexN_app a b a' b' (by simpa using h)]
  by_cases q:x=y
  ·rw [if_pos q,if_pos q]
  ·rw [if_neg q,if_neg q,if_neg (by omega)]
theorem count_eq {c:Catalog} {x:List Fact} {n:Nat} (h:(countC c x).2=0) (hn:(n:Int) < (countC c x).1) :
  (valuesC c x).2.2=0∧totalR (radC c (valuesC c x).1 (valuesC c x).2.1)≤4096∧n < totalR (radC c (valuesC c x).1 (valuesC c x).2.1)∧nthC c x n=(choiceC c (valuesC c x).1 (valuesC c x).2.1 n,0):=by
 have hv0:(valuesC c x).2.2=0:=by
  unfold countC at h
  by_cases q:((valuesC c x).2.2 == 0)=true
  ·simpa using q
  ·rw [if_neg q] at h;exact h
 have hc:countC c x=if 4096 < totalR (radC c (valuesC c x).1 (valuesC c x).2.1) then (0,10) else ((totalR (radC c (valuesC c x).1 (valuesC c x).2.1):Int),0):=by
  unfold countC;rw [if_pos (by simpa using hv0)]
 by_cases q:4096 < totalR (radC c (valuesC c x).1 (valuesC c x).2.1)
 ·rw [hc,if_pos q] at h;cases h
 rw [if_neg q] at hc
 refine ⟨hv0,by omega,by rw [hc] at hn;simp only at hn;omega,?_⟩
 unfold nthC
 rw [if_pos (by rw [h];rfl),if_neg (by
  rw [Bool.or_eq_true,decide_eq_true_iff,decide_eq_true_iff]
  omega)]
 rfl
theorem case_check {c:Catalog} {x:List Fact} (h:(valuesC c x).2.2=0):checkC c=0:=by
 unfold valuesC at h
 by_cases q:((caseE c x).2 == 0)=true
 ·have q0:(caseE c x).2=0:=by simpa using q
  unfold caseE at q0
  by_cases k:checkC c=0
  ·exact k
  ·rw [if_pos (by simp [k])] at q0;cases q0
 ·rw [if_neg q] at h
  exact absurd (by simpa using h) q
theorem nth_next {c:Catalog} {x:List Fact} {n:Nat} (h:(countC c x).2=0) (hn:(n:Int)+1 < (countC c x).1):cmpC c (valuesC c x).1 (nthC c x n).1 (nthC c x ((n+1:Nat):Int)).1 < 0:=by
 obtain ⟨hv0,h4,h5,e1⟩:=count_eq (n:=n) h (by omega)
 obtain ⟨-,-,h6,e2⟩:=count_eq (n:=n+1) h (by omega)
 have hv:=values_ok hv0
 have hpos:=total_pos2 (l:=radC c (valuesC c x).1 (valuesC c x).2.1) (by omega)
 have hnx:=total_next h6 h4
 have hln:=lic_nodup (checkC_lics (by rw [case_check hv0];rfl):firstErr licErr [] c.licenses=0)
 have hnd:∀ l∈(valuesC c x).1,l.Nodup:=fun l hl=>by
  have hm:=(checkA_ok.1 (hv.ok l hl).1).1.ord
  exact hm.imp fun hc he=>by subst he;exact acmp_to.irr _ hc
 have hr1:∀ (i:Nat) (l:List (List Term)),(valuesC c x).1[i]?=some l→(radC c (valuesC c x).1 (valuesC c x).2.1)[i]?=some l.length:=fun i l hl=>by
  unfold radC
  obtain ⟨hi,-⟩:=List.getElem?_eq_some_iff.1 hl
  rw [List.getElem?_append_left (by simpa using hi),List.getElem?_map,hl];rfl
 have hr2:∀ j,j < (valuesC c x).2.1.length→(radC c (valuesC c x).1 (valuesC c x).2.1)[(valuesC c x).1.length+j]?=some c.licenses.length:=fun j hj=>by
  unfold radC
  rw [List.getElem?_append_right (by simp),List.length_map,Nat.add_sub_cancel_left,List.getElem?_map,List.getElem?_eq_getElem hj];rfl
 have hll:=rad_len c (valuesC c x).1 (valuesC c x).2.1
 have hda:=digits_len (radC c (valuesC c x).1 (valuesC c x).2.1) n
 have hdb:=digits_len (radC c (valuesC c x).1 (valuesC c x).2.1) (n+1)
 have hla:=fun i r d=>digits_lt (radC c (valuesC c x).1 (valuesC c x).2.1) n i r d hpos
 have hlb:=fun i r d=>digits_lt (radC c (valuesC c x).1 (valuesC c x).2.1) (n+1) i r d hpos
 rw [e1,e2]
 unfold choiceC cmpC
 simp only
 generalize (digitsR (radC c (valuesC c x).1 (valuesC c x).2.1) n).1=da at *
 generalize (digitsR (radC c (valuesC c x).1 (valuesC c x).2.1) (n+1)).1=db at *
 rw [cmpT_dig (valuesC c x).1 da db hnd (fun i l d hl hd=>hla i l.length d (hr1 i l hl) hd) (fun i l d hl hd=>hlb i l.length d (hr1 i l hl) hd) (by omega) (by omega)]
 have hmem:∀ (D:List Nat),D.length=(radC c (valuesC c x).1 (valuesC c x).2.1).length→(∀ i r d,(radC c (valuesC c x).1 (valuesC c x).2.1)[i]?=some r→D[i]?=some d→d < r)→∀ d∈D.drop (valuesC c x).1.length,d < c.licenses.length:=fun D hD hl d hd=>by
  obtain ⟨j,hj⟩:=List.mem_iff_getElem?.1 hd
  rw [List.getElem?_drop] at hj
  have hjl:=(List.getElem?_eq_some_iff.1 hj).1
  exact hl _ _ _ (hr2 j (by omega)) hj
 rw [cmpO_dig hln _ _ (hmem da hda hla) (hmem db hdb hlb) (by rw [List.length_drop,List.length_drop];omega)]
 rw [← lexN_app _ _ _ _ (by rw [List.length_take,List.length_take];omega),List.take_append_drop,List.take_append_drop]
 exact hnx
theorem count_zero {c:Catalog} {x:List Fact} (h:(countC c x).2≠0):(countC c x).1=0:=by
 unfold countC at *
 split
 ·rename_i q
  rw [if_pos q] at h
  split
  ·rfl
  ·rename_i q2;rw [if_neg q2] at h;exact absurd rfl h
 ·rfl
theorem count_vals {c:Catalog} {x:List Fact} (h:(countC c x).2=0):(valuesC c x).2.2=0:=by
 unfold countC at h
 by_cases q:((valuesC c x).2.2 == 0)=true
 ·simpa using q
 ·rw [if_neg q] at h;exact h
structure OrdO (c:Catalog) (x:List Fact) (ts:List (List (List Term))) (os:List ByteArray) (m:Int):Prop where
 small:∀ l∈ts,l.length≤64
 low:(nthC c x (-1)).2=3
 high:(nthC c x m).2=3
 nth:∀ n:Nat,(n:Int) < m→(nthC c x n).2=0∧(nthC c x n).1.terms.length=ts.length∧(nthC c x n).1.own.length=os.length∧choiceE c x (nthC c x n).1 false=0
 next:∀ n:Nat,(n:Int)+1 < m→cmpC c ts (nthC c x n).1 (nthC c x ((n+1:Nat):Int)).1 < 0
theorem ord_facts {c:Catalog} {x:List Fact} (h:(countC c x).2=0):OrdO c x (valuesC c x).1 (valuesC c x).2.1 (countC c x).1:=by
 refine ⟨fun l hl=>((values_ok (count_vals h)).ok l hl).2.2.1,?_,?_,fun n hn=>?_,fun n hn=>nth_next h hn⟩
 ·unfold nthC;rw [if_pos (by rw [h];rfl),if_pos (by simp)]
 ·unfold nthC;rw [if_pos (by rw [h];rfl),if_pos (by simp)]
 ·obtain ⟨h1,h2⟩:=nth_ok h hn
  exact ⟨h1,h2.terms,h2.own,h2.ok false⟩
end Go.Proofs.YtcbopdbbcgdkcaaGreatDoor
namespace Go.Proofs.YtcbopdbbcgdkcaaGreatDoor
open Go Go.RowKit Go.ChangeShapes Go.Lib Go.Shelf

theorem idxP_le {α:Type} (p:α→Bool) (xs:List α) : -1≤idxP p xs∧idxP p xs≤xs.length:=by
 unfold idxP
 cases h:xs.findIdx? p with
 | none=>simp only;omega
 | some k =>
  rw [List.findIdx?_eq_some_iff_getElem] at h
  obtain ⟨hk,-⟩:=h
  simp only;omega
set_option maxRecDepth 100000 in
theorem Cmp11_p (W:World) (gy gi:Nat) (v:Value) (a0 a1:Option Addr) (c0 c1 LO:Nat) (yt:List (List Term)) (x ya:List Term) (k:Nat) (h0:W.cell? ⟨gy,0,none⟩=some (.slice a0 yt.length c0)) (hi:W.cell? ⟨gi,0,none⟩=some (.int .i64 (k:Int)))
  (hr:Row W a0 yt) (hk:yt[k]?=some ya) (hv:Is W v x) (hm:yt.length≤9223372036854775807) :
  Calls Tryz.prog 75 (#[v]++#[.pointer (some ⟨gy,0,none⟩),.pointer (some ⟨gi,0,none⟩)]) W fun e w'=>e=.returned (.bool (decide (x=ya)))∧Below W.heap.size W w':=by
 have hlt:=lt_get hk
 obtain ⟨b,o,rfl,hb,a3,c3,y0,y1,y2,y3⟩:=list_at hr hk
 have hcall:=SameTerms_ref W v (.slice a3 ya.length c3) x ya hv (list_mk y1 y2 y3)
 obtain ⟨ax,cx,rfl,-⟩:=list_inv hv
 have hs1:=cell_lt h0
 have hs2:=cell_lt hi
 have hs3:=cell_lt y0
 have hkz:(k:Int) < (yt.length:Int):=by omega
 have hk0:(0:Int)≤(k:Int):=by omega
 clear hr hk hv y1 y2 y3 hb
 generalize decide (x=ya)=R at *
 generalize yt.length=LT at *
 generalize ya.length=LY at *
 generalize x.length=LX at *
 go_enter Tryz.func75,Tryz.ntmps75
 go_wp2_with fail
 refine hcall.mono ?_
 rintro e w1 ⟨rfl,hb1⟩
 clear hcall
 go_wp2
 go_ret
 exact ⟨rfl,hb1⟩
set_option maxRecDepth 100000 in
theorem Cmp1_p (W:World) (gt gi:Nat) (vt vy:Value) (ts:List (List (List Term))) (y:Choice) (k:Nat) (l:List (List Term)) (ya:List Term) (hct:W.cell? ⟨gt,0,none⟩=some vt) (hci:W.cell? ⟨gi,0,none⟩=some (.int .i64 (k:Int)))
  (ht:Is W vt ts) (hy:Is W vy y) (hl:ts[k]?=some l) (hya:y.terms[k]?=some ya) :
  Calls Tryz.prog 73 (#[vy]++#[.pointer (some ⟨gt,0,none⟩),.pointer (some ⟨gi,0,none⟩)]) W fun e w'=>e=.returned (.int .i64 (ixT l ya))∧Below W.heap.size W w':=by
 obtain ⟨yt,yo⟩:=y
 obtain ⟨a0,c0,a1,c1,rfl,l0,m0,r0,l1,m1,r1⟩:=Choice.inv hy
 obtain ⟨at0,ct,rfl,hnt,hmt,hrt⟩:=list_inv ht
 have hlt:=lt_get hl
 obtain ⟨b,o,rfl,hb,a3,c3,y0,y1,y2,y3⟩:=list_at hrt hl
 simp only at hya
 simp only [maxLen] at m0 hmt
 have hm1:yt.length≤9223372036854775807:=by omega
 have hm2:ts.length≤9223372036854775807:=by omega
 have hba:Below W.heap.size W (W.alloc (.cells #[.slice a0 yt.length c0,.slice a1 yo.length c1] 43)):=(Below.refl _ _).alloc (Nat.le_refl _) _
 have hb0:(W.alloc (.cells #[.slice a0 yt.length c0,.slice a1 yo.length c1] 43)).cell? ⟨W.heap.size,0,none⟩=some (.slice a0 yt.length c0):=by simp
 have hci2:=kept hba hci
 have hcall:=IndexFuncAlt (W.alloc (.cells #[.slice a0 yt.length c0,.slice a1 yo.length c1] 43)) (.slice a3 l.length c3) l (fun x=>decide (x=ya)) 75 #[.pointer (some ⟨W.heap.size,0,none⟩),.pointer (some ⟨gi,0,none⟩)] (enters_of Tryz.func75 (by kernel_rfl) rfl)
  ((list_mk y1 y2 y3).mono hba) (fun i x _ V v hb hv=>Cmp11_p V W.heap.size gi v a0 a1 c0 c1 yo.length yt x ya k (kept hb hb0) (kept hb hci2) ((r0.mono hba).mono hb) hya hv hm1)
 have hs1:=cell_lt hct
 have hs2:=cell_lt hci
 have hs3:=cell_lt y0
 have hkz:(k:Int) < (ts.length:Int):=by omega
 have hk0:(0:Int)≤(k:Int):=by omega
 have HBA:=Lib.hid hba
 have HX:Hid (idxP (fun x=>decide (x=ya)) l=ixT l ya):=rfl
 rw [HX.out] at hcall
 clear hy ht hl hya hrt r0 r1 y1 y2 y3 hb hba hb0 hci2 HX
 generalize ixT l ya=R at *
 generalize yt.length=LT at *
 generalize yo.length=LO at *
 generalize ts.length=LS at *
 generalize l.length=LL at *
 go_enter Tryz.func73,Tryz.ntmps73
 go_wp2_with fail
 refine hcall.mono ?_
 rintro e w1 ⟨rfl,hb1⟩
 clear hcall
 go_wp2
 go_ret
 exact ⟨rfl,HBA.out.trans (hb1.mono HBA.out.size)⟩
set_option maxRecDepth 100000 in
theorem Cmp21_p (W:World) (gy gi:Nat) (v:Value) (a1:Option Addr) (c1:Nat) (yo:List ByteArray) (x:License) (s:ByteArray) (k:Nat) (h0:W.cell? ⟨gy,1,none⟩=some (.slice a1 yo.length c1)) (hi:W.cell? ⟨gi,0,none⟩=some (.int .i64 (k:Int)))
  (hr:Row W a1 yo) (hk:yo[k]?=some s) (hv:Is W v x) (hm:yo.length≤9223372036854775807) :
  Calls Tryz.prog 78 (#[v]++#[.pointer (some ⟨gy,0,none⟩),.pointer (some ⟨gi,0,none⟩)]) W fun e w'=>e=.returned (.bool (seq x.name s))∧Below W.heap.size W w':=by
 have hlt:=lt_get hk
 obtain ⟨b,o,rfl,hb,y0,-⟩:=str_at hr hk
 obtain rfl:=lic_inv hv
 have hs1:=cell_lt h0
 have hs2:=cell_lt hi
 have hs3:=cell_lt y0
 have hkz:(k:Int) < (yo.length:Int):=by omega
 have hk0:(0:Int)≤(k:Int):=by omega
 have HQ:Hid (seq x.name s=(x.name.toList == s.toList)):=rfl
 clear hr hk hv hb
 generalize yo.length=LO at *
 go_enter Tryz.func78,Tryz.ntmps78
 go_wp2
 go_quiet (fail)
 go_wp2
 go_ret
 exact ⟨by rw [HQ.out];rfl,bw⟩
set_option maxRecDepth 100000 in
theorem Cmp2_p (W:World) (gc gi:Nat) (vl vy:Value) (c:Catalog) (y:Choice) (k:Nat) (s:ByteArray) (hct:W.cell? ⟨gc,0,none⟩=some vl) (hci:W.cell? ⟨gi,0,none⟩=some (.int .i64 (k:Int)))
  (ht:Is W vl c.licenses) (hy:Is W vy y) (hya:y.own[k]?=some s) :
  Calls Tryz.prog 76 (#[vy]++#[.pointer (some ⟨gc,0,none⟩),.pointer (some ⟨gi,0,none⟩)]) W fun e w'=>e=.returned (.int .i64 (ixO c s))∧Below W.heap.size W w':=by
 obtain ⟨yt,yo⟩:=y
 obtain ⟨a0,c0,a1,c1,rfl,l0,m0,r0,l1,m1,r1⟩:=Choice.inv hy
 obtain ⟨at0,ct,rfl,hnt,hmt,hrt⟩:=list_inv ht
 simp only at hya
 simp only [maxLen] at m1
 have hm1:yo.length≤9223372036854775807:=by omega
 have hba:Below W.heap.size W (W.alloc (.cells #[.slice a0 yt.length c0,.slice a1 yo.length c1] 43)):=(Below.refl _ _).alloc (Nat.le_refl _) _
 have hb1:(W.alloc (.cells #[.slice a0 yt.length c0,.slice a1 yo.length c1] 43)).cell? ⟨W.heap.size,1,none⟩=some (.slice a1 yo.length c1):=by simp
 have hci2:=kept hba hci
 have hcall:=IndexFuncLic (W.alloc (.cells #[.slice a0 yt.length c0,.slice a1 yo.length c1] 43)) (.slice at0 c.licenses.length ct) c.licenses (fun l=>seq l.name s) 78 #[.pointer (some ⟨W.heap.size,0,none⟩),.pointer (some ⟨gi,0,none⟩)] (enters_of Tryz.func78 (by kernel_rfl) rfl)
  (ht.mono hba) (fun i x _ V v hb hv=>Cmp21_p V W.heap.size gi v a1 c1 yo x s k (kept hb hb1) (kept hb hci2) ((r1.mono hba).mono hb) hya hv hm1)
 have hs1:=cell_lt hct
 have hs2:=cell_lt hci
 have HBA:=Lib.hid hba
 have HX:Hid (idxP (fun l=>seq l.name s) c.licenses=ixO c s):=rfl
 rw [HX.out] at hcall
 clear hy ht hya hrt r0 r1 hba hb1 hci2 HX
 generalize ixO c s=R at *
 generalize yt.length=LT at *
 generalize yo.length=LO at *
 generalize c.licenses.length=LS at *
 go_enter Tryz.func76,Tryz.ntmps76
 go_wp2_with fail
 refine hcall.mono ?_
 rintro e w1 ⟨rfl,hb1⟩
 clear hcall
 go_wp2
 go_ret
 exact ⟨rfl,HBA.out.trans (hb1.mono HBA.out.size)⟩
theorem cmpT_at {ts:List (List (List Term))} {a b:List (List Term)} {k:Nat} {l:List (List Term)} {x y:List Term} (h1:ts[k]?=some l) (h2:a[k]?=some x) (h3:b[k]?=some y) :
  cmpT (ts.drop k) (a.drop k) (b.drop k)=if ixT l x=ixT l y then cmpT (ts.drop (k+1)) (a.drop (k+1)) (b.drop (k+1)) else ixT l x - ixT l y:=by
 rw [drop_at h1,drop_at h2,drop_at h3,cmpT]
theorem cmpO_at {c:Catalog} {a b:List ByteArray} {k:Nat} {x y:ByteArray} (h2:a[k]?=some x) (h3:b[k]?=some y) :
  cmpO c (a.drop k) (b.drop k)=if ixO c x=ixO c y then cmpO c (a.drop (k+1)) (b.drop (k+1)) else ixO c x - ixO c y:=by
 rw [drop_at h2,drop_at h3,cmpO]
theorem app12 (a b c:Value):(#[a]++#[b,c]:Array Value)=#[a,b,c]:=rfl
theorem box4 (w:World) (o1 o2 o3 o4:Obj):Below w.heap.size w ((((w.alloc o1).alloc o2).alloc o3).alloc o4)∧((((w.alloc o1).alloc o2).alloc o3).alloc o4).heap[w.heap.size]?=some o1∧((((w.alloc o1).alloc o2).alloc o3).alloc o4).heap[w.heap.size+1]?=some o2 ∧
  ((((w.alloc o1).alloc o2).alloc o3).alloc o4).heap[w.heap.size+1+1]?=some o3∧((((w.alloc o1).alloc o2).alloc o3).alloc o4).heap[w.heap.size+1+1+1]?=some o4∧((((w.alloc o1).alloc o2).alloc o3).alloc o4).heap.size=w.heap.size+4:=by
 have al:∀ (v:World) (o:Obj),Below v.heap.size v (v.alloc o):=fun v o=>(Below.refl _ _).alloc (Nat.le_refl _) _
 have h1:=World.alloc_heap_new w o1
 have h2:=World.alloc_heap_new (w.alloc o1) o2
 have h3:=World.alloc_heap_new ((w.alloc o1).alloc o2) o3
 have h4:=World.alloc_heap_new (((w.alloc o1).alloc o2).alloc o3) o4
 have b2:=al (w.alloc o1) o2
 have b3:=al ((w.alloc o1).alloc o2) o3
 have b4:=al (((w.alloc o1).alloc o2).alloc o3) o4
 refine ⟨(al w o1).trans ((b2.mono (by simp)).trans ((b3.mono (by simp;omega)).trans (b4.mono (by simp;omega)))),below_blk b4 (below_blk b3 (below_blk b2 h1)),?_,?_,?_,by simp⟩
 ·rw [World.size_alloc] at h2;exact below_blk b4 (below_blk b3 h2)
 ·rw [World.size_alloc,World.size_alloc] at h3;exact below_blk b4 h3
 ·rw [World.size_alloc,World.size_alloc,World.size_alloc] at h4;exact h4
set_option maxRecDepth 100000 in
set_option maxHeartbeats 16000000 in
theorem compare_p (w:World) (vc vt va vb:Value) (c:Catalog) (ts:List (List (List Term))) (a b:Choice) (hc:Is w vc c) (ht:Is w vt ts) (ha:Is w va a) (hb:Is w vb b)
  (h1:a.terms.length=ts.length) (h2:b.terms.length=ts.length) (h3:b.own.length=a.own.length) (hs:∀ l∈ts,l.length≤64) (hlic:c.licenses.length≤40) :
  Calls Tryz.prog 30 #[vc,vt,va,vb] w fun e w'=>e=.returned (.int .i64 (cmpC c ts a b))∧Below w.heap.size w w':=by
 have HCM:Hid (cmpC c ts a b=if cmpT ts a.terms b.terms=0 then cmpO c a.own b.own else cmpT ts a.terms b.terms):=rfl
 generalize cmpC c ts a b=R at *
 have HC:=Lib.hid hc
 have HT:=Lib.hid ht
 have HA:=Lib.hid ha
 have HBI:=Lib.hid hb
 have HSM:=Lib.hid hs
 obtain ⟨xt,xo⟩:=a
 obtain ⟨yt,yo⟩:=b
 simp only at h1 h2 h3 HCM
 obtain ⟨a0,c0,a1,c1,a2,c2,a3,c3,rfl,lc0,mc0,rc0,-⟩:=Catalog.inv hc
 have HLI:=Lib.hid (list_mk lc0 mc0 rc0)
 obtain ⟨at0,ct,rfl,hnt,hmt,hrt⟩:=list_inv ht
 obtain ⟨p0,q0,p1,q1,rfl,-,mp0,-,lp1,mp1,-⟩:=Choice.inv ha
 obtain ⟨r0,s0,r1,s1,rfl,-⟩:=Choice.inv hb
 simp only [maxLen] at hmt mp1
 have hm1:ts.length≤9223372036854775807:=by omega
 have hm2:xo.length≤9223372036854775807:=by omega
 rw [h1] at HA
 rw [h2,h3] at HBI
 rw [h1,h2,h3]
 have HL1:=Lib.hid h1
 have HL2:=Lib.hid h2
 have HL3:=Lib.hid h3
 clear hc ht ha hb hs h1 h2 h3 hrt hnt hmt mp0 mp1 lp1 lc0 mc0 rc0
 generalize hLT:ts.length=LT at *
 generalize hLO:xo.length=LO at *
 have HLT:=Lib.hid hLT
 have HLO:=Lib.hid hLO
 generalize hN0:c.licenses.length=N0 at *
 have HN0:=Lib.hid hN0
 generalize c.exceptions.length=N1 at *
 generalize c.clauses.length=N2 at *
 generalize c.apart.length=N3 at *
 clear hLT hLO hN0
 obtain ⟨hb4,k0,k1,k2,k3,hz4⟩:=box4 w (.cells #[.slice a0 N0 c0,.slice a1 N1 c1,.slice a2 N2 c2,.slice a3 N3 c3] 27) (.cells #[.slice at0 LT ct] 35) (.cells #[.slice p0 LT q0,.slice p1 LO q1] 43) (.cells #[.slice r0 LT s0,.slice r1 LO s1] 43)
 have t0:=objcell k0 (j:=0) rfl
 have t1:=objcell k1 (j:=0) rfl
 have t2:=objcell k2 (j:=0) rfl
 have t3:=objcell k2 (j:=1) rfl
 have t4:=objcell k3 (j:=0) rfl
 have t5:=objcell k3 (j:=1) rfl
 clear k0 k1 k2 k3
 have HB4:=Lib.hid hb4
 clear hb4
 go_enter Tryz.func30,Tryz.ntmps30
 go_wp2_with fail
 generalize ((((w.alloc (.cells #[.slice a0 N0 c0,.slice a1 N1 c1,.slice a2 N2 c2,.slice a3 N3 c3] 27)).alloc (.cells #[.slice at0 LT ct] 35)).alloc (.cells #[.slice p0 LT q0,.slice p1 LO q1] 43)).alloc (.cells #[.slice r0 LT s0,.slice r1 LO s1] 43))=w4 at *
 have T0:=Lib.hid t0
 have T1:=Lib.hid t1
 have T2:=Lib.hid t2
 have T3:=Lib.hid t3
 have T4:=Lib.hid t4
 have T5:=Lib.hid t5
 clear t0 t1 t2 t3 t4 t5
 go_loopw [19] (fun kv wr=>∃ k:Nat,k≤LT∧kv=.int .i64 k∧Hid (cmpT ts xt yt=cmpT (ts.drop k) (xt.drop k) (yt.drop k))∧Hid (Below w4.heap.size w4 wr)) (fun kv _=>LT - (intOf kv).toNat)
 case atStart=>exact ⟨0,by omega,rfl,rfl,Lib.hid (Below.refl _ _)⟩
 case round =>
  obtain ⟨k,hk,rfl,HK,HB⟩:=hrel
  have HBW:Hid (Below w.heap.size w wr):=Lib.hid (HB4.out.trans (HB.out.mono HB4.out.size))
  by_cases hki:k < LT
  ·have hkz:(k:Int) < (LT:Int):=by omega
   have hk0:(0:Int)≤(k:Int):=by omega
   obtain ⟨l,hl⟩:=get_lt (xs:=ts) (k:=k) (by rw [HLT.out];exact hki)
   obtain ⟨xa,hxa⟩:=get_lt (xs:=xt) (k:=k) (by rw [HL1.out];exact hki)
   obtain ⟨ya,hya⟩:=get_lt (xs:=yt) (k:=k) (by rw [HL2.out];exact hki)
   have HST:=Lib.hid (cmpT_at hl hxa hya)
   have hb1:=idxP_le (fun x=>decide (x=xa)) l
   have hb2:=idxP_le (fun x=>decide (x=ya)) l
   have hb3:=HSM.out l (List.mem_of_getElem? hl)
   have hq1 : -1≤ixT l xa∧ixT l xa≤64:=by unfold ixT;omega
   have hq2 : -1≤ixT l ya∧ixT l ya≤64:=by unfold ixT;omega
   have t0:=kept HB.out T0.out
   have t1:=kept HB.out T1.out
   have t2:=kept HB.out T2.out
   have t3:=kept HB.out T3.out
   have t4:=kept HB.out T4.out
   have t5:=kept HB.out T5.out
   have hs4:w.heap.size+1+1+1 < wr.heap.size:=cell_lt t4
   have hba:Below wr.heap.size wr (wr.alloc (.cells #[.int .i64 (k:Int)] 3)):=(Below.refl _ _).alloc (Nat.le_refl _) _
   have hk9:(wr.alloc (.cells #[.int .i64 (k:Int)] 3)).cell? ⟨wr.heap.size,0,none⟩=some (.int .i64 (k:Int)):=by simp
   have t0:=kept hba t0
   have t1:=kept hba t1
   have t2:=kept hba t2
   have t3:=kept hba t3
   have t4:=kept hba t4
   have t5:=kept hba t5
   have HBK:Hid (Below w.heap.size w (wr.alloc (.cells #[.int .i64 (k:Int)] 3))):=Lib.hid (HBW.out.trans (hba.mono HBW.out.size))
   have HB9:Hid (Below w4.heap.size w4 (wr.alloc (.cells #[.int .i64 (k:Int)] 3))):=Lib.hid (HB.out.trans (hba.mono HB.out.size))
   clear hba hb1 hb2 hb3
   go_wp2_with fail
   generalize (wr.alloc (.cells #[.int .i64 (k:Int)] 3))=w5 at *
   generalize wr.heap.size=gk at *
   have HC1:Hid (∀ V,Below w5.heap.size w5 V→Calls Tryz.prog 73 #[.agg #[.slice p0 LT q0,.slice p1 LO q1],.pointer (some ⟨w.heap.size+1,0,none⟩),.pointer (some ⟨gk,0,none⟩)] V fun e w'=>e=.returned (.int .i64 (ixT l xa))∧Below V.heap.size V w'):=by
    show ∀ _,_→_
    intro V hb
    have h9:=Cmp1_p V (w.heap.size+1) gk _ _ ts ⟨xt,xo⟩ k l xa (kept hb t1) (kept hb hk9) ((HT.out.mono HBK.out).mono hb) ((HA.out.mono HBK.out).mono hb) hl hxa
    rw [app12] at h9
    exact h9
   have HC2:Hid (∀ V,Below w5.heap.size w5 V→Calls Tryz.prog 73 #[.agg #[.slice r0 LT s0,.slice r1 LO s1],.pointer (some ⟨w.heap.size+1,0,none⟩),.pointer (some ⟨gk,0,none⟩)] V fun e w'=>e=.returned (.int .i64 (ixT l ya))∧Below V.heap.size V w'):=by
    show ∀ _,_→_
    intro V hb
    have h9:=Cmp1_p V (w.heap.size+1) gk _ _ ts ⟨yt,yo⟩ k l ya (kept hb t1) (kept hb hk9) ((HT.out.mono HBK.out).mono hb) ((HBI.out.mono HBK.out).mono hb) hl hya
    rw [app12] at h9
    exact h9
   clear hxa hya hl t0 t1 hk9
   generalize ixT l xa=ia at *
   generalize ixT l ya=ib at *
   refine wp_region_quietC (C:=fun w'=>Below w5.heap.size w5 w'∧w'.cell? ⟨w.heap.size+1+1,0,none⟩=some (.slice p0 LT q0)∧w'.cell? ⟨w.heap.size+1+1,1,none⟩=some (.slice p1 LO q1)∧w'.cell? ⟨w.heap.size+1+1+1,0,none⟩=some (.slice r0 LT s0)∧w'.cell? ⟨w.heap.size+1+1+1,1,none⟩=some (.slice r1 LO s1)) (by kernel_rfl) (by kernel_rfl) (by exact ⟨(Below.refl _ _).drewN 1,t2,t3,t4,t5⟩) ?_
   repeat
    first
    | (refine quiet_no (by rfl) ?_;try simp only [tkS,Act.put])
    | (refine quiet_yes (v:=?_) (by rfl) ?_ ?_
       rotate_left
       ·intro w' hw'
        obtain ⟨hb5,z2,z3,z4,z5⟩:=hw'
        go_simp
        first
        | with_reducible rfl
        | exact ⟨rfl,rfl⟩
        | (refine (HC1.out _ hb5).mono ?_;rintro e w'' ⟨rfl,hb6⟩;refine ⟨?_,hb5.trans (hb6.mono hb5.size),kept hb6 z2,kept hb6 z3,kept hb6 z4,kept hb6 z5⟩;with_reducible rfl)
        | (refine (HC2.out _ hb5).mono ?_;rintro e w'' ⟨rfl,hb6⟩;refine ⟨?_,hb5.trans (hb6.mono hb5.size),kept hb6 z2,kept hb6 z3,kept hb6 z4,kept hb6 z5⟩;with_reducible rfl)
       try simp only [tkS,Act.put])
   refine wpQuiet_nil ?_
   intro w6 hw'
   obtain ⟨hb6,-⟩:=hw'
   have HB6:Hid (Below w4.heap.size w4 w6):=Lib.hid (HB9.out.trans (hb6.mono HB9.out.size))
   clear hb6 HC1 HC2 t2 t3 t4 t5
   by_cases qe:ia=ib
   ·have qf:(ia != ib)=false:=by simp [qe]
    have HKN:=Lib.hid (HK.out.trans (HST.out.trans (if_pos qe)))
    clear HST HK qe hq1 hq2
    go_wp2
    go_roundw
    case rel=>exact ⟨k+1,by omega,by go_num,HKN,HB6⟩
    case measure=>simp [intOf];omega
   ·have qf:(ia != ib)=true:=by simpa using qe
    have HKN:=Lib.hid (HK.out.trans (HST.out.trans (if_neg qe)))
    have hne:ia - ib≠0:=by omega
    clear HST HK qe
    have HR:Hid (R=ia - ib):=by show _=_;rw [HCM.out,HKN.out,if_neg hne]
    clear hne
    go_wp2
    go_ret
    exact ⟨ret_i HR.out.symm,HB4.out.trans (HB6.out.mono HB4.out.size)⟩
  ·have hkz:¬ (k:Int) < (LT:Int):=by omega
   have HZ:Hid (cmpT ts xt yt=0):=by
    show _=_
    rw [HK.out,List.drop_eq_nil_of_le (by rw [HLT.out];omega)];rfl
   have t3:=kept HB.out T3.out
   have hs4:w.heap.size+1+1 < wr.heap.size:=cell_lt t3
   have HBQ:=HB
   clear HK HB HBW
   go_wp2_with fail
   clear t3 hs4
   obtain ⟨wq,hwq⟩:∃ W,W=wr:=⟨_,rfl⟩
   subst hwq
   go_loopw [39] (fun kv wr=>∃ k:Nat,k≤LO∧kv=.int .i64 k∧Hid (cmpO c xo yo=cmpO c (xo.drop k) (yo.drop k))∧Hid (Below w4.heap.size w4 wr)) (fun kv _=>LO - (intOf kv).toNat)
   case atStart=>exact ⟨0,by omega,rfl,rfl,HBQ⟩
   case round =>
    clear hki hkz hk
    obtain ⟨k,hk,rfl,HK,HB⟩:=hrel
    have HBW:Hid (Below w.heap.size w wr):=Lib.hid (HB4.out.trans (HB.out.mono HB4.out.size))
    by_cases hki:k < LO
    ·have hkz:(k:Int) < (LO:Int):=by omega
     have hk0:(0:Int)≤(k:Int):=by omega
     obtain ⟨xa,hxa⟩:=get_lt (xs:=xo) (k:=k) (by rw [HLO.out];exact hki)
     obtain ⟨ya,hya⟩:=get_lt (xs:=yo) (k:=k) (by rw [HL3.out];exact hki)
     have HST:=Lib.hid (cmpO_at (c:=c) hxa hya)
     have hb1:=idxP_le (fun l=>seq l.name xa) c.licenses
     have hb2:=idxP_le (fun l=>seq l.name ya) c.licenses
     have hb3:=HN0.out
     have hq1 : -1≤ixO c xa∧ixO c xa≤64:=by unfold ixO;omega
     have hq2 : -1≤ixO c ya∧ixO c ya≤64:=by unfold ixO;omega
     have t0:=kept HB.out T0.out
     have t1:=kept HB.out T1.out
     have t2:=kept HB.out T2.out
     have t3:=kept HB.out T3.out
     have t4:=kept HB.out T4.out
     have t5:=kept HB.out T5.out
     have hs4:w.heap.size+1+1+1 < wr.heap.size:=cell_lt t4
     have hba:Below wr.heap.size wr (wr.alloc (.cells #[.int .i64 (k:Int)] 3)):=(Below.refl _ _).alloc (Nat.le_refl _) _
     have hk9:(wr.alloc (.cells #[.int .i64 (k:Int)] 3)).cell? ⟨wr.heap.size,0,none⟩=some (.int .i64 (k:Int)):=by simp
     have t0:=kept hba t0
     have t1:=kept hba t1
     have t2:=kept hba t2
     have t3:=kept hba t3
     have t4:=kept hba t4
     have t5:=kept hba t5
     have HBK:Hid (Below w.heap.size w (wr.alloc (.cells #[.int .i64 (k:Int)] 3))):=Lib.hid (HBW.out.trans (hba.mono HBW.out.size))
     have HB9:Hid (Below w4.heap.size w4 (wr.alloc (.cells #[.int .i64 (k:Int)] 3))):=Lib.hid (HB.out.trans (hba.mono HB.out.size))
     clear hba hb1 hb2 hb3
     go_wp2_with fail
     generalize (wr.alloc (.cells #[.int .i64 (k:Int)] 3))=w5 at *
     generalize wr.heap.size=gk at *
     have HC1:Hid (∀ V,Below w5.heap.size w5 V→Calls Tryz.prog 76 #[.agg #[.slice p0 LT q0,.slice p1 LO q1],.pointer (some ⟨w.heap.size,0,none⟩),.pointer (some ⟨gk,0,none⟩)] V fun e w'=>e=.returned (.int .i64 (ixO c xa))∧Below V.heap.size V w'):=by
      show ∀ _,_→_
      intro V hb
      have h9:=Cmp2_p V w.heap.size gk _ _ c ⟨xt,xo⟩ k xa (kept hb t0) (kept hb hk9) ((HLI.out.mono HBK.out).mono hb) ((HA.out.mono HBK.out).mono hb) hxa
      rw [app12] at h9
      exact h9
     have HC2:Hid (∀ V,Below w5.heap.size w5 V→Calls Tryz.prog 76 #[.agg #[.slice r0 LT s0,.slice r1 LO s1],.pointer (some ⟨w.heap.size,0,none⟩),.pointer (some ⟨gk,0,none⟩)] V fun e w'=>e=.returned (.int .i64 (ixO c ya))∧Below V.heap.size V w'):=by
      show ∀ _,_→_
      intro V hb
      have h9:=Cmp2_p V w.heap.size gk _ _ c ⟨yt,yo⟩ k ya (kept hb t0) (kept hb hk9) ((HLI.out.mono HBK.out).mono hb) ((HBI.out.mono HBK.out).mono hb) hya
      rw [app12] at h9
      exact h9
     clear hxa hya t0 t1 hk9
     generalize ixO c xa=ia at *
     generalize ixO c ya=ib at *
     refine wp_region_quietC (C:=fun w'=>Below w5.heap.size w5 w'∧w'.cell? ⟨w.heap.size+1+1,0,none⟩=some (.slice p0 LT q0)∧w'.cell? ⟨w.heap.size+1+1,1,none⟩=some (.slice p1 LO q1)∧w'.cell? ⟨w.heap.size+1+1+1,0,none⟩=some (.slice r0 LT s0)∧w'.cell? ⟨w.heap.size+1+1+1,1,none⟩=some (.slice r1 LO s1)) (by kernel_rfl) (by kernel_rfl) (by exact ⟨(Below.refl _ _).drewN 1,t2,t3,t4,t5⟩) ?_
     repeat
      first
      | (refine quiet_no (by rfl) ?_;try simp only [tkS,Act.put])
      | (refine quiet_yes (v:=?_) (by rfl) ?_ ?_
         rotate_left
         ·intro w' hw'
          obtain ⟨hb5,z2,z3,z4,z5⟩:=hw'
          go_simp
          first
          | with_reducible rfl
          | exact ⟨rfl,rfl⟩
          | (refine (HC1.out _ hb5).mono ?_;rintro e w'' ⟨rfl,hb6⟩;refine ⟨?_,hb5.trans (hb6.mono hb5.size),kept hb6 z2,kept hb6 z3,kept hb6 z4,kept hb6 z5⟩;with_reducible rfl)
          | (refine (HC2.out _ hb5).mono ?_;rintro e w'' ⟨rfl,hb6⟩;refine ⟨?_,hb5.trans (hb6.mono hb5.size),kept hb6 z2,kept hb6 z3,kept hb6 z4,kept hb6 z5⟩;with_reducible rfl)
         try simp only [tkS,Act.put])
     refine wpQuiet_nil ?_
     intro w6 hw'
     obtain ⟨hb6,-⟩:=hw'
     have HB6:Hid (Below w4.heap.size w4 w6):=Lib.hid (HB9.out.trans (hb6.mono HB9.out.size))
     clear hb6 HC1 HC2 t2 t3 t4 t5
     by_cases qe:ia=ib
     ·have qf:(ia != ib)=false:=by simp [qe]
      have HKN:=Lib.hid (HK.out.trans (HST.out.trans (if_pos qe)))
      clear HST HK qe hq1 hq2
      go_wp2
      go_roundw
      case rel=>exact ⟨k+1,by omega,by go_num,HKN,HB6⟩
      case measure=>simp [intOf];omega
     ·have qf:(ia != ib)=true:=by simpa using qe
      have HKN:=Lib.hid (HK.out.trans (HST.out.trans (if_neg qe)))
      have hne:ia - ib≠0:=by omega
      clear HST HK qe
      have HR:Hid (R=ia - ib):=by show _=_;rw [HCM.out,if_pos HZ.out,HKN.out]
      clear hne
      go_wp2
      go_ret
      exact ⟨ret_i HR.out.symm,HB4.out.trans (HB6.out.mono HB4.out.size)⟩
    ·have hkz:¬ (k:Int) < (LO:Int):=by omega
     have HR:Hid (R=0):=by
      show _=_
      rw [HCM.out,if_pos HZ.out,HK.out,List.drop_eq_nil_of_le (by rw [HLO.out];omega)];rfl
     clear HK
     go_wp2
     go_ret
     exact ⟨ret_i HR.out.symm,HBW.out⟩
end Go.Proofs.YtcbopdbbcgdkcaaGreatDoor
namespace Go.Proofs.YtcbopdbbcgdkcaaGreatDoor
open Go Go.RowKit Go.ChangeShapes Go.Lib Go.Shelf

set_option maxRecDepth 100000 in
set_option maxHeartbeats 16000000 in
theorem DutyOrder_p (w:World) (vc vx:Value) (c:Catalog) (x:List Fact) (n:Int) (hg:Glob w) (hc:Is w vc c) (h:Is w vx x) (hn:(Lit.int .u16 n).wf=true) (hok:∀ f∈x,okF f) :
  Calls Tryz.prog 6 #[vc,vx,.int .u16 n] w fun e w'=>e=.returned (.bool true)∧Below w.heap.size w w':=by
 have hn1:=u16_range hn
 obtain ⟨nn,rfl⟩:∃ nn:Nat,n=nn:=⟨n.toNat,by omega⟩
 have hn2:nn≤65535:=by omega
 clear hn1 hn
 have HG:=Lib.hid hg
 have HX:=Lib.hid h
 have HC:=Lib.hid hc
 have HOK:=Lib.hid hok
 obtain ⟨a0,c0,a1,c1,a2,c2,a3,c3,rfl,-⟩:=Catalog.inv hc
 obtain ⟨ax,nx,rfl,hnx,hmx,hr⟩:=list_inv h
 simp only [maxLen] at hmx
 have hm':x.length≤9223372036854775807:=by omega
 have HR:=Lib.hid hr
 have hba:Below w.heap.size w (w.alloc (.cells #[.slice a0 c.licenses.length c0,.slice a1 c.exceptions.length c1,.slice a2 c.clauses.length c2,.slice a3 c.apart.length c3] 27)):=(Below.refl _ _).alloc (Nat.le_refl _) _
 have hcall:=awakeD_p (w.alloc (.cells #[.slice a0 c.licenses.length c0,.slice a1 c.exceptions.length c1,.slice a2 c.clauses.length c2,.slice a3 c.apart.length c3] 27)) (hg.mono hba)
 have HBA:=Lib.hid hba
 generalize hL:x.length=L at *
 have HL:=Lib.hid hL
 generalize hN0:c.licenses.length=N0 at *
 have HN0:=Lib.hid hN0
 generalize c.exceptions.length=N1 at *
 generalize hN2:c.clauses.length=N2 at *
 have HN2:=Lib.hid hN2
 generalize c.apart.length=N3 at *
 clear h hr hc hok hnx hmx hL hba hN0 hN2 hg
 go_enter Tryz.func6,Tryz.ntmps6
 go_wp2_with fail
 refine hcall.mono ?_
 rintro e w1 ⟨rfl,hb1⟩
 clear hcall
 have d0:=kept hb1 (a:=⟨w.heap.size,0,none⟩) (v:=.slice a0 N0 c0) (by simp)
 have d1:=kept hb1 (a:=⟨w.heap.size,1,none⟩) (v:=.slice a1 N1 c1) (by simp)
 have d2:=kept hb1 (a:=⟨w.heap.size,2,none⟩) (v:=.slice a2 N2 c2) (by simp)
 have d3:=kept hb1 (a:=⟨w.heap.size,3,none⟩) (v:=.slice a3 N3 c3) (by simp)
 have hs1:w.heap.size < w1.heap.size:=cell_lt d0
 have HB1:Hid (Below w.heap.size w w1):=Lib.hid (HBA.out.trans (hb1.mono (by simp)))
 clear hb1 HBA
 go_wp2_with fail
 refine (FewD_ref w1 _ _ c x (HC.out.mono HB1.out) (HX.out.mono HB1.out) HOK.out).mono ?_
 rintro e w2 ⟨fb,rfl,hfx,hb2⟩
 have HFX:=Lib.hid hfx
 have HB2:Hid (Below w.heap.size w w2):=Lib.hid (HB1.out.trans (hb2.mono HB1.out.size))
 cases fb
 case false =>
  clear hb2 hfx d0 d1 d2 d3
  go_wp2
  go_ret
  exact ⟨rfl,HB2.out⟩
 have HFW:=Lib.hid (HFX.out rfl)
 have HFIT:=Lib.hid HFW.out.fits
 have d0:=kept hb2 d0
 have d1:=kept hb2 d1
 have d2:=kept hb2 d2
 have d3:=kept hb2 d3
 have hs2:w.heap.size < w2.heap.size:=cell_lt d0
 clear hb2 hfx hs1 HB1 HFX
 go_wp2_with fail
 refine (Count_p w2 _ _ c x (HG.out.mono HB2.out) (HC.out.mono HB2.out) (HX.out.mono HB2.out) HFIT.out (by have:=HFW.out.1;omega)).mono ?_
 have HOF:=Lib.hid (ord_facts (c:=c) (x:=x))
 have HCR:=Lib.hid (count_nat c x)
 have HCZ:=Lib.hid (count_zero (c:=c) (x:=x))
 have HCV:=Lib.hid (count_vals (c:=c) (x:=x))
 generalize countC c x=cn at *
 obtain ⟨cn1,cn2⟩:=cn
 simp only at HOF HCR HCZ HCV
 rintro e w3 ⟨rfl,hb3⟩
 have d0:=kept hb3 d0
 have d1:=kept hb3 d1
 have d2:=kept hb3 d2
 have d3:=kept hb3 d3
 have hs3:w.heap.size < w3.heap.size:=cell_lt d0
 have HB3:Hid (Below w.heap.size w w3):=Lib.hid (HB2.out.trans (hb3.mono HB2.out.size))
 clear hb3 hs2 HB2
 go_wp2_with fail
 refine (Values_is w3 _ _ c x (HG.out.mono HB3.out) (HC.out.mono HB3.out) (HX.out.mono HB3.out) HFIT.out).mono ?_
 unfold VI
 generalize valuesC c x=V at *
 obtain ⟨ts,os,ve⟩:=V
 simp only at HOF HCV ⊢
 rintro e w4 ⟨v1,v2,rfl,ht4,ho4,hb4⟩
 obtain ⟨at1,ct1,rfl,-⟩:=list_inv ht4
 obtain ⟨ao1,co1,rfl,-⟩:=list_inv ho4
 have HT4:=Lib.hid ht4
 have d0:=kept hb4 d0
 have d1:=kept hb4 d1
 have d2:=kept hb4 d2
 have d3:=kept hb4 d3
 have hs4:w.heap.size < w4.heap.size:=cell_lt d0
 have HBW4:Hid (Below w.heap.size w w4):=Lib.hid (HB3.out.trans (hb4.mono HB3.out.size))
 generalize hLT:ts.length=LT at *
 generalize hLO:os.length=LO at *
 have HLT:=Lib.hid hLT
 have HLO:=Lib.hid hLO
 clear ht4 ho4 hb4 hs3 HB3 hLT hLO
 cases q:(cn2 == 0)
 case false =>
  have q':(cn2 != 0)=true:=by rw [show (cn2 != 0)=!(cn2 == 0) from rfl,q];rfl
  have hz:cn1=0:=HCZ.out (by simpa using q)
  subst hz
  clear q HOF HCR HCZ HCV
  go_wp2
  go_ret
  exact ⟨by simp,HBW4.out⟩
 have q0:cn2=0:=by simpa using q
 subst q0
 have hve:ve=0:=HCV.out rfl
 subst hve
 have HO:=Lib.hid (HOF.out rfl)
 obtain ⟨mm,rfl,hmm⟩:=HCR.out
 have D0:=Lib.hid d0
 have D1:=Lib.hid d1
 have D2:=Lib.hid d2
 have D3:=Lib.hid d3
 have hm0:¬ (mm:Int) < 0:=by omega
 have hm1:¬ (4096:Int) < (mm:Int):=by omega
 have hlow:=HO.out.low
 have hhigh:=HO.out.high
 have hc0:c.licenses.length≤1000000:=by have:=HFW.out.1;omega
 have HLI:=Lib.hid hc0
 clear q HOF HCR HCZ HCV hc0
 go_wp2_with fail
 clear d0 d1 d2 d3
 have HBX4:=Lib.hid (Below.refl w4.heap.size w4)
 refine (Nth_is w4 _ _ c x (-1) (HG.out.mono HBW4.out) (HC.out.mono HBW4.out) (HX.out.mono HBW4.out) HFIT.out HLI.out).mono ?_
 unfold NI
 rintro e v5 ⟨a5,c5,b5,e5,rfl,hch,hb⟩
 rw [hlow]
 generalize (nthC c x (-1)).1.terms.length=LA5 at *
 generalize (nthC c x (-1)).1.own.length=LB5 at *
 have hba:Below v5.heap.size v5 (v5.alloc (.cells #[.slice a5 LA5 c5,.slice b5 LB5 e5] 43)):=(Below.refl _ _).alloc (Nat.le_refl _) _
 have HBW5:Hid (Below w.heap.size w (v5.alloc (.cells #[.slice a5 LA5 c5,.slice b5 LB5 e5] 43))):=Lib.hid ((HBW4.out.trans (hb.mono HBW4.out.size)).trans (hba.mono (Nat.le_trans HBW4.out.size hb.size)))
 have HBX5:Hid (Below w4.heap.size w4 (v5.alloc (.cells #[.slice a5 LA5 c5,.slice b5 LB5 e5] 43))):=Lib.hid ((HBX4.out.trans (hb.mono HBX4.out.size)).trans (hba.mono (Nat.le_trans HBX4.out.size hb.size)))
 clear hb hba hch
 have d0:=kept HBX5.out D0.out
 have d1:=kept HBX5.out D1.out
 have d2:=kept HBX5.out D2.out
 have d3:=kept HBX5.out D3.out
 have hsd:w.heap.size < (v5.alloc (.cells #[.slice a5 LA5 c5,.slice b5 LB5 e5] 43)).heap.size:=cell_lt d0
 go_wp2_with fail
 generalize (v5.alloc (.cells #[.slice a5 LA5 c5,.slice b5 LB5 e5] 43))=w5 at *
 clear d0 d1 d2 d3 hsd
 refine (Nth_is w5 _ _ c x (mm:Int) (HG.out.mono HBW5.out) (HC.out.mono HBW5.out) (HX.out.mono HBW5.out) HFIT.out HLI.out).mono ?_
 unfold NI
 rintro e v6 ⟨a6,c6,b6,e6,rfl,hch,hb⟩
 rw [hhigh]
 generalize (nthC c x (mm:Int)).1.terms.length=LA6 at *
 generalize (nthC c x (mm:Int)).1.own.length=LB6 at *
 have hba:Below v6.heap.size v6 (v6.alloc (.cells #[.slice a6 LA6 c6,.slice b6 LB6 e6] 43)):=(Below.refl _ _).alloc (Nat.le_refl _) _
 have HBW6:Hid (Below w.heap.size w (v6.alloc (.cells #[.slice a6 LA6 c6,.slice b6 LB6 e6] 43))):=Lib.hid ((HBW5.out.trans (hb.mono HBW5.out.size)).trans (hba.mono (Nat.le_trans HBW5.out.size hb.size)))
 have HBX6:Hid (Below w4.heap.size w4 (v6.alloc (.cells #[.slice a6 LA6 c6,.slice b6 LB6 e6] 43))):=Lib.hid ((HBX5.out.trans (hb.mono HBX5.out.size)).trans (hba.mono (Nat.le_trans HBX5.out.size hb.size)))
 clear hb hba hch
 have d0:=kept HBX6.out D0.out
 have d1:=kept HBX6.out D1.out
 have d2:=kept HBX6.out D2.out
 have d3:=kept HBX6.out D3.out
 have hsd:w.heap.size < (v6.alloc (.cells #[.slice a6 LA6 c6,.slice b6 LB6 e6] 43)).heap.size:=cell_lt d0
 clear hlow hhigh
 by_cases hm2:(mm:Int) < 2
 ·go_wp2
  go_ret
  exact ⟨rfl,HBW6.out⟩
 have hp1:0 < mm - 1:=by omega
 obtain ⟨kk,hkk⟩:∃ kk:Nat,kk=nn % (mm - 1):=⟨_,rfl⟩
 have hkm:kk < mm - 1:=by rw [hkk];exact Nat.mod_lt _ hp1
 have hrem:((nn:Int)).tmod ((mm:Int) - 1)=(kk:Int):=by
  rw [hkk,show (mm:Int) - 1=((mm - 1:Nat):Int) by omega];exact (Int.ofNat_tmod nn (mm - 1)).symm
 have hwrap:IntKind.i64.wrap (nn:Int)=(nn:Int):=by rw [IntKind.wrap_i64];omega
 have hmz:¬ (mm:Int) - 1=0:=by omega
 obtain ⟨na1,na2,na3,na4⟩:=HO.out.nth kk (by omega)
 obtain ⟨nb1,nb2,nb3,nb4⟩:=HO.out.nth (kk+1) (by omega)
 have HNX:=Lib.hid (HO.out.next kk (by omega))
 rw [HLT.out] at na2 nb2
 rw [HLO.out] at na3 nb3
 have HSM:=Lib.hid HO.out.small
 clear hkk HO
 go_wp2_with fail
 generalize (v6.alloc (.cells #[.slice a6 LA6 c6,.slice b6 LB6 e6] 43))=w6 at *
 clear d0 d1 d2 d3 hsd
 refine (Nth_is w6 _ _ c x (kk:Int) (HG.out.mono HBW6.out) (HC.out.mono HBW6.out) (HX.out.mono HBW6.out) HFIT.out HLI.out).mono ?_
 unfold NI
 rintro e v7 ⟨a7,c7,b7,e7,rfl,hch,hb⟩
 rw [na1]
 have hy7:=hch.is
 rw [na2,na3] at hy7 ⊢
 have hba:Below v7.heap.size v7 (v7.alloc (.cells #[.slice a7 LT c7,.slice b7 LO e7] 43)):=(Below.refl _ _).alloc (Nat.le_refl _) _
 have HBW7:Hid (Below w.heap.size w (v7.alloc (.cells #[.slice a7 LT c7,.slice b7 LO e7] 43))):=Lib.hid ((HBW6.out.trans (hb.mono HBW6.out.size)).trans (hba.mono (Nat.le_trans HBW6.out.size hb.size)))
 have HBX7:Hid (Below w4.heap.size w4 (v7.alloc (.cells #[.slice a7 LT c7,.slice b7 LO e7] 43))):=Lib.hid ((HBX6.out.trans (hb.mono HBX6.out.size)).trans (hba.mono (Nat.le_trans HBX6.out.size hb.size)))
 have HO7:=Lib.hid (World.alloc_heap_new v7 (.cells #[.slice a7 LT c7,.slice b7 LO e7] 43))
 have HY7:=Lib.hid (hy7.mono hba)
 clear hy7
 clear hb hba hch
 have d0:=kept HBX7.out D0.out
 have d1:=kept HBX7.out D1.out
 have d2:=kept HBX7.out D2.out
 have d3:=kept HBX7.out D3.out
 have hsd:w.heap.size < (v7.alloc (.cells #[.slice a7 LT c7,.slice b7 LO e7] 43)).heap.size:=cell_lt d0
 go_wp2_with fail
 generalize (v7.alloc (.cells #[.slice a7 LT c7,.slice b7 LO e7] 43))=w7 at *
 generalize v7.heap.size=g7 at *
 clear d0 d1 d2 d3 hsd
 refine (Nth_is w7 _ _ c x ((kk+1:Nat):Int) (HG.out.mono HBW7.out) (HC.out.mono HBW7.out) (HX.out.mono HBW7.out) HFIT.out HLI.out).mono ?_
 unfold NI
 rintro e v8 ⟨a8,c8,b8,e8,rfl,hch,hb⟩
 rw [nb1]
 have hy8:=hch.is
 rw [nb2,nb3] at hy8 ⊢
 have hba:Below v8.heap.size v8 (v8.alloc (.cells #[.slice a8 LT c8,.slice b8 LO e8] 43)):=(Below.refl _ _).alloc (Nat.le_refl _) _
 have HBW8:Hid (Below w.heap.size w (v8.alloc (.cells #[.slice a8 LT c8,.slice b8 LO e8] 43))):=Lib.hid ((HBW7.out.trans (hb.mono HBW7.out.size)).trans (hba.mono (Nat.le_trans HBW7.out.size hb.size)))
 have HBX8:Hid (Below w4.heap.size w4 (v8.alloc (.cells #[.slice a8 LT c8,.slice b8 LO e8] 43))):=Lib.hid ((HBX7.out.trans (hb.mono HBX7.out.size)).trans (hba.mono (Nat.le_trans HBX7.out.size hb.size)))
 have HO7:=Lib.hid (below_blk hba (below_blk hb HO7.out))
 have HY7:=Lib.hid ((HY7.out.mono hb).mono hba)
 have HO8:=Lib.hid (World.alloc_heap_new v8 (.cells #[.slice a8 LT c8,.slice b8 LO e8] 43))
 have HY8:=Lib.hid (hy8.mono hba)
 clear hy8
 clear hb hba hch
 have d0:=kept HBX8.out D0.out
 have d1:=kept HBX8.out D1.out
 have d2:=kept HBX8.out D2.out
 have d3:=kept HBX8.out D3.out
 have hsd:w.heap.size < (v8.alloc (.cells #[.slice a8 LT c8,.slice b8 LO e8] 43)).heap.size:=cell_lt d0
 have k0:=objcell HO7.out (j:=0) (v:=.slice a7 LT c7) rfl
 have k1:=objcell HO7.out (j:=1) (v:=.slice b7 LO e7) rfl
 have hg7:=heap_lt HO7.out
 go_wp2_with fail
 clear k0 k1 hg7
 generalize (v8.alloc (.cells #[.slice a8 LT c8,.slice b8 LO e8] 43))=w8 at *
 generalize v8.heap.size=g8 at *
 clear d0 d1 d2 d3 hsd
 refine (CheckChoice_p w8 _ _ _ c x _ false (HG.out.mono HBW8.out) (HC.out.mono HBW8.out) (HX.out.mono HBW8.out) HY7.out HFIT.out).mono ?_
 rw [na4]
 rintro e w9 ⟨rfl,hb⟩
 have HBW9:Hid (Below w.heap.size w w9):=Lib.hid (HBW8.out.trans (hb.mono HBW8.out.size))
 have HBX9:Hid (Below w4.heap.size w4 w9):=Lib.hid (HBX8.out.trans (hb.mono HBX8.out.size))
 have HO7:=Lib.hid (below_blk hb HO7.out)
 have HO8:=Lib.hid (below_blk hb HO8.out)
 have HY7:=Lib.hid (HY7.out.mono hb)
 have HY8:=Lib.hid (HY8.out.mono hb)
 clear hb
 have d0:=kept HBX9.out D0.out
 have d1:=kept HBX9.out D1.out
 have d2:=kept HBX9.out D2.out
 have d3:=kept HBX9.out D3.out
 have hsd:w.heap.size < w9.heap.size:=cell_lt d0
 have k0:=objcell HO7.out (j:=0) (v:=.slice a7 LT c7) rfl
 have k1:=objcell HO7.out (j:=1) (v:=.slice b7 LO e7) rfl
 have l0:=objcell HO8.out (j:=0) (v:=.slice a8 LT c8) rfl
 have l1:=objcell HO8.out (j:=1) (v:=.slice b8 LO e8) rfl
 have hg7:=heap_lt HO7.out
 have hg8:=heap_lt HO8.out
 go_wp2_with fail
 clear d0 d1 d2 d3 k0 k1 l0 l1 hsd hg7 hg8
 refine (CheckChoice_p w9 _ _ _ c x _ false (HG.out.mono HBW9.out) (HC.out.mono HBW9.out) (HX.out.mono HBW9.out) HY8.out HFIT.out).mono ?_
 rw [nb4]
 rintro e w10 ⟨rfl,hb⟩
 have HBW10:Hid (Below w.heap.size w w10):=Lib.hid (HBW9.out.trans (hb.mono HBW9.out.size))
 have HBX10:Hid (Below w4.heap.size w4 w10):=Lib.hid (HBX9.out.trans (hb.mono HBX9.out.size))
 have HO7:=Lib.hid (below_blk hb HO7.out)
 have HO8:=Lib.hid (below_blk hb HO8.out)
 have HY7:=Lib.hid (HY7.out.mono hb)
 have HY8:=Lib.hid (HY8.out.mono hb)
 clear hb
 have d0:=kept HBX10.out D0.out
 have d1:=kept HBX10.out D1.out
 have d2:=kept HBX10.out D2.out
 have d3:=kept HBX10.out D3.out
 have hsd:w.heap.size < w10.heap.size:=cell_lt d0
 have k0:=objcell HO7.out (j:=0) (v:=.slice a7 LT c7) rfl
 have k1:=objcell HO7.out (j:=1) (v:=.slice b7 LO e7) rfl
 have l0:=objcell HO8.out (j:=0) (v:=.slice a8 LT c8) rfl
 have l1:=objcell HO8.out (j:=1) (v:=.slice b8 LO e8) rfl
 have hg7:=heap_lt HO7.out
 have hg8:=heap_lt HO8.out
 go_wp2_with fail
 clear d0 d1 d2 d3 k0 k1 l0 l1 hsd hg7 hg8
 have hcall:=compare_p w10 _ _ _ _ c ts (nthC c x (kk:Int)).1 (nthC c x ((kk+1:Nat):Int)).1 (HC.out.mono HBW10.out) (HT4.out.mono HBX10.out) HY7.out HY8.out (na2.trans HLT.out.symm) (nb2.trans HLT.out.symm) (nb3.trans na3.symm) HSM.out HFW.out.1
 have hneg:=HNX.out
 generalize cmpC c ts (nthC c x (kk:Int)).1 (nthC c x ((kk+1:Nat):Int)).1=R at *
 refine hcall.mono ?_
 rintro e w11 ⟨rfl,hb⟩
 have HB11:=Lib.hid (HBW10.out.trans (hb.mono HBW10.out.size))
 clear hb hcall
 go_wp2
 go_ret
 exact ⟨by simp,HB11.out⟩
end Go.Proofs.YtcbopdbbcgdkcaaGreatDoor
