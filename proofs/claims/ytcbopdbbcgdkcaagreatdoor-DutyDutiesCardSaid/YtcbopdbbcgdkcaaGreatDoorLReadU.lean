/- Lemmas. -/
import Derived.Test.YtcbopdbbcgdkcaaGreatDoorLFmtU
set_option linter.all false
set_option maxRecDepth 100000
set_option maxHeartbeats 16000000
namespace Go.Proofs.YtcbopdbbcgdkcaaGreatDoor
open Go Go.RowKit Go.ChangeShapes

def E5 (e:TypeId):Prop:=e=138∨e=106∨e=145∨e=74∨e=151
instance (e:TypeId):Decidable (E5 e):=by unfold E5;infer_instance
structure RD (B r:Nat) (w:World) (lv:Value) (ls:List ByteArray) (nx:Nat) (v0 v1 v2 v3:Value) (c:Catalog):Prop where
 hB:B≤r
 obj:w.heap[r]?=some (.cells #[lv,.int .i64 nx,v0,v1,v2,v3] 138 (0,0))
 lines:OwnV Value.string B 9 w lv ls
 lic:OwnL B E5 106 w v0 c.licenses
 exc:OwnL B E5 145 w v1 c.exceptions
 cla:OwnL B E5 74 w v2 c.clauses
 prs:OwnL B E5 151 w v3 c.apart
theorem RD.lt {B r:Nat} {w:World} {lv:Value} {ls:List ByteArray} {nx:Nat} {v0 v1 v2 v3:Value} {c:Catalog} (h:RD B r w lv ls nx v0 v1 v2 v3 c):r < w.heap.size:=by
 rcases Nat.lt_or_ge r w.heap.size with h1 | h1
 ·exact h1
 ·have:=h.obj;rw [Array.getElem?_eq_none h1] at this;cases this
theorem RD.below {B r:Nat} {w w':World} {lv:Value} {ls:List ByteArray} {nx:Nat} {v0 v1 v2 v3:Value} {c:Catalog} (h:RD B r w lv ls nx v0 v1 v2 v3 c) (hb:Below w.heap.size w w'):RD B r w' lv ls nx v0 v1 v2 v3 c :=
 ⟨h.hB,by rw [hb.block r h.lt];exact h.obj,h.lines.below hb,h.lic.below hb,h.exc.below hb,h.cla.below hb,h.prs.below hb⟩
theorem objcell {w:World} {g j:Nat} {cs:Array Value} {e:TypeId} {fr:Nat×Nat} {v:Value} (h:w.heap[g]?=some (.cells cs e fr)) (hv:cs[j]?=some v):w.cell? ⟨g,j,none⟩=some v:=by
 simp [World.cell?,h,hv]
theorem objfrozen {w:World} {g j:Nat} {cs:Array Value} {e:TypeId} (h:w.heap[g]?=some (.cells cs e (0,0))):w.frozen? ⟨g,j,none⟩=false:=by
 simp [World.frozen?,h]
theorem setCell_obj (w:World) (g j:Nat) (u:Value) {cs:Array Value} {e:TypeId} {fr:Nat×Nat} (h:w.heap[g]?=some (.cells cs e fr)):(w.setCell ⟨g,j,none⟩ u).heap[g]?=some (.cells (cs.setIfInBounds j u) e fr):=by
 simp [World.setCell,Array.getElem?_modify,h]
theorem agree_setCell {B:Nat} {w:World} {g j:Nat} {u:Value} {cs:Array Value} {e:TypeId} {fr:Nat×Nat} (hB:B≤g) (h:w.heap[g]?=some (.cells cs e fr)):Agree B (·=e) w (w.setCell ⟨g,j,none⟩ u):=by
 refine ⟨by simp [World.setCell],fun k hk hc=>blk_set_other w ⟨g,j,none⟩ u k ?_⟩;rintro rfl;rcases hc with hc | hc
 ·exact absurd hc (Nat.not_lt.2 hB)
 ·exact hc ⟨_,_,_,rfl,h⟩
theorem apRow:(Tryz.prog.info? 151).map (fun i=>(i.zero,i.size,i.bytes))=some (some (.agg #[.string ByteArray.empty,.string ByteArray.empty]),2,32):=by kernel_rfl
def ROut (B r:Nat) (lv:Value) (ls:List ByteArray) (nx:Nat) (res:LineRes) (e:Ending) (w w':World):Prop :=
 match res with
 | .err k=>e=.returned (.int .i64 k)∧Below B w w'
 | .ok c n=>e=.returned (.int .i64 0)∧Below B w w'∧∃ v0 v1 v2 v3,RD B r w' lv ls (nx+n) v0 v1 v2 v3 c
def WD (w:World) (wv:Value) (ws:List ByteArray):Prop :=
 Is w wv ws∧∀ g o n c,wv=.slice (some ⟨g,o,none⟩) n c→∃ cs fr,w.heap[g]?=some (.cells cs 9 fr)
theorem own_ne {α:Type} [Lay α] {B:Nat} {E:TypeId→Prop} {e e':TypeId} {w:World} {v:Value} {xs:List α} {g:Nat} {cs:Array Value} {fr:Nat×Nat} (h:OwnL B E e w v xs) (hg:w.heap[g]?=some (.cells cs e' fr)) (hne:e'≠e):some g≠v.ownBlock:=by
 intro hv;obtain ⟨cs',h⟩:=h.row;rcases h.2 with ⟨rfl,_⟩ | ⟨g',cap,cur,rfl,hB,hh,_⟩
 ·cases hv
 ·cases hv;rw [hg] at hh;cases hh;exact hne rfl
theorem OwnL.shape {α:Type} [Lay α] {B:Nat} {E:TypeId→Prop} {e:TypeId} {w:World} {v:Value} {xs:List α} (h:OwnL B E e w v xs):∃ a c,v=.slice a xs.length c:=by
 obtain ⟨cs,h⟩:=h.row;rcases h.2 with ⟨rfl,h0⟩ | ⟨g',cap,cur,rfl,hB,hh,_⟩
 ·rw [h0];exact ⟨_,_,rfl⟩
 ·exact ⟨_,_,rfl⟩
theorem OwnL.grown {α:Type} [Lay α] {B:Nat} {E:TypeId→Prop} {e:TypeId} {w w':World} {v:Value} {xs:List α} (h:OwnL B E e w v xs) (hg:w.grownBy w' v.ownBlock) (hB:B≤w.heap.size):Below B w w'∧Agree B (·=e) w w':=by
 obtain ⟨cs,h⟩:=h.row;exact ⟨(Below.refl _ _).app hg hB h,Agree.app (E:=(·=e)) rfl h hg⟩
theorem wpo_appL {α:Type} [Lay α] {P:Program} {t e:TypeId} {z:Value} {bytes:Nat} (hinfo:(P.info? e).map (fun i=>(i.zero,i.size,i.bytes))=some (some z,Lay.n α,bytes))
  (hz:z.cells.size=Lay.n α) (hsz:0 < Lay.n α) (ht:P.underlying t=some (.slice e))
  {o:Oper} {a:Act} {K:Act→World→Prop} {Q:Exit→Act→World→Prop} {w:World} (s x:Operand)
  (ho:o.op=.call { callee:=.builtin .append,args:=#[s,x],argTypes:=#[t,t] })
  (B:Nat) (E:TypeId→Prop) (v:Value) (xs:List α) (hs:a.eval s=v) (hE:E e) (hown:OwnL B E e w v xs)
  (ad:Addr) (news:List Value) (y:α) (hx:a.eval x=.slice (some ad) 1 1) (hl:news.length=Lay.n α) (hnews:∀ j u,news[j]?=some u→w.cell? (ad.add j)=some u) (h1:∀ u∈news,u.oneCell'=true)
  (hy:∀ w'',Agree B E w w''→Lay.is w'' (fun j=>news[j]?) y)
  (hb:(xs.length+1) * (bytes+1)≤140737488355328) (hB:B≤w.heap.size)
  (h:∀ a' c' w',OwnL B E e w' (.slice a' (xs.length+1) c') (xs++[y])→w.grownBy w' v.ownBlock→K (a.put o.dst (.slice a' (xs.length+1) c')) w'):o.wp P a w K Q:=by
 obtain ⟨i0,hi,hz0,hz1,hz2⟩:=info_parts hinfo;obtain ⟨cs,hrow⟩:=hown.row;have e1:(xs.length+1) * (bytes+1)=(xs.length+1) * bytes+(xs.length+1):=by rw [Nat.mul_add,Nat.mul_one]
 refine wp_append_own w s x t ho B e i0 z (Lay.n α) bytes ht hi hz0 hz1 hz2 hz hsz v xs.length cs hs hrow ad 1 1 news hx (by omega) hnews h1 (by unfold maxLen;omega) (by omega) hB ?_;intro v' w' h2 h3 _
 have h4:OwnL B E e w' v' (xs++[y]):=OwnL.snoc hE hown (Below.refl _ _) hl hy h3 fun cs2 h5=>by
  rw [OwnL.row_unique hrow h5] at h2;exact h2
 obtain ⟨a',c',rfl⟩:=h4.shape;simp only [List.length_append,List.length_cons,List.length_nil,Nat.zero_add] at h4 ⊢;exact h a' c' w' h4 h3
theorem step_appL {α:Type} [Lay α] {P:Program} {t e:TypeId} {z:Value} {bytes:Nat} (hinfo:(P.info? e).map (fun i=>(i.zero,i.size,i.bytes))=some (some z,Lay.n α,bytes))
  (hz:z.cells.size=Lay.n α) (hsz:0 < Lay.n α) (ht:P.underlying t=some (.slice e))
  {ops:Array Oper} {o:Oper} {a:Act} {K:Act→World→Prop} {Q:Exit→Act→World→Prop} {X:Prop} {w:World} (hgd:o.guard=none) (s x:Operand)
  (ho:o.op=.call { callee:=.builtin .append,args:=#[s,x],argTypes:=#[t,t] })
  (B:Nat) (E:TypeId→Prop) (v:Value) (xs:List α) (hs:a.eval s=v) (hE:E e) (hown:OwnL B E e w v xs)
  (ad:Addr) (news:List Value) (y:α) (hx:a.eval x=.slice (some ad) 1 1) (hl:news.length=Lay.n α) (hnews:∀ j u,news[j]?=some u→w.cell? (ad.add j)=some u) (h1:∀ u∈news,u.oneCell'=true)
  (hy:∀ w'',Agree B E w w''→Lay.is w'' (fun j=>news[j]?) y)
  (hb:(xs.length+1) * (bytes+1)≤140737488355328) (hB:B≤w.heap.size)
  (h:∀ a' c' w',OwnL B E e w' (.slice a' (xs.length+1) c') (xs++[y])→w.grownBy w' v.ownBlock→K (a.put o.dst (.slice a' (xs.length+1) c')) w') :
  if Region.wanted o (yielded ops a.tmps)=true then Oper.wp P o a w K Q else X:=by
 have hw:Region.wanted o (yielded ops a.tmps)=true:=by simp [Region.wanted,hgd]
 rw [if_pos hw];exact wpo_appL hinfo hz hsz ht s x ho B E v xs hs hE hown ad news y hx hl hnews h1 hy hb hB h
theorem keep_set {w:World} {a p:Addr} {u v:Value} (h:w.cell? p=some u) (hne:p.block≠a.block):(w.setCell a v).cell? p=some u:=by
 unfold World.cell? at *;rw [blk_set_other w a v _ hne];exact h
theorem obj_ne {w:World} {g r:Nat} {c1 c2:Array Value} {e1 e2:TypeId} {f1 f2:Nat×Nat} (h1:w.heap[g]?=some (.cells c1 e1 f1)) (h2:w.heap[r]?=some (.cells c2 e2 f2)) (hne:e1≠e2):g≠r:=by
 rintro rfl;rw [h1] at h2;cases h2;exact hne rfl
theorem keep_g {w W W':World} {row:Option Nat} {p:Addr} {u:Value} (h:w.cell? p=some u) (hb:Below w.heap.size w W) (hg:W.grownBy W' row) (hne:some p.block≠row):W'.cell? p=some u:=hg.cell (kept hb h) hne
theorem zqreadu0 {p:Prop} (h:p:=by
 have h1:W.heap[r]?=some (.cells #[lv,.int .i64 nx,v0,v1,v2,v3] 138 (0,0)):=by rw [hb.block r h.lt];exact h.obj
 rw [hA.2 r hlt (.inr fun ⟨cs,e,fr,he,hh⟩=>by rw [h1] at hh;cases hh;exact absurd he (by decide))];exact h1):p:=h
theorem RD.set_lic {B r:Nat} {w W w1:World} {lv:Value} {ls:List ByteArray} {nx:Nat} {v0 v1 v2 v3 u:Value} {c:Catalog} {xs:List License} (h:RD B r w lv ls nx v0 v1 v2 v3 c) (hb:Below w.heap.size w W) (hA:Agree B (·=106) W w1) (hu:OwnL B E5 106 w1 u xs) :
  RD B r (w1.setCell ⟨r,2,none⟩ u) lv ls nx u v1 v2 v3 { c with licenses:=xs }:=by
 have hlt:r < W.heap.size:=Nat.lt_of_lt_of_le h.lt hb.size;have ho:w1.heap[r]?=some (.cells #[lv,.int .i64 nx,v0,v1,v2,v3] 138 (0,0)):=by exact zqreadu0
 have hR:=agree_setCell (j:=2) (u:=u) h.hB ho;exact ⟨h.hB,by rw [setCell_obj w1 r 2 u ho];rfl,((h.lines.below hb).agree hA (by decide)).agree hR (by decide),hu.other hR (fun x hx=>hx ▸ Or.inl rfl) (by decide),((h.exc.below hb).other hA (fun x hx=>hx ▸ (by decide)) (by decide)).other hR (fun x hx=>hx ▸ Or.inl rfl) (by decide),((h.cla.below hb).other hA (fun x hx=>hx ▸ (by decide)) (by decide)).other hR (fun x hx=>hx ▸ Or.inl rfl) (by decide),((h.prs.below hb).other hA (fun x hx=>hx ▸ (by decide)) (by decide)).other hR (fun x hx=>hx ▸ Or.inl rfl) (by decide)⟩
theorem RD.set_exc {B r:Nat} {w W w1:World} {lv:Value} {ls:List ByteArray} {nx:Nat} {v0 v1 v2 v3 u:Value} {c:Catalog} {xs:List Exc} (h:RD B r w lv ls nx v0 v1 v2 v3 c) (hb:Below w.heap.size w W) (hA:Agree B (·=145) W w1) (hu:OwnL B E5 145 w1 u xs) :
  RD B r (w1.setCell ⟨r,3,none⟩ u) lv ls nx v0 u v2 v3 { c with exceptions:=xs }:=by
 have hlt:r < W.heap.size:=Nat.lt_of_lt_of_le h.lt hb.size;have ho:w1.heap[r]?=some (.cells #[lv,.int .i64 nx,v0,v1,v2,v3] 138 (0,0)):=by exact zqreadu0
 have hR:=agree_setCell (j:=3) (u:=u) h.hB ho;exact ⟨h.hB,by rw [setCell_obj w1 r 3 u ho];rfl,((h.lines.below hb).agree hA (by decide)).agree hR (by decide),((h.lic.below hb).other hA (fun x hx=>hx ▸ (by decide)) (by decide)).other hR (fun x hx=>hx ▸ Or.inl rfl) (by decide),hu.other hR (fun x hx=>hx ▸ Or.inl rfl) (by decide),((h.cla.below hb).other hA (fun x hx=>hx ▸ (by decide)) (by decide)).other hR (fun x hx=>hx ▸ Or.inl rfl) (by decide),((h.prs.below hb).other hA (fun x hx=>hx ▸ (by decide)) (by decide)).other hR (fun x hx=>hx ▸ Or.inl rfl) (by decide)⟩
theorem RD.set_cla {B r:Nat} {w W w1:World} {lv:Value} {ls:List ByteArray} {nx:Nat} {v0 v1 v2 v3 u:Value} {c:Catalog} {xs:List Clause} (h:RD B r w lv ls nx v0 v1 v2 v3 c) (hb:Below w.heap.size w W) (hA:Agree B (·=74) W w1) (hu:OwnL B E5 74 w1 u xs) :
  RD B r (w1.setCell ⟨r,4,none⟩ u) lv ls nx v0 v1 u v3 { c with clauses:=xs }:=by
 have hlt:r < W.heap.size:=Nat.lt_of_lt_of_le h.lt hb.size;have ho:w1.heap[r]?=some (.cells #[lv,.int .i64 nx,v0,v1,v2,v3] 138 (0,0)):=by exact zqreadu0
 have hR:=agree_setCell (j:=4) (u:=u) h.hB ho;exact ⟨h.hB,by rw [setCell_obj w1 r 4 u ho];rfl,((h.lines.below hb).agree hA (by decide)).agree hR (by decide),((h.lic.below hb).other hA (fun x hx=>hx ▸ (by decide)) (by decide)).other hR (fun x hx=>hx ▸ Or.inl rfl) (by decide),((h.exc.below hb).other hA (fun x hx=>hx ▸ (by decide)) (by decide)).other hR (fun x hx=>hx ▸ Or.inl rfl) (by decide),hu.other hR (fun x hx=>hx ▸ Or.inl rfl) (by decide),((h.prs.below hb).other hA (fun x hx=>hx ▸ (by decide)) (by decide)).other hR (fun x hx=>hx ▸ Or.inl rfl) (by decide)⟩
theorem RD.set_prs {B r:Nat} {w W w1:World} {lv:Value} {ls:List ByteArray} {nx:Nat} {v0 v1 v2 v3 u:Value} {c:Catalog} {xs:List Pair} (h:RD B r w lv ls nx v0 v1 v2 v3 c) (hb:Below w.heap.size w W) (hA:Agree B (·=151) W w1) (hu:OwnL B E5 151 w1 u xs) :
  RD B r (w1.setCell ⟨r,5,none⟩ u) lv ls nx v0 v1 v2 u { c with apart:=xs }:=by
 have hlt:r < W.heap.size:=Nat.lt_of_lt_of_le h.lt hb.size;have ho:w1.heap[r]?=some (.cells #[lv,.int .i64 nx,v0,v1,v2,v3] 138 (0,0)):=by exact zqreadu0
 have hR:=agree_setCell (j:=5) (u:=u) h.hB ho;exact ⟨h.hB,by rw [setCell_obj w1 r 5 u ho];rfl,((h.lines.below hb).agree hA (by decide)).agree hR (by decide),((h.lic.below hb).other hA (fun x hx=>hx ▸ (by decide)) (by decide)).other hR (fun x hx=>hx ▸ Or.inl rfl) (by decide),((h.exc.below hb).other hA (fun x hx=>hx ▸ (by decide)) (by decide)).other hR (fun x hx=>hx ▸ Or.inl rfl) (by decide),((h.cla.below hb).other hA (fun x hx=>hx ▸ (by decide)) (by decide)).other hR (fun x hx=>hx ▸ Or.inl rfl) (by decide),hu.other hR (fun x hx=>hx ▸ Or.inl rfl) (by decide)⟩
theorem objbelow {w w':World} {g:Nat} {o:Obj} (h:w.heap[g]?=some o) (hb:Below w.heap.size w w'):w'.heap[g]?=some o:=by
 have hg:g < w.heap.size:=by
  rcases Nat.lt_or_ge g w.heap.size with h1 | h1
  ·exact h1
  ·rw [Array.getElem?_eq_none h1] at h;cases h
 rw [hb.block g hg];exact h
theorem intRow:(Tryz.prog.info? 3).map (fun i=>(i.zero,i.size,i.bytes))=some (some (.int .i64 0),1,8):=by kernel_rfl
theorem excRow:(Tryz.prog.info? 145).map (fun i=>(i.zero,i.size,i.bytes))=some (some (.agg #[.string ByteArray.empty,.string ByteArray.empty,.slice none 0 0]),3,56):=by kernel_rfl
theorem app_int {ops:Array Oper} {rest:List Oper} {o:Oper} {a:Act} {Q:Exit→Act→World→Prop} {w:World} (hgd:o.guard=none) (s x:Operand)
  (ho:o.op=.call { callee:=.builtin .append,args:=#[s,x],argTypes:=#[100,100] })
  (B:Nat) (v:Value) (xs:List Int) (hs:a.eval s=v) (hown:OwnV (Value.int .i64) B 3 w v xs)
  (y:Int) (hx:a.eval x=.slice (some ⟨w.heap.size,0,none⟩) 1 1)
  (hb:xs.length≤4294967296) (hB:B≤w.heap.size)
  (h:∀ a' c' w',OwnV (Value.int .i64) B 3 w' (.slice a' (xs.length+1) c') (xs++[y])→World.grownBy (w.alloc (.cells #[.int .i64 y] 3)) w' v.ownBlock→wpList Tryz.prog ops Q rest (a.put o.dst (.slice a' (xs.length+1) c')) w') :
  wpList Tryz.prog ops Q (o :: rest) a (w.alloc (.cells #[.int .i64 y] 3)):=by
 refine wp_app intRow rfl (by decide) Tryz.underlying100 hgd s x ho B v xs.length _ hs hown #[.int .i64 y] hx rfl (by simp [Value.oneCell']) (by omega) hB fun v' w' h1 h2 _=>?_;have h3:OwnV (Value.int .i64) B 3 w' v' (xs++[y]):=by show World.ownsRow _ _ _ _ _ _ _;simpa using h1
 obtain ⟨a',c',rfl,-⟩:=h3.shape;simp only [List.length_append,List.length_cons,List.length_nil,Nat.zero_add] at h3 ⊢;exact h a' c' w' h3 h2
theorem dutyIxs_cons (s:ByteArray) (r:List ByteArray):dutyIxs (s :: r)=if wordIx dutyW s < 0 then none else match dutyIxs r with | none=>none | some l=>some (wordIx dutyW s :: l):=rfl
theorem exc_is {B' B:Nat} {w w':World} {x y:ByteArray} {la:Option Addr} {lc:Nat} {dn:List Int} (h0:x.size≤maxLen) (h1:y.size≤maxLen) (h2:OwnV (Value.int .i64) B' 3 w (.slice la dn.length lc) dn) (h3:∀ n∈dn,inI64 n) (hA:Agree B E5 w w') :
  Lay.is w' (fun j=>[Value.string x,.string y,.slice la dn.length lc][j]?) (⟨x,y,dn⟩:Exc):=by
 obtain ⟨a',c',he,k1,k2,k3⟩:=list_inv ((h2.agree hA (by decide)).ints h3);cases he;exact Exc.is_iff.2 ⟨la,lc,rfl,rfl,rfl,h0,h1,k1,k2,k3⟩
theorem exception_p (B r:Nat) (w:World) (lv:Value) (ls:List ByteArray) (nx:Nat) (v0 v1 v2 v3:Value) (c:Catalog) (wv:Value) (ws:List ByteArray) (h:RD B r w lv ls nx v0 v1 v2 v3 c) (hB:B≤w.heap.size) (hn:c.exceptions.length≤100000000) (hwn:ws.length≤100000000) (hw:WD w wv ws) :
  Calls Tryz.prog 144 #[.pointer (some ⟨r,0,none⟩),wv] w fun e w'=>ROut B r lv ls nx (readExc c ws) e w w':=by
 obtain ⟨wa,wc,rfl,hwl,hwc,hwr⟩:=list_inv hw.1;simp only [maxLen] at hwc;by_cases h2:2≤ws.length
 case neg =>
  have hE:Hid (readExc c ws=.err 4):=by
   show _=_;match ws,h2 with
   | [],_=>rfl
   | [_],_=>rfl
   | _ :: _ :: _,h=>exact absurd (by simp) h
  have q1:decide ((ws.length:Int) < 2)=true:=by simp;omega
  clear hwr hw;go_enter Tryz.func144,Tryz.ntmps144;go_wp2;go_ret;unfold ROut;rw [hE.out];exact ⟨rfl,Below.refl _ _⟩
 obtain ⟨x,y,ds,rfl⟩:∃ x y ds,ws=x :: y :: ds:=by
  match ws,h2 with
  | x :: y :: ds,_=>exact ⟨x,y,ds,rfl⟩
  | [_],h=>simp at h
  | [],h=>simp at h
 obtain ⟨gw,ow,rfl,hgw,k0',ksz0⟩:=str_at (i:=0) hwr rfl;obtain ⟨gw',ow',he1,-,k1,ksz1⟩:=str_at (i:=1) hwr rfl;cases he1;obtain ⟨csw,frw,hob⟩:=hw.2 gw ow _ _ rfl;have k0:w.cell? ⟨gw,ow,none⟩=some (.string x):=by simpa using k0'
 have HR:=zh h;have HWR:=zh hwr;have hlr:=h.lt;have HOB:=zh hob;simp only [List.length_cons] at hwl hwn ⊢;generalize hm:ds.length+1+1=m at *;have q1:decide ((m:Int) < 2)=false:=by simp;omega
 have b1:(2:Int)≤(wc:Int):=by omega
 have b2:(2:Int)≤(m:Int):=by omega
 have b3:(m:Int)≤(wc:Int):=by omega
 have b4:(0:Int) < (m:Int):=by omega
 have b5:(1:Int) < (m:Int):=by omega
 have b6:0 < m:=by omega
 have hdm:m - 2=ds.length:=by omega
 clear k0' hwr hw hob;go_enter Tryz.func144,Tryz.ntmps144;go_wp2;go_region_held3 (fun w'=>w'.cell? ⟨gw,ow,none⟩=some (.string x)∧w'.cell? ⟨gw,ow+1,none⟩=some (.string y)) (go_keep) (fail)
 go_wp2
 ·obtain rfl:m=2:=by omega
  have hl0:ds.length=0:=by omega
  have hds:dutyIxs ds=some []:=by rw [List.length_eq_zero_iff.1 hl0];rfl
  have HBq:Hid (Below w.heap.size w (w.alloc (.cells #[.string x,.string y,.slice none 0 0] 145)).drew):=bw;have HOX:Hid ((w.alloc (.cells #[.string x,.string y,.slice none 0 0] 145)).drew.heap[w.heap.size]?=some (.cells #[.string x,.string y,.slice none 0 0] 145 (0,0))):=obj_new _ _;have HOV:Hid (OwnV (Value.int .i64) (w.heap.size+1) 3 (w.alloc (.cells #[.string x,.string y,.slice none 0 0] 145)).drew (.slice none 0 0) []):=OwnV.nil _ _ _ _;have HIN:Hid (∀ n∈([]:List Int),inI64 n):=by intro n hn;simp at hn
  generalize (w.alloc (.cells #[.string x,.string y,.slice none 0 0] 145)).drew=wz at *;refine wp_loop_rounds 1 ?_;rw [rounds_succ];go_wp2;have HB5:=zh (HR.out.below HBq.out);have z3:=objcell HB5.out.obj (j:=3) rfl;have zf:=objfrozen HB5.out.obj (j:=3);have hr5:r < wz.heap.size:=HB5.out.lt;have hws5:w.heap.size≤wz.heap.size:=HBq.out.size;have x0:=objcell HOX.out (j:=0) rfl;have x1:=objcell HOX.out (j:=1) rfl;have x2:=objcell HOX.out (j:=2) rfl;have hx5:w.heap.size < wz.heap.size:=cell_lt x0;have hne2:=own_ne HB5.out.exc HB5.out.obj (by decide);have hE:Hid (readExc c (x :: y :: ds)=.ok { c with exceptions:=c.exceptions++[⟨x,y,([]:List Int)⟩] } 0):=by
   show _=_;unfold readExc;simp only [hds]
  go_region_law ((refine step_appL excRow rfl (by decide) Tryz.underlying23 (by rfl) _ _ (by rfl) B E5 v1 c.exceptions (by rfl) (by decide) (HB5.out.exc.below bw) ⟨wz.heap.size,0,none⟩ [.string x,.string y,.slice none ([]:List Int).length 0] ⟨x,y,([]:List Int)⟩ (by rfl) rfl (World.news_of_block (cs:=#[.string x,.string y,.slice none ([]:List Int).length 0]) (t:=145) (fr:=(0,0)) (heap_alloc_new wz _)) (by simp [Value.oneCell']) (fun w'' hA=>exc_is ksz0 ksz1 (HOV.out.below bw) HIN.out hA) (by omega) (by simp;omega) ?_;intro a' c' w1 ho1 hg1;have hr6:=keep_g z3 bw hg1 hne2;have hf6:=(hg1.frozen_far ⟨r,3,none⟩ (by simp;omega) hne2).trans (keptF (a:=⟨r,3,none⟩) bw z3 zf)))
  all_goals
   go_wp2;go_ret;unfold ROut;rw [hE.out];have hgr1:=OwnL.grown (HB5.out.exc.below bw) hg1 (by simp;omega);refine ⟨rfl,?_,v0,_,v2,v3,HB5.out.set_exc bw hgr1.2 ho1⟩;have hq:=hgr1.1;have hq1:=HBq.out.mono hB;have hq2:Below B wz w1:=Below.trans bw hq;exact Below.setCell (hq1.trans hq2) HB5.out.hB _
 ·have hdr:(w.alloc (.cells #[.string x,.string y,.slice none 0 0] 145)).drew.heap.size=w.heap.size+1:=by simp
  have HBA:Hid (Below w.heap.size w (w.alloc (.cells #[.string x,.string y,.slice none 0 0] 145)).drew):=bw;have HOXA:Hid ((w.alloc (.cells #[.string x,.string y,.slice none 0 0] 145)).drew.heap[w.heap.size]?=some (.cells #[.string x,.string y,.slice none 0 0] 145 (0,0))):=obj_new _ _;generalize (w.alloc (.cells #[.string x,.string y,.slice none 0 0] 145)).drew=wz at *;go_loopw [22] (fun kv wr=>∃ (j:Nat) (dn:List Int) (la:Option Addr) (lc:Nat),j≤ds.length∧kv=.int .i64 j∧Hid (dn.length=j)∧Hid (Below w.heap.size w wr)∧Hid (wr.heap[w.heap.size]?=some (.cells #[.string x,.string y,.slice la dn.length lc] 145 (0,0)))∧Hid (OwnV (Value.int .i64) (w.heap.size+1) 3 wr (.slice la dn.length lc) dn)∧Hid (∀ n∈dn,inI64 n)∧Hid (dutyIxs ds=match dutyIxs (ds.drop j) with | none=>none | some l=>some (dn++l))) (fun kv _=>ds.length - (intOf kv).toNat)
  case atStart =>
   refine ⟨0,[],none,0,by omega,rfl,rfl,HBA.out,HOXA.out,OwnV.nil _ _ _ _,by intro n hn;simp at hn,?_⟩;show _=_;rw [List.drop_zero];cases dutyIxs ds with
   | none=>rfl
   | some l=>rfl
  case round =>
   obtain ⟨j,dn,la,lc,hj,rfl,hdn,HBq,HOX,HOV,HIN,hf⟩:=hrel;by_cases hji:j < ds.length
   ·obtain ⟨s,hs⟩:=get_lt hji;have hd:=zh (drop_at hs);obtain ⟨gw2,ow2,he,-,c0',csz⟩:=str_at (i:=j+2) HWR.out (by simpa using hs);cases he;have c0:=kept HBq.out c0';rw [show ow+(j+2)=ow+2+j by omega] at c0;have hgr:gw < wr.heap.size:=cell_lt c0;have hxw:w.heap.size < wr.heap.size:=obj_lt HOX.out;clear c0' hs;go_wp2_with fail
    refine (duty_x _).mono ?_;rintro e w5 ⟨rfl,T5,rfl⟩;go_wp2_with fail
    refine (duty_ix wr _ T5 _ s rfl (Below.refl _ _)).mono ?_;rintro e w6 ⟨rfl,rfl⟩;cases q2:decide (wordIx dutyW s < 0);case true =>
     have hE:Hid (readExc c (x :: y :: ds)=.err 4):=by
      show _=_;have:dutyIxs ds=none:=by
       rw [hf.out,hd.out,dutyIxs_cons,if_pos (of_decide_eq_true q2)]
      unfold readExc;simp only [this]
     go_wp2;go_ret;unfold ROut;rw [hE.out];have hq:=HBq.out.mono hB;exact ⟨rfl,bw⟩
    case false =>
     have hneg:=of_decide_eq_false q2;have ob5:=objbelow HOX.out ((Below.refl wr.heap.size wr).alloc (Nat.le_refl _) (.cells dutyA T5));have x2:=objcell ob5 (j:=2) rfl;have hq1:=HBq.out;have hbD:Below w.heap.size w (wr.alloc (.cells dutyA T5)):=bw;have HOVD:=zh (HOV.out.below ((Below.refl wr.heap.size wr).alloc (Nat.le_refl _) (.cells dutyA T5)));have HBD:=zh hbD;have OB5:=zh ob5;have hsD:(wr.alloc (.cells dutyA T5)).heap.size=wr.heap.size+1:=by simp
     clear ob5 hq1 hbD c0;generalize wr.alloc (.cells dutyA T5)=wd at *;have hxd:w.heap.size < wd.heap.size:=by omega
     go_wp2_with (at_builtin;go_loud (refine app_int rfl _ _ rfl (w.heap.size+1) _ _ rfl HOVD.out (wordIx dutyW s) ?e0 ?e1 ?e2 ?_))
     case e0 =>
      show Value.slice (some ⟨wr.heap.size+1,0,none⟩) 1 1=Value.slice (some ⟨wd.heap.size,0,none⟩) 1 1;rw [hsD]
     case e1=>have:=hdn.out;omega
     case e2=>omega
     intro a' c' w7 ho7 hg7;have hbw7:Below w.heap.size w w7:=Below.grown (B:=w.heap.size) (Below.alloc HBD.out (by omega) _) hg7 (by simp;omega) (fun k hk=>Nat.le_of_succ_le (own_block HOVD.out k hk));have hne7:some w.heap.size≠(Value.slice la dn.length lc).ownBlock:=fun e=>by have:=own_block HOVD.out _ e.symm;omega
     have ob7:w7.heap[w.heap.size]?=some (.cells #[.string x,.string y,.slice la dn.length lc] 145 (0,0)):=by
      rw [hg7.block w.heap.size (by simp;omega) hne7];exact objbelow OB5.out ((Below.refl wd.heap.size wd).alloc (Nat.le_refl _) _)
     have x7:=objcell ob7 (j:=2) rfl;have f7:=objfrozen ob7 (j:=2);have HB7:=zh hbw7;have HO7:=zh ho7;have OB7:=zh ob7;have hw7:w.heap.size < w7.heap.size:=obj_lt ob7;clear hbw7 ho7 ob7 hne7 hg7;go_wp2;go_roundw
     case rel =>
      refine ⟨j+1,dn++[wordIx dutyW s],a',c',by omega,by go_num,by show _=_;have:=hdn.out;simp [this],?_,?_,?_,?_,?_⟩
      ·exact Below.setCell HB7.out (Nat.le_refl _) _
      ·show _=_;rw [setCell_obj w7 w.heap.size 2 _ OB7.out];simp
      ·show OwnV _ _ _ _ _ _;simp only [List.length_append,List.length_cons,List.length_nil,Nat.zero_add];exact HO7.out.setCell (by show w.heap.size < _;omega)
      ·intro n hn;rcases List.mem_append.1 hn with hn | hn
       ·exact HIN.out n hn
       ·simp only [List.mem_singleton] at hn;subst hn;have:=wordIx_lt (ws:=dutyW) (s:=s);have h6:(dutyW.length:Int)=6:=rfl;unfold inI64;omega
      ·show _=_;rw [hf.out,hd.out,dutyIxs_cons,if_neg (show ¬ wordIx dutyW s < 0 by omega)];cases dutyIxs (ds.drop (j+1)) with
       | none=>rfl
       | some l=>simp
     case measure=>exact zm
   ·have hds:dutyIxs ds=some dn:=by
     rw [hf.out,List.drop_eq_nil_of_le (by omega)];simp [dutyIxs]
    go_wp2;have HB5:=zh (HR.out.below HBq.out);have z3:=objcell HB5.out.obj (j:=3) rfl;have zf:=objfrozen HB5.out.obj (j:=3);have hr5:r < wr.heap.size:=HB5.out.lt;have hws5:w.heap.size≤wr.heap.size:=HBq.out.size;have x0:=objcell HOX.out (j:=0) rfl;have x1:=objcell HOX.out (j:=1) rfl;have x2:=objcell HOX.out (j:=2) rfl;have hx5:w.heap.size < wr.heap.size:=cell_lt x0;have hne2:=own_ne HB5.out.exc HB5.out.obj (by decide);have hE:Hid (readExc c (x :: y :: ds)=.ok { c with exceptions:=c.exceptions++[⟨x,y,dn⟩] } 0):=by
     show _=_;unfold readExc;simp only [hds]
    go_region_law ((refine step_appL excRow rfl (by decide) Tryz.underlying23 (by rfl) _ _ (by rfl) B E5 v1 c.exceptions (by rfl) (by decide) (HB5.out.exc.below bw) ⟨wr.heap.size,0,none⟩ [.string x,.string y,.slice la dn.length lc] ⟨x,y,dn⟩ (by rfl) rfl (World.news_of_block (cs:=#[.string x,.string y,.slice la dn.length lc]) (t:=145) (fr:=(0,0)) (heap_alloc_new wr _)) (by simp [Value.oneCell']) (fun w'' hA=>exc_is ksz0 ksz1 (HOV.out.below bw) HIN.out hA) (by omega) (by simp;omega) ?_;intro a' c' w1 ho1 hg1;have hr6:=keep_g z3 bw hg1 hne2;have hf6:=(hg1.frozen_far ⟨r,3,none⟩ (by simp;omega) hne2).trans (keptF (a:=⟨r,3,none⟩) bw z3 zf)))
    all_goals
     go_wp2;go_ret;unfold ROut;rw [hE.out];have hgr1:=OwnL.grown (HB5.out.exc.below bw) hg1 (by simp;omega);refine ⟨rfl,?_,v0,_,v2,v3,HB5.out.set_exc bw hgr1.2 ho1⟩;have hq:=hgr1.1;have hq1:=HBq.out.mono hB;have hq2:Below B wr w1:=Below.trans bw hq;exact Below.setCell (hq1.trans hq2) HB5.out.hB _
open Go.Sort
theorem isEmpty_p (s:ByteArray) (w:World):Calls Tryz.prog 142 #[.string s] w fun e w'=>e=.returned (.bool (isW s []))∧w'=w:=by
 have e:s.toList.isEmpty=isW s []:=by
  unfold isW;rw [ByteArray.toList_eq];cases s.data.toList <;> rfl
 rw [← e];clear e;go_enter Tryz.func142,Tryz.ntmps142;go_wp2;go_ret;exact ⟨rfl,rfl⟩
theorem putRow_obj {α:Type} [Inhabited α] (enc:α→Value) (w:World) (g:Nat) (d:Array α) {cur:Array Value} {e:TypeId} {fr:Nat×Nat} (h:w.heap[g]?=some (.cells cur e fr)) :
  ∃ cs,(putRow enc w g 0 d).heap[g]?=some (.cells cs e fr):=by
 unfold putRow mapBlock;simp only [Array.getElem?_modify,if_pos rfl,h];exact ⟨_,rfl⟩
theorem putRow_below {α:Type} [Inhabited α] (enc:α→Value) (w w0:World) (g:Nat) (d:Array α) (hb:Below g w0 w):Below g w0 (putRow enc w g 0 d):=by
 refine ⟨hb.os,hb.tape,hb.output,?_,fun k hk=>?_⟩
 ·have:(putRow enc w g 0 d).heap.size=w.heap.size:=by simp [putRow,mapBlock]
  rw [this];exact hb.size
 ·have:(putRow enc w g 0 d).heap[k]?=w.heap[k]?:=by
   unfold putRow mapBlock;simp only [Array.getElem?_modify];rw [if_neg (by omega)]
  rw [this];exact hb.block k hk
theorem delete_p (w:World) (ps:List ByteArray) (hn:ps.length≤4294967296) (hs:∀ s∈ps,s.size≤maxLen) :
  Calls Tryz.prog 141 #[.slice (some ⟨w.heap.size,0,none⟩) ps.length ps.length,.func (.func 142) #[] #[]] (w.alloc (.cells (ps.map Value.string).toArray 9)) fun e w' =>
   e=.returned (.slice (some ⟨w.heap.size,0,none⟩) (ps.filter fun x=>!isW x []).length ps.length)∧WD w' (.slice (some ⟨w.heap.size,0,none⟩) (ps.filter fun x=>!isW x []).length ps.length) (ps.filter fun x=>!isW x [])∧Below w.heap.size w w':=by
 have eg:∀ args w,(callFunc 142 args).run Tryz.prog w=.ok (.enter 142 args) w:=enters_of Tryz.func142 (by kernel_rfl) rfl;have hobj:(w.alloc (.cells (ps.map Value.string).toArray 9)).heap[w.heap.size]?=some (.cells (ps.map Value.string).toArray 9 (0,0)):=obj_new _ _;have hH:Holds Value.string (w.alloc (.cells (ps.map Value.string).toArray 9)) w.heap.size 0 ps.toArray:=by
  intro j hj;have hj':j < ps.length:=by simpa using hj
  exact ⟨obj_cell (j:=0+j) hobj (by simp [hj']),objfrozen hobj⟩
 refine ((Tryz.slices_DeleteFunc Value.string (fun _=>rfl) (fun a=>isW a []) 142 #[] eg ByteArray.empty (by intro w;kernel_rfl) w.heap.size 0 ps.length ps.toArray _ (fun W x _=>(isEmpty_p x W).mono fun e w' h=>⟨h.1,0,h.2⟩) (fun n os dk x _=>(isEmpty_p x _).mono fun e w' h=>⟨h.1,0,h.2⟩) hH (by simp;omega) (by simp)):Calls _ _ _ _ _).mono ?_;rintro e w' ⟨he,q,rfl⟩;have hle:(ps.filter fun x=>!isW x []).length≤ps.length:=List.length_filter_le _ _;generalize hfl:(ps.filter fun x=>!isW x [])=fl at *;simp only [List.size_toArray] at he ⊢;generalize hdd:(fl++List.replicate (ps.length - fl.length) ByteArray.empty).toArray=dd;have hds:dd.size=ps.length:=by rw [← hdd];simp;omega
 have hA:Holds Value.string (Sort.ahead (w.alloc (.cells (ps.map Value.string).toArray 9)) q) w.heap.size 0 ps.toArray:=hH;have hP:=holds_putRow Value.string _ w.heap.size 0 ps.toArray dd hA (by simp [hds]);have hobj':(Sort.ahead (w.alloc (.cells (ps.map Value.string).toArray 9)) q).heap[w.heap.size]?=some (.cells (ps.map Value.string).toArray 9 (0,0)):=hobj;obtain ⟨cs,hob⟩:=putRow_obj Value.string (Sort.ahead (w.alloc (.cells (ps.map Value.string).toArray 9)) q) w.heap.size dd hobj';have hbl:Below w.heap.size w (putRow Value.string (Sort.ahead (w.alloc (.cells (ps.map Value.string).toArray 9)) q) w.heap.size 0 dd):=by
  refine putRow_below _ _ _ _ _ ?_;have h1:Below w.heap.size w (w.alloc (.cells (ps.map Value.string).toArray 9)):=bw;exact ⟨h1.os,h1.tape,h1.output,h1.size,h1.block⟩
 refine ⟨by rw [he],⟨list_mk hle (by unfold maxLen;omega) ?_,?_⟩,hbl⟩
 ·intro i x hx;refine ⟨w.heap.size,0,rfl,obj_lt hob,?_,?_⟩
  ·have hi:i < fl.length:=lt_get hx;have h1:=(hP i (by omega)).1;have h2:dd[i]! = x:=by
    rw [← hdd];rw [getElem!_pos _ _ (by simp;omega)];have h3:(fl++List.replicate (ps.length - fl.length) ByteArray.empty)[i]?=some x:=by rw [List.getElem?_append_left hi];exact hx
    simpa using (List.getElem?_eq_some_iff.1 h3).2
   rw [h2] at h1;show World.cell? _ ⟨w.heap.size,0+i * 1+0,none⟩=_;simpa using h1
  ·have hm:x∈fl:=List.mem_of_getElem? hx;rw [← hfl] at hm;exact hs x (List.mem_filter.1 hm).1
 ·intro g o n c hv;cases hv;exact ⟨_,_,hob⟩
end Go.Proofs.YtcbopdbbcgdkcaaGreatDoor
namespace Go.Proofs.YtcbopdbbcgdkcaaGreatDoor
open Go Go.RowKit Go.ChangeShapes

def entV (p:(ByteArray×Value)×Nat):MapEntry:={ key:=.string p.1.1,val:=p.1.2,born:=p.2 }
def entsV (es:List (ByteArray×Value)):List MapEntry:=es.zipIdx.map entV
def FM (w:World) (b:Nat) (es:List (ByteArray×Value)):Prop:=w.heap[b]?=some (.map (entsV es).toArray es.length)
def lookV (nm:ByteArray):List (ByteArray×Value)→Nat→Option (Nat×Value)
 | [],_=>none
 | e :: r,i=>if e.1=nm then some (i,e.2) else lookV nm r (i+1)
theorem findNow_ents (nm:ByteArray):∀ (es:List (ByteArray×Value)) (k i:Nat),
  Instr.findNow .string (.string nm) ((es.zipIdx k).map entV) i=some (lookV nm es i)
 | [],_,_=>rfl
 | (x,v) :: r,k,i=>by
  have ih:=findNow_ents nm r (k+1) (i+1);simp only [List.zipIdx_cons,List.map_cons,Instr.findNow,Instr.sameNow,entV,lookV];by_cases h:x=nm
  ·subst h;rw [ba_beq];simp
  ·have h':(nm == x)=false:=by rw [ba_beq];exact decide_eq_false (fun e=>h e.symm)
   rw [h',if_neg h];exact ih
theorem FM.new (w:World):FM (w.alloc (.map #[] 0)) w.heap.size []:=by
 show (w.heap.push _)[w.heap.size]?=_;simp [entsV]
theorem FM.lt {w:World} {b:Nat} {es:List (ByteArray×Value)} (h:FM w b es):b < w.heap.size:=by
 rcases Nat.lt_or_ge b w.heap.size with g | g
 ·exact g
 ·unfold FM at h;rw [Array.getElem?_eq_none g] at h;cases h
theorem run_getObj_FM {P:Program} {w:World} {b:Nat} {es:List (ByteArray×Value)} (hm:FM w b es):(getObj b).run P w=.ok (.map (entsV es).toArray es.length) w:=by
 unfold FM at hm;simp [getObj,Sem.run,hm]
theorem run_setObj_FM {P:Program} {w:World} {b:Nat} {es:List (ByteArray×Value)} (hm:FM w b es) (o:Obj):(setObj b o).run P w=.ok () { w with heap:=w.heap.setIfInBounds b o }:=by
 unfold FM at hm;simp [setObj,Sem.run,hm]
section
variable {P:Program} {K:TypeId} (hK:P.underlying K=some .string)
include hK
theorem run_findKey_FM (nm:ByteArray) (es:List (ByteArray×Value)) (w:World):(Instr.findKey K (.string nm) (entsV es)).run P w=.ok (lookV nm es 0) w:=by
 unfold Instr.findKey;have:=findNow_ents nm es 0 0;unfold entsV;simp [run_underlying hK,this]
variable {T E:TypeId} (hT:P.underlying T=some (.map K E))
include hT
theorem run_lookup_FM {z:Value} (hz:∀ w,(zeroValue E).run P w=.ok z w) {w:World} {b:Nat} {es:List (ByteArray×Value)} (hm:FM w b es) (nm:ByteArray) :
  (Instr.lookup T (.map (some b)) (.string nm) false).run P w=.ok (((lookV nm es 0).map Prod.snd).getD z) w:=by
 have hg:=run_getObj_FM (P:=P) hm;have h2:=run_findKey_FM hK nm es w;unfold Instr.lookup;cases hi:lookV nm es 0 with
 | none =>
  rw [hi] at h2;simp [run_underlying hT,hg,run_checkKey_str hK,h2,hz]
 | some j =>
  rw [hi] at h2;simp [run_underlying hT,hg,run_checkKey_str hK,h2]
theorem run_update_FM {w:World} {b:Nat} {es:List (ByteArray×Value)} (hm:FM w b es) (nm:ByteArray) (v:Value) (hn:lookV nm es 0=none) :
  (Instr.mapUpdate T (.map (some b)) (.string nm) v).run P w=.ok () { w with heap:=w.heap.setIfInBounds b (.map (entsV (es++[(nm,v)])).toArray (es.length+1)) }:=by
 have hg:=run_getObj_FM (P:=P) hm;have h2:=run_findKey_FM hK nm es w;rw [hn] at h2;have he:(entsV (es++[(nm,v)])).toArray=(entsV es).toArray.push { key:=.string nm,val:=v,born:=es.length }:=by
  unfold entsV;rw [List.zipIdx_append];simp [entV]
 unfold Instr.mapUpdate;simp only [he];have hs:=fun o=>run_setObj_FM (P:=P) hm o;simp [run_underlying hT,hg,run_checkKey_str hK,h2,hs]
end
theorem update_FM {P:Program} {K T E:TypeId} (hK:P.underlying K=some .string) (hT:P.underlying T=some (.map K E)) {w:World} {b:Nat} {es:List (ByteArray×Value)} (hm:FM w b es) (nm:ByteArray) (v:Value) (hn:lookV nm es 0=none) :
  ∃ w',(Instr.mapUpdate T (.map (some b)) (.string nm) v).run P w=.ok () w'∧FM w' b (es++[(nm,v)])∧w.grownBy w' (some b):=by
 refine ⟨_,run_update_FM hK hT hm nm v hn,?_,?_⟩
 ·have hb:=hm.lt;unfold FM at *;simp [hb]
 ·refine ⟨rfl,rfl,rfl,by simp,fun k hk hne=>?_⟩;have:¬ b=k:=fun e=>hne (by rw [e]);simp [Array.getElem?_setIfInBounds,this]
end Go.Proofs.YtcbopdbbcgdkcaaGreatDoor
