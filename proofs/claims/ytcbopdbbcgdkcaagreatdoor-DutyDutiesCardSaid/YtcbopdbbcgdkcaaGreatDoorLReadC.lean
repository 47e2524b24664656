/- Lemmas. -/
import Derived.Test.YtcbopdbbcgdkcaaGreatDoorLReadU
set_option linter.all false
set_option maxRecDepth 100000
set_option maxHeartbeats 16000000
namespace Go.Proofs.YtcbopdbbcgdkcaaGreatDoor
open Go Go.RowKit Go.ChangeShapes
theorem cl_is {B' B:Nat} {w w':World} {x:ByteArray} {a b c:Int} {la:Option Addr} {lc:Nat} {dn:List ByteArray} (h0:x.size≤maxLen) (ha:inI64 a) (hb:inI64 b) (hc:inI64 c) (h2:OwnV Value.string B' 9 w (.slice la dn.length lc) dn) (h3:∀ n∈dn,n.size≤maxLen) (hA:Agree B E5 w w') :
  Lay.is w' (fun j=>[Value.string x,.int .i64 a,.int .i64 b,.int .i64 c,.slice la dn.length lc][j]?) (⟨x,a,b,c,dn⟩:Clause):=by
 obtain ⟨a',c',he,k1,k2,k3⟩:=list_inv ((h2.agree hA (by decide)).strs h3);cases he;exact Clause.is_iff.2 ⟨la,lc,rfl,rfl,rfl,rfl,rfl,h0,ha,hb,hc,k1,k2,k3⟩
theorem alloc_get (w:World) (o:Obj) (i:Nat):(w.alloc o).heap[i]?=if i=w.heap.size then some o else w.heap[i]?:=by
 show (w.heap.push o)[i]?=_;rw [Array.getElem?_push]
theorem row_sub0 {w:World} {b o i:Nat} {ls:List ByteArray} (h:Row w (some ⟨b,o,none⟩) ls):Row w (some ⟨b,o+i,none⟩) (ls.drop i):=by
 intro j x hx;rw [List.getElem?_drop] at hx;obtain ⟨b',o',he,hb,hi⟩:=h (i+j) x hx;cases he;refine ⟨b,o+i,rfl,hb,?_⟩;have e:o+i+j * Lay.n ByteArray=o+(i+j) * Lay.n ByteArray:=by simp [Lay.n];omega
 rw [e];exact hi
theorem get4_4 (w:World) (o1 o2 o3 o4:Obj):((((w.alloc o1).alloc o2).alloc o3).alloc o4).drew.heap[w.heap.size+1+1+1]?=some o4:=by
 have h:=obj_new (((w.alloc o1).alloc o2).alloc o3) o4;simp only [World.size_alloc] at h;exact h
theorem get4_3 (w:World) (o1 o2 o3 o4:Obj):((((w.alloc o1).alloc o2).alloc o3).alloc o4).drew.heap[w.heap.size+1+1]?=some o3:=by
 have h:=obj_below (obj_new ((w.alloc o1).alloc o2) o3) ((Below.refl _ _).alloc (Nat.le_refl _) o4);simp only [World.size_alloc] at h;exact h
theorem get4_2 (w:World) (o1 o2 o3 o4:Obj):((((w.alloc o1).alloc o2).alloc o3).alloc o4).drew.heap[w.heap.size+1]?=some o2:=by
 have h:=obj_below (obj_below (obj_new (w.alloc o1) o2) ((Below.refl _ _).alloc (Nat.le_refl _) o3)) ((Below.refl _ _).alloc (Nat.le_refl _) o4);simp only [World.size_alloc] at h;exact h
theorem get4_1 (w:World) (o1 o2 o3 o4:Obj):((((w.alloc o1).alloc o2).alloc o3).alloc o4).drew.heap[w.heap.size]?=some o1:=by
 have h:=obj_below (obj_below (obj_below (obj_new w o1) ((Below.refl _ _).alloc (Nat.le_refl _) o2)) ((Below.refl _ _).alloc (Nat.le_refl _) o3)) ((Below.refl _ _).alloc (Nat.le_refl _) o4);exact h
theorem drew_get (w:World) (i:Nat):w.drew.heap[i]?=w.heap[i]?:=rfl
def IsWords (A:Array Value) (n:Nat) (wl:List (List UInt8)):Prop:=wl.length=n∧n≤6∧∀ j,j < n→A[j]?=some (.string ((wl.map mkS).getD j ByteArray.empty))
theorem isWay:IsWords wayA 3 wayW:=⟨rfl,by decide,fun j hj=>by
 have hj':j < wayW.length:=hj;simp [wayA,hj',List.getD_eq_getElem?_getD]⟩
theorem isRel:IsWords relA 3 relW:=⟨rfl,by decide,fun j hj=>by
 have hj':j < relW.length:=hj;simp [relA,hj',List.getD_eq_getElem?_getD]⟩
theorem isDuty:IsWords dutyA 6 dutyW:=⟨rfl,by decide,fun j hj=>by
 have hj':j < dutyW.length:=hj;simp [dutyA,hj',List.getD_eq_getElem?_getD]⟩
theorem any_iy (W:World) (g n:Nat) (s:ByteArray) (A:Array Value) (T:TypeId) (wl:List (List UInt8)) (hb:W.heap[g]?=some (.cells A T)) (hw:IsWords A n wl) :
  Calls Tryz.prog 93 #[.slice (some ⟨g,0,none⟩) n n,.string s] W fun e w'=>e=.returned (.int .i64 (wordIx wl s))∧w'=W:=by
 obtain ⟨h1,h6,h2⟩:=hw
 have h:=Tryz.slices_Index_string g 0 n n (wl.map mkS) s W (by simp [h1]) (by omega) (by
  intro j hj;exact obj_cell (j:=0+j) hb (by rw [Nat.zero_add];exact h2 j (by simpa [h1] using hj)))
 have e:((wl.map mkS).take n)=wl.map mkS:=List.take_of_length_le (by simp [h1]);rw [e,idxOfS_word] at h;exact h
theorem wordIx_in (ws:List (List UInt8)) (s:ByteArray) (h:ws.length≤6):inI64 (wordIx ws s):=by
 have h1:=wordIx_lt (ws:=ws) (s:=s);have h2 : -1≤wordIx ws s:=by unfold wordIx;split <;> omega
 unfold inI64;omega
theorem zrreadc0 {p:Prop} (h:p:=by
 have HO9:=zh (ho9.setCell (a:=⟨xb,4,none⟩) (u:=.slice a9 ds.length c9) (by show xb < _;omega));have hb10:Below w.heap.size w (w9.setCell ⟨xb,4,none⟩ (.slice a9 ds.length c9)):=by
  have hq:=HBq.out;have hq2:=hq.trans (hb9.mono hwq);exact Below.setCell hq2 hxw _
 clear x0 x1 x2 x3 x4 x9 f9 hb9 ho9 hg9;generalize w9.setCell ⟨xb,4,none⟩ (.slice a9 ds.length c9)=w10 at *;go_wp2;have ob10:w10.heap[xb]?=some (.cells #[.string x,.int .i64 (wordIx wayW y1),.int .i64 (wordIx relW y2),.int .i64 (wordIx dutyW y3),.slice a9 ds.length c9] 74 (0,0)):=by simpa using h10
 have R10:=zh (HR.out.below hb10);have HB10:=zh hb10;have z4:=objcell R10.out.obj (j:=4) rfl;have zf:=objfrozen R10.out.obj (j:=4);have hr10:r < w10.heap.size:=R10.out.lt;have hws10:w.heap.size≤w10.heap.size:=hb10.size;have hne2:=own_ne R10.out.cla R10.out.obj (by decide);have x0:=objcell ob10 (j:=0) rfl;have x1:=objcell ob10 (j:=1) rfl;have x2:=objcell ob10 (j:=2) rfl;have x3:=objcell ob10 (j:=3) rfl;have x4:=objcell ob10 (j:=4) rfl;have hx10:xb < w10.heap.size:=obj_lt ob10;have HSZ:Hid (∀ s∈ds,s.size≤maxLen):=fun s hs=>row_size HWR.out s (by simp [hs]);clear h10 ob10 hb10;go_region_law ((refine step_appL clRow rfl (by decide) Tryz.underlying24 (by rfl) _ _ (by rfl) B E5 v2 c.clauses (by rfl) (by decide) (R10.out.cla.below bw) ⟨w10.heap.size,0,none⟩ [.string x,.int .i64 (wordIx wayW y1),.int .i64 (wordIx relW y2),.int .i64 (wordIx dutyW y3),.slice a9 ds.length c9] ⟨x,wordIx wayW y1,wordIx relW y2,wordIx dutyW y3,ds⟩ (by rfl) rfl (World.news_of_block (cs:=#[.string x,.int .i64 (wordIx wayW y1),.int .i64 (wordIx relW y2),.int .i64 (wordIx dutyW y3),.slice a9 ds.length c9]) (t:=74) (fr:=(0,0)) (heap_alloc_new w10 _)) (by simp [Value.oneCell']) (fun w'' hA=>cl_is ksz0 (wordIx_in _ _ (by decide)) (wordIx_in _ _ (by decide)) (wordIx_in _ _ (by decide)) (HO9.out.below bw) HSZ.out hA) (by omega) (by simp;omega) ?_;intro a' c' w1 ho1 hg1;have hr6:=keep_g z4 bw hg1 hne2;have hf6:=(hg1.frozen_far ⟨r,4,none⟩ (by simp;omega) hne2).trans (keptF (a:=⟨r,4,none⟩) bw z4 zf)))
 all_goals
  go_wp2;go_ret;unfold ROut;rw [hE.out];have hgr1:=OwnL.grown (R10.out.cla.below bw) hg1 (by simp;omega);refine ⟨rfl,?_,v0,v1,_,v3,R10.out.set_cla bw hgr1.2 ho1⟩;have hq:=hgr1.1;have hq1:=HB10.out.mono hB;have hq2:Below B w10 w1:=Below.trans bw hq;exact Below.setCell (hq1.trans hq2) R10.out.hB _):p:=h
theorem zrreadc1 {p:Prop} (h:p:=by
 go_wp2;go_ret;unfold ROut;rw [hE.out];exact ⟨rfl,HBq.out.mono hB⟩):p:=h
theorem clause_p (B r:Nat) (w:World) (lv:Value) (ls:List ByteArray) (nx:Nat) (v0 v1 v2 v3:Value) (c:Catalog) (wv:Value) (ws:List ByteArray) (h:RD B r w lv ls nx v0 v1 v2 v3 c) (hB:B≤w.heap.size) (hn:c.clauses.length≤100000000) (hwn:ws.length≤100000000) (hw:WD w wv ws) :
  Calls Tryz.prog 145 #[.pointer (some ⟨r,0,none⟩),wv] w fun e w'=>ROut B r lv ls nx (readClause c ws) e w w':=by
 obtain ⟨wa,wc,rfl,hwl,hwc,hwr⟩:=list_inv hw.1;simp only [maxLen] at hwc;by_cases h2:4≤ws.length
 case neg =>
  have hE:Hid (readClause c ws=.err 4):=by
   show _=_;match ws,h2 with
   | [],_=>rfl
   | [_],_=>rfl
   | [_,_],_=>rfl
   | [_,_,_],_=>rfl
   | _ :: _ :: _ :: _ :: _,h=>exact absurd (by simp) h
  have q1:decide ((ws.length:Int) < 4)=true:=by simp;omega
  clear hwr hw;go_enter Tryz.func145,Tryz.ntmps145;go_wp2;go_ret;unfold ROut;rw [hE.out];exact ⟨rfl,Below.refl _ _⟩
 obtain ⟨x,y1,y2,y3,ds,rfl⟩:∃ x y1 y2 y3 ds,ws=x :: y1 :: y2 :: y3 :: ds:=by
  match ws,h2 with
  | x :: y1 :: y2 :: y3 :: ds,_=>exact ⟨x,y1,y2,y3,ds,rfl⟩
  | [_,_,_],h=>simp at h
  | [_,_],h=>simp at h
  | [_],h=>simp at h
  | [],h=>simp at h
 obtain ⟨gw,ow,rfl,hgw,k0',ksz0⟩:=str_at (i:=0) hwr rfl;obtain ⟨gw',ow',he1,-,k1,ksz1⟩:=str_at (i:=1) hwr rfl;cases he1;obtain ⟨gw',ow',he1,-,k2,ksz2⟩:=str_at (i:=2) hwr rfl;cases he1;obtain ⟨gw',ow',he1,-,k3,ksz3⟩:=str_at (i:=3) hwr rfl;cases he1;obtain ⟨csw,frw,hob⟩:=hw.2 gw ow _ _ rfl;have k0:w.cell? ⟨gw,ow,none⟩=some (.string x):=by simpa using k0'
 have HR:=zh h;have HWR:=zh hwr;have hlr:=h.lt;have HOB:=zh hob;simp only [List.length_cons] at hwl hwn ⊢;generalize hm:ds.length+1+1+1+1=m at *;have q1:decide ((m:Int) < 4)=false:=by simp;omega
 have b1:(4:Int)≤(wc:Int):=by omega
 have b2:(4:Int)≤(m:Int):=by omega
 have b3:(m:Int)≤(wc:Int):=by omega
 have b4:(0:Int) < (m:Int):=by omega
 have b5:(1:Int) < (m:Int):=by omega
 have b6:(2:Int) < (m:Int):=by omega
 have b7:(3:Int) < (m:Int):=by omega
 have b8:0 < m:=by omega
 have HM:=zh hm;clear k0' hwr hw hob hm;go_enter Tryz.func145,Tryz.ntmps145;go_wp2
 go_region_held3 (fun w'=>w'.cell? ⟨gw,ow,none⟩=some (.string x)∧w'.cell? ⟨gw,ow+1,none⟩=some (.string y1)∧w'.cell? ⟨gw,ow+2,none⟩=some (.string y2)∧w'.cell? ⟨gw,ow+3,none⟩=some (.string y3))
  (first | (go_keep;done) | exact ⟨kept bw k0,kept bw k1,kept bw k2,kept bw k3⟩)
  (first
   | (go_at_call 198;refine (way_x _).mono ?_;rintro e w4 ⟨rfl,T4,rfl⟩)
   | (go_at_call 199;refine (rel_x _).mono ?_;rintro e w5 ⟨rfl,T5,rfl⟩)
   | (go_at_call 197;refine (duty_x _).mono ?_;rintro e w6 ⟨rfl,T6,rfl⟩)
   | (go_at_call 93;refine (any_iy _ _ _ _ _ _ _ (by simp only [alloc_get,drew_get,World.size_alloc];simp;exact ⟨rfl,rfl⟩) (by first | exact isWay | exact isRel | exact isDuty)).mono ?_;rintro e w7 ⟨rfl,rfl⟩)
   | fail)
 all_goals
  generalize hW:World.drew _=wq;have hbq:Below w.heap.size w wq:=by
   rw [← hW];exact bw
  first
  | (have ob0:wq.heap[w.heap.size]?=some (.cells #[.string x,.int .i64 (wordIx wayW y1),.int .i64 (wordIx relW y2),.int .i64 (wordIx dutyW y3),.slice none 0 0] 74 (0,0)):=by rw [← hW];exact get4_1 w _ _ _ _
     generalize hxb:w.heap.size=xb at ob0 ⊢)
  | (have ob0:wq.heap[w.heap.size+1]?=some (.cells #[.string x,.int .i64 (wordIx wayW y1),.int .i64 (wordIx relW y2),.int .i64 (wordIx dutyW y3),.slice none 0 0] 74 (0,0)):=by rw [← hW];exact get4_2 w _ _ _ _
     generalize hxb:w.heap.size+1=xb at ob0 ⊢)
  | (have ob0:wq.heap[w.heap.size+1+1]?=some (.cells #[.string x,.int .i64 (wordIx wayW y1),.int .i64 (wordIx relW y2),.int .i64 (wordIx dutyW y3),.slice none 0 0] 74 (0,0)):=by rw [← hW];exact get4_3 w _ _ _ _
     generalize hxb:w.heap.size+1+1=xb at ob0 ⊢)
  | (have ob0:wq.heap[w.heap.size+1+1+1]?=some (.cells #[.string x,.int .i64 (wordIx wayW y1),.int .i64 (wordIx relW y2),.int .i64 (wordIx dutyW y3),.slice none 0 0] 74 (0,0)):=by rw [← hW];exact get4_4 w _ _ _ _
     generalize hxb:w.heap.size+1+1+1=xb at ob0 ⊢)
  have hxlt:xb < wq.heap.size:=obj_lt ob0;have hxw:w.heap.size≤xb:=by omega
  have HBq:=zh hbq;have OB0:=zh ob0;have x0:=objcell ob0 (j:=0) rfl;have x1:=objcell ob0 (j:=1) rfl;have x2:=objcell ob0 (j:=2) rfl;have x3:=objcell ob0 (j:=3) rfl;have x4:=objcell ob0 (j:=4) rfl;have hwq:w.heap.size≤wq.heap.size:=hbq.size;clear hW hbq ob0 hxb;cases p1:decide (wordIx wayW y1 < 0);case true =>
   have hE:Hid (readClause c (x :: y1 :: y2 :: y3 :: ds)=.err 4):=by show _=_;unfold readClause;simp only [p1,Bool.true_or,if_true]
   exact zrreadc1
  cases p2:decide (wordIx relW y2 < 0);case true =>
   have hE:Hid (readClause c (x :: y1 :: y2 :: y3 :: ds)=.err 4):=by show _=_;unfold readClause;simp only [p2,Bool.or_true,Bool.true_or,if_true]
   exact zrreadc1
  cases p3:decide (wordIx dutyW y3 < 0);case true =>
   have hE:Hid (readClause c (x :: y1 :: y2 :: y3 :: ds)=.err 4):=by show _=_;unfold readClause;simp only [p3,Bool.or_true,if_true]
   exact zrreadc1
  have hE:Hid (readClause c (x :: y1 :: y2 :: y3 :: ds)=.ok { c with clauses:=c.clauses++[⟨x,wordIx wayW y1,wordIx relW y2,wordIx dutyW y3,ds⟩] } 0):=by
   show _=_;unfold readClause;simp only [p1,p2,p3,Bool.or_self,Bool.false_eq_true,if_false]
  have hdm:m - 4=ds.length:=by have:=HM.out;omega
  by_cases hc4:wc=4
  ·have hd0:Hid (ds=[]):=List.length_eq_zero_iff.1 (by have:=HM.out;omega);have HU:Hid (Is wq (.slice (some ⟨gw,ow,none⟩) ds.length 0) ds):=by
    show Is _ _ _;exact list_mk (by rw [hd0.out];simp) (by decide) (fun i z hz=>by rw [hd0.out] at hz;simp at hz)
   go_wp2;go_region_law ((refine step_app_strs (by rfl) _ _ (by rfl) wq.heap.size (.slice none 0 0) [] (by rfl) (OwnV.nil _ _ _ _) (.slice (some ⟨gw,ow,none⟩) ds.length 0) ds (by rfl) (HU.out.mono bw) (by simp;omega) (by simp) ?_;intro v' w9 ho9 hg9;simp only [List.nil_append] at ho9;obtain ⟨a9,c9,rfl,-⟩:=ho9.shape;have hb9:Below wq.heap.size wq w9:=Below.grown (B:=wq.heap.size) bw hg9 (by simp) (by intro k hk;cases hk);have ob9:=obj_below OB0.out hb9;have x9:=objcell ob9 (j:=4) rfl;have f9:=objfrozen ob9 (j:=4)))
   have h10:=setCell_obj w9 xb 4 (.slice a9 ds.length c9) ob9;exact zrreadc0
  ·have HU:Hid (Is wq (.slice (some ⟨gw,ow+4,none⟩) ds.length (wc - 4)) ds):=by
    show Is _ _ _;have h1:=row_sub0 (i:=4) HWR.out;exact (list_mk (xs:=ds) (by have:=HM.out;omega) (by unfold maxLen;omega) h1).mono HBq.out
   go_wp2;go_region_law ((refine step_app_strs (by rfl) _ _ (by rfl) wq.heap.size (.slice none 0 0) [] (by rfl) (OwnV.nil _ _ _ _) (.slice (some ⟨gw,ow+4,none⟩) ds.length (wc - 4)) ds (by rfl) (HU.out.mono bw) (by simp;omega) (by simp) ?_;intro v' w9 ho9 hg9;simp only [List.nil_append] at ho9;obtain ⟨a9,c9,rfl,-⟩:=ho9.shape;have hb9:Below wq.heap.size wq w9:=Below.grown (B:=wq.heap.size) bw hg9 (by simp) (by intro k hk;cases hk);have ob9:=obj_below OB0.out hb9;have x9:=objcell ob9 (j:=4) rfl;have f9:=objfrozen ob9 (j:=4)))
   have h10:=setCell_obj w9 xb 4 (.slice a9 ds.length c9) ob9;exact zrreadc0
end Go.Proofs.YtcbopdbbcgdkcaaGreatDoor
