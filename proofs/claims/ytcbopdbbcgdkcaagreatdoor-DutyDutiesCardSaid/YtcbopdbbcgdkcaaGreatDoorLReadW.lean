/- Lemmas. -/
import Derived.Test.YtcbopdbbcgdkcaaGreatDoorLReadC
import Derived.Test.YtcbopdbbcgdkcaaGreatDoorLReadV
set_option linter.all false
set_option maxRecDepth 100000
set_option maxHeartbeats 16000000
namespace Go.Proofs.YtcbopdbbcgdkcaaGreatDoor
open Go Go.RowKit Go.ChangeShapes

theorem ROut.trans {B r:Nat} {lv:Value} {ls:List ByteArray} {nx:Nat} {res:LineRes} {e:Ending} {w u w':World} (h:ROut B r lv ls nx res e u w') (hb:Below B w u):ROut B r lv ls nx res e w w':=by
 unfold ROut at *;cases res with
 | err k=>exact ⟨h.1,hb.trans h.2⟩
 | ok c n=>exact ⟨h.1,hb.trans h.2.1,h.2.2⟩
theorem ROut.ret {B r:Nat} {lv:Value} {ls:List ByteArray} {nx:Nat} {res:LineRes} {e:Ending} {w w':World} (h:ROut B r lv ls nx res e w w'):∃ k:Int,e=.returned (.int .i64 k):=by
 unfold ROut at h;cases res with
 | err k=>exact ⟨k,h.1⟩
 | ok c n=>exact ⟨0,h.1⟩
theorem zrreadw0 {p:Prop} (h:p:=by
 obtain ⟨k,rfl⟩:=hro.ret;have HRO:=zh (hro.trans (HBu.out.mono hB));clear hro HWD;go_wp2;go_ret;rw [hE.out];exact HRO.out):p:=h
theorem zrreadw1 {p:Prop} (h:p:=by
 refine (license_p B r u3 lv ls nx v0 v1 v2 v3 c _ ds (HR.out.below HBu.out) (Nat.le_trans hB HBu.out.size) hn0 hnx hls hll hlsz.out hj.out HWD).mono ?_;rintro e w5 hro;exact zrreadw0):p:=h
theorem zrreadw2 {p:Prop} (h:p:=by
 refine (exception_p B r u3 lv ls nx v0 v1 v2 v3 c _ ds (HR.out.below HBu.out) (Nat.le_trans hB HBu.out.size) hn1 hdl HWD).mono ?_;rintro e w5 hro;exact zrreadw0):p:=h
theorem zrreadw3 {p:Prop} (h:p:=by
 refine (clause_p B r u3 lv ls nx v0 v1 v2 v3 c _ ds (HR.out.below HBu.out) (Nat.le_trans hB HBu.out.size) hn2 hdl HWD).mono ?_;rintro e w5 hro;exact zrreadw0):p:=h
theorem zrreadw4 {p:Prop} (h:p:=by
 refine (apart_p B r u3 lv ls nx v0 v1 v2 v3 c _ ds (HR.out.below HBu.out) (Nat.le_trans hB HBu.out.size) hn3 HWD).mono ?_;rintro e w5 hro;exact zrreadw0):p:=h
theorem line_p (B r:Nat) (w:World) (lv:Value) (ls:List ByteArray) (nx:Nat) (v0 v1 v2 v3:Value) (c:Catalog) (h:RD B r w lv ls nx v0 v1 v2 v3 c) (hB:B≤w.heap.size) (hn0:c.licenses.length≤100000000) (hn1:c.exceptions.length≤100000000) (hn2:c.clauses.length≤100000000) (hn3:c.apart.length≤100000000)
  (hnx:nx≤ls.length) (hls:0 < ls.length) (hll:ls.length≤100000000) (hlsz:Hid (∀ s∈ls,s.size≤maxLen)) (hj:Hid (Lean1 ls)) (s:ByteArray) (hg:Glob w) (hs:s.size≤1000000) :
  Calls Tryz.prog 95 #[.pointer (some ⟨r,0,none⟩),.string s] w fun e w'=>ROut B r lv ls nx (readLine c s (ls.drop nx)) e w w':=by
 have HR:=zh h;have hcount:(splitAt 32 [] s.data.toList).length≤1000001:=by
  rw [splitAt_len];have:s.data.toList.count 32≤s.data.toList.length:=List.count_le_length;rw [by_len] at this;omega
 have hpsz:Hid (∀ p∈splitAt 32 [] s.data.toList,p.size≤maxLen):=by
  intro p hp;have:=splitAt_size 32 s.data.toList [] p hp;rw [by_len] at this;simp at this;unfold maxLen;omega
 have hRL:Hid (readLine c s (ls.drop nx)=match (splitAt 32 [] s.data.toList).filter (fun x=>!isW x []) with
  | []=>.ok c 0
  | h :: ws=>if h.data.toList.head?=some 35 then .ok c 0 else if isW h wLicense then readLic c ws (ls.drop nx) else if isW h wException then readExc c ws else if isW h wClause then readClause c ws else if isW h wApart then readApart c ws else .err 4):=by
  show _=_;unfold readLine wordsB;rfl
 have hw0:∀ p∈(splitAt 32 [] s.data.toList).filter (fun x=>!isW x []),0 < p.size:=by
  intro p hp;have h1:=(List.mem_filter.1 hp).2;rcases Nat.eq_zero_or_pos p.size with h0 | h0
  ·have h2:p.data.toList=[]:=by rw [← List.length_eq_zero_iff,by_len];exact h0
   simp [isW,h2] at h1
  ·exact h0
 have HW0:=zh hw0;clear hw0;go_enter Tryz.func95,Tryz.ntmps95;go_wp2_with fail
 refine (Split_one s 32 w hg (by omega)).mono ?_;rintro e w1 ⟨rfl,rfl⟩;go_wp2_with fail
 refine (delete_p w _ (by omega) hpsz.out).mono ?_;rintro e w2 ⟨rfl,hwd,hb2⟩;have HB2:=zh hb2;generalize (splitAt 32 [] s.data.toList).length=cp at *;generalize (splitAt 32 [] s.data.toList).filter (fun x=>!isW x [])=fl at *;cases fl with
 | nil =>
  simp only [List.length_nil];go_wp2;go_ret;rw [hRL.out];exact ⟨rfl,HB2.out.mono hB,v0,v1,v2,v3,HR.out.below HB2.out⟩
 | cons x ds =>
 have hx0:0 < x.size:=HW0.out x (by simp);obtain ⟨wa,wc,he,hwl,hwc,hwr⟩:=list_inv hwd.1;cases he;obtain ⟨csw,frw,hob⟩:=hwd.2 _ _ _ _ rfl;obtain ⟨gw',ow',he1,hgw,k0,ksz0⟩:=str_at (i:=0) hwr rfl;cases he1;have HWR2:=zh hwr;simp only [List.length_cons] at hwl ⊢;generalize hm:ds.length+1=m at *;have HM:=zh hm;have b4:(0:Int) < (m:Int):=by omega
 have b8:0 < m:=by omega
 have b9:(1:Int)≤(m:Int):=by omega
 have b10:(m:Int)≤(cp:Int):=by omega
 have b11:(1:Int)≤(cp:Int):=by omega
 have hdm:m - 1=ds.length:=by omega
 have hdl:ds.length≤100000000:=by omega
 have hm0:((m:Int) == 0)=false:=by simp;omega
 have k0':w2.cell? ⟨w.heap.size,0,none⟩=some (.string x):=by simpa using k0
 have hhd:x.data.toList.head?=some x[0]:=by
  have:=by_at x 0 hx0;rw [List.drop_zero] at this;rw [this];rfl
 have HOB2:=zh hob;clear hwr hwd hm k0 hob hb2;cases q0:((x[0].toNat:Int) == 35);case true =>
  go_wp2;go_ret;rw [hRL.out];simp only [hhd,u8_t 35 q0,if_true];exact ⟨rfl,HB2.out.mono hB,v0,v1,v2,v3,HR.out.below HB2.out⟩
 have HRL:Hid (readLine c s (ls.drop nx)=if isW x wLicense then readLic c ds (ls.drop nx) else if isW x wException then readExc c ds else if isW x wClause then readClause c ds else if isW x wApart then readApart c ds else .err 4):=by
  show _=_;rw [hRL.out];have:¬ x.data.toList.head?=some 35:=by rw [hhd];intro e;exact u8_f 35 q0 (Option.some.inj e)
  simp only [if_neg this]
 have hmm:=@run_makeMap Tryz.prog;obtain ⟨u0,hu0,fm0,gr0⟩:=update_FM (P:=Tryz.prog) (T:=189) Tryz.underlying9 Tryz.underlying189 (FM.new w2) ⟨#[108,105,99,101,110,115,101]⟩ (.func (.func 143) #[.pointer (some ⟨r,0,none⟩)] #[]) (by rfl);obtain ⟨u1,hu1,fm1,gr1⟩:=update_FM (P:=Tryz.prog) (T:=189) Tryz.underlying9 Tryz.underlying189 (fm0) ⟨#[101,120,99,101,112,116,105,111,110]⟩ (.func (.func 144) #[.pointer (some ⟨r,0,none⟩)] #[]) (by rfl);obtain ⟨u2,hu2,fm2,gr2⟩:=update_FM (P:=Tryz.prog) (T:=189) Tryz.underlying9 Tryz.underlying189 (fm1) ⟨#[99,108,97,117,115,101]⟩ (.func (.func 145) #[.pointer (some ⟨r,0,none⟩)] #[]) (by rfl);obtain ⟨u3,hu3,fm3,gr3⟩:=update_FM (P:=Tryz.prog) (T:=189) Tryz.underlying9 Tryz.underlying189 (fm2) ⟨#[97,112,97,114,116]⟩ (.func (.func 146) #[.pointer (some ⟨r,0,none⟩)] #[]) (by rfl);have hl:=run_lookup_FM (P:=Tryz.prog) (T:=189) Tryz.underlying9 Tryz.underlying189 (z:=.nilFunc) (by intro w;kernel_rfl) fm3 x;have hb3:Below w2.heap.size w2 u3:=by
  have h0:=Below.grown (B:=w2.heap.size) (Below.alloc (Below.refl w2.heap.size w2) (Nat.le_refl _) (.map #[] 0)) gr0 (by simp) (by intro k hk;cases hk;exact Nat.le_refl _);have h1:=Below.grown (B:=w2.heap.size) h0 gr1 h0.size (by intro k hk;cases hk;exact Nat.le_refl _);have h2:=Below.grown (B:=w2.heap.size) h1 gr2 h1.size (by intro k hk;cases hk;exact Nat.le_refl _);exact Below.grown (B:=w2.heap.size) h2 gr3 h2.size (by intro k hk;cases hk;exact Nat.le_refl _)
 have k3:=kept hb3 k0';have HBu:=zh (HB2.out.trans (hb3.mono HB2.out.size));have hg3:w.heap.size < u3.heap.size:=cell_lt k3;have hob3:=zh (objbelow HOB2.out hb3);have HWR:=zh (HWR2.out.mono hb3);clear gr0 gr1 gr2 gr3 fm0 fm1 fm2 fm3 hb3;by_cases p0:(⟨#[108,105,99,101,110,115,101]⟩:ByteArray)=x
 ·have y0:isW x wLicense=true:=by rw [← p0];rfl
  have hlv:lookV x ([]++[(⟨#[108,105,99,101,110,115,101]⟩,.func (.func 143) #[.pointer (some ⟨r,0,none⟩)] #[])]++[(⟨#[101,120,99,101,112,116,105,111,110]⟩,.func (.func 144) #[.pointer (some ⟨r,0,none⟩)] #[])]++[(⟨#[99,108,97,117,115,101]⟩,.func (.func 145) #[.pointer (some ⟨r,0,none⟩)] #[])]++[(⟨#[97,112,97,114,116]⟩,.func (.func 146) #[.pointer (some ⟨r,0,none⟩)] #[])]) 0=some (0,.func (.func 143) #[.pointer (some ⟨r,0,none⟩)] #[]):=by
   simp only [List.nil_append,List.cons_append,lookV];rw [if_pos p0]
  rw [hlv] at hl;simp only [Option.map_some,Option.getD_some] at hl;clear hlv;clear p0;have hq0:∀ w,(binOp .eql 188 (.func (.func 143) #[.pointer (some ⟨r,0,none⟩)] #[]) .nilFunc).run Tryz.prog w=.ok (.bool false) w:=fun w=>rfl;have hE:Hid (readLine c s (ls.drop nx)=readLic c ds (ls.drop nx)):=by
   show _=_;rw [HRL.out];simp only [y0,if_true,Bool.false_eq_true,if_false]
  go_wp2_with fail
  ·have HWD:WD u3 (.slice (some ⟨w.heap.size,0,none⟩) ds.length 0) ds:=by
    have hmm1:=HM.out;refine ⟨list_mk (by omega) (by decide) (fun i z hz=>by have:=lt_get hz;omega),?_⟩;intro g o nn cc hv;cases hv;exact ⟨_,_,objbelow hob3.out (Below.refl _ _)⟩
   exact zrreadw1
  ·have HWD:WD u3 (.slice (some ⟨w.heap.size,1,none⟩) ds.length (cp - 1)) ds:=by
    have hmm1:=HM.out;refine ⟨list_mk (xs:=ds) (by omega) (by unfold maxLen;omega) ((row_sub0 (i:=1) HWR.out)),?_⟩;intro g o nn cc hv;cases hv;exact ⟨_,_,objbelow hob3.out (Below.refl _ _)⟩
   exact zrreadw1
 have ww0:isW x wLicense=false:=by unfold isW;exact decide_eq_false (fun e=>p0 (by rw [← mkS_self x,e];rfl))
 by_cases p1:(⟨#[101,120,99,101,112,116,105,111,110]⟩:ByteArray)=x
 ·have y1:isW x wException=true:=by rw [← p1];rfl
  have hlv:lookV x ([]++[(⟨#[108,105,99,101,110,115,101]⟩,.func (.func 143) #[.pointer (some ⟨r,0,none⟩)] #[])]++[(⟨#[101,120,99,101,112,116,105,111,110]⟩,.func (.func 144) #[.pointer (some ⟨r,0,none⟩)] #[])]++[(⟨#[99,108,97,117,115,101]⟩,.func (.func 145) #[.pointer (some ⟨r,0,none⟩)] #[])]++[(⟨#[97,112,97,114,116]⟩,.func (.func 146) #[.pointer (some ⟨r,0,none⟩)] #[])]) 0=some (1,.func (.func 144) #[.pointer (some ⟨r,0,none⟩)] #[]):=by
   simp only [List.nil_append,List.cons_append,lookV,if_neg p0];rw [if_pos p1]
  rw [hlv] at hl;simp only [Option.map_some,Option.getD_some] at hl;clear hlv;clear p1;have hq0:∀ w,(binOp .eql 188 (.func (.func 144) #[.pointer (some ⟨r,0,none⟩)] #[]) .nilFunc).run Tryz.prog w=.ok (.bool false) w:=fun w=>rfl;have hE:Hid (readLine c s (ls.drop nx)=readExc c ds ):=by
   show _=_;rw [HRL.out];simp only [ww0,y1,if_true,Bool.false_eq_true,if_false]
  go_wp2_with fail
  ·have HWD:WD u3 (.slice (some ⟨w.heap.size,0,none⟩) ds.length 0) ds:=by
    have hmm1:=HM.out;refine ⟨list_mk (by omega) (by decide) (fun i z hz=>by have:=lt_get hz;omega),?_⟩;intro g o nn cc hv;cases hv;exact ⟨_,_,objbelow hob3.out (Below.refl _ _)⟩
   exact zrreadw2
  ·have HWD:WD u3 (.slice (some ⟨w.heap.size,1,none⟩) ds.length (cp - 1)) ds:=by
    have hmm1:=HM.out;refine ⟨list_mk (xs:=ds) (by omega) (by unfold maxLen;omega) ((row_sub0 (i:=1) HWR.out)),?_⟩;intro g o nn cc hv;cases hv;exact ⟨_,_,objbelow hob3.out (Below.refl _ _)⟩
   exact zrreadw2
 have ww1:isW x wException=false:=by unfold isW;exact decide_eq_false (fun e=>p1 (by rw [← mkS_self x,e];rfl))
 by_cases p2:(⟨#[99,108,97,117,115,101]⟩:ByteArray)=x
 ·have y2:isW x wClause=true:=by rw [← p2];rfl
  have hlv:lookV x ([]++[(⟨#[108,105,99,101,110,115,101]⟩,.func (.func 143) #[.pointer (some ⟨r,0,none⟩)] #[])]++[(⟨#[101,120,99,101,112,116,105,111,110]⟩,.func (.func 144) #[.pointer (some ⟨r,0,none⟩)] #[])]++[(⟨#[99,108,97,117,115,101]⟩,.func (.func 145) #[.pointer (some ⟨r,0,none⟩)] #[])]++[(⟨#[97,112,97,114,116]⟩,.func (.func 146) #[.pointer (some ⟨r,0,none⟩)] #[])]) 0=some (2,.func (.func 145) #[.pointer (some ⟨r,0,none⟩)] #[]):=by
   simp only [List.nil_append,List.cons_append,lookV,if_neg p0,if_neg p1];rw [if_pos p2]
  rw [hlv] at hl;simp only [Option.map_some,Option.getD_some] at hl;clear hlv;clear p2;have hq0:∀ w,(binOp .eql 188 (.func (.func 145) #[.pointer (some ⟨r,0,none⟩)] #[]) .nilFunc).run Tryz.prog w=.ok (.bool false) w:=fun w=>rfl;have hE:Hid (readLine c s (ls.drop nx)=readClause c ds ):=by
   show _=_;rw [HRL.out];simp only [ww0,ww1,y2,if_true,Bool.false_eq_true,if_false]
  go_wp2_with fail
  ·have HWD:WD u3 (.slice (some ⟨w.heap.size,0,none⟩) ds.length 0) ds:=by
    have hmm1:=HM.out;refine ⟨list_mk (by omega) (by decide) (fun i z hz=>by have:=lt_get hz;omega),?_⟩;intro g o nn cc hv;cases hv;exact ⟨_,_,objbelow hob3.out (Below.refl _ _)⟩
   exact zrreadw3
  ·have HWD:WD u3 (.slice (some ⟨w.heap.size,1,none⟩) ds.length (cp - 1)) ds:=by
    have hmm1:=HM.out;refine ⟨list_mk (xs:=ds) (by omega) (by unfold maxLen;omega) ((row_sub0 (i:=1) HWR.out)),?_⟩;intro g o nn cc hv;cases hv;exact ⟨_,_,objbelow hob3.out (Below.refl _ _)⟩
   exact zrreadw3
 have ww2:isW x wClause=false:=by unfold isW;exact decide_eq_false (fun e=>p2 (by rw [← mkS_self x,e];rfl))
 by_cases p3:(⟨#[97,112,97,114,116]⟩:ByteArray)=x
 ·have y3:isW x wApart=true:=by rw [← p3];rfl
  have hlv:lookV x ([]++[(⟨#[108,105,99,101,110,115,101]⟩,.func (.func 143) #[.pointer (some ⟨r,0,none⟩)] #[])]++[(⟨#[101,120,99,101,112,116,105,111,110]⟩,.func (.func 144) #[.pointer (some ⟨r,0,none⟩)] #[])]++[(⟨#[99,108,97,117,115,101]⟩,.func (.func 145) #[.pointer (some ⟨r,0,none⟩)] #[])]++[(⟨#[97,112,97,114,116]⟩,.func (.func 146) #[.pointer (some ⟨r,0,none⟩)] #[])]) 0=some (3,.func (.func 146) #[.pointer (some ⟨r,0,none⟩)] #[]):=by
   simp only [List.nil_append,List.cons_append,lookV,if_neg p0,if_neg p1,if_neg p2];rw [if_pos p3]
  rw [hlv] at hl;simp only [Option.map_some,Option.getD_some] at hl;clear hlv;clear p3;have hq0:∀ w,(binOp .eql 188 (.func (.func 146) #[.pointer (some ⟨r,0,none⟩)] #[]) .nilFunc).run Tryz.prog w=.ok (.bool false) w:=fun w=>rfl;have hE:Hid (readLine c s (ls.drop nx)=readApart c ds ):=by
   show _=_;rw [HRL.out];simp only [ww0,ww1,ww2,y3,if_true,Bool.false_eq_true,if_false]
  go_wp2_with fail
  ·have HWD:WD u3 (.slice (some ⟨w.heap.size,0,none⟩) ds.length 0) ds:=by
    have hmm1:=HM.out;refine ⟨list_mk (by omega) (by decide) (fun i z hz=>by have:=lt_get hz;omega),?_⟩;intro g o nn cc hv;cases hv;exact ⟨_,_,objbelow hob3.out (Below.refl _ _)⟩
   exact zrreadw4
  ·have HWD:WD u3 (.slice (some ⟨w.heap.size,1,none⟩) ds.length (cp - 1)) ds:=by
    have hmm1:=HM.out;refine ⟨list_mk (xs:=ds) (by omega) (by unfold maxLen;omega) ((row_sub0 (i:=1) HWR.out)),?_⟩;intro g o nn cc hv;cases hv;exact ⟨_,_,objbelow hob3.out (Below.refl _ _)⟩
   exact zrreadw4
 have ww3:isW x wApart=false:=by unfold isW;exact decide_eq_false (fun e=>p3 (by rw [← mkS_self x,e];rfl))
 have hlv:lookV x ([]++[(⟨#[108,105,99,101,110,115,101]⟩,.func (.func 143) #[.pointer (some ⟨r,0,none⟩)] #[])]++[(⟨#[101,120,99,101,112,116,105,111,110]⟩,.func (.func 144) #[.pointer (some ⟨r,0,none⟩)] #[])]++[(⟨#[99,108,97,117,115,101]⟩,.func (.func 145) #[.pointer (some ⟨r,0,none⟩)] #[])]++[(⟨#[97,112,97,114,116]⟩,.func (.func 146) #[.pointer (some ⟨r,0,none⟩)] #[])]) 0=none:=by
  simp only [List.nil_append,List.cons_append,lookV,if_neg p0,if_neg p1,if_neg p2,if_neg p3]
 rw [hlv] at hl;simp only [Option.map_none,Option.getD_none] at hl;clear hlv;have hq0:∀ w,(binOp .eql 188 .nilFunc .nilFunc).run Tryz.prog w=.ok (.bool true) w:=fun w=>rfl;have hE:Hid (readLine c s (ls.drop nx)=.err 4):=by
  show _=_;rw [HRL.out];simp only [ww0,ww1,ww2,ww3,Bool.false_eq_true,if_false]
 go_wp2;go_ret;rw [hE.out];exact ⟨rfl,HBu.out.mono hB⟩
end Go.Proofs.YtcbopdbbcgdkcaaGreatDoor
namespace Go.Proofs.YtcbopdbbcgdkcaaGreatDoor
open Go

theorem readLines_skip:∀ (n:Nat) (a:Int) (c:Catalog) (rest:List ByteArray),readLines a n c rest=readLines (a+n) 0 c (rest.drop n)
 | 0,a,c,rest=>by simp
 | n+1,a,c,[]=>by simp [readLines]
 | n+1,a,c,x :: rest=>by
  have h:=readLines_skip n (a+1) c rest;simp only [readLines,List.drop_succ_cons];rw [h];congr 1;omega
def Upto (k:Nat) (c:Catalog):Prop:=c.licenses.length≤k∧c.exceptions.length≤k∧c.clauses.length≤k∧c.apart.length≤k
theorem readLine_upto {c c':Catalog} {s:ByteArray} {rest:List ByteArray} {n k:Nat} (h:readLine c s rest=.ok c' n) (hk:Upto k c):Upto (k+1) c'∧n≤rest.length:=by
 obtain ⟨h1,h2,h3,h4⟩:=hk;unfold readLine at h;split at h
 ·cases h;exact ⟨⟨by omega,by omega,by omega,by omega⟩,Nat.zero_le _⟩
 ·split at h
  ·cases h;exact ⟨⟨by omega,by omega,by omega,by omega⟩,Nat.zero_le _⟩
  ·split at h
   ·unfold readLic at h;split at h
    ·split at h
     ·rename_i q1 q2
      split at h
      ·cases h
      ·rename_i hd
       cases h;obtain ⟨m,hm,-⟩:=num_nat q2;subst hm;simp only [decide_eq_true_eq,Int.not_lt] at hd;exact ⟨⟨by simp;omega,by show c.exceptions.length≤_;omega,by show c.clauses.length≤_;omega,by show c.apart.length≤_;omega⟩,by simp;omega⟩
     ·cases h
    ·cases h
   ·split at h
    ·unfold readExc at h;split at h
     ·split at h
      ·cases h
      ·cases h;exact ⟨⟨by show c.licenses.length≤_;omega,by simp;omega,by show c.clauses.length≤_;omega,by show c.apart.length≤_;omega⟩,Nat.zero_le _⟩
     ·cases h
    ·split at h
     ·unfold readClause at h;split at h
      ·split at h
       ·cases h
       ·cases h;exact ⟨⟨by show c.licenses.length≤_;omega,by show c.exceptions.length≤_;omega,by simp;omega,by show c.apart.length≤_;omega⟩,Nat.zero_le _⟩
      ·cases h
     ·split at h
      ·unfold readApart at h;split at h
       ·cases h;exact ⟨⟨by show c.licenses.length≤_;omega,by show c.exceptions.length≤_;omega,by show c.clauses.length≤_;omega,by simp;omega⟩,Nat.zero_le _⟩
       ·cases h
      ·cases h
theorem readLines_step {L:List ByteArray} {nx:Nat} {c:Catalog} {s:ByteArray} (hs:L[nx]?=some s) :
  readLines nx 0 c (L.drop nx)=match readLine c s (L.drop (nx+1)) with
   | .err e=>((nx:Int),e,⟨[],[],[],[]⟩)
   | .ok c' n=>readLines ((nx+1+n:Nat):Int) 0 c' (L.drop (nx+1+n)):=by
 rw [drop_at hs,readLines];cases h:readLine c s (L.drop (nx+1)) with
 | err e=>rfl
 | ok c' n =>
  show readLines _ _ _ _=_;rw [readLines_skip,List.drop_drop];congr 1
open Go.RowKit Go.ChangeShapes
theorem split_snoc (s:ByteArray):∃ fr la,splitAt 10 [] s.data.toList=fr++[la]∧textLines s=if isW la [] then fr else fr++[la]:=by
 have hne:splitAt 10 [] s.data.toList≠[]:=by
  intro e;have h1:=splitAt_len 10 s.data.toList [];rw [e] at h1;simp at h1
 have hd:=List.dropLast_concat_getLast hne;refine ⟨(splitAt 10 [] s.data.toList).dropLast,(splitAt 10 [] s.data.toList).getLast hne,hd.symm,?_⟩;unfold textLines;simp only [List.getLast?_eq_some_getLast hne];split
 ·rfl
 ·exact hd.symm
def sizes (l:List ByteArray):Nat:=(l.map ByteArray.size).sum
theorem split_sizes (d:UInt8):∀ (l cur:List UInt8),sizes (splitAt d cur l)≤cur.length+l.length
 | [],cur=>by simp [splitAt,sizes,mkS_size]
 | c :: r,cur=>by
  unfold splitAt;split
  ·have:=split_sizes d r [];simp only [sizes,List.map_cons,List.sum_cons,mkS_size,List.length_cons,List.length_nil] at *;omega
  ·have:=split_sizes d r (cur++[c]);simp only [List.length_append,List.length_cons,List.length_nil] at *;omega
theorem join_sizes (d:List UInt8):∀ (l:List ByteArray),(joinB d l).length≤sizes l+d.length * l.length
 | []=>by simp [joinB]
 | [a]=>by simp [joinB,sizes]
 | a :: b :: r=>by
  have h:=join_sizes d (b :: r);have e:(joinB d (a :: b :: r))=a.data.toList++d++joinB d (b :: r):=rfl;rw [e];simp only [sizes,List.map_cons,List.sum_cons,List.length_append,List.length_cons,by_len,Nat.mul_add,Nat.mul_one] at *;omega
theorem sizes_sub {l m:List ByteArray} (h:l.Sublist m):sizes l≤sizes m:=by
 induction h with
 | slnil=>exact Nat.le_refl _
 | cons a _ ih=>simp only [sizes,List.map_cons,List.sum_cons] at *;omega
 | cons_cons a _ ih=>simp only [sizes,List.map_cons,List.sum_cons] at *;omega
theorem lines_sub (s:ByteArray):(textLines s).Sublist (splitAt 10 [] s.data.toList):=by
 obtain ⟨fr,la,h1,h2⟩:=split_snoc s;rw [h1,h2];split
 ·exact List.sublist_append_left _ _
 ·exact List.Sublist.refl _
theorem zrreadw5 {p:Prop} (h:p:=by
 rw [splitAt_len];have:s.data.toList.count 10≤s.data.toList.length:=List.count_le_length;rw [by_len] at this;omega):p:=h
theorem lines_small {s:ByteArray} (hs:¬ 65536 < s.size):(textLines s).length≤65537∧(∀ x∈textLines s,x.size≤65536)∧Lean1 (textLines s):=by
 have hsub:=lines_sub s;have hc:(splitAt 10 [] s.data.toList).length≤65537:=by
  exact zrreadw5
 have hz:=split_sizes 10 s.data.toList [];rw [by_len] at hz;have hl:=hsub.length_le;refine ⟨by omega,fun x hx=>?_,fun a b=>?_⟩
 ·have:=splitAt_size 10 s.data.toList [] x (hsub.subset hx);rw [by_len] at this;simp at this;omega
 ·have h1:=join_sizes [10] (((textLines s).drop a).take b);have h2:=sizes_sub (((List.take_sublist b _).trans (List.drop_sublist a _)).trans hsub);have h3:=((List.take_sublist b ((textLines s).drop a)).trans (List.drop_sublist a _)).length_le;simp only [List.length_cons,List.length_nil] at *;omega
theorem readLine_ne {c:Catalog} {s:ByteArray} {rest:List ByteArray} {k:Int} (h:readLine c s rest=.err k):k≠0:=by
 unfold readLine at h;repeat' split at h
 all_goals try (cases h;done)
 ·unfold readLic at h;repeat' split at h
  all_goals (cases h;try decide)
 ·unfold readExc at h;repeat' split at h
  all_goals (cases h;try decide)
 ·unfold readClause at h;repeat' split at h
  all_goals (cases h;try decide)
 ·unfold readApart at h;repeat' split at h
  all_goals (cases h;try decide)
 ·cases h;decide
section
variable {B r:Nat} {w w1:World} {lv:Value} {ls:List ByteArray} {nx:Nat} {v0 v1 v2 v3:Value} {c:Catalog}
theorem RD.kept {E:TypeId→Prop} (h:RD B r w lv ls nx v0 v1 v2 v3 c) (hA:Agree B E w w1) (hR:¬ E 138):w1.heap[r]?=some (.cells #[lv,.int .i64 nx,v0,v1,v2,v3] 138 (0,0)):=by
 rw [hA.2 r h.lt (.inr fun ⟨cs,e,fr,he,hh⟩=>by rw [h.obj] at hh;cases hh;exact hR he)];exact h.obj
theorem RD.sort_lic {xs:List License} (h:RD B r w lv ls nx v0 v1 v2 v3 c) (hA:Agree B (·=106) w w1) (hu:OwnL B E5 106 w1 v0 xs):RD B r w1 lv ls nx v0 v1 v2 v3 { c with licenses:=xs } :=
 ⟨h.hB,h.kept hA (by decide),h.lines.agree hA (by decide),hu,h.exc.other hA (fun x hx=>hx ▸ (by decide)) (by decide),h.cla.other hA (fun x hx=>hx ▸ (by decide)) (by decide),h.prs.other hA (fun x hx=>hx ▸ (by decide)) (by decide)⟩
theorem RD.sort_exc {xs:List Exc} (h:RD B r w lv ls nx v0 v1 v2 v3 c) (hA:Agree B (·=145) w w1) (hu:OwnL B E5 145 w1 v1 xs):RD B r w1 lv ls nx v0 v1 v2 v3 { c with exceptions:=xs } :=
 ⟨h.hB,h.kept hA (by decide),h.lines.agree hA (by decide),h.lic.other hA (fun x hx=>hx ▸ (by decide)) (by decide),hu,h.cla.other hA (fun x hx=>hx ▸ (by decide)) (by decide),h.prs.other hA (fun x hx=>hx ▸ (by decide)) (by decide)⟩
theorem RD.sort_cla {xs:List Clause} (h:RD B r w lv ls nx v0 v1 v2 v3 c) (hA:Agree B (·=74) w w1) (hu:OwnL B E5 74 w1 v2 xs):RD B r w1 lv ls nx v0 v1 v2 v3 { c with clauses:=xs } :=
 ⟨h.hB,h.kept hA (by decide),h.lines.agree hA (by decide),h.lic.other hA (fun x hx=>hx ▸ (by decide)) (by decide),h.exc.other hA (fun x hx=>hx ▸ (by decide)) (by decide),hu,h.prs.other hA (fun x hx=>hx ▸ (by decide)) (by decide)⟩
theorem RD.sort_prs {xs:List Pair} (h:RD B r w lv ls nx v0 v1 v2 v3 c) (hA:Agree B (·=151) w w1) (hu:OwnL B E5 151 w1 v3 xs):RD B r w1 lv ls nx v0 v1 v2 v3 { c with apart:=xs } :=
 ⟨h.hB,h.kept hA (by decide),h.lines.agree hA (by decide),h.lic.other hA (fun x hx=>hx ▸ (by decide)) (by decide),h.exc.other hA (fun x hx=>hx ▸ (by decide)) (by decide),h.cla.other hA (fun x hx=>hx ▸ (by decide)) (by decide),hu⟩
theorem RD.cat (h:RD B r w lv ls nx v0 v1 v2 v3 c):Is w (.agg #[v0,v1,v2,v3]) c:=by
 obtain ⟨a0,c0,rfl,p0⟩:=list_inv h.lic.is;obtain ⟨a1,c1,rfl,p1⟩:=list_inv h.exc.is;obtain ⟨a2,c2,rfl,p2⟩:=list_inv h.cla.is;obtain ⟨a3,c3,rfl,p3⟩:=list_inv h.prs.is;exact Catalog.mk' ⟨p0.1,p0.2.1,p0.2.2,p1.1,p1.2.1,p1.2.2,p2.1,p2.2.1,p2.2.2,p3.1,p3.2.1,p3.2.2⟩
end
def nxOf (r:Nat) (w:World):Nat:=match w.cell? ⟨r,1,none⟩ with
 | some (.int _ n)=>n.toNat
 | _=>0
def POut (s:ByteArray) (w:World) (e:Ending) (w':World):Prop :=
 ∃ v,e=.returned (.tuple #[v,.int .i64 (parseC s).1,.int .i64 (parseC s).2.1])∧Is w' v (parseC s).2.2∧Below w.heap.size w w'
theorem nil4 (w:World):Is w (.agg #[.slice none 0 0,.slice none 0 0,.slice none 0 0,.slice none 0 0]) emptyC :=
 Catalog.mk' (x:=emptyC) ⟨Nat.le_refl _,by decide,fun i x h=>by simp [emptyC] at h,Nat.le_refl _,by decide,fun i x h=>by simp [emptyC] at h,Nat.le_refl _,by decide,fun i x h=>by simp [emptyC] at h,Nat.le_refl _,by decide,fun i x h=>by simp [emptyC] at h⟩
theorem parse_own (w:World) (arr:Array Value) (A:Obj) (ls:List ByteArray) (hn:ls.length≤arr.size) (hc:arr.size≤maxLen) (ht:arr.toList.take ls.length=ls.map Value.string) (O:Obj) :
  OwnV Value.string (w.heap.size+1) 9 (((w.alloc A).alloc (.cells arr 9)).alloc O) (.slice (some ⟨w.heap.size+1,0,none⟩) ls.length arr.size) ls:=by
 refine ⟨by simp,.inr ⟨w.heap.size+1,arr.size,arr,rfl,Nat.le_refl _,?_,hn,hc,by simp,by simpa using ht⟩⟩;have h1:=obj_new (w.alloc A) (.cells arr 9);have h2:=objbelow h1 ((Below.refl _ _).alloc (Nat.le_refl _) O);simpa using h2
theorem parse_base (w:World) (arr:Array Value) (A:Obj) (ls:List ByteArray) (n c:Nat) (hn:ls.length=n) (hcc:arr.size=c) (hle:n≤c) (hc:c≤maxLen) (ht:arr.toList.take n=ls.map Value.string) :
  RD (w.heap.size+1) (w.heap.size+1+1) (((w.alloc A).alloc (.cells arr 9)).alloc (.cells #[.slice (some ⟨w.heap.size+1,0,none⟩) n c,.int .i64 0,.slice none 0 0,.slice none 0 0,.slice none 0 0,.slice none 0 0] 138)) (.slice (some ⟨w.heap.size+1,0,none⟩) n c) ls 0 (.slice none 0 0) (.slice none 0 0) (.slice none 0 0) (.slice none 0 0) emptyC:=by
 subst hn hcc;have ho:=parse_own w arr A ls hle hc ht (.cells #[.slice (some ⟨w.heap.size+1,0,none⟩) ls.length arr.size,.int .i64 0,.slice none 0 0,.slice none 0 0,.slice none 0 0,.slice none 0 0] 138);refine ⟨by omega,?_,ho,OwnL.nil _ _ _ _,OwnL.nil _ _ _ _,OwnL.nil _ _ _ _,OwnL.nil _ _ _ _⟩;have h1:=obj_new ((w.alloc A).alloc (.cells arr 9)) (.cells #[.slice (some ⟨w.heap.size+1,0,none⟩) ls.length arr.size,.int .i64 0,.slice none 0 0,.slice none 0 0,.slice none 0 0,.slice none 0 0] 138);simpa using h1
def Off (g:Nat) (w w':World):Prop:=w.heap.size≤w'.heap.size∧(∀ b,b≠g→w'.heap[b]?=w.heap[b]?)∧∀ j v,w.cell? ⟨g,j,none⟩=some v→∃ a n c,v=.slice a n c
theorem row_off {α:Type} [Lay α] {g:Nat} {w w':World} (h:Off g w w') (hns:∀ (get:Nat→Option Value) (x:α),Lay.is w get x→∃ j v,get j=some v∧∀ a n c,v≠.slice a n c)
  (his:∀ (get:Nat→Option Value) (x:α),Lay.is w get x→Lay.is w' get x) {a:Option Addr} {xs:List α} (hr:Row w a xs):Row w' a xs:=by
 intro i x hx;obtain ⟨b,off,ha,hb,hi⟩:=hr i x hx;obtain ⟨j,v,hv,hn⟩:=hns _ _ hi;have hbg:b≠g:=by
  rintro rfl;obtain ⟨p,n,c,e⟩:=h.2.2 _ _ hv;exact hn p n c e
 refine ⟨b,off,ha,Nat.lt_of_lt_of_le hb h.1,?_⟩;refine Lay.congr (fun j _=>?_) (his _ _ hi);simp only [World.cell?,h.2.1 b hbg]
theorem int_off {g:Nat} {w w':World} (h:Off g w w') {a:Option Addr} {xs:List Int} (hr:Row w a xs):Row w' a xs :=
 row_off h (fun get x hi=>⟨0,.int .i64 x,(show get 0=some (.int .i64 x)∧inI64 x from hi).1,fun _ _ _ e=>by cases e⟩) (fun get x hi=>hi) hr
theorem str_off {g:Nat} {w w':World} (h:Off g w w') {a:Option Addr} {xs:List ByteArray} (hr:Row w a xs):Row w' a xs :=
 row_off h (fun get x hi=>⟨0,.string x,(show get 0=some (.string x)∧x.size≤maxLen from hi).1,fun _ _ _ e=>by cases e⟩) (fun get x hi=>hi) hr
theorem lic_off {g:Nat} {w w':World} (h:Off g w w') {a:Option Addr} {xs:List License} (hr:Row w a xs):Row w' a xs :=
 row_off h (fun get x hi=>⟨0,_,(License.is_iff.1 hi).1,fun _ _ _ e=>by cases e⟩) (fun get x hi=>License.is_iff.2 (License.is_iff.1 hi)) hr
theorem prs_off {g:Nat} {w w':World} (h:Off g w w') {a:Option Addr} {xs:List Pair} (hr:Row w a xs):Row w' a xs :=
 row_off h (fun get x hi=>⟨0,_,(Pair.is_iff.1 hi).1,fun _ _ _ e=>by cases e⟩) (fun get x hi=>Pair.is_iff.2 (Pair.is_iff.1 hi)) hr
theorem exc_off {g:Nat} {w w':World} (h:Off g w w') {a:Option Addr} {xs:List Exc} (hr:Row w a xs):Row w' a xs :=
 row_off h (fun get x hi=>by obtain ⟨a,c,g0,-⟩:=Exc.is_iff.1 hi;exact ⟨0,_,g0,fun _ _ _ e=>by cases e⟩)
  (fun get x hi=>by
   obtain ⟨a,c,g0,g1,g2,s0,s1,m0,m1,r⟩:=Exc.is_iff.1 hi;exact Exc.is_iff.2 ⟨a,c,g0,g1,g2,s0,s1,m0,m1,int_off h r⟩) hr
theorem cla_off {g:Nat} {w w':World} (h:Off g w w') {a:Option Addr} {xs:List Clause} (hr:Row w a xs):Row w' a xs :=
 row_off h (fun get x hi=>by obtain ⟨a,c,g0,-⟩:=Clause.is_iff.1 hi;exact ⟨0,_,g0,fun _ _ _ e=>by cases e⟩)
  (fun get x hi=>by
   obtain ⟨a,c,g0,g1,g2,g3,g4,s0,s1,s2,s3,m0,m1,r⟩:=Clause.is_iff.1 hi;exact Clause.is_iff.2 ⟨a,c,g0,g1,g2,g3,g4,s0,s1,s2,s3,m0,m1,str_off h r⟩) hr
theorem cat_off {g:Nat} {w w':World} (h:Off g w w') {v:Value} {c:Catalog} (hi:Is w v c):Is w' v c:=by
 obtain ⟨a0,c0,a1,c1,a2,c2,a3,c3,rfl,l0,m0,r0,l1,m1,r1,l2,m2,r2,l3,m3,r3⟩:=Catalog.inv hi;exact Catalog.mk' ⟨l0,m0,lic_off h r0,l1,m1,exc_off h r1,l2,m2,cla_off h r2,l3,m3,prs_off h r3⟩
theorem off_set {g:Nat} {w w':World} (h:Off g w w') (j:Nat) (u:Value):Off g w (w'.setCell ⟨g,j,none⟩ u) :=
 ⟨by simpa using h.1,fun b hb=>by rw [blk_set_other _ _ _ _ hb];exact h.2.1 b hb,h.2.2⟩
def Small (c:Catalog):Prop:=c.licenses.length < 20∧c.exceptions.length < 20∧c.clauses.length < 20∧c.apart.length < 20
theorem Parse_s (w:World) (s:ByteArray) (hg:Glob w) (hs:¬ 65536 < s.size) (hsm:∀ a c,readLines 0 0 emptyC (textLines s)=(a,0,c)→Small c) :
  Calls Tryz.prog 46 #[.string s] w fun e w'=>POut s w e w':=by
 have q1:decide ((65536:Int) < (s.size:Int))=false:=by simp;omega
 obtain ⟨fr,la,hsp,htl⟩:=split_snoc s;have hcount:(splitAt 10 [] s.data.toList).length≤1000000:=by
  exact zrreadw5
 have hn:fr.length < 1000000:=by rw [hsp] at hcount;simp at hcount;omega
 have HSM:=zh hsm;have HLS:=zh (lines_small hs);have HG:=zh hg
 have HPC:Hid (parseC s=match readLines 0 0 emptyC (textLines s) with
  | (a,e,c)=>if e != 0 then (a,e,emptyC) else if checkC (sortC c) != 0 then (-1,checkC (sortC c),emptyC) else (0,0,sortC c)):=by
  show _=_;unfold parseC;rw [decide_eq_false hs];rfl
 have hsz:s.size≤65536:=by omega
 have HTL:=zh htl;have HSP:=zh hsp
 have hsps:Hid (∀ x∈splitAt 10 [] s.data.toList,x.size≤maxLen):=fun x hx=>by
  have:=splitAt_size 10 s.data.toList [] x hx;rw [by_len] at this;simp at this;unfold maxLen;omega
 clear hsm hg;go_enter Tryz.func46,Tryz.ntmps46;go_wp2_with fail
 refine (Split_one s 10 _ (HG.out.mono bw) (by omega)).mono ?_;rintro e w1 ⟨rfl,rfl⟩;have hlen:(splitAt 10 [] s.data.toList).length=fr.length+1:=by rw [hsp];simp
 have hlast:(splitAt 10 [] s.data.toList)[fr.length]?=some la:=by rw [hsp];simp
 rw [hlen];have hmap:((splitAt 10 [] s.data.toList).map Value.string).toArray[fr.length]?=some (.string la):=by simp [hlast]
 have HARR:Hid (((splitAt 10 [] s.data.toList).map Value.string).toArray=((fr++[la]).map Value.string).toArray):=by show _=_;rw [hsp]
 clear hsp htl hcount hlen hlast;generalize ((splitAt 10 [] s.data.toList).map Value.string).toArray=arr at *;have harr:arr.size=fr.length+1:=by rw [HARR.out];simp
 have hal:arr.toList=(fr++[la]).map Value.string:=by rw [HARR.out]
 have hisW:isW la []=la.toList.isEmpty:=by
  unfold isW;rw [ByteArray.toList_eq,Bool.eq_iff_iff];simp
 have h1n:fr.length+1≤maxLen:=by unfold maxLen;omega
 have hnx0:∀ wr:World,True:=fun _=>trivial;clear hnx0;have FIN:∀ (N cap:Nat),True:=fun _ _=>trivial;clear FIN;generalize hres0:(Obj.cells #[Value.slice none 0 0,.slice none 0 0,.slice none 0 0,.slice none 0 0] 27)=RO at *;have HRO:Hid (RO=(Obj.cells #[Value.slice none 0 0,.slice none 0 0,.slice none 0 0,.slice none 0 0] 27)):=hres0.symm;clear hres0;have HHA:=zh (And.intro harr (And.intro hal (And.intro hisW h1n)));clear harr hal hisW h1n;cases q2:la.toList.isEmpty;case' false =>
  go_wp2;obtain ⟨N,cap,HR0⟩:∃ N cap,Hid (RD (w.heap.size+1) (w.heap.size+1+1) (((w.alloc RO).alloc (.cells arr 9)).alloc (.cells #[.slice (some ⟨w.heap.size+1,0,none⟩) (fr.length+1) (fr.length+1),.int .i64 0,.slice none 0 0,.slice none 0 0,.slice none 0 0,.slice none 0 0] 138)) (.slice (some ⟨w.heap.size+1,0,none⟩) N cap) (textLines s) 0 (.slice none 0 0) (.slice none 0 0) (.slice none 0 0) (.slice none 0 0) emptyC):=by
   refine ⟨fr.length+1,fr.length+1,?_⟩;show RD _ _ _ _ _ _ _ _ _ _ _;obtain ⟨harr,hal,hisW,h1n⟩:=HHA.out;have he:textLines s=fr++[la]:=by rw [HTL.out,hisW,q2];rfl
   rw [he];exact parse_base w arr RO (fr++[la]) _ _ (by simp) harr (Nat.le_refl _) h1n (by rw [hal,List.take_of_length_le (by simp)])
  have HB0:Hid (Below w.heap.size w (((w.alloc RO).alloc (.cells arr 9)).alloc (.cells #[.slice (some ⟨w.heap.size+1,0,none⟩) (fr.length+1) (fr.length+1),.int .i64 0,.slice none 0 0,.slice none 0 0,.slice none 0 0,.slice none 0 0] 138))):=by show Below _ _ _;exact bw
  have HRS:Hid ((((w.alloc RO).alloc (.cells arr 9)).alloc (.cells #[.slice (some ⟨w.heap.size+1,0,none⟩) (fr.length+1) (fr.length+1),.int .i64 0,.slice none 0 0,.slice none 0 0,.slice none 0 0,.slice none 0 0] 138)).heap[w.heap.size]?=some RO):=by
   show _=_;exact objbelow (obj_new w RO) bw
  generalize ((w.alloc RO).alloc (.cells arr 9)).alloc (.cells #[.slice (some ⟨w.heap.size+1,0,none⟩) (fr.length+1) (fr.length+1),.int .i64 0,.slice none 0 0,.slice none 0 0,.slice none 0 0,.slice none 0 0] 138)=W3 at *
 case' true =>
  go_wp2;obtain ⟨N,cap,HR0⟩:∃ N cap,Hid (RD (w.heap.size+1) (w.heap.size+1+1) (((w.alloc RO).alloc (.cells arr 9)).alloc (.cells #[.slice (some ⟨w.heap.size+1,0,none⟩) fr.length (fr.length+1),.int .i64 0,.slice none 0 0,.slice none 0 0,.slice none 0 0,.slice none 0 0] 138)) (.slice (some ⟨w.heap.size+1,0,none⟩) N cap) (textLines s) 0 (.slice none 0 0) (.slice none 0 0) (.slice none 0 0) (.slice none 0 0) emptyC):=by
   refine ⟨fr.length,fr.length+1,?_⟩;show RD _ _ _ _ _ _ _ _ _ _ _;obtain ⟨harr,hal,hisW,h1n⟩:=HHA.out;have he:textLines s=fr:=by rw [HTL.out,hisW,q2];rfl
   rw [he];exact parse_base w arr RO fr _ _ rfl harr (by omega) h1n (by rw [hal];simp)
  have HB0:Hid (Below w.heap.size w (((w.alloc RO).alloc (.cells arr 9)).alloc (.cells #[.slice (some ⟨w.heap.size+1,0,none⟩) fr.length (fr.length+1),.int .i64 0,.slice none 0 0,.slice none 0 0,.slice none 0 0,.slice none 0 0] 138))):=by show Below _ _ _;exact bw
  have HRS:Hid ((((w.alloc RO).alloc (.cells arr 9)).alloc (.cells #[.slice (some ⟨w.heap.size+1,0,none⟩) fr.length (fr.length+1),.int .i64 0,.slice none 0 0,.slice none 0 0,.slice none 0 0,.slice none 0 0] 138)).heap[w.heap.size]?=some RO):=by
   show _=_;exact objbelow (obj_new w RO) bw
  generalize ((w.alloc RO).alloc (.cells arr 9)).alloc (.cells #[.slice (some ⟨w.heap.size+1,0,none⟩) fr.length (fr.length+1),.int .i64 0,.slice none 0 0,.slice none 0 0,.slice none 0 0,.slice none 0 0] 138)=W3 at *
 all_goals
  have hz3:w.heap.size+1+1 < W3.heap.size:=HR0.out.lt;clear hmap;have hNl:N=(textLines s).length:=by
   obtain ⟨_,_,he,-⟩:=HR0.out.lines.shape;cases he;rfl
  have HNL:=zh hNl;have hN5:N≤65537:=by rw [hNl];exact HLS.out.1
  clear hNl;go_loopw [7,8] (fun _ _ wr=>∃ (nx:Nat) (v0 v1 v2 v3:Value) (c:Catalog),nx≤N∧Hid (RD (w.heap.size+1) (w.heap.size+1+1) wr (.slice (some ⟨w.heap.size+1,0,none⟩) N cap) (textLines s) nx v0 v1 v2 v3 c)∧Hid (Below (w.heap.size+1) W3 wr)∧Hid (Upto nx c)∧Hid (readLines 0 0 emptyC (textLines s)=readLines nx 0 c ((textLines s).drop nx))) (fun _ _ wr=>N - nxOf (w.heap.size+1+1) wr)
  case atStart=>exact ⟨0,_,_,_,_,emptyC,by omega,HR0,zh (Below.refl _ _),zh ⟨Nat.le_refl _,Nat.le_refl _,Nat.le_refl _,Nat.le_refl _⟩,zh (by rfl)⟩
  case round =>
   clear HR0;obtain ⟨nx,v0,v1,v2,v3,c,hnx,HR,HBr,HU,HQ⟩:=hrel;have c0:=objcell (j:=0) HR.out.obj rfl;have c1:=objcell (j:=1) HR.out.obj rfl;have f1:=objfrozen (j:=1) HR.out.obj;have hlt1:=HR.out.lt;have hws:W3.heap.size≤wr.heap.size:=HBr.out.size;by_cases hnN:nx < N
   ·have hnz:(nx:Int) < (N:Int):=by omega
    have hz0:(0:Int)≤(nx:Int):=by omega
    obtain ⟨x,hx⟩:=get_lt (xs:=textLines s) (k:=nx) (by rw [← HNL.out];exact hnN);obtain ⟨la',lc',he,hl1,hl2,hl3⟩:=list_inv (HR.out.lines.strs (fun y hy=>by have:=HLS.out.2.1 y hy;unfold maxLen;omega));cases he;obtain ⟨b,off,he,hb,y0,hys⟩:=str_at hl3 hx;cases he;rw [Nat.zero_add] at y0;have hmeas:nxOf (w.heap.size+1+1) wr=nx:=by unfold nxOf;rw [c1];simp
    have HM:=zh hmeas;have HX:=zh hx;clear hl1 hl2 hl3 hx hmeas;go_wp2;go_quiet (fail)
    go_wp2_with fail
    have HW:=zh ((HR.out.below (below_drewN wr nq)).set_next (nx+1));have HBW:Hid (Below (w.heap.size+1) W3 ((wr.drewN nq).setCell ⟨w.heap.size+1+1,1,none⟩ (.int .i64 ((nx+1:Nat):Int)))):=by
     have hq:=HBr.out;exact (hq.drewN nq).setCell (by simp) _
    rw [show ((nx:Int)+1)=((nx+1:Nat):Int) from rfl];have hw5:W3.heap.size≤((wr.drewN nq).setCell ⟨w.heap.size+1+1,1,none⟩ (.int .i64 ((nx+1:Nat):Int))).heap.size:=HBW.out.size;generalize (wr.drewN nq).setCell ⟨w.heap.size+1+1,1,none⟩ (.int .i64 ((nx+1:Nat):Int))=w5 at *;clear c0 c1 f1 y0;refine (line_p (w.heap.size+1) (w.heap.size+1+1) w5 _ (textLines s) (nx+1) v0 v1 v2 v3 c HW.out (by omega) ?g0 ?g1 ?g2 ?g3 ?g4 ?g5 ?g6 ?g7 ?g8 x ?g9 ?g10).mono ?_;case g0=>have:=HU.out.1;omega
    case g1=>have:=HU.out.2.1;omega
    case g2=>have:=HU.out.2.2.1;omega
    case g3=>have:=HU.out.2.2.2;omega
    case g4=>omega
    case g5=>omega
    case g6=>omega
    case g7=>exact zh fun y hy=>by have:=HLS.out.2.1 y hy;unfold maxLen;omega
    case g8=>exact zh HLS.out.2.2
    case g9=>exact HG.out.mono (HB0.out.trans (HBW.out.mono (by omega)))
    case g10=>have:=HLS.out.2.1 x (List.mem_of_getElem? HX.out);omega
    rintro e w6 hro;obtain ⟨k,rfl⟩:=hro.ret;have hst:=readLines_step (c:=c) HX.out;have HQ2:Hid (readLines 0 0 emptyC (textLines s)=_):=HQ.out.trans hst;have HUP:Hid (∀ c' n,readLine c x ((textLines s).drop (nx+1))=.ok c' n→Upto (nx+1) c'∧n≤((textLines s).drop (nx+1)).length):=fun c' n h=>readLine_upto h HU.out;have HNE:Hid (∀ k',readLine c x ((textLines s).drop (nx+1))=.err k'→k'≠0):=fun k' h=>readLine_ne h;clear hst;generalize readLine c x ((textLines s).drop (nx+1))=res at hro HQ2 HUP HNE;cases res with
    | err k' =>
     obtain ⟨he,hb⟩:=hro;cases he;have hk:k≠0:=HNE.out k rfl;have qk:((k:Int) != 0)=true:=by simpa using hk
     have HB6:Hid (Below (w.heap.size+1) W3 w6):=HBW.out.trans hb;have hw6:W3.heap.size≤w6.heap.size:=HB6.out.size;have hres:w6.heap[w.heap.size]?=some (.cells #[.slice none 0 0,.slice none 0 0,.slice none 0 0,.slice none 0 0] 27 (0,0)):=by
      rw [HB6.out.block _ (by omega),HRS.out,HRO.out]
     have d0:=objcell (j:=0) hres rfl;have d1:=objcell (j:=1) hres rfl;have d2:=objcell (j:=2) hres rfl;have d3:=objcell (j:=3) hres rfl;have e0:=objfrozen (j:=0) hres;have e1:=objfrozen (j:=1) hres;have e2:=objfrozen (j:=2) hres;have e3:=objfrozen (j:=3) hres;have HPE:Hid (parseC s=((nx:Int),k,emptyC)):=by
      show _=_;rw [HPC.out,HQ2.out];show (if k != 0 then _ else _)=_;rw [qk,if_pos rfl]
     have HB7:=zh (HB0.out.trans (HB6.out.mono (Nat.le_succ _)));clear hb hres hk;go_wp2;refine bodyPost_ret (v:=.tuple #[.agg #[.slice none 0 0,.slice none 0 0,.slice none 0 0,.slice none 0 0],.int .i64 nx,.int .i64 k]) (by simp [results,Tryz.results46,go_sem,d0,d1,d2,d3]) rfl ?_;unfold POut;rw [HPE.out];refine ⟨_,rfl,nil4 _,?_⟩;have hq:=HB7.out;have hqs:=hq.size;exact bw
    | ok c' n =>
     obtain ⟨he,hb,y0,y1,y2,y3,hrd⟩:=hro;cases he;have HB6:Hid (Below (w.heap.size+1) W3 w6):=HBW.out.trans hb;have HRD:=zh hrd;have hup:=HUP.out c' n rfl;have hn1:nx+1+n≤(textLines s).length:=by have:=hup.2;rw [List.length_drop] at this;omega
     have HU6:Hid (Upto (nx+1+n) c'):=⟨Nat.le_trans hup.1.1 (by omega),Nat.le_trans hup.1.2.1 (by omega),Nat.le_trans hup.1.2.2.1 (by omega),Nat.le_trans hup.1.2.2.2 (by omega)⟩
     have c6:=objcell (j:=1) HRD.out.obj rfl;have hmeas:nxOf (w.heap.size+1+1) w6=nx+1+n:=by unfold nxOf;rw [c6];exact Int.toNat_natCast _
     have HM6:=zh hmeas;clear hb hup c6 hmeas hrd;go_wp2;go_roundw
     case rel=>exact ⟨nx+1+n,y0,y1,y2,y3,c',hn1,HRD,HB6,HU6,HQ2⟩
     case measure=>rw [HM.out,HM6.out];omega
   ·obtain rfl:nx=N:=by omega
    have hnz:¬ (nx:Int) < (nx:Int):=by omega
    have HQ2:Hid (readLines 0 0 emptyC (textLines s)=(0,0,c)):=by
     show _=_;rw [HQ.out,List.drop_eq_nil_of_le (by rw [← HNL.out];exact Nat.le_refl _)];rfl
    have hsm:=zh (HSM.out 0 c HQ2.out);have HPC2:Hid (parseC s=if checkC (sortC c) != 0 then (-1,checkC (sortC c),emptyC) else (0,0,sortC c)):=by
     show _=_;rw [HPC.out,HQ2.out];rfl
    clear hnN;go_wp2;go_quiet (fail)
    have HR1:=zh (HR.out.below (below_drewN wr nq));have HB1:Hid (Below (w.heap.size+1) W3 (wr.drewN nq)):=HBr.out.drewN nq;have c2:=objcell (j:=2) HR1.out.obj rfl;have hlt2:=HR1.out.lt;clear c0 c1 f1;generalize wr.drewN nq=w5 at *;go_wp2_with fail
    refine (stableLic HR1.out.lic (Or.inr (Or.inl rfl)) hsm.out.1).mono ?_;rintro e w6 ⟨rfl,ho,hb,hA⟩;have HR2:=zh (HR1.out.sort_lic hA ho);have HB2:Hid (Below (w.heap.size+1) W3 w6):=HB1.out.trans hb;have c3:=objcell (j:=3) HR2.out.obj rfl;have hlt3:=HR2.out.lt;clear ho hb hA c2;go_wp2_with fail
    refine (stableExc HR2.out.exc (Or.inr (Or.inr (Or.inl rfl))) hsm.out.2.1).mono ?_;rintro e w7 ⟨rfl,ho,hb,hA⟩;have HR3:=zh (HR2.out.sort_exc hA ho);have HB3:Hid (Below (w.heap.size+1) W3 w7):=HB2.out.trans hb;have c4:=objcell (j:=4) HR3.out.obj rfl;have hlt4:=HR3.out.lt;clear ho hb hA c3;go_wp2_with fail
    refine (stableClause HR3.out.cla (Or.inr (Or.inr (Or.inr (Or.inl rfl)))) hsm.out.2.2.1).mono ?_;rintro e w8 ⟨rfl,ho,hb,hA⟩;have HR4:=zh (HR3.out.sort_cla hA ho);have HB4:Hid (Below (w.heap.size+1) W3 w8):=HB3.out.trans hb;have c5:=objcell (j:=5) HR4.out.obj rfl;have hlt5:=HR4.out.lt;clear ho hb hA c4;go_wp2_with fail
    refine (stablePair HR4.out.prs (Or.inr (Or.inr (Or.inr (Or.inr rfl)))) hsm.out.2.2.2).mono ?_;rintro e w9 ⟨rfl,ho,hb,hA⟩;have HR5:Hid (RD (w.heap.size+1) (w.heap.size+1+1) w9 _ _ nx v0 v1 v2 v3 (sortC c)):=HR4.out.sort_prs hA ho;have HB5:Hid (Below (w.heap.size+1) W3 w9):=HB4.out.trans hb;have g2:=objcell (j:=2) HR5.out.obj rfl;have g3:=objcell (j:=3) HR5.out.obj rfl;have g4:=objcell (j:=4) HR5.out.obj rfl;have g5:=objcell (j:=5) HR5.out.obj rfl;have hlt6:=HR5.out.lt;have hw9:W3.heap.size≤w9.heap.size:=HB5.out.size;clear ho hb hA c5 hsm;go_wp2_with fail
    refine (Check_p w9 _ (sortC c) (HG.out.mono (HB0.out.trans (HB5.out.mono (by omega)))) HR5.out.cat).mono ?_;rintro e w10 ⟨rfl,hb⟩;have HR6:=zh (HR5.out.below hb);have HB6:Hid (Below (w.heap.size+1) W3 w10):=HB5.out.trans (hb.mono (by omega));have hw10:W3.heap.size≤w10.heap.size:=HB6.out.size;have h2:=objcell (j:=2) HR6.out.obj rfl;have h3:=objcell (j:=3) HR6.out.obj rfl;have h4:=objcell (j:=4) HR6.out.obj rfl;have h5:=objcell (j:=5) HR6.out.obj rfl;have hres:w10.heap[w.heap.size]?=some (.cells #[.slice none 0 0,.slice none 0 0,.slice none 0 0,.slice none 0 0] 27 (0,0)):=by
     rw [HB6.out.block _ (by omega),HRS.out,HRO.out]
    have d0:=objcell (j:=0) hres rfl;have d1:=objcell (j:=1) hres rfl;have d2:=objcell (j:=2) hres rfl;have d3:=objcell (j:=3) hres rfl;have e0:=objfrozen (j:=0) hres;have e1:=objfrozen (j:=1) hres;have e2:=objfrozen (j:=2) hres;have e3:=objfrozen (j:=3) hres;have HB7:=zh (HB0.out.trans (HB6.out.mono (Nat.le_succ _)));have hlt7:w.heap.size < w10.heap.size:=by omega
    have HRES:=zh hres;clear hb hres g2 g3 g4 g5;cases q5:checkC (sortC c) != 0;case true =>
     have HPE:Hid (parseC s=(-1,checkC (sortC c),emptyC)):=by show _=_;rw [HPC2.out,q5];rfl
     generalize checkC (sortC c)=ck at *;go_wp2;refine bodyPost_ret (v:=.tuple #[.agg #[.slice none 0 0,.slice none 0 0,.slice none 0 0,.slice none 0 0],.int .i64 (-1),.int .i64 ck]) (by simp [results,Tryz.results46,go_sem,d0,d1,d2,d3]) rfl ?_;unfold POut;rw [HPE.out];refine ⟨_,rfl,nil4 _,?_⟩;have hq:=HB7.out;have hqs:=hq.size;exact bw
    case false =>
     have HPE:Hid (parseC s=(0,0,sortC c)):=by show _=_;rw [HPC2.out,q5];rfl
     generalize checkC (sortC c)=ck at *;obtain ⟨p0,k0,rfl,-⟩:=list_inv HR6.out.lic.is;obtain ⟨p1,k1,rfl,-⟩:=list_inv HR6.out.exc.is;obtain ⟨p2,k2,rfl,-⟩:=list_inv HR6.out.cla.is;obtain ⟨p3,k3,rfl,-⟩:=list_inv HR6.out.prs.is;generalize hm0:(sortC c).licenses.length=m0 at *;generalize hm1:(sortC c).exceptions.length=m1 at *;generalize hm2:(sortC c).clauses.length=m2 at *;generalize hm3:(sortC c).apart.length=m3 at *;have hw12:w.heap.size+1≠w.heap.size+1+1:=by omega
     clear hm0 hm1 hm2 hm3;go_wp2;refine bodyPost_ret (v:=.tuple #[.agg #[.slice p0 m0 k0,.slice p1 m1 k1,.slice p2 m2 k2,.slice p3 m3 k3],.int .i64 0,.int .i64 0]) (by simp [results,Tryz.results46,go_sem,d0,d1,d2,d3]) rfl ?_;unfold POut;rw [HPE.out];refine ⟨_,rfl,?_,?_⟩
     ·refine cat_off (g:=w.heap.size) (off_set (off_set (off_set (off_set ?_ _ _) _ _) _ _) _ _) HR6.out.cat;refine ⟨Nat.le_refl _,fun _ _=>rfl,fun j v hv=>?_⟩;match j,hv with
      | 0,hv=>rw [d0] at hv;cases hv;exact ⟨_,_,_,rfl⟩
      | 1,hv=>rw [d1] at hv;cases hv;exact ⟨_,_,_,rfl⟩
      | 2,hv=>rw [d2] at hv;cases hv;exact ⟨_,_,_,rfl⟩
      | 3,hv=>rw [d3] at hv;cases hv;exact ⟨_,_,_,rfl⟩
      | j+4,hv=>simp [World.cell?,HRES.out] at hv
     ·have hq:=HB7.out;have hqs:=hq.size;exact bw
end Go.Proofs.YtcbopdbbcgdkcaaGreatDoor
