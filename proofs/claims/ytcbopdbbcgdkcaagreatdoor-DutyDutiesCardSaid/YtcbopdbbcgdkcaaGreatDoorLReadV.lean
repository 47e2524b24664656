/- Lemmas. -/
import Derived.Lib.AtoiBound
import Derived.Test.YtcbopdbbcgdkcaaGreatDoorLReadU
set_option linter.all false
set_option maxRecDepth 100000
set_option maxHeartbeats 16000000
namespace Go.Proofs.YtcbopdbbcgdkcaaGreatDoor
open Go Go.RowKit Go.ChangeShapes

theorem digC_val {b:UInt8} (h:digC b=true):Lib.digitVal b=some (b.toNat - 48)∧48≤b.toNat∧b.toNat≤57:=by
 simp only [digC,Bool.and_eq_true,decide_eq_true_eq] at h;have h1:48≤b.toNat∧b.toNat≤57:=by omega
 exact ⟨by unfold Lib.digitVal;rw [if_pos h1],h1⟩
theorem decFrom_all:∀ (l:List UInt8) (acc:Nat),l.all digC=true→∃ n:Nat,Lib.decFrom acc l=some n∧(n:Int)=l.foldl (fun n c=>10 * n+((c.toNat:Int) - 48)) acc
 | [],acc,_=>⟨acc,rfl,rfl⟩
 | b :: r,acc,h=>by
  simp only [List.all_cons,Bool.and_eq_true] at h;obtain ⟨hv,h1,h2⟩:=digC_val h.1;obtain ⟨n,hn,he⟩:=decFrom_all r (acc * 10+(b.toNat - 48)) h.2;refine ⟨n,by unfold Lib.decFrom;rw [hv];exact hn,?_⟩;rw [he,List.foldl_cons];congr 1;omega
theorem atoi_num {s:ByteArray} {v:Int} (h:numC s=some v):Lib.atoi s.data.toList=some v∧s.size≤3:=by
 unfold numC at h;simp only at h;split at h
 ·cases h
 ·rename_i hc
  cases h;simp only [Bool.or_eq_true,decide_eq_true_eq,not_or,Bool.not_eq_true',Bool.not_eq_false] at hc;obtain ⟨⟨⟨h0,h3⟩,-⟩,ha⟩:=hc;refine ⟨?_,by rw [by_len] at h3;omega⟩;cases hl:s.data.toList with
  | nil=>exact absurd hl h0
  | cons b r =>
   rw [hl] at ha;have hb:digC b=true:=by simp only [List.all_cons,Bool.and_eq_true] at ha;exact ha.1
   obtain ⟨-,g1,g2⟩:=digC_val hb;obtain ⟨n,hn,he⟩:=decFrom_all (b :: r) 0 ha;have e1:(b == 45)=false:=by rw [beq_eq_false_iff_ne];rintro rfl;revert g1;decide
   have e2:(b == 43)=false:=by rw [beq_eq_false_iff_ne];rintro rfl;revert g1;decide
   unfold Lib.atoi;simp only [e1,e2,Bool.false_eq_true,if_false];unfold Lib.decNat;simp only [List.isEmpty_cons,Bool.false_eq_true,if_false];rw [hn];show some (n:Int)=some (numV (b :: r));unfold numV;rw [he];rfl
theorem zqreadv0 {p:Prop} (h:p:=by
 have HN:Hid (numC s=none):=by
  show _=_;rw [hdef,q5];simp
 rw [q5] at HT;clear hdef;go_enter Tryz.func195,Tryz.ntmps195;go_wp2_with fail
 refine (Trim_digits s _ HS.out).mono ?_;rintro e w1 ⟨rfl,hb1⟩;have ht:=HT.out;generalize mkS (Lib.trimS s.data.toList digitCs)=tr at ht;go_wp2;refine bodyPost_ret (v:=.tuple #[.int .i64 0,.bool false]) (by simp [results,Tryz.results195,go_sem]) rfl ⟨by rw [HN.out];rfl,bw⟩):p:=h
theorem zrreadv1 {p:Prop} (h:p:=by
 obtain ⟨hat,hsz3⟩:=atoi_num HN;have HN':=zh HN;have HA:=zh hat;rw [q5] at HT;clear hdef HN hat;generalize numV s.data.toList=nv at *;go_enter Tryz.func195,Tryz.ntmps195;go_wp2_with fail
 refine (Trim_digits s _ HS.out).mono ?_;rintro e w1 ⟨rfl,hb1⟩;have ht:=HT.out;generalize mkS (Lib.trimS s.data.toList digitCs)=tr at ht;go_wp2_with fail
 refine (Tryz.strconv_Atoi s nv (by omega) HA.out _).mono ?_;rintro e w2 ⟨rfl,t,rfl⟩;have hb2:Below w1.heap.size w1 (Lib.bytesWorld w1 5 t):=Lib.bytesWorld_below _ _ _;have hb2s:=hb2.size;have hb3:Below w.heap.size w (Lib.bytesWorld w1 5 t):=hb1.trans (hb2.mono hb1.size);generalize Lib.bytesWorld w1 5 t=w2 at *;go_wp2;go_quiet (fail)
 go_wp2;refine bodyPost_ret (v:=.tuple #[.int .i64 nv,.bool true]) (by simp [results,Tryz.results195,go_sem]) rfl ⟨by rw [HN'.out];rfl,bw⟩):p:=h
theorem zrreadv2 {p:Prop} (h:p:=by
 clear hdef;go_enter Tryz.func195,Tryz.ntmps195;go_wp2;refine bodyPost_ret (v:=.tuple #[.int .i64 0,.bool false]) (by simp [results,Tryz.results195,go_sem]) rfl ⟨by rw [HN.out];rfl,bw⟩):p:=h
theorem zrreadv3 {p:Prop} (h:p:=by
 show _=_;rw [ByteArray.toList_eq,mkS_toList,trimS_nil];congr 1;funext c
 exact digitCs_eq c):p:=h
theorem number_p (s:ByteArray) (w:World) (hs:s.size≤maxLen):Calls Tryz.prog 195 #[.string s] w fun e w'=>e=.returned (.tuple #[.int .i64 ((numC s).getD 0),.bool (numC s).isSome])∧Below w.heap.size w w':=by
 have HS:=zh hs;simp only [maxLen] at hs;have hdef:numC s=if (decide (s.data.toList=[])) || decide (3 < s.size) || (decide (1 < s.size) && decide (s.data.toList.head?=some 48)) || !s.data.toList.all digC then none else some (numV s.data.toList):=by
  unfold numC;simp only [by_len,decide_eq_true_eq,Bool.or_eq_true]
 cases q1:decide ((s.size:Int) < 1);case true =>
  have HN:Hid (numC s=none):=by
   show _=_;rw [hdef];have h1:s.size=0:=by simp at q1;omega
   have h0:s.data.toList=[]:=by rw [← List.length_eq_zero_iff,by_len];exact h1
   simp [h0]
  exact zrreadv2
 have hpos:0 < s.size:=by simp at q1;omega
 have hne:s.data.toList≠[]:=by rw [ne_eq,← List.length_eq_zero_iff,by_len];omega
 have hhd:s.data.toList.head?=some s[0]:=by
  have:=by_at s 0 hpos;rw [List.drop_zero] at this;rw [this];rfl
 cases q2:decide ((3:Int) < s.size);case true =>
  have HN:Hid (numC s=none):=by
   show _=_;rw [hdef];have h3:3 < s.size:=by simp at q2;omega
   simp [h3]
  exact zrreadv2
 cases q3:decide ((1:Int) < s.size);case true =>
  have h1:1 < s.size:=by simp at q3;omega
  cases q4:((s[0].toNat:Int) == 48);case true =>
   have HN:Hid (numC s=none):=by
    show _=_;rw [hdef];have h48:s[0]=48:=u8_t 48 q4;simp [h1,hhd,h48]
   exact zrreadv2
  case false =>
   have h48:¬ s[0]=48:=u8_f 48 q4;have HT:Hid ((mkS (Lib.trimS s.data.toList digitCs)).toList.isEmpty=s.data.toList.all digC):=by
    exact zrreadv3
   cases q5:s.data.toList.all digC;case false =>exact zqreadv0
   case true =>
    have HN:numC s=some (numV s.data.toList):=by
     rw [hdef,q5];have h3:¬ 3 < s.size:=by simp at q2;omega
     simp [hne,h3,hhd,h48]
    exact zrreadv1
 case false =>
  have h1:¬ 1 < s.size:=by simp at q3;omega
  have HT:Hid ((mkS (Lib.trimS s.data.toList digitCs)).toList.isEmpty=s.data.toList.all digC):=by
   exact zrreadv3
  cases q5:s.data.toList.all digC;case false =>exact zqreadv0
  case true =>
   have HN:numC s=some (numV s.data.toList):=by
    rw [hdef,q5];have h3:¬ 3 < s.size:=by omega
    simp [hne,h3,h1]
   exact zrreadv1
theorem RD.set_next {B r:Nat} {w:World} {lv:Value} {ls:List ByteArray} {nx:Nat} {v0 v1 v2 v3:Value} {c:Catalog} (h:RD B r w lv ls nx v0 v1 v2 v3 c) (m:Nat) :
  RD B r (w.setCell ⟨r,1,none⟩ (.int .i64 m)) lv ls m v0 v1 v2 v3 c:=by
 have hR:=agree_setCell (j:=1) (u:=.int .i64 m) h.hB h.obj;exact ⟨h.hB,by rw [setCell_obj w r 1 _ h.obj];rfl,h.lines.agree hR (by decide),h.lic.other hR (fun x hx=>hx ▸ Or.inl rfl) (by decide),h.exc.other hR (fun x hx=>hx ▸ Or.inl rfl) (by decide),h.cla.other hR (fun x hx=>hx ▸ Or.inl rfl) (by decide),h.prs.other hR (fun x hx=>hx ▸ Or.inl rfl) (by decide)⟩
theorem num_nat {s:ByteArray} {v:Int} (h:numC s=some v):∃ m:Nat,v=m∧m < 1000000000000000000:=by
 have h2:=atoi_num h;have hb:=Lib.atoi_bound h2.1 (by rw [by_len];omega);unfold numC at h;simp only at h;split at h
 ·cases h
 ·rename_i hc
  cases h;simp only [Bool.or_eq_true,decide_eq_true_eq,not_or,Bool.not_eq_true',Bool.not_eq_false] at hc;obtain ⟨n,-,he⟩:=decFrom_all s.data.toList 0 hc.2;refine ⟨n,he.symm,?_⟩;have:numV s.data.toList=(n:Int):=he.symm;omega
theorem Join_p (w:World) (v:Value) (d:List UInt8) (xs:List ByteArray) (h:Is w v xs) (hlen:(joinB d xs).length≤1000000) (hn:xs.length≤100000000) :
  Calls Tryz.prog 196 #[v,.string ⟨d.toArray⟩] w fun e w'=>e=.returned (.string (mkS (joinB d xs)))∧Below w.heap.size w w':=by
 obtain ⟨a,c,rfl,hnc,hc,hr⟩:=list_inv h;by_cases h0:xs.length=0
 ·obtain rfl:xs=[]:=List.length_eq_zero_iff.1 h0;refine (Tryz.strings_Join_none a c ⟨d.toArray⟩ w).mono ?_;rintro e w' ⟨rfl,rfl⟩;exact ⟨rfl,Below.refl _ _⟩
 ·obtain ⟨x0,hx⟩:=get_lt (xs:=xs) (k:=0) (by omega);obtain ⟨b,off,rfl,hb,-⟩:=str_at hr hx;have e1:Lib.join (xs.map (·.data.toList)) (ByteArray.mk d.toArray).data.toList=joinB d xs:=by rw [joinB_eq]
  have hcon:=Tryz.strings_Join b off c xs ⟨d.toArray⟩ w (fun j x hx=>by
   obtain ⟨b',off',he,-,h0,-⟩:=str_at hr hx;cases he;exact h0) hb (by omega) hnc (by rw [e1];omega)
  rw [e1] at hcon;exact hcon
theorem row_sub {w:World} {b o i n:Nat} {ls:List ByteArray} (h:Row w (some ⟨b,o,none⟩) ls):Row w (some ⟨b,o+i,none⟩) ((ls.drop i).take n):=by
 intro j x hx;rw [List.getElem?_take] at hx;split at hx
 ·rw [List.getElem?_drop] at hx;obtain ⟨b',o',he,hb,hi⟩:=h (i+j) x hx;cases he;refine ⟨b,o+i,rfl,hb,?_⟩;have e:o+i+j * Lay.n ByteArray=o+(i+j) * Lay.n ByteArray:=by simp [Lay.n];omega
  rw [e];exact hi
 ·cases hx
def Lean1 (ls:List ByteArray):Prop:=∀ a b,(joinB [10] ((ls.drop a).take b)).length≤1000000
theorem zqreadv1 {p:Prop} (h:p:=by
 have hq1:=HB.out;have hq2:Below w2.heap.size w2 w4:=Below.trans (b:=w2.drewN (nq+1)) bw hb4;exact hq1.trans (hq2.mono hq1.size)):p:=h
theorem zrreadv0 {p:Prop} (h:p:=by
 clear R5' OB5 hs5 hgr;go_region_law ((refine step_appL licRow rfl (by decide) Tryz.underlying22 (by rfl) _ _ (by rfl) B E5 v0 c.licenses (by rfl) (by decide) (R5.out.lic.below bw) ⟨w5.heap.size,0,none⟩ [.string x,.string y,.int .i64 vm,.string tx] ⟨x,y,vm,tx⟩ (by rfl) rfl (World.news_of_block (cs:=#[.string x,.string y,.int .i64 vm,.string tx]) (t:=106) (fr:=(0,0)) (heap_alloc_new w5 _)) (by simp [Value.oneCell']) (fun w'' _=>License.is_iff.2 ⟨rfl,rfl,rfl,rfl,ksz0,ksz1,v1',hTX.out⟩) (by omega) (by simp;omega) ?_;intro a' c' w1 ho1 hg1;have hr6:=keep_g z2 bw hg1 hne2;have hf6:=(hg1.frozen_far ⟨r,2,none⟩ (by simp;omega) hne2).trans (keptF (a:=⟨r,2,none⟩) bw z2 zf)))
 all_goals
  go_wp2;go_ret;unfold ROut;rw [hE.out];have hgr1:=OwnL.grown (R5.out.lic.below bw) hg1 (by simp;omega);refine ⟨rfl,?_,_,v1,v2,v3,R5.out.set_lic bw hgr1.2 ho1⟩;have hq:=hgr1.1;have hq1:=HB5.out;have hq2:Below B w5 w1:=Below.trans bw hq;exact Below.setCell (hq1.trans hq2) R5.out.hB _):p:=h
theorem license_p (B r:Nat) (w:World) (lv:Value) (ls:List ByteArray) (nx:Nat) (v0 v1 v2 v3:Value) (c:Catalog) (wv:Value) (ws:List ByteArray) (h:RD B r w lv ls nx v0 v1 v2 v3 c) (hB:B≤w.heap.size) (hn:c.licenses.length≤100000000) (hnx:nx≤ls.length) (hls:0 < ls.length) (hll:ls.length≤100000000) (hlsz:∀ s∈ls,s.size≤maxLen) (hj:Lean1 ls) (hw:WD w wv ws) :
  Calls Tryz.prog 143 #[.pointer (some ⟨r,0,none⟩),wv] w fun e w'=>ROut B r lv ls nx (readLic c ws (ls.drop nx)) e w w':=by
 obtain ⟨wa,wc,rfl,hwl,hwc,hwr⟩:=list_inv hw.1;simp only [maxLen] at hwc;by_cases h4:ws.length=4
 case neg =>
  have hE:Hid (readLic c ws (ls.drop nx)=.err 4):=by
   show _=_;match ws,h4 with
   | [],_=>rfl
   | [_],_=>rfl
   | [_,_],_=>rfl
   | [_,_,_],_=>rfl
   | _ :: _ :: _ :: _ :: _ :: _,_=>rfl
  have q1:((ws.length:Int) != 4)=true:=by simp;omega
  clear hwr hw;go_enter Tryz.func143,Tryz.ntmps143;go_wp2;go_ret;unfold ROut;rw [hE.out];exact ⟨rfl,Below.refl _ _⟩
 obtain ⟨x,y,v,n,rfl⟩:∃ x y v n,ws=[x,y,v,n]:=by
  match ws,h4 with
  | [x,y,v,n],_=>exact ⟨x,y,v,n,rfl⟩
 obtain ⟨gw,ow,rfl,hgw,k0',ksz0⟩:=str_at (i:=0) hwr rfl;obtain ⟨gw',ow',he1,-,k1,ksz1⟩:=str_at (i:=1) hwr rfl;cases he1;obtain ⟨gw',ow',he1,-,k2,ksz2⟩:=str_at (i:=2) hwr rfl;cases he1;obtain ⟨gw',ow',he1,-,k3,ksz3⟩:=str_at (i:=3) hwr rfl;cases he1;obtain ⟨csw,frw,hob⟩:=hw.2 gw ow _ _ rfl;have k0:w.cell? ⟨gw,ow,none⟩=some (.string x):=by simpa using k0'
 have HLS:=zh hlsz;clear hlsz;have HR:=zh h;have HOB:=zh hob;have hlr:=h.lt;clear k0' hwr hw hob;go_enter Tryz.func143,Tryz.ntmps143;go_wp2_with fail
 refine (number_p v _ ksz2).mono ?_;rintro e w1 ⟨rfl,hb1⟩;have m0:=kept hb1 k0;have m1:=kept hb1 k1;have m3:=kept hb1 k3;have hg1:gw < w1.heap.size:=cell_lt m0;go_wp2_with fail
 refine (number_p n _ ksz3).mono ?_;rintro e w2 ⟨rfl,hb2⟩;have p0:=kept hb2 m0;have p1:=kept hb2 m1;have hg2:gw < w2.heap.size:=cell_lt p0;have hbw:Below w.heap.size w w2:=hb1.trans (hb2.mono hb1.size);have HB:=zh hbw;have hrw2:r < w2.heap.size:=Nat.lt_of_lt_of_le hlr hbw.size;have hws:w.heap.size≤w2.heap.size:=hbw.size;have K0:=zh k0;have K1:=zh k1;clear hb1 hb2 hbw k0 k1 k2 k3 m0 m1 m3 hg1;cases q1:numC v with
 | none =>
  have hE:Hid (readLic c [x,y,v,n] (ls.drop nx)=.err 4):=by show _=_;unfold readLic;simp only [q1]
  simp only [Option.isSome_none,Option.getD_none];go_wp2;go_ret;unfold ROut;rw [hE.out];exact ⟨rfl,HB.out.mono hB⟩
 | some vv =>
 cases q2:numC n with
 | none =>
  have hE:Hid (readLic c [x,y,v,n] (ls.drop nx)=.err 4):=by show _=_;unfold readLic;simp only [q1,q2]
  simp only [Option.isSome_none,Option.getD_none,Option.isSome_some,Option.getD_some];go_wp2;go_ret;unfold ROut;rw [hE.out];exact ⟨rfl,HB.out.mono hB⟩
 | some nn =>
 obtain ⟨vm,rfl,hvm⟩:=num_nat q1;obtain ⟨nm,rfl,hnm⟩:=num_nat q2;have v1':inI64 (vm:Int):=by unfold inI64;omega
 simp only [Option.isSome_some,Option.getD_some];obtain ⟨la,lc,rfl,hlc,hlm⟩:=HR.out.lines.shape;simp only [maxLen] at hlm;have R2:=zh (HR.out.below HB.out);have r0:=objcell R2.out.obj (j:=0) rfl;have r1:=objcell R2.out.obj (j:=1) rfl;have f1:=objfrozen R2.out.obj (j:=1);have hwrap:IntKind.i64.wrap ((ls.length:Int) - (nx:Int))=(ls.length:Int) - (nx:Int):=IntWalk.i64_in _ (by omega);cases q3:decide (((ls.length:Int) - (nx:Int)) < (nm:Int));case true =>
  have hE:Hid (readLic c [x,y,v,n] (ls.drop nx)=.err 13):=by
   show _=_;unfold readLic;have hd:decide (((ls.drop nx).length:Int) < (nm:Int))=true:=by simp at q3 ⊢;omega
   simp only [q1,q2,hd,if_true]
  go_wp2;go_quiet (fail)
  go_wp2;go_ret;unfold ROut;rw [hE.out];exact ⟨rfl,(HB.out.mono hB).drewN _⟩
 case false =>
  go_wp2;go_quiet (fail)
  go_wp2;have hq:nx+nm≤ls.length:=by simp at q3;omega
  have hlsz:=HLS.out;obtain ⟨gl,rfl⟩:∃ gl,la=some ⟨gl,0,none⟩:=by
   rcases R2.out.lines.2 with ⟨he,h0⟩ | ⟨g,cap,cur,he,-⟩
   ·omega
   ·cases he;exact ⟨g,rfl⟩
  obtain ⟨la',lc',he,hl1,hl2,hl3⟩:=list_inv (R2.out.lines.strs hlsz);cases he;have HSUB:=zh (row_sub (i:=nx) (n:=nm) hl3);have hsl:((ls.drop nx).take nm).length=nm:=by simp;omega
  clear hlsz hl1 hl2 hl3;have hsum:IntKind.i64.wrap ((nx:Int)+(nm:Int))=(nx:Int)+(nm:Int):=IntWalk.i64_in _ (by omega);have b1:(0:Int)≤(nx:Int)+(nm:Int):=by omega
  have b2:(nx:Int)≤(nx:Int)+(nm:Int):=by omega
  have b3:(nx:Int)+(nm:Int)≤(lc:Int):=by omega
  have b4:(0:Int)≤(nx:Int):=by omega
  refine still_tail 15 (by kernel_rfl) (by kernel_rfl) ?_;simp only [zt];repeat still_step
  refine wpStill_nil ?_;go_wp2_with fail
  ·obtain rfl:nm=0:=by omega
   have HIS:Hid (Is (w2.drewN (nq+1)) (.slice (some ⟨gl,0,none⟩) 0 0) ((ls.drop nx).take 0)):=by
    show Is _ _ _;exact list_mk (xs:=(ls.drop nx).take 0) (by simp) (by decide) (fun i x h=>by simp at h)
   refine (Join_p _ _ [10] ((ls.drop nx).take 0) HIS.out (hj nx 0) (by rw [hsl];omega)).mono ?_;rintro e w4 ⟨rfl,hb4⟩;have hbw4:Below w.heap.size w w4:=by exact zqreadv1
   have HB4:=zh hbw4;have R4:=zh (HR.out.below hbw4);have hws4:w.heap.size≤w4.heap.size:=hbw4.size;have OB4:=zh (objbelow HOB.out hbw4);have t0:=kept hbw4 K0.out;have t1:=kept hbw4 K1.out;have q0:=objcell R4.out.obj (j:=1) rfl;have qf:=objfrozen R4.out.obj (j:=1);have hr4:r < w4.heap.size:=R4.out.lt;have hg4:gw < w4.heap.size:=cell_lt t0;have hgr:=obj_ne OB4.out R4.out.obj (by decide);have hTX:Hid ((mkS (joinB [10] ((ls.drop nx).take 0))).size≤maxLen):=by
    show _≤_;rw [mkS_size];have:=hj nx 0;unfold maxLen;omega
   clear hb4 hbw4;generalize htx:mkS (joinB [10] ((ls.drop nx).take 0))=tx at *;clear hsum b1 b2 b3 b4 hwrap r0 r1 f1 p0 p1;go_wp2;have R5':=RD.set_next R4.out nx;have HB5:Hid (Below B w (w4.setCell ⟨r,1,none⟩ (.int .i64 (nx:Int)))):=by
    have hq:=HB4.out;have hq2:=hq.mono hB;exact Below.setCell hq2 R4.out.hB _
   have T0:World.cell? (w4.setCell ⟨r,1,none⟩ (.int .i64 (nx:Int))) ⟨gw,ow,none⟩=some (.string x):=keep_set t0 hgr;have T1:World.cell? (w4.setCell ⟨r,1,none⟩ (.int .i64 (nx:Int))) ⟨gw,ow+1,none⟩=some (.string y):=keep_set t1 hgr;have OB5:=blk_set_other w4 ⟨r,1,none⟩ (.int .i64 (nx:Int)) gw hgr;rw [OB4.out] at OB5;have hs5:(w4.setCell ⟨r,1,none⟩ (.int .i64 (nx:Int))).heap.size=w4.heap.size:=by simp [World.setCell]
   clear t0 t1 q0 qf R4 HB4;generalize w4.setCell ⟨r,1,none⟩ (.int .i64 (nx:Int))=w5 at *;have R5:=zh R5';have z2:=objcell R5.out.obj (j:=2) rfl;have zf:=objfrozen R5.out.obj (j:=2);have hr5:r < w5.heap.size:=R5.out.lt;have hg5:gw < w5.heap.size:=cell_lt T0;have hne1:=own_ne R5.out.lic OB5 (by decide);have hne2:=own_ne R5.out.lic R5.out.obj (by decide);have hB5:B≤w5.heap.size:=by omega
   have hE:Hid (readLic c [x,y,v,n] (ls.drop nx)=.ok { c with licenses:=c.licenses++[⟨x,y,vm,tx⟩] } 0):=by
    show _=_;unfold readLic;have hd:decide (((ls.drop nx).length:Int) < ((0:Nat):Int))=false:=by simp
    have hd':=hd;simp only [q1,q2,hd',Bool.false_eq_true,if_false,Int.toNat_natCast,htx]
   exact zrreadv0
  ·have hlt:nx < lc:=by omega
   have HIS:Hid (Is (w2.drewN (nq+1)) (.slice (some ⟨gl,nx,none⟩) nm (lc - nx)) ((ls.drop nx).take nm)):=by
    show Is _ _ _;have h1:=list_mk (xs:=(ls.drop nx).take nm) (c:=lc - nx) (by rw [hsl];omega) (by simp only [maxLen];omega) HSUB.out;rw [hsl,Nat.zero_add] at h1;exact h1.mono bw
   refine (Join_p _ _ [10] ((ls.drop nx).take nm) HIS.out (hj nx nm) (by rw [hsl];omega)).mono ?_;rintro e w4 ⟨rfl,hb4⟩;have hbw4:Below w.heap.size w w4:=by exact zqreadv1
   have HB4:=zh hbw4;have R4:=zh (HR.out.below hbw4);have hws4:w.heap.size≤w4.heap.size:=hbw4.size;have OB4:=zh (objbelow HOB.out hbw4);have t0:=kept hbw4 K0.out;have t1:=kept hbw4 K1.out;have q0:=objcell R4.out.obj (j:=1) rfl;have qf:=objfrozen R4.out.obj (j:=1);have hr4:r < w4.heap.size:=R4.out.lt;have hg4:gw < w4.heap.size:=cell_lt t0;have hgr:=obj_ne OB4.out R4.out.obj (by decide);have hTX:Hid ((mkS (joinB [10] ((ls.drop nx).take nm))).size≤maxLen):=by
    show _≤_;rw [mkS_size];have:=hj nx nm;unfold maxLen;omega
   clear hb4 hbw4;generalize htx:mkS (joinB [10] ((ls.drop nx).take nm))=tx at *;clear hsum b1 b2 b3 b4 hwrap r0 r1 f1 p0 p1;go_wp2;have R5':=RD.set_next R4.out (nx+nm);rw [show ((nx+nm:Nat):Int)=(nx:Int)+(nm:Int) from Int.natCast_add nx nm] at R5';have HB5:Hid (Below B w (w4.setCell ⟨r,1,none⟩ (.int .i64 ((nx:Int)+(nm:Int))))):=by
    have hq:=HB4.out;have hq2:=hq.mono hB;exact Below.setCell hq2 R4.out.hB _
   have T0:World.cell? (w4.setCell ⟨r,1,none⟩ (.int .i64 ((nx:Int)+(nm:Int)))) ⟨gw,ow,none⟩=some (.string x):=keep_set t0 hgr;have T1:World.cell? (w4.setCell ⟨r,1,none⟩ (.int .i64 ((nx:Int)+(nm:Int)))) ⟨gw,ow+1,none⟩=some (.string y):=keep_set t1 hgr;have OB5:=blk_set_other w4 ⟨r,1,none⟩ (.int .i64 ((nx:Int)+(nm:Int))) gw hgr;rw [OB4.out] at OB5;have hs5:(w4.setCell ⟨r,1,none⟩ (.int .i64 ((nx:Int)+(nm:Int)))).heap.size=w4.heap.size:=by simp [World.setCell]
   clear t0 t1 q0 qf R4 HB4;generalize w4.setCell ⟨r,1,none⟩ (.int .i64 ((nx:Int)+(nm:Int)))=w5 at *;have R5:=zh R5';have z2:=objcell R5.out.obj (j:=2) rfl;have zf:=objfrozen R5.out.obj (j:=2);have hr5:r < w5.heap.size:=R5.out.lt;have hg5:gw < w5.heap.size:=cell_lt T0;have hne1:=own_ne R5.out.lic OB5 (by decide);have hne2:=own_ne R5.out.lic R5.out.obj (by decide);have hB5:B≤w5.heap.size:=by omega
   have hE:Hid (readLic c [x,y,v,n] (ls.drop nx)=.ok { c with licenses:=c.licenses++[⟨x,y,vm,tx⟩] } nm):=by
    show _=_;unfold readLic;have hd:decide (((ls.drop nx).length:Int) < ((nm:Nat):Int))=false:=by simp at q3 ⊢;omega
    have hd':=hd;simp only [q1,q2,hd',Bool.false_eq_true,if_false,Int.toNat_natCast,htx]
   exact zrreadv0
theorem apart_p (B r:Nat) (w:World) (lv:Value) (ls:List ByteArray) (nx:Nat) (v0 v1 v2 v3:Value) (c:Catalog) (wv:Value) (ws:List ByteArray) (h:RD B r w lv ls nx v0 v1 v2 v3 c) (hB:B≤w.heap.size) (hn:c.apart.length≤100000000) (hw:WD w wv ws) :
  Calls Tryz.prog 146 #[.pointer (some ⟨r,0,none⟩),wv] w fun e w'=>ROut B r lv ls nx (readApart c ws) e w w':=by
 obtain ⟨wa,wc,rfl,hwl,hwc,hwr⟩:=list_inv hw.1;simp only [maxLen] at hwc;by_cases h2:ws.length=2
 ·obtain ⟨x,y,rfl⟩:∃ x y,ws=[x,y]:=by
   match ws,h2 with
   | [x,y],_=>exact ⟨x,y,rfl⟩
  obtain ⟨gw,ow,rfl,hgw,k0,ksz0⟩:=str_at (i:=0) hwr rfl;obtain ⟨gw',ow',he,-,k1,ksz1⟩:=str_at (i:=1) hwr rfl;cases he;obtain ⟨csw,frw,hob⟩:=hw.2 gw ow _ _ rfl;have k0':w.cell? ⟨gw,ow,none⟩=some (.string x):=by simpa using k0
  have hr5:=objcell h.obj (j:=5) rfl;have hf5:=objfrozen h.obj (j:=5);have hlr:=h.lt;obtain ⟨i0,hi0,hz0,hz1,hz2⟩:=info_parts apRow;have HR:=zh h;have hgr:=obj_ne hob h.obj (by decide);have hne1:=own_ne h.prs hob (by decide);have hne2:=own_ne h.prs h.obj (by decide);have hk1':=k1;clear k0 hwr hw;go_enter Tryz.func146,Tryz.ntmps146;go_wp2;go_region_law ((refine step_appL apRow rfl (by decide) Tryz.underlying25 (by rfl) _ _ (by rfl) B E5 v3 c.apart (by rfl) (by decide) (HR.out.prs.below bw) ⟨w.heap.size,0,none⟩ [.string x,.string y] ⟨x,y⟩ (by rfl) rfl (World.news_of_block (cs:=#[.string x,.string y]) (t:=151) (fr:=(0,0)) (heap_alloc_new w _)) (by simp [Value.oneCell']) (fun w'' _=>Pair.is_iff.2 ⟨rfl,rfl,ksz0,ksz1⟩) (by omega) (by simp;omega) ?_;intro a' c' w1 ho1 hg1;have hr6:=keep_g hr5 bw hg1 hne2;have hf6:=(hg1.frozen_far ⟨r,5,none⟩ (by simp;omega) hne2).trans (keptF (a:=⟨r,5,none⟩) bw hr5 hf5)))
  all_goals
   go_wp2;go_ret;have hgr1:=OwnL.grown (HR.out.prs.below bw) hg1 (by simp;omega);refine ⟨rfl,?_,v0,v1,v2,_,HR.out.set_prs bw hgr1.2 ho1⟩;have hq:=hgr1.1;have hq2:Below B w w1:=Below.trans bw hq;exact Below.setCell hq2 HR.out.hB _
 ·have hE:Hid (readApart c ws=.err 4):=by
   show _=_;match ws,h2 with
   | [],_=>rfl
   | [_],_=>rfl
   | _ :: _ :: _ :: _,_=>rfl
  have q1:((ws.length:Int) != 2)=true:=by simp;omega
  clear hwr hw;go_enter Tryz.func146,Tryz.ntmps146;go_wp2;go_ret;unfold ROut;rw [hE.out];exact ⟨rfl,Below.refl _ _⟩
end Go.Proofs.YtcbopdbbcgdkcaaGreatDoor
