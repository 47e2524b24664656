/- Lemmas. -/
import Derived.Test.YtcbopdbbcgdkcaaGreatDoorLSort
import Derived.Test.YtcbopdbbcgdkcaaGreatDoorLProW
set_option linter.all false
set_option maxRecDepth 100000
set_option maxHeartbeats 16000000
namespace Go.Proofs.YtcbopdbbcgdkcaaGreatDoor
open Go Go.RowKit Go.ChangeShapes

def lookL (nm:ByteArray):List License→Option License
 | []=>none
 | x :: r=>if x.name=nm then some x else lookL nm r
def licV (x:License):Value:=.agg #[.string x.name,.string x.family,.int .i64 x.version,.string x.text]
def noLic:License:=⟨⟨#[]⟩,⟨#[]⟩,0,⟨#[]⟩⟩
def findC (c:Catalog) (nm:ByteArray):Option License:=if checkC c != 0 then none else lookL nm c.licenses
theorem lookL_none {nm:ByteArray}:∀ {ls:List License},idxN nm (ls.map License.name)=none→lookL nm ls=none
 | [],_=>rfl
 | x :: r,h=>by
  simp only [List.map_cons,idxN] at h;unfold lookL;split at h
  ·cases h
  ·rename_i hne;rw [if_neg hne];exact lookL_none (by simpa using h)
theorem lookL_some {nm:ByteArray}:∀ {ls:List License} {j:Nat},idxN nm (ls.map License.name)=some j→∃ x,ls[j]?=some x∧lookL nm ls=some x
 | x :: r,j,h=>by
  simp only [List.map_cons,idxN] at h;unfold lookL;split at h
  ·rename_i he;cases h;rw [if_pos he];exact ⟨x,rfl,rfl⟩
  ·rename_i hne;rw [if_neg hne]
   cases hr:idxN nm (r.map License.name) with
   | none=>rw [hr] at h;cases h
   | some m=>rw [hr] at h;cases h;simpa using lookL_some hr
theorem checkC_lics {c:Catalog} (h:(checkC c != 0)=false):firstErr licErr [] c.licenses=0:=by
 unfold checkC at h;split at h
 ·cases h
 ·unfold orElse at h;split at h
  ·rename_i h1;rw [h] at h1;cases h1
  ·rename_i h1;simpa using h1
theorem Find_p (w:World) (x0:Value) (c:Catalog) (nm:ByteArray) (hg:Glob w) (h:Is w x0 c) :
  Calls Tryz.prog 116 #[x0,.string nm] w fun e w'=>e=.returned (.tuple #[licV ((findC c nm).getD noLic),.bool (findC c nm).isSome])∧Below w.heap.size w w':=by
 have HI:=zh h;obtain ⟨a0,c0,a1,c1,a2,c2,a3,c3,rfl,l0,m0,r0,l1,m1,r1,l2,m2,r2,l3,m3,r3⟩:=Catalog.inv h;have R0:=zh r0;have n0:c.licenses.length≤9223372036854775807:=by simp only [maxLen] at m0;omega
 have M0:=zh m0;clear h r0 r1 r2 r3 m0 m1 m2 m3 l1 l2 l3;go_enter Tryz.func116,Tryz.ntmps116;go_wp2_with fail
 refine (Check_p _ _ c (hg.mono bw) (HI.out.mono bw)).mono ?_;rintro e w1 ⟨rfl,hb1⟩;have d0:=kb w hb1 0 (.slice a0 c.licenses.length c0);have d1:=kb w hb1 1 (.slice a1 c.exceptions.length c1);have d2:=kb w hb1 2 (.slice a2 c.clauses.length c2);have d3:=kb w hb1 3 (.slice a3 c.apart.length c3);have e0:=kb1 w hb1 0 (.string ⟨#[]⟩);have e1:=kb1 w hb1 1 (.string ⟨#[]⟩);have e2:=kb1 w hb1 2 (.int .i64 0);have e3:=kb1 w hb1 3 (.string ⟨#[]⟩);have f0:=keptF hb1 (a:=⟨w.heap.size+1,0,none⟩) (v:=.string ⟨#[]⟩) (by simp) (by simp);have f1:=keptF hb1 (a:=⟨w.heap.size+1,1,none⟩) (v:=.string ⟨#[]⟩) (by simp) (by simp);have f2:=keptF hb1 (a:=⟨w.heap.size+1,2,none⟩) (v:=.int .i64 0) (by simp) (by simp);have f3:=keptF hb1 (a:=⟨w.heap.size+1,3,none⟩) (v:=.string ⟨#[]⟩) (by simp) (by simp);have hbw:Below w.heap.size w w1:=bw;have HB1:=zh hbw;have hz1:w.heap.size+1 < w1.heap.size:=cell_lt e0;clear hb1 hbw;cases q1:(checkC c != 0);case true =>
  have HF:Hid (findC c nm=none):=by show _=_;unfold findC;rw [q1];rfl
  go_wp2;refine bodyPost_ret (v:=.tuple #[licV noLic,.bool false]) ?_ rfl ⟨by rw [HF.out];rfl,by have hq:=HB1.out;exact bw⟩;simp [results,Tryz.results116,go_sem,e0,e1,e2,e3,licV,noLic]
 have HZ:=zh (lic_nodup (checkC_lics q1));go_wp2_with fail
 refine (index_p _ _ _ _ _ c.licenses (list_mk l0 M0.out (R0.out.mono HB1.out)) HZ.out).mono ?_;rintro e u ⟨bm,rfl,hm,-,hbu⟩;have HM:=zh hm;have hbu0:Below w.heap.size w u:=by have hq:=HB1.out;exact bw
 have HU:=zh hbu0;have d0':=kept hbu d0;have e0':=kept hbu e0;have e1':=kept hbu e1;have e2':=kept hbu e2;have e3':=kept hbu e3;have f0':=keptF hbu e0 f0;have f1':=keptF hbu e1 f1;have f2':=keptF hbu e2 f2;have f3':=keptF hbu e3 f3;have hz2:w.heap.size+1 < u.heap.size:=cell_lt e0';have l0:=run_lookup_names (P:=Tryz.prog) (T:=157) Tryz.underlying9 Tryz.underlying157 zero_int hm nm;clear hbu0 hm;cases q2:idxN nm (c.licenses.map License.name) with
 | none =>
  have HF:Hid (findC c nm=none):=by show _=_;unfold findC;rw [q1];exact lookL_none q2
  rw [q2] at l0;simp only [Option.getD_none,Option.isSome_none] at l0;clear hbu d0 e0 e1 e2 e3 f0 f1 f2 f3 HM;go_wp2;refine bodyPost_ret (v:=.tuple #[licV noLic,.bool false]) ?_ rfl ⟨by rw [HF.out];rfl,by have hq:=HU.out;exact bw⟩;simp [results,Tryz.results116,go_sem,e0',e1',e2',e3',licV,noLic]
 | some j =>
  rw [q2] at l0;simp only [Option.getD_some,Option.isSome_some] at l0;obtain ⟨x,hx,hl⟩:=lookL_some q2;have HF:Hid (findC c nm=some x):=by show _=_;unfold findC;rw [q1];exact hl
  have hjl:=lt_get hx;obtain ⟨b,off,rfl,hb,g0',g1',g2',g3',-⟩:=License.at_row R0.out hx;have g0:=kept HU.out g0';have g1:=kept HU.out g1';have g2:=kept HU.out g2';have g3:=kept HU.out g3';have hi0:=zh hx;clear hx hbu d0 e0 e1 e2 e3 f0 f1 f2 f3 HM g0' g1' g2' g3' hl;go_wp2;refine bodyPost_ret (v:=.tuple #[licV x,.bool true]) ?_ rfl ⟨by rw [HF.out];rfl,by have hq:=HU.out;exact bw⟩;simp [results,Tryz.results116,go_sem,e0',e1',e2',e3',licV,noLic]

def excIs (t:Term) (x:Exc):Bool:=(x.name.toList == t.exception.toList) && (x.license.toList == t.license.toList)
def liftsL (t:Term):List Exc→Option (List Int)
 | []=>none
 | x :: r=>if excIs t x then some x.lifts else liftsL t r
def liftsC (c:Catalog) (t:Term):Option (List Int) :=
 if (findC c t.license).isSome then (if t.exception.toList.isEmpty then some [] else liftsL t c.exceptions) else none
theorem liftsL_cons (t:Term) (x:Exc) (r:List Exc):liftsL t (x :: r)=if excIs t x then some x.lifts else liftsL t r:=rfl
theorem lifts_p (w:World) (x0:Value) (c:Catalog) (t:Term) (hg:Glob w) (h:Is w x0 c) :
  Calls Tryz.prog 82 #[x0,.agg #[.string t.license,.string t.exception]] w fun e w'=>∃ s,e=.returned (.tuple #[s,.bool (liftsC c t).isSome])∧Is w' s ((liftsC c t).getD [])∧Below w.heap.size w w':=by
 have HI:=zh h;obtain ⟨a0,c0,a1,c1,a2,c2,a3,c3,rfl,l0,m0,r0,l1,m1,r1,l2,m2,r2,l3,m3,r3⟩:=Catalog.inv h;have R1:=zh r1;have n1:c.exceptions.length≤9223372036854775807:=by simp only [maxLen] at m1;omega
 clear h r0 r1 r2 r3 m0 m1 m2 m3 l1 l2 l3 l0;go_enter Tryz.func82,Tryz.ntmps82;go_wp2_with fail
 refine (Find_p _ _ c _ (hg.mono bw) (HI.out.mono bw)).mono ?_;rintro e w1 ⟨rfl,hb1⟩;have d1:=kb w hb1 1 (.slice a1 c.exceptions.length c1);have e0:=kb1 w hb1 0 (.string t.license);have e1:=kb1 w hb1 1 (.string t.exception);have hbw:Below w.heap.size w w1:=bw;have HB1:=zh hbw;have hz1:w.heap.size < w1.heap.size:=cell_lt d1;have hz2:w.heap.size+1 < w1.heap.size:=cell_lt e1;clear hb1 hbw;unfold licV;generalize (findC c t.license).getD noLic=z;cases q1:(findC c t.license).isSome;case false =>
  have HF:Hid (liftsC c t=none):=by show _=_;unfold liftsC;rw [q1];rfl
  go_wp2;refine bodyPost_ret (v:=.tuple #[.slice none 0 0,.bool false]) (by simp [results,Tryz.results82,go_sem]) rfl ⟨.slice none 0 0,by rw [HF.out];rfl,by rw [HF.out];exact nil_mk _,by have hq:=HB1.out;have hqs:=hq.size;exact bw⟩
 cases q2:t.exception.toList.isEmpty;case true =>
  have HF:Hid (liftsC c t=some []):=by show _=_;unfold liftsC;rw [q1,q2];rfl
  go_wp2;refine bodyPost_ret (v:=.tuple #[.slice none 0 0,.bool true]) (by simp [results,Tryz.results82,go_sem]) rfl ⟨.slice none 0 0,by rw [HF.out];rfl,by rw [HF.out];exact nil_mk _,by have hq:=HB1.out;have hqs:=hq.size;exact bw⟩
 have HF:Hid (liftsC c t=liftsL t c.exceptions):=by show _=_;unfold liftsC;rw [q1,q2];rfl
 go_wp2;have hbA:Below w1.heap.size w1 (w1.alloc (.cells #[.string z.name,.string z.family,.int .i64 z.version,.string z.text] 106)):=bw;have d1':=kept hbA d1;have e0':=kept hbA e0;have e1':=kept hbA e1;have hbw2:Below w.heap.size w (w1.alloc (.cells #[.string z.name,.string z.family,.int .i64 z.version,.string z.text] 106)):=by have hq:=HB1.out;have hqs:=hq.size;exact bw
 have HB2:=zh hbw2;clear hbA hbw2 d1 e0 e1;generalize w1.alloc (.cells #[.string z.name,.string z.family,.int .i64 z.version,.string z.text] 106)=w2 at *;have hy1:w.heap.size < w2.heap.size:=cell_lt d1';have hy2:w.heap.size+1 < w2.heap.size:=cell_lt e1';go_loopw [25] (fun kv wr=>∃ k:Nat,0≤k∧k≤c.exceptions.length+0∧kv=.int .i64 k∧Below (w2).heap.size (w2) wr∧Hid (liftsL t c.exceptions=liftsL t (c.exceptions.drop k))) (fun kv _=>c.exceptions.length - (intOf kv).toNat)
 case atStart=>exact ⟨0,by omega,by omega,rfl,bw,rfl⟩
 case round =>
  obtain ⟨k,hlo,hk,rfl,hbr0,hf⟩:=hrel;have hbr:=zh hbr0;clear hbr0;by_cases hki:k < c.exceptions.length
  ·have g1:=kept hbr.out d1';have g2:=kept hbr.out e0';have g3:=kept hbr.out e1';have hs1:w.heap.size < wr.heap.size:=cell_lt g1;have hs2:w.heap.size+1 < wr.heap.size:=cell_lt g2;obtain ⟨x,hx⟩:=get_lt hki;have hd:=zh (drop_at hx);obtain ⟨b,off,rfl,hb,ya,yc,y0',y1',y2',_,_,hyl,hyc,hyr⟩:=Exc.at_row (R1.out.mono HB2.out) hx;have y0:=kept hbr.out y0';have y1:=kept hbr.out y1';have y2:=kept hbr.out y2';have HY:=zh (list_mk hyl hyc hyr);have hs3:b < wr.heap.size:=cell_lt y0;clear hx hyr y0' y1' y2' hyl hyc;cases q1:(x.name.toList == t.exception.toList);case true =>
    cases q2:(x.license.toList == t.license.toList);case true =>
     have HQ:Hid (liftsC c t=some x.lifts):=by
      show _=_;rw [HF.out,hf.out,hd.out,liftsL_cons];simp [excIs,q1,q2]
     go_wp2;refine bodyPost_ret (v:=.tuple #[.slice ya x.lifts.length yc,.bool true]) (by simp [results,Tryz.results82,go_sem]) rfl ⟨.slice ya x.lifts.length yc,by rw [HQ.out];rfl,by rw [HQ.out];exact HY.out.mono (by have hq:=hbr.out;have hqs:=hq.size;exact bw),by have hq:=HB2.out;have hqs:=hq.size;have hr:=hbr.out;have hrs:=hr.size;exact bw⟩
    go_wp2;go_roundw
    case rel=>exact ⟨k+1,by omega,by omega,by go_num,(by have hr:=hbr.out;have hrs:=hr.size;exact bw),by show _=_;rw [hf.out,hd.out,liftsL_cons];simp [excIs,q1,q2]⟩
    case measure=>exact zm
   go_wp2;go_roundw
   case rel=>exact ⟨k+1,by omega,by omega,by go_num,(by have hr:=hbr.out;have hrs:=hr.size;exact bw),by show _=_;rw [hf.out,hd.out,liftsL_cons];simp [excIs,q1]⟩
   case measure=>exact zm
  ·have HQ:Hid (liftsC c t=none):=by
    show _=_;rw [HF.out,hf.out,List.drop_eq_nil_of_le (by omega)];rfl
   go_wp2;refine bodyPost_ret (v:=.tuple #[.slice none 0 0,.bool false]) (by simp [results,Tryz.results82,go_sem]) rfl ⟨.slice none 0 0,by rw [HQ.out];rfl,by rw [HQ.out];exact nil_mk _,by have hq:=HB2.out;have hqs:=hq.size;have hr:=hbr.out;have hrs:=hr.size;exact bw⟩
open Go.Lib

theorem Known_p (w:World) (x0:Value) (c:Catalog) (t:Term) (hg:Glob w) (h:Is w x0 c) :
  Calls Tryz.prog 166 #[x0,.agg #[.string t.license,.string t.exception]] w fun e w'=>e=.returned (.bool (liftsC c t).isSome)∧Below w.heap.size w w':=by
 have HI:=zh h;obtain ⟨a0,c0,a1,c1,a2,c2,a3,c3,rfl,l0,m0,r0,l1,m1,r1,l2,m2,r2,l3,m3,r3⟩:=Catalog.inv h;clear h r0 r1 r2 r3 m0 m1 m2 m3 l1 l2 l3 l0;go_enter Tryz.func166,Tryz.ntmps166;go_wp2_with fail
 refine (lifts_p _ _ c t (hg.mono bw) (HI.out.mono bw)).mono ?_;rintro e w1 ⟨s,rfl,-,hb1⟩;go_wp2;go_ret;exact ⟨rfl,bw⟩
end Go.Proofs.YtcbopdbbcgdkcaaGreatDoor
