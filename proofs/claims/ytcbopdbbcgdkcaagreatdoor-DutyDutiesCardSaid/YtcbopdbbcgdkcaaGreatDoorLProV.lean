/- Lemmas. -/
import Derived.Test.YtcbopdbbcgdkcaaGreatDoorLProU
import Derived.Test.YtcbopdbbcgdkcaaGreatDoorLShelf
set_option linter.all false
set_option maxRecDepth 100000
set_option maxHeartbeats 16000000
namespace Go.Proofs.YtcbopdbbcgdkcaaGreatDoor
open Go Go.RowKit Go.ChangeShapes

structure Glob (w:World):Prop where
 maxLen:∃ m,w.cell? ⟨0,0,none⟩=some (.int .i64 m)
 pow10 : Lib.TabIs Tryz.prog w "internal/strconv.uint64pow10" .u64 Lib.pow10Tab
theorem Glob.mono {w w':World} (h:Glob w) (hb:Below w.heap.size w w'):Glob w':=by
 refine ⟨?_,?_⟩
 ·obtain ⟨m,hm⟩:=h.maxLen;exact ⟨m,kept hb hm⟩
 ·have hp:=h.pow10;unfold Lib.TabIs at *;have hg : Tryz.prog.globalNamed "internal/strconv.uint64pow10" = some 5 := by kernel_rfl
  refine var?_below hb hg ?_ hp;unfold World.var? at hp;rw [hg] at hp;simp only [Option.bind_some] at hp;rcases Nat.lt_or_ge 5 w.heap.size with h1 | h1
  ·exact h1
  ·rw [Array.getElem?_eq_none h1] at hp;cases hp

theorem linesB_ne {s:ByteArray} (h:¬ s.toList=[]):linesB s=splitAt 10 [] s.data.toList:=by
 unfold linesB linesL;rw [if_neg (by rw [← ByteArray.toList_eq];exact h)]

theorem strs_box (w:World) (xs:List ByteArray) (e:TypeId) (h:∀ x∈xs,x.size≤maxLen) (hn:xs.length≤maxLen) {cs:Array Value} (hx:cs=(xs.map Value.string).toArray) {b:Nat} (hb:b=w.heap.size):Is (w.alloc (.cells cs e)) (.slice (some ⟨b,0,none⟩) xs.length xs.length) xs:=by
 subst hx hb;refine list_mk (Nat.le_refl _) hn fun i x hi=>⟨_,_,rfl,by simp,?_,h x (List.mem_of_getElem? hi)⟩
 show World.cell? _ ⟨w.heap.size,0+i * 1+0,none⟩=_;rw [World.cell?_alloc_at _ _ _ _ rfl];simp [hi]
theorem splitAt_size (d:UInt8):∀ (l cur:List UInt8),∀ x∈splitAt d cur l,x.size≤cur.length+l.length
 | [],cur,x,hx=>by simp [splitAt] at hx;subst hx;rw [mkS_size];omega
 | c :: r,cur,x,hx=>by
  rw [splitAt_cons] at hx;split at hx
  ·rcases List.mem_cons.1 hx with rfl | hx
   ·rw [mkS_size];omega
   ·have:=splitAt_size d r [] x hx;simp at this ⊢;omega
  ·have:=splitAt_size d r _ x hx;simp at this ⊢;omega
theorem splitAt_len (d:UInt8):∀ (l cur:List UInt8),(splitAt d cur l).length=l.count d+1
 | [],cur=>by simp [splitAt]
 | c :: r,cur=>by
  rw [splitAt_cons];split
  ·rename_i h;subst h;simp [splitAt_len c r []]
  ·rename_i h;rw [splitAt_len d r,List.count_cons_of_ne (by simpa using h)]

theorem Split_one (s:ByteArray) (d:UInt8) (w:World) (hg:Glob w) (hs:s.size < 4294967281) :
  Calls Tryz.prog 94 #[.string s,.string (mkS [d])] w fun e w'=>e=.returned (.slice (some ⟨w.heap.size,0,none⟩) (splitAt d [] s.data.toList).length (splitAt d [] s.data.toList).length) ∧
   w'=w.alloc (.cells ((splitAt d [] s.data.toList).map Value.string).toArray 9):=by
 obtain ⟨m,hm⟩:=hg.maxLen;refine (Tryz.strings_Split s (mkS [d]) m w hs hm (by rw [mkS_size];exact Nat.le_refl 1)).mono ?_;intro e w' ⟨h1,h2⟩;rw [splitB_at] at h2;refine ⟨?_,h2⟩;rw [h1,splitAt_len,countB_one]
theorem Split_is (s:ByteArray) (d:UInt8) (w:World) (hs:s.size < 4294967281) :
  Is (w.alloc (.cells ((splitAt d [] s.data.toList).map Value.string).toArray 9)) (.slice (some ⟨w.heap.size,0,none⟩) (splitAt d [] s.data.toList).length (splitAt d [] s.data.toList).length) (splitAt d [] s.data.toList):=by
 refine strs_box _ _ _ ?_ ?_ rfl rfl
 ·intro x hx;have:=splitAt_size d s.data.toList [] x hx;rw [by_len] at this;simp at this;unfold maxLen;omega
 ·rw [splitAt_len];have:s.data.toList.count d≤s.data.toList.length:=List.count_le_length;rw [by_len] at this;unfold maxLen;omega

theorem lines_p (s:ByteArray) (w:World) (hg:Glob w) (hs:s.size < 4294967281):Calls Tryz.prog 154 #[.string s] w fun e w'=>∃ v,e=.returned v∧Is w' v (linesB s)∧Below w.heap.size w w':=by
 by_cases h0:s.toList=[]
 ·have e2:linesB s=[]:=by unfold linesB linesL;rw [if_pos (by rw [← ByteArray.toList_eq];exact h0)]
  have h2:s.toList.isEmpty=true:=by simp [h0]
  have E2:=zh e2;clear h0 e2;go_enter Tryz.func154,Tryz.ntmps154;go_wp2;go_ret;exact ⟨_,rfl,by rw [E2.out];exact nil_mk _,Below.refl _ _⟩
 ·have E2:=zh (linesB_ne h0);have h2:s.toList.isEmpty=false:=by simp [h0]
  clear h0;go_enter Tryz.func154,Tryz.ntmps154;go_wp2_with fail
  refine (Split_one s 10 w hg hs).mono ?_;rintro e w1 ⟨rfl,rfl⟩;go_wp2;go_ret;exact ⟨_,rfl,by rw [E2.out];exact Split_is s 10 w hs,bw⟩

theorem isName_eq {s:ByteArray} (h:0 < s.size):nameB s=(decide (s.size≤32) && lowC s[0] && !(s.toList == [97,110,100]) && !(s.toList == [111,114]) && !(s.toList == [119,105,116,104]) && (Lib.trimS s.data.toList nameCs).isEmpty):=by
 rw [nameB_at h,trimS_nil];congr 2;funext c
 exact (nameCs_eq c).symm
theorem Trim_name (s:ByteArray) (w:World) (hs:s.size≤maxLen):Calls Tryz.prog 208 #[.string s,.string ⟨#[97,98,99,100,101,102,103,104,105,106,107,108,109,110,111,112,113,114,115,116,117,118,119,120,121,122,48,49,50,51,52,53,54,55,56,57,45,46]⟩] w fun e w'=>e=.returned (.string (mkS (Lib.trimS s.data.toList nameCs)))∧Below w.heap.size w w' :=
 Any.strings_Trim_laid Tryz.lays160 (by kernel_rfl) s _ w hs (by decide) (ascii_of_all (by decide))
theorem Trim_digits (s:ByteArray) (w:World) (hs:s.size≤maxLen):Calls Tryz.prog 208 #[.string s,.string ⟨#[48,49,50,51,52,53,54,55,56,57]⟩] w fun e w'=>e=.returned (.string (mkS (Lib.trimS s.data.toList digitCs)))∧Below w.heap.size w w' :=
 Any.strings_Trim_laid Tryz.lays160 (by kernel_rfl) s _ w hs (by decide) (ascii_of_all (by decide))

theorem zqprov0 {p:Prop} (h:p:=by
 go_enter Tryz.func153,Tryz.ntmps153;go_wp2_with fail
 go_ret;exact ⟨ret_b (by rw [HN.out];try (simp [lowC];try omega)),Below.refl _ _⟩):p:=h
theorem isName_p (s:ByteArray) (w:World) (hs:s.size≤maxLen):Calls Tryz.prog 153 #[.string s] w fun e w'=>e=.returned (.bool (nameB s))∧Below w.heap.size w w':=by
 have HS:=zh hs;simp only [maxLen] at hs;by_cases h0:0 < s.size
 case neg =>
  have e:s.data.toList=[]:=by rw [← List.length_eq_zero_iff,by_len];omega
  have HN:Hid (nameB s=false):=by unfold nameB;rw [e];rfl
  have e0:(s.size:Int) < 1:=by omega
  clear e h0;go_enter Tryz.func153,Tryz.ntmps153;go_wp2_with fail
  go_ret;exact ⟨ret_b (by rw [HN.out];try (simp [lowC];try omega)),Below.refl _ _⟩
 have HN:=zh (isName_eq h0);have e0:(1:Int)≤s.size:=by omega
 by_cases h1:(s.size:Int)≤32
 case neg =>exact zqprov0
 by_cases h2:(97:Int)≤s[0].toNat
 case neg =>exact zqprov0
 by_cases h3:(s[0].toNat:Int)≤122
 case neg =>exact zqprov0
 cases h4:(s.toList == [97,110,100]);case true =>
  go_enter Tryz.func153,Tryz.ntmps153;go_wp2_with fail
  go_ret;exact ⟨ret_b (by rw [HN.out];try (simp [lowC,h4];try omega)),Below.refl _ _⟩
 cases h5:(s.toList == [111,114]);case true =>
  go_enter Tryz.func153,Tryz.ntmps153;go_wp2_with fail
  go_ret;exact ⟨ret_b (by rw [HN.out];try (simp [lowC,h5];try omega)),Below.refl _ _⟩
 cases h6:(s.toList == [119,105,116,104]);case true =>
  go_enter Tryz.func153,Tryz.ntmps153;go_wp2_with fail
  go_ret;exact ⟨ret_b (by rw [HN.out];try (simp [lowC,h6];try omega)),Below.refl _ _⟩
 have HN2:Hid (nameB s=(mkS (Lib.trimS s.data.toList nameCs)).toList.isEmpty):=by
  show _=_;rw [HN.out,h4,h5,h6,ByteArray.toList_eq,mkS_toList];simp [lowC];try omega
 clear HN;go_enter Tryz.func153,Tryz.ntmps153;go_wp2_with fail
 refine (Trim_name s _ HS.out).mono ?_;rintro e w1 ⟨rfl,hb1⟩;go_wp2;go_ret;exact ⟨ret_b (by rw [HN2.out]),hb1⟩

def idxN (nm:ByteArray):List ByteArray→Option Nat
 | []=>none
 | x :: r=>if x=nm then some 0 else (idxN nm r).map (·+1)
theorem findFrom_idx (nm:ByteArray):∀ (ls:List License) (i:Int),findFrom nm ls i=match idxN nm (ls.map License.name) with | none => -1 | some j=>i+j
 | [],_=>rfl
 | x :: r,i=>by
  unfold findFrom;simp only [List.map_cons,idxN];split
  ·simp
  ·rw [findFrom_idx nm r (i+1)];cases idxN nm (r.map License.name) with
   | none=>rfl
   | some j=>show i+1+(j:Int)=i+((j+1:Nat):Int);omega
theorem idxN_none {nm:ByteArray} {names:List ByteArray}:idxN nm names=none↔nm ∉ names:=by
 induction names with
 | nil=>simp [idxN]
 | cons x r ih =>
  unfold idxN;split
  ·rename_i e;simp [e]
  ·rename_i e
   simp only [Option.map_eq_none_iff,ih,List.mem_cons,not_or];exact ⟨fun h=>⟨fun e'=>e e'.symm,h⟩,fun h=>h.2⟩

def entryOf (p:ByteArray×Nat):MapEntry:={ key:=.string p.1,val:=.int .i64 p.2,born:=p.2 }
def entriesOf (names:List ByteArray):List MapEntry:=names.zipIdx.map entryOf
def NameMap (w:World) (b:Nat) (names:List ByteArray):Prop:=w.heap[b]?=some (.map (entriesOf names).toArray names.length)

theorem ba_beq (a b:ByteArray):(a == b)=decide (a=b):=by
 cases a with | mk x=>cases b with | mk y =>
 show (x == y)=_;rw [Bool.eq_iff_iff];simp
theorem findNow_names (nm:ByteArray):∀ (names:List ByteArray) (k i:Nat),
  Instr.findNow .string (.string nm) ((names.zipIdx k).map entryOf) i=some ((idxN nm names).map fun j=>(i+j,.int .i64 (k+j:Nat)))
 | [],_,_=>rfl
 | x :: r,k,i=>by
  have ih:=findNow_names nm r (k+1) (i+1);simp only [List.zipIdx_cons,List.map_cons,Instr.findNow,Instr.sameNow,entryOf,idxN];by_cases h:x=nm
  ·subst h;rw [ba_beq];simp
  ·have h':(nm == x)=false:=by rw [ba_beq];exact decide_eq_false (fun e=>h e.symm)
   rw [h',if_neg h];show Instr.findNow .string (.string nm) (((r.zipIdx (k+1)).map entryOf)) (i+1)=_;rw [ih];cases idxN nm r with
   | none=>rfl
   | some j=>simp only [Option.map_some,Option.some.injEq,Prod.mk.injEq,Value.int.injEq,true_and];omega

theorem run_getObj_names {P:Program} {w:World} {b:Nat} {names:List ByteArray} (hm:NameMap w b names):(getObj b).run P w=.ok (.map (entriesOf names).toArray names.length) w:=by
 unfold NameMap at hm;simp [getObj,Sem.run,hm]
theorem run_setObj_names {P:Program} {w:World} {b:Nat} {names:List ByteArray} (hm:NameMap w b names) (o:Obj):(setObj b o).run P w=.ok () { w with heap:=w.heap.setIfInBounds b o }:=by
 unfold NameMap at hm;simp [setObj,Sem.run,hm]
section
variable {P:Program} {K:TypeId} (hK:P.underlying K=some .string)
include hK
theorem run_checkKey_str (empty:Bool) (nm:ByteArray) (w:World):(Instr.checkKey empty 10000 K (.string nm)).run P w=.ok () w:=by
 rw [show (10000:Nat)=9999+1 from rfl];unfold Instr.checkKey;simp [run_underlying hK]
theorem run_findKey_names (nm:ByteArray) (names:List ByteArray) (w:World):(Instr.findKey K (.string nm) (entriesOf names)).run P w=.ok ((idxN nm names).map fun j=>(j,.int .i64 (j:Nat))) w:=by
 unfold Instr.findKey;have:=findNow_names nm names 0 0;unfold entriesOf;simp [run_underlying hK,this]
variable {T E:TypeId} (hT:P.underlying T=some (.map K E))
include hT
theorem run_lookup_names (hz:∀ w,(zeroValue E).run P w=.ok (.int .i64 0) w) {w:World} {b:Nat} {names:List ByteArray} (hm:NameMap w b names) (nm:ByteArray) :
  (Instr.lookup T (.map (some b)) (.string nm) true).run P w=.ok (.tuple #[.int .i64 (((idxN nm names).getD 0:Nat):Int),.bool (idxN nm names).isSome]) w:=by
 have hg:=run_getObj_names (P:=P) hm;have h2:=run_findKey_names hK nm names w;unfold Instr.lookup;cases hi:idxN nm names with
 | none =>
  rw [hi] at h2;simp [run_underlying hT,hg,run_checkKey_str hK,h2,hz]
 | some j =>
  rw [hi] at h2;simp [run_underlying hT,hg,run_checkKey_str hK,h2]
theorem run_update_names {w:World} {b:Nat} {names:List ByteArray} (hm:NameMap w b names) (nm:ByteArray) (hn:idxN nm names=none) :
  (Instr.mapUpdate T (.map (some b)) (.string nm) (.int .i64 names.length)).run P w=.ok () { w with heap:=w.heap.setIfInBounds b (.map (entriesOf (names++[nm])).toArray (names.length+1)) }:=by
 have hg:=run_getObj_names (P:=P) hm;have h2:=run_findKey_names hK nm names w;rw [hn] at h2;have he:(entriesOf (names++[nm])).toArray=(entriesOf names).toArray.push { key:=.string nm,val:=.int .i64 names.length,born:=names.length }:=by
  unfold entriesOf;rw [List.zipIdx_append];simp [entryOf]
 unfold Instr.mapUpdate;simp only [he];have hs:=fun o=>run_setObj_names (P:=P) hm o;simp [run_underlying hT,hg,run_checkKey_str hK,h2,hs]
end
theorem update_names {P:Program} {K T E:TypeId} (hK:P.underlying K=some .string) (hT:P.underlying T=some (.map K E)) {w:World} {b:Nat} {names:List ByteArray} (hm:NameMap w b names) (nm:ByteArray) (hn:idxN nm names=none) :
  ∃ w',(Instr.mapUpdate T (.map (some b)) (.string nm) (.int .i64 names.length)).run P w=.ok () w'∧NameMap w' b (names++[nm])∧w.grownBy w' (some b):=by
 refine ⟨_,run_update_names hK hT hm nm hn,?_,?_⟩
 ·unfold NameMap at *;have hb:b < w.heap.size:=by
   rcases Nat.lt_or_ge b w.heap.size with h | h
   ·exact h
   ·rw [Array.getElem?_eq_none h] at hm;cases hm
  simp [hb]
 ·refine ⟨rfl,rfl,rfl,by simp,fun k hk hne=>?_⟩;have:¬ b=k:=fun e=>hne (by rw [e]);simp [Array.getElem?_setIfInBounds,this]
theorem NameMap.lt {w:World} {b:Nat} {names:List ByteArray} (h:NameMap w b names):b < w.heap.size:=by
 rcases Nat.lt_or_ge b w.heap.size with g | g
 ·exact g
 ·unfold NameMap at h;rw [Array.getElem?_eq_none g] at h;cases h
theorem NameMap.mono {w w':World} {b:Nat} {names:List ByteArray} (h:NameMap w b names) (hb:Below w.heap.size w w'):NameMap w' b names:=by
 unfold NameMap at *;rw [hb.block b (NameMap.lt h)];exact h
theorem distinct_at {names:List ByteArray} (hd:names.Nodup) {k:Nat} {x:ByteArray} (h:names[k]?=some x):idxN x (names.take k)=none:=by
 rw [idxN_none];intro hx;have e:names.take k++(x :: names.drop (k+1))=names:=by rw [← drop_at h,List.take_append_drop]
 rw [← e,List.nodup_append] at hd;exact hd.2.2 x hx x (by simp) rfl

theorem nameMap_new (w:World) (b:Nat) (hb:b=w.heap.size):NameMap (w.alloc (.map #[] 0)) b []:=by
 subst hb;show (w.heap.push _)[w.heap.size]?=_;simp [entriesOf]
theorem zero_int (w:World):(zeroValue 3).run Tryz.prog w=.ok (.int .i64 0) w:=by kernel_rfl
theorem index_p (w:World) (x0 x1 x2 x3:Value) (ls:List License) (h:Is w x0 ls) (hd:(ls.map License.name).Nodup) :
  Calls Tryz.prog 108 #[.agg #[x0,x1,x2,x3]] w fun e w'=>∃ b,e=.returned (.map (some b))∧NameMap w' b (ls.map License.name)∧w.heap.size≤b∧Below w.heap.size w w':=by
 obtain ⟨a,c,rfl,hnc,hc,hr⟩:=list_inv h;have HR:=zh hr;have HD:=zh hd;simp only [maxLen] at hc;clear h hr hd;have hmm:=@run_makeMap Tryz.prog;go_enter Tryz.func108,Tryz.ntmps108;go_wp2;clear hmm;go_loopw [10] (fun kv wr=>∃ k:Nat,k≤ls.length∧kv=.int .i64 k∧NameMap wr (w.heap.size+1) ((ls.map License.name).take k)∧Below (w.heap.size+1) (w.alloc (.cells #[.slice a ls.length c,x1,x2,x3] 27)) wr∧w.heap.size+1 < wr.heap.size) (fun kv _=>ls.length - (intOf kv).toNat)
 case atStart=>exact ⟨0,Nat.zero_le _,rfl,(nameMap_new _ _ (by simp)),bw,by simp⟩
 case round =>
  obtain ⟨k,hk,rfl,hm,hbr,hsz⟩:=hrel;have HB:=zh hbr;have HM:=zh hm;clear hbr hm;by_cases hki:k < ls.length
  ·obtain ⟨x,hx⟩:=get_lt hki;obtain ⟨b,off,he,hb,c0,c1,c2,c3,-⟩:=License.at_row ((HR.out.mono zb).mono (HB.out.mono (by simp))) hx;subst he;have hnx:(ls.map License.name)[k]?=some x.name:=by simp [hx]
   obtain ⟨w2,hu,hm2,hg2⟩:=update_names (P:=Tryz.prog) (T:=157) Tryz.underlying9 Tryz.underlying157 (w:=wr.alloc (.cells #[.string x.name,.string x.family,.int .i64 x.version,.string x.text] 106)) (b:=w.heap.size+1) (names:=(ls.map License.name).take k)
    (HM.out.mono zb) x.name (distinct_at HD.out hnx)
   have hlk:((ls.map License.name).take k).length=k:=by simp;omega
   rw [hlk] at hu;have HT:=zh (take_at hnx);have HM2:=zh hm2;have HG2:=zh hg2;clear hx hnx hlk hm2 hg2;go_wp2;go_roundw
   case rel =>
    refine ⟨k+1,by omega,by go_num,by rw [HT.out];exact HM2.out,?_,?_⟩
    ·exact ((HB.out.alloc (by omega) _).grown HG2.out (by simp;omega) (fun j hj=>by cases hj;omega))
    ·have:=HG2.out.size;simp at this;omega
   case measure=>exact zm
  ·go_wp2;go_ret;refine ⟨w.heap.size+1,rfl,?_,by omega,zb.trans (HB.out.mono (by simp))⟩;have e:=HM.out;rw [List.take_of_length_le (by simp;omega)] at e;exact e

theorem increases_i (w:World) (x0:Value) (xs:List Int) (h:Is w x0 xs):Calls Tryz.prog 158 #[x0] w fun e w'=>e=.returned (.bool (incr ilt xs))∧∃ n,w'=w.drewN n:=by
 obtain ⟨a,c,rfl,hnc,hc,hr⟩:=list_inv h;simp only [maxLen] at hc;clear h;go_enter Tryz.func158,Tryz.ntmps158;go_wp2;go_loopw [3] (fun kv wr=>∃ k:Nat,1≤k∧k≤xs.length+1∧kv=.int .i64 k∧(∃ n,wr=(w).drewN n)∧Hid (incr ilt xs=incr ilt (xs.drop (k - 1)))) (fun kv _=>xs.length - (intOf kv).toNat)
 case atStart=>exact ⟨1,by omega,by omega,rfl,(by first | exact ⟨_,rfl⟩ | exact ⟨0,rfl⟩),rfl⟩
 case round =>
  obtain ⟨k,hlo,hk,rfl,⟨n,rfl⟩,hf⟩:=hrel;by_cases hki:k < xs.length
  ·obtain ⟨m,rfl⟩:∃ m,k=m+1:=⟨k - 1,by omega⟩
   obtain ⟨u,hu⟩:=get_lt (xs:=xs) (k:=m) (by omega);obtain ⟨y,hy⟩:=get_lt hki;obtain ⟨b3,off3,rfl,hb3,g0,-⟩:=int_at hr hu;obtain ⟨b5,off5,he5,hb5,g1,-⟩:=int_at hr hy;obtain ⟨rfl,rfl⟩:b3=b5∧off3=off5:=by simpa using he5
   have hd:=zh (show xs.drop (m+1 - 1)=u :: xs.drop (m+1) from drop_at hu);have hd2:=zh (drop_at hy);have hul:m < xs.length:=lt_get hu;clear hu hy he5;cases q1:decide (y≤u);case true =>
    go_wp2;go_quiet (fail)
    go_wp2;go_ret;exact ⟨ret_b (by rw [hf.out,hd.out,hd2.out,incr_cons,ilt_le,q1];rfl),_,World.drewN_drewN _ _ _⟩
   go_wp2;go_quiet (fail)
   go_wp2;go_roundw
   case rel=>exact ⟨m+1+1,by omega,by omega,by go_num,⟨_,rfl⟩,by show _=_;rw [hf.out,hd.out,hd2.out,incr_cons,ilt_le,q1];rw [Bool.not_false,Bool.true_and,← hd2.out];rfl⟩
   case measure=>exact zm
  ·go_wp2;go_ret;exact ⟨ret_b (by rw [hf.out,incr_short _ _ (by simp;omega)]),_,rfl⟩

theorem increases_s (w:World) (x0:Value) (xs:List ByteArray) (h:Is w x0 xs):Calls Tryz.prog 159 #[x0] w fun e w'=>e=.returned (.bool (incr slt xs))∧∃ n,w'=w.drewN n:=by
 obtain ⟨a,c,rfl,hnc,hc,hr⟩:=list_inv h;simp only [maxLen] at hc;clear h;go_enter Tryz.func159,Tryz.ntmps159;go_wp2;go_loopw [3] (fun kv wr=>∃ k:Nat,1≤k∧k≤xs.length+1∧kv=.int .i64 k∧(∃ n,wr=(w).drewN n)∧Hid (incr slt xs=incr slt (xs.drop (k - 1)))) (fun kv _=>xs.length - (intOf kv).toNat)
 case atStart=>exact ⟨1,by omega,by omega,rfl,(by first | exact ⟨_,rfl⟩ | exact ⟨0,rfl⟩),rfl⟩
 case round =>
  obtain ⟨k,hlo,hk,rfl,⟨n,rfl⟩,hf⟩:=hrel;by_cases hki:k < xs.length
  ·obtain ⟨m,rfl⟩:∃ m,k=m+1:=⟨k - 1,by omega⟩
   obtain ⟨u,hu⟩:=get_lt (xs:=xs) (k:=m) (by omega);obtain ⟨y,hy⟩:=get_lt hki;obtain ⟨b3,off3,rfl,hb3,g0,-⟩:=str_at hr hu;obtain ⟨b5,off5,he5,hb5,g1,-⟩:=str_at hr hy;obtain ⟨rfl,rfl⟩:b3=b5∧off3=off5:=by simpa using he5
   have hd:=zh (show xs.drop (m+1 - 1)=u :: xs.drop (m+1) from drop_at hu);have hd2:=zh (drop_at hy);have hul:m < xs.length:=lt_get hu;clear hu hy he5;cases q1:(Op.bytesLess y.toList u.toList || y.toList == u.toList);case true =>
    go_wp2;go_quiet (fail)
    go_wp2;go_ret;exact ⟨ret_b (by rw [hf.out,hd.out,hd2.out,incr_cons,slt_le,q1];rfl),_,World.drewN_drewN _ _ _⟩
   go_wp2;go_quiet (fail)
   go_wp2;go_roundw
   case rel=>exact ⟨m+1+1,by omega,by omega,by go_num,⟨_,rfl⟩,by show _=_;rw [hf.out,hd.out,hd2.out,incr_cons,slt_le,q1];rw [Bool.not_false,Bool.true_and,← hd2.out];rfl⟩
   case measure=>exact zm
  ·go_wp2;go_ret;exact ⟨ret_b (by rw [hf.out,incr_short _ _ (by simp;omega)]),_,rfl⟩

theorem notDuty_p (n:Int) (w:World):Calls Tryz.prog 156 #[.int .i64 n] w fun e w'=>e=.returned (.bool (!dutyOK n))∧w=w':=by
 go_enter Tryz.func156,Tryz.ntmps156;go_wp2_with (go_at_call 157;refine (isDuty_p _ _).mono ?_;rintro e w1 ⟨rfl,rfl⟩)
 go_ret;exact ⟨rfl,rfl⟩

theorem bytes_conv {P:Program} {src dst e:TypeId} (hs:P.underlying src=some .string) (hd:P.underlying dst=some (.slice e)) (he:P.underlying e=some (.int .u8)) (w:World) (s:ByteArray) :
  ∃ cap w1,(convert src dst (.string s)).run P w=.ok (.slice (some ⟨w.heap.size,0,none⟩) s.size cap) w1∧Below w.heap.size w w1∧s.size≤cap∧w.heap.size < w1.heap.size ∧
   ∀ i (h:i < s.size),w1.cell? ⟨w.heap.size,i,none⟩=some (.int .u8 (s[i].toNat:Int)):=by
 refine ⟨_,_,run_bytes_of_string w src dst e s hs hd he,?_,?_,by simp,fun i h=>?_⟩
 ·exact (Below.refl _ _).drew.alloc (Nat.le_refl _) _
 ·unfold grownCap;simp [Question.cut]
 ·refine (World.cell?_alloc_mark w.drew _ _ _ i).trans ?_;unfold bytesRow;rw [Array.getElem?_append_left (by simpa using h)];have h':i < s.data.size:=h;rw [Array.getElem?_map,Array.getElem?_eq_getElem h'];rfl
theorem ibeq (a b:Int):(a == b)=decide (a=b):=by rw [Bool.eq_iff_iff];simp
theorem plainC_eq (c:UInt8):plainC c=!(((c.toNat:Int) != 10) && (decide ((c.toNat:Int) < 32) || decide ((126:Int) < c.toNat))):=by
 unfold plainC;rw [Bool.eq_iff_iff];simp;try omega
theorem checkLicense_p (w:World) (x0:Value) (ls:List License) (i:Nat) (x:License) (hg:Glob w) (h:Is w x0 ls) (hx:ls[i]?=some x) :
  Calls Tryz.prog 107 #[x0,.int .i64 i] w fun e w'=>e=.returned (.int .i64 (licErr (ls.take i) x))∧Below w.heap.size w w':=by
 obtain ⟨a,c,rfl,hnc,hc,hr⟩:=list_inv h;simp only [maxLen] at hc;clear h;have hlt:i < ls.length:=lt_get hx;obtain ⟨b,off,rfl,hb,c0,c1,c2,c3,s0,s1,-,s3⟩:=License.at_row hr hx;have HX:=zh hx;have HR:=zh hr;clear hx hr;go_enter Tryz.func107,Tryz.ntmps107;go_wp2_with fail
 refine (isName_p _ _ s0).mono ?_;rintro e w1 ⟨rfl,hb1⟩;have g0:=kb w hb1 0 (.string x.name);have g1:=kb w hb1 1 (.string x.family);have g2:=kb w hb1 2 (.int .i64 x.version);have g3:=kb w hb1 3 (.string x.text);have hbw:Below w.heap.size w w1:=bw;have HB1:=zh hbw;clear hb1 hbw c0 c1 c2 c3;cases q1:nameB x.name;case true =>
  go_wp2_with fail
  refine (isName_p _ _ s1).mono ?_;rintro e w2 ⟨rfl,hb2⟩;obtain ⟨g0,g1,g2,g3⟩:=k4 hb2 g0 g1 g2 g3;have HB2:=zh (HB1.out.trans (hb2.mono HB1.out.size));clear hb2;cases q2:nameB x.family;case true =>
   cases q3:decide (x.version < 0);case true =>
    go_wp2;go_ret;exact ⟨ret_i (by simp [licErr,q1,q2,q3]),HB2.out⟩
   cases q4:decide (999 < x.version);case true =>
    go_wp2;go_ret;exact ⟨ret_i (by simp [licErr,q1,q2,q3,q4]),HB2.out⟩
   cases q5:decide ((4096:Int) < x.text.size);case true =>
    go_wp2;go_ret;exact ⟨ret_i (by simp [licErr,q1,q2,q3,q4,q5]),HB2.out⟩
   have HQ:Hid (licErr (ls.take i) x=if decide ((999:Int) < (linesB x.text).length) then 10 else if !plainB x.text then 4 else if !after License.name (ls.take i) x.name then 5 else if ((ls.take i).any fun y=>decide (y.family=x.family) && decide (y.version=x.version)) then 6 else 0):=by
    show _=_;simp [licErr,q1,q2,q3,q4,q5]
   have hsz:x.text.size < 4294967281:=by simp at q5;omega
   go_wp2_with fail
   refine (lines_p _ _ (hg.mono HB2.out) hsz).mono ?_;rintro e w3 ⟨v,rfl,hv,hb3⟩;obtain ⟨a',c',hve,hm',hk',-⟩:=list_inv hv;subst hve;obtain ⟨g0,g1,g2,g3⟩:=k4 hb3 g0 g1 g2 g3;have HB3:=zh (HB2.out.trans (hb3.mono HB2.out.size));simp only [maxLen] at hk';clear hv hb3 q1 q2 q3 q4 q5;cases q6:decide ((999:Int) < (linesB x.text).length);case true =>
    go_wp2_with fail
    go_ret;exact ⟨ret_i (by rw [HQ.out,q6];rfl),HB3.out⟩
   have HQ1:Hid (licErr (ls.take i) x=if !plainB x.text then 4 else if !after License.name (ls.take i) x.name then 5 else if ((ls.take i).any fun y=>decide (y.family=x.family) && decide (y.version=x.version)) then 6 else 0):=by
    show _=_;rw [HQ.out,q6];rfl
   clear HQ;obtain ⟨cap,w4,hconv,hb4,hcap,hsz4,hcells⟩:=bytes_conv (P:=Tryz.prog) Tryz.underlying9 Tryz.underlying197 Tryz.underlying5 w3 x.text;obtain ⟨g0,g1,g2,g3⟩:=k4 hb4 g0 g1 g2 g3;have HB4:=zh (HB3.out.trans (hb4.mono HB3.out.size));have HC:=zh hcells;clear hcells hb4;go_wp2;go_loop [50] (fun kv=>∃ k:Nat,0≤k∧k≤x.text.size+0∧kv=.int .i64 k∧Hid (x.text.data.toList.all plainC=(x.text.data.toList.drop k).all plainC)) (fun kv=>x.text.size - (intOf kv).toNat)
   case atStart=>exact ⟨0,by omega,by omega,rfl,rfl⟩
   case round =>
    obtain ⟨k,hlo,hk,rfl,hf⟩:=hrel;by_cases hki:k < x.text.size
    ·have hd:=zh (by_at x.text k hki);have hcell:=HC.out k hki;cases q21:((x.text[k].toNat:Int) != 10);case true =>
      cases q22:decide ((x.text[k].toNat:Int) < 32);case true =>
       go_wp2;go_ret;exact ⟨ret_i (by rw [HQ1.out];unfold plainB;rw [hf.out,hd.out];simp only [List.all_cons,plainC_eq,q21,q22];rfl),HB4.out⟩
      cases q23:decide ((126:Int) < x.text[k].toNat);case true =>
       go_wp2;go_ret;exact ⟨ret_i (by rw [HQ1.out];unfold plainB;rw [hf.out,hd.out];simp only [List.all_cons,plainC_eq,q21,q22,q23];rfl),HB4.out⟩
      go_wp2;go_round
      case rel=>exact ⟨k+1,by omega,by omega,by go_num,by show _=_;rw [hf.out,hd.out];simp only [List.all_cons,plainC_eq,q21,q22,q23];rfl⟩
      case measure=>exact zm
     go_wp2;go_round
     case rel=>exact ⟨k+1,by omega,by omega,by go_num,by show _=_;rw [hf.out,hd.out];simp only [List.all_cons,plainC_eq,q21];rfl⟩
     case measure=>exact zm
    ·have HQ2:Hid (licErr (ls.take i) x=if !after License.name (ls.take i) x.name then 5 else if ((ls.take i).any (fun y=>decide (y.family=x.family) && decide (y.version=x.version))) then 6 else 0):=by
      show _=_;rw [HQ1.out];unfold plainB;rw [hf.out,by_nil _ _ hki];rfl
     clear HQ1 hf;go_wp2;cases i with
     | zero =>
      have HQ3:Hid (licErr (ls.take 0) x=if ((ls.take 0).any (fun y=>decide (y.family=x.family) && decide (y.version=x.version))) then 6 else 0):=by
       show _=_;rw [HQ2.out];rfl
      clear HQ2;go_quiet (fail)
      go_wp2;go_loopw [82] (fun kv wr=>∃ k:Nat,0≤k∧k≤0+0∧kv=.int .i64 k∧Below (w4).heap.size (w4) wr∧Hid ((ls.take 0).any (fun y=>decide (y.family=x.family) && decide (y.version=x.version))=((ls.take 0).drop k).any (fun y=>decide (y.family=x.family) && decide (y.version=x.version)))) (fun kv _=>0 - (intOf kv).toNat)
      case atStart=>exact ⟨0,by omega,by omega,rfl,bw,rfl⟩
      case round =>
       obtain ⟨k,hlo,hk,rfl,hbr0,hf⟩:=hrel;have hbr:=zh hbr0;clear hbr0;by_cases hki:k < 0
       ·omega
       ·go_wp2;go_ret;exact ⟨ret_i (by rw [HQ3.out,hf.out,List.drop_eq_nil_of_le (by simp)];rfl),(HB4.out.trans (hbr.out.mono HB4.out.size))⟩
     | succ j =>
      obtain ⟨p,hp⟩:=get_lt (xs:=ls) (k:=j) (by omega);obtain ⟨b2,off2,he,hb2,e0,e1,e2,e3,-⟩:=License.at_row (HR.out.mono HB4.out) hp;obtain ⟨rfl,rfl⟩:b=b2∧off=off2:=by simpa using he
      have hpl:j < ls.length:=lt_get hp;have HP:=zh (last_take hp);clear hp he;cases q8:(Op.bytesLess x.name.toList p.name.toList || x.name.toList == p.name.toList);case true =>
       go_quiet (fail)
       go_wp2;go_ret;exact ⟨ret_i (by rw [HQ2.out];simp only [after,HP.out,slt_le,q8];rfl),HB4.out.drewN _⟩
      have HQ3:Hid (licErr (ls.take (j+1)) x=if ((ls.take (j+1)).any (fun y=>decide (y.family=x.family) && decide (y.version=x.version))) then 6 else 0):=by
       show _=_;rw [HQ2.out];simp only [after,HP.out,slt_le,q8];rfl
      clear HQ2;go_quiet (fail)
      go_wp2;go_loopw [82] (fun kv wr=>∃ k:Nat,0≤k∧k≤(j+1)+0∧kv=.int .i64 k∧Below (w4).heap.size (w4) wr∧Hid ((ls.take (j+1)).any (fun y=>decide (y.family=x.family) && decide (y.version=x.version))=((ls.take (j+1)).drop k).any (fun y=>decide (y.family=x.family) && decide (y.version=x.version)))) (fun kv _=>(j+1) - (intOf kv).toNat)
      case atStart=>exact ⟨0,by omega,by omega,rfl,bw,rfl⟩
      case round =>
       obtain ⟨k,hlo,hk,rfl,hbr0,hf⟩:=hrel;have hbr:=zh hbr0;clear hbr0;by_cases hki:k < (j+1)
       ·obtain ⟨y,hy⟩:=get_lt (xs:=ls) (k:=k) (by omega);obtain ⟨b3,off3,he3,hb3,u0,u1,u2,u3,-⟩:=License.at_row ((HR.out.mono HB4.out).mono (hbr.out)) hy;obtain ⟨rfl,rfl⟩:b=b3∧off=off3:=by simpa using he3
        have hyl:k < ls.length:=lt_get hy;have hd:=zh (drop_at (xs:=ls.take (j+1)) (k:=k) (x:=y) (by rw [List.getElem?_take,if_pos hki];exact hy));clear hy he3;have G1:=kept hbr.out g1;have G2:=kept hbr.out g2;have hwl:w.heap.size < wr.heap.size:=cell_lt G1;cases q41:(y.family.toList == x.family.toList);case true =>
         cases q42:(y.version == x.version);case true =>
          go_wp2;go_ret;exact ⟨ret_i (by rw [HQ3.out,hf.out,hd.out];simp [← ba_eq,← ibeq,q41,q42]),(HB4.out.trans (hbr.out.mono HB4.out.size)).alloc (by omega) _⟩
         go_wp2;go_roundw
         case rel=>exact ⟨k+1,by omega,by omega,by go_num,(by have:=hbr.out;exact this.alloc this.size _),by show _=_;rw [hf.out,hd.out];simp [← ba_eq,← ibeq,q41,q42]⟩
         case measure=>exact zm
        go_wp2;go_roundw
        case rel=>exact ⟨k+1,by omega,by omega,by go_num,(by have:=hbr.out;exact this.alloc this.size _),by show _=_;rw [hf.out,hd.out];simp [← ba_eq,← ibeq,q41]⟩
        case measure=>exact zm
       ·go_wp2;go_ret;exact ⟨ret_i (by rw [HQ3.out,hf.out,List.drop_eq_nil_of_le (by simp;omega)];rfl),(HB4.out.trans (hbr.out.mono HB4.out.size))⟩
  go_wp2;go_ret;exact ⟨ret_i (by simp [licErr,q1,q2]),HB2.out⟩
 go_wp2;go_ret;exact ⟨ret_i (by simp [licErr,q1]),HB1.out⟩

theorem bang_at {α:Type} [Inhabited α] {xs:List α} {j:Nat} (h:j < xs.length):xs[j]?=some xs[j]! := by simp [h]
theorem Contains_duty (w:World) (v:Value) (xs:List Int) (h:Is w v xs) :
  Calls Tryz.prog 155 #[v,.func (.func 156) #[] #[]] w fun e w'=>e=.returned (.bool (!xs.all dutyOK))∧Below w.heap.size w w':=by
 obtain ⟨a,c,rfl,hnc,hc,hr⟩:=list_inv h;simp only [maxLen] at hc;by_cases h0:xs.length=0
 ·obtain rfl:xs=[]:=List.length_eq_zero_iff.1 h0;exact (Tryz.slices_ContainsFunc_empty_f155 (α:=Int) a c _ w).mono fun e w' ⟨h1,h2⟩=>⟨h1,by rw [h2];exact Below.refl _ _⟩
 ·obtain ⟨x,hx⟩:=get_lt (xs:=xs) (k:=0) (by omega);obtain ⟨b,off,rfl,-⟩:=int_at hr hx;have eg:∀ args w,(callFunc 156 args).run Tryz.prog w=.ok (.enter 156 args) w:=enters_of Tryz.func156 (by kernel_rfl) rfl;refine (Tryz.slices_ContainsFunc_f155 (α:=Int) (Value.int .i64) (fun n=>!dutyOK n) 156 #[] eg b off xs.length c xs w ?_ (Nat.le_refl _) (by omega) ?_).mono ?_
  ·intro W y _;exact (notDuty_p y W).mono fun e w' ⟨h1,h2⟩=>⟨h1,0,h2.symm⟩
  ·intro j hj;obtain ⟨b',off',he,-,hcell,-⟩:=int_at hr (bang_at hj);obtain ⟨rfl,rfl⟩:b=b'∧off=off':=by simpa using he
   exact hcell
  ·rintro e w' ⟨h1,q,rfl⟩;refine ⟨?_,(Below.refl _ _).drewN _⟩;rw [h1,List.take_length];exact ret_b (by rw [List.not_all_eq_any_not])
theorem find_neg (nm:ByteArray) (ls:List License):decide (findFrom nm ls 0 < 0)=!(idxN nm (ls.map License.name)).isSome:=by
 rw [findFrom_idx];cases idxN nm (ls.map License.name) with
 | none=>rfl
 | some j=>show decide ((0:Int)+j < 0)=_;simp;try omega
theorem find_neg_t {nm:ByteArray} {ls:List License} (h:(idxN nm (ls.map License.name)).isSome=true):decide (findFrom nm ls 0 < 0)=false:=by rw [find_neg,h];rfl
theorem find_neg_f {nm:ByteArray} {ls:List License} (h:(idxN nm (ls.map License.name)).isSome=false):decide (findFrom nm ls 0 < 0)=true:=by rw [find_neg,h];rfl

theorem checkException_p (w:World) (x0:Value) (bm:Nat) (ls:List License) (es:List Exc) (i:Nat) (x:Exc) (hm:NameMap w bm (ls.map License.name)) (h:Is w x0 es) (hx:es[i]?=some x) :
  Calls Tryz.prog 109 #[x0,.int .i64 i,.map (some bm)] w fun e w'=>e=.returned (.int .i64 (excErr ls (es.take i) x))∧Below w.heap.size w w':=by
 obtain ⟨a,c,rfl,hnc,hc,hr⟩:=list_inv h;simp only [maxLen] at hc;clear h;have hlt:i < es.length:=lt_get hx;obtain ⟨b,off,rfl,hb,a2,c2,c0,c1,c2',s0,s1,m2,k2,r2⟩:=Exc.at_row hr hx;have K2:=zh k2;simp only [maxLen] at k2;have HR:=zh hr;have HM:=zh hm;clear hx hr hm;go_enter Tryz.func109,Tryz.ntmps109;go_wp2_with fail
 refine (isName_p _ _ s0).mono ?_;rintro e w1 ⟨rfl,hb1⟩;have g0:=kb w hb1 0 (.string x.name);have g1:=kb w hb1 1 (.string x.license);have g2:=kb w hb1 2 (.slice a2 x.lifts.length c2);have hbw:Below w.heap.size w w1:=bw;have HB1:=zh hbw;have R2:=zh (r2.mono hbw);clear hb1 hbw c0 c1 c2' r2;cases q1:nameB x.name;case true =>
  have hl:=run_lookup_names (P:=Tryz.prog) (T:=157) Tryz.underlying9 Tryz.underlying157 zero_int (HM.out.mono HB1.out) x.license;cases q2:(idxN x.license (ls.map License.name)).isSome;case true =>
   have qf:=find_neg_t q2;have HF:=zh qf;clear qf;go_wp2_with fail
   refine (Contains_duty _ _ _ (list_mk m2 K2.out R2.out)).mono ?_;rintro e w2 ⟨rfl,hb2⟩;have g0:=kept hb2 g0;have g2:=kept hb2 g2;have HB2:=zh (HB1.out.trans (hb2.mono HB1.out.size));have R2:=zh (R2.out.mono hb2);clear hl hb2;cases q3:x.lifts.all dutyOK;case true =>
    go_wp2;cases q4:((x.lifts.length:Int) == 0);case true =>
     go_quiet (fail)
     go_wp2;go_ret;exact ⟨ret_i (by simp only [excErr,q1,HF.out,q3,q4];rfl),HB2.out.drewN _⟩
    cases q5:incr ilt x.lifts;case true =>
     cases i with
     | zero =>
      go_quiet (((go_at_call 158;exact Calls.quiet_of (increases_i _ _ _ ((list_mk m2 K2.out R2.out).mono bw)))))
      go_wp2;go_ret;exact ⟨ret_i (by simp only [excErr,q1,HF.out,q3,q4,q5];rfl),HB2.out.drewN _⟩
     | succ j =>
      obtain ⟨p,hp⟩:=get_lt (xs:=es) (k:=j) (by omega);obtain ⟨b4,off4,he,hb4,_,_,e0,e1,e2,-⟩:=Exc.at_row (HR.out.mono HB2.out) hp;obtain ⟨rfl,rfl⟩:b=b4∧off=off4:=by simpa using he
      have hpl:j < es.length:=lt_get hp;have HP:=zh (last_take hp);clear hp he;cases q8:(Op.bytesLess x.name.toList p.name.toList || x.name.toList == p.name.toList);case true =>
       go_quiet (((go_at_call 158;exact Calls.quiet_of (increases_i _ _ _ ((list_mk m2 K2.out R2.out).mono bw)))))
       go_wp2;go_ret;exact ⟨ret_i (by simp only [excErr,after,HP.out,slt_le,q8,q1,HF.out,q3,q4,q5];rfl),HB2.out.drewN _⟩
      go_quiet (((go_at_call 158;exact Calls.quiet_of (increases_i _ _ _ ((list_mk m2 K2.out R2.out).mono bw)))))
      go_wp2;go_ret;exact ⟨ret_i (by simp only [excErr,after,HP.out,slt_le,q8,q1,HF.out,q3,q4,q5];rfl),HB2.out.drewN _⟩
    go_quiet (((go_at_call 158;exact Calls.quiet_of (increases_i _ _ _ ((list_mk m2 K2.out R2.out).mono bw)))))
    go_wp2;go_ret;refine ⟨ret_i ?_,HB2.out.drewN _⟩;simp only [excErr,q1,HF.out,q3,q4,q5];cases after Exc.name (es.take i) x.name <;> rfl
   go_wp2;go_ret;exact ⟨ret_i (by simp [excErr,HF.out,q1,q3]),HB2.out⟩
  go_wp2;go_ret;exact ⟨ret_i (by simp [excErr,find_neg_f q2,q1]),HB1.out⟩
 go_wp2;go_ret;exact ⟨ret_i (by simp [excErr,q1]),HB1.out⟩

theorem cmpS_neg (a b:ByteArray):decide (cmpS a b < 0)=slt a b:=by
 unfold cmpS;cases slt a b <;> cases seq a b <;> rfl
theorem cmpPair_lt (a b:Pair):decide (0≤cmpPair a b)=!pairLt a b:=by
 have e:∀ s1 q1 s2 q2:Bool,decide (0≤orI [(if s1 then -1 else if q1 then 0 else 1),(if s2 then -1 else if q2 then 0 else 1)])=!(s1 || (q1 && s2)):=by decide
 exact e _ _ _ _
theorem ine (a b:Int):(a != b)=(decide (a < b) || decide (b < a)):=by rw [Bool.eq_iff_iff];simp;omega
theorem slt_seq (a b:ByteArray):(slt a b && seq a b)=false:=by
 cases h:slt a b
 ·rfl
 ·rw [seq_eq,Bool.true_and];exact decide_eq_false (slt_ne h)
theorem cmpClause_lt (a b:Clause):decide (0≤cmpClause a b)=!clauseLt a b:=by
 have e:∀ s q w1 w2 r1 r2 d1 d2:Bool,(s && q)=false→decide (0≤orI [(if s then -1 else if q then 0 else 1),(if w1 then -1 else if w2 then 1 else 0),(if r1 then -1 else if r2 then 1 else 0),(if d1 then -1 else if d2 then 1 else 0)]) =
  !(if !q then s else if (w1 || w2) then w1 else if (r1 || r2) then r1 else d1):=by decide
 unfold clauseLt cmpClause;rw [ine,ine];exact e _ _ _ _ _ _ _ _ (slt_seq _ _)
theorem checkPair_p (w:World) (x0:Value) (bm:Nat) (ls:List License) (ps:List Pair) (i:Nat) (x:Pair) (hm:NameMap w bm (ls.map License.name)) (h:Is w x0 ps) (hx:ps[i]?=some x) :
  Calls Tryz.prog 111 #[x0,.int .i64 i,.map (some bm)] w fun e w'=>e=.returned (.int .i64 (pairErr ls (ps.take i) x))∧Below w.heap.size w w':=by
 obtain ⟨a,c,rfl,hnc,hc,hr⟩:=list_inv h;simp only [maxLen] at hc;clear h;have hlt:i < ps.length:=lt_get hx;obtain ⟨b,off,rfl,hb,c0,c1,s0,s1⟩:=Pair.at_row hr hx;have HR:=zh hr;have HM:=zh hm;clear hx hr hm;go_enter Tryz.func111,Tryz.ntmps111;go_wp2;have g0:((w.alloc (.cells #[.string x.a,.string x.b] 151)).alloc (.cells #[.string x.a,.string x.b] 9)).cell? ⟨w.heap.size,0,none⟩=some (.string x.a):=by simp
 have g1:((w.alloc (.cells #[.string x.a,.string x.b] 151)).alloc (.cells #[.string x.a,.string x.b] 9)).cell? ⟨w.heap.size,1,none⟩=some (.string x.b):=by simp
 have u0:((w.alloc (.cells #[.string x.a,.string x.b] 151)).alloc (.cells #[.string x.a,.string x.b] 9)).cell? ⟨w.heap.size+1,0,none⟩=some (.string x.a):=by simp
 have u1:((w.alloc (.cells #[.string x.a,.string x.b] 151)).alloc (.cells #[.string x.a,.string x.b] 9)).cell? ⟨w.heap.size+1,1,none⟩=some (.string x.b):=by simp
 have hbw:Below w.heap.size w ((w.alloc (.cells #[.string x.a,.string x.b] 151)).alloc (.cells #[.string x.a,.string x.b] 9)):=bw;clear c0 c1;generalize (w.alloc (.cells #[.string x.a,.string x.b] 151)).alloc (.cells #[.string x.a,.string x.b] 9)=w1 at *;have HB:=zh hbw;have l0:=run_lookup_names (P:=Tryz.prog) (T:=157) Tryz.underlying9 Tryz.underlying157 zero_int (HM.out.mono HB.out) x.a;have l1:=run_lookup_names (P:=Tryz.prog) (T:=157) Tryz.underlying9 Tryz.underlying157 zero_int (HM.out.mono HB.out) x.b;clear hbw;cases q0:(idxN x.a (ls.map License.name)).isSome;case false =>
  refine wp_loop_rounds 1 ?_;rw [rounds_succ];go_wp2;go_ret;exact ⟨ret_i (by simp [pairErr,find_neg_f q0]),HB.out⟩
 cases q1:(idxN x.b (ls.map License.name)).isSome;case false =>
  refine wp_loop_rounds 2 ?_;rw [rounds_succ];go_wp2;rw [rounds_succ];go_wp2;go_ret;exact ⟨ret_i (by simp [pairErr,find_neg_f q1]),HB.out⟩
 have F0:=zh (find_neg_t q0);have F1:=zh (find_neg_t q1);refine wp_loop_rounds 3 ?_;rw [rounds_succ];go_wp2;rw [rounds_succ];go_wp2;rw [rounds_succ];go_wp2;clear l0 l1;cases q11:Op.bytesLess x.a.toList x.b.toList;case true =>
  cases i with
  | zero =>
   go_quiet (fail)
   go_wp2;go_ret;exact ⟨ret_i (by simp [pairErr,slt,behind,F0.out,F1.out,q11]),HB.out.drewN _⟩
  | succ j =>
   obtain ⟨p,hp⟩:=get_lt (xs:=ps) (k:=j) (by omega);obtain ⟨b4,off4,he,hb4,v0,v1,t0,t1⟩:=Pair.at_row (HR.out.mono HB.out) hp;obtain ⟨rfl,rfl⟩:b=b4∧off=off4:=by simpa using he
   have hpl:j < ps.length:=lt_get hp;have HP:=zh (last_take hp);clear hp he;have hwj:IntKind.i64.wrap (j:Int)=j:=IntWalk.i64_in _ (by omega);refine still_tail 15 (by kernel_rfl) (by kernel_rfl) ?_;simp only [zt];repeat still_step
   refine wpStill_nil ?_;clear hwj;go_wp2_with fail
   refine (comparePairs_p _ _ _ p x (Pair.mk' ⟨t0,t1⟩) (Pair.mk' ⟨s0,s1⟩)).mono ?_;rintro e w3 ⟨rfl,hb3⟩;have HB3:=zh (HB.out.drew.trans (hb3.mono HB.out.size));have qc:=cmpPair_lt p x;cases r1:pairLt p x;case false =>
    rw [r1] at qc;go_wp2;go_ret;exact ⟨ret_i (by simp [pairErr,slt,behind,HP.out,r1,F0.out,F1.out,q11]),HB3.out⟩
   rw [r1] at qc;go_wp2;go_ret;exact ⟨ret_i (by simp [pairErr,slt,behind,HP.out,r1,F0.out,F1.out,q11]),HB3.out⟩
 go_quiet (fail)
 go_wp2;go_ret;exact ⟨ret_i (by simp [pairErr,slt,F0.out,F1.out,q11]),HB.out.drewN _⟩
end Go.Proofs.YtcbopdbbcgdkcaaGreatDoor
