/- Lemmas. -/
import Derived.Test.YtcbopdbbcgdkcaaGreatDoorProg
import Derived.Deep.LoopGhost
import Derived.Test.YtcbopdbbcgdkcaaGreatDoorLExpG
set_option linter.all false
set_option maxRecDepth 100000
set_option maxHeartbeats 16000000
namespace Go.Proofs.YtcbopdbbcgdkcaaGreatDoor
open Go Go.RowKit Go.ChangeShapes
def PredL {α:Type} [Lay α] (P:Program) (g:Nat) (lb:Array Value) (p:α→Bool) (w:World) (xs:List α):Prop :=
 ∀ (i:Nat) (x:α),xs[i]?=some x→∀ (W:World) (v:Value),Below w.heap.size w W→Is W v x→Calls P g (#[v]++lb) W fun e w'=>e=.returned (.bool (p x))∧Below W.heap.size W w'
def idxP {α:Type} (p:α→Bool) (xs:List α):Int :=
 match xs.findIdx? p with
 | none => -1
 | some k=>(k:Int)
theorem idxP_hit {α:Type} {p:α→Bool} {xs:List α} {k:Nat} {x:α} (hx:xs[k]?=some x) (hq:p x=true) (h:(xs.take k).any p=false):idxP p xs=k:=by
 have e:xs.findIdx? p=some k:=by
  obtain ⟨hk,rfl⟩:=List.getElem?_eq_some_iff.1 hx;rw [List.findIdx?_eq_some_iff_getElem];refine ⟨hk,hq,fun j hj=>?_⟩;have h1:=List.any_eq_false.1 h xs[j] (by rw [List.mem_take_iff_getElem];exact ⟨j,by omega,rfl⟩);simpa using h1
 unfold idxP;rw [e]
theorem idxP_miss {α:Type} {p:α→Bool} {xs:List α} (h:xs.any p=false):idxP p xs = -1:=by
 have e:xs.findIdx? p=none:=by
  rw [List.findIdx?_eq_none_iff];intro x hx;simpa using List.any_eq_false.1 h x hx
 unfold idxP;rw [e]
theorem idxP_any {α:Type} (p:α→Bool) (xs:List α):decide ((0:Int)≤idxP p xs)=xs.any p:=by
 unfold idxP;cases h:xs.findIdx? p with
 | none =>
  rw [List.findIdx?_eq_none_iff] at h;rw [show xs.any p=false from List.any_eq_false.2 fun x hx=>by simp [h x hx]];rfl
 | some k =>
  rw [List.findIdx?_eq_some_iff_getElem] at h;obtain ⟨hk,hq,-⟩:=h;rw [show xs.any p=true from List.any_eq_true.2 ⟨xs[k],by simp,hq⟩];simp
theorem any_snoc {α:Type} (p:α→Bool) {xs:List α} {k:Nat} {x:α} (hx:xs[k]?=some x):(xs.take (k+1)).any p=((xs.take k).any p || p x):=by
 rw [take_at hx,List.any_append];simp
theorem zqidxf0 {p:Prop} (h:p:=by
 have HQ:=zh q;rw [q] at hcall;clear q;go_wp2_with fail
 refine hcall.mono ?_;rintro e w2 ⟨rfl,hb2⟩;have HB3:=zh (HBR.out.trans (hb2.mono hwr));clear hb2 hcall;go_wp2;go_roundw
 case rel =>
  refine ⟨k+1,by omega,by go_num,HB3,?_⟩;show _=_;rw [any_snoc p HX.out,HK.out,HQ.out];rfl
 case measure=>exact zm):p:=h
theorem zqidxf1 {p:Prop} (h:p:=by
 have hkz:¬ (k:Int) < (N:Int):=by omega
 obtain rfl:k=N:=by omega
 have HM:Hid (xs.any p=false):=by
  have:=HK.out;rw [List.take_of_length_le (by rw [HN.out];exact Nat.le_refl _)] at this;exact this
 go_wp2;go_ret;exact ⟨ret_i (idxP_miss HM.out).symm,HBR.out⟩):p:=h
theorem zqidxf2 {p:Prop} (h:p:=by
 have HQ:=zh q;rw [q] at hcall;clear q;go_wp2_with fail
 refine hcall.mono ?_;rintro e w2 ⟨rfl,hb2⟩;have HB3:=zh (HBR.out.trans (hb2.mono hwr));clear hb2 hcall;go_wp2;go_ret;exact ⟨ret_i (idxP_hit HX.out HQ.out HK.out).symm,HB3.out⟩):p:=h
theorem IndexFuncAlt (w:World) (v:Value) (xs:List (List Term)) (p:List Term→Bool) (g:Nat) (lb:Array Value) (eg:∀ args w,(callFunc g args).run Tryz.prog w=.ok (.enter g args) w) (hv:Is w v xs) (hp:PredL Tryz.prog g lb p w xs) :
  Calls Tryz.prog 74 #[v,.func (.func g) #[] lb] w fun e w'=>e=.returned (.int .i64 (idxP p xs))∧Below w.heap.size w w':=by
 obtain ⟨a,c,rfl,hnc,hcm,hr⟩:=list_inv hv;simp only [maxLen] at hcm;have HR:=zh hr;have HP:=zh hp;clear hr hv hp;generalize hN:xs.length=N at *;have HN:=zh hN;clear hN;go_enter Tryz.func74,Tryz.ntmps74;go_wp2;go_loopw [4,5,8] (fun _ _ kv wr=>∃ k:Nat,k≤N∧kv=.int .i64 k∧Hid (Below w.heap.size w wr)∧Hid ((xs.take k).any p=false)) (fun _ _ kv _=>N - (intOf kv).toNat)
 case atStart=>exact ⟨0,by omega,rfl,Below.refl _ _,rfl⟩
 case round =>
  obtain ⟨k,hk,rfl,HBR,HK⟩:=hrel;have hwr:w.heap.size≤wr.heap.size:=HBR.out.size;by_cases hki:k < N
  ·have hkz:(k:Int) < (N:Int):=by omega
   obtain ⟨x,hx⟩:=get_lt (xs:=xs) (k:=k) (by rw [HN.out];exact hki);obtain ⟨b,off,rfl,hb,a3,c3,y0',hl3,hc3,hr3⟩:=list_at HR.out hx;have y0:=kept HBR.out y0';have hbs:b < wr.heap.size:=cell_lt y0;have HX:=zh hx;have hcall:=HP.out k x hx wr _ HBR.out (list_mk hl3 hc3 (hr3.mono HBR.out));clear y0' hx;cases q:p x;case true =>exact zqidxf2
   case false =>exact zqidxf0
  ·exact zqidxf1
theorem zridxf0 {p:Prop} (h:p:=by
 go_wp2_with fail
 refine h1.mono ?_;rintro e w2 ⟨rfl,hb2⟩;go_wp2;go_ret;exact ⟨ret_b h2.out,hb2⟩):p:=h
theorem ContainsFuncAlt (w:World) (v:Value) (xs:List (List Term)) (p:List Term→Bool) (g:Nat) (lb:Array Value) (eg:∀ args w,(callFunc g args).run Tryz.prog w=.ok (.enter g args) w) (hv:Is w v xs) (hp:PredL Tryz.prog g lb p w xs) :
  Calls Tryz.prog 64 #[v,.func (.func g) #[] lb] w fun e w'=>e=.returned (.bool (xs.any p))∧Below w.heap.size w w':=by
 have h1:=IndexFuncAlt w v xs p g lb eg hv hp;have h2:=zh (idxP_any p xs);generalize idxP p xs=r at h1 h2;generalize xs.any p=bb at h2 ⊢;clear hv hp;go_enter Tryz.func64,Tryz.ntmps64;exact zridxf0
theorem IndexFuncTerm (w:World) (v:Value) (xs:List (Term)) (p:Term→Bool) (g:Nat) (lb:Array Value) (eg:∀ args w,(callFunc g args).run Tryz.prog w=.ok (.enter g args) w) (hv:Is w v xs) (hp:PredL Tryz.prog g lb p w xs) :
  Calls Tryz.prog 189 #[v,.func (.func g) #[] lb] w fun e w'=>e=.returned (.int .i64 (idxP p xs))∧Below w.heap.size w w':=by
 obtain ⟨a,c,rfl,hnc,hcm,hr⟩:=list_inv hv;simp only [maxLen] at hcm;have HR:=zh hr;have HP:=zh hp;clear hr hv hp;generalize hN:xs.length=N at *;have HN:=zh hN;clear hN;go_enter Tryz.func189,Tryz.ntmps189;go_wp2;go_loopw [4,5,8] (fun _ _ kv wr=>∃ k:Nat,k≤N∧kv=.int .i64 k∧Hid (Below w.heap.size w wr)∧Hid ((xs.take k).any p=false)) (fun _ _ kv _=>N - (intOf kv).toNat)
 case atStart=>exact ⟨0,by omega,rfl,Below.refl _ _,rfl⟩
 case round =>
  obtain ⟨k,hk,rfl,HBR,HK⟩:=hrel;have hwr:w.heap.size≤wr.heap.size:=HBR.out.size;by_cases hki:k < N
  ·have hkz:(k:Int) < (N:Int):=by omega
   obtain ⟨x,hx⟩:=get_lt (xs:=xs) (k:=k) (by rw [HN.out];exact hki);obtain ⟨b,off,rfl,hb,y0',y1',s0,s1⟩:=Term.at_row HR.out hx;have y0:=kept HBR.out y0';have y1:=kept HBR.out y1';have hbs:b < wr.heap.size:=cell_lt y0;have HX:=zh hx;have hcall:=HP.out k x hx wr _ HBR.out (Term.mk' ⟨s0,s1⟩);clear y0' y1' hx;cases q:p x;case true =>exact zqidxf2
   case false =>exact zqidxf0
  ·exact zqidxf1
theorem ContainsFuncTerm (w:World) (v:Value) (xs:List (Term)) (p:Term→Bool) (g:Nat) (lb:Array Value) (eg:∀ args w,(callFunc g args).run Tryz.prog w=.ok (.enter g args) w) (hv:Is w v xs) (hp:PredL Tryz.prog g lb p w xs) :
  Calls Tryz.prog 137 #[v,.func (.func g) #[] lb] w fun e w'=>e=.returned (.bool (xs.any p))∧Below w.heap.size w w':=by
 have h1:=IndexFuncTerm w v xs p g lb eg hv hp;have h2:=zh (idxP_any p xs);generalize idxP p xs=r at h1 h2;generalize xs.any p=bb at h2 ⊢;clear hv hp;go_enter Tryz.func137,Tryz.ntmps137;exact zridxf0
theorem IndexFuncStr (w:World) (v:Value) (xs:List (ByteArray)) (p:ByteArray→Bool) (g:Nat) (lb:Array Value) (eg:∀ args w,(callFunc g args).run Tryz.prog w=.ok (.enter g args) w) (hv:Is w v xs) (hp:PredL Tryz.prog g lb p w xs) :
  Calls Tryz.prog 194 #[v,.func (.func g) #[] lb] w fun e w'=>e=.returned (.int .i64 (idxP p xs))∧Below w.heap.size w w':=by
 obtain ⟨a,c,rfl,hnc,hcm,hr⟩:=list_inv hv;simp only [maxLen] at hcm;have HR:=zh hr;have HP:=zh hp;clear hr hv hp;generalize hN:xs.length=N at *;have HN:=zh hN;clear hN;go_enter Tryz.func194,Tryz.ntmps194;go_wp2;go_loopw [4,5,8] (fun _ _ kv wr=>∃ k:Nat,k≤N∧kv=.int .i64 k∧Hid (Below w.heap.size w wr)∧Hid ((xs.take k).any p=false)) (fun _ _ kv _=>N - (intOf kv).toNat)
 case atStart=>exact ⟨0,by omega,rfl,Below.refl _ _,rfl⟩
 case round =>
  obtain ⟨k,hk,rfl,HBR,HK⟩:=hrel;have hwr:w.heap.size≤wr.heap.size:=HBR.out.size;by_cases hki:k < N
  ·have hkz:(k:Int) < (N:Int):=by omega
   obtain ⟨x,hx⟩:=get_lt (xs:=xs) (k:=k) (by rw [HN.out];exact hki);obtain ⟨b,off,rfl,hb,y0',s0⟩:=str_at HR.out hx;have y0:=kept HBR.out y0';have hbs:b < wr.heap.size:=cell_lt y0;have HX:=zh hx;have hcall:=HP.out k x hx wr _ HBR.out (str_mk _ s0);clear y0' hx;cases q:p x;case true =>exact zqidxf2
   case false =>exact zqidxf0
  ·exact zqidxf1
theorem ContainsFuncStr (w:World) (v:Value) (xs:List (ByteArray)) (p:ByteArray→Bool) (g:Nat) (lb:Array Value) (eg:∀ args w,(callFunc g args).run Tryz.prog w=.ok (.enter g args) w) (hv:Is w v xs) (hp:PredL Tryz.prog g lb p w xs) :
  Calls Tryz.prog 161 #[v,.func (.func g) #[] lb] w fun e w'=>e=.returned (.bool (xs.any p))∧Below w.heap.size w w':=by
 have h1:=IndexFuncStr w v xs p g lb eg hv hp;have h2:=zh (idxP_any p xs);generalize idxP p xs=r at h1 h2;generalize xs.any p=bb at h2 ⊢;clear hv hp;go_enter Tryz.func161,Tryz.ntmps161;exact zridxf0
end Go.Proofs.YtcbopdbbcgdkcaaGreatDoor
