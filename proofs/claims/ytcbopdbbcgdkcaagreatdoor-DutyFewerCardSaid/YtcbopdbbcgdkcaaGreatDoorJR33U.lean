/- Plain laws of alternatives: what the reference computes is what the program computes. -/
import Derived.Deep.RegionHeld3
import Derived.Laws.StructEq
import Derived.Test.YtcbopdbbcgdkcaaGreatDoorJAltG
import Derived.Test.YtcbopdbbcgdkcaaGreatDoorJExpG
import Derived.Test.YtcbopdbbcgdkcaaGreatDoorJRefV
import Derived.Test.YtcbopdbbcgdkcaaGreatDoorJLexU
set_option linter.all false
namespace Go.Proofs.YtcbopdbbcgdkcaaGreatDoor
open Go

end Go.Proofs.YtcbopdbbcgdkcaaGreatDoor
namespace Go.Proofs.YtcbopdbbcgdkcaaGreatDoor
open Go Go.RowKit Go.ChangeShapes Go.Lib

theorem tkS:(∀ (α:Type) (l:List α) (i:Nat) (h:i < l.toArray.size),l.toArray[i]=l[i]'(by simpa using h))∧(∀ (α:Type) (a:α) (l:List α) (h:0 < (a :: l).length),(a :: l)[0]=a) ∧
  (∀ (α:Type) (a:α) (l:List α) (i:Nat) (h:i+1 < (a :: l).length),(a :: l)[i+1]=l[i]'(by simpa using h))∧(∀ (α:Type) (l:List α) (i:Nat) (a:α),l.toArray.setIfInBounds i a=(l.set i a).toArray) ∧
  (∀ (α:Type) (a b:α) (l:List α),(a :: l).set 0 b=b :: l)∧(∀ (α:Type) (a b:α) (l:List α) (i:Nat),(a :: l).set (i+1) b=a :: l.set i b) :=
 ⟨fun _ _ _ _=>List.getElem_toArray _,fun _ _ _ _=>rfl,fun _ _ _ _ _=>rfl,fun _ _ _ _=>List.setIfInBounds_toArray ..,fun _ _ _ _=>rfl,fun _ _ _ _ _=>rfl⟩
theorem neqT (x y:Term) (w:World):(Go.binOp BinOp.neq 61 (.agg #[.string x.license,.string x.exception]) (.agg #[.string y.license,.string y.exception])).run Tryz.prog w=.ok (.bool (!decide (x=y))) w:=by
 have u3:=Tryz.underlying9
 have a3:=Tryz.isAgg9
 have z3:=Tryz.sizeOf9
 have hS:Tryz.prog.underlying 61=some (.struct (Tryz.prog.fieldsOf 61)):=by kernel_rfl
 have hp:Tryz.prog.stoodInHeld 61=false:=by kernel_rfl
 rw [run_neq_struct,show (10000:Nat)=9999+1 from rfl,run_equalIn_agg w 9999 61 _ _ hS hp]
 simp only [Program.fieldsOf,Tryz.underlying61]
 go_simp
 have e:decide (x=y)=((x.license.toList == y.license.toList) && (x.exception.toList == y.exception.toList)):=by
  rw [ba_eq,ba_eq,Bool.eq_iff_iff]
  cases x;cases y
  simp
 rw [e]
 by_cases h1:x.license.toList=y.license.toList <;> by_cases h2:x.exception.toList=y.exception.toList <;> simp [h1,h2]
set_option maxRecDepth 100000 in
set_option maxHeartbeats 4000000 in
theorem SameTerms_ref (w:World) (x0 x1:Value) (xs ys:List Term) (h:Is w x0 xs) (h1:Is w x1 ys) :
  Calls Tryz.prog 58 #[x0,x1] w fun e w'=>e=.returned (.bool (decide (xs=ys)))∧Below w.heap.size w w':=by
 obtain ⟨a,c,rfl,hnc,hc,hr⟩:=list_inv h
 obtain ⟨a1,c1,rfl,hnc1,hc1,hr1⟩:=list_inv h1
 unfold maxLen at hc hc1
 clear h h1
 have HF:Hid (¬ xs.length=ys.length→decide (xs=ys)=false):=fun h=>by rw [decide_eq_false];rintro rfl;exact h rfl
 have HR:=Lib.hid hr
 have HR1:=Lib.hid hr1
 clear hr hr1
 generalize hM:xs.length=M at *
 generalize hM1:ys.length=M1 at *
 have HM:=Lib.hid hM
 have HM1:=Lib.hid hM1
 clear hM hM1
 by_cases hne:M=M1
 case neg =>
  have q0:((M:Int) != (M1:Int))=true:=by simp;omega
  have HG:=Lib.hid (HF.out hne)
  clear hne HF
  go_enter Tryz.func58,Tryz.ntmps58
  go_wp2
  go_ret
  exact ⟨ret_b HG.out.symm,Below.refl _ _⟩
 have q0:((M:Int) != (M1:Int))=false:=by simp;omega
 have HNE:=Lib.hid hne
 clear hne HF
 go_enter Tryz.func58,Tryz.ntmps58
 go_wp2
 go_loopw [5] (fun i wr=>∃ k:Nat,k≤M∧i=.int .i64 k∧Hid (decide (xs=ys)=decide (xs.drop k=ys.drop k))∧Hid (Below w.heap.size w wr)) (fun i _=>M - (intOf i).toNat)
 case atStart=>exact ⟨0,by omega,rfl,rfl,Lib.hid (Below.refl _ _)⟩
 case round =>
  obtain ⟨k,hk,rfl,hf,hbr⟩:=hrel
  by_cases hki:k < M
  ·obtain ⟨x,hx⟩:=get_lt (xs:=xs) (k:=k) (by rw [HM.out];exact hki)
   obtain ⟨y,hy⟩:=get_lt (xs:=ys) (k:=k) (by rw [HM1.out,← HNE.out];exact hki)
   obtain ⟨b,off,rfl,hb,x0',x1',-⟩:=Term.at_row HR.out hx
   obtain ⟨b',off',rfl,hb',y0',y1',-⟩:=Term.at_row HR1.out hy
   have x0:=kept hbr.out x0'
   have x1:=kept hbr.out x1'
   have y0:=kept hbr.out y0'
   have y1:=kept hbr.out y1'
   have hd:=Lib.hid (dec_cons (drop_at hx) (drop_at hy) _ hf.out)
   have hkz:(k:Int) < (M:Int):=by omega
   have hkz1:(k:Int) < (M1:Int):=by have:=HNE.out;omega
   have hk0:(0:Int)≤(k:Int):=by omega
   have hq:=fun W=>neqT x y W
   clear hx hy x0' x1' y0' y1' hf q0
   cases e9:decide (x=y)
   case false =>
    rw [e9] at hq
    have HF:Hid (decide (xs=ys)=false):=by show _=_;rw [hd.out,e9];rfl
    clear hd e9
    go_wp2
    go_quiet (fail)
    go_wp2
    go_ret
    exact ⟨ret_b HF.out.symm,hbr.out.drewN _⟩
   case true =>
    rw [e9] at hq
    have HT:Hid (decide (xs=ys)=decide (xs.drop (k+1)=ys.drop (k+1))):=by show _=_;rw [hd.out,e9,Bool.true_and]
    clear hd e9
    go_wp2
    go_quiet (fail)
    go_wp2
    go_roundw
    case rel=>exact ⟨k+1,by omega,by go_num,HT,Lib.hid (hbr.out.drewN _)⟩
    case measure=>simp [intOf];omega
  ·have P:Hid (decide (xs=ys)=true):=by
    show _=_
    rw [hf.out,List.drop_eq_nil_of_le (by rw [HM.out];omega),List.drop_eq_nil_of_le (by rw [HM1.out,← HNE.out];omega)];simp
   have hkz:¬ (k:Int) < (M:Int):=by omega
   go_wp2
   go_ret
   exact ⟨ret_b P.out.symm,hbr.out⟩
end Go.Proofs.YtcbopdbbcgdkcaaGreatDoor
namespace Go.Proofs.YtcbopdbbcgdkcaaGreatDoor
open Go Go.RowKit Go.ChangeShapes Go.Lib

theorem wp_region_quietC {P:Program} {id:Nat} {Q:Exit→Act→World→Prop} {a:Act} {w:World} {l:List Oper} {C:World→Prop} (hm:P.follows .mixedOrders=true) (hB:Region.lexB .any l.toArray=true) (hC:C { w with drawn:=w.drawn+1 })
  (h:wpQuiet P l.toArray C (fun a'=>∀ w',C w'→Q .normal a' w') l a):(Code.region id l.toArray true).wp P Q a w :=
 wp_region_quiet (C:=C) hm hB hC (by simpa using h)
theorem quiet_no {P:Program} {ops:Array Oper} {C:World→Prop} {Q:Act→Prop} {a:Act} {o:Oper} {rest:List Oper} (hw:Region.wanted o (yielded ops a.tmps)=false) (h:wpQuiet P ops C Q rest (a.put o.dst undef)):wpQuiet P ops C Q (o :: rest) a:=by
 unfold wpQuiet;rw [hw];exact h
theorem quiet_yes {P:Program} {ops:Array Oper} {C:World→Prop} {Q:Act→Prop} {a:Act} {o:Oper} {rest:List Oper} {v:Value} (hw:Region.wanted o (yielded ops a.tmps)=true) (h1:∀ w,C w→o.quietAt P a C w v) (h:wpQuiet P ops C Q rest (a.put o.dst v)):wpQuiet P ops C Q (o :: rest) a:=by
 unfold wpQuiet;rw [hw,if_pos rfl];exact ⟨v,h1,h⟩
theorem box2 (w:World) (p q:Array Value) (t s:TypeId):Below w.heap.size w ((w.alloc (.cells p t)).alloc (.cells q s))∧(∀ (j:Nat) (v:Value),p[j]?=some v→((w.alloc (.cells p t)).alloc (.cells q s)).cell? ⟨w.heap.size,j,none⟩=some v) ∧
  ∀ (j:Nat) (v:Value),q[j]?=some v→((w.alloc (.cells p t)).alloc (.cells q s)).cell? ⟨w.heap.size+1,j,none⟩=some v:=by
 have h1:=World.alloc_heap_new w (.cells p t)
 have h2:=World.alloc_heap_new (w.alloc (.cells p t)) (.cells q s)
 have hb:Below (w.alloc (.cells p t)).heap.size (w.alloc (.cells p t)) ((w.alloc (.cells p t)).alloc (.cells q s)):=(Below.refl _ _).alloc (Nat.le_refl _) _
 rw [World.size_alloc] at h2
 exact ⟨((Below.refl _ _).alloc (Nat.le_refl _) _).trans (hb.mono (by simp)),fun j v h=>kept hb (objcell2 h1 h),fun j v h=>objcell2 h2 h⟩
end Go.Proofs.YtcbopdbbcgdkcaaGreatDoor
