/- Lemmas. -/
import Derived.ProofKit
import Derived.OpenShut
import Derived.Test.YtcbopdbbcgdkcaaGreatDoorTie
import Derived.Test.YtcbopdbbcgdkcaaGreatDoorCards
import Derived.Lay
import Derived.ShutString
import Derived.Lib.LaidU8
import Derived.Test.YtcbopdbbcgdkcaaGreatDoorLExpG
import Derived.Test.YtcbopdbbcgdkcaaGreatDoorLProV
set_option linter.all false
set_option maxRecDepth 100000
set_option maxHeartbeats 16000000
namespace Go.Proofs.YtcbopdbbcgdkcaaGreatDoor
open Go Go.RowKit Go.ChangeShapes
def Opens (α:Type) [Lay α] (t:TypeId):Prop :=
 ∀ {H:Type} {enc:TypeId×Value→H} {w:World} {spare:Nat→Bool} {held:Bool} {fuel:Nat} {cs:List Value} {x:DataW H×List MemPlace},
  DataW.trod enc Tryz.prog w 0 spare held fuel t cs=some x→cs.length=Lay.n α∧∃ a:α,Lay.is w (fun j=>cs[j]?) a
theorem opens_str {t:TypeId} (ht:Tryz.prog.underlying t=some .string):Opens ByteArray t:=by
 intro H enc w spare held fuel cs x h;obtain ⟨s,rfl,-,hs⟩:=DataW.trod_string ht h;exact ⟨rfl,s,rfl,hs⟩
theorem opens_int {t:TypeId} (ht:Tryz.prog.underlying t=some (.int .i64)):Opens Int t:=by
 intro H enc w spare held fuel cs x h;obtain ⟨n,rfl,-,hw⟩:=DataW.trod_int ht h;refine ⟨rfl,n,rfl,?_⟩;show -9223372036854775808≤n∧n≤9223372036854775807;simpa [Lit.wf,IntKind.min,IntKind.max,IntKind.signed,IntKind.bits] using hw
theorem choose_list {α:Type} {n:Nat} {P:Nat→α→Prop} (h:∀ i,i < n→∃ a,P i a):∃ l:List α,l.length=n∧∀ i a,l[i]?=some a→P i a:=by
 induction n with
 | zero=>exact ⟨[],rfl,fun i a h=>by simp at h⟩
 | succ n ih =>
  obtain ⟨l,hl,hp⟩:=ih fun i hi=>h i (by omega);obtain ⟨a,ha⟩:=h n (by omega);refine ⟨l++[a],by simp [hl],fun i b hb=>?_⟩;by_cases hi:i < l.length
  ·rw [List.getElem?_append_left hi] at hb;exact hp i b hb
  ·rw [List.getElem?_append_right (by omega)] at hb;have h0:i - l.length=0:=by
    rcases Nat.eq_zero_or_pos (i - l.length) with h0 | h0
    ·exact h0
    ·rw [List.getElem?_eq_none (by simp;omega)] at hb;cases hb
   rw [h0] at hb;simp at hb;subst hb;rw [show i=n by omega];exact ha
theorem cells_get {w:World} {a:Addr} {n:Nat} {cs:List Value} (h:w.cells? 0 a n=some cs):cs.length=n∧∀ j,j < n→w.cell? (a.add j)=cs[j]?:=by
 unfold World.cells? at h;rw [if_pos (Nat.zero_le _)] at h;exact ⟨by simpa using mapM_some_length h,fun j hj=>mapM_some_get h j j (by simp [hj])⟩
theorem cell_spot {w:World} {a:Addr} {v:Value} (h:w.cell? a=some v):a.spot=none:=by
 unfold World.cell? at h;split at h
 ·split at h
  ·cases h
  ·rename_i hs;simpa using hs
 ·cases h
theorem opens_list {α:Type} [Lay α] {t e:TypeId} (ht:Tryz.prog.underlying t=some (.slice e)) (he:Tryz.prog.cellsOf e=Lay.n α) (hn:0 < Lay.n α) (ho:Opens α e):Opens (List α) t:=by
 intro H enc w spare held fuel cs x h;rcases DataW.trod_slice ht h with ⟨rfl,-⟩ | ⟨a,len,cap,elems,rest,n,rfl,rfl,rfl,hb,hl,hc,hel,hi,-⟩
 ·exact ⟨rfl,[],none,0,rfl,Nat.le_refl _,by decide,fun i x h=>by simp at h⟩
 ·refine ⟨rfl,?_⟩
  obtain ⟨l,hll,hp⟩:=choose_list (n:=len) (P:=fun i (x:α)=>a.spot=none∧a.block < w.heap.size∧Lay.is w (fun j=>w.cell? ⟨a.block,a.off+i * Lay.n α+j,none⟩) x) (fun i hil=>by
   have h1:=hi i hil;rw [List.getElem?_eq_getElem (by omega),Option.bind_eq_some_iff] at h1;obtain ⟨ci,h2,h3⟩:=h1;obtain ⟨h4,y,h5⟩:=ho h3;obtain ⟨h6,h7⟩:=cells_get h2;rw [he] at h7 h6;have hs0:(a.add (i * Lay.n α)).spot=none∧(a.add (i * Lay.n α)).block < w.heap.size:=by
    have h8:=h7 0 hn;rw [List.getElem?_eq_getElem (by omega)] at h8;have e0:(a.add (i * Lay.n α)).add 0=a.add (i * Lay.n α):=rfl;rw [e0] at h8;exact ⟨cell_spot h8,cell_lt h8⟩
   have hsp:a.spot=none:=by
    rcases Nat.eq_zero_or_pos i with h0 | h0
    ·subst h0;have:=hs0.1;rw [Nat.zero_mul] at this;exact this
    ·have h8:=hi 0 (by omega);rw [List.getElem?_eq_getElem (by omega),Option.bind_eq_some_iff] at h8;obtain ⟨c0,h9,-⟩:=h8;obtain ⟨h10,h11⟩:=cells_get h9;have h12:=h11 0 (by omega);rw [List.getElem?_eq_getElem (by omega),Nat.zero_mul] at h12;exact cell_spot (a:=a) h12
   have hadd:∀ m,a.add m=⟨a.block,a.off+m,none⟩:=fun m=>by
    unfold Addr.add;split
    ·rename_i hm;subst hm;cases a;simp at hsp;subst hsp;rfl
    ·rfl
   have hblk:a.block < w.heap.size:=by have:=hs0.2;rw [hadd] at this;exact this
   refine ⟨y,hsp,hblk,Lay.congr (fun j hj=>?_) h5⟩;have h8:=h7 j hj;have e2:(a.add (i * Lay.n α)).add j=⟨a.block,a.off+i * Lay.n α+j,none⟩:=by
    rw [hadd (i * Lay.n α)];unfold Addr.add;split
    ·rename_i hm;subst hm;rfl
    ·rfl
   rw [e2] at h8;exact h8.symm)
  refine ⟨l,some a,cap,by rw [hll];rfl,by rw [hll];exact hl,hc,fun i x hx=>?_⟩;obtain ⟨h1,h2,h3⟩:=hp i x hx;refine ⟨a.block,a.off,?_,h2,h3⟩;cases a;simp at h1;subst h1;rfl
theorem opens_field {β:Type} [Lay β] {H:Type} {enc:TypeId×Value→H} {w:World} {spare:Nat→Bool} {held:Bool} {n:Nat} {cs:List Value} {xs:List (DataW H×List MemPlace)} {fs:Array Field} {f:Field} {i off ty:Nat}
  (hl:xs.length=fs.size) (hf:fs[i]?=some f) (ho:f.offset=off) (hty:f.type=ty) (h:∀ (i:Nat) (f:Field),fs[i]?=some f→DataW.trod enc Tryz.prog w 0 spare held n f.type ((cs.drop f.offset).take (Tryz.prog.cellsOf f.type))=xs[i]?)
  (hop:Opens β ty):∃ b:β,Lay.is w (fun j=>cs[off+j]?) b:=by
 have h1:=h i f hf;have hi:i < fs.size:=by
  rcases Nat.lt_or_ge i fs.size with h2 | h2
  ·exact h2
  ·rw [Array.getElem?_eq_none h2] at hf;cases hf
 rw [List.getElem?_eq_getElem (by omega),hty,ho] at h1;obtain ⟨h2,b,h3⟩:=hop h1;refine ⟨b,Lay.congr (fun j hj=>?_) h3⟩;have h4:j < ((cs.drop off).take (Tryz.prog.cellsOf ty)).length:=by omega
 rw [List.getElem?_take,if_pos (by rw [List.length_take] at h4;omega),List.getElem?_drop]
theorem opens_License:Opens License 106:=by
 intro H enc w spare held fuel cs x h;obtain ⟨xs,n,-,-,hl,hx,hf⟩:=DataW.trod_struct Tryz.underlying106 h;have hn:Tryz.prog.cellsOf 106=4:=by kernel_rfl
 obtain ⟨a,ha⟩:=opens_field (i:=0) (off:=0) hx rfl rfl rfl hf (opens_str Tryz.underlying9);obtain ⟨b,hb⟩:=opens_field (i:=1) (off:=1) hx rfl rfl rfl hf (opens_str Tryz.underlying9);obtain ⟨c,hc⟩:=opens_field (i:=2) (off:=2) hx rfl rfl rfl hf (opens_int Tryz.underlying3);obtain ⟨d,hd⟩:=opens_field (i:=3) (off:=3) hx rfl rfl rfl hf (opens_str Tryz.underlying9);refine ⟨hl.trans hn,⟨a,b,c,d⟩,?_,hb,hc,hd⟩;simpa using ha
theorem opens_Exc:Opens Exc 145:=by
 intro H enc w spare held fuel cs x h;obtain ⟨xs,n,-,-,hl,hx,hf⟩:=DataW.trod_struct Tryz.underlying145 h;have hn:Tryz.prog.cellsOf 145=3:=by kernel_rfl
 obtain ⟨a,ha⟩:=opens_field (i:=0) (off:=0) hx rfl rfl rfl hf (opens_str Tryz.underlying9);obtain ⟨b,hb⟩:=opens_field (i:=1) (off:=1) hx rfl rfl rfl hf (opens_str Tryz.underlying9);obtain ⟨c,hc⟩:=opens_field (i:=2) (off:=2) hx rfl rfl rfl hf (opens_list Tryz.underlying100 (by kernel_rfl) (by decide) (opens_int Tryz.underlying3));refine ⟨hl.trans hn,⟨a,b,c⟩,?_,hb,hc⟩;simpa using ha
theorem opens_Clause:Opens Clause 74:=by
 intro H enc w spare held fuel cs x h;obtain ⟨xs,n,-,-,hl,hx,hf⟩:=DataW.trod_struct Tryz.underlying74 h;have hn:Tryz.prog.cellsOf 74=5:=by kernel_rfl
 obtain ⟨a,ha⟩:=opens_field (i:=0) (off:=0) hx rfl rfl rfl hf (opens_str Tryz.underlying9);obtain ⟨b,hb⟩:=opens_field (i:=1) (off:=1) hx rfl rfl rfl hf (opens_int Tryz.underlying3);obtain ⟨c,hc⟩:=opens_field (i:=2) (off:=2) hx rfl rfl rfl hf (opens_int Tryz.underlying3);obtain ⟨d,hd⟩:=opens_field (i:=3) (off:=3) hx rfl rfl rfl hf (opens_int Tryz.underlying3);obtain ⟨e,he⟩:=opens_field (i:=4) (off:=4) hx rfl rfl rfl hf (opens_list Tryz.underlying36 (by kernel_rfl) (by decide) (opens_str Tryz.underlying9));refine ⟨hl.trans hn,⟨a,b,c,d,e⟩,?_,hb,hc,hd,he⟩;simpa using ha
theorem zrframeg0 {p:Prop} (h:p:=by
 obtain ⟨a,ha⟩:=opens_field (i:=0) (off:=0) hx rfl rfl rfl hf (opens_str Tryz.underlying9);obtain ⟨b,hb⟩:=opens_field (i:=1) (off:=1) hx rfl rfl rfl hf (opens_str Tryz.underlying9);refine ⟨hl.trans hn,⟨a,b⟩,?_,hb⟩;simpa using ha):p:=h
theorem opens_Pair:Opens Pair 151:=by
 intro H enc w spare held fuel cs x h;obtain ⟨xs,n,-,-,hl,hx,hf⟩:=DataW.trod_struct Tryz.underlying151 h;have hn:Tryz.prog.cellsOf 151=2:=by kernel_rfl
 exact zrframeg0
theorem opens_Term:Opens Term 61:=by
 intro H enc w spare held fuel cs x h;obtain ⟨xs,n,-,-,hl,hx,hf⟩:=DataW.trod_struct Tryz.underlying61 h;have hn:Tryz.prog.cellsOf 61=2:=by kernel_rfl
 exact zrframeg0
theorem opens_Catalog:Opens Catalog 27:=by
 intro H enc w spare held fuel cs x h;obtain ⟨xs,n,-,-,hl,hx,hf⟩:=DataW.trod_struct Tryz.underlying27 h;have hn:Tryz.prog.cellsOf 27=4:=by kernel_rfl
 obtain ⟨a,ha⟩:=opens_field (i:=0) (off:=0) hx rfl rfl rfl hf (opens_list Tryz.underlying22 (by kernel_rfl) (by decide) opens_License);obtain ⟨b,hb⟩:=opens_field (i:=1) (off:=1) hx rfl rfl rfl hf (opens_list Tryz.underlying23 (by kernel_rfl) (by decide) opens_Exc);obtain ⟨c,hc⟩:=opens_field (i:=2) (off:=2) hx rfl rfl rfl hf (opens_list Tryz.underlying24 (by kernel_rfl) (by decide) opens_Clause);obtain ⟨d,hd⟩:=opens_field (i:=3) (off:=3) hx rfl rfl rfl hf (opens_list Tryz.underlying25 (by kernel_rfl) (by decide) opens_Pair);refine ⟨hl.trans hn,⟨a,b,c,d⟩,?_,hb,hc,hd⟩;simpa using ha
theorem is_of_cells {α:Type} [Lay α] (ha:Lay.agg α=true) {w:World} {cs:Array Value} {x:α} (h1:cs.size=Lay.n α) (h:Lay.is w (fun j=>cs[j]?) x):Is w (.agg cs) x :=
 ⟨cs,h1,by rw [ha,if_pos rfl],h⟩
theorem open_arg {α:Type} [Lay α] {t:TypeId} {fs:Array Field} (ht:Tryz.prog.underlying t=some (.struct fs)) (ha:Lay.agg α=true) (ho:Opens α t)
  {H:Type} {enc:TypeId×Value→H} {w:World} {spare:Nat→Bool} {held:Bool} {v:Value} {d:DataW H} {ps:List MemPlace} {r:Reach} {base:Nat}
  (hv:Value.okWide Tryz.prog w r base t v) (h:DataW.Trod enc Tryz.prog w 0 spare held t v d ps):∃ x:α,Is w v x:=by
 have hs:=WideShapes.okWide_struct (P:=Tryz.prog) (w:=w) (r:=r) (base:=base) (t:=t) (v:=v) (fs:=fs) ht hv;obtain ⟨cs,hcs,-⟩:=hs;subst hcs;obtain ⟨fuel,h⟩:=h;have h0:DataW.trod enc Tryz.prog w 0 spare held fuel t cs.toList=some (d,ps):=h;clear h;obtain ⟨h1,x,h2⟩:=ho h0;have h4:cs.size=Lay.n α:=by rw [← h1,Array.length_toList]
 exact ⟨x,is_of_cells ha h4 (Lay.congr (fun j _=>Array.getElem?_toList) h2)⟩
open Go.WideShapes Go.ChangeAt
theorem own:ownKnob Tryz.prog.godebug=none:=by kernel_rfl
theorem laidOut:laidOutB Tryz.prog=true:=by kernel_rfl
theorem glob_of {W : World} {l : List (String × DataW Unit)} (h : laidMet Tryz.prog l W) (hm : ("internal/strconv.uint64pow10", Rows.laid_internal_strconv_uint64pow10) ∈ l) (hs : W.ShapedOpen Tryz.prog) : Glob W := by
 refine ⟨cell_of_shapedOpen_int (zero:=#[.int .i64 0]) (t:=3) hs (of_decide_eq_true (by kernel_rfl)) (by kernel_rfl) rfl (by kernel_rfl) (by kernel_rfl) Tryz.underlying3,?_⟩;obtain ⟨g',t',cs,fuel,p,hg',ht',hvar,hd⟩:=Lib.laidMet.reads h hm;have hg : Tryz.prog.globalNamed "internal/strconv.uint64pow10" = some 5 := by kernel_rfl
 have hty:(Tryz.prog.globals[5]?).map (·.type)=some 352:=by kernel_rfl
 obtain rfl:=Option.some.inj (hg.symm.trans hg');obtain rfl:=Option.some.inj (hty.symm.trans ht');unfold Lib.TabIs;rw [hvar,← Lib.cells_of_tab (k:=.u64) (zs:=Lib.pow10Tab) Tryz.underlying352 Tryz.underlying294 (by kernel_rfl) (by kernel_rfl) hd]
theorem opens_alt:Opens (List Term) 59:=opens_list Tryz.underlying59 (by kernel_rfl) (by decide) opens_Term
theorem opens_alts:Opens (List (List Term)) 41:=opens_list Tryz.underlying41 (by kernel_rfl) (by decide) opens_alt
end Go.Proofs.YtcbopdbbcgdkcaaGreatDoor
