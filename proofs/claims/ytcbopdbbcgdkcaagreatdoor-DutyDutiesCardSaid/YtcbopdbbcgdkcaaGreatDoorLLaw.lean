/- Lemmas. -/
import Derived.Test.YtcbopdbbcgdkcaaGreatDoorLIdxF
import Derived.Test.YtcbopdbbcgdkcaaGreatDoorLProY
set_option linter.all false
namespace Go.Proofs.YtcbopdbbcgdkcaaGreatDoor
open Go Go.Sort

theorem laterL_perm (c:Catalog) (x:License):(laterL c x).Perm (c.licenses.filter (laterIs x)):=sortS_perm _ _
theorem later_mem {c:Catalog} {x y:License}:y∈laterL c x↔y∈c.licenses∧y.family=x.family∧x.version≤y.version:=by
 rw [(laterL_perm c x).mem_iff,List.mem_filter];simp [laterIs,seq_eq]
theorem swoVer:SWO verLt:=⟨fun x=>by simp [verLt],fun x y z h1 h2=>by simp [verLt] at *;omega,fun x y z h1 h2=>by simp [verLt] at *;omega⟩
theorem later_incr {c:Catalog} (h:checkC c=0) (x:License):(laterL c x).Pairwise (fun a b=>a.version < b.version):=by
 have h1:(laterL c x).Pairwise (fun a b=>verLt b a=false):=sortS_sorted swoVer _;have h2:((laterL c x).map License.version).Nodup:=((laterL_perm c x).map _).nodup_iff.2 (later_versions h x);rw [List.nodup_iff_pairwise_ne,List.pairwise_map] at h2;refine (h1.and h2).imp ?_;rintro a b ⟨h3,h4⟩;simp only [verLt,decide_eq_false_iff_not] at h3;omega

theorem filter_min {α κ:Type} [DecidableEq κ] (key:α→κ) (lt:κ→κ→Prop) (k:κ):∀ (l:List α),l.Pairwise (fun a b=>¬ lt (key b) (key a))→(∀ x∈l,key x=k∨lt k (key x)) →
  l.filter (fun x=>decide (key x=k))++l.filter (fun x=>!decide (key x=k))=l
 | [],_,_=>rfl
 | x :: r,hs,hk=>by
  obtain ⟨h1,h2⟩:=List.pairwise_cons.1 hs;have ih:=filter_min key lt k r h2 fun y hy=>hk y (by simp [hy]);by_cases he:key x=k
  ·simp only [List.filter_cons,he,decide_true,if_true,Bool.not_true,Bool.false_eq_true,if_false,List.cons_append];rw [ih]
  ·have hlt:lt k (key x):=(hk x (by simp)).resolve_left he;have hn:∀ y∈r,key y≠k:=fun y hy e=>h1 y hy (by rw [e];exact hlt);have e1:r.filter (fun x=>decide (key x=k))=[]:=by
    rw [List.filter_eq_nil_iff];intro y hy;simpa using hn y hy
   have e2:r.filter (fun x=>!decide (key x=k))=r:=by
    rw [List.filter_eq_self];intro y hy;simpa using hn y hy
   simp only [List.filter_cons,he,decide_false,Bool.false_eq_true,if_false,Bool.not_false,if_true,e1,e2,List.nil_append]
theorem part_keys {α κ:Type} [DecidableEq κ] (key:α→κ) (lt:κ→κ→Prop) (hirr:∀ a,¬ lt a a):∀ (ks:List κ) (l:List α),ks.Pairwise lt→l.Pairwise (fun a b=>¬ lt (key b) (key a))→(∀ x∈l,key x∈ks) →
  ks.flatMap (fun k=>l.filter (fun x=>decide (key x=k)))=l
 | [],l,_,_,h=>by
  cases l with
  | nil=>rfl
  | cons x r=>have:=h x (by simp);simp at this
 | k :: ks,l,hk,hs,h=>by
  obtain ⟨h1,h2⟩:=List.pairwise_cons.1 hk;rw [List.flatMap_cons]
  have hm:=filter_min key lt k l hs fun x hx=>by
   rcases List.mem_cons.1 (h x hx) with e | e
   ·exact Or.inl e
   ·exact Or.inr (h1 _ e)
  have ih:=part_keys key lt hirr ks (l.filter (fun x=>!decide (key x=k))) h2 (hs.filter _) fun x hx=>by
   obtain ⟨h3,h4⟩:=List.mem_filter.1 hx;rcases List.mem_cons.1 (h x h3) with e | e
   ·simp [e] at h4
   ·exact e
  have he:ks.flatMap (fun k'=>l.filter (fun x=>decide (key x=k')))=ks.flatMap (fun k'=>(l.filter (fun x=>!decide (key x=k))).filter (fun x=>decide (key x=k'))):=by
   rw [List.flatMap_def,List.flatMap_def];congr 1;refine List.map_congr_left fun k' hk'=>?_;rw [List.filter_filter];refine List.filter_congr fun x _=>?_;by_cases e:key x=k'
   ·have:key x≠k:=by rintro rfl;exact hirr _ (e ▸ h1 k' hk')
    simp [e];intro e2;exact this (e.trans e2)
   ·simp [e]
  rw [he,ih,hm]
end Go.Proofs.YtcbopdbbcgdkcaaGreatDoor
namespace Go.Proofs.YtcbopdbbcgdkcaaGreatDoor
open Go

end Go.Proofs.YtcbopdbbcgdkcaaGreatDoor
