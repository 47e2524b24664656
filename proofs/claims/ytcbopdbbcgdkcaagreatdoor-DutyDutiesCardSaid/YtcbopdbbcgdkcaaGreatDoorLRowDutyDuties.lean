/- The statement DutyDuties: for every input its function returns true, and the input reads as it did; the listed variables are tied to the program's text. No condition. -/
import Derived.Test.YtcbopdbbcgdkcaaGreatDoorLCasG
set_option linter.all false
set_option maxRecDepth 100000
set_option maxHeartbeats 16000000
namespace Go.Proofs.YtcbopdbbcgdkcaaGreatDoor
open Go Go.RowKit Go.ChangeShapes Go.WideShapes Go.ChangeAt
theorem DutyDuties_lifted (os:Os) (started:os.Started) (H:Type) (enc:TypeId×Value→H) :
  ReturnsInHanded {} Tryz.checked os 5 .any (fun w args=>(Rows.dutyDutiesSpec.pre enc Tryz.prog Tryz.f5 [] false w args∧laidMetH Tryz.prog Rows.dutyDutiesRow.laid w)∧sizedMet enc Tryz.prog Tryz.f5 (OpenSpec.ofChange Rows.dutyDutiesSpec) false w args)
   (Rows.dutyDutiesSpec.post enc Tryz.prog Tryz.f5 false true false false):=by
 refine returns_sized (C:=Tryz.checked) (X:=fun w _=>laidMetH Tryz.prog Rows.dutyDutiesRow.laid w) (fun _ _ _ hh h=>h.of_heap hh) own started (by as_aux_lemma=>kernel_rfl) Tryz.func5
  (ChangeSpec.witness_shaped (enc:=enc) (C:=Tryz.checked) (os:=os) (X:=fun w _=>laidMetH Tryz.prog Rows.dutyDutiesRow.laid w) false (World.laidAll Tryz.prog os Rows.dutyDutiesRow.laid) #[.agg #[.slice none 0 0,.slice none 0 0,.slice none 0 0,.slice none 0 0],.slice none 0 0,.agg #[.slice none 0 0,.slice none 0 0]] 8 (World.laidAll_os _ _ _)
   (World.shaped_of_ZipB (by as_aux_lemma=>kernel_rfl) (by as_aux_lemma=>kernel_rfl)) (by as_aux_lemma=>kernel_rfl) (by as_aux_lemma=>kernel_rfl) (by as_aux_lemma=>kernel_rfl)
   (by rw [MakeChecks.laidMetH_plain _ _ _ (by as_aux_lemma=>kernel_rfl)];exact laidMet_laidAll _ (by as_aux_lemma=>kernel_rfl) (by as_aux_lemma=>kernel_rfl))) ?_
 intro W base args ds gs before hval0 hW hL hsh hz;have hval:∀ (j:Nat) t v,Tryz.f5.params[j]?=some t→args[j]?=some v→Value.okWide Tryz.prog W .any base t v:=hval0;have hW':=hW;obtain ⟨p,q,hA0,hV,rfl,_,_⟩:=hW;have hA:DataW.TrodAll enc Tryz.prog W 0 (fun _=>true) true Tryz.f5.params.toList args.toList ds p:=hA0;rw [Tryz.params5] at hA hval;obtain ⟨v0,v1,v2,d0,d1,d2,p0,p1,p2,rfl,rfl,rfl,h0,h1,h2⟩:=trodAll_three hA;obtain ⟨rfl,rfl⟩:=trodVars_none hV;obtain ⟨c,hi0⟩:=open_arg (α:=Catalog) Tryz.underlying27 rfl opens_Catalog (hval 0 27 v0 rfl rfl) h0;obtain ⟨x,hi1,ho1⟩:=open_listW (α:=Fact) Tryz.underlying29 opensW_case (hval 1 29 v1 rfl rfl) h1 (hz 1 29 d1 (by rw [Tryz.params5];rfl) rfl);obtain ⟨y,hi2⟩:=open_arg (α:=Choice) Tryz.underlying43 rfl opens_Choice (hval 2 43 v2 rfl rfl) h2;simp only [List.append_nil] at hW';have hlt0:∀ x∈p0,x.block < W.heap.size:=fun x hx=>hW'.lt x (by simp [hx]);have hlt1:∀ x∈p1,x.block < W.heap.size:=fun x hx=>hW'.lt x (by simp [hx]);have hlt2:∀ x∈p2,x.block < W.heap.size:=fun x hx=>hW'.lt x (by simp [hx]);rw [MakeChecks.laidMetH_plain _ _ _ (by as_aux_lemma=>kernel_rfl)] at hL;refine (DutyDuties_p W v0 v1 v2 c x y (glob_of hL (by simp [Rows.dutyDutiesRow]) hsh) hi0 hi1 hi2 ho1).mono fun e W' ⟨he,hb⟩=>?_;subst he;exact ⟨_,rfl,_,_,_,[],_,[],hW',trodAll_mk1 (shut_bool Tryz.underlying4 _),trodAll_mk3 (Below.trod laidOut (by as_aux_lemma=>kernel_rfl) (of_decide_eq_true (by as_aux_lemma=>kernel_rfl)) h0 hb hlt0) (Below.trod laidOut (by as_aux_lemma=>kernel_rfl) (of_decide_eq_true (by as_aux_lemma=>kernel_rfl)) h1 hb hlt1) (Below.trod laidOut (by as_aux_lemma=>kernel_rfl) (of_decide_eq_true (by as_aux_lemma=>kernel_rfl)) h2 hb hlt2),rfl,hb.frame _,fun h=>by cases h⟩
theorem and_mk2 {a b:Bool} (h:a=true) (k:b=true):(a && b)=true:=by rw [h,k];rfl
theorem DutyDuties_joined:joinedFacts Tryz.prog 5 Tryz.f5 Rows.dutyDutiesSpec Rows.dutyDutiesRow=true:=by
 unfold joinedFacts;repeat' with_reducible refine and_mk2 ?_ ?_
 all_goals as_aux_lemma=>kernel_rfl
theorem DutyDuties_row:Rows.DutyDutiesSaid :=
 OpenClaim.holds_of_wide 5 Tryz.f5 rfl rfl rfl rfl rfl rfl rfl ⟨rfl,rfl,rfl,rfl,rfl⟩ rfl rfl rfl rfl rfl (by as_aux_lemma=>kernel_rfl) Tryz.func5 DutyDuties_joined
  (of_decide_eq_true (by as_aux_lemma=>kernel_rfl)) (by unfold Func.isWrapper;first | (rw [if_pos (by decide +kernel)];kernel_rfl) | (rw [if_neg (by decide +kernel)];exact ⟨rfl,rfl⟩))
  (fun os started H enc _=>DutyDuties_lifted os started H enc)
theorem DutyDuties_card:Rows.DutyDutiesCardSaid :=
 Claim7.holds_tied_plain_at .later [] [.data,.data,.data,.data,.sentinel,.sentinel,.pinned] true Rows.dutyDutiesCard.stood.harness true DutyDuties_row (fun _ h=>by cases h) (by as_aux_lemma=>kernel_rfl) (fun _ h=>by cases h) dutyDuties_row_tie rfl ⟨rfl,rfl⟩ (by as_aux_lemma=>kernel_rfl) rfl
  (fun f fn hf hfn=>by
   obtain rfl : f = 5 := Option.some.inj ((show Tryz.prog.funcNamed "licit/licitlaw39.DutyDuties" = some 5 by as_aux_lemma => kernel_rfl).symm.trans hf) |>.symm
   obtain rfl:fn=Tryz.f5:=(Option.some.inj (Tryz.func5.symm.trans hfn)).symm
   exact ⟨by as_aux_lemma=>kernel_rfl,fun j t ht=>by
    rw [Tryz.params5] at ht;have hm:t∈[27,29,43]:=by simpa using Array.mem_of_getElem? ht
    have hall:([27,29,43].all fun u=>!Tryz.prog.wantsStandIn u)=true:=by as_aux_lemma=>kernel_rfl
    exact (show Tryz.prog.wantsStandIn t=false by simpa using List.all_eq_true.1 hall t hm)⟩)
  (by as_aux_lemma=>kernel_rfl)
#print axioms DutyDuties_card
end Go.Proofs.YtcbopdbbcgdkcaaGreatDoor
