/- The statement DutyChoices: for every input its function returns true, and the input reads as it did; the listed variables are tied to the program's text. No condition. -/
import Derived.Test.YtcbopdbbcgdkcaaGreatDoorJCasG
set_option linter.all false
set_option maxRecDepth 100000
set_option maxHeartbeats 16000000
namespace Go.Proofs.YtcbopdbbcgdkcaaGreatDoor
open Go Go.RowKit Go.ChangeShapes Go.WideShapes Go.ChangeAt
theorem DutyChoices_lifted (os:Os) (started:os.Started) (H:Type) (enc:TypeId×Value→H) :
  ReturnsInHanded {} Tryz.checked os 4 .any (fun w args=>(Rows.dutyChoicesSpec.pre enc Tryz.prog Tryz.f4 [] false w args∧laidMetH Tryz.prog Rows.dutyChoicesRow.laid w)∧sizedMet enc Tryz.prog Tryz.f4 (OpenSpec.ofChange Rows.dutyChoicesSpec) false w args)
   (Rows.dutyChoicesSpec.post enc Tryz.prog Tryz.f4 false true false false):=by
 refine returns_sized (C:=Tryz.checked) (X:=fun w _=>laidMetH Tryz.prog Rows.dutyChoicesRow.laid w) (fun _ _ _ hh h=>h.of_heap hh) own started (by as_aux_lemma=>kernel_rfl) Tryz.func4
  (ChangeSpec.witness_shaped (enc:=enc) (C:=Tryz.checked) (os:=os) (X:=fun w _=>laidMetH Tryz.prog Rows.dutyChoicesRow.laid w) false (World.laidAll Tryz.prog os Rows.dutyChoicesRow.laid) #[.agg #[.slice none 0 0,.slice none 0 0,.slice none 0 0,.slice none 0 0],.slice none 0 0,.agg #[.slice none 0 0,.slice none 0 0],.int .i64 0] 8 (World.laidAll_os _ _ _)
   (World.shaped_of_ZipB (by as_aux_lemma=>kernel_rfl) (by as_aux_lemma=>kernel_rfl)) (by as_aux_lemma=>kernel_rfl) (by as_aux_lemma=>kernel_rfl) (by as_aux_lemma=>kernel_rfl)
   (by rw [MakeChecks.laidMetH_plain _ _ _ (by as_aux_lemma=>kernel_rfl)];exact laidMet_laidAll _ (by as_aux_lemma=>kernel_rfl) (by as_aux_lemma=>kernel_rfl))) ?_
 intro W base args ds gs before hval0 hW hL hsh hz;have hval:∀ (j:Nat) t v,Tryz.f4.params[j]?=some t→args[j]?=some v→Value.okWide Tryz.prog W .any base t v:=hval0;have hW':=hW;obtain ⟨p,q,hA0,hV,rfl,_,_⟩:=hW;have hA:DataW.TrodAll enc Tryz.prog W 0 (fun _=>true) true Tryz.f4.params.toList args.toList ds p:=hA0;rw [Tryz.params4] at hA hval;obtain ⟨v0,v1,v2,v3,d0,d1,d2,d3,p0,p1,p2,p3,rfl,rfl,rfl,h0,h1,h2,h3⟩:=trodAll_four hA;obtain ⟨rfl,rfl⟩:=trodVars_none hV;obtain ⟨c,hi0⟩:=open_arg (α:=Catalog) Tryz.underlying27 rfl opens_Catalog (hval 0 27 v0 rfl rfl) h0;obtain ⟨x,hi1,ho1⟩:=open_listW (α:=Fact) Tryz.underlying29 opensW_case (hval 1 29 v1 rfl rfl) h1 (hz 1 29 d1 (by rw [Tryz.params4];rfl) rfl);obtain ⟨y,hi2⟩:=open_arg (α:=Choice) Tryz.underlying43 rfl opens_Choice (hval 2 43 v2 rfl rfl) h2;obtain ⟨n,rfl,rfl,rfl,w3⟩:=open_int Tryz.underlying3 (hval 3 3 v3 rfl rfl) h3;simp only [List.append_nil] at hW';have hlt0:∀ x∈p0,x.block < W.heap.size:=fun x hx=>hW'.lt x (by simp [hx]);have hlt1:∀ x∈p1,x.block < W.heap.size:=fun x hx=>hW'.lt x (by simp [hx]);have hlt2:∀ x∈p2,x.block < W.heap.size:=fun x hx=>hW'.lt x (by simp [hx]);rw [MakeChecks.laidMetH_plain _ _ _ (by as_aux_lemma=>kernel_rfl)] at hL;refine (DutyChoices_p W v0 v1 v2 c x y n (glob_of hL (by simp [Rows.dutyChoicesRow]) hsh) hi0 hi1 hi2 w3 ho1).mono fun e W' ⟨he,hb⟩=>?_;subst he;exact ⟨_,rfl,_,_,_,[],_,[],hW',trodAll_mk1 (shut_bool Tryz.underlying4 _),trodAll_mk4 (Below.trod laidOut (by as_aux_lemma=>kernel_rfl) (of_decide_eq_true (by as_aux_lemma=>kernel_rfl)) h0 hb hlt0) (Below.trod laidOut (by as_aux_lemma=>kernel_rfl) (of_decide_eq_true (by as_aux_lemma=>kernel_rfl)) h1 hb hlt1) (Below.trod laidOut (by as_aux_lemma=>kernel_rfl) (of_decide_eq_true (by as_aux_lemma=>kernel_rfl)) h2 hb hlt2) (shut_int Tryz.underlying3 w3),rfl,hb.frame _,fun h=>by cases h⟩
theorem and_mk2 {a b:Bool} (h:a=true) (k:b=true):(a && b)=true:=by rw [h,k];rfl
theorem DutyChoices_joined:joinedFacts Tryz.prog 4 Tryz.f4 Rows.dutyChoicesSpec Rows.dutyChoicesRow=true:=by
 unfold joinedFacts;repeat' with_reducible refine and_mk2 ?_ ?_
 all_goals as_aux_lemma=>kernel_rfl
theorem DutyChoices_row:Rows.DutyChoicesSaid :=
 OpenClaim.holds_of_wide 4 Tryz.f4 rfl rfl rfl rfl rfl rfl rfl ⟨rfl,rfl,rfl,rfl,rfl⟩ rfl rfl rfl rfl rfl (by as_aux_lemma=>kernel_rfl) Tryz.func4 DutyChoices_joined
  (of_decide_eq_true (by as_aux_lemma=>kernel_rfl)) (by unfold Func.isWrapper;first | (rw [if_pos (by decide +kernel)];kernel_rfl) | (rw [if_neg (by decide +kernel)];exact ⟨rfl,rfl⟩))
  (fun os started H enc _=>DutyChoices_lifted os started H enc)
theorem DutyChoices_card:Rows.DutyChoicesCardSaid :=
 Claim7.holds_tied_plain_at .later [] [.data,.data,.data,.data,.sentinel,.sentinel,.pinned] true Rows.dutyChoicesCard.stood.harness true DutyChoices_row (fun _ h=>by cases h) (by as_aux_lemma=>kernel_rfl) (fun _ h=>by cases h) dutyChoices_row_tie rfl ⟨rfl,rfl⟩ (by as_aux_lemma=>kernel_rfl) rfl
  (fun f fn hf hfn=>by
   obtain rfl : f = 4 := Option.some.inj ((show Tryz.prog.funcNamed "licit/licitlaw39.DutyChoices" = some 4 by as_aux_lemma => kernel_rfl).symm.trans hf) |>.symm
   obtain rfl:fn=Tryz.f4:=(Option.some.inj (Tryz.func4.symm.trans hfn)).symm
   exact ⟨by as_aux_lemma=>kernel_rfl,fun j t ht=>by
    rw [Tryz.params4] at ht;have hm:t∈[27,29,43,3]:=by simpa using Array.mem_of_getElem? ht
    have hall:([27,29,43,3].all fun u=>!Tryz.prog.wantsStandIn u)=true:=by as_aux_lemma=>kernel_rfl
    exact (show Tryz.prog.wantsStandIn t=false by simpa using List.all_eq_true.1 hall t hm)⟩)
  (by as_aux_lemma=>kernel_rfl)
#print axioms DutyChoices_card
end Go.Proofs.YtcbopdbbcgdkcaaGreatDoor
