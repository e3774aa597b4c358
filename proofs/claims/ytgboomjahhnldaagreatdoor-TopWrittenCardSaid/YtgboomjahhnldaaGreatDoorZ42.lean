/- Every word of the book of a day is among the words that its instruction, with corrections applied, writes, for every input. Conditions: none ahead of the statement; it is a tied card over the rows that it lists (four tables and the func table of syntax). The parts of this proof are printed with short names to keep within the size of a claim. -/
import Derived.ChangeMaps5
import Derived.Test.YtgboomjahhnldaaGreatDoorZ38
import Derived.Test.YtgboomjahhnldaaGreatDoorZ41
set_option maxRecDepth 100000
set_option maxHeartbeats 25600000
set_option linter.all false
namespace Go.Proofs.YtgboomjahhnldaaGreatDoor
open Go.ChangeAt Go.ChangeShapes Go.Deep Go.Proofs.Tryz Go.RowKit Go.WideShapes
namespace topWritten
theorem contract(H:Type)(enc:TypeId×Value->H)(W:World)(base:Nat)(args:Array Value)(ds gs:List (DataW H))(before:List MemPlace)
 (hval:∀(j:Nat) t v,Tryz.f3.params[j]? =some t->args[j]? =some v->Value.okWide prog W .any base t v)
 (hW:DataW.Whole enc prog Tryz.f3.params.toList Rows.topWrittenSpec.vars false W args.toList ds gs before) (hz:(DataW.weightsEach prog (Tryz.f3.params.toList++Rows.topWrittenSpec.plain.varTypes prog) (ds++gs)).all (· <=reachBytes)=true) (hL:laidMetH prog Rows.topWrittenRow.laid W):
 Calls prog 3 args W fun e W'=>∃v,e=.returned v/\Rows.topWrittenSpec.post enc prog Tryz.f3 false true false false W args v W':=by
 have hW':=hW;have hT:=VQ hL;obtain⟨p,q,R7,hV,rfl,hfz,hnd⟩:=hW;have hA:DataW.TrodAll enc prog W 0 (fun _=>true) true Tryz.f3.params.toList args.toList ds p:=R7;rw[params3]at hA hval;obtain⟨v0,vs0,d0,awe,p0,q0,hargs,rfl,rfl,h0,r0⟩:=trodAll_cons hA;obtain⟨v1,vs1,d1,ds1',p1,q1,rfl,rfl,rfl,h1,r1⟩:=trodAll_cons r0;obtain⟨v2,vs2,d2,awf,p2,q2,rfl,rfl,rfl,h2,r2⟩:=trodAll_cons r1;obtain⟨rfl,rfl,rfl⟩:=trodAll_nil r2;obtain rfl:args= #[v0,v1,v2]:=by cases args;simp_all
 obtain⟨rfl,rfl⟩:=trodVars_none hV
 obtain⟨A0,c0,gs0,rs0,rfl,hs0,anR,hn0,anS⟩:=ado (hval 0 22 v0 rfl rfl) h0 (fun n hn=>by
  have:=List.all_eq_true.1 hz n (DataW.weights_mem_each (j:=0) (t:=22) rfl rfl n hn);simpa using this)
 obtain⟨l1,rfl,rfl,rfl,w1⟩:=open_int underlying3 (hval 1 3 v1 rfl rfl) h1;obtain⟨l2,rfl,rfl,rfl,w2⟩:=Go.ChangeMaps.open_string underlying9 (hval 2 9 v2 rfl rfl) h2;refine(Ou gs0 rs0 A0 c0 l1 l2 W hs0 anR hn0 anS hT.1 hT.2.1 hT.2.2).mono fun e W' ⟨he,hx⟩=>⟨_,he,ac8 laidOut (by kernel_rfl) (by kernel_rfl) underlying4 rfl rfl hW' hx⟩
theorem lifted(os:Os)(started:os.Started)(H:Type)(enc:TypeId×Value->H):
 ReturnsInHanded {} checked os 3 .any (fun w args=>(Rows.topWrittenSpec.pre enc prog Tryz.f3 Rows.topWrittenRow.domain false w args/\laidMetH prog Rows.topWrittenRow.laid w)/\sizedMet enc prog Tryz.f3 (OpenSpec.ofChange Rows.topWrittenSpec) false w args) (Rows.topWrittenSpec.post enc prog Tryz.f3 false true false false):=by
 refine returnsInHanded_of_change_and (C:=checked) (X:=fun w _=>laidMetH prog Rows.topWrittenRow.laid w) (fun _ _ _ hh h=>h.of_heap hh) own started (by kernel_rfl) func3
  (ChangeSpec.witness_shaped (enc:=enc) (C:=checked) (os:=os) (X:=fun w _=>laidMetH prog Rows.topWrittenRow.laid w) false (acL os) #[.slice none 0 0,.int .i64 0,.string ⟨#[]⟩] 8 rfl (World.shaped_of_RefB (by kernel_rfl) (by kernel_rfl)) (by kernel_rfl) (by kernel_rfl) (by kernel_rfl) (laidMetH_of_parts3 (fuel:=8) (laidMet_of_run' 8 (by kernel_rfl) (by kernel_rfl)) (by kernel_rfl) (by kernel_rfl))) ?_
 intro W base args ds gs before hval hW _ hz hL _;exact contract H enc W base args ds gs before hval hW hz hL
theorem closed:joinedFacts prog 3 Tryz.f3 Rows.topWrittenSpec Rows.topWrittenRow=true:=by
 unfold joinedFacts
 repeat' with_reducible refine Bool.and_eq_true_iff.2 ⟨?_,?_⟩
 all_goals as_aux_lemma=>kernel_rfl
theorem said:Rows.TopWrittenSaid:=
 OpenClaim.holds_of_wide 3 Tryz.f3 rfl rfl rfl rfl rfl rfl rfl ⟨rfl,rfl,rfl,rfl,rfl⟩ rfl rfl rfl rfl rfl (by kernel_rfl) func3 closed
  (of_decide_eq_true (by kernel_rfl)) (by unfold Func.isWrapper;first|(rw[bH (by decide+kernel)];kernel_rfl)|(rw[aU (by decide+kernel)];exact⟨rfl,rfl⟩))
  (fun os started H enc _=>lifted os started H enc)
theorem proved:Rows.TopWrittenCardSaid:=
 Claim7.holds_tied_plain_at .later [] [.data,.data,.widerDeep,.funcs,.pinned] true Rows.topWrittenCard.stood.harness false
  said (fun _ h=>by cases h) (by kernel_rfl) (fun _ h=>by cases h) topWritten_row_tie rfl ⟨rfl,rfl⟩ (by kernel_rfl) rfl
  (fun f fn hf hfn=>by
    obtain rfl:f=3:=lM ((show prog.funcNamed "pandect/pandecttop.TopWritten" =some 3 by kernel_rfl).symm.trans hf)|>.symm;obtain rfl:fn=Tryz.f3:=(lM (func3.symm.trans hfn)).symm
    exact⟨by kernel_rfl,fun j t ht=>by
     have hw:Tryz.f3.params.all (fun t=> !prog.wantsStandIn t)=true:=by kernel_rfl
     rw[Array.all_eq_true']at hw;have:=hw t (Array.mem_of_getElem? ht);exact(show prog.wantsStandIn t=false by simpa using this)⟩)
  (by kernel_rfl)
end topWritten
theorem topWritten_holds:Rows.TopWrittenCardSaid:=topWritten.proved
end Go.Proofs.YtgboomjahhnldaaGreatDoor
