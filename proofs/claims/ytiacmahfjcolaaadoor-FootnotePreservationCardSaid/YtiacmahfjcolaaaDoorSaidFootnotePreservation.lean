/- Renumber changes nothing except anchors and labels of notes, for every input. -/
import Derived.Test.YtiacmahfjcolaaaDoorLaid10
import Derived.Test.YtiacmahfjcolaaaDoorLawP10
namespace Go.Proofs.YtiacmahfjcolaaaDoor
open Go.ChangeShapes Go.WideShapes Go.ChangeAt Go.RowKit Go.Deep

namespace footnotePreservation
set_option maxRecDepth 100000 in
set_option maxHeartbeats 1600000 in
theorem contract (H : Type) (enc : TypeId × Value → H) (W : World) (base : Nat) (args : Array Value) (ds gs : List (DataW H)) (before : List MemPlace)
    (hval : ∀ (j : Nat) t v, Tryd.f7.params[j]? = some t → args[j]? = some v → Value.okWide Tryd.prog W .any base t v)
    (hW : DataW.Whole enc Tryd.prog Tryd.f7.params.toList Rows.footnotePreservationSpec.vars false W args.toList ds gs before) (hL : laidMet Tryd.prog Rows.footnotePreservationRow.laid W) :
    Calls Tryd.prog 7 args W fun e W' => ∃ v, e = .returned v ∧ Rows.footnotePreservationSpec.post enc Tryd.prog Tryd.f7 false true false false W args v W' := by
  have hW' := hW
  have hT := tab_of_laid hL
  obtain ⟨p, q, hA0, hV, rfl, hfz, hnd⟩ := hW
  have hA : DataW.TrodAll enc Tryd.prog W 0 (fun _ => true) true Tryd.f7.params.toList args.toList ds p := hA0
  rw [Tryd.params7] at hA hval
  obtain ⟨v0, vs0, d0, ds0', p0, q0, hargs, rfl, rfl, h0, r0⟩ := trodAll_cons hA
  obtain ⟨rfl, rfl, rfl⟩ := trodAll_nil r0
  obtain rfl : args = #[v0] := by cases args; simp_all
  obtain ⟨rfl, rfl⟩ := trodVars_none hV
  obtain ⟨rU0, uU0, rfl, hrU0, hAU0⟩ := open_unit (hval 0 27 v0 rfl rfl) h0
  refine (footnotePreservation_law uU0 rU0 W hrU0 hAU0 hT).mono fun e W' ⟨he, hx⟩ => ⟨_, he, law_post laidOut (by kernel_rfl) (by kernel_rfl) Tryd.underlying4 rfl rfl hW' hx⟩

set_option maxRecDepth 100000 in
theorem lifted (os : Os) (started : os.Started) (H : Type) (enc : TypeId × Value → H) :
    ReturnsInHanded {} Tryd.checked os 7 .any (fun w args => (Rows.footnotePreservationSpec.pre enc Tryd.prog Tryd.f7 Rows.footnotePreservationRow.domain false w args ∧ laidMet Tryd.prog Rows.footnotePreservationRow.laid w) ∧ sizedMet enc Tryd.prog Tryd.f7 (OpenSpec.ofChange Rows.footnotePreservationSpec) false w args) (Rows.footnotePreservationSpec.post enc Tryd.prog Tryd.f7 false true false false) := by
  refine returnsInHanded_of_change_and (C := Tryd.checked) (X := fun w _ => laidMet Tryd.prog Rows.footnotePreservationRow.laid w) (fun _ _ _ hh h => h.of_heap hh) own started (by kernel_rfl) Tryd.func7
    (ChangeSpec.witness_at (enc := enc) (C := Tryd.checked) (os := os) (X := fun w _ => laidMet Tryd.prog Rows.footnotePreservationRow.laid w) false (laidWorld os) #[.agg #[.int .i64 0, .int .i64 0, .int .i64 0, .int .i64 0, .string ⟨#[]⟩, .slice none 0 0, .slice none 0 0, .slice none 0 0]] 8 rfl (by kernel_rfl) (by kernel_rfl) (by kernel_rfl) (by kernel_rfl) (by kernel_rfl) (laidMet_of_run' 8 (by kernel_rfl) (by kernel_rfl))) ?_
  intro W base args ds gs before hval hW _ _ hL _
  exact contract H enc W base args ds gs before hval hW hL

theorem said : Rows.FootnotePreservationSaid :=
  OpenClaim.holds_of_wide 7 Tryd.f7 rfl rfl rfl rfl rfl rfl rfl ⟨rfl, rfl, rfl, rfl, rfl⟩ rfl rfl rfl rfl rfl (by kernel_rfl) Tryd.func7 (by kernel_rfl)
    (of_decide_eq_true (by kernel_rfl)) (by unfold Func.isWrapper; first | (rw [if_pos (by decide +kernel)]; kernel_rfl) | (rw [if_neg (by decide +kernel)]; exact ⟨rfl, rfl⟩))
    (fun os started H enc _ => lifted os started H enc)
theorem proved : Rows.FootnotePreservationCardSaid :=
  Claim7.holds_tied_plain_at .later [] [.data, .data, .data] true Rows.footnotePreservationCard.stood.harness false
    said (fun _ h => by cases h) (by kernel_rfl) (fun _ h => by cases h) footnotePreservation_row_tie rfl ⟨rfl, rfl⟩ (by kernel_rfl) rfl
    (fun f fn hf hfn => by
      obtain rfl : f = 7 := Option.some.inj ((show Tryd.prog.funcNamed "pandect/pandectlaw10.FootnotePreservation" = some 7 by kernel_rfl).symm.trans hf) |>.symm
      obtain rfl : fn = Tryd.f7 := (Option.some.inj (Tryd.func7.symm.trans hfn)).symm
      exact ⟨by kernel_rfl, fun j t ht => by
        have hw : Tryd.f7.params.all (fun t => !Tryd.prog.wantsStandIn t) = true := by kernel_rfl
        rw [Array.all_eq_true'] at hw
        have := hw t (Array.mem_of_getElem? ht)
        exact (show Tryd.prog.wantsStandIn t = false by simpa using this)⟩)
    (by kernel_rfl)
end footnotePreservation
theorem footnotePreservation_holds : Rows.FootnotePreservationCardSaid := footnotePreservation.proved

end Go.Proofs.YtiacmahfjcolaaaDoor
