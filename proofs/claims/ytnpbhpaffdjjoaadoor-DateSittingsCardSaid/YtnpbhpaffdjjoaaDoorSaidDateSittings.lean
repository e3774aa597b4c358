/- Sitting returns the specified numbers, and the first day of each sitting is day 1 of it, for every input. -/
import Derived.Test.YtnpbhpaffdjjoaaDoorLaid1
import Derived.Test.YtnpbhpaffdjjoaaDoorSitLaw1
namespace Go.Proofs.YtnpbhpaffdjjoaaDoor
open Go.ChangeShapes Go.WideShapes Go.ChangeAt Go.RowKit Go.Deep

namespace dateSittings
set_option maxRecDepth 100000 in
set_option maxHeartbeats 1600000 in
theorem contract (H : Type) (enc : TypeId × Value → H) (W : World) (base : Nat) (args : Array Value) (ds gs : List (DataW H)) (before : List MemPlace)
    (hval : ∀ (j : Nat) t v, Tryd.f5.params[j]? = some t → args[j]? = some v → Value.okWide Tryd.prog W .any base t v)
    (hW : DataW.Whole enc Tryd.prog Tryd.f5.params.toList Rows.dateSittingsSpec.vars false W args.toList ds gs before) (hL : laidMet Tryd.prog Rows.dateSittingsRow.laid W) :
    Calls Tryd.prog 5 args W fun e W' => ∃ v, e = .returned v ∧ Rows.dateSittingsSpec.post enc Tryd.prog Tryd.f5 false true false false W args v W' := by
  have hW' := hW
  have hT := tab_of_laid hL
  obtain ⟨p, q, hA0, hV, rfl, hfz, hnd⟩ := hW
  have hA : DataW.TrodAll enc Tryd.prog W 0 (fun _ => true) true Tryd.f5.params.toList args.toList ds p := hA0
  rw [Tryd.params5] at hA hval
  obtain ⟨v0, vs0, d0, ds0', p0, q0, hargs, rfl, rfl, h0, r0⟩ := trodAll_cons hA
  obtain ⟨v1, vs1, d1, ds1', p1, q1, rfl, rfl, rfl, h1, r1⟩ := trodAll_cons r0
  obtain ⟨v2, vs2, d2, ds2', p2, q2, rfl, rfl, rfl, h2, r2⟩ := trodAll_cons r1
  obtain ⟨rfl, rfl, rfl⟩ := trodAll_nil r2
  obtain rfl : args = #[v0, v1, v2] := by cases args; simp_all
  obtain ⟨rfl, rfl⟩ := trodVars_none hV
  obtain ⟨u0, g0⟩ : ∃ n, DataW.trod enc Tryd.prog W 0 (fun _ => true) true n intEl.t v0.cells.toList = some (d0, p0) := h0
  obtain ⟨A0, c0, l0, ds0, sp0, e0, hc0, hm0, hs0, hd0, hdl0, hsl0, hR0⟩ := open_sl intEl RInt rd_int g0
  obtain ⟨xa0, xn0, xc0, rfl⟩ := okWide_slice Tryd.underlying30 (hval 0 30 v0 rfl rfl)
  simp only [Value.cells, List.cons.injEq, and_true, Value.slice.injEq] at e0
  obtain ⟨rfl, rfl, rfl⟩ := e0
  obtain ⟨l1, rfl, rfl, rfl, w1⟩ := open_int Tryd.underlying3 (hval 1 3 v1 rfl rfl) h1
  obtain ⟨l2, rfl, rfl, rfl, w2⟩ := open_int Tryd.underlying3 (hval 2 3 v2 rfl rfl) h2
  refine (dateSittings_law xa0 xc0 l0 l1 l2 W hs0 hc0 hT).mono fun e W' ⟨he, hx⟩ => ⟨_, he, law_post laidOut (by kernel_rfl) (by kernel_rfl) Tryd.underlying4 rfl rfl hW' hx⟩

set_option maxRecDepth 100000 in
theorem lifted (os : Os) (started : os.Started) (H : Type) (enc : TypeId × Value → H) :
    ReturnsInHanded {} Tryd.checked os 5 .any (fun w args => (Rows.dateSittingsSpec.pre enc Tryd.prog Tryd.f5 Rows.dateSittingsRow.domain false w args ∧ laidMet Tryd.prog Rows.dateSittingsRow.laid w) ∧ sizedMet enc Tryd.prog Tryd.f5 (OpenSpec.ofChange Rows.dateSittingsSpec) false w args) (Rows.dateSittingsSpec.post enc Tryd.prog Tryd.f5 false true false false) := by
  refine returnsInHanded_of_change_and (C := Tryd.checked) (X := fun w _ => laidMet Tryd.prog Rows.dateSittingsRow.laid w) (fun _ _ _ hh h => h.of_heap hh) own started (by kernel_rfl) Tryd.func5
    (ChangeSpec.witness_at (enc := enc) (C := Tryd.checked) (os := os) (X := fun w _ => laidMet Tryd.prog Rows.dateSittingsRow.laid w) false (laidWorld os) #[.slice none 0 0, .int .i64 0, .int .i64 0] 8 rfl (by kernel_rfl) (by kernel_rfl) (by kernel_rfl) (by kernel_rfl) (by kernel_rfl) (laidMet_of_run' 8 (by kernel_rfl) (by kernel_rfl))) ?_
  intro W base args ds gs before hval hW _ _ hL _
  exact contract H enc W base args ds gs before hval hW hL

theorem said : Rows.DateSittingsSaid :=
  OpenClaim.holds_of_wide 5 Tryd.f5 rfl rfl rfl rfl rfl rfl rfl ⟨rfl, rfl, rfl, rfl, rfl⟩ rfl rfl rfl rfl rfl (by kernel_rfl) Tryd.func5 (by kernel_rfl)
    (of_decide_eq_true (by kernel_rfl)) (by unfold Func.isWrapper; first | (rw [if_pos (by decide +kernel)]; kernel_rfl) | (rw [if_neg (by decide +kernel)]; exact ⟨rfl, rfl⟩))
    (fun os started H enc _ => lifted os started H enc)
theorem proved : Rows.DateSittingsCardSaid :=
  Claim7.holds_tied_plain_at .later [] [.data, .data, .data] true Rows.dateSittingsCard.stood.harness false
    said (fun _ h => by cases h) (by kernel_rfl) (fun _ h => by cases h) dateSittings_row_tie rfl ⟨rfl, rfl⟩ (by kernel_rfl) rfl
    (fun f fn hf hfn => by
      obtain rfl : f = 5 := Option.some.inj ((show Tryd.prog.funcNamed "pandect/pandectlaw01.DateSittings" = some 5 by kernel_rfl).symm.trans hf) |>.symm
      obtain rfl : fn = Tryd.f5 := (Option.some.inj (Tryd.func5.symm.trans hfn)).symm
      exact ⟨by kernel_rfl, fun j t ht => by
        have hw : Tryd.f5.params.all (fun t => !Tryd.prog.wantsStandIn t) = true := by kernel_rfl
        rw [Array.all_eq_true'] at hw
        have := hw t (Array.mem_of_getElem? ht)
        exact (show Tryd.prog.wantsStandIn t = false by simpa using this)⟩)
    (by kernel_rfl)
end dateSittings
theorem dateSittings_holds : Rows.DateSittingsCardSaid := dateSittings.proved

end Go.Proofs.YtnpbhpaffdjjoaaDoor
