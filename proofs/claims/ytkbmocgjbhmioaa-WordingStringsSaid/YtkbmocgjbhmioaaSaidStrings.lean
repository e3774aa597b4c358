/- The texts of the results are those of package wordseq, and ErrMissing and ErrFull are returned exactly if it finds no occurrence or its result is too long, for every input. -/
import Derived.Test.YtkbmocgjbhmioaaTop
import Derived.Test.YtkbmocgjbhmioaaStrLaw
namespace Go.Proofs.Ytkbmocgjbhmioaa
open Go.ChangeShapes Go.WideShapes Go.ChangeAt Go.RowKit Go.Deep

namespace wordingStrings
set_option maxRecDepth 100000 in
set_option maxHeartbeats 1600000 in
theorem contract (H : Type) (enc : TypeId × Value → H) (W : World) (base : Nat) (args : Array Value) (ds gs : List (DataW H)) (before : List MemPlace)
    (hval : ∀ (j : Nat) t v, Try.f8.params[j]? = some t → args[j]? = some v → Value.okWide Try.prog W .any base t v)
    (hW : DataW.Whole enc Try.prog Try.f8.params.toList Rows.wordingStringsSpec.vars false W args.toList ds gs before) :
    Calls Try.prog 8 args W fun e W' => ∃ v, e = .returned v ∧ Rows.wordingStringsSpec.post enc Try.prog Try.f8 false true false false W args v W' := by
  have hW' := hW
  obtain ⟨p, q, hA0, hV, rfl, hfz, hnd⟩ := hW
  have hA : DataW.TrodAll enc Try.prog W 0 (fun _ => true) true Try.f8.params.toList args.toList ds p := hA0
  rw [Try.params8] at hA hval
  obtain ⟨v0, vs0, d0, ds0', p0, q0, hargs, rfl, rfl, h0, r0⟩ := trodAll_cons hA
  obtain ⟨v1, vs1, d1, ds1', p1, q1, rfl, rfl, rfl, h1, r1⟩ := trodAll_cons r0
  obtain ⟨v2, vs2, d2, ds2', p2, q2, rfl, rfl, rfl, h2, r2⟩ := trodAll_cons r1
  obtain ⟨v3, vs3, d3, ds3', p3, q3, rfl, rfl, rfl, h3, r3⟩ := trodAll_cons r2
  obtain ⟨rfl, rfl, rfl⟩ := trodAll_nil r3
  obtain rfl : args = #[v0, v1, v2, v3] := by cases args; simp_all
  obtain ⟨rfl, rfl⟩ := trodVars_none hV
  obtain ⟨u0, g0⟩ : ∃ n, DataW.trod enc Try.prog W 0 (fun _ => true) true n wordEl.t v0.cells.toList = some (d0, p0) := h0
  obtain ⟨A0, c0, l0, ds0, sp0, e0, hc0, hm0, hs0, hd0, hdl0, hsl0, hR0⟩ := open_sl wordEl RWord rd_word g0
  obtain ⟨xa0, xn0, xc0, rfl⟩ := okWide_slice Try.underlying22 (hval 0 22 v0 rfl rfl)
  simp only [Value.cells, List.cons.injEq, and_true, Value.slice.injEq] at e0
  obtain ⟨rfl, rfl, rfl⟩ := e0
  obtain ⟨u1, g1⟩ : ∃ n, DataW.trod enc Try.prog W 0 (fun _ => true) true n strEl.t v1.cells.toList = some (d1, p1) := h1
  obtain ⟨A1, c1, l1, ds1, sp1, e1, hc1, hm1, hs1, hd1, hdl1, hsl1, hR1⟩ := open_sl strEl RStr rd_str g1
  obtain ⟨xa1, xn1, xc1, rfl⟩ := okWide_slice Try.underlying23 (hval 1 23 v1 rfl rfl)
  simp only [Value.cells, List.cons.injEq, and_true, Value.slice.injEq] at e1
  obtain ⟨rfl, rfl, rfl⟩ := e1
  obtain ⟨u2, g2⟩ : ∃ n, DataW.trod enc Try.prog W 0 (fun _ => true) true n strEl.t v2.cells.toList = some (d2, p2) := h2
  obtain ⟨A2, c2, l2, ds2, sp2, e2, hc2, hm2, hs2, hd2, hdl2, hsl2, hR2⟩ := open_sl strEl RStr rd_str g2
  obtain ⟨xa2, xn2, xc2, rfl⟩ := okWide_slice Try.underlying23 (hval 2 23 v2 rfl rfl)
  simp only [Value.cells, List.cons.injEq, and_true, Value.slice.injEq] at e2
  obtain ⟨rfl, rfl, rfl⟩ := e2
  obtain ⟨l3, rfl, rfl, rfl, w3⟩ := open_int Try.underlying3 (hval 3 3 v3 rfl rfl) h3
  refine (strings_law xa0 xa1 xa2 xc0 xc1 xc2 l0 l1 l2 l3 W hs0 hs1 hs2 (Nat.le_trans hc0 hm0) (Nat.le_trans hc1 hm1) (Nat.le_trans hc2 hm2) hc0 hc2).mono fun e W' ⟨he, hx⟩ => ⟨_, he, law_post laidOut (by kernel_rfl) (by kernel_rfl) Try.underlying4 rfl rfl hW' hx⟩

set_option maxRecDepth 100000 in
theorem lifted (os : Os) (started : os.Started) (H : Type) (enc : TypeId × Value → H) :
    ReturnsInHanded {} Try.checked os 8 .any (Rows.wordingStringsSpec.pre6 enc Try.prog Try.f8 Rows.wordingStringsRow.domain false) (Rows.wordingStringsSpec.post enc Try.prog Try.f8 false true false false) := by
  refine returnsInHanded_of_change (C := Try.checked) own started (by kernel_rfl) Try.func8
    (ChangeSpec.witness6 (enc := enc) (C := Try.checked) false ⟨#[], #[.slice none 0 0, .slice none 0 0, .slice none 0 0, .int .i64 0], []⟩ 8 (by kernel_rfl) (by kernel_rfl) (by kernel_rfl) (by kernel_rfl)) ?_
  intro W base args ds gs before hval hW _ _
  exact contract H enc W base args ds gs before hval hW

theorem proved : Rows.WordingStringsSaid :=
  OpenClaim.holds_of_wide 8 Try.f8 rfl rfl rfl rfl rfl rfl rfl ⟨rfl, rfl, rfl, rfl, rfl⟩ rfl rfl rfl rfl rfl (by kernel_rfl) Try.func8 (by kernel_rfl)
    (of_decide_eq_true (by kernel_rfl)) (by unfold Func.isWrapper; first | (rw [if_pos (by decide +kernel)]; kernel_rfl) | (rw [if_neg (by decide +kernel)]; exact ⟨rfl, rfl⟩))
    (fun os started H enc _ => lifted os started H enc)
end wordingStrings
theorem wordingStrings_holds : Rows.WordingStringsSaid := wordingStrings.proved

end Go.Proofs.Ytkbmocgjbhmioaa
