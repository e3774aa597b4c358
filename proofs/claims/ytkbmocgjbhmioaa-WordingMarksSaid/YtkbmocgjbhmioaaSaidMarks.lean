/- Mark and its reference agree, the texts of marked strings are those strings, Strings and Texts agree, and Authors is the list of the reference implementation, for every input. -/
import Derived.Test.YtkbmocgjbhmioaaTop
import Derived.Test.YtkbmocgjbhmioaaMarks22
namespace Go.Proofs.Ytkbmocgjbhmioaa
open Go.ChangeShapes Go.WideShapes Go.ChangeAt Go.RowKit Go.Deep

namespace wordingMarks
set_option maxRecDepth 100000 in
set_option maxHeartbeats 1600000 in
theorem contract (H : Type) (enc : TypeId × Value → H) (W : World) (base : Nat) (args : Array Value) (ds gs : List (DataW H)) (before : List MemPlace)
    (hval : ∀ (j : Nat) t v, Try.f9.params[j]? = some t → args[j]? = some v → Value.okWide Try.prog W .any base t v)
    (hW : DataW.Whole enc Try.prog Try.f9.params.toList Rows.wordingMarksSpec.vars false W args.toList ds gs before) :
    Calls Try.prog 9 args W fun e W' => ∃ v, e = .returned v ∧ Rows.wordingMarksSpec.post enc Try.prog Try.f9 false true false false W args v W' := by
  have hW' := hW
  obtain ⟨p, q, hA0, hV, rfl, hfz, hnd⟩ := hW
  have hA : DataW.TrodAll enc Try.prog W 0 (fun _ => true) true Try.f9.params.toList args.toList ds p := hA0
  rw [Try.params9] at hA hval
  obtain ⟨v0, vs0, d0, ds0', p0, q0, hargs, rfl, rfl, h0, r0⟩ := trodAll_cons hA
  obtain ⟨v1, vs1, d1, ds1', p1, q1, rfl, rfl, rfl, h1, r1⟩ := trodAll_cons r0
  obtain ⟨v2, vs2, d2, ds2', p2, q2, rfl, rfl, rfl, h2, r2⟩ := trodAll_cons r1
  obtain ⟨v3, vs3, d3, ds3', p3, q3, rfl, rfl, rfl, h3, r3⟩ := trodAll_cons r2
  obtain ⟨v4, vs4, d4, ds4', p4, q4, rfl, rfl, rfl, h4, r4⟩ := trodAll_cons r3
  obtain ⟨rfl, rfl, rfl⟩ := trodAll_nil r4
  obtain rfl : args = #[v0, v1, v2, v3, v4] := by cases args; simp_all
  obtain ⟨rfl, rfl⟩ := trodVars_none hV
  obtain ⟨u0, g0⟩ : ∃ n, DataW.trod enc Try.prog W 0 (fun _ => true) true n strEl.t v0.cells.toList = some (d0, p0) := h0
  obtain ⟨A0, c0, l0, ds0, sp0, e0, hc0, hm0, hs0, hd0, hdl0, hsl0, hR0⟩ := open_sl strEl RStr rd_str g0
  obtain ⟨xa0, xn0, xc0, rfl⟩ := okWide_slice Try.underlying23 (hval 0 23 v0 rfl rfl)
  simp only [Value.cells, List.cons.injEq, and_true, Value.slice.injEq] at e0
  obtain ⟨rfl, rfl, rfl⟩ := e0
  obtain ⟨l1, rfl, rfl, rfl, w1⟩ := open_int Try.underlying3 (hval 1 3 v1 rfl rfl) h1
  obtain ⟨l2, rfl, rfl, rfl, w2⟩ := open_int Try.underlying3 (hval 2 3 v2 rfl rfl) h2
  obtain ⟨l3, rfl, rfl, rfl, w3⟩ := open_int Try.underlying3 (hval 3 3 v3 rfl rfl) h3
  obtain ⟨u4, g4⟩ : ∃ n, DataW.trod enc Try.prog W 0 (fun _ => true) true n wordEl.t v4.cells.toList = some (d4, p4) := h4
  obtain ⟨A4, c4, l4, ds4, sp4, e4, hc4, hm4, hs4, hd4, hdl4, hsl4, hR4⟩ := open_sl wordEl RWord rd_word g4
  obtain ⟨xa4, xn4, xc4, rfl⟩ := okWide_slice Try.underlying22 (hval 4 22 v4 rfl rfl)
  simp only [Value.cells, List.cons.injEq, and_true, Value.slice.injEq] at e4
  obtain ⟨rfl, rfl, rfl⟩ := e4
  refine (marks_law xa0 xa4 xc0 xc4 l0 l4 l1 l2 l3 W hs0 hs4 (Nat.le_trans hc0 hm0) (Nat.le_trans hc4 hm4)).mono fun e W' ⟨he, hx⟩ => ⟨_, he, law_post laidOut (by kernel_rfl) (by kernel_rfl) Try.underlying4 rfl rfl hW' hx⟩

set_option maxRecDepth 100000 in
theorem lifted (os : Os) (started : os.Started) (H : Type) (enc : TypeId × Value → H) :
    ReturnsInHanded {} Try.checked os 9 .any (Rows.wordingMarksSpec.pre6 enc Try.prog Try.f9 Rows.wordingMarksRow.domain false) (Rows.wordingMarksSpec.post enc Try.prog Try.f9 false true false false) := by
  refine returnsInHanded_of_change (C := Try.checked) own started (by kernel_rfl) Try.func9
    (ChangeSpec.witness6 (enc := enc) (C := Try.checked) false ⟨#[], #[.slice none 0 0, .int .i64 0, .int .i64 0, .int .i64 0, .slice none 0 0], []⟩ 8 (by kernel_rfl) (by kernel_rfl) (by kernel_rfl) (by kernel_rfl)) ?_
  intro W base args ds gs before hval hW _ _
  exact contract H enc W base args ds gs before hval hW

theorem proved : Rows.WordingMarksSaid :=
  OpenClaim.holds_of_wide 9 Try.f9 rfl rfl rfl rfl rfl rfl rfl ⟨rfl, rfl, rfl, rfl, rfl⟩ rfl rfl rfl rfl rfl (by kernel_rfl) Try.func9 (by kernel_rfl)
    (of_decide_eq_true (by kernel_rfl)) (by unfold Func.isWrapper; first | (rw [if_pos (by decide +kernel)]; kernel_rfl) | (rw [if_neg (by decide +kernel)]; exact ⟨rfl, rfl⟩))
    (fun os started H enc _ => lifted os started H enc)
end wordingMarks
theorem wordingMarks_holds : Rows.WordingMarksSaid := wordingMarks.proved

end Go.Proofs.Ytkbmocgjbhmioaa
