/- If the marks are distinct and none belongs to the act and item, the marks of the result are distinct, old words keep theirs and new words are numbered in order; where what is read is of bulk at most 1048576. -/
import Derived.Test.YtkbmocgjbhmioaaTop
import Derived.Test.YtkbmocgjbhmioaaUnique
namespace Go.Proofs.Ytkbmocgjbhmioaa
open Go.ChangeShapes Go.WideShapes Go.ChangeAt Go.RowKit Go.Deep

namespace wordingUniqueMarks
set_option maxRecDepth 100000 in
set_option maxHeartbeats 1600000 in
theorem contract (H : Type) (enc : TypeId × Value → H) (W : World) (base : Nat) (args : Array Value) (ds gs : List (DataW H)) (before : List MemPlace)
    (hval : ∀ (j : Nat) t v, Try.f5.params[j]? = some t → args[j]? = some v → Value.okWide Try.prog W .any base t v)
    (hW : DataW.Whole enc Try.prog Try.f5.params.toList Rows.wordingUniqueMarksSpec.vars false W args.toList ds gs before) (hk : Rows.uptoSmall H (ds ++ gs) = true) :
    Calls Try.prog 5 args W fun e W' => ∃ v, e = .returned v ∧ Rows.wordingUniqueMarksSpec.post enc Try.prog Try.f5 false true false false W args v W' := by
  have hW' := hW
  obtain ⟨p, q, hA0, hV, rfl, hfz, hnd⟩ := hW
  have hA : DataW.TrodAll enc Try.prog W 0 (fun _ => true) true Try.f5.params.toList args.toList ds p := hA0
  rw [Try.params5] at hA hval
  obtain ⟨v0, vs0, d0, ds0', p0, q0, hargs, rfl, rfl, h0, r0⟩ := trodAll_cons hA
  obtain ⟨v1, vs1, d1, ds1', p1, q1, rfl, rfl, rfl, h1, r1⟩ := trodAll_cons r0
  obtain ⟨v2, vs2, d2, ds2', p2, q2, rfl, rfl, rfl, h2, r2⟩ := trodAll_cons r1
  obtain ⟨v3, vs3, d3, ds3', p3, q3, rfl, rfl, rfl, h3, r3⟩ := trodAll_cons r2
  obtain ⟨rfl, rfl, rfl⟩ := trodAll_nil r3
  obtain rfl : args = #[v0, v1, v2, v3] := by cases args; simp_all
  obtain ⟨rfl, rfl⟩ := trodVars_none hV
  obtain ⟨u0, g0⟩ : ∃ n, DataW.trod enc Try.prog W 0 (fun _ => true) true n strEl.t v0.cells.toList = some (d0, p0) := h0
  obtain ⟨A0, c0, l0, ds0, sp0, e0, hc0, hm0, hs0, hd0, hdl0, hsl0, hR0⟩ := open_sl strEl RStr rd_str g0
  obtain ⟨xa0, xn0, xc0, rfl⟩ := okWide_slice Try.underlying23 (hval 0 23 v0 rfl rfl)
  simp only [Value.cells, List.cons.injEq, and_true, Value.slice.injEq] at e0
  obtain ⟨rfl, rfl, rfl⟩ := e0
  obtain ⟨u1, g1⟩ : ∃ n, DataW.trod enc Try.prog W 0 (fun _ => true) true n strEl.t v1.cells.toList = some (d1, p1) := h1
  obtain ⟨A1, c1, l1, ds1, sp1, e1, hc1, hm1, hs1, hd1, hdl1, hsl1, hR1⟩ := open_sl strEl RStr rd_str g1
  obtain ⟨xa1, xn1, xc1, rfl⟩ := okWide_slice Try.underlying23 (hval 1 23 v1 rfl rfl)
  simp only [Value.cells, List.cons.injEq, and_true, Value.slice.injEq] at e1
  obtain ⟨rfl, rfl, rfl⟩ := e1
  obtain ⟨u2, g2⟩ : ∃ n, DataW.trod enc Try.prog W 0 (fun _ => true) true n strEl.t v2.cells.toList = some (d2, p2) := h2
  obtain ⟨A2, c2, l2, ds2, sp2, e2, hc2, hm2, hs2, hd2, hdl2, hsl2, hR2⟩ := open_sl strEl RStr rd_str g2
  obtain ⟨xa2, xn2, xc2, rfl⟩ := okWide_slice Try.underlying23 (hval 2 23 v2 rfl rfl)
  simp only [Value.cells, List.cons.injEq, and_true, Value.slice.injEq] at e2
  obtain ⟨rfl, rfl, rfl⟩ := e2
  obtain ⟨l3, rfl, rfl, rfl, w3⟩ := open_int Try.underlying3 (hval 3 3 v3 rfl rfl) h3
  have hbulk := bulk_of hk
  have hb0 : l0.length ≤ 1048576 := bulk_sl hd0 hdl0 (fun h => by rw [h.1]; rfl) hbulk (by simp)
  have hb1 : l1.length ≤ 1048576 := bulk_sl hd1 hdl1 (fun h => by rw [h.1]; rfl) hbulk (by simp)
  have hb2 : l2.length ≤ 1048576 := bulk_sl hd2 hdl2 (fun h => by rw [h.1]; rfl) hbulk (by simp)
  refine (unique_any xa0 xa1 xa2 xc0 xc1 xc2 l0 l1 l2 l3 W hs0 hs1 hs2 hb0 hb1 hb2).mono fun e W' ⟨he, hx⟩ => ⟨_, he, law_post laidOut (by kernel_rfl) (by kernel_rfl) Try.underlying4 rfl rfl hW' hx⟩

set_option maxRecDepth 100000 in
theorem lifted (os : Os) (started : os.Started) (H : Type) (enc : TypeId × Value → H) (F : Stop.Interp) :
    ReturnsInHanded {} Try.checked os 5 .any ((Rows.OpenSpec.upto Rows.wordingUniqueMarksSpec).pre6 enc Try.prog Try.f5 Rows.wordingUniqueMarksUptoRow.domain false) (((Rows.OpenSpec.upto Rows.wordingUniqueMarksSpec).at F).post enc Try.prog Try.f5 false true false false) := by
  refine returnsInHanded_of_cond (C := Try.checked) (s := Rows.OpenSpec.upto Rows.wordingUniqueMarksSpec) (k := Rows.uptoSmall) rfl own started (by kernel_rfl) Try.func5
    (OpenSpec.witness (enc := enc) (C := Try.checked) (s := Rows.OpenSpec.upto Rows.wordingUniqueMarksSpec) (k := Rows.uptoSmall) rfl false ⟨#[], #[.slice none 0 0, .slice none 0 0, .slice none 0 0, .int .i64 0], []⟩ 8 (by kernel_rfl) (by kernel_rfl) (by kernel_rfl)
      (x := ([.nil, .nil, .nil, .lit (.int .i64 0)], [], [])) (by kernel_rfl) rfl (by kernel_rfl)) ?_
  intro W base args ds gs before hval hW _ hk _
  exact contract H enc W base args ds gs before hval hW hk

theorem proved : Rows.WordingUniqueMarksUptoSaid :=
  OpenClaim.holds_of_cond 5 Try.f5 rfl rfl rfl rfl rfl rfl rfl ⟨rfl, rfl, rfl, rfl, rfl⟩ rfl rfl rfl rfl rfl (by kernel_rfl) Try.func5 (by kernel_rfl)
    (of_decide_eq_true (by kernel_rfl)) (by unfold Func.isWrapper; first | (rw [if_pos (by decide +kernel)]; kernel_rfl) | (rw [if_neg (by decide +kernel)]; exact ⟨rfl, rfl⟩))
    (fun os started H enc _ F => lifted os started H enc F)
end wordingUniqueMarks
theorem wordingUniqueMarks_holds : Rows.WordingUniqueMarksUptoSaid := wordingUniqueMarks.proved

end Go.Proofs.Ytkbmocgjbhmioaa
