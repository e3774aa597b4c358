/- No valid lines are fewer than the result of Greedy, and none of its lines can take another word, for every input. -/
import Derived.Test.YtdglijpooodlnaaTopS54
import Derived.Test.YtdglijpooodlnaaLawE54
namespace Go.Proofs.Ytdglijpooodlnaa
open Go.ChangeShapes Go.WideShapes Go.ChangeAt Go.RowKit Go.Deep

namespace linebreakGreedy
set_option maxRecDepth 100000 in
set_option maxHeartbeats 1600000 in
theorem contract (H : Type) (enc : TypeId × Value → H) (W : World) (base : Nat) (args : Array Value) (ds gs : List (DataW H)) (before : List MemPlace)
    (hval : ∀ (j : Nat) t v, Try.f7.params[j]? = some t → args[j]? = some v → Value.okWide Try.prog W .any base t v)
    (hW : DataW.Whole enc Try.prog Try.f7.params.toList Rows.linebreakGreedySpec.vars false W args.toList ds gs before) :
    Calls Try.prog 7 args W fun e W' => ∃ v, e = .returned v ∧ Rows.linebreakGreedySpec.post enc Try.prog Try.f7 false true false false W args v W' := by
  have hW' := hW
  obtain ⟨p, q, hA0, hV, rfl, hfz, hnd⟩ := hW
  have hA : DataW.TrodAll enc Try.prog W 0 (fun _ => true) true Try.f7.params.toList args.toList ds p := hA0
  rw [Try.params7] at hA hval
  obtain ⟨v0, vs0, d0, ds0', p0, q0, hargs, rfl, rfl, h0, r0⟩ := trodAll_cons hA
  obtain ⟨v1, vs1, d1, ds1', p1, q1, rfl, rfl, rfl, h1, r1⟩ := trodAll_cons r0
  obtain ⟨v2, vs2, d2, ds2', p2, q2, rfl, rfl, rfl, h2, r2⟩ := trodAll_cons r1
  obtain ⟨rfl, rfl, rfl⟩ := trodAll_nil r2
  obtain rfl : args = #[v0, v1, v2] := by cases args; simp_all
  obtain ⟨rfl, rfl⟩ := trodVars_none hV
  obtain ⟨l0, rfl, rfl, rfl, w0⟩ := open_int Try.underlying3 (hval 0 3 v0 rfl rfl) h0
  obtain ⟨u1, g1⟩ : ∃ n, DataW.trod enc Try.prog W 0 (fun _ => true) true n intEl.t v1.cells.toList = some (d1, p1) := h1
  obtain ⟨A1, c1, l1, ds1, sp1, e1, hc1, hm1, hs1, hd1, hdl1, hsl1, hR1⟩ := open_sl intEl RInt rd_int g1
  obtain ⟨xa1, xn1, xc1, rfl⟩ := okWide_slice Try.underlying25 (hval 1 25 v1 rfl rfl)
  simp only [Value.cells, List.cons.injEq, and_true, Value.slice.injEq] at e1
  obtain ⟨rfl, rfl, rfl⟩ := e1
  obtain ⟨u2, g2⟩ : ∃ n, DataW.trod enc Try.prog W 0 (fun _ => true) true n strEl.t v2.cells.toList = some (d2, p2) := h2
  obtain ⟨A2, c2, l2, ds2, sp2, e2, hc2, hm2, hs2, hd2, hdl2, hsl2, hR2⟩ := open_sl strEl RStr rd_str g2
  obtain ⟨xa2, xn2, xc2, rfl⟩ := okWide_slice Try.underlying22 (hval 2 22 v2 rfl rfl)
  simp only [Value.cells, List.cons.injEq, and_true, Value.slice.injEq] at e2
  obtain ⟨rfl, rfl, rfl⟩ := e2
  refine (greedy_law l0 xa1 xc1 l1 xa2 xc2 l2 W hs2 hs1 hc2 (Nat.le_trans hc2 hm2) (Nat.le_trans hc1 hm1)).mono fun e W' ⟨he, hx⟩ => ⟨_, he, law_post laidOut (by kernel_rfl) (by kernel_rfl) Try.underlying4 rfl rfl hW' hx⟩

set_option maxRecDepth 100000 in
theorem lifted (os : Os) (started : os.Started) (H : Type) (enc : TypeId × Value → H) :
    ReturnsInHanded {} Try.checked os 7 .any (Rows.linebreakGreedySpec.pre6 enc Try.prog Try.f7 Rows.linebreakGreedyRow.domain false) (Rows.linebreakGreedySpec.post enc Try.prog Try.f7 false true false false) := by
  refine returnsInHanded_of_change (C := Try.checked) own started (by kernel_rfl) Try.func7
    (ChangeSpec.witness6 (enc := enc) (C := Try.checked) false ⟨#[], #[.int .i64 0, .slice none 0 0, .slice none 0 0], []⟩ 8 (by kernel_rfl) (by kernel_rfl) (by kernel_rfl) (by kernel_rfl)) ?_
  intro W base args ds gs before hval hW _ _
  exact contract H enc W base args ds gs before hval hW

theorem proved : Rows.LinebreakGreedySaid :=
  OpenClaim.holds_of_wide 7 Try.f7 rfl rfl rfl rfl rfl rfl rfl ⟨rfl, rfl, rfl, rfl, rfl⟩ rfl rfl rfl rfl rfl (by kernel_rfl) Try.func7 (by kernel_rfl)
    (of_decide_eq_true (by kernel_rfl)) (by unfold Func.isWrapper; first | (rw [if_pos (by decide +kernel)]; kernel_rfl) | (rw [if_neg (by decide +kernel)]; exact ⟨rfl, rfl⟩))
    (fun os started H enc _ => lifted os started H enc)
end linebreakGreedy
theorem linebreakGreedy_holds : Rows.LinebreakGreedySaid := linebreakGreedy.proved

end Go.Proofs.Ytdglijpooodlnaa
