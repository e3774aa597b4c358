/- The reference's Size and Has. -/
import Derived.Test.YthjlnpcanccmkaaMay9
namespace Go.Proofs.Ythjlnpcanccmkaa
open Go.RowKit

set_option maxRecDepth 100000 in
set_option maxHeartbeats 1600000 in
theorem refSize_any (u : GUnit) (r : RUnit) (w : World) (hr : Reads w u r) (hln : AllU (lensLe 9223372036854775807 9223372036854775807) u) : Calls Try.prog 21 #[.agg r.cells.toArray] w fun e w' => e = .returned (.tuple #[.int .i64 (rowsF u), .int .i64 (colsF u)]) ∧ Ext w w' := by
  have he0 : Ext w (w.alloc (.cells r.cells.toArray 27)) := (Ext.refl _).alloc _
  have hv := may_any u r _ (Reads.ext he0 _ _ hr) hln
  have hbu := fun w' he => boxUnit (w' := w') r (w := w) he
  have hbx := fun w' he => boxT (w' := w') r (w := w) he
  cases hvb : validB u with
  | false =>
    have e1 : rowsF u = 0 := by simp [rowsF, hvb]
    have e2 : colsF u = 0 := by simp [colsF, hvb]
    rw [e1, e2]
    rw [hvb] at hv
    simp only [RUnit.cells] at hv he0 hbu hbx ⊢
    have Hv := Lib.hid hv
    clear hv hvb e1 e2 hr hbu hbx
    go_enter Try.func21, Try.ntmps21
    go_wp2_with fail
    refine (Hv.out).mono ?_
    rintro e w2 ⟨rfl, hx2⟩
    go_wp2
    go_ret2
    exact ⟨rfl, he0.trans hx2⟩
  | true =>
    obtain ⟨hv1, hv2, hv3, hv4⟩ := validB_parts hvb
    have e1 : rowsF u = u.kids.length := by simp [rowsF, hvb]
    have e2 : colsF u = ncols u := by simp [colsF, hvb]
    rw [e1, e2]
    rw [hvb] at hv
    have hnc : ∀ us, ReadsAll w u.kids us → ∀ h : 0 < us.length, us[0].kn = ncols u := fun us h1 h2 => first_row h1 h2
    obtain ⟨a, i, n, kd, lb, hl, wl, kids⟩ := u
    rw [Reads] at hr
    obtain ⟨-, -, -, hkn, hkc, us, hus, hall⟩ := hr
    obtain ⟨ra, ri, rn, rk, rl, hdA, hn, hc, wA, wn, wc, kA, kn, kc⟩ := r
    dsimp only at hkn hkc hus
    simp only [GUnit.kids] at hnc hv2 ⊢
    have hul := ReadsAll.length hall
    rw [← hul] at hkn hkc hv2 ⊢
    subst hkn
    have hpos : 0 < us.length := by omega
    obtain ⟨q0, hq0⟩ : ∃ q0, us[0]? = some q0 := ⟨_, List.getElem?_eq_getElem hpos⟩
    have hq0k : us[0] = q0 := (List.getElem?_eq_some_iff.1 hq0).2
    have hn0 := hnc us hall hpos
    rw [hq0k] at hn0
    rw [← hn0]
    simp only [RUnit.cells] at hv he0 hbu hbx ⊢
    have Hv := Lib.hid hv
    have Hq0 := Lib.hid hq0
    obtain ⟨wb, hwb⟩ : ∃ wb, w.alloc (.cells #[.int .i64 ra, .int .i64 ri, .int .i64 rn, .int .i64 rk, .string rl, .slice hdA hn hc, .slice wA wn wc, .slice kA us.length kc] 27) = wb := ⟨_, rfl⟩
    rw [hwb] at Hv he0 hbx
    have Hwb := Lib.hid hwb
    have Hbx := Lib.hid hbx
    obtain ⟨hp1, hp2⟩ := hv2
    clear hv hvb e1 e2 hnc hn0 hq0k hq0 hul hall hv1 hv3 hv4 hbu hbx hwb hln
    go_enter Try.func21, Try.ntmps21
    go_wp2_with fail
    rw [Hwb.out]
    refine (Hv.out).mono ?_
    rintro e w1 ⟨rfl, hx1⟩
    have husr := hus.ext (he0.trans hx1)
    go_wp2
    refine wp_drawn (by kernel_rfl) (fun i => match i with | 0 => TCells [.slice kA us.length kc] | 1 => Ty.is (.slice kA us.length kc) | 2 => Ty.is (.int .i64 us.length) | 3 => TCells [.slice kA us.length kc] | 4 => Ty.is (.slice kA us.length kc) | 5 => TCells [.int .i64 q0.a, .int .i64 q0.i, .int .i64 q0.n, .int .i64 q0.kind, .string q0.label, .slice q0.hA q0.hn q0.hc, .slice q0.wA q0.wn q0.wc, .slice q0.kA q0.kn q0.kc] | 6 => TCells [.slice q0.kA q0.kn q0.kc] | 7 => Ty.is (.slice q0.kA q0.kn q0.kc) | 8 => Ty.is (.int .i64 q0.kn) | 9 => Ty.is (.int .i64 us.length) | 10 => Ty.is (.int .i64 q0.kn) | _ => Ty.any) (by kernel_rfl) rfl ?_
    intro v
    refine ⟨?_, ?_, ?_, ?_, ?_, ?_, ?_, ?_, ?_, ?_, ?_, ?_⟩
    · intro wq hq hd
      refine ob_plain rfl ?_
      exact yld_field 27 5 (.tmp 1) rfl _ Try.underlying27 _ rfl 1 Try.sizeOf25 (by decide) [.int .i64 ra, .int .i64 ri, .int .i64 rn, .int .i64 rk, .string rl, .slice hdA hn hc, .slice wA wn wc, .slice kA us.length kc] (Hbx.out _ (hx1.trans hq))
    · intro wq hq hd
      obtain ⟨h0, -⟩ := hd
      change (TCells [.slice kA us.length kc]).p (v 0) wq at h0
      refine ob_plain rfl ?_
      exact yld_loadOne 25 (.tmp 7) rfl Try.isAgg25 (c := .slice kA us.length kc) h0 rfl
    · intro wq hq hd
      obtain ⟨h0, -⟩ := hd
      change v 1 = _ at h0
      refine ob_plain rfl ?_
      exact yld_len (.tmp 8) 25 _ Try.underlying25 rfl _ _ _ h0 rfl
    · intro wq hq hd
      refine ob_plain rfl ?_
      exact yld_field 27 5 (.tmp 1) rfl _ Try.underlying27 _ rfl 1 Try.sizeOf25 (by decide) [.int .i64 ra, .int .i64 ri, .int .i64 rn, .int .i64 rk, .string rl, .slice hdA hn hc, .slice wA wn wc, .slice kA us.length kc] (Hbx.out _ (hx1.trans hq))
    · intro wq hq hd
      obtain ⟨h0, -⟩ := hd
      change (TCells [.slice kA us.length kc]).p (v 3) wq at h0
      refine ob_plain rfl ?_
      exact yld_loadOne 25 (.tmp 10) rfl Try.isAgg25 (c := .slice kA us.length kc) h0 rfl
    · intro wq hq hd
      obtain ⟨h0, -⟩ := hd
      change v 4 = _ at h0
      refine ob_plain rfl ?_
      exact yld_indexAt unitEl (.tmp 11) _ rfl kA us _ h0 0 rfl (husr.ext hq) q0 Hq0.out
    · intro wq hq hd
      obtain ⟨h0, -⟩ := hd
      change (TCells [.int .i64 q0.a, .int .i64 q0.i, .int .i64 q0.n, .int .i64 q0.kind, .string q0.label, .slice q0.hA q0.hn q0.hc, .slice q0.wA q0.wn q0.wc, .slice q0.kA q0.kn q0.kc]).p (v 5) wq at h0
      refine ob_plain rfl ?_
      exact yld_field 27 5 (.tmp 12) rfl _ Try.underlying27 _ rfl 1 Try.sizeOf25 (by decide) [.int .i64 q0.a, .int .i64 q0.i, .int .i64 q0.n, .int .i64 q0.kind, .string q0.label, .slice q0.hA q0.hn q0.hc, .slice q0.wA q0.wn q0.wc, .slice q0.kA q0.kn q0.kc] (h0)
    · intro wq hq hd
      obtain ⟨h0, -⟩ := hd
      change (TCells [.slice q0.kA q0.kn q0.kc]).p (v 6) wq at h0
      refine ob_plain rfl ?_
      exact yld_loadOne 25 (.tmp 13) rfl Try.isAgg25 (c := .slice q0.kA q0.kn q0.kc) h0 rfl
    · intro wq hq hd
      obtain ⟨h0, -⟩ := hd
      change v 7 = _ at h0
      refine ob_plain rfl ?_
      exact yld_len (.tmp 14) 25 _ Try.underlying25 rfl _ _ _ h0 rfl
    · intro wq hq hd
      obtain ⟨h0, h1, h2, h3, -⟩ := hd
      change v 2 = _ at h0
      refine ob_plain rfl ?_
      exact yld_assign (.tmp 9) rfl h0 rfl
    · intro wq hq hd
      obtain ⟨h0, h1, h2, h3, h4, h5, h6, h7, h8, h9, h10, h11, -⟩ := hd
      change v 8 = _ at h0
      refine ob_plain rfl ?_
      exact yld_assign (.tmp 15) rfl h0 rfl
    · intro wq hq hT
      have k9 := hT 9 (by decide)
      change v 9 = _ at k9
      have k10 := hT 10 (by decide)
      change v 10 = _ at k10
      clear hT
      simp only [List.drop_succ_cons, List.drop_zero, putE, setsE, List.set_cons_succ, List.set_cons_zero, Nat.reduceAdd]
      rw [k9]
      rw [k10]
      go_wp2
      go_ret2
      exact ⟨rfl, (he0.trans hx1).trans hq⟩

theorem thereB_split (u : GUnit) (row col : Int) : thereB u row col = (((decide (0 ≤ row) && decide (row < (rowsF u : Int))) && decide (0 ≤ col)) && decide (col < (colsF u : Int))) := by
  unfold thereB withinB
  rw [Bool.and_assoc, Bool.and_assoc, Bool.and_assoc]

set_option maxRecDepth 100000 in
set_option maxHeartbeats 1600000 in
theorem has_any (u : GUnit) (r : RUnit) (row col : Int) (w : World) (hr : Reads w u r) (hln : AllU (lensLe 9223372036854775807 9223372036854775807) u) : Calls Try.prog 24 #[.agg r.cells.toArray, .int .i64 row, .int .i64 col] w fun e w' => e = .returned (.bool (thereB u row col)) ∧ Ext w w' := by
  have he0 : Ext w (w.alloc (.cells r.cells.toArray 27)) := (Ext.refl _).alloc _
  have hv := refSize_any u r _ (Reads.ext he0 _ _ hr) hln
  rw [thereB_split]
  obtain ⟨R, hR⟩ : ∃ R, rowsF u = R := ⟨_, rfl⟩
  obtain ⟨C, hC⟩ : ∃ C, colsF u = C := ⟨_, rfl⟩
  rw [hR] at hv ⊢
  rw [hC] at hv ⊢
  simp only [RUnit.cells] at hv he0 ⊢
  have Hv := Lib.hid hv
  clear hv hR hC hr hln
  by_cases h1 : 0 ≤ row
  case neg =>
    have d1 : decide (row ≥ 0) = false := decide_eq_false h1
    rw [decide_eq_false h1, Bool.false_and, Bool.false_and, Bool.false_and]
    clear h1
    go_enter Try.func24, Try.ntmps24
    go_wp2_with fail
    refine (Hv.out).mono ?_
    rintro e w2 ⟨rfl, hx2⟩
    go_wp2
    go_ret
    exact ⟨rfl, he0.trans hx2⟩
  have d1 : decide (row ≥ 0) = true := decide_eq_true h1
  rw [decide_eq_true h1]
  by_cases h2 : row < (R : Int)
  case neg =>
    have d2 : decide (row < (R : Int)) = false := decide_eq_false h2
    rw [d2, Bool.and_false, Bool.false_and, Bool.false_and]
    clear h1 h2
    go_enter Try.func24, Try.ntmps24
    go_wp2_with fail
    refine (Hv.out).mono ?_
    rintro e w2 ⟨rfl, hx2⟩
    go_wp2
    go_ret
    exact ⟨rfl, he0.trans hx2⟩
  have d2 : decide (row < (R : Int)) = true := decide_eq_true h2
  rw [d2]
  by_cases h3 : 0 ≤ col
  case neg =>
    have d3 : decide (col ≥ 0) = false := decide_eq_false h3
    rw [decide_eq_false h3, Bool.and_false, Bool.false_and]
    clear h1 h2 h3
    go_enter Try.func24, Try.ntmps24
    go_wp2_with fail
    refine (Hv.out).mono ?_
    rintro e w2 ⟨rfl, hx2⟩
    go_wp2
    go_ret
    exact ⟨rfl, he0.trans hx2⟩
  have d3 : decide (col ≥ 0) = true := decide_eq_true h3
  rw [decide_eq_true h3]
  by_cases h4 : col < (C : Int)
  case neg =>
    have d4 : decide (col < (C : Int)) = false := decide_eq_false h4
    rw [d4, Bool.and_false]
    clear h1 h2 h3 h4
    go_enter Try.func24, Try.ntmps24
    go_wp2_with fail
    refine (Hv.out).mono ?_
    rintro e w2 ⟨rfl, hx2⟩
    go_wp2
    go_ret
    exact ⟨rfl, he0.trans hx2⟩
  have d4 : decide (col < (C : Int)) = true := decide_eq_true h4
  rw [d4]
  clear h1 h2 h3 h4
  go_enter Try.func24, Try.ntmps24
  go_wp2_with fail
  refine (Hv.out).mono ?_
  rintro e w2 ⟨rfl, hx2⟩
  go_wp2
  go_ret
  exact ⟨rfl, he0.trans hx2⟩

end Go.Proofs.Ythjlnpcanccmkaa
