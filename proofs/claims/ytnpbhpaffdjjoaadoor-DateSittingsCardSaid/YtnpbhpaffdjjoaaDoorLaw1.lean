/- The laws on days: awake, DateWeekdays, DateYears, DateAddYears, DateTexts, DateParses. -/
import Derived.Test.YtnpbhpaffdjjoaaDoorDayLaw1
namespace Go.Proofs.YtnpbhpaffdjjoaaDoor
open Go.RowKit

theorem run_neq_bool (a : Bool) (w : World) : (binOp .neq 4 (.bool a) (.bool a)).run Tryd.prog w = .ok (.bool false) w := by
  have h : ∀ d : Nat, (Op.equalIn (d + 1) 4 (.bool a) (.bool a)).run Tryd.prog w = .ok true w := fun d => by
    simp [Op.equalIn, run_underlying Tryd.underlying4]
  simp only [binOp]
  simp [Op.equal, Op.maxDepth, h 9999]
theorem run_eql_bool (a : Bool) (w : World) : (binOp .eql 4 (.bool a) (.bool a)).run Tryd.prog w = .ok (.bool true) w := by
  have h : ∀ d : Nat, (Op.equalIn (d + 1) 4 (.bool a) (.bool a)).run Tryd.prog w = .ok true w := fun d => by
    simp [Op.equalIn, run_underlying Tryd.underlying4]
  simp only [binOp]
  simp [Op.equal, Op.maxDepth, h 9999]
theorem run_neq_int (t : TypeId) (a : Int) (w : World) : (binOp .neq t (.int .i64 a) (.int .i64 a)).run Tryd.prog w = .ok (.bool false) w := by
  go_simp
theorem run_eql_int (t : TypeId) (a : Int) (w : World) : (binOp .eql t (.int .i64 a) (.int .i64 a)).run Tryd.prog w = .ok (.bool true) w := by
  go_simp

set_option maxHeartbeats 400000 in
theorem awake1_any (w : World) (hT : Tab w) : Calls Tryd.prog 9 #[] w fun e w' => e = .returned (.bool true) ∧ Ext w w' := by
  have h1 := fun w hT => format_yes 0 1900 w (by decide) (by decide) (by unfold IsYear; decide) hT
  have h2 := fun w hT => format_yes 365 1901 w (by decide) (by decide) (by unfold IsYear; decide) hT
  have e1 : textF (1900 : Int).toNat (0 - dy 1900 + 1).toNat = ⟨#[49, 57, 48, 48, 45, 48, 48, 49]⟩ := by decide
  have e2 : textF (1901 : Int).toNat (365 - dy 1901 + 1).toNat = ⟨#[49, 57, 48, 49, 45, 48, 48, 49]⟩ := by decide
  have h3 := isLeap_any 1904
  have h4 := isLeap_any 1900
  rw [show leapB 1904 = true from by decide] at h3
  rw [show leapB 1900 = false from by decide] at h4
  rw [e1] at h1
  rw [e2] at h2
  have H1 := Lib.hid h1
  have H2 := Lib.hid h2
  have H3 := Lib.hid h3
  have H4 := Lib.hid h4
  have HT := Lib.hid hT
  clear h1 h2 h3 h4 e1 e2 hT
  go_enter Tryd.func9, Tryd.ntmps9
  go_wp2_with fail
  refine (H1.out _ HT.out).mono ?_
  rintro e w1 ⟨rfl, hx1⟩
  go_wp2_with fail
  refine (H2.out _ (HT.out.ext hx1)).mono ?_
  rintro e w2 ⟨rfl, hx2⟩
  go_wp2_with fail
  refine (H3.out _).mono ?_
  rintro e w' ⟨rfl, rfl⟩
  go_wp2_with fail
  refine (H4.out _).mono ?_
  rintro e w' ⟨rfl, rfl⟩
  go_wp2
  go_ret
  exact ⟨rfl, hx1.trans hx2⟩

set_option maxHeartbeats 800000 in
theorem dateWeekdays_law (d : Int) (w : World) (hT : Tab w) : Calls Tryd.prog 3 #[.int .i64 d] w fun e w' => e = .returned (.bool true) ∧ Ext w w' := by
  have Ha := Lib.hid (awake1_any w hT)
  have hv := is_any d
  cases hq : dayB d with
  | false =>
    rw [hq] at hv
    have Hw := Lib.hid (weekday_no d · hq)
    have Hv := Lib.hid hv
    clear hv hq hT
    go_enter Tryd.func3, Tryd.ntmps3
    go_wp2_with fail
    refine (Ha.out).mono ?_
    rintro e w1 ⟨rfl, hx1⟩
    go_wp2_with fail
    refine (Hv.out _).mono ?_
    rintro e w' ⟨rfl, rfl⟩
    go_wp2_with fail
    refine (Hw.out _).mono ?_
    rintro e w' ⟨rfl, rfl⟩
    go_wp2
    go_ret
    exact ⟨rfl, hx1⟩
  | true =>
    rw [hq] at hv
    obtain ⟨h0, h1⟩ := (dayB_iff d).1 hq
    have Hv := Lib.hid hv
    have Hw := Lib.hid (weekday_yes d · h0 h1)
    obtain ⟨q, hq7⟩ : ∃ q, d % 7 = q := ⟨_, rfl⟩
    rw [hq7] at Hw
    clear hv hq hT
    by_cases hmx : d + 7 > 1048576
    · have d1 : decide (d + 7 > 1048576) = true := decide_eq_true hmx
      go_enter Tryd.func3, Tryd.ntmps3
      go_wp2_with fail
      refine (Ha.out).mono ?_
      rintro e w1 ⟨rfl, hx1⟩
      go_wp2_with fail
      refine (Hv.out _).mono ?_
      rintro e w' ⟨rfl, rfl⟩
      go_wp2_with fail
      refine (Hw.out _).mono ?_
      rintro e w' ⟨rfl, rfl⟩
      go_wp2
      go_ret
      exact ⟨rfl, hx1⟩
    · have d1 : decide (d + 7 > 1048576) = false := decide_eq_false hmx
      have Hw7 := Lib.hid (weekday_yes (d + 7) · (by omega) (by omega))
      rw [show (d + 7) % 7 = q from by omega] at Hw7
      go_enter Tryd.func3, Tryd.ntmps3
      go_wp2_with fail
      refine (Ha.out).mono ?_
      rintro e w1 ⟨rfl, hx1⟩
      go_wp2_with fail
      refine (Hv.out _).mono ?_
      rintro e w' ⟨rfl, rfl⟩
      go_wp2_with fail
      refine (Hw.out _).mono ?_
      rintro e w' ⟨rfl, rfl⟩
      go_wp2_with fail
      refine (Hw7.out _).mono ?_
      rintro e w' ⟨rfl, rfl⟩
      go_wp2_with fail
      refine (Hw.out _).mono ?_
      rintro e w' ⟨rfl, rfl⟩
      go_wp2
      go_ret
      exact ⟨rfl, hx1⟩

end Go.Proofs.YtnpbhpaffdjjoaaDoor
