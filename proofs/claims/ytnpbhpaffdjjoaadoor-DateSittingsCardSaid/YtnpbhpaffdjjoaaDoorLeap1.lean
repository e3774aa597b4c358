/- Leap years, the lengths of years, valid days: the walks. -/
import Derived.Test.YtnpbhpaffdjjoaaDoorProg
import Derived.Test.YtnpbhpaffdjjoaaDoorYear1
import Derived.WalkLawsBesides
import Derived.WalkSpells
import Derived.Lib.Hide
import Derived.Deep.QuietTactic
import Derived.BigQuiet
namespace Go.Proofs.YtnpbhpaffdjjoaaDoor
open Go.RowKit

theorem ret_bool {a b : Bool} (h : a = b) : Ending.returned (.bool a) = .returned (.bool b) := by rw [h]
theorem ret_int {k : IntKind} {a b : Int} (h : a = b) : Ending.returned (.int k a) = .returned (.int k b) := by rw [h]

set_option maxHeartbeats 400000 in
theorem isLeap_any (y : Int) (w : World) : Calls Tryd.prog 15 #[.int .i64 y] w fun e w' => e = .returned (.bool (leapB y)) ∧ w = w' := by
  by_cases h4 : y.tmod 4 = 0
  · have b4 : (y.tmod 4 == 0) = true := by simp [h4]
    by_cases h100 : y.tmod 100 = 0
    · have b100 : (y.tmod 100 != 0) = false := by simp [h100]
      obtain ⟨q, hq⟩ : ∃ q, decide (y.tmod 400 = 0) = q := ⟨_, rfl⟩
      have b400 : (y.tmod 400 == 0) = q := by rw [← hq]; rfl
      have hl : leapB y = q := by simp [leapB, h4, h100, hq]
      rw [hl]
      clear hl hq h4 h100
      go_enter Tryd.func15, Tryd.ntmps15
      go_wp2
      go_ret
      exact ⟨rfl, rfl⟩
    · have b100 : (y.tmod 100 != 0) = true := by simp [h100]
      have hl : leapB y = true := by simp [leapB, h4, h100]
      rw [hl]
      clear hl h4 h100
      go_enter Tryd.func15, Tryd.ntmps15
      go_wp2
      go_ret
      exact ⟨rfl, rfl⟩
  · have b4 : (y.tmod 4 == 0) = false := by simp [h4]
    have hl : leapB y = decide (y.tmod 400 = 0) := by simp [leapB, h4]
    rw [hl]
    clear hl h4
    go_enter Tryd.func15, Tryd.ntmps15
    go_wp2
    go_ret
    exact ⟨rfl, rfl⟩

set_option maxHeartbeats 400000 in
theorem long_any (y : Int) (w : World) : Calls Tryd.prog 16 #[.int .i64 y] w fun e w' => e = .returned (.bool (leapB y)) ∧ w = w' := by
  by_cases h4 : y.tmod 4 = 0
  · have b4 : (y.tmod 4 == 0) = true := by simp [h4]
    by_cases h100 : y.tmod 100 = 0
    · have b100 : (y.tmod 100 != 0) = false := by simp [h100]
      obtain ⟨q, hq⟩ : ∃ q, decide (y.tmod 400 = 0) = q := ⟨_, rfl⟩
      have b400 : (y.tmod 400 == 0) = q := by rw [← hq]; rfl
      have hl : leapB y = q := by simp [leapB, h4, h100, hq]
      rw [hl]
      clear hl hq h4 h100
      go_enter Tryd.func16, Tryd.ntmps16
      go_wp2
      go_ret
      exact ⟨rfl, rfl⟩
    · have b100 : (y.tmod 100 != 0) = true := by simp [h100]
      have hl : leapB y = true := by simp [leapB, h4, h100]
      rw [hl]
      clear hl h4 h100
      go_enter Tryd.func16, Tryd.ntmps16
      go_wp2
      go_ret
      exact ⟨rfl, rfl⟩
  · have b4 : (y.tmod 4 == 0) = false := by simp [h4]
    have hl : leapB y = decide (y.tmod 400 = 0) := by simp [leapB, h4]
    rw [hl]
    clear hl h4
    go_enter Tryd.func16, Tryd.ntmps16
    go_wp2
    go_ret
    exact ⟨rfl, rfl⟩

set_option maxHeartbeats 400000 in
theorem days_any (y : Int) (w : World) : Calls Tryd.prog 28 #[.int .i64 y] w fun e w' => e = .returned (.int .i64 (daysF y)) ∧ w = w' := by
  obtain ⟨q, hq⟩ : ∃ q, leapB y = q := ⟨_, rfl⟩
  have hl := isLeap_any y
  unfold daysF
  rw [hq] at hl ⊢
  clear hq
  have Hl := Lib.hid hl
  clear hl
  go_enter Tryd.func28, Tryd.ntmps28
  cases q
  all_goals
    go_wp2_with (refine (Hl.out _).mono ?_; rintro e w' ⟨rfl, rfl⟩)
    go_ret
    exact ⟨rfl, rfl⟩

set_option maxHeartbeats 400000 in
theorem refDays_any (y : Int) (w : World) : Calls Tryd.prog 31 #[.int .i64 y] w fun e w' => e = .returned (.int .i64 (daysF y)) ∧ w = w' := by
  obtain ⟨q, hq⟩ : ∃ q, leapB y = q := ⟨_, rfl⟩
  have hl := long_any y
  unfold daysF
  rw [hq] at hl ⊢
  clear hq
  have Hl := Lib.hid hl
  clear hl
  go_enter Tryd.func31, Tryd.ntmps31
  cases q
  all_goals
    go_wp2_with (refine (Hl.out _).mono ?_; rintro e w' ⟨rfl, rfl⟩)
    go_ret
    exact ⟨rfl, rfl⟩

def dayB (n : Int) : Bool := decide (0 ≤ n) && decide (n ≤ 1048576)
theorem dayB_iff (n : Int) : dayB n = true ↔ 0 ≤ n ∧ n ≤ 1048576 := by simp [dayB]

set_option maxHeartbeats 400000 in
theorem valid_any (n : Int) (w : World) : Calls Tryd.prog 27 #[.int .i64 n] w fun e w' => e = .returned (.bool (dayB n)) ∧ w = w' := by
  by_cases h0 : 0 ≤ n
  · have d0 : decide (n ≥ 0) = true := decide_eq_true h0
    have hl : dayB n = decide (n ≤ 1048576) := by simp [dayB, h0]
    rw [hl]
    clear hl
    go_enter Tryd.func27, Tryd.ntmps27
    go_wp2
    go_ret
    exact ⟨rfl, rfl⟩
  · have d0 : decide (n ≥ 0) = false := decide_eq_false h0
    have hl : dayB n = false := by simp [dayB, h0]
    rw [hl]
    clear hl
    go_enter Tryd.func27, Tryd.ntmps27
    go_wp2
    go_ret
    exact ⟨rfl, rfl⟩

set_option maxHeartbeats 400000 in
theorem is_any (n : Int) (w : World) : Calls Tryd.prog 10 #[.int .i64 n] w fun e w' => e = .returned (.bool (dayB n)) ∧ w = w' := by
  by_cases h0 : 0 ≤ n
  · have d0 : decide (n ≥ 0) = true := decide_eq_true h0
    have hl : dayB n = decide (n ≤ 1048576) := by simp [dayB, h0]
    rw [hl]
    clear hl
    go_enter Tryd.func10, Tryd.ntmps10
    go_wp2
    go_ret
    exact ⟨rfl, rfl⟩
  · have d0 : decide (n ≥ 0) = false := decide_eq_false h0
    have hl : dayB n = false := by simp [dayB, h0]
    rw [hl]
    clear hl
    go_enter Tryd.func10, Tryd.ntmps10
    go_wp2
    go_ret
    exact ⟨rfl, rfl⟩

end Go.Proofs.YtnpbhpaffdjjoaaDoor
