/- The year of a day, the start of a year, the day with a number within a year: the walks. -/
import Derived.Test.YtnpbhpaffdjjoaaDoorFirst1
namespace Go.Proofs.YtnpbhpaffdjjoaaDoor
open Go.RowKit

theorem day_year_bd {d y : Int} (h : IsYear d y) (h1 : d ≤ 1048576) : y ≤ 4772 := by
  obtain ⟨a, b, c⟩ := h
  unfold dy at b
  omega

theorem int_eq_of {k : IntKind} {a b : Int} (h : a = b) : Value.int k a = .int k b := by rw [h]

set_option maxHeartbeats 400000 in
theorem yearDay_yes (d y : Int) (w : World) (h0 : 0 ≤ d) (h1 : d ≤ 1048576) (hy : IsYear d y) : Calls Tryd.prog 12 #[.int .i64 d] w fun e w' => e = .returned (.tuple #[.int .i64 y, .int .i64 (d - dy y + 1)]) ∧ w = w' := by
  have hyb := day_year_bd hy h1
  obtain ⟨hy0, hy1, hy2⟩ := hy
  have hv := valid_any d
  have e1 : dayB d = true := (dayB_iff d).2 ⟨h0, h1⟩
  rw [e1] at hv
  have Hv := Lib.hid hv
  clear hv e1
  go_enter Tryd.func12, Tryd.ntmps12
  go_wp2_with (refine (Hv.out _).mono ?_; rintro e w' ⟨rfl, rfl⟩)
  go_loop [0, 4] (fun r k => ∃ j : Int, 1900 ≤ j ∧ j ≤ y ∧ r = .int .i64 (d - dy j) ∧ k = .int .i64 j) (fun _ k => (y - intOf k).toNat)
  case atStart => exact ⟨1900, by omega, hy0, by rw [dy_1900, Int.sub_zero], rfl⟩
  case round =>
    obtain ⟨j, hj0, hj1, rfl, rfl⟩ := hrel
    obtain ⟨b2, b3⟩ := dy_bd j hj0 (by omega)
    have hs := dy_succ j (by omega)
    obtain ⟨c0, c1⟩ := daysF_bd j
    by_cases hlt : j < y
    · have hm := dy_mono (j + 1) y (by omega)
      have d1 : daysF j ≤ d - dy j := by omega
      have b4 : 0 ≤ d - dy j := by omega
      have b5 : d - dy j ≤ 1048576 := by omega
      have Hs := Lib.hid hs
      clear hs hm
      go_wp2_with (refine (days_any _ _).mono ?_; rintro e w' ⟨rfl, rfl⟩)
      go_round
      case rel => exact ⟨j + 1, by omega, by omega, by rw [Hs.out]; exact int_eq_of (by omega), rfl⟩
      case measure => simp [intOf]; omega
    · obtain rfl : j = y := by omega
      have d1 : ¬ daysF j ≤ d - dy j := by omega
      have b4 : 0 ≤ d - dy j := by omega
      have b5 : d - dy j ≤ 1048576 := by omega
      clear hs
      go_wp2_with (refine (days_any _ _).mono ?_; rintro e w' ⟨rfl, rfl⟩)
      go_ret2
      exact ⟨rfl, rfl⟩

set_option maxHeartbeats 400000 in
theorem refYear_yes (d y : Int) (w : World) (h0 : 0 ≤ d) (h1 : d ≤ 1048576) (hy : IsYear d y) : Calls Tryd.prog 17 #[.int .i64 d] w fun e w' => e = .returned (.tuple #[.int .i64 y, .int .i64 (d - dy y + 1)]) ∧ w = w' := by
  have hyb := day_year_bd hy h1
  obtain ⟨hy0, hy1, hy2⟩ := hy
  go_enter Tryd.func17, Tryd.ntmps17
  go_wp2
  go_loop [0, 4] (fun r k => ∃ j : Int, 1900 ≤ j ∧ j ≤ y ∧ r = .int .i64 (d - dy j) ∧ k = .int .i64 j) (fun _ k => (y - intOf k).toNat)
  case atStart => exact ⟨1900, by omega, hy0, by rw [dy_1900, Int.sub_zero], rfl⟩
  case round =>
    obtain ⟨j, hj0, hj1, rfl, rfl⟩ := hrel
    obtain ⟨b2, b3⟩ := dy_bd j hj0 (by omega)
    have hs := dy_succ j (by omega)
    obtain ⟨c0, c1⟩ := daysF_bd j
    by_cases hlt : j < y
    · have hm := dy_mono (j + 1) y (by omega)
      have d1 : daysF j ≤ d - dy j := by omega
      have b4 : 0 ≤ d - dy j := by omega
      have b5 : d - dy j ≤ 1048576 := by omega
      have Hs := Lib.hid hs
      clear hs hm
      go_wp2_with (refine (refDays_any _ _).mono ?_; rintro e w' ⟨rfl, rfl⟩)
      go_round
      case rel => exact ⟨j + 1, by omega, by omega, by rw [Hs.out]; exact int_eq_of (by omega), rfl⟩
      case measure => simp [intOf]; omega
    · obtain rfl : j = y := by omega
      have d1 : ¬ daysF j ≤ d - dy j := by omega
      have b4 : 0 ≤ d - dy j := by omega
      have b5 : d - dy j ≤ 1048576 := by omega
      clear hs
      go_wp2_with (refine (refDays_any _ _).mono ?_; rintro e w' ⟨rfl, rfl⟩)
      go_ret2
      exact ⟨rfl, rfl⟩

set_option maxHeartbeats 400000 in
theorem yearDay_no (d : Int) (w : World) (h : dayB d = false) : Calls Tryd.prog 12 #[.int .i64 d] w fun e w' => e = .returned (.tuple #[.int .i64 0, .int .i64 0]) ∧ w = w' := by
  have hv := valid_any d
  rw [h] at hv
  have Hv := Lib.hid hv
  clear hv h
  go_enter Tryd.func12, Tryd.ntmps12
  go_wp2_with (refine (Hv.out _).mono ?_; rintro e w' ⟨rfl, rfl⟩)
  go_ret2
  exact ⟨rfl, rfl⟩

def startB (y : Int) : Bool := decide (1900 ≤ y) && decide (dy y ≤ 1048576)
def startF (y : Int) : Int := if startB y = true then dy y else 0

set_option maxHeartbeats 400000 in
theorem start_any (y : Int) (w : World) : Calls Tryd.prog 13 #[.int .i64 y] w fun e w' => e = .returned (.tuple #[.int .i64 (startF y), .bool (startB y)]) ∧ w = w' := by
  unfold startF
  by_cases h0 : y < 1900
  · have d0 : decide (y < 1900) = true := decide_eq_true h0
    have e1 : startB y = false := by simp [startB]; omega
    rw [e1]
    clear e1
    go_enter Tryd.func13, Tryd.ntmps13
    go_wp2
    go_ret2
    exact ⟨rfl, rfl⟩
  · have d0 : decide (y < 1900) = false := decide_eq_false h0
    by_cases h1 : y ≤ 4772
    · have d1 : decide (y > 4772) = false := decide_eq_false (by omega)
      have e1 : startB y = dayB (dy y) := by
        have := (dy_bd y (by omega) (by omega)).1
        simp [startB, dayB, this]; omega
      rw [e1]
      obtain ⟨q, hq⟩ : ∃ q, dayB (dy y) = q := ⟨_, rfl⟩
      have hv := valid_any (dy y)
      rw [hq] at hv ⊢
      have Hv := Lib.hid hv
      have Hf := Lib.hid (fun w => first_any y w (by omega) (by omega))
      clear e1 hq hv
      go_enter Tryd.func13, Tryd.ntmps13
      cases q
      all_goals
        go_wp2_with (first | ((with_reducible refine (Hf.out _).mono ?_); rintro e w' ⟨rfl, rfl⟩) | (refine (Hv.out _).mono ?_; rintro e w' ⟨rfl, rfl⟩))
        go_ret2
        exact ⟨rfl, rfl⟩
    · have d1 : decide (y > 4772) = true := decide_eq_true (by omega)
      have e1 : startB y = false := by
        have h2 := dy_mono 4773 y (by omega)
        have h3 : dy 4773 = 1049342 := by decide
        simp only [startB, Bool.and_eq_false_iff, decide_eq_false_iff_not]
        omega
      rw [e1]
      clear e1
      go_enter Tryd.func13, Tryd.ntmps13
      go_wp2
      go_ret2
      exact ⟨rfl, rfl⟩

set_option maxHeartbeats 400000 in
theorem refStart_any (y : Int) (w : World) : Calls Tryd.prog 14 #[.int .i64 y] w fun e w' => e = .returned (.tuple #[.int .i64 (startF y), .bool (startB y)]) ∧ w = w' := by
  unfold startF
  by_cases h0 : y < 1900
  · have d0 : decide (y < 1900) = true := decide_eq_true h0
    have e1 : startB y = false := by simp [startB]; omega
    rw [e1]
    clear e1
    go_enter Tryd.func14, Tryd.ntmps14
    go_wp2
    go_ret2
    exact ⟨rfl, rfl⟩
  · have d0 : decide (y < 1900) = false := decide_eq_false h0
    by_cases h1 : y ≤ 5000
    · have d1 : decide (y > 5000) = false := decide_eq_false (by omega)
      have e1 : startB y = dayB (dy y) := by
        have := (dy_bd y (by omega) (by omega)).1
        simp [startB, dayB, this]; omega
      rw [e1]
      obtain ⟨q, hq⟩ : ∃ q, dayB (dy y) = q := ⟨_, rfl⟩
      have hv := is_any (dy y)
      rw [hq] at hv ⊢
      have Hv := Lib.hid hv
      have Hf := Lib.hid (fun w => refFirst_any y w (by omega) (by omega))
      clear e1 hq hv
      go_enter Tryd.func14, Tryd.ntmps14
      cases q
      all_goals
        go_wp2_with (first | ((with_reducible refine (Hf.out _).mono ?_); rintro e w' ⟨rfl, rfl⟩) | (refine (Hv.out _).mono ?_; rintro e w' ⟨rfl, rfl⟩))
        go_ret2
        exact ⟨rfl, rfl⟩
    · have d1 : decide (y > 5000) = true := decide_eq_true (by omega)
      have e1 : startB y = false := by
        have h2 := dy_mono 4773 y (by omega)
        have h3 : dy 4773 = 1049342 := by decide
        simp only [startB, Bool.and_eq_false_iff, decide_eq_false_iff_not]
        omega
      rw [e1]
      clear e1
      go_enter Tryd.func14, Tryd.ntmps14
      go_wp2
      go_ret2
      exact ⟨rfl, rfl⟩

def atB (y o : Int) : Bool := startB y && (decide (1 ≤ o) && (decide (o ≤ daysF y) && dayB (dy y + o - 1)))
def atF (y o : Int) : Int := if atB y o = true then dy y + o - 1 else 0
theorem startB_bd {y : Int} (h : startB y = true) : 0 ≤ dy y ∧ dy y ≤ 1048576 ∧ 1900 ≤ y := by
  simp only [startB, Bool.and_eq_true, decide_eq_true_eq] at h
  have := dy_mono 1900 y h.1
  have := dy_1900
  omega

set_option maxHeartbeats 800000 in
theorem at_any (y o : Int) (w : World) : Calls Tryd.prog 33 #[.int .i64 y, .int .i64 o] w fun e w' => e = .returned (.tuple #[.int .i64 (atF y o), .bool (atB y o)]) ∧ w = w' := by
  unfold atF
  have hs := start_any y
  unfold startF at hs
  obtain ⟨s, hs0⟩ : ∃ s, startB y = s := ⟨_, rfl⟩
  rw [hs0] at hs
  have Hs := Lib.hid hs
  clear hs
  cases s
  · have e1 : atB y o = false := by simp [atB, hs0]
    rw [e1]
    clear e1 hs0
    go_enter Tryd.func33, Tryd.ntmps33
    go_wp2_with (refine (Hs.out _).mono ?_; rintro e w' ⟨rfl, rfl⟩)
    go_ret2
    exact ⟨rfl, rfl⟩
  · obtain ⟨b0, b1, b2⟩ := startB_bd hs0
    obtain ⟨c0, c1⟩ := daysF_bd y
    by_cases h1 : 1 ≤ o
    · have d1 : decide (o < 1) = false := decide_eq_false (by omega)
      by_cases h2 : o ≤ daysF y
      · have d2 : decide (o > daysF y) = false := decide_eq_false (by omega)
        have e1 : atB y o = dayB (dy y + o - 1) := by simp [atB, hs0, h1, h2]
        obtain ⟨q, hq⟩ : ∃ q, dayB (dy y + o - 1) = q := ⟨_, rfl⟩
        have hv := valid_any (dy y + o - 1)
        rw [e1]
        rw [hq] at hv ⊢
        have Hv := Lib.hid hv
        clear e1 hq hv hs0
        go_enter Tryd.func33, Tryd.ntmps33
        cases q
        all_goals
          go_wp2_with (first | ((with_reducible refine (Hs.out _).mono ?_); rintro e w' ⟨rfl, rfl⟩) | ((with_reducible refine (Hv.out _).mono ?_); rintro e w' ⟨rfl, rfl⟩) | (refine (days_any _ _).mono ?_; rintro e w' ⟨rfl, rfl⟩))
          go_ret2
          exact ⟨rfl, rfl⟩
      · have d2 : decide (o > daysF y) = true := decide_eq_true (by omega)
        have e1 : atB y o = false := by simp [atB, h2]
        rw [e1]
        clear e1 hs0
        go_enter Tryd.func33, Tryd.ntmps33
        go_wp2_with (first | ((with_reducible refine (Hs.out _).mono ?_); rintro e w' ⟨rfl, rfl⟩) | (refine (days_any _ _).mono ?_; rintro e w' ⟨rfl, rfl⟩))
        go_ret2
        exact ⟨rfl, rfl⟩
    · have d1 : decide (o < 1) = true := decide_eq_true (by omega)
      have e1 : atB y o = false := by simp [atB, h1]
      rw [e1]
      clear e1 hs0
      go_enter Tryd.func33, Tryd.ntmps33
      go_wp2_with (refine (Hs.out _).mono ?_; rintro e w' ⟨rfl, rfl⟩)
      go_ret2
      exact ⟨rfl, rfl⟩

set_option maxHeartbeats 800000 in
theorem refAt_any (y o : Int) (w : World) : Calls Tryd.prog 34 #[.int .i64 y, .int .i64 o] w fun e w' => e = .returned (.tuple #[.int .i64 (atF y o), .bool (atB y o)]) ∧ w = w' := by
  unfold atF
  have hs := refStart_any y
  unfold startF at hs
  obtain ⟨s, hs0⟩ : ∃ s, startB y = s := ⟨_, rfl⟩
  rw [hs0] at hs
  have Hs := Lib.hid hs
  clear hs
  cases s
  · have e1 : atB y o = false := by simp [atB, hs0]
    rw [e1]
    clear e1 hs0
    go_enter Tryd.func34, Tryd.ntmps34
    go_wp2_with (refine (Hs.out _).mono ?_; rintro e w' ⟨rfl, rfl⟩)
    go_ret2
    exact ⟨rfl, rfl⟩
  · obtain ⟨b0, b1, b2⟩ := startB_bd hs0
    obtain ⟨c0, c1⟩ := daysF_bd y
    by_cases h1 : 1 ≤ o
    · have d1 : decide (o < 1) = false := decide_eq_false (by omega)
      by_cases h2 : o ≤ daysF y
      · have d2 : decide (o > daysF y) = false := decide_eq_false (by omega)
        have e1 : atB y o = dayB (dy y + o - 1) := by simp [atB, hs0, h1, h2]
        obtain ⟨q, hq⟩ : ∃ q, dayB (dy y + o - 1) = q := ⟨_, rfl⟩
        have hv := is_any (dy y + o - 1)
        rw [e1]
        rw [hq] at hv ⊢
        have Hv := Lib.hid hv
        clear e1 hq hv hs0
        go_enter Tryd.func34, Tryd.ntmps34
        cases q
        all_goals
          go_wp2_with (first | ((with_reducible refine (Hs.out _).mono ?_); rintro e w' ⟨rfl, rfl⟩) | ((with_reducible refine (Hv.out _).mono ?_); rintro e w' ⟨rfl, rfl⟩) | (refine (refDays_any _ _).mono ?_; rintro e w' ⟨rfl, rfl⟩))
          go_ret2
          exact ⟨rfl, rfl⟩
      · have d2 : decide (o > daysF y) = true := decide_eq_true (by omega)
        have e1 : atB y o = false := by simp [atB, h2]
        rw [e1]
        clear e1 hs0
        go_enter Tryd.func34, Tryd.ntmps34
        go_wp2_with (first | ((with_reducible refine (Hs.out _).mono ?_); rintro e w' ⟨rfl, rfl⟩) | (refine (refDays_any _ _).mono ?_; rintro e w' ⟨rfl, rfl⟩))
        go_ret2
        exact ⟨rfl, rfl⟩
    · have d1 : decide (o < 1) = true := decide_eq_true (by omega)
      have e1 : atB y o = false := by simp [atB, h1]
      rw [e1]
      clear e1 hs0
      go_enter Tryd.func34, Tryd.ntmps34
      go_wp2_with (refine (Hs.out _).mono ?_; rintro e w' ⟨rfl, rfl⟩)
      go_ret2
      exact ⟨rfl, rfl⟩

end Go.Proofs.YtnpbhpaffdjjoaaDoor
