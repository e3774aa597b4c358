/- AddYears, Add, Weekday: the walks. -/
import Derived.Test.YtnpbhpaffdjjoaaDoorRefParse1
namespace Go.Proofs.YtnpbhpaffdjjoaaDoor
open Go.RowKit

/-- the day with the number o, or the last one, of a year -/
def addN (y o : Int) : Int := atF y (min o (daysF y))
def addB (y o : Int) : Bool := atB y (min o (daysF y))

set_option maxHeartbeats 800000 in
theorem add_yes (d y k : Int) (w : World) (h0 : 0 ≤ d) (h1 : d ≤ 1048576) (hy : IsYear d y) (k0 : -3000 ≤ k) (k1 : k ≤ 3000) :
    Calls Tryd.prog 21 #[.int .i64 d, .int .i64 k] w fun e w' => e = .returned (.tuple #[.int .i64 (addN (y + k) (d - dy y + 1)), .bool (addB (y + k) (d - dy y + 1))]) ∧ w = w' := by
  have hv := valid_any d
  rw [(dayB_iff d).2 ⟨h0, h1⟩] at hv
  have hyd := fun w => yearDay_yes d y w h0 h1 hy
  obtain ⟨Y, O, rfl, e2, b1, b2, b3, b4⟩ := year_parts h1 hy
  rw [e2] at hyd ⊢
  have hdy := days_any (Y + k)
  have ha := at_any (Y + k) (min O (daysF (Y + k)))
  unfold addN addB
  have c1 := daysF_bd (Y + k)
  obtain ⟨D, hD⟩ : ∃ D, daysF (Y + k) = D := ⟨_, rfl⟩
  rw [hD] at hdy ha c1 ⊢
  obtain ⟨M, hM⟩ : ∃ M, min (O : Int) D = M := ⟨_, rfl⟩
  rw [hM] at ha ⊢
  have Hv := Lib.hid hv
  have Hyd := Lib.hid hyd
  have Hdy := Lib.hid hdy
  have Ha := Lib.hid ha
  have d1 : decide (k < -3000) = false := decide_eq_false (by omega)
  have d2 : decide (k > 3000) = false := decide_eq_false (by omega)
  clear hv hyd hdy ha hD e2 hy b4
  go_enter Tryd.func21, Tryd.ntmps21
  go_wp2_with fail
  refine (Hv.out _).mono ?_
  rintro e w' ⟨rfl, rfl⟩
  go_wp2_with fail
  refine (Hyd.out _).mono ?_
  rintro e w' ⟨rfl, rfl⟩
  go_wp2_with fail
  refine (Hdy.out _).mono ?_
  rintro e w' ⟨rfl, rfl⟩
  go_wp2_with fail
  refine (Ha.out _).mono ?_
  rintro e w' ⟨rfl, rfl⟩
  go_wp2
  go_ret2
  exact ⟨rfl, rfl⟩
set_option maxHeartbeats 800000 in
theorem refAdd_yes (d y k : Int) (w : World) (h0 : 0 ≤ d) (h1 : d ≤ 1048576) (hy : IsYear d y) (k0 : -3000 ≤ k) (k1 : k ≤ 3000) :
    Calls Tryd.prog 22 #[.int .i64 d, .int .i64 k] w fun e w' => e = .returned (.tuple #[.int .i64 (addN (y + k) (d - dy y + 1)), .bool (addB (y + k) (d - dy y + 1))]) ∧ w = w' := by
  have hv := is_any d
  rw [(dayB_iff d).2 ⟨h0, h1⟩] at hv
  have hyd := fun w => refYear_yes d y w h0 h1 hy
  obtain ⟨Y, O, rfl, e2, b1, b2, b3, b4⟩ := year_parts h1 hy
  rw [e2] at hyd ⊢
  have hdy := refDays_any (Y + k)
  have ha := refAt_any (Y + k) (min O (daysF (Y + k)))
  unfold addN addB
  have c1 := daysF_bd (Y + k)
  have hno : (Y : Int) + k < 1900 → ∀ o, atB (Y + k) o = false := fun h o => by
    have : startB (Y + k) = false := by
      simp only [startB, Bool.and_eq_false_iff, decide_eq_false_iff_not]
      omega
    simp [atB, this]
  have d1 : decide (k < -3000) = false := decide_eq_false (by omega)
  have d2 : decide (k > 3000) = false := decide_eq_false (by omega)
  have Hv := Lib.hid hv
  have Hyd := Lib.hid hyd
  clear hv hyd
  by_cases hlow : (Y : Int) + k < 1900
  · have e1 := hno hlow (min O (daysF (Y + k)))
    unfold atF
    rw [e1]
    have d3 : decide ((Y : Int) + k < 1900) = true := decide_eq_true hlow
    clear e1 ha hdy hno hy e2 b4 c1
    go_enter Tryd.func22, Tryd.ntmps22
    go_wp2_with fail
    refine (Hv.out _).mono ?_
    rintro e w' ⟨rfl, rfl⟩
    go_wp2_with fail
    refine (Hyd.out _).mono ?_
    rintro e w' ⟨rfl, rfl⟩
    go_wp2
    go_ret2
    exact ⟨rfl, rfl⟩
  · have d3 : decide ((Y : Int) + k < 1900) = false := decide_eq_false hlow
    obtain ⟨D, hD⟩ : ∃ D, daysF (Y + k) = D := ⟨_, rfl⟩
    rw [hD] at hdy ha c1 ⊢
    have Hdy := Lib.hid hdy
    clear hdy hD e2 hy b4 hno
    by_cases hgt : D < (O : Int)
    · have d4 : decide ((O : Int) > D) = true := decide_eq_true hgt
      rw [show min (O : Int) D = D from by omega] at ha ⊢
      have Ha := Lib.hid ha
      clear ha
      go_enter Tryd.func22, Tryd.ntmps22
      go_wp2_with (first | ((with_reducible refine (Hv.out _).mono ?_); rintro e w' ⟨rfl, rfl⟩) | ((with_reducible refine (Hyd.out _).mono ?_); rintro e w' ⟨rfl, rfl⟩) | ((with_reducible refine (Hdy.out _).mono ?_); rintro e w' ⟨rfl, rfl⟩) | (refine (Ha.out _).mono ?_; rintro e w' ⟨rfl, rfl⟩))
      go_ret2
      exact ⟨rfl, rfl⟩
    · have d4 : decide ((O : Int) > D) = false := decide_eq_false hgt
      rw [show min (O : Int) D = O from by omega] at ha ⊢
      have Ha := Lib.hid ha
      clear ha
      go_enter Tryd.func22, Tryd.ntmps22
      go_wp2_with (first | ((with_reducible refine (Hv.out _).mono ?_); rintro e w' ⟨rfl, rfl⟩) | ((with_reducible refine (Hyd.out _).mono ?_); rintro e w' ⟨rfl, rfl⟩) | ((with_reducible refine (Hdy.out _).mono ?_); rintro e w' ⟨rfl, rfl⟩) | (refine (Ha.out _).mono ?_; rintro e w' ⟨rfl, rfl⟩))
      go_ret2
      exact ⟨rfl, rfl⟩
def addOk (d k : Int) : Bool := dayB d && (decide (-3000 ≤ k) && decide (k ≤ 3000))
set_option maxHeartbeats 400000 in
theorem add_no (d k : Int) (w : World) (h : addOk d k = false) : Calls Tryd.prog 21 #[.int .i64 d, .int .i64 k] w fun e w' => e = .returned (.tuple #[.int .i64 0, .bool false]) ∧ w = w' := by
  have hv := valid_any d
  unfold addOk at h
  cases hq : dayB d
  · rw [hq] at hv
    have Hv := Lib.hid hv
    clear hv h hq
    go_enter Tryd.func21, Tryd.ntmps21
    go_wp2_with (refine (Hv.out _).mono ?_; rintro e w' ⟨rfl, rfl⟩)
    go_ret2
    exact ⟨rfl, rfl⟩
  · rw [hq] at hv h
    have Hv := Lib.hid hv
    clear hv hq
    by_cases k0 : -3000 ≤ k
    · have k1 : ¬ k ≤ 3000 := by
        intro h2
        simp [k0, h2] at h
      have d1 : decide (k < -3000) = false := decide_eq_false (by omega)
      have d2 : decide (k > 3000) = true := decide_eq_true (by omega)
      clear h
      go_enter Tryd.func21, Tryd.ntmps21
      go_wp2_with (refine (Hv.out _).mono ?_; rintro e w' ⟨rfl, rfl⟩)
      go_ret2
      exact ⟨rfl, rfl⟩
    · have d1 : decide (k < -3000) = true := decide_eq_true (by omega)
      clear h
      go_enter Tryd.func21, Tryd.ntmps21
      go_wp2_with (refine (Hv.out _).mono ?_; rintro e w' ⟨rfl, rfl⟩)
      go_ret2
      exact ⟨rfl, rfl⟩
set_option maxHeartbeats 400000 in
theorem refAdd_no (d k : Int) (w : World) (h : addOk d k = false) : Calls Tryd.prog 22 #[.int .i64 d, .int .i64 k] w fun e w' => e = .returned (.tuple #[.int .i64 0, .bool false]) ∧ w = w' := by
  have hv := is_any d
  unfold addOk at h
  cases hq : dayB d
  · rw [hq] at hv
    have Hv := Lib.hid hv
    clear hv h hq
    go_enter Tryd.func22, Tryd.ntmps22
    go_wp2_with (refine (Hv.out _).mono ?_; rintro e w' ⟨rfl, rfl⟩)
    go_ret2
    exact ⟨rfl, rfl⟩
  · rw [hq] at hv h
    have Hv := Lib.hid hv
    clear hv hq
    by_cases k0 : -3000 ≤ k
    · have k1 : ¬ k ≤ 3000 := by
        intro h2
        simp [k0, h2] at h
      have d1 : decide (k < -3000) = false := decide_eq_false (by omega)
      have d2 : decide (k > 3000) = true := decide_eq_true (by omega)
      clear h
      go_enter Tryd.func22, Tryd.ntmps22
      go_wp2_with (refine (Hv.out _).mono ?_; rintro e w' ⟨rfl, rfl⟩)
      go_ret2
      exact ⟨rfl, rfl⟩
    · have d1 : decide (k < -3000) = true := decide_eq_true (by omega)
      clear h
      go_enter Tryd.func22, Tryd.ntmps22
      go_wp2_with (refine (Hv.out _).mono ?_; rintro e w' ⟨rfl, rfl⟩)
      go_ret2
      exact ⟨rfl, rfl⟩
set_option maxHeartbeats 400000 in
theorem weekday_yes (d : Int) (w : World) (h0 : 0 ≤ d) (h1 : d ≤ 1048576) : Calls Tryd.prog 11 #[.int .i64 d] w fun e w' => e = .returned (.int .i64 (d % 7)) ∧ w = w' := by
  have hv := valid_any d
  rw [(dayB_iff d).2 ⟨h0, h1⟩] at hv
  have Hv := Lib.hid hv
  clear hv
  go_enter Tryd.func11, Tryd.ntmps11
  go_wp2_with (refine (Hv.out _).mono ?_; rintro e w' ⟨rfl, rfl⟩)
  go_ret
  exact ⟨rfl, rfl⟩
set_option maxHeartbeats 400000 in
theorem weekday_no (d : Int) (w : World) (h : dayB d = false) : Calls Tryd.prog 11 #[.int .i64 d] w fun e w' => e = .returned (.int .i64 (-1)) ∧ w = w' := by
  have hv := valid_any d
  rw [h] at hv
  have Hv := Lib.hid hv
  clear hv h
  go_enter Tryd.func11, Tryd.ntmps11
  go_wp2_with (refine (Hv.out _).mono ?_; rintro e w' ⟨rfl, rfl⟩)
  go_ret
  exact ⟨rfl, rfl⟩

end Go.Proofs.YtnpbhpaffdjjoaaDoor
