/- Years and days, in plain numbers: the first day of a year, the year of a day. -/
import Derived.WalkKit
namespace Go.Proofs.YtnpbhpaffdjjoaaDoor

def leapB (y : Int) : Bool := (decide (y.tmod 4 = 0) && !decide (y.tmod 100 = 0)) || decide (y.tmod 400 = 0)
def daysF (y : Int) : Int := if leapB y = true then 366 else 365
/-- the first day of a year, from 1900 on -/
def dy (y : Int) : Int := 365 * (y - 1900) + (y - 1) / 4 - (y - 1) / 100 + (y - 1) / 400 - 460
theorem leapB_iff (y : Int) (h : 0 ≤ y) : leapB y = true ↔ (y % 4 = 0 ∧ y % 100 ≠ 0) ∨ y % 400 = 0 := by
  simp [leapB, Int.tmod_eq_emod_of_nonneg h]
theorem daysF_bd (y : Int) : 365 ≤ daysF y ∧ daysF y ≤ 366 := by
  unfold daysF; split <;> omega
theorem dy_succ (y : Int) (h : 1 ≤ y) : dy (y + 1) = dy y + daysF y := by
  have hl := leapB_iff y (by omega)
  unfold daysF dy
  by_cases h2 : leapB y = true
  · rw [if_pos h2]
    rw [hl] at h2
    omega
  · rw [if_neg h2]
    rw [hl] at h2
    omega
theorem dy_cycle (y : Int) : dy (y + 400) = dy y + 146097 := by unfold dy; omega
theorem dy_mono (a b : Int) (hb : a ≤ b) : dy a ≤ dy b := by unfold dy; omega
theorem dy_lt (a b : Int) (hb : a < b) : dy a < dy b := by unfold dy; omega
theorem dy_1900 : dy 1900 = 0 := by decide
/-- the year of a day -/
def IsYear (d y : Int) : Prop := 1900 ≤ y ∧ dy y ≤ d ∧ d < dy (y + 1)
theorem year_below (n : Nat) : ∀ d : Int, 0 ≤ d → d < dy (1900 + n) → ∃ y, IsYear d y ∧ y < 1900 + n := by
  induction n with
  | zero =>
    intro d h0 h1
    have := dy_1900
    simp only [Int.natCast_zero, Int.add_zero] at h1
    omega
  | succ n ih =>
    intro d h0 h1
    by_cases h : d < dy (1900 + n)
    · obtain ⟨y, hy, hl⟩ := ih d h0 h
      exact ⟨y, hy, by omega⟩
    · exact ⟨1900 + n, ⟨by omega, by omega, by rw [show (1900 : Int) + n + 1 = 1900 + ((n + 1 : Nat) : Int) from by omega]; exact h1⟩, by omega⟩
theorem exists_year (d : Int) (h0 : 0 ≤ d) (h1 : d ≤ 1048576) : ∃ y, IsYear d y ∧ y ≤ 4772 := by
  obtain ⟨y, hy, hl⟩ := year_below 2873 d h0 (by have : dy (1900 + (2873 : Nat)) = 1049342 := by decide
                                                 omega)
  exact ⟨y, hy, by omega⟩
theorem year_unique {d y z : Int} (h : IsYear d y) (k : IsYear d z) : y = z := by
  obtain ⟨_, h1, h2⟩ := h
  obtain ⟨_, k1, k2⟩ := k
  rcases Int.lt_trichotomy y z with hl | hl | hl
  · have := dy_mono (y + 1) z (by omega); omega
  · exact hl
  · have := dy_mono (z + 1) y (by omega); omega

end Go.Proofs.YtnpbhpaffdjjoaaDoor
