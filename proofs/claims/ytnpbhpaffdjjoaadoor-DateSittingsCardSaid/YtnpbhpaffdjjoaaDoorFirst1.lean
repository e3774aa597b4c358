/- The first day of a year: the walks. -/
import Derived.Test.YtnpbhpaffdjjoaaDoorLeap1
import Derived.WalkMore
import Derived.ScopeJumps
namespace Go.Proofs.YtnpbhpaffdjjoaaDoor
open Go.RowKit

theorem dy_bd (y : Int) (h0 : 1900 ≤ y) (h1 : y ≤ 5001) : 0 ≤ dy y ∧ dy y ≤ 1200000 := by unfold dy; omega

set_option maxHeartbeats 400000 in
theorem refFirst_any (Y : Int) (w : World) (h0 : 1900 ≤ Y) (h1 : Y ≤ 5000) : Calls Tryd.prog 30 #[.int .i64 Y] w fun e w' => e = .returned (.int .i64 (dy Y)) ∧ w = w' := by
  go_enter Tryd.func30, Tryd.ntmps30
  go_wp2
  go_loop [3, 4] (fun n y => ∃ k : Int, 1900 ≤ k ∧ k ≤ Y ∧ n = .int .i64 (dy k) ∧ y = .int .i64 k) (fun _ y => (Y - intOf y).toNat)
  case atStart => exact ⟨1900, by omega, h0, by rw [dy_1900], rfl⟩
  case round =>
    obtain ⟨k, hk0, hk1, rfl, rfl⟩ := hrel
    obtain ⟨b0, b1⟩ := dy_bd k hk0 (by omega)
    by_cases hlt : k < Y
    · have hs := Lib.hid (dy_succ k (by omega))
      obtain ⟨c0, c1⟩ := daysF_bd k
      go_wp2_with (refine (refDays_any _ _).mono ?_; rintro e w' ⟨rfl, rfl⟩)
      go_round
      case rel => exact ⟨k + 1, by omega, by omega, by rw [hs.out], rfl⟩
      case measure => simp [intOf]; omega
    · obtain rfl : k = Y := by omega
      go_wp2
      go_ret
      exact ⟨rfl, rfl⟩

theorem dy_2300 : dy 2300 = 146097 := by decide

set_option maxHeartbeats 800000 in
set_option maxRecDepth 100000 in
theorem first_any (Y : Int) (w : World) (h0 : 1900 ≤ Y) (h1 : Y ≤ 5000) : Calls Tryd.prog 29 #[.int .i64 Y] w fun e w' => e = .returned (.int .i64 (dy Y)) ∧ w = w' := by
  go_enter Tryd.func29, Tryd.ntmps29
  go_wp2
  refine wp_scope_jumps 0 (fun a' w' => w' = w ∧ ∃ (k : Int) (u5 u6 u7 u8 u9 u10 u11 u12 : Value), a' = { tmps := #[.int .i64 Y, undef, .int .i64 0, .int .i64 (dy k), .int .i64 k, u5, u6, u7, u8, u9, u10, u11, u12, undef, undef, undef, undef, undef, undef, undef, undef, undef, undef], defers := [] } ∧ 1900 ≤ k ∧ k ≤ Y) (fun a' _ => (Y - intOf (a'.tmps.getD 4 undef)).toNat) rfl ?_ ?_
  · go_wp2
    go_step3
    by_cases hc : 1900 + 400 ≤ Y
    · go_wp2
      go_step3
      rw [← dy_2300]
      exact ⟨rfl, rfl, 2300, _, _, _, _, _, _, _, _, rfl, by omega, by omega⟩
    · go_wp2
      go_loop [3, 4] (fun n y => ∃ j : Int, 1900 ≤ j ∧ j ≤ Y ∧ n = .int .i64 (dy j) ∧ y = .int .i64 j) (fun _ y => (Y - intOf y).toNat)
      case atStart => exact ⟨1900, by omega, by omega, by rw [dy_1900], rfl⟩
      case round =>
        obtain ⟨j, hj0, hj1, rfl, rfl⟩ := hrel
        obtain ⟨b2, b3⟩ := dy_bd j hj0 (by omega)
        by_cases hlt : j < Y
        · have hs := Lib.hid (dy_succ j (by omega))
          obtain ⟨c0, c1⟩ := daysF_bd j
          go_wp2_with (refine (days_any _ _).mono ?_; rintro e w' ⟨rfl, rfl⟩)
          go_round
          case rel => exact ⟨j + 1, by omega, by omega, by rw [hs.out], rfl⟩
          case measure => simp [intOf]; omega
        · obtain rfl : j = Y := by omega
          go_wp2
          simp only [Exit.jump]
          go_ret
          exact ⟨rfl, rfl⟩
  · rintro a' w' ⟨rfl, k, u5, u6, u7, u8, u9, u10, u11, u12, rfl, hk0, hk1⟩
    obtain ⟨b0, b1⟩ := dy_bd k hk0 (by omega)
    by_cases hc : k + 400 ≤ Y
    · go_wp2
      go_step3
      rw [← dy_cycle]
      exact ⟨rfl, ⟨rfl, k + 400, _, _, _, _, _, _, _, _, rfl, by omega, by omega⟩, by simp [intOf]; omega⟩
    · go_wp2
      go_loop [3, 4] (fun n y => ∃ j : Int, 1900 ≤ j ∧ j ≤ Y ∧ n = .int .i64 (dy j) ∧ y = .int .i64 j) (fun _ y => (Y - intOf y).toNat)
      case atStart => exact ⟨k, by omega, by omega, rfl, rfl⟩
      case round =>
        obtain ⟨j, hj0, hj1, rfl, rfl⟩ := hrel
        obtain ⟨b2, b3⟩ := dy_bd j hj0 (by omega)
        by_cases hlt : j < Y
        · have hs := Lib.hid (dy_succ j (by omega))
          obtain ⟨c0, c1⟩ := daysF_bd j
          go_wp2_with (refine (days_any _ _).mono ?_; rintro e w' ⟨rfl, rfl⟩)
          go_round
          case rel => exact ⟨j + 1, by omega, by omega, by rw [hs.out], rfl⟩
          case measure => simp [intOf]; omega
        · obtain rfl : j = Y := by omega
          go_wp2
          simp only [Exit.jump]
          go_ret
          exact ⟨rfl, rfl⟩

end Go.Proofs.YtnpbhpaffdjjoaaDoor
