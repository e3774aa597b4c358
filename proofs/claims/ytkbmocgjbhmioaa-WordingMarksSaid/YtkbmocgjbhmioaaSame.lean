/- Same and slices.Equal on lists of strings, Rows on lists of words: true exactly if the lists are equal; only draws are left behind. -/
import Derived.Test.YtkbmocgjbhmioaaCmp
namespace Go.Proofs.Ytkbmocgjbhmioaa
open Go.RowKit

set_option maxRecDepth 100000 in
set_option maxHeartbeats 400000 in
theorem same_any (A B : Option Addr) (c d : Nat) (xs ys : List ByteArray) (w : World) (hx : Sl strEl w A xs) (hy : Sl strEl w B ys) (hn : xs.length ≤ 9223372036854775807) :
    Calls Try.prog 21 #[.slice A xs.length c, .slice B ys.length d] w fun e w' => e = .returned (.bool (decide (xs = ys))) ∧ ∃ m, w' = w.drewN m := by
  by_cases hl : xs.length = ys.length
  · have hle : ((xs.length : Int) != (ys.length : Int)) = false := by simp [hl]
    have Hl := Lib.hid hl
    clear hl
    go_enter Try.func21, Try.ntmps21
    go_wp2
    go_loopw [5] (fun i wr => ∃ k : Nat, k ≤ xs.length ∧ i = .int .i64 k ∧ xs.take k = ys.take k ∧ ∃ m, wr = w.drewN m) (fun i _ => xs.length - (intOf i).toNat)
    case atStart => exact ⟨0, Nat.zero_le _, rfl, rfl, 0, rfl⟩
    case round =>
      obtain ⟨k, hk, rfl, heq, m, rfl⟩ := hrel
      have Heq := Lib.hid heq
      clear heq
      by_cases hlt : k < xs.length
      · have hlt' : k < ys.length := by rw [← Hl.out]; exact hlt
        obtain ⟨b, off, rfl, hb, hc0⟩ := strAt hx hlt
        obtain ⟨b', off', rfl, hb', hd0⟩ := strAt hy hlt'
        obtain ⟨s, hs⟩ : ∃ s, xs[k] = s := ⟨_, rfl⟩
        obtain ⟨s', hs'⟩ : ∃ s, ys[k] = s := ⟨_, rfl⟩
        rw [hs] at hc0
        rw [hs'] at hd0
        have Hs := Lib.hid hs
        have Hs' := Lib.hid hs'
        clear hs hs'
        by_cases he : s = s'
        · have hbq : (s.toList == s'.toList) = true := by rw [beq_bytes]; simp [he]
          have He := Lib.hid he
          clear he
          go_wp2
          go_quiet (fail)
          go_wp2
          go_roundw
          case rel => exact ⟨k + 1, by omega, by go_num, (take_succ_eq_iff hlt hlt').2 ⟨Heq.out, by rw [Hs.out, Hs'.out, He.out]⟩, _, rfl⟩
          case measure => simp [intOf]; omega
        · have hbq : (s.toList == s'.toList) = false := by rw [beq_bytes]; simp [he]
          go_wp2
          go_quiet (fail)
          go_wp2
          go_ret
          refine ⟨ret_bool (decide_eq_false ?_).symm, _, World.drewN_drewN _ _ _⟩
          rintro rfl
          exact he (Hs.out.symm.trans Hs'.out)
      · obtain rfl : k = xs.length := by omega
        go_wp2
        go_ret
        refine ⟨ret_bool (decide_eq_true ?_).symm, _, rfl⟩
        have := Heq.out
        rwa [List.take_length, Hl.out, List.take_length] at this
  · have hle : ((xs.length : Int) != (ys.length : Int)) = true := by simp; omega
    go_enter Try.func21, Try.ntmps21
    go_wp2
    go_ret
    refine ⟨ret_bool (decide_eq_false ?_).symm, 0, rfl⟩
    rintro rfl
    exact hl rfl

set_option maxRecDepth 100000 in
set_option maxHeartbeats 400000 in
theorem equal_any (A B : Option Addr) (c d : Nat) (xs ys : List ByteArray) (w : World) (hx : Sl strEl w A xs) (hy : Sl strEl w B ys) (hn : xs.length ≤ 9223372036854775807) :
    Calls Try.prog 62 #[.slice A xs.length c, .slice B ys.length d] w fun e w' => e = .returned (.bool (decide (xs = ys))) ∧ ∃ m, w' = w.drewN m := by
  by_cases hl : xs.length = ys.length
  · have hle : ((xs.length : Int) != (ys.length : Int)) = false := by simp [hl]
    have Hl := Lib.hid hl
    clear hl
    go_enter Try.func62, Try.ntmps62
    go_wp2
    go_loopw [5, 13] (fun u5 i wr => ∃ k : Nat, k ≤ xs.length ∧ i = .int .i64 k ∧ xs.take k = ys.take k ∧ ∃ m, wr = w.drewN m) (fun _ i _ => xs.length - (intOf i).toNat)
    case atStart => exact ⟨0, Nat.zero_le _, rfl, rfl, 0, rfl⟩
    case round =>
      obtain ⟨k, hk, rfl, heq, m, rfl⟩ := hrel
      have Heq := Lib.hid heq
      clear heq
      by_cases hlt : k < xs.length
      · have hlt' : k < ys.length := by rw [← Hl.out]; exact hlt
        obtain ⟨b, off, rfl, hb, hc0⟩ := strAt hx hlt
        obtain ⟨b', off', rfl, hb', hd0⟩ := strAt hy hlt'
        obtain ⟨s, hs⟩ : ∃ s, xs[k] = s := ⟨_, rfl⟩
        obtain ⟨s', hs'⟩ : ∃ s, ys[k] = s := ⟨_, rfl⟩
        rw [hs] at hc0
        rw [hs'] at hd0
        have Hs := Lib.hid hs
        have Hs' := Lib.hid hs'
        clear hs hs'
        by_cases he : s = s'
        · have hbq : (s.toList == s'.toList) = true := by rw [beq_bytes]; simp [he]
          have He := Lib.hid he
          clear he
          go_wp2
          go_quiet (fail)
          go_wp2
          go_roundw
          case rel => exact ⟨k + 1, by omega, by go_num, (take_succ_eq_iff hlt hlt').2 ⟨Heq.out, by rw [Hs.out, Hs'.out, He.out]⟩, _, rfl⟩
          case measure => simp [intOf]; omega
        · have hbq : (s.toList == s'.toList) = false := by rw [beq_bytes]; simp [he]
          go_wp2
          go_quiet (fail)
          go_wp2
          go_ret
          refine ⟨ret_bool (decide_eq_false ?_).symm, _, World.drewN_drewN _ _ _⟩
          rintro rfl
          exact he (Hs.out.symm.trans Hs'.out)
      · obtain rfl : k = xs.length := by omega
        go_wp2
        go_ret
        refine ⟨ret_bool (decide_eq_true ?_).symm, _, rfl⟩
        have := Heq.out
        rwa [List.take_length, Hl.out, List.take_length] at this
  · have hle : ((xs.length : Int) != (ys.length : Int)) = true := by simp; omega
    go_enter Try.func62, Try.ntmps62
    go_wp2
    go_ret
    refine ⟨ret_bool (decide_eq_false ?_).symm, 0, rfl⟩
    rintro rfl
    exact hl rfl

set_option maxRecDepth 100000 in
set_option maxHeartbeats 400000 in
theorem rows_any (A B : Option Addr) (c d : Nat) (xs ys : List GWord) (w : World) (hx : Sl wordEl w A xs) (hy : Sl wordEl w B ys) (hn : xs.length ≤ 9223372036854775807) :
    Calls Try.prog 14 #[.slice A xs.length c, .slice B ys.length d] w fun e w' => e = .returned (.bool (decide (xs = ys))) ∧ ∃ m, w' = w.drewN m := by
  by_cases hl : xs.length = ys.length
  · have hle : ((xs.length : Int) != (ys.length : Int)) = false := by simp [hl]
    have Hl := Lib.hid hl
    clear hl
    go_enter Try.func14, Try.ntmps14
    go_wp2
    go_loopw [5] (fun i wr => ∃ k : Nat, k ≤ xs.length ∧ i = .int .i64 k ∧ xs.take k = ys.take k ∧ ∃ m, wr = w.drewN m) (fun i _ => xs.length - (intOf i).toNat)
    case atStart => exact ⟨0, Nat.zero_le _, rfl, rfl, 0, rfl⟩
    case round =>
      obtain ⟨k, hk, rfl, heq, m, rfl⟩ := hrel
      have Heq := Lib.hid heq
      clear heq
      by_cases hlt : k < xs.length
      · have hlt' : k < ys.length := by rw [← Hl.out]; exact hlt
        obtain ⟨b, off, rfl, hb, hc0, hc1, hc2, hc3⟩ := wordAt hx hlt
        obtain ⟨b', off', rfl, hb', hd0, hd1, hd2, hd3⟩ := wordAt hy hlt'
        obtain ⟨s, hs⟩ : ∃ s, xs[k] = s := ⟨_, rfl⟩
        obtain ⟨s', hs'⟩ : ∃ s, ys[k] = s := ⟨_, rfl⟩
        rw [hs] at hc0 hc1 hc2 hc3
        rw [hs'] at hd0 hd1 hd2 hd3
        have Hs := Lib.hid hs
        have Hs' := Lib.hid hs'
        clear hs hs'
        by_cases he : s = s'
        · have hq := fun W => (wordNeq W s s').trans (by rw [decide_eq_true he])
          have He := Lib.hid he
          clear he
          go_wp2
          go_quiet (fail)
          go_wp2
          go_roundw
          case rel => exact ⟨k + 1, by omega, by go_num, (take_succ_eq_iff hlt hlt').2 ⟨Heq.out, by rw [Hs.out, Hs'.out, He.out]⟩, _, rfl⟩
          case measure => simp [intOf]; omega
        · have hq := fun W => (wordNeq W s s').trans (by rw [decide_eq_false he])
          go_wp2
          go_quiet (fail)
          go_wp2
          go_ret
          refine ⟨ret_bool (decide_eq_false ?_).symm, _, World.drewN_drewN _ _ _⟩
          rintro rfl
          exact he (Hs.out.symm.trans Hs'.out)
      · obtain rfl : k = xs.length := by omega
        go_wp2
        go_ret
        refine ⟨ret_bool (decide_eq_true ?_).symm, _, rfl⟩
        have := Heq.out
        rwa [List.take_length, Hl.out, List.take_length] at this
  · have hle : ((xs.length : Int) != (ys.length : Int)) = true := by simp; omega
    go_enter Try.func14, Try.ntmps14
    go_wp2
    go_ret
    refine ⟨ret_bool (decide_eq_false ?_).symm, 0, rfl⟩
    rintro rfl
    exact hl rfl


end Go.Proofs.Ytkbmocgjbhmioaa
