/- The reference's Rises, Sitting of both: the walks. -/
import Derived.Test.YtnpbhpaffdjjoaaDoorSitW1
import Derived.Test.YtnpbhpaffdjjoaaDoorFormW1
namespace Go.Proofs.YtnpbhpaffdjjoaaDoor
open Go.RowKit

theorem is_any' (n : Int) (w : World) : Calls Tryd.prog 10 #[.int .i64 n] w fun e w' => e = .returned (.bool (dayB n)) ∧ w' = w := (is_any n w).mono fun _ _ ⟨h, h'⟩ => ⟨h, h'.symm⟩

set_option maxRecDepth 100000 in
set_option maxHeartbeats 1600000 in
theorem refRises_any (A : Option Addr) (c : Nat) (l : List Int) (w : World) (hs : Sl intEl w A l) (hn : l.length ≤ 9223372036854775807) :
    Calls Tryd.prog 20 #[.slice A l.length c] w fun e w' => e = .returned (.bool (risesB l)) ∧ Ext w w' := by
  go_enter Tryd.func20, Tryd.ntmps20
  go_wp2
  go_loopw [3] (fun i wr => ∃ (k : Nat) (x : Int), k ≤ l.length ∧ i = .int .i64 k ∧ Hid (risB (-1) l = risB x (l.drop k)) ∧ Hid ((k = 0 ∧ x = -1) ∨ ∃ j, k = j + 1 ∧ l[j]? = some x) ∧ Ext w wr) (fun i _ => l.length - (intOf i).toNat)
  case atStart => exact ⟨0, -1, Nat.zero_le _, rfl, Lib.hid rfl, Lib.hid (.inl ⟨rfl, rfl⟩), Ext.refl _⟩
  case round =>
    obtain ⟨k, x, hk, rfl, Hk, Hx, hext⟩ := hrel
    by_cases hlt : k < l.length
    · obtain ⟨b, off, hA, hb, u0⟩ := intAt (hs.ext hext) hlt
      have Htk := Lib.hid (risB_drop hlt x)
      obtain ⟨n, hq⟩ : ∃ n, l[k] = n := ⟨_, rfl⟩
      rw [hq] at u0 Htk
      have Hq := Lib.hid hq
      have hv := is_any' n
      obtain ⟨q, hqq⟩ : ∃ q, dayB n = q := ⟨_, rfl⟩
      rw [hqq] at hv Htk
      have Hv := Lib.hid hv
      have Hqq := Lib.hid hqq
      subst hA
      clear hq hv hqq
      cases q with
      | false =>
        have Hf := Lib.hid (show risesB l = false by unfold risesB; rw [Hk.out, Htk.out]; simp)
        go_wp2
        go_quiet ((go_at_call 10; exact Calls.quiet_of_same (Hv.out _)))
        go_wp2
        go_ret
        exact ⟨ret_bool Hf.out.symm, hext.drewN _⟩
      | true =>
        rcases Hx.out with ⟨rfl, rfl⟩ | ⟨j, rfl, hj⟩
        · rw [Nat.add_zero] at u0
          have hn0 := ((dayB_iff n).1 Hqq.out).1
          have Ht := Lib.hid (show risB (-1) l = risB n (l.drop (0 + 1)) by rw [Hk.out, Htk.out, decide_eq_true (show (-1 : Int) < n by omega)]; rfl)
          go_wp2
          go_quiet ((go_at_call 10; exact Calls.quiet_of_same (Hv.out _)))
          go_wp2
          go_roundw
          case rel => exact ⟨0 + 1, n, by omega, by go_num, Ht, Lib.hid (.inr ⟨0, rfl, by rw [List.getElem?_eq_getElem hlt, Hq.out]⟩), hext.drewN _⟩
          case measure => simp [intOf]; omega
        · obtain ⟨hj1, hj2⟩ := List.getElem?_eq_some_iff.1 hj
          obtain ⟨b', off', hA', -, u1⟩ := intAt (hs.ext hext) hj1
          rw [hj2] at u1
          cases hA'
          have d0 : decide (((j + 1 : Nat) : Int) > 0) = true := decide_eq_true (by omega)
          have d3 : decide (((j + 1 : Nat) : Int) - 1 < (l.length : Int)) = true := decide_eq_true (by omega)
          have d4 : decide (0 ≤ ((j + 1 : Nat) : Int) - 1) = true := decide_eq_true (by omega)
          have Hnx := Lib.hid (show l[j + 1]? = some n by rw [List.getElem?_eq_getElem hlt, Hq.out])
          clear hj hj1 hj2
          by_cases hge : n ≤ x
          · have d1 : decide (x ≥ n) = true := decide_eq_true hge
            have Hf := Lib.hid (show risesB l = false by unfold risesB; rw [Hk.out, Htk.out, decide_eq_false (show ¬ x < n by omega)]; simp)
            go_wp2
            go_quiet ((go_at_call 10; exact Calls.quiet_of_same (Hv.out _)))
            go_wp2
            go_ret
            exact ⟨ret_bool Hf.out.symm, hext.drewN _⟩
          · have d1 : decide (x ≥ n) = false := decide_eq_false hge
            have Ht := Lib.hid (show risB (-1) l = risB n (l.drop (j + 1 + 1)) by rw [Hk.out, Htk.out, decide_eq_true (show x < n by omega)]; rfl)
            go_wp2
            go_quiet ((go_at_call 10; exact Calls.quiet_of_same (Hv.out _)))
            go_wp2
            go_roundw
            case rel => exact ⟨j + 1 + 1, n, by omega, by go_num, Ht, Lib.hid (.inr ⟨j + 1, rfl, Hnx.out⟩), hext.drewN _⟩
            case measure => simp [intOf]; omega
    · have hkl : k = l.length := by omega
      have h3 := Hk.out
      rw [List.drop_of_length_le (by omega)] at h3
      have H3 := Lib.hid (show risesB l = decide ((l.length : Int) ≤ 64) by unfold risesB; rw [h3]; simp [risB]; omega)
      clear h3 hkl
      go_wp2
      go_ret
      exact ⟨ret_bool H3.out.symm, hext⟩

set_option maxRecDepth 100000 in
set_option maxHeartbeats 1600000 in
theorem sitting_any (A : Option Addr) (c : Nat) (l : List Int) (d : Int) (w : World) (hs : Sl intEl w A l) (hn : l.length ≤ 9223372036854775807) :
    Calls Tryd.prog 18 #[.slice A l.length c, .int .i64 d] w fun e w' => e = .returned (.tuple #[.int .i64 (sitN l d), .int .i64 (sitO l d)]) ∧ Ext w w' := by
  have hv := valid_any d
  have hr := rises_any A c l w hs hn
  by_cases hok : dayB d = true ∧ risesB l = true
  · rw [hok.1] at hv
    rw [hok.2] at hr
    have hdd := (dayB_iff d).1 hok.1
    have hday := risB_above l (-1) (by have := hok.2; simp only [risesB, Bool.and_eq_true] at this; exact this.2)
    have h64 : l.length ≤ 64 := by have := hok.2; simp only [risesB, Bool.and_eq_true, decide_eq_true_eq] at this; exact this.1
    have Hok := Lib.hid hok
    have Hv := Lib.hid hv
    have Hr := Lib.hid hr
    have Hday := Lib.hid hday
    clear hv hr hok hday
    go_enter Tryd.func18, Tryd.ntmps18
    go_wp2_with fail
    refine (Hv.out _).mono ?_
    rintro e w' ⟨rfl, rfl⟩
    go_wp2_with fail
    refine (Hr.out).mono ?_
    rintro e w1 ⟨rfl, hx1⟩
    go_wp2
    go_loopw [6] (fun i wr => ∃ k : Nat, k ≤ l.length ∧ i = .int .i64 k ∧ Hid (cntLe d l = k + cntLe d (l.drop k)) ∧ Ext w wr) (fun i _ => l.length - (intOf i).toNat)
    case atStart => exact ⟨0, Nat.zero_le _, rfl, Lib.hid (by simp), hx1⟩
    case round =>
      obtain ⟨k, hk, rfl, Hk, hext⟩ := hrel
      by_cases hin : ∃ hlt : k < l.length, l[k] ≤ d
      · obtain ⟨hlt, hle⟩ := hin
        obtain ⟨b, off, rfl, hb, u0⟩ := intAt (hs.ext hext) hlt
        have Hst := Lib.hid (show cntLe d l = (k + 1) + cntLe d (l.drop (k + 1)) by rw [Hk.out, cntLe_drop hlt, if_pos hle]; omega)
        obtain ⟨n, hq⟩ : ∃ n, l[k] = n := ⟨_, rfl⟩
        rw [hq] at u0 hle
        have d1 : decide ((k : Int) < (l.length : Int)) = true := decide_eq_true (by omega)
        have d2 : decide (n ≤ d) = true := decide_eq_true hle
        clear hq
        go_wp2
        go_roundw
        case rel => exact ⟨k + 1, by omega, by go_num, Hst, hext⟩
        case measure => simp [intOf]; omega
      · have hend : cntLe d l = k := by
          rw [Hk.out]
          by_cases hlt : k < l.length
          · rw [cntLe_drop hlt, if_neg (fun h => hin ⟨hlt, h⟩)]; rfl
          · rw [List.drop_of_length_le (by omega)]; rfl
        have Hend := Lib.hid hend
        clear hend
        have stop : (∃ (b off : Nat) (n : Int), A = some ⟨b, off, none⟩ ∧ wr.cell? ⟨b, off + k, none⟩ = some (.int .i64 n) ∧ k < l.length ∧ d < n) ∨ k = l.length := by
          by_cases hlt : k < l.length
          · obtain ⟨b, off, hA, _, u0⟩ := intAt (hs.ext hext) hlt
            have : ¬ l[k] ≤ d := fun h => hin ⟨hlt, h⟩
            exact .inl ⟨b, off, _, hA, u0, hlt, by omega⟩
          · exact .inr (by omega)
        clear hin
        rcases k with _ | j
        · have Hp := Lib.hid (sit_zero Hend.out)
          rcases stop with ⟨b, off, n, rfl, u0, hlt, hgt⟩ | hk0
          · rw [Nat.add_zero] at u0
            have d1 : decide ((0 : Int) < (l.length : Int)) = true := decide_eq_true (by omega)
            have d2 : decide (n ≤ d) = false := decide_eq_false (by omega)
            go_wp2
            go_ret2
            exact ⟨ret_val (by rw [Hp.out.1, Hp.out.2]; rfl), hext⟩
          · have d1 : decide ((0 : Int) < (l.length : Int)) = false := decide_eq_false (by omega)
            go_wp2
            go_ret2
            exact ⟨ret_val (by rw [Hp.out.1, Hp.out.2]; rfl), hext⟩
        · have hj : j < l.length := by omega
          obtain ⟨b', off', hA', -, u1⟩ := intAt (hs.ext hext) hj
          obtain ⟨y, hy⟩ : ∃ y, l[j] = y := ⟨_, rfl⟩
          have hyd := (dayB_iff _).1 (Hday.out j hj).2
          rw [hy] at u1 hyd
          have Hp := Lib.hid (sit_yes Hok.out Hend.out)
          have Hy := Lib.hid (show l.getD j 0 = y by rw [List.getD_eq_getElem?_getD, List.getElem?_eq_getElem hj, hy]; rfl)
          have d3 : decide (((j + 1 : Nat) : Int) - 1 < (l.length : Int)) = true := decide_eq_true (by omega)
          have d4 : decide (0 ≤ ((j + 1 : Nat) : Int) - 1) = true := decide_eq_true (by omega)
          have d5 : (((j + 1 : Nat) : Int) == 0) = false := by simp; omega
          clear hy
          rcases stop with ⟨b, off, n, hA, u0, hlt, hgt⟩ | hk0
          · subst hA
            cases hA'
            have d1 : decide (((j + 1 : Nat) : Int) < (l.length : Int)) = true := decide_eq_true (by omega)
            have d2 : decide (n ≤ d) = false := decide_eq_false (by omega)
            go_wp2
            go_quiet (fail)
            go_wp2
            go_ret2
            exact ⟨ret_val (by rw [Hp.out.1, Hp.out.2, Hy.out]; rfl), hext.drewN _⟩
          · have d1 : decide (j + 1 < l.length) = false := decide_eq_false (by omega)
            have d2 : ¬ j + 1 < l.length := by omega
            clear hk0
            subst hA'
            go_wp2
            go_quiet (fail)
            go_wp2
            go_ret2
            exact ⟨ret_val (by rw [Hp.out.1, Hp.out.2, Hy.out]; rfl), hext.drewN _⟩
  · obtain ⟨p1, p2⟩ := sit_no hok
    rw [p1, p2]
    cases hq : dayB d
    · rw [hq] at hv
      have Hv := Lib.hid hv
      clear hv hr hq hok p1 p2
      go_enter Tryd.func18, Tryd.ntmps18
      go_wp2_with (refine (Hv.out _).mono ?_; rintro e w' ⟨rfl, rfl⟩)
      go_ret2
      exact ⟨rfl, Ext.refl _⟩
    · have hrf : risesB l = false := by
        cases h : risesB l
        · rfl
        · exact absurd ⟨hq, h⟩ hok
      rw [hq] at hv
      rw [hrf] at hr
      have Hv := Lib.hid hv
      have Hr := Lib.hid hr
      clear hv hr hq hok p1 p2 hrf
      go_enter Tryd.func18, Tryd.ntmps18
      go_wp2_with fail
      refine (Hv.out _).mono ?_
      rintro e w' ⟨rfl, rfl⟩
      go_wp2_with fail
      refine (Hr.out).mono ?_
      rintro e w1 ⟨rfl, hx1⟩
      go_wp2
      go_ret2
      exact ⟨rfl, hx1⟩

set_option maxRecDepth 100000 in
set_option maxHeartbeats 1600000 in
theorem refSitting_any (A : Option Addr) (c : Nat) (l : List Int) (d : Int) (w : World) (hs : Sl intEl w A l) (hn : l.length ≤ 9223372036854775807) :
    Calls Tryd.prog 19 #[.slice A l.length c, .int .i64 d] w fun e w' => e = .returned (.tuple #[.int .i64 (sitN l d), .int .i64 (sitO l d)]) ∧ Ext w w' := by
  have hv := is_any d
  have hr := refRises_any A c l w hs hn
  by_cases hok : dayB d = true ∧ risesB l = true
  · rw [hok.1] at hv
    rw [hok.2] at hr
    have hdd := (dayB_iff d).1 hok.1
    have hday := risB_above l (-1) (by have := hok.2; simp only [risesB, Bool.and_eq_true] at this; exact this.2)
    have h64 : l.length ≤ 64 := by have := hok.2; simp only [risesB, Bool.and_eq_true, decide_eq_true_eq] at this; exact this.1
    have Hok := Lib.hid hok
    have Hv := Lib.hid hv
    have Hr := Lib.hid hr
    have Hday := Lib.hid hday
    clear hv hr hok hday
    go_enter Tryd.func19, Tryd.ntmps19
    go_wp2_with fail
    refine (Hv.out _).mono ?_
    rintro e w' ⟨rfl, rfl⟩
    go_wp2_with fail
    refine (Hr.out).mono ?_
    rintro e w1 ⟨rfl, hx1⟩
    go_wp2
    go_loopw [6] (fun i wr => ∃ k : Nat, k ≤ l.length ∧ i = .int .i64 k ∧ Hid (cntLe d l = k + cntLe d (l.drop k)) ∧ Ext w wr) (fun i _ => l.length - (intOf i).toNat)
    case atStart => exact ⟨0, Nat.zero_le _, rfl, Lib.hid (by simp), hx1⟩
    case round =>
      obtain ⟨k, hk, rfl, Hk, hext⟩ := hrel
      by_cases hin : ∃ hlt : k < l.length, l[k] ≤ d
      · obtain ⟨hlt, hle⟩ := hin
        obtain ⟨b, off, rfl, hb, u0⟩ := intAt (hs.ext hext) hlt
        have Hst := Lib.hid (show cntLe d l = (k + 1) + cntLe d (l.drop (k + 1)) by rw [Hk.out, cntLe_drop hlt, if_pos hle]; omega)
        obtain ⟨n, hq⟩ : ∃ n, l[k] = n := ⟨_, rfl⟩
        rw [hq] at u0 hle
        have d1 : decide ((k : Int) < (l.length : Int)) = true := decide_eq_true (by omega)
        have d2 : decide (n ≤ d) = true := decide_eq_true hle
        clear hq
        go_wp2
        go_roundw
        case rel => exact ⟨k + 1, by omega, by go_num, Hst, hext⟩
        case measure => simp [intOf]; omega
      · have hend : cntLe d l = k := by
          rw [Hk.out]
          by_cases hlt : k < l.length
          · rw [cntLe_drop hlt, if_neg (fun h => hin ⟨hlt, h⟩)]; rfl
          · rw [List.drop_of_length_le (by omega)]; rfl
        have Hend := Lib.hid hend
        clear hend
        have stop : (∃ (b off : Nat) (n : Int), A = some ⟨b, off, none⟩ ∧ wr.cell? ⟨b, off + k, none⟩ = some (.int .i64 n) ∧ k < l.length ∧ d < n) ∨ k = l.length := by
          by_cases hlt : k < l.length
          · obtain ⟨b, off, hA, _, u0⟩ := intAt (hs.ext hext) hlt
            have : ¬ l[k] ≤ d := fun h => hin ⟨hlt, h⟩
            exact .inl ⟨b, off, _, hA, u0, hlt, by omega⟩
          · exact .inr (by omega)
        clear hin
        rcases k with _ | j
        · have Hp := Lib.hid (sit_zero Hend.out)
          rcases stop with ⟨b, off, n, rfl, u0, hlt, hgt⟩ | hk0
          · rw [Nat.add_zero] at u0
            have d1 : decide ((0 : Int) < (l.length : Int)) = true := decide_eq_true (by omega)
            have d2 : decide (n ≤ d) = false := decide_eq_false (by omega)
            go_wp2
            go_ret2
            exact ⟨ret_val (by rw [Hp.out.1, Hp.out.2]; rfl), hext⟩
          · have d1 : decide ((0 : Int) < (l.length : Int)) = false := decide_eq_false (by omega)
            go_wp2
            go_ret2
            exact ⟨ret_val (by rw [Hp.out.1, Hp.out.2]; rfl), hext⟩
        · have hj : j < l.length := by omega
          obtain ⟨b', off', hA', -, u1⟩ := intAt (hs.ext hext) hj
          obtain ⟨y, hy⟩ : ∃ y, l[j] = y := ⟨_, rfl⟩
          have hyd := (dayB_iff _).1 (Hday.out j hj).2
          rw [hy] at u1 hyd
          have Hp := Lib.hid (sit_yes Hok.out Hend.out)
          have Hy := Lib.hid (show l.getD j 0 = y by rw [List.getD_eq_getElem?_getD, List.getElem?_eq_getElem hj, hy]; rfl)
          have d3 : decide (((j + 1 : Nat) : Int) - 1 < (l.length : Int)) = true := decide_eq_true (by omega)
          have d4 : decide (0 ≤ ((j + 1 : Nat) : Int) - 1) = true := decide_eq_true (by omega)
          have d5 : (((j + 1 : Nat) : Int) == 0) = false := by simp; omega
          clear hy
          rcases stop with ⟨b, off, n, hA, u0, hlt, hgt⟩ | hk0
          · subst hA
            cases hA'
            have d1 : decide (((j + 1 : Nat) : Int) < (l.length : Int)) = true := decide_eq_true (by omega)
            have d2 : decide (n ≤ d) = false := decide_eq_false (by omega)
            go_wp2
            go_quiet (fail)
            go_wp2
            go_ret2
            exact ⟨ret_val (by rw [Hp.out.1, Hp.out.2, Hy.out]; rfl), hext.drewN _⟩
          · have d1 : decide (j + 1 < l.length) = false := decide_eq_false (by omega)
            have d2 : ¬ j + 1 < l.length := by omega
            clear hk0
            subst hA'
            go_wp2
            go_quiet (fail)
            go_wp2
            go_ret2
            exact ⟨ret_val (by rw [Hp.out.1, Hp.out.2, Hy.out]; rfl), hext.drewN _⟩
  · obtain ⟨p1, p2⟩ := sit_no hok
    rw [p1, p2]
    cases hq : dayB d
    · rw [hq] at hv
      have Hv := Lib.hid hv
      clear hv hr hq hok p1 p2
      go_enter Tryd.func19, Tryd.ntmps19
      go_wp2_with (refine (Hv.out _).mono ?_; rintro e w' ⟨rfl, rfl⟩)
      go_ret2
      exact ⟨rfl, Ext.refl _⟩
    · have hrf : risesB l = false := by
        cases h : risesB l
        · rfl
        · exact absurd ⟨hq, h⟩ hok
      rw [hq] at hv
      rw [hrf] at hr
      have Hv := Lib.hid hv
      have Hr := Lib.hid hr
      clear hv hr hq hok p1 p2 hrf
      go_enter Tryd.func19, Tryd.ntmps19
      go_wp2_with fail
      refine (Hv.out _).mono ?_
      rintro e w' ⟨rfl, rfl⟩
      go_wp2_with fail
      refine (Hr.out).mono ?_
      rintro e w1 ⟨rfl, hx1⟩
      go_wp2
      go_ret2
      exact ⟨rfl, hx1⟩

end Go.Proofs.YtnpbhpaffdjjoaaDoor
