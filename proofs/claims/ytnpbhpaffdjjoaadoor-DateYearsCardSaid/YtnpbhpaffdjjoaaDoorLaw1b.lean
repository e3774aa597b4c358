/- The laws DateYears and DateAddYears. -/
import Derived.Test.YtnpbhpaffdjjoaaDoorLaw1
namespace Go.Proofs.YtnpbhpaffdjjoaaDoor
open Go.RowKit

set_option maxHeartbeats 1600000 in
theorem dateYears_law (d y : Int) (w : World) (hT : Tab w) : Calls Tryd.prog 4 #[.int .i64 d, .int .i64 y] w fun e w' => e = .returned (.bool true) ∧ Ext w w' := by
  have Ha := Lib.hid (awake1_any w hT)
  have hs1 := start_any y
  have hs2 := refStart_any y
  have hl1 := isLeap_any y
  have hl2 := long_any y
  obtain ⟨SF, hSF⟩ : ∃ s, startF y = s := ⟨_, rfl⟩
  obtain ⟨SB, hSB⟩ : ∃ s, startB y = s := ⟨_, rfl⟩
  obtain ⟨LB, hLB⟩ : ∃ s, leapB y = s := ⟨_, rfl⟩
  rw [hSF, hSB] at hs1 hs2
  rw [hLB] at hl1 hl2
  have Hs1 := Lib.hid hs1
  have Hs2 := Lib.hid hs2
  have Hl1 := Lib.hid hl1
  have Hl2 := Lib.hid hl2
  have nb1 := fun w => run_neq_bool LB w
  have nb2 := fun w => run_neq_bool SB w
  have hv := is_any d
  clear hs1 hs2 hl1 hl2 hSF hSB hLB hT
  cases hq : dayB d with
  | false =>
    rw [hq] at hv
    have Hy := Lib.hid (yearDay_no d · hq)
    have Hv := Lib.hid hv
    clear hv hq
    go_enter Tryd.func4, Tryd.ntmps4
    go_wp2_with fail
    refine (Ha.out).mono ?_
    rintro e w1 ⟨rfl, hx1⟩
    go_wp2_with (first | ((with_reducible refine (Hy.out _).mono ?_); rintro e w' ⟨rfl, rfl⟩) | ((with_reducible refine (Hs1.out _).mono ?_); rintro e w' ⟨rfl, rfl⟩) | ((with_reducible refine (Hs2.out _).mono ?_); rintro e w' ⟨rfl, rfl⟩) | ((with_reducible refine (Hl1.out _).mono ?_); rintro e w' ⟨rfl, rfl⟩) | ((with_reducible refine (Hl2.out _).mono ?_); rintro e w' ⟨rfl, rfl⟩) | ((with_reducible refine (Hv.out _).mono ?_); rintro e w' ⟨rfl, rfl⟩))
    go_ret
    exact ⟨rfl, hx1⟩
  | true =>
    rw [hq] at hv
    obtain ⟨h0, h1⟩ := (dayB_iff d).1 hq
    obtain ⟨Y, hY, hY2⟩ := exists_year d h0 h1
    have hy := fun w => yearDay_yes d Y w h0 h1 hY
    have hry := fun w => refYear_yes d Y w h0 h1 hY
    have hsY := startB_of h1 hY
    have hst := start_any Y
    rw [hsY, startF_of hsY] at hst
    obtain ⟨b0, b1, b2⟩ := startB_bd hsY
    have hb3 := daysF_bd Y
    have hOb : 1 ≤ d - dy Y + 1 ∧ d - dy Y + 1 ≤ 366 := by
      obtain ⟨a, b, c⟩ := hY
      have := dy_succ Y (by omega)
      omega
    obtain ⟨O, hO⟩ : ∃ O, d - dy Y + 1 = O := ⟨_, rfl⟩
    obtain ⟨D, hD⟩ : ∃ D, dy Y = D := ⟨_, rfl⟩
    rw [hO] at hy hry hOb
    rw [hD] at hst b0 b1 hO
    have hsum : (D + O - 1 == d) = true := by simp; omega
    have Hy := Lib.hid hy
    have Hry := Lib.hid hry
    have Hst := Lib.hid hst
    have Hv := Lib.hid hv
    clear hv hq hy hry hst hsY hD hY hO hb3
    go_enter Tryd.func4, Tryd.ntmps4
    go_wp2_with fail
    refine (Ha.out).mono ?_
    rintro e w1 ⟨rfl, hx1⟩
    go_wp2_with (first | ((with_reducible refine (Hy.out _).mono ?_); rintro e w' ⟨rfl, rfl⟩) | ((with_reducible refine (Hry.out _).mono ?_); rintro e w' ⟨rfl, rfl⟩) | ((with_reducible refine (Hs1.out _).mono ?_); rintro e w' ⟨rfl, rfl⟩) | ((with_reducible refine (Hs2.out _).mono ?_); rintro e w' ⟨rfl, rfl⟩) | ((with_reducible refine (Hl1.out _).mono ?_); rintro e w' ⟨rfl, rfl⟩) | ((with_reducible refine (Hl2.out _).mono ?_); rintro e w' ⟨rfl, rfl⟩) | ((with_reducible refine (Hv.out _).mono ?_); rintro e w' ⟨rfl, rfl⟩) | ((with_reducible refine (Hst.out _).mono ?_); rintro e w' ⟨rfl, rfl⟩))
    go_ret
    exact ⟨rfl, hx1⟩

theorem addOk_iff (d k : Int) : addOk d k = true ↔ (0 ≤ d ∧ d ≤ 1048576) ∧ -3000 ≤ k ∧ k ≤ 3000 := by simp [addOk, dayB_iff]
set_option maxHeartbeats 1600000 in
theorem dateAddYears_law (d k : Int) (w : World) (hT : Tab w) : Calls Tryd.prog 6 #[.int .i64 d, .int .i64 k] w fun e w' => e = .returned (.bool true) ∧ Ext w w' := by
  have Ha := Lib.hid (awake1_any w hT)
  clear hT
  cases hq : addOk d k with
  | false =>
    have H1 := Lib.hid (add_no d k · hq)
    have H2 := Lib.hid (refAdd_no d k · hq)
    have nb := fun w => run_neq_bool false w
    clear hq
    go_enter Tryd.func6, Tryd.ntmps6
    go_wp2_with fail
    refine (Ha.out).mono ?_
    rintro e w1 ⟨rfl, hx1⟩
    go_wp2_with (first | ((with_reducible refine (H1.out _).mono ?_); rintro e w' ⟨rfl, rfl⟩) | ((with_reducible refine (H2.out _).mono ?_); rintro e w' ⟨rfl, rfl⟩))
    go_ret
    exact ⟨rfl, hx1⟩
  | true =>
    obtain ⟨⟨h0, h1⟩, k0, k1⟩ := (addOk_iff d k).1 hq
    obtain ⟨Y, hY, hY2⟩ := exists_year d h0 h1
    have hy := fun w => refYear_yes d Y w h0 h1 hY
    have ha1 := fun w => add_yes d Y k w h0 h1 hY k0 k1
    have ha2 := fun w => refAdd_yes d Y k w h0 h1 hY k0 k1
    cases hB : addB (Y + k) (d - dy Y + 1) with
    | false =>
      have hN : addN (Y + k) (d - dy Y + 1) = 0 := by
        unfold addB at hB
        simp [addN, atF, hB]
      rw [hB, hN] at ha1 ha2
      have H1 := Lib.hid ha1
      have H2 := Lib.hid ha2
      have nb := fun w => run_neq_bool false w
      clear hq hy ha1 ha2 hB hN
      go_enter Tryd.func6, Tryd.ntmps6
      go_wp2_with fail
      refine (Ha.out).mono ?_
      rintro e w1 ⟨rfl, hx1⟩
      go_wp2_with (first | ((with_reducible refine (H1.out _).mono ?_); rintro e w' ⟨rfl, rfl⟩) | ((with_reducible refine (H2.out _).mono ?_); rintro e w' ⟨rfl, rfl⟩))
      go_ret
      exact ⟨rfl, hx1⟩
    | true =>
      obtain ⟨n, M, hN, n0, n1, hyn, hM, hback, hd⟩ := add_back h0 h1 hY hB
      have hb := fun w => add_yes n (Y + k) (-k) w n0 n1 hyn (by omega) (by omega)
      rw [hM, hback] at hb
      rw [hB, hN] at ha1 ha2
      obtain ⟨R, hR⟩ : ∃ R, addN (Y + k + -k) M = R := ⟨_, rfl⟩
      obtain ⟨O, hO⟩ : ∃ O, d - dy Y + 1 = O := ⟨_, rfl⟩
      rw [hR] at hb hd
      rw [hO] at hy hd
      have H1 := Lib.hid ha1
      have H2 := Lib.hid ha2
      have H3 := Lib.hid hb
      have H4 := Lib.hid hy
      have nb := fun w => run_neq_bool true w
      clear hq hy ha1 ha2 hb hB hN hR hO hM hback hyn hY
      by_cases hof : O = 366
      · subst hof
        clear hd
        go_enter Tryd.func6, Tryd.ntmps6
        go_wp2_with fail
        refine (Ha.out).mono ?_
        rintro e w1 ⟨rfl, hx1⟩
        go_wp2_with (first | ((with_reducible refine (H1.out _).mono ?_); rintro e w' ⟨rfl, rfl⟩) | ((with_reducible refine (H2.out _).mono ?_); rintro e w' ⟨rfl, rfl⟩) | ((with_reducible refine (H3.out _).mono ?_); rintro e w' ⟨rfl, rfl⟩) | ((with_reducible refine (H4.out _).mono ?_); rintro e w' ⟨rfl, rfl⟩))
        go_ret
        exact ⟨rfl, hx1⟩
      · obtain rfl := hd hof
        have hof' : (O == 366) = false := by simp [hof]
        clear hd
        go_enter Tryd.func6, Tryd.ntmps6
        go_wp2_with fail
        refine (Ha.out).mono ?_
        rintro e w1 ⟨rfl, hx1⟩
        go_wp2_with (first | ((with_reducible refine (H1.out _).mono ?_); rintro e w' ⟨rfl, rfl⟩) | ((with_reducible refine (H2.out _).mono ?_); rintro e w' ⟨rfl, rfl⟩) | ((with_reducible refine (H3.out _).mono ?_); rintro e w' ⟨rfl, rfl⟩) | ((with_reducible refine (H4.out _).mono ?_); rintro e w' ⟨rfl, rfl⟩))
        go_ret
        exact ⟨rfl, hx1⟩

end Go.Proofs.YtnpbhpaffdjjoaaDoor
