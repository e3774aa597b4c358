/- The law on widths: the walk. -/
import Derived.Test.YtdglijpooodlnaaLawB54
import Derived.Test.YtdglijpooodlnaaPlainB54
namespace Go.Proofs.Ytdglijpooodlnaa
open Go.RowKit

theorem bR_len {l : List ByteArray} {W : Int} (hb : briefP l 60) : (bR l W).length ≤ 60 := by
  unfold bR
  split
  · rename_i h
    have := bEndsF_len (fit_of h hb) l.length 0 (Nat.zero_le _)
    have h2 := hb.1
    unfold bLines
    omega
  · exact Nat.zero_le _
theorem gR_len {l : List ByteArray} {W : Int} (hb : briefP l 60) : (gR l W).length ≤ 60 := by
  unfold gR
  split
  · rename_i h
    have := gEndsF_len (fit_of h hb) l.length 0 (Nat.zero_le _)
    have h2 := hb.1
    unfold gLines
    omega
  · exact Nat.zero_le _
set_option maxRecDepth 100000 in
set_option maxHeartbeats 3200000 in
theorem widths_law (W M : Int) (A : Option Addr) (c : Nat) (l : List ByteArray) (w : World) (hs : Sl strEl w A l) (hn : l.length ≤ 9223372036854775807) :
    Calls Try.prog 9 #[.int .i64 W, .int .i64 M, .slice A l.length c] w (RetTrue w) := by
  have Ha := Lib.hid (awake_any w)
  have Hs := Lib.hid hs
  have Hb := Lib.hid (fun w' (hx : Ext w w') => brief_any A c l 60 w' (hs.ext hx) hn)
  clear hs
  go_enter Try.func9, Try.ntmps9
  go_wp2_with fail
  refine (Ha.out).mono ?_
  rintro e w1 ⟨rfl, hx1⟩
  go_wp2_with fail
  refine (Hb.out _ hx1).mono ?_
  rintro e w2 ⟨b, rfl, hb, hx2⟩
  cases b with
  | false =>
    go_wp2
    go_ret
    exact ⟨rfl, hx1.trans hx2⟩
  | true =>
    have HB := Lib.hid (hb rfl)
    clear hb
    have hx12 := hx1.trans hx2
    by_cases h1 : W < 1
    · have d1 : decide (W < 1) = true := decide_eq_true h1
      go_wp2
      go_ret
      exact ⟨rfl, hx12⟩
    · have d1 : decide (W < 1) = false := decide_eq_false h1
      by_cases h2 : M < 0
      · have d2 : decide (M < 0) = true := decide_eq_true h2
        go_wp2
        go_ret
        exact ⟨rfl, hx12⟩
      · have d2 : decide (M < 0) = false := decide_eq_false h2
        by_cases h3 : M > 200
        · have d3 : decide (M > 200) = true := decide_eq_true h3
          go_wp2
          go_ret
          exact ⟨rfl, hx12⟩
        · have d3 : decide (M > 200) = false := decide_eq_false h3
          by_cases h4 : W > 200
          · have d4 : decide (W > 200) = true := decide_eq_true h4
            go_wp2
            go_ret
            exact ⟨rfl, hx12⟩
          · have d4 : decide (W > 200) = false := decide_eq_false h4
            have hga := fun w' (hx : Ext w w') => greedy_any A c l W w' (Hs.out.ext hx) HB.out
            by_cases hw : wrongF W l = 0
            · have hgb := fun w' (hx : Ext w w') => greedy_any A c l (min (W + M) 200) w' (Hs.out.ext hx) HB.out
              have hbc := fun w' (hx : Ext w w') => break_any A c l W w' (Hs.out.ext hx) HB.out
              have hw2 := wrong_wider hw HB.out (show W ≤ min (W + M) 200 by omega) (by omega)
              obtain ⟨f1, f2, f3, f4⟩ := widths_facts hw HB.out (show W ≤ min (W + M) 200 by omega) (by omega)
              rw [← gR_yes hw, ← gR_yes hw2] at f1
              rw [← gR_yes hw, ← bR_yes hw] at f2 f3 f4
              have l1 := gR_len (W := W) HB.out
              have l2 := gR_len (W := min (W + M) 200) HB.out
              have l3 := bR_len (W := W) HB.out
              have hbr := HB.out.1
              rw [hw] at hga hbc
              rw [hw2] at hgb
              obtain ⟨P, hP⟩ : ∃ P, gR l W = P := ⟨_, rfl⟩
              obtain ⟨Q, hQ⟩ : ∃ Q, gR l (min (W + M) 200) = Q := ⟨_, rfl⟩
              obtain ⟨R, hR⟩ : ∃ R, bR l W = R := ⟨_, rfl⟩
              rw [hP] at hga f1 f2 f3 f4 l1
              rw [hQ] at hgb f1 l2
              rw [hR] at hbc f2 f3 f4 l3
              have H1 := Lib.hid hga
              have H2 := Lib.hid hgb
              have H3 := Lib.hid hbc
              have F3 := Lib.hid f3
              have F4 := Lib.hid f4
              clear hP hQ hR hga hgb hbc f3 f4 hw hw2 hx1 hx2
              go_wp2_with fail
              refine (H1.out _ hx12).mono ?_
              rintro e w3 ⟨v3, rfl, ho3, hx3⟩
              obtain ⟨A3, c3, rfl, hc3, hs3⟩ := ho3.form
              have hx13 := hx12.trans hx3
              clear ho3 hs3 hx3 hc3
              go_wp2
              go_loopw [9, 10] (fun vn vi wr => ∃ i : Nat, i ≤ l.length ∧ vi = .int .i64 (i : Nat) ∧ vn = .int .i64 ((l.length : Int) - 1 + ((posF l i : Int) - i)) ∧ wr = w3) (fun _ vi _ => l.length - (intOf vi).toNat)
              case atStart => exact ⟨0, Nat.zero_le _, rfl, int_eq_of (by rw [posF_zero]; omega), rfl⟩
              case round =>
                obtain ⟨i, hi, rfl, rfl, rfl⟩ := hrel
                have hp1 := posF_le HB.out i hi
                by_cases hlt : i < l.length
                · obtain ⟨bs, os, rfl, q1, u1⟩ := strAt (Hs.out.ext hx13) hlt
                  have hsz := HB.out.2 l[i] (List.getElem_mem hlt)
                  have hps := posF_succ hlt
                  obtain ⟨s, hs0⟩ : ∃ s, l[i] = s := ⟨_, rfl⟩
                  rw [hs0] at u1 hsz hps
                  obtain ⟨p, hp⟩ : ∃ p, posF l i = p := ⟨_, rfl⟩
                  rw [hp] at hp1 hps ⊢
                  have Hps := Lib.hid hps
                  clear hs0 hp hps
                  have e1 : decide ((i : Int) < (l.length : Int)) = true := decide_eq_true (by omega)
                  go_wp2
                  go_roundw
                  case rel => exact ⟨i + 1, by omega, by go_num, int_eq_of (by rw [Hps.out]; omega), trivial⟩
                  case measure => simp [intOf] <;> omega
                · obtain rfl : i = l.length := by omega
                  have e1 : decide ((l.length : Int) < (l.length : Int)) = false := decide_eq_false (by omega)
                  have hT : lenF l 0 l.length = (l.length : Int) - 1 + ((posF l l.length : Int) - l.length) := by unfold lenF; rw [posF_zero]; omega
                  obtain ⟨T, hT0⟩ : ∃ T, (l.length : Int) - 1 + ((posF l l.length : Int) - l.length) = T := ⟨_, rfl⟩
                  rw [hT0] at hT ⊢
                  have hF3 := F3.out
                  rw [hT] at hF3
                  have hTb : T ≤ 20000 := by omega
                  have hTb2 : -1 ≤ T := by
                    have := posF_mono l 0 l.length (Nat.zero_le _)
                    have h5 : lenF l 0 l.length = (posF l l.length : Int) - 0 - 1 := by unfold lenF; rw [posF_zero]; rfl
                    omega
                  clear hT hT0 hp1
                  go_wp2_with fail
                  refine (H2.out _ hx13).mono ?_
                  rintro e w4 ⟨v4, rfl, ho4, hx4⟩
                  obtain ⟨A4, c4, rfl, hc4, hs4⟩ := ho4.form
                  go_wp2_with fail
                  refine (H3.out _ (hx13.trans hx4)).mono ?_
                  rintro e w5 ⟨v5, rfl, ho5, hx5⟩
                  obtain ⟨A5, c5, rfl, hc5, hs5⟩ := ho5.form
                  have hx15 := (hx13.trans hx4).trans hx5
                  have g1 : decide ((Q.length : Int) > (P.length : Int)) = false := decide_eq_false (by omega)
                  have g2 : decide ((R.length : Int) < (P.length : Int)) = false := decide_eq_false (by omega)
                  have g1n : decide (P.length < Q.length) = false := decide_eq_false (by omega)
                  have g2n : decide (R.length < P.length) = false := decide_eq_false (by omega)
                  clear ho4 hs4 hc4 ho5 hs5 hc5 hx4 hx5
                  by_cases hl0 : 0 < l.length
                  · have g3 : decide ((l.length : Int) > 0) = true := decide_eq_true (by omega)
                    have g3n : decide (0 < l.length) = true := decide_eq_true hl0
                    by_cases hTW : T ≤ W
                    · have g4 : decide (T ≤ W) = true := decide_eq_true hTW
                      obtain ⟨k1, k2⟩ := hF3 hl0 hTW
                      have g5 : ((P.length : Int) == 1) = true := by simp [k1]
                      have g6 : ((R.length : Int) == 1) = true := by simp [k2]
                      clear k1 k2
                      go_wp2
                      go_ret
                      exact ⟨rfl, hx15⟩
                    · have g4' : decide (T ≤ W) = false := decide_eq_false hTW
                      by_cases hw1 : W > 1
                      · have g4 : decide (W > 1) = true := decide_eq_true hw1
                        go_wp2
                        go_ret
                        exact ⟨rfl, hx15⟩
                      · have g4 : decide (W > 1) = false := decide_eq_false hw1
                        obtain ⟨k1, k2⟩ := F4.out (by omega)
                        have g5 : ((P.length : Int) == (l.length : Int)) = true := by simp [k1]
                        have g6 : ((R.length : Int) == (l.length : Int)) = true := by simp [k2]
                        clear k1 k2
                        go_wp2
                        go_ret
                        exact ⟨rfl, hx15⟩
                  · have g3 : decide ((l.length : Int) > 0) = false := decide_eq_false (by omega)
                    have g3n : decide (0 < l.length) = false := decide_eq_false hl0
                    by_cases hw1 : W > 1
                    · have g4 : decide (W > 1) = true := decide_eq_true hw1
                      go_wp2
                      go_ret
                      exact ⟨rfl, hx15⟩
                    · have g4 : decide (W > 1) = false := decide_eq_false hw1
                      obtain ⟨k1, k2⟩ := F4.out (by omega)
                      have g5 : ((P.length : Int) == (l.length : Int)) = true := by simp [k1]
                      have g6 : ((R.length : Int) == (l.length : Int)) = true := by simp [k2]
                      clear k1 k2
                      go_wp2
                      go_ret
                      exact ⟨rfl, hx15⟩
            · have hz : (wrongF W l != 0) = true := by simp [hw]
              obtain ⟨Z, hZ⟩ : ∃ Z, wrongF W l = Z := ⟨_, rfl⟩
              rw [hZ] at hga hz
              have H1 := Lib.hid hga
              clear hga hZ hw
              go_wp2_with fail
              refine (H1.out _ hx12).mono ?_
              rintro e w3 ⟨v3, rfl, ho3, hx3⟩
              obtain ⟨A3, c3, rfl, hc3, hs3⟩ := ho3.form
              go_wp2
              go_ret
              exact ⟨rfl, hx12.trans hx3⟩

end Go.Proofs.Ytdglijpooodlnaa
