/- rotate: two rows that lie side by side, of any lengths, change places. -/
import Derived.Test.YthjlnpcanccmkaaSwapR9
namespace Go.Proofs.Ythjlnpcanccmkaa
open Go.RowKit

theorem swapRange_int (g cap n : Nat) (za zb zk : Int) (P X Y Z S : List (RUnit × GUnit)) (fv : Value) (w : World) (hn : n ≤ 1048576) (hXZ : X.length = Z.length) (ha : za = (P.length : Nat)) (hb : zb = (P.length + X.length + Y.length : Nat)) (hk : zk = (X.length : Nat)) (hw : Rw g cap n w (P ++ X ++ Y ++ Z ++ S)) :
    Calls Try.prog 70 #[.slice (some ⟨g, 0, none⟩) n cap, .int .i64 za, .int .i64 zb, .int .i64 zk, fv] w fun e w' => e = .returned (.tuple #[]) ∧ Kp g w w' ∧ Rw g cap n w' (P ++ Z ++ Y ++ X ++ S) := by
  subst ha hb hk
  exact swapRange_any g cap n _ _ _ P X Y Z S fv w hn hXZ rfl rfl rfl hw

/-- where a rotation stands: m is the border of what is left to rotate -/
structure RotSt (g cap n m : Nat) (R : List (RUnit × GUnit)) (i j : Nat) (w : World) : Prop where
  ex : ∃ P U V S, U.length = i ∧ V.length = j ∧ P.length + i = m ∧ R = P ++ V ++ U ++ S ∧ Rw g cap n w (P ++ U ++ V ++ S)

set_option maxRecDepth 100000 in
set_option maxHeartbeats 1600000 in
theorem rotate_any (g cap n s m b : Nat) (A U V D : List (RUnit × GUnit)) (fv : Value) (w : World) (hn : n ≤ 1048576) (hs : s = A.length) (hm : m = A.length + U.length) (hb : b = A.length + U.length + V.length) (hU : 0 < U.length) (hV : 0 < V.length) (hw : Rw g cap n w (A ++ U ++ V ++ D)) :
    Calls Try.prog 69 #[.slice (some ⟨g, 0, none⟩) n cap, .int .i64 (s : Nat), .int .i64 (m : Nat), .int .i64 (b : Nat), fv] w fun e w' => e = .returned (.tuple #[]) ∧ Kp g w w' ∧ Rw g cap n w' (A ++ V ++ U ++ D) := by
  obtain ⟨R, hR⟩ : ∃ R, A ++ V ++ U ++ D = R := ⟨_, rfl⟩
  rw [hR]
  have hbn : b ≤ n := by have := hw.len; simp at this; omega
  have h0 : RotSt g cap n m R (m - s) (b - m) w := ⟨A, U, V, D, by omega, by omega, by omega, hR.symm, hw⟩
  have hsm : s < m := by omega
  have hmb : m < b := by omega
  clear hs hm hb hU hV hw hR
  have Hswap := Lib.hid swapRange_int
  go_enter Try.func69, Try.ntmps69
  go_wp2
  go_loopw [10, 11] (fun vi vj wr => ∃ i j : Nat, 0 < i ∧ 0 < j ∧ i ≤ m ∧ m + j ≤ n ∧ vi = .int .i64 (i : Nat) ∧ vj = .int .i64 (j : Nat) ∧ Kp g w wr ∧ RotSt g cap n m R i j wr) (fun vi vj _ => (intOf vi).toNat + (intOf vj).toNat)
  case atStart => exact ⟨m - s, b - m, by omega, by omega, by omega, by omega, by go_num, by go_num, Kp.refl _ _, h0⟩
  case round =>
    obtain ⟨i, j, hi, hj, him, hjn, rfl, rfl, hkp, hst⟩ := hrel
    obtain ⟨P, U, V, S, hUi, hVj, hPm, hRe, hrw⟩ := hst
    by_cases hij : i = j
    · subst hij
      have d1 : ((i : Int) != (i : Int)) = false := by simp
      have hc := Hswap.out g cap n ((m : Int) - (i : Int)) (m : Int) (i : Int) P U [] V S fv wr hn (by omega) (by omega) (by simp; omega) (by omega) (by simpa using hrw)
      have HRe := Lib.hid hRe
      have Hc := Lib.hid hc
      clear hc hRe hrw hUi hVj hPm
      go_wp2_with fail
      refine (Hc.out).mono ?_
      rintro e w' ⟨rfl, hk', hr'⟩
      have hr2 : Rw g cap n w' R := by rw [HRe.out]; simpa using hr'
      clear hr'
      go_wp2
      (try simp only [Exit.inBlock, Exit.then])
      refine bodyPost_end (results_none rfl _ _ _) rfl ?_
      exact ⟨rfl, hkp.trans hk', hr2⟩
    · have d1 : ((i : Int) != (j : Int)) = true := by simp; omega
      have hlt : ¬ i > j → i < j := by omega
      clear hij
      by_cases hgt : i > j
      · have d2 : decide ((i : Int) > (j : Int)) = true := decide_eq_true (by omega)
        have e1 : P ++ U ++ V ++ S = P ++ U.take j ++ U.drop j ++ V ++ S := by simp
        rw [e1] at hrw
        have hc := Hswap.out g cap n ((m : Int) - (i : Int)) (m : Int) (j : Int) P (U.take j) (U.drop j) V S fv wr hn (by simp; omega) (by omega) (by simp; omega) (by simp; omega) hrw
        have HRe := Lib.hid (show R = (P ++ V) ++ U.take j ++ U.drop j ++ S by rw [hRe]; simp)
        have Hlen := Lib.hid (show (U.drop j).length = i - j ∧ (U.take j).length = j ∧ (P ++ V).length + (i - j) = m by simp; omega)
        have Hc := Lib.hid hc
        clear hc hRe hrw hUi hVj hPm e1
        go_wp2_with fail
        refine (Hc.out).mono ?_
        rintro e w' ⟨rfl, hk', hr'⟩
        have hst2 : RotSt g cap n m R (i - j) j w' := ⟨P ++ V, U.drop j, U.take j, S, Hlen.out.1, Hlen.out.2.1, Hlen.out.2.2, HRe.out, hr'⟩
        clear hr'
        go_wp2
        go_roundw
        case rel => exact ⟨i - j, j, by omega, hj, by omega, hjn, by go_num, rfl, hkp.trans hk', hst2⟩
        case measure => simp [intOf]; omega
      · have hlt := hlt hgt
        have d2 : decide ((i : Int) > (j : Int)) = false := decide_eq_false (by omega)
        have e1 : P ++ U ++ V ++ S = P ++ U ++ V.take (j - i) ++ V.drop (j - i) ++ S := by simp
        rw [e1] at hrw
        have hc := Hswap.out g cap n ((m : Int) - (i : Int)) ((m : Int) + (j : Int) - (i : Int)) (i : Int) P U (V.take (j - i)) (V.drop (j - i)) S fv wr hn (by simp; omega) (by omega) (by simp; omega) (by omega) hrw
        have HRe := Lib.hid (show R = P ++ V.take (j - i) ++ V.drop (j - i) ++ (U ++ S) by rw [hRe]; simp)
        have Hlen := Lib.hid (show (V.drop (j - i)).length = i ∧ (V.take (j - i)).length = j - i ∧ P.length + i = m by simp; omega)
        have Hc := Lib.hid hc
        clear hc hRe hrw hUi hVj hPm e1
        go_wp2_with fail
        refine (Hc.out).mono ?_
        rintro e w' ⟨rfl, hk', hr'⟩
        have hst2 : RotSt g cap n m R i (j - i) w' := ⟨P, V.drop (j - i), V.take (j - i), U ++ S, Hlen.out.1, Hlen.out.2.1, Hlen.out.2.2, HRe.out, by simpa using hr'⟩
        clear hr'
        go_wp2
        go_roundw
        case rel => exact ⟨i, j - i, hi, by omega, him, by omega, rfl, by go_num, hkp.trans hk', hst2⟩
        case measure => simp [intOf]; omega

end Go.Proofs.Ythjlnpcanccmkaa
