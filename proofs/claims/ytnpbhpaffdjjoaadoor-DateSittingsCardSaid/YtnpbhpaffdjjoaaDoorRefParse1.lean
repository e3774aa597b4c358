/- The reference's Parse: the walk. -/
import Derived.Test.YtnpbhpaffdjjoaaDoorParse1
namespace Go.Proofs.YtnpbhpaffdjjoaaDoor
open Go.RowKit

def partL (l : List UInt8) (i : Nat) : List UInt8 := l.take (min i 4) ++ (l.drop 5).take (i - 5)
theorem partL_zero (l : List UInt8) : partL l 0 = [] := by simp [partL]
theorem partL_skip (l : List UInt8) : partL l 5 = partL l 4 := by simp [partL]
theorem partL_step {l : List UInt8} {i : Nat} (hi : i < l.length) (h4 : i ≠ 4) : partL l (i + 1) = partL l i ++ [l[i]] := by
  unfold partL
  rcases Nat.lt_or_ge i 4 with h | h
  · rw [show min (i + 1) 4 = i + 1 from by omega, show min i 4 = i from by omega, show i + 1 - 5 = 0 from by omega, show i - 5 = 0 from by omega, List.take_succ_eq_append_getElem hi]
    simp
  · have h5 : 5 ≤ i := by omega
    rw [show min (i + 1) 4 = 4 from by omega, show min i 4 = 4 from by omega, show i + 1 - 5 = i - 5 + 1 from by omega, List.take_succ_eq_append_getElem (l := l.drop 5) (i := i - 5) (by rw [List.length_drop]; omega), List.append_assoc]
    congr 2
    rw [List.getElem_drop]
    congr 2
    omega
theorem partL_all {l : List UInt8} (h : l.length = 8) : partL l 8 = l.take 4 ++ l.drop 5 := by
  unfold partL
  rw [List.take_of_length_le (l := l.drop 5) (by simp; omega)]
  rfl
theorem partL_len {l : List UInt8} (h : l.length = 8) {i : Nat} (hi : i ≤ 8) : (partL l i).length ≤ 7 := by
  simp [partL]
  omega
theorem valN_app (a : List UInt8) : ∀ b : List UInt8, valN (a ++ b) = valN a * 10 ^ b.length + valN b := by
  intro b
  obtain ⟨n, hn⟩ : ∃ n, b.length = n := ⟨_, rfl⟩
  induction n generalizing b with
  | zero =>
    obtain rfl := List.eq_nil_of_length_eq_zero hn
    simp [valN]
  | succ n ih =>
    obtain ⟨i, c, rfl⟩ : ∃ i c, b = i ++ [c] := ⟨b.dropLast, b.getLast (by intro e; subst e; simp at hn), (List.dropLast_concat_getLast _).symm⟩
    simp only [List.length_append, List.length_singleton, Nat.add_right_cancel_iff] at hn
    rw [← List.append_assoc, valN_snoc, valN_snoc, ih i hn, List.length_append, List.length_singleton, Nat.pow_succ, ← Nat.mul_assoc]
    omega
theorem numB_app (a b : List UInt8) : numB (a ++ b) = (numB a && numB b) := by simp [numB]
theorem numB_part {l : List UInt8} {i : Nat} (h : numB (partL l i) = false) : (numB (l.take 4) && numB (l.drop 5)) = false := by
  unfold partL at h
  rw [numB_app] at h
  cases h1 : numB (l.take 4) with
  | false => rfl
  | true =>
    have h2 : numB (l.take (min i 4)) = true := by
      simp only [numB, List.all_eq_true] at h1 ⊢
      intro x hx
      refine h1 x ?_
      have : l.take (min i 4) = (l.take 4).take (min i 4) := by rw [List.take_take]; congr 1; omega
      rw [this] at hx
      exact List.mem_of_mem_take hx
    rw [h2, Bool.true_and] at h
    rw [Bool.true_and]
    exact numB_take h
theorem getL {s : ByteArray} {k : Nat} (h : k < s.size) : s.data.toList[k]'(by simpa using h) = s[k] := rfl

set_option maxHeartbeats 1600000 in
theorem refParse_any (s : ByteArray) (w : World) : Calls Tryd.prog 26 #[.string s] w fun e w' => e = .returned (.tuple #[.int .i64 (parseN s.data.toList), .int .i64 (parseE s.data.toList)]) ∧ w = w' := by
  by_cases hz : s.size = 8
  · have g4 := get4 hz
    have hl8 : s.data.toList.length = 8 := by simp [← hz]
    by_cases h45 : (s[4]'(by omega)) = 45
    · have b4 : (((s[4]'(by omega)).toNat : Int) != 45) = false := by rw [h45]; rfl
      have hf : formB s.data.toList = (numB (s.data.toList.take 4) && numB (s.data.toList.drop 5)) := by
        unfold formB
        rw [g4, hl8, h45]
        simp
      have Hf := Lib.hid hf
      have Hl8 := Lib.hid hl8
      clear hf g4 h45 hl8
      go_enter Tryd.func26, Tryd.ntmps26
      go_wp2
      clear b4
      go_loop [4, 5] (fun n i => ∃ k v : Nat, k ≤ 8 ∧ i = .int .i64 k ∧ numB (partL s.data.toList k) = true ∧ n = .int .i64 v ∧ Hid (valN (partL s.data.toList k) = v)) (fun _ i => 8 - (intOf i).toNat)
      case atStart => exact ⟨0, 0, by omega, rfl, by rw [partL_zero]; rfl, rfl, Lib.hid (by rw [partL_zero]; rfl)⟩
      case round =>
        obtain ⟨k, v, hk, rfl, hn, rfl, Hv⟩ := hrel
        have hpl := partL_len Hl8.out hk
        have hv1 : v ≤ 10000000 := by
          have h1 := valN_lt _ _ rfl hn
          have h2 : 10 ^ (partL s.data.toList k).length ≤ 10 ^ 7 := Nat.pow_le_pow_right (by omega) hpl
          have h3 := Hv.out
          omega
        clear hpl
        by_cases hlt : k < 8
        · by_cases hk4 : k = 4
          · subst hk4
            go_wp2
            go_round
            case rel => exact ⟨5, v, by omega, rfl, by rw [partL_skip]; exact hn, rfl, Lib.hid (by rw [partL_skip]; exact Hv.out)⟩
            case measure => simp [intOf]
          · have hlt' : k < s.size := by omega
            have b4 : ((k : Int) == 4) = false := by simp; omega
            have hstep := partL_step (l := s.data.toList) (i := k) (by have := Hl8.out; omega) hk4
            rw [getL hlt'] at hstep
            have hb := numB_snoc (partL s.data.toList k) s[k]
            have hvs := valN_snoc (partL s.data.toList k) s[k]
            rw [← hstep, hn, Bool.true_and] at hb
            rw [← hstep, Hv.out] at hvs
            have Hb := Lib.hid hb
            have Hvs := Lib.hid hvs
            clear hstep hb hvs hk4
            by_cases hd : 48 ≤ s[k].toNat ∧ s[k].toNat ≤ 57
            · obtain ⟨hd1, hd2⟩ := hd
              go_wp2
              go_round
              case rel => exact ⟨k + 1, 10 * v + (s[k].toNat - 48), by omega, by go_num, by rw [Hb.out]; simp [hd1, hd2], int_eq_of (by omega), Lib.hid Hvs.out⟩
              case measure => simp [intOf]; omega
            · have hnb : formB s.data.toList = false := by
                rw [Hf.out]
                refine numB_part (i := k + 1) ?_
                rw [Hb.out]
                simp
                omega
              have Hp := Lib.hid (parse_no hnb)
              clear hnb
              by_cases hd1 : s[k].toNat < 48
              · have b1 : decide ((s[k].toNat : Int) < 48) = true := decide_eq_true (by omega)
                go_wp2
                go_ret2
                exact ⟨ret_val (by rw [Hp.out.1, Hp.out.2]; rfl), rfl⟩
              · have b1 : decide ((s[k].toNat : Int) < 48) = false := decide_eq_false (by omega)
                have b2 : decide (57 < (s[k].toNat : Int)) = true := decide_eq_true (by omega)
                clear hd
                go_wp2
                go_ret2
                exact ⟨ret_val (by rw [Hp.out.1, Hp.out.2]; rfl), rfl⟩
        · obtain rfl : k = 8 := by omega
          have hall := partL_all Hl8.out
          have hnn := hn
          have hvv := Hv.out
          rw [hall] at hnn hvv
          rw [numB_app, ← Hf.out] at hnn
          have h3 : (s.data.toList.drop 5).length = 3 := by rw [List.length_drop, Hl8.out]
          rw [valN_app, h3] at hvv
          have hn3 : numB (s.data.toList.drop 5) = true := by
            have h := Hf.out
            rw [hnn] at h
            have h := h.symm
            rw [Bool.and_eq_true] at h
            exact h.2
          have hlt3 := valN_lt 3 _ h3 hn3
          obtain ⟨a, ha⟩ : ∃ a, valN (s.data.toList.take 4) = a := ⟨_, rfl⟩
          obtain ⟨b, hb⟩ : ∃ b, valN (s.data.toList.drop 5) = b := ⟨_, rfl⟩
          rw [ha, hb] at hvv
          rw [hb] at hlt3
          have e1 : (v : Int) / 1000 = a := by omega
          have e2 : (v : Int) % 1000 = b := by omega
          have hat := refAt_any a b
          have Ha := Lib.hid ha
          have Hb := Lib.hid hb
          clear hn hall hvv h3 hn3 hlt3 ha hb hlt hk
          cases hab : atB a b
          · have Hp := Lib.hid (parse_out hnn (by rw [Ha.out, Hb.out]; exact hab))
            rw [hab] at hat
            have Hat := Lib.hid hat
            clear hat hnn hab
            go_wp2_with fail
            refine (Hat.out _).mono ?_
            rintro e w' ⟨rfl, rfl⟩
            go_wp2
            go_ret2
            exact ⟨ret_val (by rw [Hp.out.1, Hp.out.2]; rfl), rfl⟩
          · have Hp := Lib.hid (parse_yes hnn (by rw [Ha.out, Hb.out]; exact hab))
            rw [hab] at hat
            have Hat := Lib.hid hat
            clear hat hnn hab
            go_wp2_with fail
            refine (Hat.out _).mono ?_
            rintro e w' ⟨rfl, rfl⟩
            go_wp2
            go_ret2
            exact ⟨ret_val (by rw [Hp.out.1, Hp.out.2, Ha.out, Hb.out]; rfl), rfl⟩
    · have hf : formB s.data.toList = false := by simp [formB, g4, h45]
      obtain ⟨p1, p2⟩ := parse_no hf
      rw [p1, p2]
      have b4 : (((s[4]'(by omega)).toNat : Int) != 45) = true := by
        have n4 : (s[4]'(by omega)).toNat ≠ 45 := fun h => h45 (UInt8.toNat_inj.1 h)
        simp only [bne_iff_ne]
        omega
      clear hf p1 p2 g4 hl8 h45
      go_enter Tryd.func26, Tryd.ntmps26
      go_wp2
      go_ret2
      exact ⟨rfl, rfl⟩
  · have hf : formB s.data.toList = false := by
      have h8 : decide (s.data.toList.length = 8) = false := decide_eq_false (by simpa using hz)
      simp only [formB, h8, Bool.false_and]
    obtain ⟨p1, p2⟩ := parse_no hf
    rw [p1, p2]
    have b1 : ((s.size : Int) != 8) = true := by simp; omega
    clear hf p1 p2 hz
    go_enter Tryd.func26, Tryd.ntmps26
    go_wp2
    go_ret2
    exact ⟨rfl, rfl⟩

end Go.Proofs.YtnpbhpaffdjjoaaDoor
