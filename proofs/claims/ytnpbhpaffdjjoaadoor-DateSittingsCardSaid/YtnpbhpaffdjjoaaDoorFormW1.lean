/- Format, Text, number: the walks. -/
import Derived.Test.YtnpbhpaffdjjoaaDoorTextW1
namespace Go.Proofs.YtnpbhpaffdjjoaaDoor
open Go.RowKit

/-- a day's text -/
def textF (y o : Nat) : ByteArray := bstr (digs 4 y ++ 45 :: digs 3 o)
theorem textF_eq (y o : Nat) : bstr (digs 4 y) ++ ⟨#[45]⟩ ++ bstr (digs 3 o) = textF y o := bytes_ext (by simp [bstr, textF])

theorem year_parts {d y : Int} (h1 : d ≤ 1048576) (hy : IsYear d y) : ∃ Y O : Nat, y = Y ∧ d - dy y + 1 = O ∧ 1900 ≤ Y ∧ Y ≤ 4772 ∧ 1 ≤ O ∧ (O : Int) ≤ daysF Y := by
  have hb := day_year_bd hy h1
  obtain ⟨a, b, c⟩ := hy
  have := dy_succ y (by omega)
  refine ⟨y.toNat, (d - dy y + 1).toNat, by omega, by omega, by omega, by omega, by omega, ?_⟩
  rw [Int.toNat_of_nonneg (by omega), Int.toNat_of_nonneg (by omega)]
  omega

set_option maxHeartbeats 400000 in
theorem format_yes (d y : Int) (w : World) (h0 : 0 ≤ d) (h1 : d ≤ 1048576) (hy : IsYear d y) (hT : Tab w) : Calls Tryd.prog 23 #[.int .i64 d] w fun e w' => e = .returned (.string (textF y.toNat (d - dy y + 1).toNat)) ∧ Ext w w' := by
  have hv := valid_any d
  rw [(dayB_iff d).2 ⟨h0, h1⟩] at hv
  have hyd := fun w => yearDay_yes d y w h0 h1 hy
  obtain ⟨Y, O, rfl, e2, b1, b2, b3, b4⟩ := year_parts h1 hy
  have b5 := (daysF_bd Y).2
  rw [e2] at hyd ⊢
  have hd1 := fun w hT => digits_any Y 4 (by omega) (by omega) (by omega) w hT
  have hd2 := fun w hT => digits_any O 3 (by omega) (by omega) (by omega) w hT
  rw [Int.toNat_natCast, Int.toNat_natCast, ← textF_eq]
  obtain ⟨s, hs⟩ : ∃ s, bstr (digs 4 Y) = s := ⟨_, rfl⟩
  obtain ⟨z, hz⟩ : ∃ z, bstr (digs 3 O) = z := ⟨_, rfl⟩
  have hs1 : s.size ≤ 4 := by rw [← hs, bstr_size, digs_length]; omega
  have hz1 : z.size ≤ 3 := by rw [← hz, bstr_size, digs_length]; omega
  rw [hs] at hd1 ⊢
  rw [hz] at hd2 ⊢
  have Hv := Lib.hid hv
  have Hyd := Lib.hid hyd
  have Hd1 := Lib.hid hd1
  have Hd2 := Lib.hid hd2
  have HT := Lib.hid hT
  clear hv hyd hd1 hd2 hT hs hz e2 hy b4 b5
  go_enter Tryd.func23, Tryd.ntmps23
  go_wp2_with fail
  refine (Hv.out _).mono ?_
  rintro e w' ⟨rfl, rfl⟩
  go_wp2_with fail
  refine (Hyd.out _).mono ?_
  rintro e w' ⟨rfl, rfl⟩
  go_wp2_with fail
  refine (Hd1.out _ HT.out).mono ?_
  rintro e w1 ⟨rfl, hx1⟩
  go_wp2_with fail
  refine (Hd2.out _ (HT.out.ext hx1)).mono ?_
  rintro e w2 ⟨rfl, hx2⟩
  go_wp2
  go_ret
  exact ⟨rfl, hx1.trans hx2⟩
set_option maxHeartbeats 400000 in
theorem format_no (d : Int) (w : World) (h : dayB d = false) : Calls Tryd.prog 23 #[.int .i64 d] w fun e w' => e = .returned (.string ⟨#[]⟩) ∧ w = w' := by
  have hv := valid_any d
  rw [h] at hv
  have Hv := Lib.hid hv
  clear hv h
  go_enter Tryd.func23, Tryd.ntmps23
  go_wp2_with (refine (Hv.out _).mono ?_; rintro e w' ⟨rfl, rfl⟩)
  go_ret
  exact ⟨rfl, rfl⟩
set_option maxHeartbeats 400000 in
theorem refText_yes (d y : Int) (w : World) (h0 : 0 ≤ d) (h1 : d ≤ 1048576) (hy : IsYear d y) : Calls Tryd.prog 25 #[.int .i64 d] w fun e w' => e = .returned (.string (textF y.toNat (d - dy y + 1).toNat)) ∧ Ext w w' := by
  have hyd := fun w => refYear_yes d y w h0 h1 hy
  obtain ⟨Y, O, rfl, e2, b1, b2, b3, b4⟩ := year_parts h1 hy
  have b5 := (daysF_bd Y).2
  rw [e2] at hyd ⊢
  have hd1 := fun w => refDigits_any Y 4 (by omega) (by omega) w
  have hd2 := fun w => refDigits_any O 3 (by omega) (by omega) w
  rw [Int.toNat_natCast, Int.toNat_natCast, ← textF_eq]
  obtain ⟨s, hs⟩ : ∃ s, bstr (digs 4 Y) = s := ⟨_, rfl⟩
  obtain ⟨z, hz⟩ : ∃ z, bstr (digs 3 O) = z := ⟨_, rfl⟩
  have hs1 : s.size ≤ 4 := by rw [← hs, bstr_size, digs_length]; omega
  have hz1 : z.size ≤ 3 := by rw [← hz, bstr_size, digs_length]; omega
  rw [hs] at hd1 ⊢
  rw [hz] at hd2 ⊢
  have Hyd := Lib.hid hyd
  have Hd1 := Lib.hid hd1
  have Hd2 := Lib.hid hd2
  clear hyd hd1 hd2 hs hz e2 hy b4 b5
  go_enter Tryd.func25, Tryd.ntmps25
  go_wp2_with fail
  refine (Hyd.out _).mono ?_
  rintro e w' ⟨rfl, rfl⟩
  go_wp2_with fail
  refine (Hd1.out _).mono ?_
  rintro e w1 ⟨rfl, hx1⟩
  go_wp2_with fail
  refine (Hd2.out _).mono ?_
  rintro e w2 ⟨rfl, hx2⟩
  go_wp2
  go_ret
  exact ⟨rfl, hx1.trans hx2⟩

theorem ret_val {a b : Value} (h : a = b) : Ending.returned a = .returned b := by rw [h]
theorem take_snoc1 (s : ByteArray) (k : Nat) (h : k < s.size) : s.data.toList.take (k + 1) = s.data.toList.take k ++ [s[k]] := by
  rw [List.take_succ_eq_append_getElem (by simpa using h)]; rfl
theorem numB_snoc (l : List UInt8) (c : UInt8) : numB (l ++ [c]) = (numB l && (decide (48 ≤ c.toNat) && decide (c.toNat ≤ 57))) := by simp [numB]
theorem numB_take {l : List UInt8} {k : Nat} (h : numB (l.take k) = false) : numB l = false := by
  cases hn : numB l with
  | false => rfl
  | true =>
    have : numB (l.take k) = true := by
      simp only [numB, List.all_eq_true] at hn ⊢
      exact fun x hx => hn x (List.mem_of_mem_take hx)
    rw [this] at h
    cases h
def numV (l : List UInt8) : Int := if numB l = true then (valN l : Int) else 0
theorem numV_yes {l : List UInt8} (h : numB l = true) : numV l = (valN l : Int) := by simp [numV, h]
theorem numV_no {l : List UInt8} (h : numB l = false) : numV l = 0 := by simp [numV, h]
theorem pow10_le {k : Nat} (h : k ≤ 4) : 10 ^ k ≤ 10000 := Nat.le_trans (Nat.pow_le_pow_right (by omega) h) (by omega)
set_option maxHeartbeats 800000 in
theorem number_any (s : ByteArray) (hs : s.size ≤ 4) (w : World) : Calls Tryd.prog 36 #[.string s] w fun e w' => e = .returned (.tuple #[.int .i64 (numV s.data.toList), .bool (numB s.data.toList)]) ∧ w = w' := by
  go_enter Tryd.func36, Tryd.ntmps36
  go_wp2
  go_loop [4, 5, 8] (fun n _ i => ∃ k : Nat, k ≤ s.size ∧ i = .int .i64 k ∧ numB (s.data.toList.take k) = true ∧ n = .int .i64 (valN (s.data.toList.take k) : Nat)) (fun _ _ i => s.size - (intOf i).toNat)
  case atStart => exact ⟨0, Nat.zero_le _, rfl, rfl, rfl⟩
  case round =>
    obtain ⟨k, hk, rfl, hn, rfl⟩ := hrel
    have hlen : (s.data.toList.take k).length = k := by simp; omega
    have hv := valN_lt k _ hlen hn
    have hp := pow10_le (k := k) (by omega)
    obtain ⟨v, hv0⟩ : ∃ v, valN (s.data.toList.take k) = v := ⟨_, rfl⟩
    rw [hv0] at hv ⊢
    have hv1 : v ≤ 10000 := by omega
    by_cases hlt : k < s.size
    · have hts := take_snoc1 s k hlt
      have hb := numB_snoc (s.data.toList.take k) s[k]
      have hvs := valN_snoc (s.data.toList.take k) s[k]
      rw [← hts, hn, Bool.true_and] at hb
      rw [← hts, hv0] at hvs
      have Hvs := Lib.hid hvs
      have Hb := Lib.hid hb
      have Hv0 := Lib.hid hv0
      clear hts hb hvs hv0 hv hp hlen
      by_cases hd : 48 ≤ s[k].toNat ∧ s[k].toNat ≤ 57
      · obtain ⟨hd1, hd2⟩ := hd
        go_wp2
        go_round
        case rel => exact ⟨k + 1, by omega, by go_num, by rw [Hb.out]; simp [hd1, hd2], by rw [Hvs.out]; exact int_eq_of (by omega)⟩
        case measure => simp [intOf]; omega
      · have hnb : numB s.data.toList = false := numB_take (k := k + 1) (by rw [Hb.out]; simp; omega)
        have Hnb := Lib.hid hnb
        clear hnb
        by_cases hd1 : s[k].toNat < 48
        · have b1 : decide ((s[k].toNat : Int) < 48) = true := decide_eq_true (by omega)
          go_wp2
          go_ret2
          exact ⟨ret_val (by rw [Hnb.out, numV_no Hnb.out]; rfl), rfl⟩
        · have b1 : decide ((s[k].toNat : Int) < 48) = false := decide_eq_false (by omega)
          have b2 : decide (57 < (s[k].toNat : Int)) = true := decide_eq_true (by omega)
          clear hd
          go_wp2
          go_ret2
          exact ⟨ret_val (by rw [Hnb.out, numV_no Hnb.out]; rfl), rfl⟩
    · obtain rfl : k = s.size := by omega
      have hall : s.data.toList.take s.size = s.data.toList := List.take_of_length_le (by simp)
      rw [hall] at hn hv0
      have Hn := Lib.hid hn
      have Hv0 := Lib.hid hv0
      clear hn hall hv0 hv hp hlen
      go_wp2
      go_ret2
      exact ⟨ret_val (by rw [Hn.out, numV_yes Hn.out, Hv0.out]; rfl), rfl⟩

end Go.Proofs.YtnpbhpaffdjjoaaDoor
