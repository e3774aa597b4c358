/- Decimal digits of a fixed width, in plain lists. -/
import Derived.WalkKit
import Derived.Lib.ItoaNum
import Derived.Lib.Repeat
namespace Go.Proofs.YtiacmahfjcolaaaDoor

/-- the last k decimal digits of n -/
def digs : Nat → Nat → List UInt8
  | 0, _ => []
  | k + 1, n => digs k (n / 10) ++ [UInt8.ofNat (48 + n % 10)]
theorem digs_length : ∀ k n, (digs k n).length = k
  | 0, _ => rfl
  | k + 1, n => by rw [digs, List.length_append, digs_length k]; rfl
theorem digs_zero : ∀ k, digs k 0 = List.replicate k 48
  | 0 => rfl
  | k + 1 => by
    rw [digs, Nat.zero_div, digs_zero k, List.replicate_succ']
    rfl
/-- one digit more, at the front -/
theorem digs_front : ∀ (k n : Nat), digs (k + 1) n = UInt8.ofNat (48 + n / 10 ^ k % 10) :: digs k n
  | 0, n => by simp [digs]
  | k + 1, n => by
    rw [digs, digs_front k (n / 10), digs, Nat.div_div_eq_div_mul, Nat.pow_succ, Nat.mul_comm 10]
    rfl
theorem decDigits_pad : ∀ (k n : Nat), n < 10 ^ k → 1 ≤ k → (Lib.decDigits n).length ≤ k ∧ List.replicate (k - (Lib.decDigits n).length) 48 ++ Lib.decDigits n = digs k n
  | 0, _, _, h => by omega
  | k + 1, n, hn, _ => by
    rw [Lib.decDigits]
    by_cases h : n < 10
    · rw [dif_pos h]
      refine ⟨by simp, ?_⟩
      rw [digs, Nat.div_eq_of_lt h, digs_zero, Nat.mod_eq_of_lt h]
      simp
    · rw [dif_neg h]
      have hk : 1 ≤ k := by
        rcases Nat.eq_zero_or_pos k with h0 | h0
        · subst h0; simp at hn; omega
        · exact h0
      have hd : n / 10 < 10 ^ k := by
        rw [Nat.pow_succ] at hn
        exact Nat.div_lt_of_lt_mul (by rw [Nat.mul_comm]; exact hn)
      obtain ⟨h1, h2⟩ := decDigits_pad k (n / 10) hd hk
      refine ⟨by simp; omega, ?_⟩
      rw [digs, ← h2, List.length_append, List.length_singleton, Nat.add_sub_add_right, List.append_assoc]

/-- a list of bytes as a string -/
def bstr (l : List UInt8) : ByteArray := ⟨l.toArray⟩
theorem bstr_list (l : List UInt8) : (bstr l).data.toList = l := rfl
theorem bytes_ext {a b : ByteArray} (h : a.data.toList = b.data.toList) : a = b := ByteArray.ext (Array.ext' h)
theorem bstr_self (s : ByteArray) : bstr s.data.toList = s := bytes_ext rfl
theorem bstr_append (a b : List UInt8) : bstr a ++ bstr b = bstr (a ++ b) := bytes_ext (by simp [bstr])
theorem bstr_size (l : List UInt8) : (bstr l).size = l.length := by simp [bstr, ByteArray.size]

/-- all bytes are digits; their number -/
def numB (l : List UInt8) : Bool := l.all fun c => decide (48 ≤ c.toNat) && decide (c.toNat ≤ 57)
def valN (l : List UInt8) : Nat := l.foldl (fun n c => 10 * n + (c.toNat - 48)) 0
theorem valN_snoc (l : List UInt8) (c : UInt8) : valN (l ++ [c]) = 10 * valN l + (c.toNat - 48) := by simp [valN]
theorem valN_lt : ∀ (k : Nat) (l : List UInt8), l.length = k → numB l = true → valN l < 10 ^ k
  | 0, l, h, _ => by
    obtain rfl := List.eq_nil_of_length_eq_zero h
    simp [valN]
  | k + 1, l, h, hn => by
    obtain ⟨i, c, rfl⟩ : ∃ i c, l = i ++ [c] := ⟨l.dropLast, l.getLast (by intro e; subst e; simp at h), (List.dropLast_concat_getLast _).symm⟩
    rw [valN_snoc, Nat.pow_succ]
    simp only [List.length_append, List.length_singleton, Nat.add_right_cancel_iff] at h
    simp only [numB, List.all_append, List.all_cons, List.all_nil, Bool.and_true, Bool.and_eq_true, decide_eq_true_eq] at hn
    have := valN_lt k i h hn.1
    omega
theorem digs_valN : ∀ (k : Nat) (l : List UInt8), l.length = k → numB l = true → digs k (valN l) = l
  | 0, l, h, _ => by
    obtain rfl := List.eq_nil_of_length_eq_zero h
    rfl
  | k + 1, l, h, hn => by
    obtain ⟨i, c, rfl⟩ : ∃ i c, l = i ++ [c] := ⟨l.dropLast, l.getLast (by intro e; subst e; simp at h), (List.dropLast_concat_getLast _).symm⟩
    simp only [List.length_append, List.length_singleton, Nat.add_right_cancel_iff] at h
    simp only [numB, List.all_append, List.all_cons, List.all_nil, Bool.and_true, Bool.and_eq_true, decide_eq_true_eq] at hn
    rw [valN_snoc, digs]
    have e1 : (10 * valN i + (c.toNat - 48)) / 10 = valN i := by omega
    have e2 : (10 * valN i + (c.toNat - 48)) % 10 = c.toNat - 48 := by omega
    rw [e1, e2, digs_valN k i h hn.1]
    congr 1
    rw [show 48 + (c.toNat - 48) = c.toNat from by omega]
    simp
theorem numB_digs : ∀ k n, numB (digs k n) = true
  | 0, _ => rfl
  | k + 1, n => by
    have := numB_digs k (n / 10)
    unfold numB at this
    rw [digs, numB, List.all_append, this]
    have h : (UInt8.ofNat (48 + n % 10)).toNat = 48 + n % 10 := by
      rw [UInt8.toNat_ofNat']
      omega
    simp
    omega
theorem valN_digs : ∀ k n, n < 10 ^ k → valN (digs k n) = n
  | 0, n, h => by simp at h; subst h; rfl
  | k + 1, n, h => by
    have hd : n / 10 < 10 ^ k := by
      rw [Nat.pow_succ] at h
      exact Nat.div_lt_of_lt_mul (by rw [Nat.mul_comm]; exact h)
    have h8 : (UInt8.ofNat (48 + n % 10)).toNat = 48 + n % 10 := by
      rw [UInt8.toNat_ofNat']
      omega
    rw [digs, valN_snoc, valN_digs k _ hd, h8]
    omega
theorem digs_mod : ∀ k n, digs k (n % 10 ^ k) = digs k n
  | 0, n => rfl
  | k + 1, n => by
    rw [digs, digs]
    have e1 : n % 10 ^ (k + 1) / 10 = n / 10 % 10 ^ k := by
      rw [Nat.pow_succ, Nat.mul_comm, Nat.mod_mul_right_div_self]
    have e2 : n % 10 ^ (k + 1) % 10 = n % 10 := Nat.mod_mod_of_dvd n (Nat.dvd_of_mod_eq_zero (by rw [Nat.pow_succ]; simp))
    rw [e1, e2, digs_mod k]
/-- the order of texts of one width is the order of the numbers -/
theorem digs_lt : ∀ (k a b : Nat), a < 10 ^ k → b < 10 ^ k → (digs k a < digs k b ↔ a < b)
  | 0, a, b, ha, hb => by simp at ha hb; subst ha; subst hb; simp [digs]
  | k + 1, a, b, ha, hb => by
    rw [digs_front, digs_front]
    have hp : 0 < 10 ^ k := Nat.pow_pos (by omega)
    have ha1 : a / 10 ^ k < 10 := by
      rw [Nat.pow_succ] at ha
      exact Nat.div_lt_of_lt_mul ha
    have hb1 : b / 10 ^ k < 10 := by
      rw [Nat.pow_succ] at hb
      exact Nat.div_lt_of_lt_mul hb
    have hda : digs k a = digs k (a % 10 ^ k) := by rw [digs_mod]
    have hdb : digs k b = digs k (b % 10 ^ k) := by rw [digs_mod]
    have ih := digs_lt k (a % 10 ^ k) (b % 10 ^ k) (Nat.mod_lt _ hp) (Nat.mod_lt _ hp)
    rw [hda, hdb, List.cons_lt_cons_iff, ih, Nat.mod_eq_of_lt ha1, Nat.mod_eq_of_lt hb1]
    have h8 : ∀ x, x < 10 → (UInt8.ofNat (48 + x)).toNat = 48 + x := fun x hx => by
      rw [UInt8.toNat_ofNat']
      omega
    rw [UInt8.lt_iff_toNat_lt, ← UInt8.toNat_inj, h8 _ ha1, h8 _ hb1]
    have ea := Nat.div_add_mod a (10 ^ k)
    have eb := Nat.div_add_mod b (10 ^ k)
    have ma := Nat.mod_lt a hp
    have mb := Nat.mod_lt b hp
    constructor
    · rintro (h | ⟨h1, h2⟩)
      · have h3 : a / 10 ^ k + 1 ≤ b / 10 ^ k := by omega
        have := Nat.mul_le_mul_left (10 ^ k) h3
        rw [Nat.mul_add] at this
        omega
      · have h3 : a / 10 ^ k = b / 10 ^ k := by omega
        rw [h3] at ea
        omega
    · intro h
      rcases Nat.lt_trichotomy (a / 10 ^ k) (b / 10 ^ k) with h1 | h1 | h1
      · left; omega
      · right
        rw [h1] at ea
        omega
      · have := Nat.mul_le_mul_left (10 ^ k) (show b / 10 ^ k + 1 ≤ a / 10 ^ k from h1)
        rw [Nat.mul_add] at this
        omega

end Go.Proofs.YtiacmahfjcolaaaDoor
