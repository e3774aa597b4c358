/- Lengths of lines and valid ends: plain laws and walks. -/
import Derived.Test.YtdglijpooodlnaaWrong54
namespace Go.Proofs.Ytdglijpooodlnaa
open Go.RowKit

/-- where a word begins if all stand on one line -/
def posF (l : List ByteArray) (i : Nat) : Nat := ((l.take i).map fun s => s.size + 1).sum
theorem posF_zero (l : List ByteArray) : posF l 0 = 0 := rfl
theorem posF_succ {l : List ByteArray} {i : Nat} (h : i < l.length) : posF l (i + 1) = posF l i + l[i].size + 1 := by
  unfold posF
  rw [List.take_succ_eq_append_getElem h, List.map_append, List.sum_append]
  simp
  omega
theorem posF_mono (l : List ByteArray) (i : Nat) : ∀ k, i ≤ k → posF l i ≤ posF l k := by
  intro k h
  induction k with
  | zero => obtain rfl : i = 0 := by omega
            exact Nat.le_refl _
  | succ k ih =>
    rcases Nat.lt_or_ge i (k + 1) with h1 | h1
    · have h2 := ih (by omega)
      rcases Nat.lt_or_ge k l.length with h3 | h3
      · rw [posF_succ h3]; omega
      · have : posF l (k + 1) = posF l k := by
          unfold posF
          rw [List.take_of_length_le (by omega), List.take_of_length_le h3]
        omega
    · obtain rfl : i = k + 1 := by omega
      exact Nat.le_refl _
theorem posF_le {l : List ByteArray} {n : Nat} (h : briefP l n) : ∀ i, i ≤ l.length → posF l i ≤ 301 * i
  | 0, _ => Nat.le_refl _
  | i + 1, hi => by
    have h1 := posF_le h i (by omega)
    have h2 := h.2 l[i] (List.getElem_mem (by omega))
    rw [posF_succ (by omega)]
    omega
/-- the length of the line of the words i .. k - 1 -/
def lenF (l : List ByteArray) (i k : Nat) : Int := (posF l k : Int) - posF l i - 1
theorem lenF_succ {l : List ByteArray} {i k : Nat} (h : k < l.length) : lenF l i (k + 1) = lenF l i k + (1 + (l[k].size : Int)) := by
  unfold lenF
  rw [posF_succ h]
  omega

set_option maxRecDepth 100000 in
set_option maxHeartbeats 800000 in
theorem length_any (A : Option Addr) (c : Nat) (l : List ByteArray) (i k : Nat) (m : Nat) (w : World) (hs : Sl strEl w A l) (hb : briefP l m) (hm : m ≤ 60) (hik : i ≤ k) (hk : k ≤ l.length) :
    Calls Try.prog 31 #[.slice A l.length c, .int .i64 (i : Nat), .int .i64 (k : Nat)] w fun e w' => e = .returned (.int .i64 (lenF l i k)) ∧ Ext w w' := by
  have hl := hb.1
  have Hb := Lib.hid hb.2
  have Hb' := Lib.hid hb
  clear hb
  go_enter Try.func31, Try.ntmps31
  go_wp2
  go_loopw [7, 8] (fun n j wr => ∃ q : Nat, i ≤ q ∧ q ≤ k ∧ j = .int .i64 (q : Nat) ∧ n = .int .i64 ((k : Int) - q - 1 + (lenF l i q + 1)) ∧ Ext w wr) (fun _ j _ => k - (intOf j).toNat)
  case atStart => exact ⟨i, Nat.le_refl _, hik, rfl, int_eq_of (by unfold lenF; omega), Ext.refl _⟩
  case round =>
    obtain ⟨q, hq1, hq2, rfl, rfl, hext⟩ := hrel
    have hp1 := posF_le Hb'.out q (by omega)
    have hp2 := posF_mono l i q hq1
    have hL : -1 ≤ lenF l i q ∧ lenF l i q ≤ 20000 := by unfold lenF; omega
    clear hp1 hp2
    by_cases hlt : q < k
    · obtain ⟨b, off, rfl, hbl, u0⟩ := strAt (hs.ext hext) (k := q) (by omega)
      have hst := lenF_succ (l := l) (i := i) (k := q) (by omega)
      have hsz := Hb.out l[q] (List.getElem_mem (by omega))
      obtain ⟨s, hs0⟩ : ∃ s, l[q]'(by omega) = s := ⟨_, rfl⟩
      rw [hs0] at u0 hst hsz
      obtain ⟨L, hL0⟩ : ∃ L, lenF l i q = L := ⟨_, rfl⟩
      rw [hL0] at hL hst ⊢
      have Hst := Lib.hid hst
      clear hs0 hL0 hst
      go_wp2
      go_roundw
      case rel => exact ⟨q + 1, by omega, by omega, by go_num, by rw [Hst.out]; exact int_eq_of (by omega), hext⟩
      case measure => simp [intOf]; omega
    · obtain rfl : q = k := by omega
      obtain ⟨L, hL0⟩ : ∃ L, lenF l i q = L := ⟨_, rfl⟩
      rw [hL0] at hL ⊢
      have HL0 := Lib.hid hL0
      clear hL0
      go_wp2
      go_ret
      exact ⟨ret_int (by rw [HL0.out]; omega), hext⟩

/-- ends that divide n words, from a on -/
def endsB (n : Int) : Int → List Int → Bool
  | a, [] => decide (a = n)
  | a, e :: es => (decide (a < e) && decide (e ≤ n)) && endsB n e es
theorem endsB_drop {n : Int} {es : List Int} {k : Nat} (hk : k < es.length) (a : Int) : endsB n a (es.drop k) = ((decide (a < es[k]) && decide (es[k] ≤ n)) && endsB n es[k] (es.drop (k + 1))) := by
  rw [List.drop_eq_getElem_cons hk, endsB]

set_option maxRecDepth 100000 in
set_option maxHeartbeats 1600000 in
theorem are_any (A : Option Addr) (c : Nat) (es : List Int) (lA : Option Addr) (lc n : Nat) (w : World) (hs : Sl intEl w A es) (hn : es.length ≤ 9223372036854775807) (hn2 : n ≤ 9223372036854775807) :
    Calls Try.prog 33 #[.slice A es.length c, .slice lA n lc] w fun e w' => e = .returned (.bool (endsB (n : Int) 0 es)) ∧ Ext w w' := by
  go_enter Try.func33, Try.ntmps33
  go_wp2
  go_loopw [5, 7, 10] (fun a u i wr => ∃ (k : Nat) (x : Int), k ≤ es.length ∧ i = .int .i64 k ∧ a = .int .i64 x ∧ Hid (endsB (n : Int) 0 es = endsB (n : Int) x (es.drop k)) ∧ Ext w wr) (fun _ _ i _ => es.length - (intOf i).toNat)
  case atStart => exact ⟨0, 0, Nat.zero_le _, rfl, rfl, Lib.hid rfl, Ext.refl _⟩
  case round =>
    obtain ⟨k, x, hk, rfl, rfl, Hk, hext⟩ := hrel
    by_cases hlt : k < es.length
    · obtain ⟨b, off, rfl, hbl, u0⟩ := intAt (hs.ext hext) hlt
      have Htk := Lib.hid (endsB_drop (n := (n : Int)) hlt x)
      obtain ⟨y, hq⟩ : ∃ y, es[k] = y := ⟨_, rfl⟩
      rw [hq] at u0 Htk
      clear hq
      by_cases e1 : y ≤ x
      · have d1 : decide (y ≤ x) = true := decide_eq_true e1
        have Hf := Lib.hid (show endsB (n : Int) 0 es = false by rw [Hk.out, Htk.out, decide_eq_false (show ¬ x < y by omega)]; rfl)
        go_wp2
        go_ret
        exact ⟨ret_bool Hf.out.symm, hext⟩
      · have d1 : decide (y ≤ x) = false := decide_eq_false e1
        by_cases e2 : y > (n : Int)
        · have d2 : decide (y > (n : Int)) = true := decide_eq_true e2
          have Hf := Lib.hid (show endsB (n : Int) 0 es = false by rw [Hk.out, Htk.out, decide_eq_false (show ¬ y ≤ (n : Int) by omega)]; simp)
          go_wp2
          go_ret
          exact ⟨ret_bool Hf.out.symm, hext⟩
        · have d2 : decide (y > (n : Int)) = false := decide_eq_false e2
          have Hn := Lib.hid (show endsB (n : Int) 0 es = endsB (n : Int) y (es.drop (k + 1)) by rw [Hk.out, Htk.out, decide_eq_true (show x < y by omega), decide_eq_true (show y ≤ (n : Int) by omega)]; rfl)
          go_wp2
          go_roundw
          case rel => exact ⟨k + 1, y, by omega, by go_num, rfl, Hn, hext⟩
          case measure => simp [intOf]; omega
    · have hkl : k = es.length := by omega
      have h3 := Hk.out
      rw [List.drop_of_length_le (by omega)] at h3
      have H3 := Lib.hid h3
      clear h3 hkl
      go_wp2
      go_ret
      exact ⟨ret_bool (by rw [H3.out]; rfl), hext⟩
set_option maxRecDepth 100000 in
set_option maxHeartbeats 1600000 in
theorem rises_any (A : Option Addr) (c : Nat) (es : List Int) (n : Int) (w : World) (hs : Sl intEl w A es) (hn : es.length ≤ 9223372036854775807) :
    Calls Try.prog 35 #[.slice A es.length c, .int .i64 n] w fun e w' => e = .returned (.bool (endsB n 0 es)) ∧ Ext w w' := by
  go_enter Try.func35, Try.ntmps35
  go_wp2
  go_loopw [5, 6] (fun a i wr => ∃ (k : Nat) (x : Int), k ≤ es.length ∧ i = .int .i64 k ∧ a = .int .i64 x ∧ Hid (endsB n 0 es = endsB n x (es.drop k)) ∧ Ext w wr) (fun _ i _ => es.length - (intOf i).toNat)
  case atStart => exact ⟨0, 0, Nat.zero_le _, rfl, rfl, Lib.hid rfl, Ext.refl _⟩
  case round =>
    obtain ⟨k, x, hk, rfl, rfl, Hk, hext⟩ := hrel
    by_cases hlt : k < es.length
    · obtain ⟨b, off, rfl, hbl, u0⟩ := intAt (hs.ext hext) hlt
      have Htk := Lib.hid (endsB_drop (n := n) hlt x)
      obtain ⟨y, hq⟩ : ∃ y, es[k] = y := ⟨_, rfl⟩
      rw [hq] at u0 Htk
      clear hq
      by_cases e1 : y ≤ x
      · have d1 : decide (y ≤ x) = true := decide_eq_true e1
        have Hf := Lib.hid (show endsB n 0 es = false by rw [Hk.out, Htk.out, decide_eq_false (show ¬ x < y by omega)]; rfl)
        go_wp2
        go_ret
        exact ⟨ret_bool Hf.out.symm, hext⟩
      · have d1 : decide (y ≤ x) = false := decide_eq_false e1
        by_cases e2 : y > n
        · have d2 : decide (y > n) = true := decide_eq_true e2
          have Hf := Lib.hid (show endsB n 0 es = false by rw [Hk.out, Htk.out, decide_eq_false (show ¬ y ≤ n by omega)]; simp)
          go_wp2
          go_ret
          exact ⟨ret_bool Hf.out.symm, hext⟩
        · have d2 : decide (y > n) = false := decide_eq_false e2
          have Hn := Lib.hid (show endsB n 0 es = endsB n y (es.drop (k + 1)) by rw [Hk.out, Htk.out, decide_eq_true (show x < y by omega), decide_eq_true (show y ≤ n by omega)]; rfl)
          go_wp2
          go_roundw
          case rel => exact ⟨k + 1, y, by omega, by go_num, rfl, Hn, hext⟩
          case measure => simp [intOf]; omega
    · have hkl : k = es.length := by omega
      have h3 := Hk.out
      rw [List.drop_of_length_le (by omega)] at h3
      have H3 := Lib.hid h3
      clear h3 hkl
      go_wp2
      go_ret
      exact ⟨ret_bool (by rw [H3.out]; rfl), hext⟩

end Go.Proofs.Ytdglijpooodlnaa
