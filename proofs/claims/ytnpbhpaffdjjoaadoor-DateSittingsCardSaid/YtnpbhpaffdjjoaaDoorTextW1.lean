/- Texts of days: digits, Format, Text: the walks. -/
import Derived.Test.YtnpbhpaffdjjoaaDoorYearW1
import Derived.Test.YtnpbhpaffdjjoaaDoorDigs1
import Derived.Test.YtnpbhpaffdjjoaaDoorEng
import Derived.Test.YtnpbhpaffdjjoaaDoorShelf
import Derived.Lib.AppendIntMem
import Derived.Laws.IdiomStrings
namespace Go.Proofs.YtnpbhpaffdjjoaaDoor
open Go.RowKit

/-- the table of powers, as the library reads it -/
def Tab (w : World) : Prop := Lib.TabIs Tryd.prog w "internal/strconv.uint64pow10" .u64 Lib.pow10Tab
theorem Tab.ext {w w' : World} (h : Tab w) (he : Ext w w') : Tab w' := Lib.tabBelow_of_tabIs h w' he

theorem itoa_any (n : Nat) (hn : n ≤ 1048576) (w : World) (hT : Tab w) : Calls Tryd.prog 40 #[.int .i64 n] w fun e w' => e = .returned (.string (bstr (Lib.decDigits n))) ∧ Ext w w' := by
  refine (Tryd.strconv_Itoa n (by omega) (by omega) w hT).mono ?_
  rintro e w' ⟨rfl, k, os, rfl⟩
  refine ⟨?_, Lib.below_grow _ _ (Nat.le_refl _) k os⟩
  have : Lib.itoa (n : Int) = Lib.decDigits n := by
    unfold Lib.itoa
    rw [if_neg (by omega), Int.toNat_natCast]
  rw [this]
  rfl
theorem repeat0_any (c : Nat) (hc : c ≤ 100) (w : World) : Calls Tryd.prog 41 #[.string ⟨#[48]⟩, .int .i64 c] w fun e w' => e = .returned (.string (bstr (List.replicate c 48))) ∧ Ext w w' := by
  refine (Tryd.strings_Repeat ⟨#[48]⟩ c w (by omega) (by change 1 * c ≤ _; omega)).mono ?_
  rintro e w' ⟨rfl, h⟩
  refine ⟨?_, h⟩
  have : Lib.repeatL [48] c = List.replicate c 48 := by
    have := Lib.repeatL_replicate (48 : UInt8) 1 c
    simpa using this
  rw [← this]
  rfl

set_option maxHeartbeats 400000 in
theorem digits_any (n size : Nat) (hn : n < 10 ^ size) (h1 : 1 ≤ size) (h4 : size ≤ 4) (w : World) (hT : Tab w) :
    Calls Tryd.prog 35 #[.int .i64 n, .int .i64 size] w fun e w' => e = .returned (.string (bstr (digs size n))) ∧ Ext w w' := by
  obtain ⟨p1, p2⟩ := decDigits_pad size n hn h1
  have hn' : n ≤ 1048576 := by
    have := Nat.pow_le_pow_right (n := 10) (by omega) h4
    omega
  obtain ⟨L, hL⟩ : ∃ L, (Lib.decDigits n).length = L := ⟨_, rfl⟩
  have hz : (bstr (Lib.decDigits n)).size = L := by rw [bstr_size, hL]
  have hcat : bstr (List.replicate (size - L) 48) ++ bstr (Lib.decDigits n) = bstr (digs size n) := by rw [bstr_append, ← hL, p2]
  rw [← hcat]
  rw [hL] at p1
  obtain ⟨s, hs⟩ : ∃ s, bstr (Lib.decDigits n) = s := ⟨_, rfl⟩
  have hi := itoa_any n hn' w hT
  rw [hs] at hz hi ⊢
  have Hi := Lib.hid hi
  clear hL hcat hs hi p2 hn
  have hr := repeat0_any (size - L) (by omega)
  obtain ⟨z, hz0⟩ : ∃ z, bstr (List.replicate (size - L) 48) = z := ⟨_, rfl⟩
  have hz1 : z.size ≤ 4 := by rw [← hz0, bstr_size, List.length_replicate]; omega
  rw [hz0] at hr ⊢
  have Hr := Lib.hid hr
  clear hr hz0
  have hm : max ((size : Int) - (L : Int)) 0 = ((size - L : Nat) : Int) := by omega
  go_enter Tryd.func35, Tryd.ntmps35
  go_wp2_with fail
  refine (Hi.out).mono ?_
  rintro e w1 ⟨rfl, hx1⟩
  go_wp2_with fail
  refine (Hr.out _).mono ?_
  rintro e w2 ⟨rfl, hx2⟩
  go_wp2
  go_ret
  exact ⟨rfl, hx1.trans hx2⟩

/-- a slice of one new byte as a string -/
theorem run_byteStr (w : World) (x : Nat) (hx : x < 256) : (convert 44 9 (.slice (some ⟨w.heap.size, 0, none⟩) 1 1)).run Tryd.prog (w.alloc (.cells #[.int .u8 (x : Int)] 5)) = .ok (.string (bstr [UInt8.ofNat x])) (w.alloc (.cells #[.int .u8 (x : Int)] 5)) := by
  refine run_convert_bytes_back _ _ _ _ _ 1 [UInt8.ofNat x] Tryd.underlying44 Tryd.underlying5 Tryd.underlying9 fun j hj => ?_
  have hj0 : j = 0 := by simpa using hj
  subst hj0
  have h8 : (UInt8.ofNat x).toNat = x := by
    rw [UInt8.toNat_ofNat']
    omega
  simp only [List.getElem_cons_zero, h8]
  have hn := heap_alloc_new w (.cells #[.int .u8 (x : Int)] 5)
  rw [show (⟨w.heap.size, 0, none⟩ : Addr).add 0 = ⟨w.heap.size, 0, none⟩ from rfl]
  simp only [World.cell?, hn]
  rfl

set_option maxHeartbeats 800000 in
theorem refDigits_any (n size : Nat) (hn : n ≤ 1048576) (h4 : size ≤ 4) (w : World) :
    Calls Tryd.prog 37 #[.int .i64 n, .int .i64 size] w fun e w' => e = .returned (.string (bstr (digs size n))) ∧ Ext w w' := by
  go_enter Tryd.func37, Tryd.ntmps37
  go_wp2
  go_loopw [0, 5, 6] (fun m s i wr => ∃ k : Nat, k ≤ size ∧ m = .int .i64 ((n / 10 ^ k : Nat) : Int) ∧ s = .string (bstr (digs k n)) ∧ i = .int .i64 k ∧ Ext w wr) (fun _ _ i _ => size - (intOf i).toNat)
  case atStart => exact ⟨0, by omega, by simp, rfl, rfl, Ext.refl _⟩
  case round =>
    obtain ⟨k, hk, rfl, rfl, rfl, hx⟩ := hrel
    obtain ⟨m, hm⟩ : ∃ m, n / 10 ^ k = m := ⟨_, rfl⟩
    have hmb : m ≤ 1048576 := by
      have := Nat.div_le_self n (10 ^ k)
      omega
    rw [hm]
    have Hm := Lib.hid hm
    clear hm
    by_cases hlt : k < size
    · have hb : m % 10 < 10 := Nat.mod_lt _ (by omega)
      have hcv := fun w => run_byteStr w (48 + m % 10) (by omega)
      rw [show (((48 + m % 10 : Nat)) : Int) = 48 + (m : Int) % 10 from by omega] at hcv
      have hnext : bstr [UInt8.ofNat (48 + m % 10)] ++ bstr (digs k n) = bstr (digs (k + 1) n) := by rw [bstr_append, digs_front, Hm.out]; rfl
      have hdiv : n / 10 ^ (k + 1) = m / 10 := by rw [Nat.pow_succ, ← Nat.div_div_eq_div_mul, Hm.out]
      obtain ⟨z, hz⟩ : ∃ z, bstr [UInt8.ofNat (48 + m % 10)] = z := ⟨_, rfl⟩
      obtain ⟨s, hs⟩ : ∃ s, bstr (digs k n) = s := ⟨_, rfl⟩
      have hz1 : z.size ≤ 1 := by rw [← hz, bstr_size]; simp
      have hs1 : s.size ≤ 4 := by rw [← hs, bstr_size, digs_length]; omega
      rw [hz] at hcv hnext
      rw [hs] at hnext ⊢
      have Hnext := Lib.hid hnext
      have Hdiv := Lib.hid hdiv
      clear hz hs hnext hdiv
      go_wp2
      go_roundw
      case rel => exact ⟨k + 1, by omega, by rw [Hdiv.out]; rfl, by rw [Hnext.out], by go_num, hx.alloc _⟩
      case measure => simp [intOf]; omega
    · obtain rfl : k = size := by omega
      go_wp2
      go_ret
      exact ⟨rfl, hx⟩

end Go.Proofs.YtnpbhpaffdjjoaaDoor
