/- Decimal texts: strconv.Itoa, the reference's digits; Flaws: the walks. -/
import Derived.Test.YtiacmahfjcolaaaDoorNotesB10
import Derived.Test.YtiacmahfjcolaaaDoorDigs1
import Derived.Lib.AppendIntMem
import Derived.Laws.IdiomStrings
namespace Go.Proofs.YtiacmahfjcolaaaDoor
open Go.RowKit

/-- the table of powers, as the library reads it -/
def Tab (w : World) : Prop := Lib.TabIs Tryd.prog w "internal/strconv.uint64pow10" .u64 Lib.pow10Tab
theorem Tab.ext {w w' : World} (h : Tab w) (he : Ext w w') : Tab w' := Lib.tabBelow_of_tabIs h w' he
/-- the decimal text -/
def decB (n : Nat) : ByteArray := bstr (Lib.decDigits n)
theorem itoa_any (n : Nat) (hn : n ≤ 1048576) (w : World) (hT : Tab w) : Calls Tryd.prog 58 #[.int .i64 n] w fun e w' => e = .returned (.string (decB n)) ∧ Ext w w' := by
  refine (Tryd.strconv_Itoa n (by omega) (by omega) w hT).mono ?_
  rintro e w' ⟨rfl, k, os, rfl⟩
  refine ⟨?_, Lib.below_grow _ _ (Nat.le_refl _) k os⟩
  have : Lib.itoa (n : Int) = Lib.decDigits n := by
    unfold Lib.itoa
    rw [if_neg (by omega), Int.toNat_natCast]
  rw [this]
  rfl
/-- a slice of one new byte as a string -/
theorem run_byteStr (w : World) (x : Nat) (hx : x < 256) : (convert 79 9 (.slice (some ⟨w.heap.size, 0, none⟩) 1 1)).run Tryd.prog (w.alloc (.cells #[.int .u8 (x : Int)] 5)) = .ok (.string (bstr [UInt8.ofNat x])) (w.alloc (.cells #[.int .u8 (x : Int)] 5)) := by
  refine run_convert_bytes_back _ _ _ _ _ 1 [UInt8.ofNat x] Tryd.underlying79 Tryd.underlying5 Tryd.underlying9 fun j hj => ?_
  have hj0 : j = 0 := by simpa using hj
  subst hj0
  have h8 : (UInt8.ofNat x).toNat = x := by
    rw [UInt8.toNat_ofNat']
    omega
  simp only [List.getElem_cons_zero, h8]
  have hn := heap_alloc_new w (.cells #[.int .u8 (x : Int)] 5)
  rw [show (⟨w.heap.size, 0, none⟩ : Addr).add 0 = ⟨w.heap.size, 0, none⟩ from rfl]
  simp only [World.cell?, hn]
  rfl
theorem decB_small {n : Nat} (h : n < 10) : decB n = bstr [UInt8.ofNat (48 + n)] := by
  unfold decB
  rw [Lib.decDigits, dif_pos h]
theorem decB_big {n : Nat} (h : ¬ n < 10) : decB n = decB (n / 10) ++ decB (n % 10) := by
  rw [decB_small (Nat.mod_lt n (by omega) : n % 10 < 10)]
  unfold decB
  conv => lhs; rw [Lib.decDigits]
  rw [dif_neg h, bstr_append]
theorem decB_size : ∀ (k n : Nat), n < 10 ^ k → (decB n).size ≤ k + 1
  | 0, n, h => by
    have : n = 0 := by simp at h; exact h
    subst this
    rw [decB_small (by omega), bstr_size]; simp
  | k + 1, n, h => by
    by_cases h10 : n < 10
    · rw [decB_small h10, bstr_size]; simp
    · rw [decB_big h10, ByteArray.size_append, decB_small (Nat.mod_lt n (by omega) : n % 10 < 10), bstr_size]
      have := decB_size k (n / 10) (Nat.div_lt_of_lt_mul (by rw [Nat.mul_comm]; rwa [Nat.pow_succ] at h))
      simp
      omega
theorem decB_le {n : Nat} (h : n ≤ 1048576) : (decB n).size ≤ 8 := decB_size 7 n (by omega)

def DigAt (N : Nat) : Prop := ∀ (n : Nat) (w : World), n ≤ N → n ≤ 1048576 → Calls Tryd.prog 48 #[.int .i64 n] w fun e w' => e = .returned (.string (decB n)) ∧ Ext w w'
set_option maxRecDepth 100000 in
set_option maxHeartbeats 800000 in
theorem digits_small (n : Nat) (w : World) (h : n < 10) : Calls Tryd.prog 48 #[.int .i64 n] w fun e w' => e = .returned (.string (decB n)) ∧ Ext w w' := by
  rw [decB_small h]
  have hcv := fun w => run_byteStr w (48 + n) (by omega)
  rw [show (((48 + n : Nat)) : Int) = 48 + (n : Int) from by omega] at hcv
  obtain ⟨z, hz⟩ : ∃ z, bstr [UInt8.ofNat (48 + n)] = z := ⟨_, rfl⟩
  rw [hz] at hcv ⊢
  clear hz
  have d1 : decide ((n : Int) < 10) = true := decide_eq_true (by omega)
  go_enter Tryd.func48, Tryd.ntmps48
  go_wp2
  go_ret
  exact ⟨rfl, (Ext.refl _).alloc _⟩
set_option maxRecDepth 100000 in
set_option maxHeartbeats 800000 in
theorem dig_step (N : Nat) (ih : DigAt N) : DigAt (N + 1) := by
  intro n w hn hb
  by_cases h : n < 10
  · exact digits_small n w h
  · rw [decB_big h]
    have H1 := Lib.hid (fun w' => ih (n / 10) w' (by omega) (by omega))
    have H2 := Lib.hid (fun w' => digits_small (n % 10) w' (Nat.mod_lt n (by omega)))
    have e1 : ((n / 10 : Nat) : Int) = (n : Int) / 10 := by omega
    have e2 : ((n % 10 : Nat) : Int) = (n : Int) % 10 := by omega
    have hz1 := decB_le (n := n / 10) (by omega)
    have hz2 := decB_le (n := n % 10) (by omega)
    obtain ⟨a, ha⟩ : ∃ a, decB (n / 10) = a := ⟨_, rfl⟩
    obtain ⟨b, hb2⟩ : ∃ b, decB (n % 10) = b := ⟨_, rfl⟩
    rw [e1, ha] at H1
    rw [e2, hb2] at H2
    rw [ha] at hz1 ⊢
    rw [hb2] at hz2 ⊢
    have d1 : decide ((n : Int) < 10) = false := decide_eq_false (by omega)
    clear ha hb2 e1 e2 h
    go_enter Tryd.func48, Tryd.ntmps48
    go_wp2_with fail
    refine (H1.out _).mono ?_
    rintro e w1 ⟨rfl, hx1⟩
    go_wp2_with fail
    refine (H2.out _).mono ?_
    rintro e w2 ⟨rfl, hx2⟩
    go_wp2
    go_ret
    exact ⟨rfl, hx1.trans hx2⟩
theorem dig_all : ∀ N, DigAt N
  | 0 => fun n w h _ => digits_small n w (by omega)
  | N + 1 => dig_step N (dig_all N)
theorem digits_any (n : Nat) (w : World) (hn : n ≤ 1048576) : Calls Tryd.prog 48 #[.int .i64 n] w fun e w' => e = .returned (.string (decB n)) ∧ Ext w w' := dig_all n n w (Nat.le_refl _) hn

@[go_sem] theorem eqFind (t a i n y : Int) (s : ByteArray) (t' a' i' n' y' : Int) (s' : ByteArray) (w : World) : (Op.equalIn 10000 62 (.agg #[.int .i64 t, .int .i64 a, .int .i64 i, .int .i64 n, .int .i64 y, .string s]) (.agg #[.int .i64 t', .int .i64 a', .int .i64 i', .int .i64 n', .int .i64 y', .string s'])).run Tryd.prog w =
    .ok (decide (t = t' ∧ a = a' ∧ i = i' ∧ n = n' ∧ y = y' ∧ s = s')) w := by
  have u3 := Tryd.underlying9
  have u4 := Tryd.underlying3
  have u5 := Tryd.underlying48
  have hS : Tryd.prog.underlying 62 = some (.struct (Tryd.prog.fieldsOf 62)) := by kernel_rfl
  rw [show (10000 : Nat) = 9999 + 1 from rfl, run_equalIn_agg w 9999 62 _ _ hS (by kernel_rfl)]
  simp only [Program.fieldsOf, Tryd.underlying62]
  go_simp
  by_cases h1 : t = t' <;> by_cases h2 : a = a' <;> by_cases h3 : i = i' <;> by_cases h4 : n = n' <;> by_cases h5 : y = y' <;> simp [h1, h2, h3, h4, h5]
  by_cases h6 : s = s'
  · simp [h6]
  · have hn : ¬ s.toList = s'.toList := fun h => h6 (bytes_inj h)
    simp [h6, hn]
theorem findNeq (w : World) (x y : GFind) : (binOp .neq 62 (.agg #[.int .i64 x.at_, .int .i64 x.a, .int .i64 x.i, .int .i64 x.n, .int .i64 x.why, .string x.text]) (.agg #[.int .i64 y.at_, .int .i64 y.a, .int .i64 y.i, .int .i64 y.n, .int .i64 y.why, .string y.text])).run Tryd.prog w = .ok (.bool (!decide (x = y))) w := by
  rw [run_neq_struct, eqFind]
  simp only [Result.andThen_ok]
  congr 3
  cases x; cases y
  simp
theorem findAt {w : World} {A : Option Addr} {xs : List GFind} (h : Sl findEl w A xs) {k : Nat} (hk : k < xs.length) : ∃ b off, A = some ⟨b, off, none⟩ ∧ b < w.heap.size ∧ w.cell? ⟨b, off + k * 6, none⟩ = some (.int .i64 xs[k].at_) ∧ w.cell? ⟨b, off + k * 6 + 1, none⟩ = some (.int .i64 xs[k].a) ∧ w.cell? ⟨b, off + k * 6 + 2, none⟩ = some (.int .i64 xs[k].i) ∧
    w.cell? ⟨b, off + k * 6 + 3, none⟩ = some (.int .i64 xs[k].n) ∧ w.cell? ⟨b, off + k * 6 + 4, none⟩ = some (.int .i64 xs[k].why) ∧ w.cell? ⟨b, off + k * 6 + 5, none⟩ = some (.string xs[k].text) := by
  obtain ⟨b, off, hA, hb, hc⟩ := h.at_ hk
  exact ⟨b, off, hA, hb, by simpa [findEl] using hc 0 _ rfl, hc 1 _ rfl, hc 2 _ rfl, hc 3 _ rfl, hc 4 _ rfl, hc 5 _ rfl⟩
set_option maxRecDepth 100000 in
set_option maxHeartbeats 400000 in
theorem flaws_any (A B : Option Addr) (c d : Nat) (xs ys : List GFind) (w : World) (hx : Sl findEl w A xs) (hy : Sl findEl w B ys) (hn : xs.length ≤ 9223372036854775807) :
    Calls Tryd.prog 18 #[.slice A xs.length c, .slice B ys.length d] w fun e w' => e = .returned (.bool (decide (xs = ys))) ∧ ∃ m, w' = w.drewN m := by
  by_cases hl : xs.length = ys.length
  · have hle : ((xs.length : Int) != (ys.length : Int)) = false := by simp [hl]
    have Hl := Lib.hid hl
    clear hl
    go_enter Tryd.func18, Tryd.ntmps18
    go_wp2
    go_loopw [5] (fun i wr => ∃ k : Nat, k ≤ xs.length ∧ i = .int .i64 k ∧ xs.take k = ys.take k ∧ ∃ m, wr = w.drewN m) (fun i _ => xs.length - (intOf i).toNat)
    case atStart => exact ⟨0, Nat.zero_le _, rfl, rfl, 0, rfl⟩
    case round =>
      obtain ⟨k, hk, rfl, heq, m, rfl⟩ := hrel
      have Heq := Lib.hid heq
      clear heq
      by_cases hlt : k < xs.length
      · have hlt' : k < ys.length := by rw [← Hl.out]; exact hlt
        obtain ⟨b, off, rfl, hb, hc0, hc1, hc2, hc3, hc4, hc5⟩ := findAt hx hlt
        obtain ⟨b', off', rfl, hb', hd0, hd1, hd2, hd3, hd4, hd5⟩ := findAt hy hlt'
        obtain ⟨s, hs⟩ : ∃ s, xs[k] = s := ⟨_, rfl⟩
        obtain ⟨s', hs'⟩ : ∃ s, ys[k] = s := ⟨_, rfl⟩
        rw [hs] at hc0 hc1 hc2 hc3 hc4 hc5
        rw [hs'] at hd0 hd1 hd2 hd3 hd4 hd5
        have Hs := Lib.hid hs
        have Hs' := Lib.hid hs'
        clear hs hs'
        by_cases he : s = s'
        · have hq := fun W => (findNeq W s s').trans (by rw [decide_eq_true he])
          have He := Lib.hid he
          clear he
          go_wp2
          go_quiet (fail)
          go_wp2
          go_roundw
          case rel => exact ⟨k + 1, by omega, by go_num, (take_succ_eq_iff hlt hlt').2 ⟨Heq.out, by rw [Hs.out, Hs'.out, He.out]⟩, _, rfl⟩
          case measure => simp [intOf]; omega
        · have hq := fun W => (findNeq W s s').trans (by rw [decide_eq_false he])
          go_wp2
          go_quiet (fail)
          go_wp2
          go_ret
          refine ⟨ret_bool (decide_eq_false ?_).symm, _, World.drewN_drewN _ _ _⟩
          rintro rfl
          exact he (Hs.out.symm.trans Hs'.out)
      · obtain rfl : k = xs.length := by omega
        go_wp2
        go_ret
        refine ⟨ret_bool (decide_eq_true ?_).symm, _, rfl⟩
        have := Heq.out
        rwa [List.take_length, Hl.out, List.take_length] at this
  · have hle : ((xs.length : Int) != (ys.length : Int)) = true := by simp; omega
    go_enter Tryd.func18, Tryd.ntmps18
    go_wp2
    go_ret
    refine ⟨ret_bool (decide_eq_false ?_).symm, 0, rfl⟩
    rintro rfl
    exact hl rfl


end Go.Proofs.YtiacmahfjcolaaaDoor
