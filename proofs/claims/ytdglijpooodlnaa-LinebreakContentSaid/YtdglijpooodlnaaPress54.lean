/- pressed, gap: the walks; what a justified line keeps. -/
import Derived.Test.YtdglijpooodlnaaFill54
namespace Go.Proofs.Ytdglijpooodlnaa
open Go.RowKit

def inkB (c : UInt8) : Bool := !(c == 32)
/-- a line without its spaces -/
def pressB (s : ByteArray) : ByteArray := bstrF (s.data.toList.filter inkB)
def gapB (s : ByteArray) : Bool := s.data.toList.any fun c => c == 32
theorem fillF_press (M G : Nat) : ∀ (l : List UInt8) (j : Nat), (fillF M G j l).filter inkB = l.filter inkB
  | [], _ => rfl
  | c :: r, j => by
    rw [fillF]
    split
    · rename_i h
      subst h
      have h32 : inkB 32 = false := rfl
      rw [List.filter_cons, List.filter_append, List.filter_replicate, h32, fillF_press M G r, List.filter_cons, h32]
      simp
    · rw [List.filter_cons, List.filter_cons, fillF_press M G r]
theorem justF_press (W : Int) (s : ByteArray) : pressB (justF W s) = pressB s := by
  unfold justF
  split
  · rfl
  · unfold pressB
    rw [show (⟨(fillF (W - s.size).toNat (s.data.toList.count 32) 0 s.data.toList).toArray⟩ : ByteArray).data.toList = fillF (W - s.size).toNat (s.data.toList.count 32) 0 s.data.toList by simp, fillF_press]
theorem fillF_length {M G : Nat} (hG : 0 < G) : ∀ (l : List UInt8) (j g : Nat), l.count 32 = g → j + g = G → (fillF M G j l).length = l.length + (g * (M / G) + (M % G - j))
  | [], j, g, h, hj => by
    have h0 : g = 0 := by rw [← h]; rfl
    have := Nat.mod_lt M hG
    subst h0
    rw [fillF, Nat.zero_mul]
    simp
    omega
  | c :: r, j, g, h, hj => by
    rw [List.count_cons] at h
    rw [fillF]
    split
    · rename_i hc
      subst hc
      rw [if_pos (by decide)] at h
      obtain ⟨g', rfl⟩ : ∃ g', g = g' + 1 := ⟨g - 1, by omega⟩
      obtain ⟨-, p2, p3⟩ := ceil_step (M := M) (by omega) hj (rfl : (g' + 1) * (M / G) + (M % G - j) = (g' + 1) * (M / G) + (M % G - j))
      have := fillF_length (M := M) hG r (j + 1) g' (by omega) (by omega)
      rw [List.length_cons, List.length_append, List.length_replicate, this, List.length_cons]
      have e1 : g' + 1 - 1 = g' := rfl
      rw [e1] at p2
      omega
    · rename_i hc
      rw [if_neg (by simpa using hc)] at h
      have := fillF_length (M := M) hG r j g (by omega) hj
      rw [List.length_cons, List.length_cons, this]
      omega
theorem gapB_count {s : ByteArray} : gapB s = true ↔ s.data.toList.count 32 ≠ 0 := by
  unfold gapB
  rw [List.any_eq_true]
  constructor
  · rintro ⟨x, h1, h2⟩ h3
    rw [List.count_eq_zero] at h3
    simp only [beq_iff_eq] at h2
    exact h3 (h2 ▸ h1)
  · intro h
    have := List.count_pos_iff.1 (Nat.pos_of_ne_zero h)
    exact ⟨32, this, rfl⟩
theorem justF_gap {W : Int} {s : ByteArray} (h1 : 1 ≤ W) (h2 : W ≤ 200) (h3 : (s.size : Int) ≤ W) (h : gapB s = true) : ((justF W s).size : Int) = W := by
  have hc := gapB_count.1 h
  obtain ⟨M, hM⟩ : ∃ M : Nat, (M : Int) = W - s.size := ⟨(W - s.size).toNat, by omega⟩
  rw [justF_fill (by omega) hM]
  have e : (⟨(fillF M (s.data.toList.count 32) 0 s.data.toList).toArray⟩ : ByteArray).size = (fillF M (s.data.toList.count 32) 0 s.data.toList).length := by
    show (fillF M (s.data.toList.count 32) 0 s.data.toList).toArray.size = _
    simp
  rw [e, fillF_length (Nat.pos_of_ne_zero hc) _ 0 _ rfl (by omega), Nat.sub_zero, Nat.div_add_mod]
  have : s.data.toList.length = s.size := Array.length_toList
  omega
theorem justF_nogap {W : Int} {s : ByteArray} (h : gapB s = false) : justF W s = s := by
  refine justF_same (.inl ?_)
  rcases Nat.eq_zero_or_pos (s.data.toList.count 32) with h1 | h1
  · exact h1
  · have := gapB_count.2 (by omega : s.data.toList.count 32 ≠ 0)
    rw [h] at this
    cases this

set_option maxRecDepth 100000 in
set_option maxHeartbeats 1600000 in
theorem pressed_any (s : ByteArray) (w : World) (hs : s.size ≤ 1048576) : Calls Try.prog 24 #[.string s] w fun e w' => e = .returned (.string (pressB s)) ∧ w' = w := by
  obtain ⟨bs, hbs⟩ : ∃ bs, s.data.toList = bs := ⟨_, rfl⟩
  have hbl : bs.length = s.size := by rw [← hbs]; exact Array.length_toList
  have HR := Lib.hid (show pressB s = bstrF (bs.filter inkB) by unfold pressB; rw [hbs])
  have Hbs := Lib.hid hbs
  clear hbs
  go_enter Try.func24, Try.ntmps24
  go_wp2
  go_loopw [3, 4] (fun vs vk wr => ∃ (k : Nat) (z : ByteArray), k ≤ bs.length ∧ vk = .int .i64 (k : Nat) ∧ vs = .string z ∧ z.size ≤ k ∧ Hid (z = bstrF ((bs.take k).filter inkB)) ∧ wr = w) (fun _ vk _ => bs.length - (intOf vk).toNat)
  case atStart => exact ⟨0, ⟨#[]⟩, Nat.zero_le _, rfl, rfl, Nat.le_refl _, Lib.hid rfl, rfl⟩
  case round =>
    obtain ⟨k, z, hk, rfl, rfl, hz, Hz, rfl⟩ := hrel
    by_cases hlt : k < bs.length
    · have hks : k < s.size := by omega
      have htk : (bs.take (k + 1)).filter inkB = (bs.take k).filter inkB ++ if inkB bs[k] = true then [bs[k]] else [] := by
        rw [List.take_succ_eq_append_getElem hlt, List.filter_append, List.filter_cons, List.filter_nil]
      obtain ⟨x, hbx⟩ : ∃ x, bs[k] = x := ⟨_, rfl⟩
      have hsx : s[k] = x := by rw [← hbx]; exact byte_at Hbs.out hks hlt
      have hex : s.extract k (k + 1) = ⟨#[x]⟩ := by rw [← hbx]; exact byte_cut Hbs.out hlt
      rw [hbx] at htk
      have e1 : decide ((k : Int) < (s.size : Int)) = true := decide_eq_true (by omega)
      have hzx : (z ++ (⟨#[x]⟩ : ByteArray)).size = z.size + 1 := by rw [ByteArray.size_append]; rfl
      have hxs : (⟨#[x]⟩ : ByteArray).size = 1 := rfl
      clear hbx
      by_cases hsp : x = 32
      · subst hsp
        have e2 : ((UInt8.toNat 32 : Int) != 32) = false := rfl
        have Hz2 := Lib.hid (show z = bstrF ((bs.take (k + 1)).filter inkB) by rw [htk, if_neg (by decide), List.append_nil]; exact Hz.out)
        clear htk
        go_wp2
        go_roundw
        case rel => exact ⟨k + 1, z, by omega, by go_num, rfl, by omega, Hz2, trivial⟩
        case measure => simp [intOf] <;> omega
      · have e2 : ((x.toNat : Int) != 32) = true := by simp only [bne, byte_ne hsp]; rfl
        have hink : inkB x = true := by simp [inkB, hsp]
        have Hz2 := Lib.hid (show z ++ ⟨#[x]⟩ = bstrF ((bs.take (k + 1)).filter inkB) by rw [htk, if_pos hink, Hz.out]; exact bytesList_inj (by simp [bstrF, ByteArray.data_append]))
        clear htk hsp hink
        go_wp2
        go_roundw
        case rel => exact ⟨k + 1, _, by omega, by go_num, rfl, by rw [hzx]; omega, Hz2, trivial⟩
        case measure => simp [intOf] <;> omega
    · obtain rfl : k = bs.length := by omega
      have e1 : decide ((bs.length : Int) < (s.size : Int)) = false := decide_eq_false (by omega)
      have hz2 := Hz.out
      rw [List.take_length] at hz2
      have Hz2 := Lib.hid hz2
      clear hz2
      go_wp2
      go_ret
      exact ⟨by rw [HR.out, Hz2.out]; rfl, rfl⟩
set_option maxRecDepth 100000 in
set_option maxHeartbeats 1600000 in
theorem gap_any (s : ByteArray) (w : World) (hs : s.size ≤ 1048576) : Calls Try.prog 25 #[.string s] w fun e w' => e = .returned (.bool (gapB s)) ∧ w' = w := by
  obtain ⟨bs, hbs⟩ : ∃ bs, s.data.toList = bs := ⟨_, rfl⟩
  have hbl : bs.length = s.size := by rw [← hbs]; exact Array.length_toList
  have HR := Lib.hid (show gapB s = bs.any fun c => c == 32 by unfold gapB; rw [hbs])
  have Hbs := Lib.hid hbs
  clear hbs
  go_enter Try.func25, Try.ntmps25
  go_wp2
  go_loopw [3] (fun vk wr => ∃ k : Nat, k ≤ bs.length ∧ vk = .int .i64 (k : Nat) ∧ Hid ((bs.any fun c => c == 32) = ((bs.drop k).any fun c => c == 32)) ∧ wr = w) (fun vk _ => bs.length - (intOf vk).toNat)
  case atStart => exact ⟨0, Nat.zero_le _, rfl, Lib.hid rfl, rfl⟩
  case round =>
    obtain ⟨k, hk, rfl, Hk, rfl⟩ := hrel
    by_cases hlt : k < bs.length
    · have hks : k < s.size := by omega
      have hk2 := Hk.out
      rw [List.drop_eq_getElem_cons hlt, List.any_cons] at hk2
      obtain ⟨x, hbx⟩ : ∃ x, bs[k] = x := ⟨_, rfl⟩
      have hsx : s[k] = x := by rw [← hbx]; exact byte_at Hbs.out hks hlt
      rw [hbx] at hk2
      have e1 : decide ((k : Int) < (s.size : Int)) = true := decide_eq_true (by omega)
      clear hbx
      by_cases hsp : x = 32
      · subst hsp
        have e2 : ((UInt8.toNat 32 : Int) == 32) = true := rfl
        have Hk2 := Lib.hid (show (bs.any fun c => c == 32) = true by rw [hk2]; rfl)
        clear hk2
        go_wp2
        go_ret
        exact ⟨ret_bool (by rw [HR.out, Hk2.out]), rfl⟩
      · have e2 : ((x.toNat : Int) == 32) = false := byte_ne hsp
        have Hk2 := Lib.hid (show (bs.any fun c => c == 32) = ((bs.drop (k + 1)).any fun c => c == 32) by rw [hk2]; simp [hsp])
        clear hk2 hsp
        go_wp2
        go_roundw
        case rel => exact ⟨k + 1, by omega, by go_num, Hk2, trivial⟩
        case measure => simp [intOf] <;> omega
    · obtain rfl : k = bs.length := by omega
      have e1 : decide ((bs.length : Int) < (s.size : Int)) = false := decide_eq_false (by omega)
      have hk2 := Hk.out
      rw [List.drop_of_length_le (Nat.le_refl _), List.any_nil] at hk2
      have Hk2 := Lib.hid hk2
      clear hk2
      go_wp2
      go_ret
      exact ⟨ret_bool (by rw [HR.out, Hk2.out]), rfl⟩

end Go.Proofs.Ytdglijpooodlnaa
