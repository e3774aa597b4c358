/- Brief, Short, few: whether lists are short and of short words. -/
import Derived.Test.YtkbmocgjbhmioaaSame
namespace Go.Proofs.Ytkbmocgjbhmioaa
open Go.RowKit

def briefB (l : List ByteArray) : Bool := (l.all fun s => decide (s.size ≤ 100)) && decide (l.length ≤ 300)
def shortB (l : List GWord) : Bool := (l.all fun x => decide (x.t.size ≤ 100)) && decide (l.length ≤ 300)
theorem briefB_len {l : List ByteArray} (h : briefB l = true) : l.length ≤ 300 := by
  simp only [briefB, Bool.and_eq_true, decide_eq_true_eq] at h
  exact h.2
theorem shortB_len {l : List GWord} (h : shortB l = true) : l.length ≤ 300 := by
  simp only [shortB, Bool.and_eq_true, decide_eq_true_eq] at h
  exact h.2
set_option maxRecDepth 100000 in
set_option maxHeartbeats 400000 in
theorem brief_any (A : Option Addr) (c : Nat) (l : List ByteArray) (w : World) (hs : Sl strEl w A l) (hn : l.length ≤ 9223372036854775807) :
    Calls Try.prog 34 #[.slice A l.length c] w fun e w' => e = .returned (.bool (briefB l)) ∧ w = w' := by
  go_enter Try.func34, Try.ntmps34
  go_wp2
  go_loop [3] (fun i => ∃ k : Nat, k ≤ l.length ∧ i = .int .i64 k ∧ Hid ((l.take k).all (fun s => decide (s.size ≤ 100)) = true)) (fun i => l.length - (intOf i).toNat)
  case atStart => exact ⟨0, Nat.zero_le _, rfl, rfl⟩
  case round =>
    obtain ⟨k, hk, rfl, Hall⟩ := hrel
    by_cases hlt : k < l.length
    · obtain ⟨b, off, rfl, hb, hc⟩ := strAt hs hlt
      obtain ⟨s, hsk⟩ : ∃ s, l[k] = s := ⟨_, rfl⟩
      rw [hsk] at hc
      have Hs := Lib.hid hsk
      clear hsk
      by_cases h1 : s.size ≤ 100
      · go_wp2
        go_round
        case rel => exact ⟨k + 1, by omega, by go_num, by unfold Hid; rw [all_take_succ _ _ _ hlt, Hall.out, Hs.out]; simpa using h1⟩
        case measure => simp [intOf]; omega
      · go_wp2
        go_ret
        refine ⟨ret_bool ?_, rfl⟩
        unfold briefB
        rw [all_false_of hlt (by rw [Hs.out]; simp; omega)]
        rfl
    · have hkl : k = l.length := by omega
      have ha := Hall.out
      rw [hkl, List.take_length] at ha
      have Ha := Lib.hid ha
      clear hkl ha
      go_wp2
      go_ret
      refine ⟨ret_bool ?_, rfl⟩
      unfold briefB
      rw [Ha.out, Bool.true_and]
      simp
      omega

set_option maxRecDepth 100000 in
set_option maxHeartbeats 400000 in
theorem short_any (A : Option Addr) (c : Nat) (l : List GWord) (w : World) (hs : Sl wordEl w A l) (hn : l.length ≤ 9223372036854775807) :
    Calls Try.prog 35 #[.slice A l.length c] w fun e w' => e = .returned (.bool (shortB l)) ∧ w = w' := by
  go_enter Try.func35, Try.ntmps35
  go_wp2
  go_loop [3] (fun i => ∃ k : Nat, k ≤ l.length ∧ i = .int .i64 k ∧ Hid ((l.take k).all (fun s => decide (s.t.size ≤ 100)) = true)) (fun i => l.length - (intOf i).toNat)
  case atStart => exact ⟨0, Nat.zero_le _, rfl, rfl⟩
  case round =>
    obtain ⟨k, hk, rfl, Hall⟩ := hrel
    by_cases hlt : k < l.length
    · obtain ⟨b, off, rfl, hb, hc, _, _, _⟩ := wordAt hs hlt
      obtain ⟨s, hsk⟩ : ∃ s, l[k].t = s := ⟨_, rfl⟩
      rw [hsk] at hc
      have Hs := Lib.hid hsk
      clear hsk
      by_cases h1 : s.size ≤ 100
      · go_wp2
        go_round
        case rel => exact ⟨k + 1, by omega, by go_num, by unfold Hid; rw [all_take_succ _ _ _ hlt, Hall.out, Hs.out]; simpa using h1⟩
        case measure => simp [intOf]; omega
      · go_wp2
        go_ret
        refine ⟨ret_bool ?_, rfl⟩
        unfold shortB
        rw [all_false_of hlt (by rw [Hs.out]; simp; omega)]
        rfl
    · have hkl : k = l.length := by omega
      have ha := Hall.out
      rw [hkl, List.take_length] at ha
      have Ha := Lib.hid ha
      clear hkl ha
      go_wp2
      go_ret
      refine ⟨ret_bool ?_, rfl⟩
      unfold shortB
      rw [Ha.out, Bool.true_and]
      simp
      omega

/-- lists of strings as elements of a list: each by its address and its capacity -/
def slsEl : El Try.prog (Option Addr × Nat × List ByteArray) := { t := 60, e := 23, m := 1, bytes := 24, z := .slice none 0 0, E := fun x => [.slice x.1 x.2.2.length x.2.1], hE := fun _ => rfl, h1 := by simp [Value.oneCell'], ht := by kernel_rfl, hi := by kernel_rfl, hz := rfl, hm := by decide, hb := by decide, agg := false, hagg := Try.isAgg23 }
theorem slsAt {w : World} {A : Option Addr} {xs : List (Option Addr × Nat × List ByteArray)} (h : Sl slsEl w A xs) {k : Nat} (hk : k < xs.length) : ∃ b off, A = some ⟨b, off, none⟩ ∧ b < w.heap.size ∧ w.cell? ⟨b, off + k, none⟩ = some (.slice xs[k].1 xs[k].2.2.length xs[k].2.1) := by
  obtain ⟨b, off, hA, hb, hc⟩ := h.at_ hk
  refine ⟨b, off, hA, hb, ?_⟩
  have := hc 0 _ rfl
  simpa [slsEl] using this
def fewB (w : List GWord) (L : List (List ByteArray)) : Bool := L.all briefB && shortB w

set_option maxRecDepth 100000 in
set_option maxHeartbeats 800000 in
theorem few_any (A B : Option Addr) (c d : Nat) (l : List GWord) (xs : List (Option Addr × Nat × List ByteArray)) (w : World) (hs : Sl wordEl w A l) (hx : Sl slsEl w B xs) (hxs : ∀ x ∈ xs, Sl strEl w x.1 x.2.2 ∧ x.2.2.length ≤ 9223372036854775807)
    (hn : l.length ≤ 9223372036854775807) (hm : xs.length ≤ 65536) :
    Calls Try.prog 11 #[.slice A l.length c, .slice B xs.length d] w fun e w' => e = .returned (.bool (fewB l (xs.map (·.2.2)))) ∧ w = w' := by
  have Hxs := Lib.hid hxs
  clear hxs
  go_enter Try.func11, Try.ntmps11
  go_wp2
  go_loopw [5] (fun i wr => ∃ k : Nat, k ≤ xs.length ∧ i = .int .i64 k ∧ Hid (((xs.map (·.2.2)).take k).all briefB = true) ∧ w = wr) (fun i _ => xs.length - (intOf i).toNat)
  case atStart => exact ⟨0, Nat.zero_le _, rfl, rfl, rfl⟩
  case round =>
    obtain ⟨k, hk, rfl, Hall, rfl⟩ := hrel
    by_cases hlt : k < xs.length
    · obtain ⟨b, off, rfl, hb, hc⟩ := slsAt hx hlt
      obtain ⟨hy1, hy2⟩ := Hxs.out xs[k] (List.getElem_mem hlt)
      have hml : k < (xs.map (·.2.2)).length := by rw [List.length_map]; exact hlt
      have hmk : (xs.map (·.2.2))[k] = xs[k].2.2 := by simp
      obtain ⟨Ak, hAk⟩ : ∃ s, xs[k].1 = s := ⟨_, rfl⟩
      obtain ⟨ck, hck⟩ : ∃ s, xs[k].2.1 = s := ⟨_, rfl⟩
      obtain ⟨lk, hlk⟩ : ∃ s, xs[k].2.2 = s := ⟨_, rfl⟩
      rw [hAk, hck, hlk] at hc
      rw [hAk, hlk] at hy1
      rw [hlk] at hy2 hmk
      have Hmk := Lib.hid hmk
      clear hAk hck hlk hmk
      by_cases h1 : briefB lk = true
      · go_wp2_with (go_at_call 34; refine (brief_any _ _ _ _ hy1 hy2).mono ?_; rintro e w' ⟨rfl, rfl⟩)
        go_roundw
        case rel => exact ⟨k + 1, by omega, by go_num, by unfold Hid; rw [all_take_succ _ _ _ hml, Hall.out, Hmk.out, h1]; rfl, trivial⟩
        case measure => simp [intOf]; omega
      · have h1 : briefB lk = false := by simpa using h1
        go_wp2_with (go_at_call 34; refine (brief_any _ _ _ _ hy1 hy2).mono ?_; rintro e w' ⟨rfl, rfl⟩)
        go_ret
        refine ⟨ret_bool ?_, rfl⟩
        unfold fewB
        rw [all_false_of hml (by rw [Hmk.out]; exact h1)]
        rfl
    · have ha := Hall.out
      rw [List.take_of_length_le (by rw [List.length_map]; omega)] at ha
      have Ha := Lib.hid ha
      clear ha
      go_wp2_with (go_at_call 35; refine (short_any _ _ _ _ hs hn).mono ?_; rintro e w' ⟨rfl, rfl⟩)
      go_ret
      refine ⟨ret_bool ?_, rfl⟩
      unfold fewB
      rw [Ha.out, Bool.true_and]

end Go.Proofs.Ytkbmocgjbhmioaa
