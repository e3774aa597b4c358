/- Small walks of chapter 54: comparisons, Brief, wrong, lengths, valid ends. -/
import Derived.Test.YtdglijpooodlnaaCmpB
namespace Go.Proofs.Ytdglijpooodlnaa
open Go.RowKit

set_option maxRecDepth 100000 in
set_option maxHeartbeats 400000 in
theorem ints_any (A B : Option Addr) (c d : Nat) (xs ys : List Int) (w : World) (hx : Sl intEl w A xs) (hy : Sl intEl w B ys) (hn : xs.length ≤ 9223372036854775807) :
    Calls Try.prog 16 #[.slice A xs.length c, .slice B ys.length d] w fun e w' => e = .returned (.bool (decide (xs = ys))) ∧ ∃ m, w' = w.drewN m := by
  by_cases hl : xs.length = ys.length
  · have hle : ((xs.length : Int) != (ys.length : Int)) = false := by simp [hl]
    have Hl := Lib.hid hl
    clear hl
    go_enter Try.func16, Try.ntmps16
    go_wp2
    go_loopw [5] (fun i wr => ∃ k : Nat, k ≤ xs.length ∧ i = .int .i64 k ∧ xs.take k = ys.take k ∧ ∃ m, wr = w.drewN m) (fun i _ => xs.length - (intOf i).toNat)
    case atStart => exact ⟨0, Nat.zero_le _, rfl, rfl, 0, rfl⟩
    case round =>
      obtain ⟨k, hk, rfl, heq, m, rfl⟩ := hrel
      have Heq := Lib.hid heq
      clear heq
      by_cases hlt : k < xs.length
      · have hlt' : k < ys.length := by rw [← Hl.out]; exact hlt
        obtain ⟨b, off, rfl, hb, hc0⟩ := intAt hx hlt
        obtain ⟨b', off', rfl, hb', hd0⟩ := intAt hy hlt'
        obtain ⟨s, hs⟩ : ∃ s, xs[k] = s := ⟨_, rfl⟩
        obtain ⟨s', hs'⟩ : ∃ s, ys[k] = s := ⟨_, rfl⟩
        rw [hs] at hc0
        rw [hs'] at hd0
        have Hs := Lib.hid hs
        have Hs' := Lib.hid hs'
        clear hs hs'
        by_cases he : s = s'
        · have hbq : (s != s') = false := by simp [he]
          have hbq' : (s == s') = true := by simp [he]
          have He := Lib.hid he
          clear he
          go_wp2
          go_quiet (fail)
          go_wp2
          go_roundw
          case rel => exact ⟨k + 1, by omega, by go_num, (take_succ_eq_iff hlt hlt').2 ⟨Heq.out, by rw [Hs.out, Hs'.out, He.out]⟩, _, rfl⟩
          case measure => simp [intOf]; omega
        · have hbq : (s != s') = true := by simp [he]
          have hbq' : (s == s') = false := by simp [he]
          go_wp2
          go_quiet (fail)
          go_wp2
          go_ret
          refine ⟨ret_bool (decide_eq_false ?_).symm, _, World.drewN_drewN _ _ _⟩
          rintro rfl
          exact he (Hs.out.symm.trans Hs'.out)
      · obtain rfl : k = xs.length := by omega
        go_wp2
        go_ret
        refine ⟨ret_bool (decide_eq_true ?_).symm, _, rfl⟩
        have := Heq.out
        rwa [List.take_length, Hl.out, List.take_length] at this
  · have hle : ((xs.length : Int) != (ys.length : Int)) = true := by simp; omega
    go_enter Try.func16, Try.ntmps16
    go_wp2
    go_ret
    refine ⟨ret_bool (decide_eq_false ?_).symm, 0, rfl⟩
    rintro rfl
    exact hl rfl

set_option maxRecDepth 100000 in
set_option maxHeartbeats 400000 in
theorem texts_any (A B : Option Addr) (c d : Nat) (xs ys : List ByteArray) (w : World) (hx : Sl strEl w A xs) (hy : Sl strEl w B ys) (hn : xs.length ≤ 9223372036854775807) :
    Calls Try.prog 19 #[.slice A xs.length c, .slice B ys.length d] w fun e w' => e = .returned (.bool (decide (xs = ys))) ∧ ∃ m, w' = w.drewN m := by
  by_cases hl : xs.length = ys.length
  · have hle : ((xs.length : Int) != (ys.length : Int)) = false := by simp [hl]
    have Hl := Lib.hid hl
    clear hl
    go_enter Try.func19, Try.ntmps19
    go_wp2
    go_loopw [5] (fun i wr => ∃ k : Nat, k ≤ xs.length ∧ i = .int .i64 k ∧ xs.take k = ys.take k ∧ ∃ m, wr = w.drewN m) (fun i _ => xs.length - (intOf i).toNat)
    case atStart => exact ⟨0, Nat.zero_le _, rfl, rfl, 0, rfl⟩
    case round =>
      obtain ⟨k, hk, rfl, heq, m, rfl⟩ := hrel
      have Heq := Lib.hid heq
      clear heq
      by_cases hlt : k < xs.length
      · have hlt' : k < ys.length := by rw [← Hl.out]; exact hlt
        obtain ⟨b, off, rfl, hb, hc0⟩ := strAt hx hlt
        obtain ⟨b', off', rfl, hb', hd0⟩ := strAt hy hlt'
        obtain ⟨s, hs⟩ : ∃ s, xs[k] = s := ⟨_, rfl⟩
        obtain ⟨s', hs'⟩ : ∃ s, ys[k] = s := ⟨_, rfl⟩
        rw [hs] at hc0
        rw [hs'] at hd0
        have Hs := Lib.hid hs
        have Hs' := Lib.hid hs'
        clear hs hs'
        by_cases he : s = s'
        · have hbq : (s.toList == s'.toList) = true := by rw [beq_bytes]; simp [he]
          have He := Lib.hid he
          clear he
          go_wp2
          go_quiet (fail)
          go_wp2
          go_roundw
          case rel => exact ⟨k + 1, by omega, by go_num, (take_succ_eq_iff hlt hlt').2 ⟨Heq.out, by rw [Hs.out, Hs'.out, He.out]⟩, _, rfl⟩
          case measure => simp [intOf]; omega
        · have hbq : (s.toList == s'.toList) = false := by rw [beq_bytes]; simp [he]
          go_wp2
          go_quiet (fail)
          go_wp2
          go_ret
          refine ⟨ret_bool (decide_eq_false ?_).symm, _, World.drewN_drewN _ _ _⟩
          rintro rfl
          exact he (Hs.out.symm.trans Hs'.out)
      · obtain rfl : k = xs.length := by omega
        go_wp2
        go_ret
        refine ⟨ret_bool (decide_eq_true ?_).symm, _, rfl⟩
        have := Heq.out
        rwa [List.take_length, Hl.out, List.take_length] at this
  · have hle : ((xs.length : Int) != (ys.length : Int)) = true := by simp; omega
    go_enter Try.func19, Try.ntmps19
    go_wp2
    go_ret
    refine ⟨ret_bool (decide_eq_false ?_).symm, 0, rfl⟩
    rintro rfl
    exact hl rfl

theorem ints_eq (A B : Option Addr) (c d : Nat) (xs : List Int) (w : World) (hx : Sl intEl w A xs) (hy : Sl intEl w B xs) (hn : xs.length ≤ 9223372036854775807) :
    Calls Try.prog 16 #[.slice A xs.length c, .slice B xs.length d] w fun e w' => e = .returned (.bool true) ∧ Ext w w' :=
  (ints_any A B c d xs xs w hx hy hn).mono fun e w' ⟨h1, m, h2⟩ => ⟨by rw [h1, decide_eq_true rfl], h2 ▸ (Ext.refl w).drewN m⟩
theorem texts_eq (A B : Option Addr) (c d : Nat) (xs : List ByteArray) (w : World) (hx : Sl strEl w A xs) (hy : Sl strEl w B xs) (hn : xs.length ≤ 9223372036854775807) :
    Calls Try.prog 19 #[.slice A xs.length c, .slice B xs.length d] w fun e w' => e = .returned (.bool true) ∧ Ext w w' :=
  (texts_any A B c d xs xs w hx hy hn).mono fun e w' ⟨h1, m, h2⟩ => ⟨by rw [h1, decide_eq_true rfl], h2 ▸ (Ext.refl w).drewN m⟩

/-- few and short words -/
def briefP (l : List ByteArray) (n : Nat) : Prop := l.length ≤ n ∧ ∀ s ∈ l, s.size ≤ 300
def RetB (w : World) (p : Prop) (e : Ending) (w' : World) : Prop := ∃ b : Bool, e = .returned (.bool b) ∧ (b = true → p) ∧ Ext w w'
theorem mem_take_succ {α : Type} {p : α → Prop} {l : List α} {k : Nat} (hk : k < l.length) (h : ∀ x ∈ l.take k, p x) (h2 : p l[k]) : ∀ x ∈ l.take (k + 1), p x := by
  rw [List.take_succ_eq_append_getElem hk]
  intro x hx
  rcases List.mem_append.1 hx with h3 | h3
  · exact h x h3
  · simp at h3; rw [h3]; exact h2
set_option maxRecDepth 100000 in
set_option maxHeartbeats 800000 in
theorem brief_any (A : Option Addr) (c : Nat) (l : List ByteArray) (m : Nat) (w : World) (hs : Sl strEl w A l) (hn : l.length ≤ 9223372036854775807) :
    Calls Try.prog 11 #[.slice A l.length c, .int .i64 m] w (RetB w (briefP l m)) := by
  go_enter Try.func11, Try.ntmps11
  go_wp2
  go_loopw [5] (fun i wr => ∃ k : Nat, k ≤ l.length ∧ i = .int .i64 k ∧ Hid (∀ s ∈ l.take k, s.size ≤ 300) ∧ Ext w wr) (fun i _ => l.length - (intOf i).toNat)
  case atStart => exact ⟨0, Nat.zero_le _, rfl, Lib.hid (by simp), Ext.refl _⟩
  case round =>
    obtain ⟨k, hk, rfl, Hk, hext⟩ := hrel
    by_cases hlt : k < l.length
    · obtain ⟨b, off, rfl, hb, u0⟩ := strAt (hs.ext hext) hlt
      have Hst := Lib.hid (fun h => mem_take_succ hlt Hk.out h)
      obtain ⟨s, hq⟩ : ∃ s, l[k] = s := ⟨_, rfl⟩
      rw [hq] at u0 Hst
      clear hq
      by_cases h3 : s.size > 300
      · have d1 : decide ((s.size : Int) > 300) = true := decide_eq_true (by omega)
        go_wp2
        go_ret
        exact ⟨false, rfl, (fun h => by cases h), hext⟩
      · have d1 : decide ((s.size : Int) > 300) = false := decide_eq_false (by omega)
        have Hn := Lib.hid (Hst.out (by omega))
        go_wp2
        go_roundw
        case rel => exact ⟨k + 1, by omega, by go_num, Hn, hext⟩
        case measure => simp [intOf]; omega
    · have hkl : k = l.length := by omega
      have h3 := Hk.out
      rw [List.take_of_length_le (by omega)] at h3
      have H3 := Lib.hid h3
      clear h3 hkl
      go_wp2
      go_ret
      exact ⟨_, rfl, fun h => ⟨by simpa using h, H3.out⟩, hext⟩

/-- why words cannot be broken: 3 the width, 6 too many, 1 a word -/
def unfitB (W : Int) (s : ByteArray) : Bool := decide ((s.size : Int) < 1) || decide ((s.size : Int) > W)
def wrongF (W : Int) (l : List ByteArray) : Int := if W < 1 ∨ W > 200 then 3 else if l.length > 1024 then 6 else if l.any (unfitB W) = true then 1 else 0

end Go.Proofs.Ytdglijpooodlnaa
