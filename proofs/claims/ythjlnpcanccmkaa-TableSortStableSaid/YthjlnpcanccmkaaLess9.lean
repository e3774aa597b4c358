/- The order of strings, and cmp.Compare of strings. -/
import Derived.Test.YthjlnpcanccmkaaSortP
import Derived.Test.YthjlnpcanccmkaaTop
namespace Go.Proofs.Ythjlnpcanccmkaa
open Go.RowKit

theorem bl_nil (x : List UInt8) : Op.bytesLess x [] = false := by cases x <;> rfl
theorem bl_cons (a b : UInt8) (x y : List UInt8) : Op.bytesLess (a :: x) (b :: y) = (decide (a < b) || (a == b && Op.bytesLess x y)) := rfl
theorem bl_irr : ∀ x : List UInt8, Op.bytesLess x x = false
  | [] => rfl
  | a :: x => by rw [bl_cons, bl_irr x]; simp
theorem u8_lt_iff (a b : UInt8) : a < b ↔ a.toNat < b.toNat := UInt8.lt_iff_toNat_lt
theorem u8_eq_iff (a b : UInt8) : a = b ↔ a.toNat = b.toNat := ⟨fun h => by rw [h], fun h => UInt8.toNat_inj.1 h⟩
theorem bl_iff (a b : UInt8) (x y : List UInt8) : Op.bytesLess (a :: x) (b :: y) = true ↔ a.toNat < b.toNat ∨ (a.toNat = b.toNat ∧ Op.bytesLess x y = true) := by
  rw [bl_cons]
  simp only [Bool.or_eq_true, Bool.and_eq_true, decide_eq_true_eq, beq_iff_eq, u8_lt_iff, u8_eq_iff]
theorem bl_tr : ∀ x y z : List UInt8, Op.bytesLess x y = true → Op.bytesLess y z = true → Op.bytesLess x z = true
  | _, [], _, h, _ => by rw [bl_nil] at h; cases h
  | _, _ :: _, [], _, h => by rw [bl_nil] at h; cases h
  | [], _ :: _, _ :: _, _, _ => rfl
  | a :: x, b :: y, c :: z, h1, h2 => by
    rw [bl_iff] at h1 h2 ⊢
    rcases h1 with h1 | ⟨h1, k1⟩ <;> rcases h2 with h2 | ⟨h2, k2⟩
    · left; omega
    · left; omega
    · left; omega
    · right; exact ⟨by omega, bl_tr x y z k1 k2⟩
theorem bl_tot : ∀ x y : List UInt8, Op.bytesLess x y = false → Op.bytesLess y x = false → x = y
  | [], [], _, _ => rfl
  | [], _ :: _, h, _ => by cases h
  | _ :: _, [], _, h => by cases h
  | a :: x, b :: y, h1, h2 => by
    have n1 : ¬ Op.bytesLess (a :: x) (b :: y) = true := by rw [h1]; simp
    have n2 : ¬ Op.bytesLess (b :: y) (a :: x) = true := by rw [h2]; simp
    rw [bl_iff] at n1 n2
    have hab : a.toNat = b.toNat := by omega
    have k1 : Op.bytesLess x y = false := by
      cases h : Op.bytesLess x y with
      | false => rfl
      | true => exact absurd (.inr ⟨hab, h⟩) n1
    have k2 : Op.bytesLess y x = false := by
      cases h : Op.bytesLess y x with
      | false => rfl
      | true => exact absurd (.inr ⟨hab.symm, h⟩) n2
    rw [(u8_eq_iff a b).2 hab, bl_tot x y k1 k2]
def lessB (a b : ByteArray) : Bool := Op.bytesLess a.toList b.toList
theorem lessB_tot {a b : ByteArray} (h1 : lessB a b = false) (h2 : lessB b a = false) : a = b := by
  have := bl_tot _ _ h1 h2
  rw [ByteArray.toList_eq, ByteArray.toList_eq] at this
  exact ByteArray.ext (Array.ext' this)
theorem lessB_wk {α : Type} (key : α → ByteArray) : Wk (fun x y => lessB (key x) (key y)) where
  irr x := bl_irr _
  tr x y z h1 h2 := bl_tr _ _ _ h1 h2
  nt x y z h1 h2 := by
    cases h : lessB (key x) (key z) with
    | false => rfl
    | true =>
      cases h3 : lessB (key y) (key x) with
      | true => have := bl_tr _ _ _ h3 h; rw [show Op.bytesLess (key y).toList (key z).toList = lessB (key y) (key z) from rfl, h2] at this; cases this
      | false =>
        have := lessB_tot h1 h3
        rw [this, h2] at h
        cases h
theorem run_gtr_str {P : Program} (t : TypeId) (a b : ByteArray) (w : World) : (binOp .gtr t (.string a) (.string b)).run P w = .ok (.bool (lessB b a)) w := by
  have e : (!(Op.bytesLess a.toList b.toList || a.toList == b.toList)) = lessB b a := by
    cases h1 : lessB a b with
    | true =>
      have h2 : lessB b a = false := by
        cases h : lessB b a with
        | false => rfl
        | true => have := bl_tr _ _ _ h1 h; rw [bl_irr] at this; cases this
      rw [show Op.bytesLess a.toList b.toList = lessB a b from rfl, h1, h2]; rfl
    | false =>
      rw [show Op.bytesLess a.toList b.toList = lessB a b from rfl, h1]
      cases h2 : lessB b a with
      | true =>
        have : (a.toList == b.toList) = false := by
          cases h : (a.toList == b.toList) with
          | false => rfl
          | true => rw [beq_iff_eq] at h; unfold lessB at h2; rw [h, bl_irr] at h2; cases h2
        rw [this]; rfl
      | false => rw [lessB_tot h1 h2]; simp
  simp [binOp, Op.stringOp]
  simpa using e
theorem run_lss_str {P : Program} (t : TypeId) (a b : ByteArray) (w : World) : (binOp .lss t (.string a) (.string b)).run P w = .ok (.bool (lessB a b)) w := by
  simp [binOp, Op.stringOp, lessB]

def cmpZ (a b : ByteArray) : Int := if lessB a b = true then -1 else if lessB b a = true then 1 else 0
theorem cmpZ_neg (a b : ByteArray) : decide (cmpZ a b < 0) = lessB a b := by
  unfold cmpZ
  cases h : lessB a b with
  | true => simp
  | false => cases h2 : lessB b a <;> simp
set_option maxRecDepth 100000 in
set_option maxHeartbeats 800000 in
theorem isNaN_any (a : ByteArray) (w : World) : Calls Try.prog 59 #[.string a] w fun e w' => e = .returned (.bool false) ∧ w = w' := by
  go_enter Try.func59, Try.ntmps59
  go_wp2
  go_ret
  exact ⟨by simp, rfl⟩
set_option maxRecDepth 100000 in
set_option maxHeartbeats 1600000 in
theorem compare_any (a b : ByteArray) (w : World) : Calls Try.prog 47 #[.string a, .string b] w fun e w' => e = .returned (.int .i64 (cmpZ a b)) ∧ w = w' := by
  have Hn := Lib.hid (fun a w => isNaN_any a w)
  have hne : lessB b a = true → (a.toList == b.toList) = false := fun h2 => by
    cases h : (a.toList == b.toList) with
    | false => rfl
    | true => rw [beq_iff_eq] at h; unfold lessB at h2; rw [h, bl_irr] at h2; cases h2
  obtain ⟨z, hz⟩ : ∃ z, cmpZ a b = z := ⟨_, rfl⟩
  unfold cmpZ at hz
  rw [show cmpZ a b = z from hz]
  cases h1 : lessB a b with
  | true =>
    rw [h1] at hz
    simp only [if_true] at hz
    subst hz
    clear hne
    unfold lessB at h1
    go_enter Try.func47, Try.ntmps47
    go_wp2_with fail
    refine (Hn.out a w).mono ?_
    rintro e w1 ⟨rfl, rfl⟩
    go_wp2_with fail
    refine (Hn.out b w).mono ?_
    rintro e w1 ⟨rfl, rfl⟩
    go_wp2
    go_ret
    exact ⟨rfl, rfl⟩
  | false =>
    rw [h1] at hz
    simp only [Bool.false_eq_true, if_false] at hz
    cases h2 : lessB b a with
    | true =>
      have h3 := hne h2
      rw [h2] at hz
      simp only [if_true] at hz
      subst hz
      clear h2 hne
      unfold lessB at h1
      go_enter Try.func47, Try.ntmps47
      go_wp2_with fail
      refine (Hn.out a w).mono ?_
      rintro e w1 ⟨rfl, rfl⟩
      go_wp2_with fail
      refine (Hn.out b w).mono ?_
      rintro e w1 ⟨rfl, rfl⟩
      go_wp2
      go_ret
      exact ⟨rfl, rfl⟩
    | false =>
      have h3 : (a.toList == b.toList) = true := by rw [lessB_tot h1 h2]; simp
      rw [h2] at hz
      simp only [Bool.false_eq_true, if_false] at hz
      subst hz
      clear h2 hne
      unfold lessB at h1
      go_enter Try.func47, Try.ntmps47
      go_wp2_with fail
      refine (Hn.out a w).mono ?_
      rintro e w1 ⟨rfl, rfl⟩
      go_wp2_with fail
      refine (Hn.out b w).mono ?_
      rintro e w1 ⟨rfl, rfl⟩
      go_wp2
      go_ret
      exact ⟨rfl, rfl⟩

end Go.Proofs.Ythjlnpcanccmkaa
