/- split: a string's pieces between spaces. -/
import Derived.Test.YthjlnpcanccmkaaFmt9
import Derived.Test.YthjlnpcanccmkaaText9
namespace Go.Proofs.Ythjlnpcanccmkaa
open Go.RowKit

def splitR (s : ByteArray) : Nat → Nat → Nat → List ByteArray
  | 0, _, _ => []
  | f + 1, i, from_ => if i = s.size ∨ s.data.toList[i]? = some 32 then s.extract from_ i :: splitR s f (i + 1) (i + 1) else splitR s f (i + 1) from_
def splitF (s : ByteArray) : List ByteArray := splitR s (s.size + 1) 0 0

set_option maxRecDepth 100000 in
set_option maxHeartbeats 1600000 in
theorem split_any (s : ByteArray) (w : World) (hs : s.size ≤ 100) :
    Calls Try.prog 48 #[.string s] w (RetOwn strEl w (splitF s)) := by
  obtain ⟨R, hR⟩ : ∃ R, splitF s = R := ⟨_, rfl⟩
  rw [hR]
  have HR := Lib.hid hR
  clear hR
  go_enter Try.func48, Try.ntmps48
  go_wp2
  go_loopw [3, 4, 5] (fun out fr i wr => ∃ (k j : Nat) (acc : List ByteArray), k ≤ s.size + 1 ∧ j ≤ k ∧ i = .int .i64 k ∧ fr = .int .i64 j ∧ Hid (acc ++ splitR s (s.size + 1 - k) k j = R) ∧ acc.length ≤ k ∧ Own strEl w.heap.size wr out acc ∧ Ext w wr) (fun _ _ i _ => s.size + 1 - (intOf i).toNat)
  case atStart => exact ⟨0, 0, [], Nat.zero_le _, Nat.le_refl _, rfl, rfl, HR, Nat.le_refl _, Own.made strEl (Nat.le_refl _), (Ext.refl _).alloc _⟩
  case round =>
    obtain ⟨k, j, acc, hk, hj, rfl, rfl, Hacc, hal, hown, hext⟩ := hrel
    have hsz := hext.size
    by_cases hlt : k ≤ s.size
    · have d0 : decide ((k : Int) ≤ (s.size : Int)) = true := decide_eq_true (by omega)
      have hf : s.size + 1 - k = (s.size - k) + 1 := by omega
      have hA := Hacc.out
      rw [hf, splitR] at hA
      by_cases hend : k = s.size
      · rw [if_pos (.inl hend)] at hA
        have HA := Lib.hid hA
        have d1 : ((k : Int) == (s.size : Int)) = true := by simp [hend]
        have hjs : j ≤ s.size := by omega
        have hc1 : acc.length + 1 ≤ 68719476736 := by omega
        rw [show s.size - k = 0 by omega] at HA
        subst hend
        clear hA hf Hacc
        go_wp2_with (at_builtin; refine wpList_app strEl rfl _ _ rfl 1 rfl (hown.ext (Ext.alloc (Ext.refl _) _)) (ys := [s.extract j s.size]) rfl (Sl.new strEl rfl) hc1 (by simp; omega) ?_; intro v' w1 hown' hb1 hg1)
        have hext' : Ext w w1 := (hext.alloc _).trans' hb1
        go_wp2
        go_roundw
        case rel => exact ⟨s.size + 1, s.size + 1, acc ++ [s.extract j s.size], by omega, by omega, by go_num, by go_num, Lib.hid (by rw [List.append_assoc, show s.size + 1 - (s.size + 1) = 0 by omega]; exact HA.out), by rw [List.length_append]; simp; omega, hown', hext'⟩
        case measure => simp [intOf]
      · have d1 : ((k : Int) == (s.size : Int)) = false := beq_eq_false_iff_ne.2 (by omega)
        have hks : k < s.size := by omega
        have hks2 : (k : Int) < (s.size : Int) := by omega
        obtain ⟨x, hx⟩ : ∃ x : UInt8, s[k] = x := ⟨_, rfl⟩
        have hxl : s.data.toList[k]? = some x := by
          rw [← hx, Array.getElem?_toList]
          exact Array.getElem?_eq_getElem hks
        rw [hxl] at hA
        by_cases hsp : x = 32
        · rw [if_pos (.inr (by rw [hsp]))] at hA
          have HA := Lib.hid hA
          have d2 : ((x.toNat : Int) == 32) = true := by rw [hsp]; rfl
          have hc1 : acc.length + 1 ≤ 68719476736 := by omega
          have Hf := Lib.hid hf
          clear hA hf Hacc hxl hsp
          go_wp2_with (at_builtin; refine wpList_app strEl rfl _ _ rfl 1 rfl (hown.ext (Ext.alloc (Ext.refl _) _)) (ys := [s.extract j k]) rfl (Sl.new strEl rfl) hc1 (by simp; omega) ?_; intro v' w1 hown' hb1 hg1)
          have hext' : Ext w w1 := (hext.alloc _).trans' hb1
          go_wp2
          go_roundw
          case rel => exact ⟨k + 1, k + 1, acc ++ [s.extract j k], by omega, by omega, by go_num, by go_num, Lib.hid (by rw [List.append_assoc, show s.size + 1 - (k + 1) = s.size - k by omega]; exact HA.out), by rw [List.length_append]; simp; omega, hown', hext'⟩
          case measure => simp [intOf]; omega
        · rw [if_neg (by
            rintro (h | h)
            · exact hend h
            · exact hsp (Option.some.inj h))] at hA
          have HA := Lib.hid hA
          have d2 : ((x.toNat : Int) == 32) = false := beq_eq_false_iff_ne.2 (fun h => hsp (UInt8.toNat.inj (by show x.toNat = 32; omega)))
          clear hA hf Hacc hxl hsp
          go_wp2
          go_roundw
          case rel => exact ⟨k + 1, j, acc, by omega, by omega, by go_num, by go_num, Lib.hid (by rw [show s.size + 1 - (k + 1) = s.size - k by omega]; exact HA.out), by omega, hown, hext⟩
          case measure => simp [intOf]; omega
    · have hke : k = s.size + 1 := by omega
      have hA := Hacc.out
      rw [show s.size + 1 - k = 0 by omega, splitR, List.append_nil] at hA
      have HA := Lib.hid hA
      have d0 : decide ((k : Int) ≤ (s.size : Int)) = false := decide_eq_false (by omega)
      clear hA hke Hacc
      go_wp2
      go_ret
      rw [← HA.out]
      exact ⟨_, rfl, hown, hext⟩

end Go.Proofs.Ythjlnpcanccmkaa
