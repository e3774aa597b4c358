/- ParseAnchor, Anchor, Anchors (both), place, note, once: the walks. -/
import Derived.Test.YtiacmahfjcolaaaDoorDef10
namespace Go.Proofs.YtiacmahfjcolaaaDoor
open Go.RowKit

theorem hasPrefix_one (l : List UInt8) (c : UInt8) : Lib.hasPrefix l [c] = (l.head? == some c) := by
  cases l with
  | nil => rfl
  | cons x r =>
    rw [Bool.eq_iff_iff]
    simp [Lib.hasPrefix, List.isPrefixOf]
    constructor <;> exact fun h => h.symm
theorem ancB_eq (s : ByteArray) : ancB s = (Lib.hasPrefix s.data.toList [94] && mayL (s.data.toList.drop 1)) := by rw [ancB, hasPrefix_one]
def RetAnc (s : ByteArray) (w : World) (e : Ending) (w' : World) : Prop := e = .returned (.tuple #[.string (ancT s), .bool (ancB s)]) ∧ Ext w w'

set_option maxRecDepth 100000 in
set_option maxHeartbeats 800000 in
theorem parseAnchor_any (s : ByteArray) (w : World) (hs : s.size ≤ 1048576) : Calls Tryd.prog 12 #[.string s] w (RetAnc s w) := by
  have Hc := Lib.hid (fun w => Tryd.strings_CutPrefix s ⟨#[94]⟩ w)
  have hb := ancB_eq s
  cases hp : Lib.hasPrefix s.data.toList [94] with
  | false =>
    rw [hp, Bool.false_and] at hb
    have ht : ancT s = ⟨#[]⟩ := by rw [ancT, if_neg (by simp [hb])]
    have hp2 : Lib.hasPrefix s.data.toList (ByteArray.data ⟨#[94]⟩).toList = false := hp
    unfold RetAnc
    rw [hb, ht]
    rw [hp2] at Hc
    obtain ⟨T, hT⟩ : ∃ T, (⟨(Lib.trimPrefix s.data.toList (ByteArray.data ⟨#[94]⟩).toList).toArray⟩ : ByteArray) = T := ⟨_, rfl⟩
    rw [hT] at Hc
    clear hb ht hp hp2 hT
    go_enter Tryd.func12, Tryd.ntmps12
    go_wp2_with fail
    refine (Hc.out _).mono ?_
    rintro e w1 ⟨rfl, rfl⟩
    go_wp2
    go_ret2
    exact ⟨rfl, Ext.refl _⟩
  | true =>
    rw [hp, Bool.true_and] at hb
    have hp2 : Lib.hasPrefix s.data.toList (ByteArray.data ⟨#[94]⟩).toList = true := hp
    have hT : (⟨(Lib.trimPrefix s.data.toList (ByteArray.data ⟨#[94]⟩).toList).toArray⟩ : ByteArray) = bstrF (s.data.toList.drop 1) := by
      unfold Lib.trimPrefix
      rw [if_pos hp2]
      rfl
    rw [hp2, hT] at Hc
    obtain ⟨T, hT2⟩ : ∃ T, bstrF (s.data.toList.drop 1) = T := ⟨_, rfl⟩
    have hl : s.data.toList.length = s.size := Array.length_toList
    have hTl : T.data.toList = s.data.toList.drop 1 := by rw [← hT2, bstrF_list]
    have hTs : T.size ≤ 1048576 := by rw [← hT2, bstrF_size, List.length_drop]; omega
    have Hv := Lib.hid (fun w => valid_any T w hTs)
    rw [hTl] at Hv
    rw [hT2] at Hc
    have ht : ancT s = if ancB s = true then T else ⟨#[]⟩ := by rw [ancT, hT2]
    unfold RetAnc
    rw [ht, hb]
    obtain ⟨M, hM⟩ : ∃ M, mayL (s.data.toList.drop 1) = M := ⟨_, rfl⟩
    rw [hM] at Hv ⊢
    clear hb ht hp hp2 hT hT2 hTl hTs hM hl
    cases M with
    | true =>
      go_enter Tryd.func12, Tryd.ntmps12
      go_wp2_with fail
      refine (Hc.out _).mono ?_
      rintro e w1 ⟨rfl, rfl⟩
      go_wp2_with fail
      refine (Hv.out _).mono ?_
      rintro e w2 ⟨rfl, hx2⟩
      go_wp2
      go_ret2
      exact ⟨rfl, hx2⟩
    | false =>
      go_enter Tryd.func12, Tryd.ntmps12
      go_wp2_with fail
      refine (Hc.out _).mono ?_
      rintro e w1 ⟨rfl, rfl⟩
      go_wp2_with fail
      refine (Hv.out _).mono ?_
      rintro e w2 ⟨rfl, hx2⟩
      go_wp2
      go_ret2
      exact ⟨rfl, hx2⟩

set_option maxRecDepth 100000 in
set_option maxHeartbeats 800000 in
theorem anchor_any (s : ByteArray) (w : World) (hs : s.size ≤ 1048576) : Calls Tryd.prog 13 #[.string s] w (RetAnc s w) := by
  have hl : s.data.toList.length = s.size := Array.length_toList
  by_cases n1 : s.size < 2
  case pos =>
    have hm : mayL (s.data.toList.drop 1) = false := by
      rw [List.drop_of_length_le (by omega)]
      rfl
    have hb : ancB s = false := by rw [ancB, hm, Bool.and_false]
    have ht : ancT s = ⟨#[]⟩ := by rw [ancT, if_neg (by simp [hb])]
    have d1 : decide ((s.size : Int) < 2) = true := decide_eq_true (by omega)
    unfold RetAnc
    rw [hb, ht]
    clear hm hb ht hl n1
    go_enter Tryd.func13, Tryd.ntmps13
    go_wp2
    go_ret2
    exact ⟨rfl, Ext.refl _⟩
  have d1 : decide ((s.size : Int) < 2) = false := decide_eq_false (by omega)
  have hs0p : 0 < s.size := by omega
  obtain ⟨c, hc⟩ : ∃ c, s.data.toList[0]'(by omega) = c := ⟨_, rfl⟩
  have hs0 : s[0]'hs0p = c := by rw [← hc]; exact byte_at rfl hs0p (by omega)
  have hh : s.data.toList.head? = some c := by
    rw [← hc, List.head?_eq_getElem?, List.getElem?_eq_getElem]
  by_cases n2 : c = 94
  case neg =>
    have hb : ancB s = false := by rw [ancB, hh, show (some c == some (94 : UInt8)) = false by simp [n2], Bool.false_and]
    have ht : ancT s = ⟨#[]⟩ := by rw [ancT, if_neg (by simp [hb])]
    have d2 : ((c.toNat : Int) != 94) = true := by
      have : c.toNat ≠ 94 := fun h => n2 (UInt8.toNat_inj.1 h)
      simp only [bne_iff_ne, ne_eq]
      omega
    unfold RetAnc
    rw [hb, ht]
    clear hb ht hl n1 n2 hh hc
    go_enter Tryd.func13, Tryd.ntmps13
    go_wp2
    go_ret2
    exact ⟨rfl, Ext.refl _⟩
  subst n2
  have d2 : ((UInt8.toNat 94 : Int) != 94) = false := rfl
  have hb : ancB s = mayL (s.data.toList.drop 1) := by rw [ancB, hh]; simp
  have E1 := bytes_drop s 1
  obtain ⟨T, hT2⟩ : ∃ T, bstrF (s.data.toList.drop 1) = T := ⟨_, rfl⟩
  have hTl : T.data.toList = s.data.toList.drop 1 := by rw [← hT2, bstrF_list]
  have hTs : T.size ≤ 1048576 := by rw [← hT2, bstrF_size, List.length_drop]; omega
  have Hv := Lib.hid (fun w => may3_any T w hTs)
  rw [hTl] at Hv
  have ht : ancT s = if ancB s = true then T else ⟨#[]⟩ := by rw [ancT, hT2]
  rw [hT2] at E1
  have d3 : ((1 : Int) ≤ (s.size : Int)) := by omega
  unfold RetAnc
  rw [ht, hb]
  obtain ⟨M, hM⟩ : ∃ M, mayL (s.data.toList.drop 1) = M := ⟨_, rfl⟩
  rw [hM] at Hv ⊢
  clear hb ht hT2 hTl hTs hM hl hh hc n1
  cases M with
  | true =>
    go_enter Tryd.func13, Tryd.ntmps13
    go_wp2_with fail
    refine (Hv.out _).mono ?_
    rintro e w2 ⟨rfl, rfl⟩
    go_wp2
    go_ret2
    exact ⟨rfl, Ext.refl _⟩
  | false =>
    go_enter Tryd.func13, Tryd.ntmps13
    go_wp2_with fail
    refine (Hv.out _).mono ?_
    rintro e w2 ⟨rfl, rfl⟩
    go_wp2
    go_ret2
    exact ⟨rfl, Ext.refl _⟩

set_option maxRecDepth 100000 in
set_option maxHeartbeats 800000 in
theorem place_any (A : Option Addr) (c : Nat) (l : List ByteArray) (s : ByteArray) (w : World) (hl : Sl strEl w A l) (hn : l.length ≤ 9223372036854775807) :
    Calls Tryd.prog 38 #[.slice A l.length c, .string s] w fun e w' => e = .returned (.int .i64 (placeI l s)) ∧ w' = w := by
  obtain ⟨R, hR⟩ : ∃ R, placeI l s = R := ⟨_, rfl⟩
  rw [hR]
  have HR : Hid (idxI (fun x => decide (x = s)) (l.drop 0) 0 = R) := Lib.hid hR
  clear hR
  go_enter Tryd.func38, Tryd.ntmps38
  go_wp2
  go_loopw [5] (fun i wr => ∃ k : Nat, k ≤ l.length ∧ i = .int .i64 (k : Nat) ∧ Hid (idxI (fun x => decide (x = s)) (l.drop k) k = R) ∧ wr = w) (fun i _ => l.length - (intOf i).toNat)
  case atStart => exact ⟨0, Nat.zero_le _, rfl, HR, rfl⟩
  case round =>
    obtain ⟨k, hk, rfl, Hk, rfl⟩ := hrel
    by_cases hlt : k < l.length
    · obtain ⟨b, off, rfl, hb, hc0⟩ := strAt hl hlt
      have hk2 := Hk.out
      rw [idxI_drop hlt] at hk2
      obtain ⟨x, hx⟩ : ∃ x, l[k] = x := ⟨_, rfl⟩
      rw [hx] at hc0 hk2
      have d1 : decide ((k : Int) < (l.length : Int)) = true := decide_eq_true (by omega)
      clear hx
      by_cases he : x = s
      · have hbq : (x.toList == s.toList) = true := by rw [beq_bytes]; simp [he]
        rw [if_pos (by simp [he])] at hk2
        have Hk2 := Lib.hid hk2
        clear hk2 he
        go_wp2
        go_ret
        exact ⟨ret_int Hk2.out, rfl⟩
      · have hbq : (x.toList == s.toList) = false := by rw [beq_bytes]; simp [he]
        rw [if_neg (by simp [he])] at hk2
        have Hk2 := Lib.hid hk2
        clear hk2 he
        go_wp2
        go_roundw
        case rel => exact ⟨k + 1, by omega, by go_num, Hk2, trivial⟩
        case measure => simp [intOf]; omega
    · have hk2 := Hk.out
      rw [idxI_end (by omega)] at hk2
      have Hk2 := Lib.hid hk2
      have d1 : decide ((k : Int) < (l.length : Int)) = false := decide_eq_false (by omega)
      clear hk2
      go_wp2
      go_ret
      exact ⟨ret_int Hk2.out, rfl⟩

end Go.Proofs.YtiacmahfjcolaaaDoor
