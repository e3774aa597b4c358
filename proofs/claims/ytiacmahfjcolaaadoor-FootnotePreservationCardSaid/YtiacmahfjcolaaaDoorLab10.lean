/- Labels: which strings are labels; label.Valid and the reference's May; anchors. -/
import Derived.Test.YtiacmahfjcolaaaDoorCmp
import Derived.Test.YtiacmahfjcolaaaDoorShelf
import Derived.Shelf.Strings.FuncGrows
namespace Go.Proofs.YtiacmahfjcolaaaDoor
open Go.RowKit

theorem bytesList_inj {a b : ByteArray} (h : a.data.toList = b.data.toList) : a = b := ByteArray.ext (Array.ext' h)
def bstrF (o : List UInt8) : ByteArray := ⟨o.toArray⟩
theorem bstrF_size (o : List UInt8) : (bstrF o).size = o.length := by show o.toArray.size = _; simp
theorem bstrF_list (o : List UInt8) : (bstrF o).data.toList = o := by show o.toArray.toList = _; simp
theorem byte_at {s : ByteArray} {bs : List UInt8} (h : s.data.toList = bs) {k : Nat} (hk : k < s.size) (hb : k < bs.length) : s[k] = bs[k] := by subst h; rfl
theorem bytes_take (s : ByteArray) (k : Nat) : s.extract 0 k = bstrF (s.data.toList.take k) := by
  refine bytesList_inj ?_
  rw [bstrF_list]
  simp only [ByteArray.data_extract, Array.toList_extract]
  rw [List.extract_eq_take_drop, List.drop_zero, Nat.sub_zero]
theorem bytes_drop (s : ByteArray) (k : Nat) : s.extract k s.size = bstrF (s.data.toList.drop k) := by
  refine bytesList_inj ?_
  rw [bstrF_list]
  simp only [ByteArray.data_extract, Array.toList_extract]
  have h : s.data.toList.length = s.size := Array.length_toList
  rw [List.extract_eq_take_drop, ← h, List.take_of_length_le (by simp)]

def isDig (c : UInt8) : Bool := decide (48 ≤ c.toNat) && decide (c.toNat ≤ 57)
def isCap (c : UInt8) : Bool := decide (65 ≤ c.toNat) && decide (c.toNat ≤ 90)
/-- the number of digits at the front -/
def dcF (l : List UInt8) : Nat := (l.takeWhile isDig).length
def mayL (l : List UInt8) : Bool := decide (1 ≤ dcF l) && decide (dcF l ≤ 4) && !(l.head? == some 48) && decide (l.length - dcF l ≤ 3) && (l.drop (dcF l)).all isCap
/-- the label of an anchor -/
def ancB (s : ByteArray) : Bool := (s.data.toList.head? == some 94) && mayL (s.data.toList.drop 1)
def ancT (s : ByteArray) : ByteArray := if ancB s = true then bstrF (s.data.toList.drop 1) else ⟨#[]⟩
theorem dcF_le (l : List UInt8) : dcF l ≤ l.length := by unfold dcF; exact (List.takeWhile_sublist _).length_le

theorem decode_high (s : ByteArray) (pos : Nat) (h : pos < s.size) (ha : 128 ≤ (s[pos]'h).toNat) : 128 ≤ (Utf8.decode s pos).1 := by
  have e : s.get! (pos + 0) = s[pos]'h := by
    show s.get! pos = _
    simp [ByteArray.get!, getElem!_pos, h]
    rfl
  simp only [Utf8.decode, e]
  rw [if_neg (by omega)]
  repeat' split
  all_goals first | (simp [Utf8.runeError]; done) | (simp only; simp_all; omega) | (simp_all [Utf8.runeError] <;> omega)

theorem idx_find (p : Nat → Bool) (hp : ∀ x, 128 ≤ x → p x = true) (s : ByteArray) : ∀ (f pos : Nat), s.size ≤ pos + f → Lib.idxFuncFrom p true s f pos = match (s.data.toList.drop pos).findIdx? (fun c => p c.toNat) with | some j => ((pos + j : Nat) : Int) | none => -1
  | 0, pos, h => by
    have hl : s.data.toList.length = s.size := Array.length_toList
    rw [List.drop_of_length_le (by omega)]
    rfl
  | f + 1, pos, h => by
    have hl : s.data.toList.length = s.size := Array.length_toList
    rw [Lib.idxFuncFrom]
    split
    · rename_i hlt
      have hc : s.data.toList[pos]'(by omega) = s[pos]'hlt := rfl
      rw [List.drop_eq_getElem_cons (by omega), hc, List.findIdx?_cons]
      by_cases ha : (s[pos]'hlt).toNat < 128
      · rw [decode_ascii s pos hlt ha]
        by_cases hq : p (s[pos]'hlt).toNat = true
        · rw [if_pos hq, if_pos hq]; simp
        · rw [if_neg hq, if_neg hq, idx_find p hp s f (pos + 1) (by omega)]
          cases (s.data.toList.drop (pos + 1)).findIdx? (fun c => p c.toNat) with
          | none => rfl
          | some j =>
            show ((pos + 1 + j : Nat) : Int) = ((pos + (j + 1) : Nat) : Int)
            congr 1
            omega
      · rw [if_pos (hp _ (decode_high s pos hlt (by omega))), if_pos (hp _ (by omega))]; simp
    · rename_i hlt
      rw [List.drop_of_length_le (by omega)]
      rfl
theorem idx_find0 (p : Nat → Bool) (hp : ∀ x, 128 ≤ x → p x = true) (s : ByteArray) : Lib.idxFunc p true s = match s.data.toList.findIdx? (fun c => p c.toNat) with | some j => (j : Int) | none => -1 := by
  rw [Lib.idxFunc, idx_find p hp s s.size 0 (by omega), List.drop_zero]
  simp
theorem findIdx_while (q : UInt8 → Bool) : ∀ l : List UInt8, (match l.findIdx? (fun c => !q c) with | some j => (j : Int) | none => -1) = if (l.takeWhile q).length < l.length then ((l.takeWhile q).length : Int) else -1
  | [] => by simp
  | c :: r => by
    have ih := findIdx_while q r
    rw [List.findIdx?_cons, List.takeWhile_cons]
    cases hq : q c with
    | false => simp
    | true =>
      simp only [Bool.not_true, Bool.false_eq_true, if_false, if_true, List.length_cons]
      cases hf : r.findIdx? (fun c => !q c) with
      | none =>
        rw [hf] at ih
        simp only [Option.map_none] at ih ⊢
        split at ih
        · omega
        · rw [if_neg (by omega)]
      | some j =>
        rw [hf] at ih
        simp only [Option.map_some] at ih ⊢
        split at ih
        · rw [if_pos (by omega)]
          show ((j + 1 : Nat) : Int) = _
          omega
        · omega
theorem findIdx_any (q : UInt8 → Bool) (l : List UInt8) : decide ((0 : Int) ≤ match l.findIdx? q with | some j => (j : Int) | none => -1) = l.any q := by
  cases hf : l.findIdx? q with
  | none =>
    rw [List.findIdx?_eq_none_iff] at hf
    rw [Bool.eq_iff_iff]
    simp only [decide_eq_true_eq, List.any_eq_true]
    constructor
    · omega
    · rintro ⟨x, h1, h2⟩
      rw [hf x h1] at h2
      cases h2
  | some j =>
    have h1 : l.any q = true := by
      obtain ⟨h2, h3, h4⟩ := List.findIdx?_eq_some_iff_getElem.1 hf
      exact List.any_eq_true.2 ⟨l[j], List.getElem_mem h2, h3⟩
    rw [h1]
    simp

/-! ### the closures -/
def offDig (x : Nat) : Bool := decide (x < 48) || decide (57 < x)
def offCap (x : Nat) : Bool := decide (x < 65) || decide (90 < x)
theorem offDig_eq (c : UInt8) : offDig c.toNat = !isDig c := by
  rw [Bool.eq_iff_iff]
  simp only [offDig, isDig, Bool.or_eq_true, decide_eq_true_eq, Bool.not_eq_true', Bool.and_eq_false_iff, decide_eq_false_iff_not]
  omega
theorem offCap_eq (c : UInt8) : offCap c.toNat = !isCap c := by
  rw [Bool.eq_iff_iff]
  simp only [offCap, isCap, Bool.or_eq_true, decide_eq_true_eq, Bool.not_eq_true', Bool.and_eq_false_iff, decide_eq_false_iff_not]
  omega
set_option maxRecDepth 100000 in
theorem parted1_any (x : Nat) (w : World) (hx : x ≤ 1114111) : Calls Tryd.prog 62 #[.int .i32 (x : Nat)] w fun e w' => e = .returned (.bool (offDig x)) ∧ w' = w := by
  by_cases h1 : x < 48
  · have d1 : decide ((x : Int) < 48) = true := decide_eq_true (by omega)
    have hr : offDig x = true := by simp [offDig, h1]
    rw [hr]
    go_enter Tryd.func62, Tryd.ntmps62
    go_wp2
    go_ret
    exact ⟨rfl, rfl⟩
  · have d1 : decide ((x : Int) < 48) = false := decide_eq_false (by omega)
    by_cases h2 : 57 < x
    · have d2 : decide ((x : Int) > 57) = true := decide_eq_true (by omega)
      have hr : offDig x = true := by simp [offDig, h2]
      rw [hr]
      go_enter Tryd.func62, Tryd.ntmps62
      go_wp2
      go_ret
      exact ⟨rfl, rfl⟩
    · have d2 : decide ((x : Int) > 57) = false := decide_eq_false (by omega)
      have hr : offDig x = false := by simp [offDig, h1, h2]
      rw [hr]
      go_enter Tryd.func62, Tryd.ntmps62
      go_wp2
      go_ret
      exact ⟨rfl, rfl⟩
set_option maxRecDepth 100000 in
theorem valid1_any (x : Nat) (w : World) (hx : x ≤ 1114111) : Calls Tryd.prog 52 #[.int .i32 (x : Nat)] w fun e w' => e = .returned (.bool (offCap x)) ∧ w' = w := by
  by_cases h1 : x < 65
  · have d1 : decide ((x : Int) < 65) = true := decide_eq_true (by omega)
    have hr : offCap x = true := by simp [offCap, h1]
    rw [hr]
    go_enter Tryd.func52, Tryd.ntmps52
    go_wp2
    go_ret
    exact ⟨rfl, rfl⟩
  · have d1 : decide ((x : Int) < 65) = false := decide_eq_false (by omega)
    by_cases h2 : 90 < x
    · have d2 : decide ((x : Int) > 90) = true := decide_eq_true (by omega)
      have hr : offCap x = true := by simp [offCap, h2]
      rw [hr]
      go_enter Tryd.func52, Tryd.ntmps52
      go_wp2
      go_ret
      exact ⟨rfl, rfl⟩
    · have d2 : decide ((x : Int) > 90) = false := decide_eq_false (by omega)
      have hr : offCap x = false := by simp [offCap, h1, h2]
      rw [hr]
      go_enter Tryd.func52, Tryd.ntmps52
      go_wp2
      go_ret
      exact ⟨rfl, rfl⟩
theorem grows_parted (w : World) : PredGrows Tryd.prog 62 #[] offDig w := fun W x hx _ => (parted1_any x W hx).mono fun _ _ ⟨h1, h2⟩ => ⟨h1, h2 ▸ Below.refl _ _⟩
theorem grows_valid (w : World) : PredGrows Tryd.prog 52 #[] offCap w := fun W x hx _ => (valid1_any x W hx).mono fun _ _ ⟨h1, h2⟩ => ⟨h1, h2 ▸ Below.refl _ _⟩
theorem indexDig (s : ByteArray) (w : World) : Calls Tryd.prog 61 #[.string s, .func (.func 62) #[] #[]] w fun e w' => e = .returned (.int .i64 (if dcF s.data.toList < s.size then (dcF s.data.toList : Int) else -1)) ∧ Ext w w' := by
  refine (Tryd.strings_IndexFunc_grows _ #[] Tryd.call62 offDig s w (grows_parted w)).mono fun e w' ⟨h1, h2⟩ => ⟨?_, h2⟩
  rw [h1, idx_find0 offDig (fun x hx => by simp [offDig]; omega) s]
  have h3 : (fun c : UInt8 => offDig c.toNat) = fun c => !isDig c := funext offDig_eq
  have hl : s.data.toList.length = s.size := Array.length_toList
  rw [h3, findIdx_while, hl]
  rfl
theorem containsCap (s : ByteArray) (w : World) : Calls Tryd.prog 53 #[.string s, .func (.func 52) #[] #[]] w fun e w' => e = .returned (.bool (!s.data.toList.all isCap)) ∧ Ext w w' := by
  refine (Tryd.strings_ContainsFunc_grows _ #[] Tryd.call52 offCap s w (grows_valid w)).mono fun e w' ⟨h1, h2⟩ => ⟨?_, h2⟩
  have h3 : (fun c : UInt8 => offCap c.toNat) = fun c => !isCap c := funext offCap_eq
  rw [h1, idx_find0 offCap (fun x hx => by simp [offCap]; omega) s, h3, findIdx_any, List.all_eq_not_any_not, Bool.not_not]

end Go.Proofs.YtiacmahfjcolaaaDoor
