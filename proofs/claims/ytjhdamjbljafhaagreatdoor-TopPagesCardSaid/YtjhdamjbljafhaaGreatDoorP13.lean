/- Labels: which strings are labels; label.Valid and the reference's May; anchors. label.Valid, the reference's May, ParseAnchor, Anchor: the walks. -/
import Derived.Test.YtjhdamjbljafhaaGreatDoorP04
import Derived.Test.YtjhdamjbljafhaaGreatDoorP12
import Derived.Shelf.Strings.FuncGrows
namespace Go.Proofs.YtjhdamjbljafhaaGreatDoor
open Go.RowKit
theorem bytesList_inj {a b : ByteArray} (h : a.data.toList = b.data.toList) : a = b := ByteArray.ext (Array.ext' h)
def bstrF (o : List UInt8) : ByteArray := ⟨o.toArray⟩
theorem bstrF_size (o : List UInt8) : (bstrF o).size = o.length := by show o.toArray.size = _; simp
theorem bstrF_list (o : List UInt8) : (bstrF o).data.toList = o := by show o.toArray.toList = _; simp
theorem byte_at {s : ByteArray} {bs : List UInt8} (h : s.data.toList = bs) {k : Nat} (hk : k < s.size) (hb : k < bs.length) : s[k] = bs[k] := by subst h; rfl
theorem bytes_take (s : ByteArray) (k : Nat) : s.extract 0 k = bstrF (s.data.toList.take k) := by
  refine bytesList_inj ?_
  rw [bstrF_list]
  simp only [ByteArray.data_extract, Array.toList_extract]
  rw [List.extract_eq_take_drop, List.drop_zero, Nat.sub_zero]
theorem bytes_drop (s : ByteArray) (k : Nat) : s.extract k s.size = bstrF (s.data.toList.drop k) := by
  refine bytesList_inj ?_
  rw [bstrF_list]
  simp only [ByteArray.data_extract, Array.toList_extract]
  have h : s.data.toList.length = s.size := Array.length_toList
  rw [List.extract_eq_take_drop, ← h, List.take_of_length_le (by simp)]
def isDig (c : UInt8) : Bool := decide (48 ≤ c.toNat) && decide (c.toNat ≤ 57)
def isCap (c : UInt8) : Bool := decide (65 ≤ c.toNat) && decide (c.toNat ≤ 90)
def dcF (l : List UInt8) : Nat := (l.takeWhile isDig).length
def mayL (l : List UInt8) : Bool := decide (1 ≤ dcF l) && decide (dcF l ≤ 4) && !(l.head? == some 48) && decide (l.length - dcF l ≤ 3) && (l.drop (dcF l)).all isCap
def ancB (s : ByteArray) : Bool := (s.data.toList.head? == some 94) && mayL (s.data.toList.drop 1)
def ancT (s : ByteArray) : ByteArray := if ancB s = true then bstrF (s.data.toList.drop 1) else ⟨#[]⟩
theorem dcF_le (l : List UInt8) : dcF l ≤ l.length := by unfold dcF; exact (List.takeWhile_sublist _).length_le
theorem decode_high (s : ByteArray) (pos : Nat) (h : pos < s.size) (ha : 128 ≤ (s[pos]'h).toNat) : 128 ≤ (Utf8.decode s pos).1 := by
  have e : s.get! (pos + 0) = s[pos]'h := by
    show s.get! pos = _
    simp [ByteArray.get!, getElem!_pos, h]
    rfl
  simp only [Utf8.decode, e]
  rw [if_neg (by omega)]
  repeat' split
  all_goals first | (simp [Utf8.runeError]; done) | (simp only; simp_all; omega) | (simp_all [Utf8.runeError] <;> omega)
theorem idx_find (p : Nat → Bool) (hp : ∀ x, 128 ≤ x → p x = true) (s : ByteArray) : ∀ (f pos : Nat), s.size ≤ pos + f → Lib.idxFuncFrom p true s f pos = match (s.data.toList.drop pos).findIdx? (fun c => p c.toNat) with | some j => ((pos + j : Nat) : Int) | none => -1
  | 0, pos, h => by
    have hl : s.data.toList.length = s.size := Array.length_toList
    rw [List.drop_of_length_le (by omega)]
    rfl
  | f + 1, pos, h => by
    have hl : s.data.toList.length = s.size := Array.length_toList
    rw [Lib.idxFuncFrom]
    split
    · rename_i hlt
      have hc : s.data.toList[pos]'(by omega) = s[pos]'hlt := rfl
      rw [List.drop_eq_getElem_cons (by omega), hc, List.findIdx?_cons]
      by_cases ha : (s[pos]'hlt).toNat < 128
      · rw [decode_ascii s pos hlt ha]
        by_cases hq : p (s[pos]'hlt).toNat = true
        · rw [if_pos hq, if_pos hq]; simp
        · rw [if_neg hq, if_neg hq, idx_find p hp s f (pos + 1) (by omega)]
          cases (s.data.toList.drop (pos + 1)).findIdx? (fun c => p c.toNat) with
          | none => rfl
          | some j =>
            show ((pos + 1 + j : Nat) : Int) = ((pos + (j + 1) : Nat) : Int)
            congr 1
            omega
      · rw [if_pos (hp _ (decode_high s pos hlt (by omega))), if_pos (hp _ (by omega))]; simp
    · rename_i hlt
      rw [List.drop_of_length_le (by omega)]
      rfl
theorem idx_find0 (p : Nat → Bool) (hp : ∀ x, 128 ≤ x → p x = true) (s : ByteArray) : Lib.idxFunc p true s = match s.data.toList.findIdx? (fun c => p c.toNat) with | some j => (j : Int) | none => -1 := by
  rw [Lib.idxFunc, idx_find p hp s s.size 0 (by omega), List.drop_zero]
  simp
theorem findIdx_while (q : UInt8 → Bool) : ∀ l : List UInt8, (match l.findIdx? (fun c => !q c) with | some j => (j : Int) | none => -1) = if (l.takeWhile q).length < l.length then ((l.takeWhile q).length : Int) else -1
  | [] => by simp
  | c :: r => by
    have ih := findIdx_while q r
    rw [List.findIdx?_cons, List.takeWhile_cons]
    cases hq : q c with
    | false => simp
    | true =>
      simp only [Bool.not_true, Bool.false_eq_true, if_false, if_true, List.length_cons]
      cases hf : r.findIdx? (fun c => !q c) with
      | none =>
        rw [hf] at ih
        simp only [Option.map_none] at ih ⊢
        split at ih
        · omega
        · rw [if_neg (by omega)]
      | some j =>
        rw [hf] at ih
        simp only [Option.map_some] at ih ⊢
        split at ih
        · rw [if_pos (by omega)]
          show ((j + 1 : Nat) : Int) = _
          omega
        · omega
theorem findIdx_any (q : UInt8 → Bool) (l : List UInt8) : decide ((0 : Int) ≤ match l.findIdx? q with | some j => (j : Int) | none => -1) = l.any q := by
  cases hf : l.findIdx? q with
  | none =>
    rw [List.findIdx?_eq_none_iff] at hf
    rw [Bool.eq_iff_iff]
    simp only [decide_eq_true_eq, List.any_eq_true]
    constructor
    · omega
    · rintro ⟨x, h1, h2⟩
      rw [hf x h1] at h2
      cases h2
  | some j =>
    have h1 : l.any q = true := by
      obtain ⟨h2, h3, h4⟩ := List.findIdx?_eq_some_iff_getElem.1 hf
      exact List.any_eq_true.2 ⟨l[j], List.getElem_mem h2, h3⟩
    rw [h1]
    simp
def offDig (x : Nat) : Bool := decide (x < 48) || decide (57 < x)
def offCap (x : Nat) : Bool := decide (x < 65) || decide (90 < x)
theorem offDig_eq (c : UInt8) : offDig c.toNat = !isDig c := by
  rw [Bool.eq_iff_iff]
  simp only [offDig, isDig, Bool.or_eq_true, decide_eq_true_eq, Bool.not_eq_true', Bool.and_eq_false_iff, decide_eq_false_iff_not]
  omega
theorem offCap_eq (c : UInt8) : offCap c.toNat = !isCap c := by
  rw [Bool.eq_iff_iff]
  simp only [offCap, isCap, Bool.or_eq_true, decide_eq_true_eq, Bool.not_eq_true', Bool.and_eq_false_iff, decide_eq_false_iff_not]
  omega
set_option maxRecDepth 100000 in
theorem parted1_any (x : Nat) (w : World) (hx : x ≤ 1114111) : Calls Tryz.prog 170 #[.int .i32 (x : Nat)] w fun e w' => e = .returned (.bool (offDig x)) ∧ w' = w := by
  by_cases h1 : x < 48
  · have d1 : decide ((x : Int) < 48) = true := decide_eq_true (by omega)
    have hr : offDig x = true := by simp [offDig, h1]
    rw [hr]
    go_enter Tryz.func170, Tryz.ntmps170
    go_wp2
    go_ret
    exact ⟨rfl, rfl⟩
  · have d1 : decide ((x : Int) < 48) = false := decide_eq_false (by omega)
    by_cases h2 : 57 < x
    · have d2 : decide ((x : Int) > 57) = true := decide_eq_true (by omega)
      have hr : offDig x = true := by simp [offDig, h2]
      rw [hr]
      go_enter Tryz.func170, Tryz.ntmps170
      go_wp2
      go_ret
      exact ⟨rfl, rfl⟩
    · have d2 : decide ((x : Int) > 57) = false := decide_eq_false (by omega)
      have hr : offDig x = false := by simp [offDig, h1, h2]
      rw [hr]
      go_enter Tryz.func170, Tryz.ntmps170
      go_wp2
      go_ret
      exact ⟨rfl, rfl⟩
set_option maxRecDepth 100000 in
theorem valid1_any (x : Nat) (w : World) (hx : x ≤ 1114111) : Calls Tryz.prog 136 #[.int .i32 (x : Nat)] w fun e w' => e = .returned (.bool (offCap x)) ∧ w' = w := by
  by_cases h1 : x < 65
  · have d1 : decide ((x : Int) < 65) = true := decide_eq_true (by omega)
    have hr : offCap x = true := by simp [offCap, h1]
    rw [hr]
    go_enter Tryz.func136, Tryz.ntmps136
    go_wp2
    go_ret
    exact ⟨rfl, rfl⟩
  · have d1 : decide ((x : Int) < 65) = false := decide_eq_false (by omega)
    by_cases h2 : 90 < x
    · have d2 : decide ((x : Int) > 90) = true := decide_eq_true (by omega)
      have hr : offCap x = true := by simp [offCap, h2]
      rw [hr]
      go_enter Tryz.func136, Tryz.ntmps136
      go_wp2
      go_ret
      exact ⟨rfl, rfl⟩
    · have d2 : decide ((x : Int) > 90) = false := decide_eq_false (by omega)
      have hr : offCap x = false := by simp [offCap, h1, h2]
      rw [hr]
      go_enter Tryz.func136, Tryz.ntmps136
      go_wp2
      go_ret
      exact ⟨rfl, rfl⟩
theorem grows_parted (w : World) : PredGrows Tryz.prog 170 #[] offDig w := fun W x hx _ => (parted1_any x W hx).mono fun _ _ ⟨h1, h2⟩ => ⟨h1, h2 ▸ Below.refl _ _⟩
theorem grows_valid (w : World) : PredGrows Tryz.prog 136 #[] offCap w := fun W x hx _ => (valid1_any x W hx).mono fun _ _ ⟨h1, h2⟩ => ⟨h1, h2 ▸ Below.refl _ _⟩
theorem indexDig (s : ByteArray) (w : World) : Calls Tryz.prog 169 #[.string s, .func (.func 170) #[] #[]] w fun e w' => e = .returned (.int .i64 (if dcF s.data.toList < s.size then (dcF s.data.toList : Int) else -1)) ∧ Ext w w' := by
  refine (Tryz.strings_IndexFunc_grows _ #[] Tryz.call170 offDig s w (grows_parted w)).mono fun e w' ⟨h1, h2⟩ => ⟨?_, h2⟩
  rw [h1, idx_find0 offDig (fun x hx => by simp [offDig]; omega) s]
  have h3 : (fun c : UInt8 => offDig c.toNat) = fun c => !isDig c := funext offDig_eq
  have hl : s.data.toList.length = s.size := Array.length_toList
  rw [h3, findIdx_while, hl]
  rfl
theorem containsCap (s : ByteArray) (w : World) : Calls Tryz.prog 137 #[.string s, .func (.func 136) #[] #[]] w fun e w' => e = .returned (.bool (!s.data.toList.all isCap)) ∧ Ext w w' := by
  refine (Tryz.strings_ContainsFunc_grows _ #[] Tryz.call136 offCap s w (grows_valid w)).mono fun e w' ⟨h1, h2⟩ => ⟨?_, h2⟩
  have h3 : (fun c : UInt8 => offCap c.toNat) = fun c => !isCap c := funext offCap_eq
  rw [h1, idx_find0 offCap (fun x hx => by simp [offCap]; omega) s, h3, findIdx_any, List.all_eq_not_any_not, Bool.not_not]
end Go.Proofs.YtjhdamjbljafhaaGreatDoor
namespace Go.Proofs.YtjhdamjbljafhaaGreatDoor
open Go.RowKit
theorem ret_int {k : IntKind} {a b : Int} (h : a = b) : Ending.returned (.int k a) = .returned (.int k b) := by rw [h]
theorem bstrF_self (s : ByteArray) : bstrF s.data.toList = s := bytesList_inj (by rw [bstrF_list])
set_option maxRecDepth 100000 in
set_option maxHeartbeats 800000 in
theorem parted_any (s : ByteArray) (w : World) (hs : s.size ≤ 1048576) : Calls Tryz.prog 135 #[.string s] w fun e w' =>
    e = .returned (.tuple #[.string (bstrF (s.data.toList.take (dcF s.data.toList))), .string (bstrF (s.data.toList.drop (dcF s.data.toList)))]) ∧ Ext w w' := by
  have hl : s.data.toList.length = s.size := Array.length_toList
  have hd := dcF_le s.data.toList
  have hi := fun w => indexDig s w
  obtain ⟨d, hdd⟩ : ∃ d, dcF s.data.toList = d := ⟨_, rfl⟩
  rw [hdd] at hd hi ⊢
  by_cases h : d < s.size
  · simp only [if_pos h] at hi
    have Hi := Lib.hid hi
    have E1 := bytes_take s d
    have E2 := bytes_drop s d
    obtain ⟨A, hA⟩ : ∃ A, bstrF (s.data.toList.take d) = A := ⟨_, rfl⟩
    obtain ⟨B, hB⟩ : ∃ B, bstrF (s.data.toList.drop d) = B := ⟨_, rfl⟩
    rw [hA] at E1 ⊢
    rw [hB] at E2 ⊢
    have d1 : decide ((d : Int) < 0) = false := decide_eq_false (by omega)
    have d2 : ((d : Int) ≤ (s.size : Int)) := by omega
    clear hi hdd hl hA hB
    go_enter Tryz.func135, Tryz.ntmps135
    go_wp2_with fail
    refine (Hi.out _).mono ?_
    rintro e w1 ⟨rfl, hx1⟩
    go_wp2
    go_quiet (fail)
    go_wp2
    go_ret2
    exact ⟨rfl, hx1.drewN _⟩
  · simp only [if_neg h] at hi
    have Hi := Lib.hid hi
    have hA : bstrF (s.data.toList.take d) = s := by rw [List.take_of_length_le (by omega), bstrF_self]
    have hB : bstrF (s.data.toList.drop d) = ⟨#[]⟩ := by rw [List.drop_of_length_le (by omega)]; rfl
    rw [hA, hB]
    clear hi hdd hl hA hB
    go_enter Tryz.func135, Tryz.ntmps135
    go_wp2_with fail
    refine (Hi.out _).mono ?_
    rintro e w1 ⟨rfl, hx1⟩
    go_wp2
    go_ret2
    exact ⟨rfl, hx1⟩
set_option maxRecDepth 100000 in
set_option maxHeartbeats 1600000 in
theorem valid_any (s : ByteArray) (w : World) (hs : s.size ≤ 1048576) : Calls Tryz.prog 98 #[.string s] w fun e w' => e = .returned (.bool (mayL s.data.toList)) ∧ Ext w w' := by
  have hl : s.data.toList.length = s.size := Array.length_toList
  have hd := dcF_le s.data.toList
  have Hp := Lib.hid (fun w => parted_any s w hs)
  obtain ⟨l, hll⟩ : ∃ l, s.data.toList = l := ⟨_, rfl⟩
  rw [hll] at Hp hd hl ⊢
  obtain ⟨D, hD⟩ : ∃ D, bstrF (l.take (dcF l)) = D := ⟨_, rfl⟩
  obtain ⟨C, hC⟩ : ∃ C, bstrF (l.drop (dcF l)) = C := ⟨_, rfl⟩
  rw [hD, hC] at Hp
  have hDs : D.size = dcF l := by rw [← hD, bstrF_size, List.length_take]; omega
  have hCs : C.size = l.length - dcF l := by rw [← hC, bstrF_size, List.length_drop]
  have Hc := Lib.hid (fun w => containsCap C w)
  have hCl : C.data.toList = l.drop (dcF l) := by rw [← hC, bstrF_list]
  rw [hCl] at Hc
  have HD := Lib.hid hD
  have HDs := Lib.hid hDs
  have HCs := Lib.hid hCs
  clear hll hD hC hCl
  by_cases n1 : 1 ≤ dcF l
  case neg =>
    have hr : mayL l = false := by simp [mayL, n1]
    rw [hr]
    have d1 : decide ((D.size : Int) ≥ 1) = false := decide_eq_false (by omega)
    clear hr n1 hDs hCs hd
    go_enter Tryz.func98, Tryz.ntmps98
    go_wp2_with fail
    refine (Hp.out _).mono ?_
    rintro e w1 ⟨rfl, hx1⟩
    go_wp2
    go_ret
    exact ⟨rfl, hx1⟩
  have d1 : decide ((D.size : Int) ≥ 1) = true := decide_eq_true (by omega)
  by_cases n2 : dcF l ≤ 4
  case neg =>
    have hr : mayL l = false := by simp [mayL, n2]
    rw [hr]
    have d2 : decide ((D.size : Int) ≤ 4) = false := decide_eq_false (by omega)
    clear hr n1 n2 hDs hCs hd
    go_enter Tryz.func98, Tryz.ntmps98
    go_wp2_with fail
    refine (Hp.out _).mono ?_
    rintro e w1 ⟨rfl, hx1⟩
    go_wp2
    go_ret
    exact ⟨rfl, hx1⟩
  have d2 : decide ((D.size : Int) ≤ 4) = true := decide_eq_true (by omega)
  obtain ⟨c, r, hcr⟩ : ∃ c r, l = c :: r := by
    cases l with
    | nil => simp [dcF] at n1
    | cons c r => exact ⟨c, r, rfl⟩
  have hD0p : 0 < D.size := by omega
  have hD0 : D[0]'hD0p = c := by
    have h1 : D.data.toList = l.take (dcF l) := by rw [← HD.out, bstrF_list]
    rw [byte_at h1 hD0p (by rw [List.length_take]; omega)]
    simp [hcr]
  by_cases n3 : c = 48
  case pos =>
    have hr : mayL l = false := by simp [mayL, hcr, n3]
    rw [hr]
    subst n3
    have d3 : ((UInt8.toNat 48 : Int) != 48) = false := rfl
    clear hr n1 n2 hDs hCs hd hcr
    go_enter Tryz.func98, Tryz.ntmps98
    go_wp2_with fail
    refine (Hp.out _).mono ?_
    rintro e w1 ⟨rfl, hx1⟩
    go_wp2
    go_ret
    exact ⟨rfl, hx1⟩
  have d3 : ((c.toNat : Int) != 48) = true := by
    have : c.toNat ≠ 48 := fun h => n3 (UInt8.toNat_inj.1 h)
    simp only [bne_iff_ne, ne_eq]
    omega
  by_cases n4 : l.length - dcF l ≤ 3
  case neg =>
    have hr : mayL l = false := by simp [mayL, n4]
    rw [hr]
    have d4 : decide ((C.size : Int) ≤ 3) = false := decide_eq_false (by omega)
    clear hr n1 n2 n3 n4 hDs hCs hd hcr
    go_enter Tryz.func98, Tryz.ntmps98
    go_wp2_with fail
    refine (Hp.out _).mono ?_
    rintro e w1 ⟨rfl, hx1⟩
    go_wp2
    go_ret
    exact ⟨rfl, hx1⟩
  have d4 : decide ((C.size : Int) ≤ 3) = true := decide_eq_true (by omega)
  have hr : mayL l = (l.drop (dcF l)).all isCap := by
    have h48 : ((some c == some (48 : UInt8)) = false) := by simp [n3]
    rw [mayL, decide_eq_true n1, decide_eq_true n2, decide_eq_true n4]
    rw [show l.head? = some c by rw [hcr]; rfl, h48]
    simp
  rw [hr]
  obtain ⟨R, hR⟩ : ∃ R, (l.drop (dcF l)).all isCap = R := ⟨_, rfl⟩
  rw [hR] at Hc ⊢
  clear hr n1 n2 n3 n4 hDs hCs hd hcr hR
  go_enter Tryz.func98, Tryz.ntmps98
  go_wp2_with fail
  refine (Hp.out _).mono ?_
  rintro e w1 ⟨rfl, hx1⟩
  go_wp2_with fail
  refine (Hc.out _).mono ?_
  rintro e w2 ⟨rfl, hx2⟩
  go_wp2
  go_ret
  exact ⟨ret_bool (by simp), hx1.trans hx2⟩
theorem dcF_cons (c : UInt8) (r : List UInt8) : dcF (c :: r) = if isDig c = true then dcF r + 1 else 0 := by
  unfold dcF
  rw [List.takeWhile_cons]
  split <;> rfl
set_option maxRecDepth 100000 in
set_option maxHeartbeats 800000 in
theorem digits3_any (s : ByteArray) (w : World) (hs : s.size ≤ 1048576) : Calls Tryz.prog 123 #[.string s] w fun e w' => e = .returned (.int .i64 (dcF s.data.toList)) ∧ w' = w := by
  have hl : s.data.toList.length = s.size := Array.length_toList
  obtain ⟨bs, hbs⟩ : ∃ bs, s.data.toList = bs := ⟨_, rfl⟩
  rw [hbs] at hl ⊢
  have Hbs := Lib.hid hbs
  clear hbs
  go_enter Tryz.func123, Tryz.ntmps123
  go_wp2
  go_loopw [3] (fun vk wr => ∃ k : Nat, k ≤ bs.length ∧ vk = .int .i64 (k : Nat) ∧ Hid (dcF bs = k + dcF (bs.drop k)) ∧ wr = w) (fun vk _ => bs.length - (intOf vk).toNat)
  case atStart => exact ⟨0, Nat.zero_le _, rfl, Lib.hid (by rw [List.drop_zero, Nat.zero_add]), rfl⟩
  case round =>
    obtain ⟨k, hk, rfl, Hk, rfl⟩ := hrel
    by_cases hlt : k < bs.length
    · have hks : k < s.size := by omega
      have hk2 := Hk.out
      rw [List.drop_eq_getElem_cons hlt, dcF_cons] at hk2
      obtain ⟨x, hbx⟩ : ∃ x, bs[k] = x := ⟨_, rfl⟩
      have hsx : s[k] = x := by rw [← hbx]; exact byte_at Hbs.out hks hlt
      rw [hbx] at hk2
      have e1 : decide ((k : Int) < (s.size : Int)) = true := decide_eq_true (by omega)
      have HK := Lib.hid hk2
      clear hbx hk2
      by_cases h1 : 48 ≤ x.toNat
      · have e2 : decide ((x.toNat : Int) ≥ 48) = true := decide_eq_true (by omega)
        by_cases h2 : x.toNat ≤ 57
        · have e3 : decide ((x.toNat : Int) ≤ 57) = true := decide_eq_true (by omega)
          have HK2 := Lib.hid (show dcF bs = (k + 1) + dcF (bs.drop (k + 1)) by
            rw [HK.out, if_pos (by simp [isDig, h1, h2])]; omega)
          clear h1 h2
          go_wp2
          go_roundw
          case rel => exact ⟨k + 1, by omega, by go_num, HK2, trivial⟩
          case measure => simp [intOf] <;> omega
        · have e3 : decide ((x.toNat : Int) ≤ 57) = false := decide_eq_false (by omega)
          have HK2 := Lib.hid (show dcF bs = k by rw [HK.out, if_neg (by simp [isDig, h2]), Nat.add_zero])
          clear h1 h2
          go_wp2
          go_ret
          exact ⟨ret_int (by rw [HK2.out]), rfl⟩
      · have e2 : decide ((x.toNat : Int) ≥ 48) = false := decide_eq_false (by omega)
        have HK2 := Lib.hid (show dcF bs = k by rw [HK.out, if_neg (by simp [isDig, h1]), Nat.add_zero])
        clear h1
        go_wp2
        go_ret
        exact ⟨ret_int (by rw [HK2.out]), rfl⟩
    · obtain rfl : k = bs.length := by omega
      have e1 : decide ((bs.length : Int) < (s.size : Int)) = false := decide_eq_false (by omega)
      have hk2 := Hk.out
      rw [List.drop_of_length_le (Nat.le_refl _)] at hk2
      have HK2 := Lib.hid (show dcF bs = bs.length by rw [hk2]; rfl)
      clear hk2
      go_wp2
      go_ret
      exact ⟨ret_int (by rw [HK2.out]), rfl⟩
set_option maxRecDepth 100000 in
set_option maxHeartbeats 1600000 in
theorem may3_any (s : ByteArray) (w : World) (hs : s.size ≤ 1048576) : Calls Tryz.prog 85 #[.string s] w fun e w' => e = .returned (.bool (mayL s.data.toList)) ∧ w' = w := by
  have hl : s.data.toList.length = s.size := Array.length_toList
  have hd := dcF_le s.data.toList
  have Hp := Lib.hid (fun w => digits3_any s w hs)
  obtain ⟨l, hll⟩ : ∃ l, s.data.toList = l := ⟨_, rfl⟩
  rw [hll] at Hp hd hl ⊢
  have Hll := Lib.hid hll
  obtain ⟨d, hdd⟩ : ∃ d, dcF l = d := ⟨_, rfl⟩
  have Hd := Lib.hid hdd
  rw [hdd] at Hp hd
  clear hll hdd
  by_cases n1 : 1 ≤ d
  case neg =>
    have hr : mayL l = false := by simp [mayL, Hd.out, n1]
    rw [hr]
    have d1 : decide ((d : Int) < 1) = true := decide_eq_true (by omega)
    clear hr n1
    go_enter Tryz.func85, Tryz.ntmps85
    go_wp2_with fail
    refine (Hp.out _).mono ?_
    rintro e w1 ⟨rfl, rfl⟩
    go_wp2
    go_ret
    exact ⟨rfl, rfl⟩
  have d1 : decide ((d : Int) < 1) = false := decide_eq_false (by omega)
  by_cases n2 : d ≤ 4
  case neg =>
    have hr : mayL l = false := by simp [mayL, Hd.out, n2]
    rw [hr]
    have d2 : decide ((d : Int) > 4) = true := decide_eq_true (by omega)
    clear hr n1 n2
    go_enter Tryz.func85, Tryz.ntmps85
    go_wp2_with fail
    refine (Hp.out _).mono ?_
    rintro e w1 ⟨rfl, rfl⟩
    go_wp2
    go_ret
    exact ⟨rfl, rfl⟩
  have d2 : decide ((d : Int) > 4) = false := decide_eq_false (by omega)
  have hs0p : 0 < s.size := by omega
  obtain ⟨c, hc⟩ : ∃ c, l[0]'(by omega) = c := ⟨_, rfl⟩
  have hs0 : s[0]'hs0p = c := by rw [← hc]; exact byte_at Hll.out hs0p (by omega)
  have hh : l.head? = some c := by
    rw [← hc]
    cases l with
    | nil => simp at hl; omega
    | cons => rfl
  by_cases n3 : c = 48
  case pos =>
    have hr : mayL l = false := by simp [mayL, hh, n3]
    rw [hr]
    subst n3
    have d3 : ((UInt8.toNat 48 : Int) == 48) = true := rfl
    clear hr n1 n2 hh hc
    go_enter Tryz.func85, Tryz.ntmps85
    go_wp2_with fail
    refine (Hp.out _).mono ?_
    rintro e w1 ⟨rfl, rfl⟩
    go_wp2
    go_ret
    exact ⟨rfl, rfl⟩
  have d3 : ((c.toNat : Int) == 48) = false := by
    have : c.toNat ≠ 48 := fun h => n3 (UInt8.toNat_inj.1 h)
    simp only [beq_eq_false_iff_ne, ne_eq]
    omega
  by_cases n4 : l.length - d ≤ 3
  case neg =>
    have hr : mayL l = false := by simp [mayL, Hd.out, n4]
    rw [hr]
    have d4 : decide ((s.size : Int) - (d : Int) > 3) = true := decide_eq_true (by omega)
    clear hr n1 n2 n3 n4 hh hc
    go_enter Tryz.func85, Tryz.ntmps85
    go_wp2_with fail
    refine (Hp.out _).mono ?_
    rintro e w1 ⟨rfl, rfl⟩
    go_wp2
    go_ret
    exact ⟨rfl, rfl⟩
  have d4 : decide ((s.size : Int) - (d : Int) > 3) = false := decide_eq_false (by omega)
  have hr : mayL l = (l.drop d).all isCap := by
    have h48 : ((some c == some (48 : UInt8)) = false) := by simp [n3]
    rw [mayL, Hd.out, decide_eq_true n1, decide_eq_true n2, decide_eq_true n4, hh, h48]
    simp
  rw [hr]
  clear hr n1 n2 n3 n4 hh hc
  obtain ⟨R, hR⟩ : ∃ R, (l.drop d).all isCap = R := ⟨_, rfl⟩
  rw [hR]
  have HR := Lib.hid hR
  clear hR
  go_enter Tryz.func85, Tryz.ntmps85
  go_wp2_with fail
  refine (Hp.out _).mono ?_
  rintro e w1 ⟨rfl, rfl⟩
  go_wp2
  go_loopw [4] (fun vk wr => ∃ k : Nat, k ≤ l.length ∧ vk = .int .i64 (k : Nat) ∧ Hid ((l.drop k).all isCap = R) ∧ wr = w1) (fun vk _ => l.length - (intOf vk).toNat)
  case atStart => exact ⟨d, by omega, rfl, HR, rfl⟩
  case round =>
    obtain ⟨k, hk, rfl, Hk, rfl⟩ := hrel
    by_cases hlt : k < l.length
    · have hks : k < s.size := by omega
      have hk2 := Hk.out
      rw [List.drop_eq_getElem_cons hlt, List.all_cons] at hk2
      obtain ⟨x, hbx⟩ : ∃ x, l[k] = x := ⟨_, rfl⟩
      have hsx : s[k] = x := by rw [← hbx]; exact byte_at Hll.out hks hlt
      rw [hbx] at hk2
      have e1 : decide ((k : Int) < (s.size : Int)) = true := decide_eq_true (by omega)
      have HK := Lib.hid hk2
      clear hbx hk2
      by_cases h1 : 65 ≤ x.toNat
      · have e2 : decide ((x.toNat : Int) < 65) = false := decide_eq_false (by omega)
        by_cases h2 : x.toNat ≤ 90
        · have e3 : decide ((x.toNat : Int) > 90) = false := decide_eq_false (by omega)
          have HK2 := Lib.hid (show (l.drop (k + 1)).all isCap = R by
            rw [← HK.out, show isCap x = true by simp [isCap, h1, h2], Bool.true_and])
          clear h1 h2
          go_wp2
          go_roundw
          case rel => exact ⟨k + 1, by omega, by go_num, HK2, trivial⟩
          case measure => simp [intOf] <;> omega
        · have e3 : decide ((x.toNat : Int) > 90) = true := decide_eq_true (by omega)
          have HK2 := Lib.hid (show R = false by rw [← HK.out, show isCap x = false by simp [isCap, h2], Bool.false_and])
          clear h1 h2
          go_wp2
          go_ret
          exact ⟨ret_bool (by rw [HK2.out]), rfl⟩
      · have e2 : decide ((x.toNat : Int) < 65) = true := decide_eq_true (by omega)
        have HK2 := Lib.hid (show R = false by rw [← HK.out, show isCap x = false by simp [isCap, h1], Bool.false_and])
        clear h1
        go_wp2
        go_ret
        exact ⟨ret_bool (by rw [HK2.out]), rfl⟩
    · obtain rfl : k = l.length := by omega
      have e1 : decide ((l.length : Int) < (s.size : Int)) = false := decide_eq_false (by omega)
      have hk2 := Hk.out
      rw [List.drop_of_length_le (Nat.le_refl _), List.all_nil] at hk2
      have HK2 := Lib.hid hk2
      clear hk2
      go_wp2
      go_ret
      exact ⟨ret_bool (by rw [← HK2.out]), rfl⟩
end Go.Proofs.YtjhdamjbljafhaaGreatDoor
