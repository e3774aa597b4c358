/- Texts, Strings: the texts of words; the reference's Mark; Clone of integers; chosen, places, held. -/
import Derived.Test.YtkbmocgjbhmioaaFind
import Derived.Test.YtkbmocgjbhmioaaMark
namespace Go.Proofs.Ytkbmocgjbhmioaa
open Go.RowKit

set_option maxRecDepth 100000 in
set_option maxHeartbeats 400000 in
theorem refMark_any (A : Option Addr) (c : Nat) (l : List ByteArray) (act item from_ : Int) (w : World) (hs : Sl strEl w A l) (hn : l.length ≤ 1048576) (h1 : -2199023255552 ≤ from_) (h2 : from_ ≤ 2199023255552) :
    Calls Try.prog 17 #[.slice A l.length c, .int .i64 act, .int .i64 item, .int .i64 from_] w fun e w' => ∃ v, e = .returned v ∧ Own wordEl w.heap.size w' v (markF act item from_ l) ∧ Ext w w' := by
  go_enter Try.func17, Try.ntmps17
  go_wp2
  go_loopw [9, 10] (fun out i wr => ∃ k : Nat, k ≤ l.length ∧ i = .int .i64 k ∧ Own wordEl w.heap.size wr out (markF act item from_ (l.take k)) ∧ Ext w wr) (fun _ i _ => l.length - (intOf i).toNat)
  case atStart => exact ⟨0, Nat.zero_le _, rfl, Own.made wordEl (Nat.le_refl _), (Ext.refl _).alloc _⟩
  case round =>
    obtain ⟨k, hk, rfl, hown, hext⟩ := hrel
    by_cases hlt : k < l.length
    · obtain ⟨b, off, rfl, hb, hc⟩ := strAt hs hlt
      have hcr := (hext.cell (p := ⟨b, off + k, none⟩) hb).trans hc
      have hsz := hext.size
      obtain ⟨s, hsk⟩ : ∃ s, l[k] = s := ⟨_, rfl⟩
      rw [hsk] at hcr
      have Hs := Lib.hid hsk
      clear hc hsk
      have hc1 : (markF act item from_ (l.take k)).length + 1 ≤ 68719476736 := by rw [markF_length, List.length_take]; omega
      go_wp2_with (at_builtin; refine wpList_app wordEl rfl _ _ rfl 1 rfl (hown.ext (Ext.alloc (Ext.refl _) _)) (ys := [⟨s, act, item, from_ + k⟩]) rfl (Sl.new wordEl rfl) hc1 (by simp; omega) ?_; intro v' w1 hown' hb1 hg1)
      have hext' : Ext w w1 := (hext.alloc _).trans' hb1
      go_wp2
      go_roundw
      case rel => exact ⟨k + 1, by omega, by go_num, by rw [markF_take _ _ _ _ _ hlt, Hs.out]; exact hown', hext'⟩
      case measure => simp [intOf]; omega
    · obtain rfl : k = l.length := by omega
      rw [List.take_length] at hown
      go_wp2
      go_ret
      exact ⟨_, rfl, hown, hext⟩

set_option maxRecDepth 100000 in
set_option maxHeartbeats 400000 in
theorem texts_any (A : Option Addr) (c : Nat) (l : List GWord) (w : World) (hs : Sl wordEl w A l) (hn : l.length ≤ 1048576) :
    Calls Try.prog 30 #[.slice A l.length c] w fun e w' => ∃ v, e = .returned v ∧ Own strEl w.heap.size w' v (l.map GWord.t) ∧ Ext w w' := by
  go_enter Try.func30, Try.ntmps30
  go_wp2
  go_loopw [3, 4] (fun out i wr => ∃ k : Nat, k ≤ l.length ∧ i = .int .i64 k ∧ Own strEl w.heap.size wr out ((l.take k).map GWord.t) ∧ Ext w wr) (fun _ i _ => l.length - (intOf i).toNat)
  case atStart => exact ⟨0, Nat.zero_le _, rfl, Own.made strEl (Nat.le_refl _), (Ext.refl _).alloc _⟩
  case round =>
    obtain ⟨k, hk, rfl, hown, hext⟩ := hrel
    by_cases hlt : k < l.length
    · obtain ⟨b, off, rfl, hb, hc, _, _, _⟩ := wordAt hs hlt
      have hcr := (hext.cell (p := ⟨b, off + k * 4, none⟩) hb).trans hc
      have hsz := hext.size
      obtain ⟨s, hsk⟩ : ∃ s, l[k].t = s := ⟨_, rfl⟩
      rw [hsk] at hcr
      have Hs := Lib.hid hsk
      clear hc hsk
      have hc1 : ((l.take k).map GWord.t).length + 1 ≤ 68719476736 := by rw [List.length_map, List.length_take]; omega
      go_wp2_with (at_builtin; refine wpList_app strEl rfl _ _ rfl 1 rfl (hown.ext (Ext.alloc (Ext.refl _) _)) (ys := [s]) rfl (Sl.new strEl rfl) hc1 (by simp; omega) ?_; intro v' w1 hown' hb1 hg1)
      have hext' : Ext w w1 := (hext.alloc _).trans' hb1
      go_wp2
      go_roundw
      case rel => exact ⟨k + 1, by omega, by go_num, by rw [map_take_succ _ _ _ hlt, Hs.out]; exact hown', hext'⟩
      case measure => simp [intOf]; omega
    · obtain rfl : k = l.length := by omega
      rw [List.take_length] at hown
      go_wp2
      go_ret
      exact ⟨_, rfl, hown, hext⟩

set_option maxRecDepth 100000 in
set_option maxHeartbeats 400000 in
theorem strings_any (A : Option Addr) (c : Nat) (l : List GWord) (w : World) (hs : Sl wordEl w A l) (hn : l.length ≤ 1048576) :
    Calls Try.prog 20 #[.slice A l.length c] w fun e w' => ∃ v, e = .returned v ∧ Own strEl w.heap.size w' v (l.map GWord.t) ∧ Ext w w' := by
  go_enter Try.func20, Try.ntmps20
  go_wp2
  go_loopw [3, 8] (fun out i wr => ∃ k : Nat, k ≤ l.length ∧ i = .int .i64 k ∧ Own strEl w.heap.size wr out ((l.take k).map GWord.t) ∧ Ext w wr) (fun _ i _ => l.length - (intOf i).toNat)
  case atStart => exact ⟨0, Nat.zero_le _, rfl, Own.nil _, Ext.refl _⟩
  case round =>
    obtain ⟨k, hk, rfl, hown, hext⟩ := hrel
    by_cases hlt : k < l.length
    · obtain ⟨b, off, rfl, hb, hc, hc1, hc2, hc3⟩ := wordAt hs hlt
      have hcr := (hext.cell (p := ⟨b, off + k * 4, none⟩) hb).trans hc
      have hcr1 := (hext.cell (p := ⟨b, off + k * 4 + 1, none⟩) hb).trans hc1
      have hcr2 := (hext.cell (p := ⟨b, off + k * 4 + 2, none⟩) hb).trans hc2
      have hcr3 := (hext.cell (p := ⟨b, off + k * 4 + 3, none⟩) hb).trans hc3
      have hsz := hext.size
      obtain ⟨x, hxk⟩ : ∃ x, l[k] = x := ⟨_, rfl⟩
      rw [hxk] at hcr hcr1 hcr2 hcr3
      have Hs := Lib.hid hxk
      clear hc hc1 hc2 hc3 hxk
      have hc1 : ((l.take k).map GWord.t).length + 1 ≤ 68719476736 := by rw [List.length_map, List.length_take]; omega
      go_wp2_with (at_builtin; refine wpList_app strEl rfl _ _ rfl 1 rfl (hown.ext (((Ext.refl _).alloc _).alloc _)) (ys := [x.t]) rfl (Sl.new' strEl (by simp) rfl) hc1 (by simp; omega) ?_; intro v' w1 hown' hb1 hg1)
      have hext' : Ext w w1 := ((hext.alloc _).alloc _).trans' hb1
      go_wp2
      go_roundw
      case rel => exact ⟨k + 1, by omega, by go_num, by rw [map_take_succ _ _ _ hlt, Hs.out]; exact hown', hext'⟩
      case measure => simp [intOf]; omega
    · obtain rfl : k = l.length := by omega
      rw [List.take_length] at hown
      go_wp2
      go_ret
      exact ⟨_, rfl, hown, hext⟩

set_option maxRecDepth 100000 in
set_option maxHeartbeats 400000 in
theorem cloneInt_any (A : Option Addr) (c : Nat) (l : List Int) (w : World) (hs : Sl intEl w A l) (hn : l.length ≤ 1048576) :
    Calls Try.prog 42 #[.slice A l.length c] w (RetOwn intEl w l) := by
  have hq := fun W => Lib.run_eql_slice_nil (P := Try.prog) W 63 3 A l.length c 0 0 Try.underlying63
  cases A with
  | none =>
    have h0 : l = [] := by
      cases l with
      | nil => rfl
      | cons x l => obtain ⟨_, _, h, _⟩ := hs (by simp); cases h
    subst h0
    simp only [List.length_nil] at hq
    go_enter Try.func42, Try.ntmps42
    go_wp2
    go_ret
    exact ⟨_, rfl, Own.nil _, Ext.refl _⟩
  | some ad =>
    go_enter Try.func42, Try.ntmps42
    go_wp2_with (at_builtin; refine wpList_app intEl rfl _ _ rfl c rfl (Own.made intEl (Nat.le_refl _)) rfl (hs.ext ((Ext.refl _).alloc _)) (by simp; omega) (by simp) ?_; intro v' w1 hown' hb1 hg1)
    go_ret
    exact ⟨_, rfl, hown', ((Ext.refl _).alloc _).trans' hb1⟩

/-- the nth of the places, or all of them, as the reference and the program choose -/
def chosenF (l : List Int) (nth : Int) : List Int := if nth = 0 then l else if nth < 0 then [] else (l.drop (nth - 1).toNat).take 1
theorem chosenF_length (l : List Int) (nth : Int) : (chosenF l nth).length ≤ l.length := by
  unfold chosenF
  split
  · omega
  · split
    · simp
    · simp; omega
theorem chosenF_past {l : List Int} {nth : Int} (h : (l.length : Int) < nth) : chosenF l nth = [] := by
  unfold chosenF
  rw [if_neg (by omega), if_neg (by omega), List.drop_eq_nil_of_le (by omega), List.take_nil]

set_option maxRecDepth 100000 in
set_option maxHeartbeats 400000 in
theorem chosen_any (A : Option Addr) (c : Nat) (l : List Int) (nth : Int) (w : World) (hs : Sl intEl w A l) (hn : l.length ≤ 1048576) (hc : l.length ≤ c) :
    Calls Try.prog 38 #[.slice A l.length c, .int .i64 nth] w (RetSl intEl w (chosenF l nth)) := by
  by_cases h0 : nth = 0
  · subst h0
    go_enter Try.func38, Try.ntmps38
    go_wp2
    go_ret
    rw [show chosenF l 0 = l from rfl]
    exact ⟨_, _, rfl, hc, hs, Ext.refl _⟩
  · have hb : (nth == 0) = false := beq_eq_false_iff_ne.2 h0
    by_cases h1 : nth < 0
    · have e1 : chosenF l nth = [] := by unfold chosenF; rw [if_neg h0, if_pos h1]
      rw [e1]
      clear h0
      go_enter Try.func38, Try.ntmps38
      go_wp2
      go_ret
      exact ⟨_, _, rfl, Nat.le_refl _, Sl.nil, Ext.refl _⟩
    · by_cases h2 : (l.length : Int) < nth
      · rw [chosenF_past h2]
        clear h0
        go_enter Try.func38, Try.ntmps38
        go_wp2
        go_ret
        exact ⟨_, _, rfl, Nat.le_refl _, Sl.nil, Ext.refl _⟩
      · obtain ⟨n, rfl⟩ : ∃ n : Nat, nth = (n : Int) + 1 := ⟨(nth - 1).toNat, by omega⟩
        have e1 : chosenF l ((n : Int) + 1) = (l.drop n).take (n + 1 - n) := by
          unfold chosenF
          rw [if_neg (by omega), if_neg (by omega)]
          rw [show ((n : Int) + 1 - 1).toNat = n from by omega, show n + 1 - n = 1 from by omega]
        rw [e1]
        clear h0 e1
        go_enter Try.func38, Try.ntmps38
        go_wp2_with (refine wpList_sl intEl rfl _ _ _ rfl rfl _ _ rfl rfl hs n (n + 1) (by omega) (by omega) (by omega) (by omega) hc ?_; intro A1 ys c1 Hy hl1 hs1)
        go_ret
        have e2 := Hy.out
        rw [Nat.add_sub_cancel_left] at e2
        rw [← e2]
        exact ⟨_, _, rfl, hl1, hs1, Ext.refl _⟩

set_option maxRecDepth 100000 in
set_option maxHeartbeats 400000 in
theorem held_yes (A : Option Addr) (c : Nat) (l : List GWord) (w : World) (h : l.length ≤ 256) :
    Calls Try.prog 40 #[.slice A l.length c] w fun e w' => e = .returned (.tuple #[.slice A l.length c, .int .i64 0]) ∧ w = w' := by
  go_enter Try.func40, Try.ntmps40
  go_wp2
  go_ret2
  exact ⟨rfl, rfl⟩
set_option maxRecDepth 100000 in
theorem held_no (A : Option Addr) (c : Nat) (l : List GWord) (w : World) (h : 256 < l.length) :
    Calls Try.prog 40 #[.slice A l.length c] w fun e w' => e = .returned (.tuple #[.slice none 0 0, .int .i64 6]) ∧ w = w' := by
  go_enter Try.func40, Try.ntmps40
  go_wp2
  go_ret2
  exact ⟨rfl, rfl⟩

set_option maxRecDepth 100000 in
set_option maxHeartbeats 800000 in
theorem places_any (A B : Option Addr) (c d : Nat) (l : List GWord) (part : List ByteArray) (nth : Int) (w : World) (hs : Sl wordEl w A l) (hy : Sl strEl w B part) (hn : l.length ≤ 1048576) (hm : part.length ≤ 1048576) (h0 : 0 ≤ nth) :
    Calls Try.prog 36 #[.slice A l.length c, .slice B part.length d, .int .i64 nth] w (RetSl intEl w (chosenF (findF (l.map GWord.t) part) nth)) := by
  have hfl := findF_length (l.map GWord.t) part
  rw [List.length_map] at hfl
  obtain ⟨P0, hP⟩ : ∃ P0, findF (l.map GWord.t) part = P0 := ⟨_, rfl⟩
  rw [hP] at hfl ⊢
  have HP := Lib.hid hP
  clear hP
  obtain ⟨T0, hT⟩ : ∃ T0, l.map GWord.t = T0 := ⟨_, rfl⟩
  have hTl : T0.length ≤ 1048576 := by rw [← hT, List.length_map]; exact hn
  have HT := Lib.hid hT
  clear hT
  have arms : ∀ (w1 w2 : World) (A1 : Option Addr) (c1 : Nat), True := fun _ _ _ _ => trivial
  by_cases h1 : nth = 0
  · subst h1
    go_enter Try.func36, Try.ntmps36
    go_wp2_with fail
    refine (strings_any _ _ _ _ hs hn).mono ?_
    rintro e w1 ⟨v1, rfl, hown1, hext1⟩
    obtain ⟨A1, c1, rfl, hc1, hs1⟩ := hown1.form
    rw [HT.out] at hs1 hc1 ⊢
    clear hown1
    go_wp2_with fail
    refine (findAll_any _ _ _ _ _ _ _ hs1 (hy.ext hext1) hTl hm hc1).mono ?_
    rintro e w2 ⟨v2, rfl, hown2, hext2⟩
    obtain ⟨A2, c2, rfl, hc2, hs2⟩ := hown2.form
    rw [← HT.out, HP.out] at hs2 hc2 ⊢
    clear hown2
    go_wp2
    go_ret
    rw [show chosenF P0 0 = P0 from rfl]
    exact ⟨_, _, rfl, hc2, hs2, hext1.trans hext2⟩
  · have hb : (nth == 0) = false := beq_eq_false_iff_ne.2 h1
    by_cases h2 : (P0.length : Int) < nth
    · rw [chosenF_past h2]
      clear h1
      go_enter Try.func36, Try.ntmps36
      go_wp2_with fail
      refine (strings_any _ _ _ _ hs hn).mono ?_
      rintro e w1 ⟨v1, rfl, hown1, hext1⟩
      obtain ⟨A1, c1, rfl, hc1, hs1⟩ := hown1.form
      rw [HT.out] at hs1 hc1 ⊢
      clear hown1
      go_wp2_with fail
      refine (findAll_any _ _ _ _ _ _ _ hs1 (hy.ext hext1) hTl hm hc1).mono ?_
      rintro e w2 ⟨v2, rfl, hown2, hext2⟩
      obtain ⟨A2, c2, rfl, hc2, hs2⟩ := hown2.form
      rw [← HT.out, HP.out] at hs2 hc2 ⊢
      clear hown2
      go_wp2
      go_ret
      exact ⟨_, _, rfl, Nat.le_refl _, Sl.nil, hext1.trans hext2⟩
    · obtain ⟨n, rfl⟩ : ∃ n : Nat, nth = (n : Int) + 1 := ⟨(nth - 1).toNat, by omega⟩
      have e1 : chosenF P0 ((n : Int) + 1) = (P0.drop n).take (n + 1 - n) := by
        unfold chosenF
        rw [if_neg (by omega), if_neg (by omega)]
        rw [show ((n : Int) + 1 - 1).toNat = n from by omega, show n + 1 - n = 1 from by omega]
      rw [e1]
      clear h1 e1
      go_enter Try.func36, Try.ntmps36
      go_wp2_with fail
      refine (strings_any _ _ _ _ hs hn).mono ?_
      rintro e w1 ⟨v1, rfl, hown1, hext1⟩
      obtain ⟨A1, c1, rfl, hc1, hs1⟩ := hown1.form
      rw [HT.out] at hs1 hc1 ⊢
      clear hown1
      go_wp2_with fail
      refine (findAll_any _ _ _ _ _ _ _ hs1 (hy.ext hext1) hTl hm hc1).mono ?_
      rintro e w2 ⟨v2, rfl, hown2, hext2⟩
      obtain ⟨A2, c2, rfl, hc2, hs2⟩ := hown2.form
      rw [← HT.out, HP.out] at hs2 hc2 ⊢
      clear hown2
      go_wp2_with (refine wpList_sl intEl rfl _ _ _ rfl rfl _ _ rfl rfl hs2 n (n + 1) (by omega) (by omega) (by omega) (by omega) hc2 ?_; intro A3 ys c3 Hy hl3 hs3)
      go_ret
      rw [← Hy.out]
      exact ⟨_, _, rfl, hl3, hs3, hext1.trans hext2⟩

end Go.Proofs.Ytkbmocgjbhmioaa
