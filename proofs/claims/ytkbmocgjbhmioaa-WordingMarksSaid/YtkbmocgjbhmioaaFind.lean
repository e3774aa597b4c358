/- Find, FindAll, Stands: the indices of all occurrences of a part in a list, from the left and without overlaps. -/
import Derived.Test.YtkbmocgjbhmioaaSame
namespace Go.Proofs.Ytkbmocgjbhmioaa
open Go.RowKit

/-- part stands in l at i -/
def stands (l part : List ByteArray) (i : Nat) : Prop := i + part.length ≤ l.length ∧ (l.drop i).take part.length = part
instance (l part : List ByteArray) (i : Nat) : Decidable (stands l part i) := inferInstanceAs (Decidable (_ ∧ _))
def occ (l part : List ByteArray) : Nat → Nat → List Int
  | 0, _ => []
  | f + 1, i => if stands l part i then (i : Int) :: occ l part f (i + part.length) else occ l part f (i + 1)
def findF (l part : List ByteArray) : List Int := if part = [] then [] else occ l part (l.length + 1) 0
theorem occ_end (l part : List ByteArray) : ∀ (f i : Nat), l.length < i + part.length → occ l part f i = []
  | 0, _, _ => rfl
  | f + 1, i, h => by
    rw [occ, if_neg (fun hs => by have := hs.1; omega)]
    exact occ_end l part f (i + 1) (by omega)
theorem occ_yes {l part : List ByteArray} {f i : Nat} (h : stands l part i) (hf : l.length < f + i) (hp : 0 < part.length) : ∃ f', l.length < f' + (i + part.length) ∧ occ l part f i = (i : Int) :: occ l part f' (i + part.length) := by
  have := h.1
  obtain ⟨f', rfl⟩ : ∃ f', f = f' + 1 := ⟨f - 1, by omega⟩
  exact ⟨f', by omega, by rw [occ, if_pos h]⟩
theorem occ_no {l part : List ByteArray} {f i : Nat} (h : ¬ stands l part i) (hf : l.length < f + i) (hi : i < l.length) : ∃ f', l.length < f' + (i + 1) ∧ occ l part f i = occ l part f' (i + 1) := by
  obtain ⟨f', rfl⟩ : ∃ f', f = f' + 1 := ⟨f - 1, by omega⟩
  exact ⟨f', by omega, by rw [occ, if_neg h]⟩
theorem occ_length (l part : List ByteArray) (hp : 0 < part.length) : ∀ (f i : Nat), i ≤ l.length → (occ l part f i).length ≤ l.length - i
  | 0, _, _ => by simp [occ]
  | f + 1, i, h => by
    rw [occ]
    split
    · rename_i hs
      have := occ_length l part hp f (i + part.length) hs.1
      have := hs.1
      simp only [List.length_cons]
      omega
    · rcases Nat.lt_or_ge i l.length with h1 | h1
      · have := occ_length l part hp f (i + 1) (by omega)
        omega
      · rw [occ_end l part f (i + 1) (by omega)]; simp
theorem findF_length (l part : List ByteArray) : (findF l part).length ≤ l.length := by
  unfold findF
  split
  · simp
  · rename_i h
    have := occ_length l part (List.length_pos_iff.2 h) (l.length + 1) 0 (Nat.zero_le _)
    omega

set_option maxRecDepth 100000 in
set_option maxHeartbeats 400000 in
theorem stands_any (A B : Option Addr) (c d : Nat) (l part : List ByteArray) (i : Nat) (w : World) (hx : Sl strEl w A l) (hy : Sl strEl w B part) (hn : l.length ≤ 1048576) (hm : part.length ≤ 1048576) (hi : i ≤ 1048576) (hc : l.length ≤ c) :
    Calls Try.prog 61 #[.slice A l.length c, .slice B part.length d, .int .i64 i] w fun e w' => e = .returned (.bool (decide (stands l part i))) ∧ ∃ m, w' = w.drewN m := by
  by_cases h : i + part.length ≤ l.length
  · go_enter Try.func61, Try.ntmps61
    go_wp2_with (first | (refine wpList_sl strEl rfl _ _ _ rfl rfl _ _ rfl rfl hx i (i + part.length) (by omega) (by omega) (by omega) h hc ?_; intro A1 ys c1 Hy hl1 hs1) | (go_at_call 21; refine (same_any _ _ _ _ _ _ _ hs1 hy (by rw [Hy.out]; simp; omega)).mono ?_; rintro e w' ⟨rfl, m, rfl⟩))
    go_ret
    refine ⟨ret_bool ?_, _, rfl⟩
    have e := Hy.out
    rw [show i + part.length - i = part.length from by omega] at e
    rw [e]
    simp [stands, h]
  · go_enter Try.func61, Try.ntmps61
    go_wp2
    go_ret
    exact ⟨ret_bool (by simp [stands, h]), 0, rfl⟩

set_option maxRecDepth 100000 in
set_option maxHeartbeats 400000 in
theorem find_any (A B : Option Addr) (c d : Nat) (l part : List ByteArray) (w : World) (hx : Sl strEl w A l) (hy : Sl strEl w B part) (hn : l.length ≤ 1048576) (hm : part.length ≤ 1048576) (hc : l.length ≤ c) :
    Calls Try.prog 39 #[.slice A l.length c, .slice B part.length d] w fun e w' => ∃ v, e = .returned v ∧ Own intEl w.heap.size w' v (findF l part) ∧ Ext w w' := by
  by_cases hp : part.length = 0
  · have hp0 : part = [] := List.eq_nil_of_length_eq_zero hp
    subst hp0
    go_enter Try.func39, Try.ntmps39
    go_wp2
    go_ret
    exact ⟨_, rfl, by rw [show findF l [] = [] from by simp [findF]]; exact Own.made intEl (Nat.le_refl _), (Ext.refl _).alloc _⟩
  · have hpp : 0 < part.length := by omega
    have hpb : ((part.length : Int) == 0) = false := beq_eq_false_iff_ne.2 (by omega)
    have hf : findF l part = occ l part (l.length + 1) 0 := by unfold findF; rw [if_neg (by rintro rfl; simp at hp)]
    have Hf := Lib.hid hf
    clear hf hp
    go_enter Try.func39, Try.ntmps39
    go_wp2
    go_loopw [5, 6] (fun out i wr => ∃ (k f : Nat) (acc : List Int), k ≤ l.length ∧ i = .int .i64 k ∧ acc.length ≤ k ∧ l.length < f + k ∧ Hid (findF l part = acc ++ occ l part f k) ∧ Own intEl w.heap.size wr out acc ∧ Ext w wr) (fun _ i _ => l.length - (intOf i).toNat)
    case atStart => exact ⟨0, l.length + 1, [], Nat.zero_le _, rfl, Nat.le_refl _, by omega, by simpa [Hid] using Hf.out, Own.made intEl (Nat.le_refl _), (Ext.refl _).alloc _⟩
    case round =>
      obtain ⟨k, f, acc, hk, rfl, hak, hfk, Hacc, hown, hext⟩ := hrel
      have hsz := hext.size
      by_cases hlt : k < l.length
      · by_cases hst : stands l part k
        · have hstb : decide (stands l part k) = true := decide_eq_true hst
          have hkp := hst.1
          obtain ⟨f', hf', hocc⟩ := occ_yes hst hfk hpp
          have Hocc := Lib.hid hocc
          clear hocc
          go_wp2_with (first | (go_at_call 61; refine (stands_any _ _ _ _ _ _ _ _ (hx.ext hext) (hy.ext hext) hn hm (by omega) hc).mono ?_; rintro e w' ⟨rfl, m, rfl⟩) |
            (at_builtin; refine wpList_app intEl rfl _ _ rfl 1 rfl (hown.ext (Ext.alloc (Ext.drewN (Ext.refl _) _) _)) (ys := [(k : Int)]) rfl (Sl.new intEl rfl) (by simp; omega) (by simp; omega) ?_; intro v' w1 hown' hb1 hg1))
          have hext' : Ext w w1 := ((hext.drewN _).alloc _).trans' hb1
          go_wp2
          go_roundw
          case rel => exact ⟨k + part.length, f', acc ++ [(k : Int)], hkp, by go_num, by simp; omega, hf', by unfold Hid; rw [Hacc.out, Hocc.out]; simp, hown', hext'⟩
          case measure => simp [intOf]; omega
        · have hstb : decide (stands l part k) = false := decide_eq_false hst
          obtain ⟨f', hf', hocc⟩ := occ_no hst hfk hlt
          have Hocc := Lib.hid hocc
          clear hocc
          go_wp2_with (go_at_call 61; refine (stands_any _ _ _ _ _ _ _ _ (hx.ext hext) (hy.ext hext) hn hm (by omega) hc).mono ?_; rintro e w' ⟨rfl, m, rfl⟩)
          go_roundw
          case rel => exact ⟨k + 1, f', acc, hlt, by go_num, by omega, hf', by unfold Hid; rw [Hacc.out, Hocc.out], hown.ext ((Ext.refl _).drewN _), hext.drewN _⟩
          case measure => simp [intOf]; omega
      · obtain rfl : k = l.length := by omega
        go_wp2
        go_ret
        refine ⟨_, rfl, ?_, hext⟩
        rw [Hacc.out, occ_end l part f l.length (by omega), List.append_nil]
        exact hown

set_option maxRecDepth 100000 in
set_option maxHeartbeats 800000 in
theorem findAll_any (A B : Option Addr) (c d : Nat) (l part : List ByteArray) (w : World) (hx : Sl strEl w A l) (hy : Sl strEl w B part) (hn : l.length ≤ 1048576) (hm : part.length ≤ 1048576) (hc : l.length ≤ c) :
    Calls Try.prog 43 #[.slice A l.length c, .slice B part.length d] w fun e w' => ∃ v, e = .returned v ∧ Own intEl w.heap.size w' v (findF l part) ∧ Ext w w' := by
  by_cases hp : part.length = 0
  · have hp0 : part = [] := List.eq_nil_of_length_eq_zero hp
    subst hp0
    go_enter Try.func43, Try.ntmps43
    go_wp2
    go_ret
    exact ⟨_, rfl, by rw [show findF l [] = [] from by simp [findF]]; exact Own.nil _, Ext.refl _⟩
  · have hpp : 0 < part.length := by omega
    have hpb : ((part.length : Int) == 0) = false := beq_eq_false_iff_ne.2 (by omega)
    have hf : findF l part = occ l part (l.length + 1) 0 := by unfold findF; rw [if_neg (by rintro rfl; simp at hp)]
    have Hf := Lib.hid hf
    clear hf hp
    go_enter Try.func43, Try.ntmps43
    go_wp2
    go_loopw [5, 6] (fun out i wr => ∃ (k f : Nat) (acc : List Int), k ≤ l.length ∧ i = .int .i64 k ∧ acc.length ≤ k ∧ l.length < f + k ∧ Hid (findF l part = acc ++ occ l part f k) ∧ Own intEl w.heap.size wr out acc ∧ Ext w wr) (fun _ i _ => l.length - (intOf i).toNat)
    case atStart => exact ⟨0, l.length + 1, [], Nat.zero_le _, rfl, Nat.le_refl _, by omega, by simpa [Hid] using Hf.out, Own.nil _, Ext.refl _⟩
    case round =>
      obtain ⟨k, f, acc, hk, rfl, hak, hfk, Hacc, hown, hext⟩ := hrel
      have hsz := hext.size
      by_cases hlt : k + part.length ≤ l.length
      · obtain ⟨ys, hys⟩ : ∃ ys, ys = (l.drop k).take part.length := ⟨_, rfl⟩
        by_cases hst : stands l part k
        · have hkp := hst.1
          obtain ⟨f', hf', hocc⟩ := occ_yes hst hfk hpp
          have Hocc := Lib.hid hocc
          clear hocc
          go_wp2_with (first | (refine wpList_sl strEl rfl _ _ _ rfl rfl _ _ rfl rfl (hx.ext hext) k (k + part.length) (by omega) (by omega) (by omega) hlt hc ?_; intro A1 ys c1 Hy hl1 hs1; have hb1 : decide (ys = part) = true := decide_eq_true (by rw [Hy.out, Nat.add_sub_cancel_left]; exact hst.2)) |
            (go_at_call 62; refine (equal_any _ _ _ _ _ _ _ hs1 (hy.ext hext) (by rw [Hy.out]; simp; omega)).mono ?_; rintro e w' ⟨rfl, m, rfl⟩) |
            (at_builtin; refine wpList_app intEl rfl _ _ rfl 1 rfl (hown.ext (Ext.alloc (Ext.drewN (Ext.refl _) _) _)) (ys := [(k : Int)]) rfl (Sl.new intEl rfl) (by simp; omega) (by simp; omega) ?_; intro v' w1 hown' hb1 hg1))
          have hext' : Ext w w1 := ((hext.drewN _).alloc _).trans' hb1
          go_wp2
          go_roundw
          case rel => exact ⟨k + part.length, f', acc ++ [(k : Int)], hkp, by go_num, by simp; omega, hf', by unfold Hid; rw [Hacc.out, Hocc.out]; simp, hown', hext'⟩
          case measure => simp [intOf]; omega
        · obtain ⟨f', hf', hocc⟩ := occ_no hst hfk (by omega)
          have Hocc := Lib.hid hocc
          clear hocc
          go_wp2_with (first | (refine wpList_sl strEl rfl _ _ _ rfl rfl _ _ rfl rfl (hx.ext hext) k (k + part.length) (by omega) (by omega) (by omega) hlt hc ?_; intro A1 ys c1 Hy hl1 hs1; have hb1 : decide (ys = part) = false := decide_eq_false (by rw [Hy.out, Nat.add_sub_cancel_left]; exact fun e => hst ⟨hlt, e⟩)) |
            (go_at_call 62; refine (equal_any _ _ _ _ _ _ _ hs1 (hy.ext hext) (by rw [Hy.out]; simp; omega)).mono ?_; rintro e w' ⟨rfl, m, rfl⟩))
          go_roundw
          case rel => exact ⟨k + 1, f', acc, by omega, by go_num, by omega, hf', by unfold Hid; rw [Hacc.out, Hocc.out], hown.ext ((Ext.refl _).drewN _), hext.drewN _⟩
          case measure => simp [intOf]; omega
      · go_wp2
        go_ret
        refine ⟨_, rfl, ?_, hext⟩
        rw [Hacc.out, occ_end l part f k (by omega), List.append_nil]
        exact hown

end Go.Proofs.Ytkbmocgjbhmioaa
