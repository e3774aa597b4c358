/- says, Say: the words of a cell, joined by spaces. -/
import Derived.Test.YthjlnpcanccmkaaSize9
import Derived.Test.YthjlnpcanccmkaaShelf
import Derived.Laws.Concat
namespace Go.Proofs.Ythjlnpcanccmkaa
open Go.RowKit

def joinB (sep : ByteArray) (xs : List ByteArray) : ByteArray := ⟨(Lib.join (xs.map (·.data.toList)) sep.data.toList).toArray⟩
theorem bytesList_inj {a b : ByteArray} (h : a.data.toList = b.data.toList) : a = b := ByteArray.ext (Array.ext' h)
theorem joinB_nil (sep : ByteArray) : joinB sep [] = ⟨#[]⟩ := rfl
theorem joinB_one (sep x : ByteArray) : joinB sep [x] = x := bytesList_inj (by simp [joinB, Lib.join_one])
theorem joinB_list (sep : ByteArray) (xs : List ByteArray) : (joinB sep xs).data.toList = Lib.join (xs.map (·.data.toList)) sep.data.toList := by simp [joinB]
theorem joinB_snoc (sep x : ByteArray) (xs : List ByteArray) (h : xs ≠ []) : joinB sep (xs ++ [x]) = joinB sep xs ++ sep ++ x := by
  refine bytesList_inj ?_
  simp only [ByteArray.data_append, Array.toList_append, joinB_list, List.map_append, List.map_cons, List.map_nil]
  cases xs with
  | nil => exact absurd rfl h
  | cons y ys =>
    rw [List.map_cons, List.cons_append, Lib.join_cons, Lib.join_cons]
    simp [Lib.joinTail, List.append_assoc]
theorem joinB_size (sep : ByteArray) (m : Nat) : ∀ (xs : List ByteArray), (∀ x ∈ xs, x.size ≤ m) → (joinB sep xs).size ≤ (m + sep.size) * xs.length := by
  intro xs h
  have hl : ∀ xs : List ByteArray, (∀ x ∈ xs, x.size ≤ m) → Lib.lens (xs.map (·.data.toList)) ≤ m * xs.length := by
    intro xs
    induction xs with
    | nil => simp [Lib.lens]
    | cons y ys ih =>
      intro h
      have h1 := h y (by simp)
      have h2 := ih fun x hx => h x (by simp [hx])
      simp only [Lib.lens, List.map_cons, List.sum_cons, List.length_cons, Array.length_toList, Nat.mul_succ] at h2 ⊢
      have h3 : y.data.size = y.size := rfl
      omega
  cases xs with
  | nil => exact Nat.zero_le _
  | cons y ys =>
    have e : (joinB sep (y :: ys)).size = (Lib.join ((y :: ys).map (·.data.toList)) sep.data.toList).length := by
      rw [← joinB_list, Array.length_toList]; rfl
    rw [e, List.map_cons, Lib.join_cons, List.length_append, Lib.joinTail_length, List.length_map]
    have h1 := h y (by simp)
    have h2 := hl ys fun x hx => h x (by simp [hx])
    have h3 : sep.data.toList.length = sep.size := Array.length_toList
    have h4 : y.data.toList.length = y.size := Array.length_toList
    rw [h3, h4, List.length_cons, Nat.add_mul]
    have h5 : sep.size * (ys.length + 1) = sep.size * ys.length + sep.size := Nat.mul_succ _ _
    have h6 : m * (ys.length + 1) = m * ys.length + m := Nat.mul_succ _ _
    omega

def spaceB : ByteArray := ⟨#[32]⟩
def sayF (l : List GWord) : ByteArray := joinB spaceB (l.map GWord.t)
theorem sayF_take {l : List GWord} {k : Nat} (hk : k < l.length) : sayF (l.take (k + 1)) = if k = 0 then l[k].t else sayF (l.take k) ++ spaceB ++ l[k].t := by
  unfold sayF
  rw [map_take_succ _ _ _ hk]
  split
  · rename_i h
    subst h
    exact joinB_one _ _
  · rename_i h
    refine joinB_snoc _ _ _ ?_
    intro e
    have e2 := congrArg List.length e
    rw [List.length_map, List.length_take, Nat.min_eq_left (by omega)] at e2
    exact h e2
theorem sayF_size {l : List GWord} (h : ∀ x ∈ l, x.t.size ≤ 100) : (sayF l).size ≤ 101 * l.length := by
  have := joinB_size spaceB 100 (l.map GWord.t) (fun x hx => by
    obtain ⟨y, hy, rfl⟩ := List.mem_map.1 hx
    exact h y hy)
  rw [List.length_map] at this
  exact this
theorem mem_of_take {α : Type} {p : α → Prop} {l : List α} (h : ∀ x ∈ l, p x) (k : Nat) : ∀ x ∈ l.take k, p x := fun x hx => h x (List.mem_of_mem_take hx)

set_option maxRecDepth 100000 in
set_option maxHeartbeats 800000 in
theorem say_any (A : Option Addr) (c : Nat) (l : List GWord) (w : World) (hs : Sl wordEl w A l) (hn : l.length ≤ 300) (ht : ∀ x ∈ l, x.t.size ≤ 100) :
    Calls Try.prog 37 #[.slice A l.length c] w fun e w' => e = .returned (.string (sayF l)) ∧ Ext w w' := by
  have Ht := Lib.hid ht
  clear ht
  go_enter Try.func37, Try.ntmps37
  go_wp2
  go_loopw [3, 4] (fun s i wr => ∃ (k : Nat) (b : ByteArray), k ≤ l.length ∧ i = .int .i64 k ∧ s = .string b ∧ Hid (b = sayF (l.take k)) ∧ b.size ≤ 101 * k ∧ Ext w wr) (fun _ i _ => l.length - (intOf i).toNat)
  case atStart => exact ⟨0, ⟨#[]⟩, Nat.zero_le _, rfl, rfl, Lib.hid rfl, Nat.le_refl _, Ext.refl _⟩
  case round =>
    obtain ⟨k, s, hk, rfl, rfl, Hs, hsz, hext⟩ := hrel
    by_cases hlt : k < l.length
    · have hstep := sayF_take hlt
      have hxs : l[k].t.size ≤ 100 := Ht.out _ (List.getElem_mem hlt)
      have hnew : (sayF (l.take (k + 1))).size ≤ 101 * (k + 1) := by
        have := sayF_size (l := l.take (k + 1)) (mem_of_take Ht.out _)
        rw [List.length_take, Nat.min_eq_left (by omega)] at this
        exact this
      obtain ⟨b, off, rfl, hb, hc0, _, _, _⟩ := wordAt (hs.ext hext) hlt
      obtain ⟨x, hx⟩ : ∃ x, l[k].t = x := ⟨_, rfl⟩
      rw [hx] at hc0 hstep hxs
      rw [← Hs.out] at hstep
      by_cases hk0 : k = 0
      · rw [if_pos hk0] at hstep
        subst hk0
        rw [Nat.zero_mul, Nat.add_zero] at hc0
        have hs0 : s = ⟨#[]⟩ := by rw [Hs.out]; rfl
        have Hnew := Lib.hid (show (⟨#[]⟩ : ByteArray) ++ x = sayF (l.take (0 + 1)) by rw [hstep]; exact bytesList_inj (by simp [ByteArray.data_append]))
        have Hsn := Lib.hid hnew
        subst hs0
        clear hstep hx hnew Hs
        go_wp2
        go_roundw
        case rel => exact ⟨0 + 1, _, by omega, by go_num, rfl, Hnew, by rw [Hnew.out]; exact Hsn.out, hext⟩
        case measure => simp [intOf]; omega
      · rw [if_neg hk0] at hstep
        have hk1 : 0 < k := by omega
        have Hnew := Lib.hid (show s ++ ⟨#[32]⟩ ++ x = sayF (l.take (k + 1)) from hstep.symm)
        have Hsn := Lib.hid hnew
        clear hstep hx hnew hk0 Hs
        go_wp2
        go_roundw
        case rel => exact ⟨k + 1, _, by omega, by go_num, rfl, Hnew, by rw [Hnew.out]; exact Hsn.out, hext⟩
        case measure => simp [intOf]; omega
    · have hkl : k = l.length := by omega
      have h3 := Hs.out
      rw [hkl, List.take_length] at h3
      have H3 := Lib.hid h3
      clear h3 hkl Hs
      go_wp2
      go_ret
      exact ⟨by rw [← H3.out]; rfl, hext⟩

end Go.Proofs.Ythjlnpcanccmkaa
