/- The lines of a table without bars in its cells: their bars and their sizes. -/
import Derived.Test.YthjlnpcanccmkaaFmtF9
import Derived.Test.YthjlnpcanccmkaaGet9
namespace Go.Proofs.Ythjlnpcanccmkaa
open Go.RowKit

def barsB (s : ByteArray) : Nat := s.data.toList.count 124
theorem barsB_app (a b : ByteArray) : barsB (a ++ b) = barsB a + barsB b := by
  simp [barsB, ByteArray.data_append, List.count_append]
theorem barsB_zero {s : ByteArray} : barsB s = 0 ↔ (124 : UInt8) ∉ s.data.toList := List.count_eq_zero
theorem mem_joinB {sep : ByteArray} {b : UInt8} {xs : List ByteArray} (h : b ∈ (joinB sep xs).data.toList) : b ∈ sep.data.toList ∨ ∃ x ∈ xs, b ∈ x.data.toList := by
  rw [joinB_list] at h
  cases xs with
  | nil => simp [Lib.join, List.intercalate] at h
  | cons y ys =>
    rw [List.map_cons, Lib.join_cons] at h
    rcases List.mem_append.1 h with h | h
    · exact .inr ⟨y, by simp, h⟩
    · unfold Lib.joinTail at h
      obtain ⟨l, hl, hb⟩ := List.mem_flatten.1 h
      obtain ⟨z, hz, rfl⟩ := List.mem_map.1 hl
      obtain ⟨x, hx, rfl⟩ := List.mem_map.1 hz
      rcases List.mem_append.1 hb with hb | hb
      · exact .inl hb
      · exact .inr ⟨x, by simp [hx], hb⟩
def noBar (l : List GWord) : Prop := ∀ x ∈ l, (124 : UInt8) ∉ x.t.data.toList
theorem sayF_noBar {l : List GWord} (h : noBar l) : barsB (sayF l) = 0 := by
  rw [barsB_zero]
  intro hm
  rcases mem_joinB hm with h1 | ⟨x, hx, h1⟩
  · simp [spaceB] at h1
  · obtain ⟨y, hy, rfl⟩ := List.mem_map.1 hx
    exact h y hy h1
theorem spacesB_noBar (d : Nat) : barsB (spacesB d) = 0 := by
  rw [barsB_zero]
  unfold spacesB
  simp only
  induction d with
  | zero => simp [Lib.repeatL]
  | succ d ih =>
    rw [repeatL_succ]
    simp only [List.mem_append, List.mem_singleton]
    rintro (h | h)
    · exact ih h
    · exact absurd h (by decide)
theorem cellText_noBar {u : GUnit} {i k : Nat} (hi : i < u.kids.length) (h : noBar (cellWords i k u)) : barsB (cellText k u.kids[i]) = 0 := by
  unfold cellWords at h
  rw [List.getElem?_eq_getElem hi] at h
  unfold cellText
  simp only at h
  cases hc : u.kids[i].kids[k]? with
  | none => rfl
  | some c =>
    rw [hc] at h
    exact sayF_noBar h
theorem padCell_noBar {u : GUnit} {i k : Nat} (hi : i < u.kids.length) (h : noBar (cellWords i k u)) : barsB (padCell u u.kids[i] k) = 0 := by
  unfold padCell padTo
  split
  · rw [barsB_app, cellText_noBar hi h, spacesB_noBar]
  · exact cellText_noBar hi h
theorem joinB_bars (f : Nat → ByteArray) : ∀ k, (∀ j, j ≤ k → barsB (f j) = 0) → barsB (joinB barB ((List.range (k + 1)).map f)) = k
  | 0, h => by rw [joinB_range, if_pos rfl]; exact h 0 (Nat.le_refl _)
  | k + 1, h => by
    rw [joinB_range, if_neg (by omega), barsB_app, barsB_app, joinB_bars f k (fun j hj => h j (by omega)), h (k + 1) (Nat.le_refl _)]
    rfl
def sumN (f : Nat → Nat) : Nat → Nat
  | 0 => 0
  | k + 1 => sumN f k + f k
theorem sumN_congr {f g : Nat → Nat} : ∀ k, (∀ j, j < k → f j = g j) → sumN f k = sumN g k
  | 0, _ => rfl
  | k + 1, h => by rw [sumN, sumN, sumN_congr k (fun j hj => h j (by omega)), h k (by omega)]
theorem joinB_sum (f : Nat → ByteArray) : ∀ k, (joinB barB ((List.range (k + 1)).map f)).size = 3 * k + sumN (fun j => (f j).size) (k + 1)
  | 0 => by rw [joinB_range, if_pos rfl]; simp [sumN]
  | k + 1 => by
    rw [joinB_range, if_neg (by omega), size_app, size_app, joinB_sum f k]
    have h2 : sumN (fun j => (f j).size) (k + 1 + 1) = sumN (fun j => (f j).size) (k + 1) + (f (k + 1)).size := rfl
    have : barB.size = 3 := rfl
    omega
theorem widthsF_get {u : GUnit} {k : Nat} (hk : k < (widthsF u).length) : (widthsF u)[k] = ((widest (columnF u (k : Nat)) : Nat) : Int) := by
  simp [widthsF]
theorem widthsF_sum (u : GUnit) : ∀ k, k ≤ (widthsF u).length → ((widthsF u).take k).sum = ((sumN (fun j => widest (columnF u (j : Nat))) k : Nat) : Int)
  | 0, _ => by simp [sumN]
  | k + 1, h => by
    rw [List.take_succ_eq_append_getElem (by omega), List.sum_append, widthsF_sum u k (by omega), widthsF_get, sumN]
    simp
/-- what a line of a table without bars in its cells is like -/
def lineOk (n : Nat) (D : List Int) (s : ByteArray) : Prop := barsB s + 1 = n ∧ ∃ d : Int, D[n - 1]? = some d ∧ 3 * ((n : Int) - 1) + (D.take (n - 1)).sum ≤ s.size ∧ (s.size : Int) ≤ 3 * ((n : Int) - 1) + (D.take (n - 1)).sum + d
theorem line_law {u : GUnit} (hv : validB u = true) (hc : ∀ i k, i < u.kids.length → k < ncols u → noBar (cellWords i k u)) {i : Nat} (hi : i < u.kids.length) : lineOk (ncols u) (widthsF u) (lineF u u.kids[i]) := by
  have hp := (validB_parts hv).2.2.1
  have hC : colsF u = ncols u := if_pos hv
  have hl := widthsF_length u
  obtain ⟨m, hm⟩ : ∃ m, ncols u = m + 1 := ⟨ncols u - 1, by omega⟩
  unfold lineOk lineF
  have hb : barsB (joinB barB ((List.range (ncols u)).map (padCell u u.kids[i]))) = m := by
    rw [hm]
    exact joinB_bars _ m fun j hj => padCell_noBar hi (hc i j hi (by omega))
  have hs : (joinB barB ((List.range (ncols u)).map (padCell u u.kids[i]))).size = 3 * m + (sumN (fun j => widest (columnF u (j : Nat))) m + (cellText m u.kids[i]).size) := by
    rw [hm, joinB_sum, sumN]
    have e1 : sumN (fun j => (padCell u u.kids[i] j).size) m = sumN (fun j => widest (columnF u (j : Nat))) m := sumN_congr m fun j hj => by
      unfold padCell
      rw [if_pos (by omega)]
      exact padTo_size (cell_le_wide hv (by omega) hi)
    have e2 : padCell u u.kids[i] m = cellText m u.kids[i] := by
      unfold padCell
      rw [if_neg (by omega)]
    simp only [e1, e2]
  have hw := cell_le_wide (k := m) hv (by omega) hi
  have hlm : m < (widthsF u).length := by omega
  have hsum := widthsF_sum u m (by omega)
  have hm1 : m + 1 - 1 = m := rfl
  rw [hb, hs, hm, hm1]
  refine ⟨rfl, _, List.getElem?_eq_getElem hlm, ?_, ?_⟩
  · rw [hsum]; omega
  · rw [hsum, widthsF_get hlm]; omega
theorem lines_law {u : GUnit} (hv : validB u = true) (hc : ∀ i k, i < u.kids.length → k < ncols u → noBar (cellWords i k u)) : ∀ s ∈ formatF u, lineOk (ncols u) (widthsF u) s := by
  intro s hs
  unfold formatF at hs
  split at hs
  · cases hs
  · obtain ⟨x, hx, rfl⟩ := List.mem_map.1 hs
    obtain ⟨i, hi, rfl⟩ := List.mem_iff_getElem.1 hx
    exact line_law hv hc hi

end Go.Proofs.Ythjlnpcanccmkaa
