/- The lines of a table: each row's texts, padded and joined. -/
import Derived.Test.YthjlnpcanccmkaaWide9
namespace Go.Proofs.Ythjlnpcanccmkaa
open Go.RowKit

def barB : ByteArray := ⟨#[32, 124, 32]⟩
def spacesB (d : Nat) : ByteArray := ⟨(Lib.repeatL [32] d).toArray⟩
def padTo (s : ByteArray) (n : Nat) : ByteArray := s ++ spacesB (n - s.size)
def padCell (u row : GUnit) (k : Nat) : ByteArray := if k + 1 < ncols u then padTo (cellText k row) (widest (columnF u (k : Nat))) else cellText k row
def lineF (u row : GUnit) : ByteArray := joinB barB ((List.range (ncols u)).map (padCell u row))
def formatF (u : GUnit) : List ByteArray := if colsF u = 0 then [] else u.kids.map (lineF u)

theorem repeatL_len (d : Nat) : (Lib.repeatL [32] d).length = d := by rw [Lib.repeatL_length]; simp
theorem spacesB_size (d : Nat) : (spacesB d).size = d := by
  have : (spacesB d).size = (Lib.repeatL [32] d).length := by
    show (Lib.repeatL [32] d).toArray.size = _
    simp
  rw [this, repeatL_len]
theorem size_app (a b : ByteArray) : (a ++ b).size = a.size + b.size := ByteArray.size_append
theorem padTo_size {s : ByteArray} {n : Nat} (h : s.size ≤ n) : (padTo s n).size = n := by
  unfold padTo
  rw [size_app, spacesB_size]
  omega
theorem foldl_max_ge : ∀ (l : List ByteArray) (m : Nat), m ≤ l.foldl (fun m s => max m s.size) m
  | [], m => Nat.le_refl _
  | s :: l, m => by
    rw [List.foldl_cons]
    exact Nat.le_trans (Nat.le_max_left _ _) (foldl_max_ge l _)
theorem foldl_max_mem : ∀ (l : List ByteArray) (m : Nat) (s : ByteArray), s ∈ l → s.size ≤ l.foldl (fun m s => max m s.size) m
  | x :: l, m, s, h => by
    rw [List.foldl_cons]
    rcases List.mem_cons.1 h with rfl | h
    · exact Nat.le_trans (Nat.le_max_right _ _) (foldl_max_ge l _)
    · exact foldl_max_mem l _ s h
theorem le_widest {l : List ByteArray} {s : ByteArray} (h : s ∈ l) : s.size ≤ widest l := foldl_max_mem l 0 s h
theorem foldl_max_le {b : Nat} : ∀ (l : List ByteArray) (m : Nat), m ≤ b → (∀ s ∈ l, s.size ≤ b) → l.foldl (fun m s => max m s.size) m ≤ b
  | [], m, h, _ => h
  | x :: l, m, h, hl => by
    rw [List.foldl_cons]
    exact foldl_max_le l _ (Nat.max_le.2 ⟨h, hl x (by simp)⟩) fun s hs => hl s (by simp [hs])
theorem widest_le {l : List ByteArray} {b : Nat} (h : ∀ s ∈ l, s.size ≤ b) : widest l ≤ b := foldl_max_le l 0 (Nat.zero_le _) h

theorem nodeOk_words {u : GUnit} (h : AllU nodeOk u) : u.words.length ≤ 300 ∧ ∀ z ∈ u.words, z.t.size ≤ 100 := by
  obtain ⟨_, _, _, _, _, _, yw, _⟩ := u
  rw [AllU] at h
  exact ⟨h.1.2.1, h.1.2.2.2.2⟩
theorem nodeOk_kid {u : GUnit} (h : AllU nodeOk u) (k : Nat) (hk : k < u.kids.length) : AllU nodeOk u.kids[k] := by
  obtain ⟨_, _, _, _, _, _, yw, kids⟩ := u
  rw [AllU] at h
  exact h.2.get k hk
theorem cellText_size {u : GUnit} (h : AllU nodeOk u) (j : Nat) : (cellText j u).size ≤ 30300 := by
  unfold cellText
  cases hc : u.kids[j]? with
  | none => exact Nat.zero_le _
  | some c =>
    obtain ⟨hj, rfl⟩ := List.getElem?_eq_some_iff.1 hc
    obtain ⟨h1, h2⟩ := nodeOk_words (nodeOk_kid h j hj)
    have := sayF_size h2
    simp only
    omega
theorem columnF_size {u : GUnit} (h : AllU nodeOk u) (col : Int) : ∀ s ∈ columnF u col, s.size ≤ 30300 := by
  intro s hs
  unfold columnF at hs
  split at hs
  · obtain ⟨r, hr, rfl⟩ := List.mem_map.1 hs
    obtain ⟨k, hk, rfl⟩ := List.mem_iff_getElem.1 hr
    exact cellText_size (nodeOk_kid h k hk) _
  · cases hs
theorem thereB_of {u : GUnit} (hv : validB u = true) {k : Nat} (hk : k < ncols u) : thereB u 0 (k : Nat) = true := by
  have h := validB_parts hv
  unfold thereB withinB rowsF colsF
  rw [if_pos hv, if_pos hv]
  simp
  omega
theorem cell_le_wide {u : GUnit} (hv : validB u = true) {k i : Nat} (hk : k < ncols u) (hi : i < u.kids.length) : (cellText k u.kids[i]).size ≤ widest (columnF u (k : Nat)) := by
  refine le_widest ?_
  unfold columnF
  rw [if_pos (thereB_of hv hk)]
  exact List.mem_map.2 ⟨_, List.getElem_mem hi, by simp⟩
theorem padCell_size {u : GUnit} (hn : AllU nodeOk u) (hv : validB u = true) {k i : Nat} (hk : k < ncols u) (hi : i < u.kids.length) : (padCell u u.kids[i] k).size ≤ 30300 := by
  unfold padCell
  split
  · rw [padTo_size (cell_le_wide hv hk hi)]
    exact widest_le (columnF_size hn _)
  · exact cellText_size (nodeOk_kid hn i hi) _
theorem lineF_size {u : GUnit} (hn : AllU nodeOk u) (hv : validB u = true) {i : Nat} (hi : i < u.kids.length) : (lineF u u.kids[i]).size ≤ 30303 * 64 := by
  have h := joinB_size barB 30300 ((List.range (ncols u)).map (padCell u u.kids[i])) (fun x hx => by
    obtain ⟨k, hk, rfl⟩ := List.mem_map.1 hx
    exact padCell_size hn hv (List.mem_range.1 hk) hi)
  rw [List.length_map, List.length_range] at h
  have := (validB_parts hv).2.2.1.2
  have h2 : (30300 + barB.size) * ncols u ≤ 30303 * 64 := Nat.mul_le_mul (by decide) this
  exact Nat.le_trans h h2
theorem joinB_range (sep : ByteArray) (f : Nat → ByteArray) (k : Nat) : joinB sep ((List.range (k + 1)).map f) = if k = 0 then f k else joinB sep ((List.range k).map f) ++ sep ++ f k := by
  rw [range_map_succ]
  split
  · rename_i h
    subst h
    exact joinB_one _ _
  · rename_i h
    refine joinB_snoc _ _ _ ?_
    intro e
    have e2 := congrArg List.length e
    rw [List.length_map, List.length_range] at e2
    exact h e2
theorem repeatL_succ : ∀ d : Nat, Lib.repeatL [32] (d + 1) = Lib.repeatL [32] d ++ [32]
  | 0 => rfl
  | d + 1 => by
    have ih := repeatL_succ d
    show [32] ++ Lib.repeatL [32] (d + 1) = ([32] ++ Lib.repeatL [32] d) ++ [32]
    rw [ih, List.append_assoc]
theorem spacesB_succ (d : Nat) : spacesB (d + 1) = spacesB d ++ spaceB := by
  refine bytesList_inj ?_
  simp [spacesB, repeatL_succ, spaceB, ByteArray.data_append]

end Go.Proofs.Ythjlnpcanccmkaa
