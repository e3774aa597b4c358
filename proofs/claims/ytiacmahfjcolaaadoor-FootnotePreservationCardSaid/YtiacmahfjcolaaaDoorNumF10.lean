/- The renumbered tree, in lists; what a tree without findings is like. -/
import Derived.Test.YtiacmahfjcolaaaDoorRefNotes10
namespace Go.Proofs.YtiacmahfjcolaaaDoor
open Go.RowKit

/-- the new label of a called note -/
def labF (L : List ByteArray) (s : ByteArray) : ByteArray := decB ((placeI L s).toNat + 1)
/-- a word with its anchor's new label -/
def renW (L : List ByteArray) (x : GWord) : GWord := if ancB x.t = true then ⟨⟨#[94]⟩ ++ labF L (ancT x.t), x.a, x.i, x.k⟩ else x
/-- a child with its new label -/
def relab (L : List ByteArray) : GUnit → GUnit
  | .mk a i n k l hd wd kids => .mk a i n k (if k = 7 then labF L l else l) hd wd kids
mutual
def numF : GUnit → GUnit
  | .mk a i n k l hd wd kids => .mk a i n k l hd (wd.map (renW (anchL wd))) (numL (anchL wd) kids)
def numL (L : List ByteArray) : List GUnit → List GUnit
  | [] => []
  | u :: r => relab L (numF u) :: numL L r
end
theorem numL_append (L : List ByteArray) : ∀ (a b : List GUnit), numL L (a ++ b) = numL L a ++ numL L b
  | [], b => rfl
  | u :: a, b => by rw [List.cons_append, numL, numL, numL_append L a b]; rfl
theorem numL_take {L : List ByteArray} {l : List GUnit} {k : Nat} (h : k < l.length) : numL L (l.take (k + 1)) = numL L (l.take k) ++ [relab L (numF l[k])] := by
  rw [List.take_succ_eq_append_getElem h, numL_append]
  rfl
theorem numL_len (L : List ByteArray) : ∀ (l : List GUnit), (numL L l).length = l.length
  | [] => rfl
  | u :: r => by rw [numL, List.length_cons, List.length_cons, numL_len L r]
theorem numF_key (u : GUnit) : keyU (numF u) = keyU u := by
  cases u
  rw [numF]
  rfl
theorem numF_id (u : GUnit) : (numF u).id = u.id := by
  cases u
  rw [numF]
  rfl

/-! ### no findings -/
theorem findW_nil {id : GId} {ks : List (Int × ByteArray)} : ∀ {l : List GWord} {i : Nat} {seen : List ByteArray}, findW id ks i seen l = [] →
    (∀ s ∈ anchL l, s ∉ seen ∧ 0 ≤ noteI ks s) ∧ (anchL l).Nodup
  | [], _, _, _ => ⟨fun s h => (by cases h), List.nodup_nil⟩
  | x :: r, i, seen, h => by
    rw [findW] at h
    rw [anchL]
    split at h
    · rename_i hb
      rw [if_pos hb]
      rw [List.append_eq_nil_iff] at h
      obtain ⟨h1, h2⟩ := h
      obtain ⟨h3, h4⟩ := findW_nil h2
      have hns : ancT x.t ∉ seen := fun hm => by rw [if_pos hm] at h1; cases h1
      rw [if_neg hns] at h1
      have hnn : 0 ≤ noteI ks (ancT x.t) := by
        rcases Int.lt_or_le (noteI ks (ancT x.t)) 0 with hl | hl
        · rw [if_pos hl] at h1; cases h1
        · exact hl
      refine ⟨fun s hs => ?_, ?_⟩
      · rcases List.mem_cons.1 hs with rfl | hs
        · exact ⟨hns, hnn⟩
        · have := h3 s hs
          exact ⟨fun hm => this.1 (by simp [hm]), this.2⟩
      · rw [List.nodup_cons]
        exact ⟨fun hm => (h3 _ hm).1 (by simp), h4⟩
    · rename_i hb
      rw [if_neg hb]
      exact findW_nil h
theorem findK_nil {ks : List (Int × ByteArray)} {seen : List ByteArray} : ∀ {l : List GUnit} {i : Nat}, findK ks seen i l = [] →
    ∀ (k : Nat) (h : k < l.length), l[k].kind = 7 → l[k].label ∈ seen ∧ noteI ks l[k].label = ((i + k : Nat) : Int)
  | u :: r, i, h, 0, _, hk => by
    rw [findK, List.append_eq_nil_iff] at h
    simp only [List.getElem_cons_zero] at hk ⊢
    have h1 : ¬ (u.kind = 7 ∧ (u.label ∉ seen ∨ noteI ks u.label ≠ i)) := fun hc => by
      have := h.1
      rw [if_pos hc] at this
      cases this
    refine ⟨?_, ?_⟩
    · by_cases hm : u.label ∈ seen
      · exact hm
      · exact absurd ⟨hk, .inl hm⟩ h1
    · by_cases hm : noteI ks u.label = i
      · rw [hm, Nat.add_zero]
      · exact absurd ⟨hk, .inr hm⟩ h1
  | u :: r, i, h, k + 1, hlt, hk => by
    rw [findK, List.append_eq_nil_iff] at h
    have := findK_nil h.2 k (by simpa using hlt) (by simpa using hk)
    simp only [List.getElem_cons_succ]
    rw [show i + (k + 1) = i + 1 + k by omega]
    exact this
structure CleanU (u : GUnit) : Prop where
  nodup : u.anchs.Nodup
  notes : ∀ s ∈ u.anchs, 0 ≤ noteI u.keys s
  kid : ∀ (k : Nat) (h : k < u.kids.length), u.kids[k].kind = 7 → u.kids[k].label ∈ u.anchs ∧ noteI u.keys u.kids[k].label = (k : Int)
theorem clean_of {u : GUnit} (h : ownF u = []) : CleanU u := by
  unfold ownF at h
  rw [List.append_eq_nil_iff] at h
  obtain ⟨h1, h2⟩ := findW_nil h.1
  exact ⟨h2, fun s hs => (h1 s hs).2, fun k hk h7 => by
    have := findK_nil h.2 k hk h7
    rwa [Nat.zero_add] at this⟩
theorem checkF_own {u : GUnit} (h : checkF u = []) : ownF u = [] := by
  obtain ⟨a, i, n, k, l, hd, wd, kids⟩ := u
  rw [checkF, List.append_eq_nil_iff] at h
  exact h.1
theorem checkL_get : ∀ {us : List GUnit}, checkL us = [] → ∀ (k : Nat) (h : k < us.length), checkF us[k] = []
  | u :: r, h, 0, _ => by rw [checkL, List.append_eq_nil_iff] at h; exact h.1
  | u :: r, h, k + 1, hk => by
    rw [checkL, List.append_eq_nil_iff] at h
    exact checkL_get h.2 k (by simpa using hk)
theorem checkF_kid {u : GUnit} (h : checkF u = []) (k : Nat) (hk : k < u.kids.length) : checkF u.kids[k] = [] := by
  obtain ⟨a, i, n, kd, l, hd, wd, kids⟩ := u
  rw [checkF, List.append_eq_nil_iff] at h
  exact checkL_get h.2 k hk
/-- the place of a string in a list without repeats -/
theorem idxI_nodup : ∀ {l : List ByteArray} {k i : Nat} (h : k < l.length), l.Nodup → idxI (fun x => decide (x = l[k])) l i = ((i + k : Nat) : Int)
  | x :: r, 0, i, _, _ => by rw [idxI, if_pos (by simp)]; simp
  | x :: r, k + 1, i, h, hn => by
    rw [List.nodup_cons] at hn
    have hk : k < r.length := by simpa using h
    rw [idxI, if_neg (by simp only [List.getElem_cons_succ, decide_eq_true_eq]; intro e; exact hn.1 (e ▸ List.getElem_mem hk))]
    simp only [List.getElem_cons_succ]
    rw [idxI_nodup hk hn.2]
    congr 1
    omega
theorem placeI_nodup {l : List ByteArray} {k : Nat} (h : k < l.length) (hn : l.Nodup) : placeI l l[k] = (k : Int) := by
  unfold placeI
  rw [idxI_nodup h hn, Nat.zero_add]
theorem placeI_mem {l : List ByteArray} {s : ByteArray} (h : s ∈ l) : ∃ j : Nat, placeI l s = (j : Int) ∧ j < l.length := by
  have h1 := placeI_neg l s
  rcases idxI_range (fun x => decide (x = s)) l 0 with h2 | ⟨j, h2, h3, -⟩
  · exact absurd (h1.1 (by unfold placeI; omega)) (by simpa using h)
  · exact ⟨j, by unfold placeI; rw [h2, Nat.zero_add], h3⟩
/-- the labels given so far, as the program's map has them -/
def tabF (L : List ByteArray) (k : Nat) (s : ByteArray) : ByteArray := if s ∈ L.take k then labF L s else ⟨#[]⟩
theorem tabF_step {L : List ByteArray} {k : Nat} (h : k < L.length) (hn : L.Nodup) (s : ByteArray) : (if s = L[k] then decB (k + 1) else tabF L k s) = tabF L (k + 1) s := by
  unfold tabF
  rw [List.take_succ_eq_append_getElem h]
  by_cases e : s = L[k]
  · rw [if_pos e, if_pos (by rw [e]; exact List.mem_append_right _ (List.mem_singleton.2 rfl))]
    unfold labF
    rw [e, placeI_nodup h hn, Int.toNat_natCast]
  · rw [if_neg e]
    have : (s ∈ L.take k ++ [L[k]]) ↔ s ∈ L.take k := by
      rw [List.mem_append, List.mem_singleton]
      exact ⟨fun h => h.resolve_right e, .inl⟩
    by_cases h2 : s ∈ L.take k
    · rw [if_pos h2, if_pos (this.2 h2)]
    · rw [if_neg h2, if_neg (fun h3 => h2 (this.1 h3))]
theorem tabF_all {L : List ByteArray} {s : ByteArray} (h : s ∈ L) : tabF L L.length s = labF L s := by
  unfold tabF
  rw [List.take_length, if_pos h]
theorem labF_size {L : List ByteArray} {s : ByteArray} (hl : L.length ≤ 1000) (h : s ∈ L) : (labF L s).size ≤ 8 := by
  obtain ⟨j, h1, h2⟩ := placeI_mem h
  unfold labF
  rw [h1, Int.toNat_natCast]
  exact decB_le (by omega)

end Go.Proofs.YtiacmahfjcolaaaDoor
