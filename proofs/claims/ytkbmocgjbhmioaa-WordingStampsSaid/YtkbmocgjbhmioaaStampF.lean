/- Plain laws on stamped trees: stripping forgets the stamp, stamping anew changes nothing; what few units give. -/
import Derived.Test.YtkbmocgjbhmioaaSTree
import Derived.Test.YtkbmocgjbhmioaaStrip
namespace Go.Proofs.Ytkbmocgjbhmioaa
open Go.RowKit

theorem markF_texts (act item : Int) : ∀ (m : Int) (l : List ByteArray), (markF act item m l).map GWord.t = l
  | _, [] => rfl
  | m, s :: l => by rw [markF, List.map_cons, markF_texts act item (m + 1) l]
theorem bareL_texts (l : List GWord) : bareL l = (l.map GWord.t).map fun s => ⟨s, 0, 0, 0⟩ := by
  unfold bareL
  rw [List.map_map]
  rfl
theorem bareL_mark (act item m : Int) (l : List GWord) : bareL (markF act item m (l.map GWord.t)) = bareL l := by rw [bareL_texts, markF_texts, ← bareL_texts]

mutual
theorem strip_stamp (act item : Int) : ∀ (u : GUnit) (n m : Int), stripF (stampF act item u n m).1 = stripF u
  | .mk a i c k l hl wl kids, n, m => by
    rw [stampF, stripF, stripF]
    try simp only
    rw [bareL_mark, bareL_mark, strip_stampL act item kids]
theorem strip_stampL (act item : Int) : ∀ (us : List GUnit) (n m : Int), stripL (stampL act item us n m).1 = stripL us
  | [], n, m => by rw [stampL]
  | u :: us, n, m => by
    rw [stampL, stripL, stripL]
    try simp only
    rw [strip_stamp act item u, strip_stampL act item us]
end
mutual
theorem stamp_stamp (act item : Int) : ∀ (u : GUnit) (n m : Int), stampF act item (stampF act item u n m).1 n m = stampF act item u n m
  | .mk a i c k l hl wl kids, n, m => by
    rw [stampF, stampF]
    try simp only
    rw [markF_texts, markF_texts, markF_length, markF_length, List.length_map, List.length_map, stamp_stampL act item kids]
theorem stamp_stampL (act item : Int) : ∀ (us : List GUnit) (n m : Int), stampL act item (stampL act item us n m).1 n m = stampL act item us n m
  | [], n, m => by rw [stampL, stampL]
  | u :: us, n, m => by
    rw [stampL, stampL]
    try simp only
    rw [stamp_stamp act item u, stamp_stampL act item us]
end
theorem stampL_length (act item : Int) : ∀ (us : List GUnit) (n m : Int), (stampL act item us n m).1.length = us.length
  | [], n, m => by rw [stampL]
  | u :: us, n, m => by
    rw [stampL]
    simp only [List.length_cons]
    rw [stampL_length act item us]
mutual
theorem stamp_lens (act item : Int) {a b : Nat} : ∀ (u : GUnit) (n m : Int), AllU (lensLe a b) u → AllU (lensLe a b) (stampF act item u n m).1
  | .mk _ _ c k l hl wl kids, n, m, h => by
    rw [AllU] at h
    obtain ⟨⟨h1, h2, h3⟩, h4⟩ := h
    rw [stampF]
    try simp only
    rw [AllU]
    refine ⟨⟨?_, ?_, ?_⟩, stamp_lensL act item kids _ _ h4⟩
    · rw [markF_length, List.length_map]; exact h1
    · rw [markF_length, List.length_map]; exact h2
    · rw [stampL_length]; exact h3
theorem stamp_lensL (act item : Int) {a b : Nat} : ∀ (us : List GUnit) (n m : Int), AllUs (lensLe a b) us → AllUs (lensLe a b) (stampL act item us n m).1
  | [], n, m, h => by rw [stampL]; exact h
  | u :: us, n, m, h => by
    rw [AllUs] at h
    rw [stampL]
    try simp only
    rw [AllUs]
    exact ⟨stamp_lens act item u n m h.1, stamp_lensL act item us _ _ h.2⟩
end
mutual
theorem stamp_cnt (act item : Int) : ∀ (u : GUnit) (n m : Int), cntF (stampF act item u n m).1 = cntF u
  | .mk _ _ c k l hl wl kids, n, m => by
    rw [stampF]
    try simp only
    rw [cntF, cntF, stamp_cntL act item kids]
theorem stamp_cntL (act item : Int) : ∀ (us : List GUnit) (n m : Int), cntL (stampL act item us n m).1 = cntL us
  | [], n, m => by rw [stampL]
  | u :: us, n, m => by
    rw [stampL]
    try simp only
    rw [cntL, cntL, stamp_cnt act item u, stamp_cntL act item us]
end
mutual
theorem strip_lens {a b : Nat} : ∀ (u : GUnit), AllU (lensLe a b) u → AllU (lensLe a b) (stripF u)
  | .mk _ _ c k l hl wl kids, h => by
    rw [AllU] at h
    obtain ⟨⟨h1, h2, h3⟩, h4⟩ := h
    rw [stripF, AllU]
    exact ⟨⟨by rw [bareL_length]; exact h1, by rw [bareL_length]; exact h2, by rw [stripL_eq, List.length_map]; exact h3⟩, strip_lensL kids h4⟩
theorem strip_lensL {a b : Nat} : ∀ (us : List GUnit), AllUs (lensLe a b) us → AllUs (lensLe a b) (stripL us)
  | [], h => by rw [stripL]; exact h
  | u :: us, h => by
    rw [AllUs] at h
    rw [stripL, AllUs]
    exact ⟨strip_lens u h.1, strip_lensL us h.2⟩
end

theorem sizeL_ge : ∀ (us : List GUnit) (deep most n : Int), 0 ≤ most → n ≤ sizeL us deep most n
  | [], deep, most, n, _ => by rw [sizeL]; exact Int.le_refl _
  | u :: us, deep, most, n, h => by
    rw [sizeL]
    split
    · have h1 := sizeF_le u (deep + 1) (most - n) (by omega)
      have h2 := sizeL_ge us deep most (n + sizeF u (deep + 1) (most - n)) h
      omega
    · exact Int.le_refl _
mutual
theorem size_cnt : ∀ (u : GUnit) (deep most : Int), 0 ≤ most → sizeF u deep most ≤ most → sizeF u deep most = cntF u
  | .mk _ _ _ _ _ _ _ kids, deep, most, h, h1 => by
    rw [sizeF] at h1 ⊢
    rw [cntF]
    split at h1
    · omega
    · rename_i hd
      rw [if_neg hd, size_cntL kids deep most 1 h h1]
      omega
theorem size_cntL : ∀ (us : List GUnit) (deep most n : Int), 0 ≤ most → sizeL us deep most n ≤ most → sizeL us deep most n = n + cntL us
  | [], deep, most, n, _, _ => by rw [sizeL, cntL]; omega
  | u :: us, deep, most, n, h, h1 => by
    have h0 := h1
    rw [sizeL] at h1 ⊢
    rw [cntL]
    split at h1
    · rename_i hn
      rw [if_pos hn]
      have h2 := sizeL_ge us deep most (n + sizeF u (deep + 1) (most - n)) h
      have h3 := size_cnt u (deep + 1) (most - n) (by omega) (by omega)
      rw [size_cntL us deep most _ h h1, h3]
      omega
    · rename_i hn
      omega
end
theorem cnt_pos : ∀ (u : GUnit), 1 ≤ cntF u
  | .mk _ _ _ _ _ _ _ kids => by rw [cntF]; omega
theorem cntL_len : ∀ (us : List GUnit), us.length ≤ cntL us
  | [] => by simp
  | u :: us => by
    have h1 := cnt_pos u
    have h2 := cntL_len us
    rw [cntL, List.length_cons]
    omega
mutual
theorem words_lens : ∀ (u : GUnit), wordsF u = true → cntF u ≤ 61 → AllU (lensLe 300 60) u
  | .mk _ _ c k l hl wl kids, h, hc => by
    rw [wordsF] at h
    simp only [Bool.and_eq_true] at h
    rw [cntF] at hc
    have := cntL_len kids
    rw [AllU]
    exact ⟨⟨shortB_len h.1.1.2, shortB_len h.1.2, by omega⟩, words_lensL kids h.2 (by omega)⟩
theorem words_lensL : ∀ (us : List GUnit), wordsL us = true → cntL us ≤ 60 → AllUs (lensLe 300 60) us
  | [], _, _ => by rw [AllUs]; trivial
  | u :: us, h, hc => by
    rw [wordsL, Bool.and_eq_true] at h
    rw [cntL] at hc
    rw [AllUs]
    exact ⟨words_lens u h.1 (by omega), words_lensL us h.2 (by omega)⟩
end
theorem few_cnt {u : GUnit} {most : Int} (h0 : 0 ≤ most) (h : fewF u most = true) : (cntF u : Int) ≤ most := by
  rw [fewF, Bool.and_eq_true, decide_eq_true_eq] at h
  rw [← size_cnt u 0 most h0 h.1]
  exact h.1
theorem few_lens {u : GUnit} (h : fewF u 60 = true) : AllU (lensLe 300 60) u := by
  have h1 := few_cnt (by decide) h
  rw [fewF, Bool.and_eq_true] at h
  exact words_lens u h.2 (by omega)

end Go.Proofs.Ytkbmocgjbhmioaa
