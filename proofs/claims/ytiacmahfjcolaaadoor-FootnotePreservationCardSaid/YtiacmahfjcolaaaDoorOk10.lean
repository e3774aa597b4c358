/- Few units: the trees that the walks can go through, and the same of the changed trees. -/
import Derived.Test.YtiacmahfjcolaaaDoorPlainB10
namespace Go.Proofs.YtiacmahfjcolaaaDoor
open Go.RowKit

theorem sizeL_ge : ∀ (us : List GUnit) (deep most n : Int), 0 ≤ most → n ≤ sizeL us deep most n
  | [], deep, most, n, _ => by rw [sizeL]; exact Int.le_refl _
  | u :: us, deep, most, n, h => by
    rw [sizeL]
    split
    · have := sizeF_le u (deep + 1) (most - n) (by omega)
      have := sizeL_ge us deep most (n + sizeF u (deep + 1) (most - n)) h
      omega
    · exact Int.le_refl _
mutual
theorem sizeF_pre : ∀ (u : GUnit) (deep most : Int), 0 ≤ most → sizeF u deep most ≤ most → ((preF u).length : Int) = sizeF u deep most
  | .mk _ _ _ _ _ _ _ kids, deep, most, h0, h => by
    rw [sizeF] at h ⊢
    rw [preF, List.length_cons]
    split at h
    · omega
    · rename_i hd
      rw [if_neg hd]
      have := sizeL_pre kids deep most 1 h0 h
      omega
theorem sizeL_pre : ∀ (us : List GUnit) (deep most n : Int), 0 ≤ most → sizeL us deep most n ≤ most → ((preL us).length : Int) + n = sizeL us deep most n
  | [], deep, most, n, _, _ => by rw [sizeL, preL]; simp
  | u :: us, deep, most, n, h0, h => by
    rw [sizeL] at h ⊢
    rw [preL, List.length_append]
    split at h
    · rename_i hn
      rw [if_pos hn]
      have h1 := sizeL_ge us deep most (n + sizeF u (deep + 1) (most - n)) h0
      have h2 := sizeF_pre u (deep + 1) (most - n) (by omega) (by omega)
      have h3 := sizeL_pre us deep most (n + sizeF u (deep + 1) (most - n)) h0 h
      omega
    · omega
end
theorem preF_pos (u : GUnit) : 1 ≤ (preF u).length := by
  cases u
  rw [preF]
  simp
theorem preL_ge : ∀ us : List GUnit, us.length ≤ (preL us).length
  | [] => Nat.le_refl _
  | u :: r => by
    have := preF_pos u
    have := preL_ge r
    rw [preL, List.length_append, List.length_cons]
    omega
theorem wordsL_mem : ∀ {us : List GUnit}, wordsL us = true → ∀ x ∈ us, wordsF x = true
  | u :: r, h, x, hx => by
    rw [wordsL, Bool.and_eq_true] at h
    rcases List.mem_cons.1 hx with rfl | hx
    · exact h.1
    · exact wordsL_mem h.2 x hx
theorem wordsF_label {u : GUnit} (h : wordsF u = true) : u.label.size ≤ 30 := by
  cases u
  simp only [wordsF, Bool.and_eq_true, decide_eq_true_eq] at h
  exact h.1.1.1
mutual
theorem few_short : ∀ u, wordsF u = true → (preF u).length ≤ 1000 → AllU shortU u ∧ AllU (fun u => u.head.length ≤ 300) u
  | .mk a i n k l hd wd kids, h, hp => by
    simp only [wordsF, Bool.and_eq_true, decide_eq_true_eq] at h
    obtain ⟨⟨⟨h1, h2⟩, h3⟩, h4⟩ := h
    rw [preF, List.length_cons] at hp
    have h5 := few_shortL kids h4 (by omega)
    rw [AllU, AllU]
    refine ⟨⟨⟨shortB_size h3, ?_, ?_, ?_⟩, h5.1⟩, shortB_len h2, h5.2⟩
    · have := shortB_len h3
      simp only [GUnit.words]
      omega
    · have := preL_ge kids
      simp only [GUnit.kids]
      omega
    · intro x hx
      have := wordsF_label (wordsL_mem h4 x hx)
      omega
theorem few_shortL : ∀ us, wordsL us = true → (preL us).length ≤ 1000 → AllUs shortU us ∧ AllUs (fun u => u.head.length ≤ 300) us
  | [], _, _ => by rw [AllUs, AllUs]; exact ⟨trivial, trivial⟩
  | u :: r, h, hp => by
    rw [wordsL, Bool.and_eq_true] at h
    rw [preL, List.length_append] at hp
    have h1 := few_short u h.1 (by omega)
    have h2 := few_shortL r h.2 (by omega)
    rw [AllUs, AllUs]
    exact ⟨⟨h1.1, h2.1⟩, h1.2, h2.2⟩
end
theorem okT_of {u : GUnit} (h1 : AllU shortU u) (h2 : AllU (fun u => u.head.length ≤ 300) u) (h3 : (preF u).length ≤ 1000) : OkT u := by
  refine ⟨h1, ?_, h3, h2⟩
  refine AllU.mono ?_ _ (AllU.and _ h1 h2)
  rintro ⟨a, i, n, k, l, hd, wd, kids⟩ ⟨⟨-, h4, h5, -⟩, h6⟩
  simp only [GUnit.words, GUnit.kids, GUnit.head] at h4 h5 h6
  rw [lensLe]
  omega
theorem few_ok {u : GUnit} (h : fewF u 60 = true) : OkT u := by
  unfold fewF at h
  rw [Bool.and_eq_true, decide_eq_true_eq] at h
  have h1 := sizeF_pre u 0 60 (by omega) h.1
  have h2 := few_short u h.2 (by omega)
  exact okT_of h2.1 h2.2 (by omega)
theorem OkT.fewA {u : GUnit} (h : OkT u) : AllU fewA u := AllU.mono (fun u hs => by have := hs.2.1; unfold Proofs.YtiacmahfjcolaaaDoor.fewA; omega) _ h.sh
theorem preF_relab (L : List ByteArray) (u : GUnit) : (preF (relab L u)).length = (preF u).length := by
  cases u
  rw [relab, preF, preF]
  simp
mutual
theorem preF_num : ∀ u : GUnit, (preF (numF u)).length = (preF u).length
  | .mk a i n k l hd wd ks => by
    rw [numF, preF, preF, List.length_cons, List.length_cons, preL_num _ ks]
theorem preL_num (L : List ByteArray) : ∀ us : List GUnit, (preL (numL L us)).length = (preL us).length
  | [] => by rw [numL]
  | u :: r => by rw [numL, preL, preL, List.length_append, List.length_append, preF_relab, preF_num u, preL_num L r]
end
theorem heads_relab (L : List ByteArray) (u : GUnit) (h : AllU (fun u => u.head.length ≤ 300) u) : AllU (fun u => u.head.length ≤ 300) (relab L u) := by
  cases u
  rw [AllU] at h
  rw [relab, AllU]
  exact h
mutual
theorem heads_num : ∀ u : GUnit, AllU (fun u => u.head.length ≤ 300) u → AllU (fun u => u.head.length ≤ 300) (numF u)
  | .mk a i n k l hd wd ks, h => by
    rw [AllU] at h
    rw [numF, AllU]
    exact ⟨h.1, headsL_num _ ks h.2⟩
theorem headsL_num (L : List ByteArray) : ∀ us : List GUnit, AllUs (fun u => u.head.length ≤ 300) us → AllUs (fun u => u.head.length ≤ 300) (numL L us)
  | [], _ => by rw [numL, AllUs]; trivial
  | u :: r, h => by
    rw [AllUs] at h
    rw [numL, AllUs]
    exact ⟨heads_relab L _ (heads_num u h.1), headsL_num L r h.2⟩
end
theorem short_relab (L : List ByteArray) (u : GUnit) (h : AllU shortU u) : AllU shortU (relab L u) := by
  cases u
  rw [AllU] at h
  rw [relab, AllU]
  exact h
theorem numL_mem {L : List ByteArray} : ∀ {ks : List GUnit} {x : GUnit}, x ∈ numL L ks → ∃ u ∈ ks, x = relab L (numF u)
  | u :: r, x, hx => by
    rw [numL] at hx
    rcases List.mem_cons.1 hx with rfl | hx
    · exact ⟨u, List.mem_cons_self .., rfl⟩
    · obtain ⟨v, hv, he⟩ := numL_mem hx
      exact ⟨v, List.mem_cons_of_mem _ hv, he⟩
theorem noteL_mem : ∀ {ks : List GUnit} {x : GUnit}, x ∈ ks → x.kind = 7 → x.label ∈ noteL ks
  | u :: r, x, hx, h7 => by
    rw [noteL]
    rcases List.mem_cons.1 hx with rfl | hx
    · rw [if_pos h7]; exact List.mem_cons_self ..
    · split
      · exact List.mem_cons_of_mem _ (noteL_mem hx h7)
      · exact noteL_mem hx h7
mutual
theorem short_num : ∀ u : GUnit, AllU shortU u → checkF u = [] → AllU shortU (numF u)
  | .mk a i n k l hd wd ks, h, hc => by
    rw [AllU] at h
    rw [check_iff] at hc
    obtain ⟨⟨h1, h2, h3, h4⟩, h5⟩ := h
    simp only [GUnit.words, GUnit.kids] at h1 h2 h3 h4
    have hl : (anchL wd).length ≤ 310 := Nat.le_trans (anchL_len wd) h2
    rw [numF, AllU]
    refine ⟨⟨?_, ?_, ?_, ?_⟩, shortL_num _ ks h5 hc.2⟩
    · intro x hx
      obtain ⟨y, hy, rfl⟩ := List.mem_map.1 hx
      unfold renW
      split
      · rename_i hb
        have := labF_size (L := anchL wd) (s := ancT y.t) (by omega) (anchL_mem hy hb)
        rw [ByteArray.size_append]
        have : (⟨#[94]⟩ : ByteArray).size = 1 := rfl
        omega
      · exact h1 y hy
    · simp only [GUnit.words, List.length_map]; exact h2
    · simp only [GUnit.kids, numL_len]; exact h3
    · intro x hx
      simp only [GUnit.kids] at hx
      obtain ⟨v, hv, rfl⟩ := numL_mem hx
      rw [relab_label, (num_kl v).1, (num_kl v).2]
      split
      · rename_i h7
        have := labF_size (L := anchL wd) (s := v.label) (by omega) (hc.1.na _ (noteL_mem hv h7))
        omega
      · exact h4 v hv
theorem shortL_num (L : List ByteArray) : ∀ us : List GUnit, AllUs shortU us → checkL us = [] → AllUs shortU (numL L us)
  | [], _, _ => by rw [numL, AllUs]; trivial
  | u :: r, h, hc => by
    rw [AllUs] at h
    rw [checkL, List.append_eq_nil_iff] at hc
    rw [numL, AllUs]
    exact ⟨short_relab L _ (short_num u h.1 hc.1), shortL_num L r h.2 hc.2⟩
end
theorem OkT.num {u : GUnit} (h : OkT u) (hc : checkF u = []) : OkT (numF u) := okT_of (short_num u h.sh hc) (heads_num u h.hds) (by rw [preF_num]; exact h.few)
theorem AllUs_iff {p : GUnit → Prop} : ∀ us : List GUnit, AllUs p us ↔ ∀ x ∈ us, AllU p x
  | [] => by rw [AllUs]; simp
  | u :: r => by rw [AllUs, AllUs_iff r, List.forall_mem_cons]
theorem preL_append (a b : List GUnit) : preL (a ++ b) = preL a ++ preL b := by
  induction a with
  | nil => rfl
  | cons x r ih => rw [List.cons_append, preL, preL, ih, List.append_assoc]
section
variable {a i n k : Int} {l : ByteArray} {hd wd : List GWord} {ks : List GUnit}
theorem OkT.words {wd' : List GWord} (h : OkT (.mk a i n k l hd wd ks)) (h1 : shortW wd') (h2 : wd'.length ≤ 310) : OkT (.mk a i n k l hd wd' ks) := by
  have hs := h.sh
  have hh := h.hds
  have hf := h.few
  rw [AllU] at hs hh
  rw [preF, List.length_cons] at hf
  refine okT_of ?_ ?_ ?_
  · rw [AllU]; exact ⟨⟨h1, h2, hs.1.2.2⟩, hs.2⟩
  · rw [AllU]; exact hh
  · rw [preF, List.length_cons]; exact hf
theorem OkT.lose {p q : List GUnit} {x : GUnit} (h : OkT (.mk a i n k l hd wd ks)) (he : ks = p ++ x :: q) : OkT (.mk a i n k l hd wd (p ++ q)) := by
  have hs := h.sh
  have hh := h.hds
  have hf := h.few
  rw [AllU] at hs hh
  rw [preF, List.length_cons, he, preL_append, preL, List.length_append, List.length_append] at hf
  obtain ⟨⟨h1, h2, h3, h4⟩, h5⟩ := hs
  simp only [GUnit.words, GUnit.kids] at h1 h2 h3 h4
  have hm : ∀ y ∈ p ++ q, y ∈ ks := fun y hy => by
    rw [he]
    simp only [List.mem_append, List.mem_cons] at hy ⊢
    exact hy.imp id .inr
  refine okT_of ?_ ?_ ?_
  · rw [AllU]
    refine ⟨⟨h1, h2, ?_, fun y hy => h4 y (hm y hy)⟩, (AllUs_iff _).2 fun y hy => (AllUs_iff _).1 h5 y (hm y hy)⟩
    simp only [GUnit.kids]
    rw [he] at h3
    simp at h3 ⊢
    omega
  · rw [AllU]
    exact ⟨hh.1, (AllUs_iff _).2 fun y hy => (AllUs_iff _).1 hh.2 y (hm y hy)⟩
  · rw [preF, List.length_cons, preL_append, List.length_append]
    omega
end

end Go.Proofs.YtiacmahfjcolaaaDoor
