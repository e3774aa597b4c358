/- What the law on sorting says of the sorted table. -/
import Derived.Test.YthjlnpcanccmkaaSortBy9
import Derived.Test.YthjlnpcanccmkaaSameG9
namespace Go.Proofs.Ythjlnpcanccmkaa
open Go.RowKit

theorem sortU_kids (j : Nat) (u : GUnit) : (sortU j u).kids = sortL (ltG j) u.kids ∧ (sortU j u).kind = u.kind := by
  obtain ⟨a, i, n, k, l, h, w, ks⟩ := u
  exact ⟨rfl, rfl⟩
theorem sort_perm (j : Nat) (l : List GUnit) : l.Perm (sortL (ltG j) l) := (sortL_ok (ltG_wk j) l).2.perm
theorem sort_valid {u : GUnit} {j : Nat} (h : validB u = true) : validB (sortU j u) = true ∧ (sortU j u).kids.length = u.kids.length ∧ ncols (sortU j u) = ncols u := by
  obtain ⟨v1, v2, v3, v4⟩ := validB_parts h
  obtain ⟨e1, e2⟩ := sortU_kids j u
  have hp := sort_perm j u.kids
  have hl : (sortU j u).kids.length = u.kids.length := by rw [e1]; exact hp.length_eq.symm
  have hn : ncols (sortU j u) = ncols u := by
    obtain ⟨nc, hnc⟩ : ∃ nc, ncols u = nc := ⟨_, rfl⟩
    rw [hnc] at v4 ⊢
    unfold ncols
    rw [e1]
    cases hs : sortL (ltG j) u.kids with
    | nil => rw [e1, hs] at hl; simp at hl; omega
    | cons x xs =>
      have hx : x ∈ u.kids := hp.mem_iff.2 (by rw [hs]; simp)
      exact (rowOk_parts (List.all_eq_true.1 v4 x hx)).2.1
  refine ⟨?_, hl, hn⟩
  unfold validB
  rw [hn, hl, e2, e1]
  simp only [Bool.and_eq_true, decide_eq_true_eq]
  refine ⟨⟨⟨v1, by simp [manyB]; omega⟩, by simp [manyB]; omega⟩, ?_⟩
  rw [List.all_eq_true]
  exact fun x hx => List.all_eq_true.1 v4 x (hp.mem_iff.2 hx)
theorem sort_there {u : GUnit} {j : Nat} (h : validB u = true) (a b : Int) : thereB (sortU j u) a b = thereB u a b := by
  obtain ⟨h1, h2, h3⟩ := sort_valid (j := j) h
  simp only [thereB, rowsF, colsF, h1, h, h2, h3]
theorem cntL_perm {l l' : List GUnit} (h : l.Perm l') : cntL l = cntL l' := by
  induction h with
  | nil => rfl
  | cons x _ ih => simp only [cntL, ih]
  | swap x y l => simp only [cntL]; omega
  | trans _ _ h1 h2 => exact h1.trans h2
theorem allUs_iff {p : GUnit → Prop} : ∀ {l : List GUnit}, AllUs p l ↔ ∀ x ∈ l, AllU p x
  | [] => by rw [AllUs]; simp
  | u :: us => by rw [AllUs, allUs_iff]; simp
theorem sort_all {p : GUnit → Prop} {u : GUnit} {j : Nat} (hp : ∀ ks, p u → p (withKids ks u)) (h : AllU p u) : AllU p (sortU j u) := by
  obtain ⟨a, i, n, k, l, hh, w, ks⟩ := u
  rw [AllU] at h
  show AllU p (.mk a i n k l hh w (sortL (ltG j) ks))
  rw [AllU]
  exact ⟨hp _ h.1, allUs_iff.2 fun x hx => allUs_iff.1 h.2 x ((sort_perm j ks).mem_iff.2 hx)⟩
theorem sort_small {u : GUnit} {j : Nat} (h : smallU u) : smallU (sortU j u) := by
  refine ⟨?_, sort_all (fun ks hq => ?_) h.2⟩
  · obtain ⟨a, i, n, k, l, hh, w, ks⟩ := u
    have h1 := h.1
    show cntF (.mk a i n k l hh w (sortL (ltG j) ks)) ≤ 60
    rw [cntF] at h1 ⊢
    rw [← cntL_perm (sort_perm j ks)]
    exact h1
  · obtain ⟨a, i, n, k, l, hh, w, ks'⟩ := u
    exact hq
theorem sort_again (j : Nat) (u : GUnit) : sortU j (sortU j u) = sortU j u := by
  obtain ⟨a, i, n, k, l, hh, w, ks⟩ := u
  show GUnit.mk a i n k l hh w (sortL (ltG j) (sortL (ltG j) ks)) = GUnit.mk a i n k l hh w (sortL (ltG j) ks)
  have h1 := sortL_ok (ltG_wk j) ks
  have h2 := sortL_ok (ltG_wk j) (sortL (ltG j) ks)
  rw [← Srt.uniq (ltG_wk j) h1.1 h2.1 h2.2]
theorem col_sorted {u : GUnit} {j : Nat} (h : thereB u 0 (j : Nat) = true) : columnF (sortU j u) (j : Nat) = (sortL (ltG j) u.kids).map (cellText j) := by
  obtain ⟨hv, -⟩ := there_parts2 h
  unfold columnF
  rw [sort_there hv, h, if_pos rfl, (sortU_kids j u).1]
  rfl
theorem col_step {j : Nat} {l : List GUnit} {L : List ByteArray} (hL : L = (sortL (ltG j) l).map (cellText j)) : ∀ i, 0 < i → i < L.length → ∃ x y, L[i - 1]? = some x ∧ L[i]? = some y ∧ lessB y x = false := by
  subst hL
  intro i h1 h2
  have h2' := h2
  simp only [List.length_map] at h2'
  have h3 : i - 1 < (sortL (ltG j) l).length := by omega
  refine ⟨cellText j (sortL (ltG j) l)[i - 1], cellText j (sortL (ltG j) l)[i], by simp [List.getElem?_eq_getElem h3], by simp [List.getElem?_eq_getElem h2'], ?_⟩
  exact List.pairwise_iff_getElem.1 (sortL_ok (ltG_wk j) l).1 (i - 1) i h3 h2' (by omega)
theorem sort_count (f : GUnit → Bool) (j : Nat) (l : List GUnit) : (sortL (ltG j) l).countP f = l.countP f := (sort_perm j l).symm.countP_eq f
theorem countP_take_succ (f : GUnit → Bool) (l : List GUnit) (k : Nat) (h : k < l.length) : (l.take (k + 1)).countP f = (l.take k).countP f + (if f l[k] = true then 1 else 0) := by
  rw [List.take_succ_eq_append_getElem h, List.countP_append, List.countP_singleton]

/-- neighbours that are alike by the second column stand as the first column has them -/
theorem stable_pair {a b : Nat} {u v : List GUnit} (hso : SO (ltG b) u v) (hu : Srt (ltG a) u) {A B : List GUnit} {p q : GUnit} (hv : v = A ++ p :: q :: B) (h1 : ltG b p q = false) (h2 : ltG b q p = false) : ltG a q p = false := by
  have e1 : eqv (ltG b) p p = true := by simp [eqv, (ltG_wk b).irr]
  have e2 : eqv (ltG b) p q = true := by simp [eqv, h1, h2]
  have hc := hso.cls p
  rw [hv, List.filter_append, List.filter_cons_of_pos e1, List.filter_cons_of_pos e2] at hc
  have hs : Srt (ltG a) (u.filter (eqv (ltG b) p)) := List.Pairwise.filter _ hu
  rw [hc] at hs
  have := (List.pairwise_append.1 hs).2.1
  exact (List.pairwise_cons.1 this).1 q (by simp)
theorem stable_cols {a b : Nat} {t : GUnit} : ∀ i, 0 < i → i < (sortU b (sortU a t)).kids.length →
    ∃ p q, (sortU b (sortU a t)).kids[i - 1]? = some p ∧ (sortU b (sortU a t)).kids[i]? = some q ∧ lessB (cellText b q) (cellText b p) = false ∧ (cellText b p = cellText b q → lessB (cellText a q) (cellText a p) = false) := by
  intro i h1 h2
  rw [(sortU_kids b _).1, (sortU_kids a _).1] at h2 ⊢
  obtain ⟨hs, hso⟩ := sortL_ok (ltG_wk b) (sortL (ltG a) t.kids)
  have hu := (sortL_ok (ltG_wk a) t.kids).1
  obtain ⟨v, hv⟩ : ∃ v, sortL (ltG b) (sortL (ltG a) t.kids) = v := ⟨_, rfl⟩
  rw [hv] at h2 hs hso ⊢
  have h3 : i - 1 < v.length := by omega
  refine ⟨v[i - 1], v[i], List.getElem?_eq_getElem h3, List.getElem?_eq_getElem h2, ?_, fun he => ?_⟩
  · exact List.pairwise_iff_getElem.1 hs (i - 1) i h3 h2 (by omega)
  · have hd : v = v.take (i - 1) ++ v[i - 1] :: v[i] :: v.drop (i + 1) := by
      conv => lhs; rw [← List.take_append_drop (i - 1) v, List.drop_eq_getElem_cons h3]
      congr 2
      have : i - 1 + 1 = i := by omega
      rw [this]
      exact List.drop_eq_getElem_cons h2
    refine stable_pair hso hu hd ?_ ?_
    · show lessB (cellText b v[i - 1]) (cellText b v[i]) = false
      rw [he]; exact bl_irr _
    · show lessB (cellText b v[i]) (cellText b v[i - 1]) = false
      rw [he]; exact bl_irr _

end Go.Proofs.Ythjlnpcanccmkaa
