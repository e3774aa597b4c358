/- Sorted and without twins is the same as inserted one by one. -/
import Derived.Test.YtkbmocgjbhmioaaAdd22
namespace Go.Proofs.Ytkbmocgjbhmioaa
open Go.RowKit

/-- strictly ascending -/
def AscR (l : List (Int × Int)) : Prop := l.Pairwise (fun x y => lessR x y = true)
theorem lessR_asymm {x y : Int × Int} (h : lessR x y = true) : lessR y x = false := by
  rw [lessR_iff] at h; rw [lessR_not]; omega
theorem lessR_trans {x y z : Int × Int} (h : lessR x y = true) (k : lessR y z = true) : lessR x z = true := by
  rw [lessR_iff] at *; omega
theorem lessR_le {x y z : Int × Int} (h : lessR x y = true) (k : lessR z y = false) : lessR x z = true := by
  rw [lessR_iff] at *; rw [lessR_not] at k; omega

theorem addR_mem (p : Int × Int) : ∀ (l : List (Int × Int)) (x : Int × Int), x ∈ addR p l ↔ x = p ∨ x ∈ l
  | [], x => by simp [addR]
  | y :: r, x => by
    have ih := addR_mem p r x
    unfold addR
    split
    · simp only [List.mem_cons, ih]
      constructor
      · rintro (h | h | h)
        · exact .inr (.inl h)
        · exact .inl h
        · exact .inr (.inr h)
      · rintro (h | h | h)
        · exact .inr (.inl h)
        · exact .inl h
        · exact .inr (.inr h)
    · split
      · rename_i e
        subst e
        simp only [List.mem_cons]
        constructor
        · exact fun h => .inr h
        · rintro (h | h)
          · exact .inl h
          · exact h
      · simp only [List.mem_cons]
theorem addR_asc (p : Int × Int) : ∀ (l : List (Int × Int)), AscR l → AscR (addR p l)
  | [], _ => by simp [addR, AscR]
  | y :: r, h => by
    unfold AscR at h ⊢
    rw [List.pairwise_cons] at h
    unfold addR
    split
    · rename_i hy
      rw [List.pairwise_cons]
      refine ⟨fun x hx => ?_, addR_asc p r h.2⟩
      rcases (addR_mem p r x).1 hx with rfl | hx
      · exact hy
      · exact h.1 x hx
    · rename_i hy
      split
      · rw [List.pairwise_cons]; exact h
      · rename_i hne
        have hpy : lessR p y = true := by
          cases hl : lessR p y with
          | true => rfl
          | false => exact absurd (lessR_tot (by simpa using hy) hl) hne
        rw [List.pairwise_cons, List.pairwise_cons]
        refine ⟨fun x hx => ?_, h⟩
        rcases List.mem_cons.1 hx with rfl | hx
        · exact hpy
        · exact lessR_trans hpy (h.1 x hx)
theorem addR_length (p : Int × Int) : ∀ (l : List (Int × Int)), (addR p l).length ≤ l.length + 1
  | [] => by simp [addR]
  | y :: r => by
    have := addR_length p r
    unfold addR
    split
    · simp; omega
    · split <;> simp

/-- strictly ascending lists with the same members are one -/
theorem asc_ext : ∀ (l m : List (Int × Int)), AscR l → AscR m → (∀ x, x ∈ l ↔ x ∈ m) → l = m
  | [], [], _, _, _ => rfl
  | [], y :: m, _, _, h => by have := (h y).2 (by simp); simp at this
  | x :: l, [], _, _, h => by have := (h x).1 (by simp); simp at this
  | x :: l, y :: m, h1, h2, h => by
    unfold AscR at h1 h2
    rw [List.pairwise_cons] at h1 h2
    have irr : ∀ z : Int × Int, lessR z z = false := fun z => by rw [lessR_not]; omega
    have hxy : x = y := by
      rcases List.mem_cons.1 ((h x).1 (by simp)) with e | hx
      · exact e
      · rcases List.mem_cons.1 ((h y).2 (by simp)) with e | hy
        · exact e.symm
        · have := lessR_asymm (h1.1 y hy)
          rw [h2.1 x hx] at this
          cases this
    subst hxy
    congr 1
    refine asc_ext l m h1.2 h2.2 fun z => ?_
    constructor
    · intro hz
      rcases List.mem_cons.1 ((h z).1 (by simp [hz])) with rfl | hz'
      · have := h1.1 z hz
        rw [irr] at this
        cases this
      · exact hz'
    · intro hz
      rcases List.mem_cons.1 ((h z).2 (by simp [hz])) with rfl | hz'
      · have := h2.1 z hz
        rw [irr] at this
        cases this
      · exact hz'

theorem snoc_ind {α : Type} {p : List α → Prop} (h0 : p []) (h1 : ∀ l x, p l → p (l ++ [x])) (l : List α) : p l := by
  have : ∀ r : List α, p r.reverse := by
    intro r
    induction r with
    | nil => exact h0
    | cons x r ih => rw [List.reverse_cons]; exact h1 _ _ ih
  simpa using this l.reverse
theorem ddL_sorted (xs : List (Int × Int)) : xs.Pairwise (fun x y => lessR y x = false) → AscR (ddL xs) ∧ (∀ x, x ∈ ddL xs ↔ x ∈ xs) := by
  refine snoc_ind (p := fun xs => xs.Pairwise (fun x y => lessR y x = false) → AscR (ddL xs) ∧ (∀ x, x ∈ ddL xs ↔ x ∈ xs)) ?_ ?_ xs
  · intro _; exact ⟨List.Pairwise.nil, fun x => Iff.rfl⟩
  · intro l y ih hp
    rw [List.pairwise_append] at hp
    obtain ⟨h1, -, h3⟩ := hp
    obtain ⟨i1, i2⟩ := ih h1
    rw [ddL_snoc]
    split
    · rename_i he
      have hy : y ∈ ddL l := List.mem_of_getLast? he
      refine ⟨i1, fun x => ?_⟩
      rw [i2, List.mem_append]
      constructor
      · exact .inl
      · rintro (h | h)
        · exact h
        · simp at h; subst h; exact (i2 _).1 hy
    · rename_i he
      refine ⟨?_, fun x => by rw [List.mem_append, List.mem_append, i2]⟩
      unfold AscR
      rw [List.pairwise_append]
      refine ⟨i1, by simp, fun a ha b hb => ?_⟩
      simp at hb
      subst hb
      have hab := h3 a ((i2 a).1 ha) b (by simp)
      cases hl : lessR a b with
      | true => rfl
      | false =>
        exfalso
        have := lessR_tot hl hab
        subst this
        rcases List.eq_nil_or_concat (ddL l) with e | ⟨m, z, e⟩
        · rw [e] at ha; simp at ha
        · rw [List.concat_eq_append] at e
          rw [e] at he ha i1 i2
          simp at he
          have hz := h3 z ((i2 z).1 (by simp)) a (by simp)
          rcases List.mem_append.1 ha with hm | hm
          · unfold AscR at i1
            rw [List.pairwise_append] at i1
            have := i1.2.2 a hm z (by simp)
            rw [hz] at this
            cases this
          · simp at hm; exact he hm.symm

def refOf (x : GWord) : Int × Int := (x.a, x.i)
def authR (l : List GWord) : List (Int × Int) := l.foldl (fun acc x => addR (refOf x) acc) []
theorem authR_take {l : List GWord} {k : Nat} (h : k < l.length) : authR (l.take (k + 1)) = addR (refOf l[k]) (authR (l.take k)) := by
  unfold authR
  rw [List.take_succ_eq_append_getElem h, List.foldl_append]
  rfl
theorem authR_spec (l : List GWord) : AscR (authR l) ∧ ∀ x, x ∈ authR l ↔ x ∈ l.map refOf := by
  refine snoc_ind (p := fun l => AscR (authR l) ∧ ∀ x, x ∈ authR l ↔ x ∈ l.map refOf) ⟨List.Pairwise.nil, fun x => Iff.rfl⟩ (fun l y ih => ?_) l
  have e : authR (l ++ [y]) = addR (refOf y) (authR l) := by unfold authR; rw [List.foldl_append]; rfl
  rw [e]
  refine ⟨addR_asc _ _ ih.1, fun x => ?_⟩
  rw [addR_mem, ih.2, List.map_append, List.mem_append, List.map_cons, List.map_nil, List.mem_singleton, or_comm]
theorem authR_length (l : List GWord) : (authR l).length ≤ l.length := by
  refine snoc_ind (p := fun l => (authR l).length ≤ l.length) (Nat.le_refl _) (fun l y ih => ?_) l
  have e : authR (l ++ [y]) = addR (refOf y) (authR l) := by unfold authR; rw [List.foldl_append]; rfl
  have := addR_length (refOf y) (authR l)
  rw [e, List.length_append, List.length_singleton]
  omega
/-- THE LAW in lists -/
theorem auth_law {l : List GWord} {ys : List (Int × Int)} (hp : (l.map refOf).Perm ys) (hs : ys.Pairwise (fun x y => lessR y x = false)) : ddL ys = authR l := by
  obtain ⟨h1, h2⟩ := ddL_sorted ys hs
  obtain ⟨h3, h4⟩ := authR_spec l
  exact asc_ext _ _ h1 h3 fun x => by rw [h2, h4, hp.mem_iff]

end Go.Proofs.Ytkbmocgjbhmioaa
