/- Stable sorting of lists, in plain words: sorted lists with the same elements of each class in the same order are one list; what merging by rotation needs. Sorting a row of units in place: what stays while the row turns, and the exact outcomes of the operations that exchange two of its places. -/
import Derived.Test.YtjhdamjbljafhaaGreatDoorP02
import Derived.Test.YtjhdamjbljafhaaGreatDoorP18
import Derived.Test.YtjhdamjbljafhaaGreatDoorP04
namespace Go.Proofs.YtjhdamjbljafhaaGreatDoor
open Go.RowKit
section
variable {α : Type} {lt : α → α → Bool}
structure Wk (lt : α → α → Bool) : Prop where
  irr : ∀ x, lt x x = false
  tr : ∀ x y z, lt x y = true → lt y z = true → lt x z = true
  nt : ∀ x y z, lt x y = false → lt y z = false → lt x z = false
theorem Wk.asy (h : Wk lt) {x y : α} (hxy : lt x y = true) : lt y x = false := by
  cases hyx : lt y x with
  | false => rfl
  | true => have := h.tr x y x hxy hyx; rw [h.irr] at this; cases this
def Srt (lt : α → α → Bool) (l : List α) : Prop := l.Pairwise fun x y => lt y x = false
def eqv (lt : α → α → Bool) (x y : α) : Bool := !lt x y && !lt y x
structure SO (lt : α → α → Bool) (l l' : List α) : Prop where
  cls : ∀ z, l.filter (eqv lt z) = l'.filter (eqv lt z)
  perm : l.Perm l'
theorem SO.refl (l : List α) : SO lt l l := ⟨fun _ => rfl, .refl _⟩
theorem SO.symm {l l' : List α} (h : SO lt l l') : SO lt l' l := ⟨fun z => (h.cls z).symm, h.perm.symm⟩
theorem SO.trans {a b c : List α} (h : SO lt a b) (k : SO lt b c) : SO lt a c := ⟨fun z => (h.cls z).trans (k.cls z), h.perm.trans k.perm⟩
theorem SO.append {a a' b b' : List α} (h : SO lt a a') (k : SO lt b b') : SO lt (a ++ b) (a' ++ b') := ⟨fun z => by rw [List.filter_append, List.filter_append, h.cls, k.cls], h.perm.append k.perm⟩
theorem eqv_parts {x y : α} (h : eqv lt x y = true) : lt x y = false ∧ lt y x = false := by simpa [eqv] using h
theorem SO.swap (hw : Wk lt) {X Y : List α} (h : ∀ x ∈ X, ∀ y ∈ Y, lt y x = true) : SO lt (X ++ Y) (Y ++ X) := by
  refine ⟨fun z => ?_, List.perm_append_comm⟩
  rw [List.filter_append, List.filter_append]
  by_cases hX : ∃ x ∈ X, eqv lt z x = true
  · obtain ⟨x, hx, hz⟩ := hX
    have : Y.filter (eqv lt z) = [] := by
      rw [List.filter_eq_nil_iff]
      intro y hy hzy
      obtain ⟨a1, a2⟩ := eqv_parts hz
      obtain ⟨b1, b2⟩ := eqv_parts hzy
      have := hw.nt y z x b2 a1
      rw [h x hx y hy] at this
      cases this
    rw [this]; simp
  · have : X.filter (eqv lt z) = [] := by
      rw [List.filter_eq_nil_iff]
      intro x hx hz
      exact hX ⟨x, hx, hz⟩
    rw [this]; simp
theorem Srt.append {X Y : List α} (h1 : Srt lt X) (h2 : Srt lt Y) (h3 : ∀ x ∈ X, ∀ y ∈ Y, lt y x = false) : Srt lt (X ++ Y) := List.pairwise_append.2 ⟨h1, h2, h3⟩
theorem Srt.left {X Y : List α} (h : Srt lt (X ++ Y)) : Srt lt X := (List.pairwise_append.1 h).1
theorem Srt.right {X Y : List α} (h : Srt lt (X ++ Y)) : Srt lt Y := (List.pairwise_append.1 h).2.1
theorem Srt.across {X Y : List α} (h : Srt lt (X ++ Y)) : ∀ x ∈ X, ∀ y ∈ Y, lt y x = false := (List.pairwise_append.1 h).2.2
theorem Srt.one (x : α) : Srt lt [x] := List.pairwise_singleton _ _
theorem Srt.nil : Srt lt ([] : List α) := List.Pairwise.nil
theorem merge_split (hw : Wk lt) {L1 L2 R1 R2 M1 M2 : List α} (hL : Srt lt (L1 ++ L2)) (hR : Srt lt (R1 ++ R2)) (h1 : ∀ r ∈ R1, ∀ l ∈ L2, lt r l = true) (h2 : ∀ l ∈ L1, ∀ r ∈ R2, lt r l = false)
    (m1 : SO lt (L1 ++ R1) M1) (m2 : SO lt (L2 ++ R2) M2) (s1 : Srt lt M1) (s2 : Srt lt M2) : Srt lt (M1 ++ M2) ∧ SO lt ((L1 ++ L2) ++ (R1 ++ R2)) (M1 ++ M2) := by
  refine ⟨s1.append s2 fun x hx y hy => ?_, ?_⟩
  · have hx := m1.perm.mem_iff.2 hx
    have hy := m2.perm.mem_iff.2 hy
    rcases List.mem_append.1 hx with hx | hx <;> rcases List.mem_append.1 hy with hy | hy
    · exact hL.across x hx y hy
    · exact h2 x hx y hy
    · exact hw.asy (h1 x hx y hy)
    · exact hR.across x hx y hy
  · refine SO.trans ?_ (m1.append m2)
    have e1 : (L1 ++ L2) ++ (R1 ++ R2) = L1 ++ ((L2 ++ R1) ++ R2) := by simp
    have e2 : L1 ++ R1 ++ (L2 ++ R2) = L1 ++ ((R1 ++ L2) ++ R2) := by simp
    rw [e1, e2]
    exact (SO.refl _).append ((SO.swap hw fun l hl r hr => h1 r hr l hl).append (.refl _))
theorem ins_done (hw : Wk lt) {B1 B2 : List α} {x : α} (hM : Srt lt (B1 ++ B2)) (h1 : ∀ y ∈ B1, lt x y = false) (h2 : ∀ y ∈ B2, lt x y = true) : Srt lt (B1 ++ x :: B2) ∧ SO lt (B1 ++ B2 ++ [x]) (B1 ++ x :: B2) := by
  refine ⟨hM.left.append (List.pairwise_cons.2 ⟨fun y hy => hw.asy (h2 y hy), hM.right⟩) fun y hy z hz => ?_, ?_⟩
  · rcases List.mem_cons.1 hz with rfl | hz
    · exact h1 y hy
    · exact hM.across y hy z hz
  · rw [List.append_assoc]
    exact (SO.refl _).append (SO.swap hw fun y hy z hz => by simp at hz; subst hz; exact h2 y hy)
theorem ins_left (hw : Wk lt) {B1 : List α} {x y : α} (hM : Srt lt (B1 ++ [y])) (h : lt x y = false) : ∀ z ∈ B1 ++ [y], lt x z = false := by
  intro z hz
  rcases List.mem_append.1 hz with hz | hz
  · exact hw.nt x y z h (hM.across z hz y (by simp))
  · simp at hz; subst hz; exact h
theorem swap_adj (A B : List α) (x y : α) : ((A ++ x :: y :: B).set A.length y).set (A.length + 1) x = A ++ y :: x :: B := by
  simp [List.set_append]
theorem swap_far (A B C : List α) (x y : α) : ((A ++ x :: (B ++ y :: C)).set A.length y).set (A.length + 1 + B.length) x = A ++ y :: (B ++ x :: C) := by
  rw [List.set_append_right _ _ (Nat.le_refl _), Nat.sub_self, List.set_cons_zero, List.set_append_right _ _ (by omega), show A.length + 1 + B.length - A.length = B.length + 1 from by omega, List.set_cons_succ, List.set_append_right _ _ (Nat.le_refl _), Nat.sub_self, List.set_cons_zero]
theorem swap_round {P X Y Z S : List α} (hXZ : X.length = Z.length) {t : Nat} (ht : t < X.length) :
    let xs := P ++ Z.take t ++ X.drop t ++ Y ++ X.take t ++ Z.drop t ++ S
    ∃ x z, xs[P.length + t]? = some x ∧ xs[P.length + X.length + Y.length + t]? = some z ∧ (xs.set (P.length + t) z).set (P.length + X.length + Y.length + t) x = P ++ Z.take (t + 1) ++ X.drop (t + 1) ++ Y ++ X.take (t + 1) ++ Z.drop (t + 1) ++ S := by
  intro xs
  have htz : t < Z.length := by omega
  have e1 : xs = (P ++ Z.take t) ++ X[t] :: ((X.drop (t + 1) ++ Y ++ X.take t) ++ Z[t] :: (Z.drop (t + 1) ++ S)) := by
    show P ++ Z.take t ++ X.drop t ++ Y ++ X.take t ++ Z.drop t ++ S = _
    rw [List.drop_eq_getElem_cons ht, List.drop_eq_getElem_cons htz]
    simp only [List.append_assoc, List.cons_append]
  have l1 : (P ++ Z.take t).length = P.length + t := by simp; omega
  have l2 : (X.drop (t + 1) ++ Y ++ X.take t).length + (t + 1) = X.length + Y.length + t := by simp; omega
  have l3 : P.length + X.length + Y.length + t = (P ++ Z.take t).length + 1 + (X.drop (t + 1) ++ Y ++ X.take t).length := by omega
  refine ⟨X[t], Z[t], ?_, ?_, ?_⟩
  · rw [e1, ← l1, List.getElem?_append_right (Nat.le_refl _), Nat.sub_self]; rfl
  · rw [e1, l3, List.getElem?_append_right (by omega), show (P ++ Z.take t).length + 1 + (X.drop (t + 1) ++ Y ++ X.take t).length - (P ++ Z.take t).length = (X.drop (t + 1) ++ Y ++ X.take t).length + 1 from by omega, List.getElem?_cons_succ, List.getElem?_append_right (Nat.le_refl _), Nat.sub_self]; rfl
  · rw [e1, l3, ← l1, swap_far]
    have t1 : Z.take (t + 1) = Z.take t ++ [Z[t]] := by rw [List.take_succ_eq_append_getElem htz]
    have t2 : X.take (t + 1) = X.take t ++ [X[t]] := by rw [List.take_succ_eq_append_getElem ht]
    rw [t1, t2]
    simp only [List.append_assoc, List.cons_append, List.nil_append]
theorem seg_get (A L R : List α) (k : Nat) (hk : k < L.length) : (A ++ L ++ R)[A.length + k]? = some L[k] := by
  rw [List.append_assoc, List.getElem?_append_right (by omega), Nat.add_sub_cancel_left, List.getElem?_append_left hk, List.getElem?_eq_getElem hk]
def SI (lt : α → α → Bool) (xs : List α) (a b : Nat) : Prop := ∀ k k' y y', a ≤ k → k < k' → k' < b → xs[k]? = some y → xs[k']? = some y' → lt y' y = false
theorem SI.of {A L R : List α} (h : Srt lt L) : SI lt (A ++ L ++ R) A.length (A.length + L.length) := by
  intro k k' y y' h1 h2 h3 h4 h5
  obtain ⟨i, rfl⟩ : ∃ i, k = A.length + i := ⟨k - A.length, by omega⟩
  obtain ⟨j, rfl⟩ : ∃ j, k' = A.length + j := ⟨k' - A.length, by omega⟩
  rw [seg_get A L R i (by omega)] at h4
  rw [seg_get A L R j (by omega)] at h5
  cases h4
  cases h5
  exact List.pairwise_iff_getElem.1 h i j (by omega) (by omega) (by omega)
theorem SI.le (hw : Wk lt) {xs : List α} {a b k k' : Nat} {y y' : α} (h : SI lt xs a b) (h1 : a ≤ k) (h2 : k ≤ k') (h3 : k' < b) (h4 : xs[k]? = some y) (h5 : xs[k']? = some y') : lt y' y = false := by
  rcases Nat.lt_or_ge k k' with hlt | hge
  · exact h k k' y y' h1 hlt h3 h4 h5
  · have : k = k' := by omega
    subst this
    rw [h4] at h5
    cases h5
    exact hw.irr y
structure Bs (p : Nat → Bool) (lo hi i j : Nat) : Prop where
  h1 : lo ≤ i
  h2 : i ≤ j
  h3 : j ≤ hi
  low : ∀ k, lo ≤ k → k < i → p k = true
  high : ∀ k, j ≤ k → k < hi → p k = false
theorem Bs.start {p : Nat → Bool} {lo hi : Nat} (h : lo ≤ hi) : Bs p lo hi lo hi := ⟨Nat.le_refl _, h, Nat.le_refl _, fun k h1 h2 => by omega, fun k h1 h2 => by omega⟩
theorem Bs.up {p : Nat → Bool} {lo hi i j h : Nat} (mono : ∀ k k', lo ≤ k → k ≤ k' → k' < hi → p k' = true → p k = true) (b : Bs p lo hi i j) (h1 : i ≤ h) (h2 : h < j) (hp : p h = true) : Bs p lo hi (h + 1) j :=
  ⟨by have := b.h1; omega, by omega, b.h3, fun k h3 h4 => mono k h h3 (by omega) (by have := b.h3; omega) hp, b.high⟩
theorem Bs.down {p : Nat → Bool} {lo hi i j h : Nat} (mono : ∀ k k', lo ≤ k → k ≤ k' → k' < hi → p k' = true → p k = true) (b : Bs p lo hi i j) (h1 : i ≤ h) (h2 : h < j) (hp : p h = false) : Bs p lo hi i h := by
  refine ⟨b.h1, h1, by have := b.h3; omega, b.low, fun k h3 h4 => ?_⟩
  cases hk : p k with
  | false => rfl
  | true => rw [mono h k (by have := b.h1; omega) h3 h4 hk] at hp; cases hp
def at1 (f : α → Bool) (o : Option α) : Bool := match o with | some y => f y | none => false
def at2 (f : α → α → Bool) (o q : Option α) : Bool := match o, q with | some y, some z => f y z | _, _ => false
theorem at1_mem {f : α → Bool} {b : Bool} {A L R : List α} {lo hi : Nat} (h1 : A.length ≤ lo) (h2 : hi ≤ A.length + L.length) (h : ∀ k, lo ≤ k → k < hi → at1 f (A ++ L ++ R)[k]? = b) : ∀ y ∈ (L.take (hi - A.length)).drop (lo - A.length), f y = b := by
  intro y hy
  obtain ⟨i, hi', rfl⟩ := List.getElem_of_mem hy
  have hi2 := hi'
  simp only [List.length_drop, List.length_take] at hi2
  have := h (A.length + (lo - A.length + i)) (by omega) (by omega)
  rw [seg_get A L R _ (by omega)] at this
  simpa [at1] using this
theorem get_of_SI {xs : List α} {k : Nat} (h : k < xs.length) : xs[k]? = some xs[k] := List.getElem?_eq_getElem h
theorem mono_one (hw : Wk lt) {xs : List α} {lo hi : Nat} (hs : SI lt xs lo hi) (hx : hi ≤ xs.length) (X : α) : ∀ k k', lo ≤ k → k ≤ k' → k' < hi → at1 (fun y => lt y X) xs[k']? = true → at1 (fun y => lt y X) xs[k]? = true := by
  intro k k' h1 h2 h3 h4
  have e1 := get_of_SI (xs := xs) (k := k) (by omega)
  have e2 := get_of_SI (xs := xs) (k := k') (by omega)
  have h5 := hs.le hw h1 h2 h3 e1 e2
  rw [e2] at h4
  rw [e1]
  simp only [at1] at h4 ⊢
  cases h : lt xs[k] X with
  | true => rfl
  | false => rw [hw.nt _ _ _ h5 h] at h4; cases h4
theorem mono_two (hw : Wk lt) {xs : List α} {lo hi : Nat} (hs : SI lt xs lo hi) (hx : hi ≤ xs.length) (Y : α) : ∀ k k', lo ≤ k → k ≤ k' → k' < hi → at1 (fun z => !lt Y z) xs[k']? = true → at1 (fun z => !lt Y z) xs[k]? = true := by
  intro k k' h1 h2 h3 h4
  have e1 := get_of_SI (xs := xs) (k := k) (by omega)
  have e2 := get_of_SI (xs := xs) (k := k') (by omega)
  have h5 := hs.le hw h1 h2 h3 e1 e2
  rw [e2] at h4
  rw [e1]
  simp only [at1, Bool.not_eq_true'] at h4 ⊢
  exact hw.nt _ _ _ h4 h5
theorem mono_both (hw : Wk lt) {xs : List α} {a m b lo hi pp : Nat} (hs1 : SI lt xs a m) (hs2 : SI lt xs m b) (hx : b ≤ xs.length) (h1 : a ≤ lo) (h2 : hi ≤ m) (h3 : ∀ c, lo ≤ c → c < hi → c ≤ pp ∧ m ≤ pp - c ∧ pp - c < b) :
    ∀ k k', lo ≤ k → k ≤ k' → k' < hi → at2 (fun u v => !lt u v) xs[pp - k']? xs[k']? = true → at2 (fun u v => !lt u v) xs[pp - k]? xs[k]? = true := by
  intro k k' h4 h5 h6 h7
  have b1 := h3 k h4 (by omega)
  have b2 := h3 k' (by omega) h6
  have hmb : m ≤ b := by omega
  have e1 := get_of_SI (xs := xs) (k := k) (by omega)
  have e2 := get_of_SI (xs := xs) (k := k') (by omega)
  have e3 := get_of_SI (xs := xs) (k := pp - k) (by omega)
  have e4 := get_of_SI (xs := xs) (k := pp - k') (by omega)
  have f1 := hs1.le hw (by omega) h5 (by omega) e1 e2
  have f2 := hs2.le hw b2.2.1 (by omega) b1.2.2 e4 e3
  rw [e2, e4] at h7
  rw [e1, e3]
  simp only [at2, Bool.not_eq_true'] at h7 ⊢
  exact hw.nt _ _ _ (hw.nt _ _ _ f2 h7) f1
theorem ins_front (hw : Wk lt) {R1 R2 : List α} {x : α} (hR : Srt lt (R1 ++ R2)) (h1 : ∀ y ∈ R1, lt y x = true) (h2 : ∀ y ∈ R2, lt y x = false) : Srt lt (R1 ++ x :: R2) ∧ SO lt ([x] ++ (R1 ++ R2)) (R1 ++ x :: R2) := by
  refine ⟨hR.left.append (List.pairwise_cons.2 ⟨h2, hR.right⟩) fun y hy z hz => ?_, ?_⟩
  · rcases List.mem_cons.1 hz with rfl | hz
    · exact hw.asy (h1 y hy)
    · exact hR.across y hy z hz
  · rw [← List.append_assoc, show R1 ++ x :: R2 = (R1 ++ [x]) ++ R2 by simp]
    exact (SO.swap hw fun z hz y hy => by simp at hz; subst hz; exact h1 y hy).append (SO.refl _)
theorem sym_cut (hw : Wk lt) {L R xs : List α} {a m b mid lo hi s e pp : Nat} (hL : Srt lt L) (hR : Srt lt R) (lL : L.length = m - a) (lR : R.length = b - m) (ham : a < m) (hmb : m < b)
    (gL : ∀ j (h : j < L.length), xs[a + j]? = some L[j]) (gR : ∀ i (h : i < R.length), xs[m + i]? = some R[i])
    (hp : pp + 1 = mid + m) (hs : s + e = mid + m) (h1 : lo ≤ s) (h2 : s ≤ hi) (hsm : s ≤ mid) (has : a ≤ s) (hsm2 : s ≤ m) (heb : e ≤ b)
    (low : ∀ k, lo ≤ k → k < s → at2 (fun u v => !lt u v) xs[pp - k]? xs[k]? = true) (high : ∀ k, s ≤ k → k < hi → at2 (fun u v => !lt u v) xs[pp - k]? xs[k]? = false)
    (hc : (lo = mid + m - b ∧ hi = mid) ∨ (lo = a ∧ hi = m)) :
    (∀ r ∈ R.take (e - m), ∀ l ∈ L.drop (s - a), lt r l = true) ∧ (∀ l ∈ L.take (s - a), ∀ r ∈ R.drop (e - m), lt r l = false) := by
  have pL := fun i j (h : i < j) (hj : j < L.length) => List.pairwise_iff_getElem.1 hL i j (by omega) hj h
  have pR := fun i j (h : i < j) (hj : j < R.length) => List.pairwise_iff_getElem.1 hR i j (by omega) hj h
  have leL : ∀ i j (hi : i < L.length) (hj : j < L.length), i ≤ j → lt L[j] L[i] = false := fun i j hi hj h => by
    rcases Nat.lt_or_ge i j with h' | h'
    · exact pL i j h' hj
    · have : i = j := by omega
      subst this
      exact hw.irr _
  have leR : ∀ i j (hi : i < R.length) (hj : j < R.length), i ≤ j → lt R[j] R[i] = false := fun i j hi hj h => by
    rcases Nat.lt_or_ge i j with h' | h'
    · exact pR i j h' hj
    · have : i = j := by omega
      subst this
      exact hw.irr _
  refine ⟨fun r hr l hl => ?_, fun l hl r hr => ?_⟩
  · obtain ⟨i, hi', rfl⟩ := List.getElem_of_mem hr
    obtain ⟨j, hj', rfl⟩ := List.getElem_of_mem hl
    simp only [List.length_take, List.length_drop] at hi' hj'
    simp only [List.getElem_take, List.getElem_drop]
    rcases Nat.lt_or_ge s hi with hsh | hsh
    · have h3 := high s (Nat.le_refl _) hsh
      have e1 : pp - s = m + (e - 1 - m) := by omega
      have e2 : s = a + (s - a) := by omega
      rw [e1, gR _ (by omega)] at h3
      rw [show xs[s]? = some (L[s - a]'(by omega)) from by have := gL (s - a) (by omega); rwa [← e2] at this] at h3
      simp only [at2, Bool.not_eq_false'] at h3
      cases hrl : lt R[i] L[s - a + j] with
      | true => rfl
      | false =>
        have := hw.nt _ _ _ (hw.nt _ _ _ (leR i (e - 1 - m) (by omega) (by omega) (by omega)) hrl) (leL (s - a) (s - a + j) (by omega) (by omega) (by omega))
        rw [h3] at this
        cases this
    · exfalso
      rcases hc with ⟨h3, h4⟩ | ⟨h3, h4⟩ <;> omega
  · obtain ⟨i, hi', rfl⟩ := List.getElem_of_mem hr
    obtain ⟨j, hj', rfl⟩ := List.getElem_of_mem hl
    simp only [List.length_take, List.length_drop] at hi' hj'
    simp only [List.getElem_take, List.getElem_drop]
    rcases Nat.lt_or_ge lo s with hsh | hsh
    · have h3 := low (s - 1) (by omega) (by omega)
      have e1 : pp - (s - 1) = m + (e - m) := by omega
      have e2 : s - 1 = a + (s - 1 - a) := by omega
      rw [e1, gR _ (by omega)] at h3
      rw [show xs[s - 1]? = some (L[s - 1 - a]'(by omega)) from by have := gL (s - 1 - a) (by omega); rwa [← e2] at this] at h3
      simp only [at2, Bool.not_eq_true'] at h3
      exact hw.nt _ _ _ (hw.nt _ _ _ (leR (e - m) (e - m + i) (by omega) (by omega) (by omega)) h3) (leL j (s - 1 - a) (by omega) (by omega) (by omega))
    · exfalso
      rcases hc with ⟨h3, h4⟩ | ⟨h3, h4⟩ <;> omega
def Full (lt : α → α → Bool) (n : Nat) (X : List α) : Prop := ∃ cs : List (List α), X = cs.flatten ∧ ∀ c ∈ cs, c.length = n ∧ Srt lt c
theorem Full.nil {n : Nat} : Full lt n ([] : List α) := ⟨[], rfl, by simp⟩
theorem Full.snoc {n : Nat} {X c : List α} (h : Full lt n X) (hc : c.length = n) (hs : Srt lt c) : Full lt n (X ++ c) := by
  obtain ⟨cs, rfl, h⟩ := h
  refine ⟨cs ++ [c], by simp, fun d hd => ?_⟩
  rcases List.mem_append.1 hd with hd | hd
  · exact h d hd
  · simp at hd; subst hd; exact ⟨hc, hs⟩
theorem Full.two {n : Nat} {X : List α} (h : Full lt n X) : X = [] ∨ (X.length = n ∧ Srt lt X) ∨ ∃ c1 c2 X', X = c1 ++ c2 ++ X' ∧ c1.length = n ∧ c2.length = n ∧ Srt lt c1 ∧ Srt lt c2 ∧ Full lt n X' := by
  obtain ⟨cs, rfl, h⟩ := h
  match cs, h with
  | [], _ => exact .inl rfl
  | [c], h => refine .inr (.inl ?_); simpa using h c (by simp)
  | c1 :: c2 :: r, h => exact .inr (.inr ⟨c1, c2, r.flatten, by simp, (h c1 (by simp)).1, (h c2 (by simp)).1, (h c1 (by simp)).2, (h c2 (by simp)).2, r, rfl, fun c hc => h c (by simp [hc])⟩)
end
end Go.Proofs.YtjhdamjbljafhaaGreatDoor
namespace Go.Proofs.YtjhdamjbljafhaaGreatDoor
open Go.RowKit
def pairEl : El Tryz.prog (RUnit × GUnit) := { unitEl with E := fun p => p.1.cells, hE := fun _ => rfl, h1 := fun p => unitEl.h1 p.1 }
structure Kp (g : Nat) (w w' : World) : Prop where
  os : w'.os = w.os
  tape : w'.tape = w.tape
  output : w'.output = w.output
  size : w.heap.size ≤ w'.heap.size
  block : ∀ k, k < w.heap.size → k ≠ g → w'.heap[k]? = w.heap[k]?
theorem Kp.refl (g : Nat) (w : World) : Kp g w w := ⟨rfl, rfl, rfl, Nat.le_refl _, fun _ _ _ => rfl⟩
theorem Kp.trans {g : Nat} {a b c : World} (h : Kp g a b) (k : Kp g b c) : Kp g a c := ⟨k.os.trans h.os, k.tape.trans h.tape, k.output.trans h.output, Nat.le_trans h.size k.size, fun j hj hg => (k.block j (by have := h.size; omega) hg).trans (h.block j hj hg)⟩
theorem Kp.of_ext {g : Nat} {w w' : World} (h : Ext w w') : Kp g w w' := ⟨h.os, h.tape, h.output, h.size, fun k hk _ => h.block hk⟩
theorem Kp.put {g : Nat} {w w' : World} (h1 : ∀ k, k ≠ g → w'.heap[k]? = w.heap[k]?) (h2 : w'.os = w.os) (h3 : w'.tape = w.tape) (h4 : w'.output = w.output) (h5 : w'.heap.size = w.heap.size) : Kp g w w' := ⟨h2, h3, h4, by omega, fun k _ hg => h1 k hg⟩
theorem Kp.toExt {g : Nat} {w0 w w' : World} (h : Kp g w w') (he : Ext w0 w) (hg : w0.heap.size ≤ g) : Ext w0 w' :=
  ⟨h.os.trans he.os, h.tape.trans he.tape, h.output.trans he.output, Nat.le_trans he.size h.size, fun k hk => (h.block k (Nat.lt_of_lt_of_le hk he.size) (by omega)).trans (he.block hk)⟩
theorem Kp.cin {g : Nat} {w w' : World} (h : Kp g w w') : CIn (mask (fun k => k == g) w) (mask (fun k => k == g) w') :=
  CIn.keep h.size fun k hk hp => ⟨h.block k hk (by simpa using hp), hp⟩
section
variable {P : Program} {ρ : Operand → Value} {o : Oper} {w : World} {c : Value}
theorem runs_move (x : Operand) (ho : o.op = .move x) (hx : ρ x = c) : RunsTo P ρ o w c w := .inl (by simp [execOp, ho, hx])
theorem runs_bin (op : BinOp) (t t' : TypeId) (x y : Operand) (ho : o.op = .binOp op t x y t') (a b : Int) (hx : ρ x = .int .i64 a) (hy : ρ y = .int .i64 b) (hr : ∀ w, (binOp op t (.int .i64 a) (.int .i64 b)).run P w = .ok c w) : RunsTo P ρ o w c w :=
  .inl (by cases op <;> simp [execOp, ho, hx, hy, eqGuard, hr])
theorem bin_sub (t : TypeId) (a b c : Int) (h : a - b = c) (h1 : -9223372036854775808 ≤ c) (h2 : c ≤ 9223372036854775807) (w : World) : (binOp .sub t (.int .i64 a) (.int .i64 b)).run P w = .ok (.int .i64 c) w := by
  subst h; exact run_sub_i64 t a b h1 h2 w
theorem bin_add (t : TypeId) (a b c : Int) (h : a + b = c) (h1 : -9223372036854775808 ≤ c) (h2 : c ≤ 9223372036854775807) (w : World) : (binOp .add t (.int .i64 a) (.int .i64 b)).run P w = .ok (.int .i64 c) w := by
  subst h; exact run_add_i64 t a b h1 h2 w
variable {α : Type} (D : El P α) {xs : List α} {g cap base : Nat}
theorem runs_index (x i : Operand) (ho : o.op = .indexAddr D.t x i) (n : Nat) (hx : ρ x = .slice (some ⟨g, 0, none⟩) n cap) (k : Nat) (hi : ρ i = .int .i64 k) (hk : k < n) : RunsTo P ρ o w (.pointer (some ⟨g, k * D.m, none⟩)) w := by
  obtain ⟨i', hi', _, hsz, _⟩ := info_parts D.hi
  have hs : ∀ w, (sizeOf D.e).run P w = .ok D.m w := fun w => by simp [sizeOf, typeInfo, hi', hsz]
  have hr : (execOp ρ o).run P w = .ok (.value (.pointer (some ((⟨g, 0, none⟩ : Addr).add (k * D.m))))) w := by
    simp [execOp, ho, hx, hi, Instr.indexAt, asIntOf, run_underlying D.ht, hs, hk]
  have ea : ((⟨g, 0, none⟩ : Addr).add (k * D.m)) = ⟨g, k * D.m, none⟩ := by
    unfold Addr.add
    split
    · rename_i h0; simp [h0]
    · simp
  rw [ea] at hr
  exact .inl hr
theorem runs_load (hag : D.agg = true) (x : Operand) (ho : o.op = .load D.e x) (k : Nat) (hx : ρ x = .pointer (some ⟨g, k * D.m, none⟩)) (hown : Own D base w (.slice (some ⟨g, 0, none⟩) xs.length cap) xs) (y : α) (hk : xs[k]? = some y) : RunsTo P ρ o w (.agg (D.E y).toArray) w := by
  obtain ⟨i', hi', _, hsz, _⟩ := info_parts D.hi
  have hs : ∀ w, (sizeOf D.e).run P w = .ok (D.E y).length w := fun w => by simp [sizeOf, typeInfo, hi', hsz, D.hE]
  have ha : ∀ w, (isAgg D.e).run P w = .ok true w := fun w => by rw [D.hagg w, hag]
  obtain ⟨hlt, hky⟩ := List.getElem?_eq_some_iff.1 hk
  obtain ⟨A, c', hv, hc, hsl⟩ := hown.form
  cases hv
  obtain ⟨b, off, hA, hb, hcell⟩ := hsl.at_ hlt
  cases hA
  rw [hky] at hcell
  have hl := run_loadCells_list (P := P) w ⟨g, k * D.m, none⟩ (D.E y) (fun j u hu => by
    have := hcell j u hu
    rw [Nat.zero_add] at this
    unfold Addr.add
    split
    · rename_i h0; subst h0; simpa using this
    · exact this)
  refine .inl ?_
  simp [execOp, ho, hx, Instr.loadAt, Instr.sureAddr, loadVar, ha, hs, hl]
theorem runs_store (hown : Own D base w (.slice (some ⟨g, 0, none⟩) xs.length cap) xs) (k : Nat) (hk : k < xs.length) (r : α) :
    ∃ w', Kp g w w' ∧ Own D base w' (.slice (some ⟨g, 0, none⟩) xs.length cap) (xs.set k r) ∧
      ∀ (ρ : Operand → Value) (o : Oper) (x y : Operand), o.op = .store D.e x y → ρ x = .pointer (some ⟨g, k * D.m, none⟩) → ρ y = .agg (D.E r).toArray → RunsTo P ρ o w undef w' := by
  obtain ⟨i, hi, _, hsz, _⟩ := info_parts D.hi
  have hs : ∀ w, (sizeOf D.e).run P w = .ok D.m w := fun w => by simp [sizeOf, typeInfo, hi, hsz]
  rcases hown.2 with ⟨hv, h0⟩ | ⟨g', cap, cur, hv, hg, hh, hn, hc, hcs, ht⟩
  · cases hv
  · cases hv
    have hkm : k * D.m + D.m ≤ xs.length * D.m := by rw [← Nat.succ_mul]; exact Nat.mul_le_mul_right _ hk
    have hcm : xs.length * D.m ≤ cur.size := by rw [hcs]; exact Nat.mul_le_mul_right _ hn
    have hrun := run_storeCells_at (P := P) g (k * D.m) D.e (D.E r) 0 cur w hh (by rw [D.hE]; omega) (fun v hv => D.h1 r v hv)
    refine ⟨w.setRow g (cur.toList.take (k * D.m + 0) ++ D.E r ++ cur.toList.drop (k * D.m + 0 + (D.E r).length)).toArray, Kp.put (fun j hj => setRow_other w g j _ hj) rfl rfl rfl (by simp), ?_, ?_⟩
    · have hbk := setRow_heap w g cur (cur.toList.take (k * D.m + 0) ++ D.E r ++ cur.toList.drop (k * D.m + 0 + (D.E r).length)).toArray D.e _ hh
      rw [Nat.add_zero] at hbk ⊢
      have hl : (D.flat (xs.set k r)).length = xs.length * D.m := by rw [D.flat_length, List.length_set]
      have hdec : xs.set k r = xs.take k ++ r :: xs.drop (k + 1) := by rw [List.set_eq_take_append_cons_drop, if_pos hk]
      have hdec0 : xs = xs.take k ++ xs[k] :: xs.drop (k + 1) := by rw [← List.drop_eq_getElem_cons hk, List.take_append_drop]
      have hlk : (D.flat (xs.take k)).length = k * D.m := by rw [D.flat_length, List.length_take, Nat.min_eq_left (by omega)]
      have hlr : (D.flat (xs.drop (k + 1))).length = xs.length * D.m - (k * D.m + D.m) := by
        rw [D.flat_length, List.length_drop, Nat.sub_mul, Nat.succ_mul]
      have hcurr : cur.toList = D.flat (xs.take k) ++ (D.E xs[k] ++ (D.flat (xs.drop (k + 1)) ++ cur.toList.drop (xs.length * D.m))) := by
        have e0 : cur.toList = D.flat xs ++ cur.toList.drop (xs.length * D.m) := by
          conv => lhs; rw [← List.take_append_drop (xs.length * D.m) cur.toList, ht]
        have e1 : D.flat xs = D.flat (xs.take k) ++ (D.E xs[k] ++ D.flat (xs.drop (k + 1))) := by
          conv => lhs; rw [hdec0, D.flat_append]
          simp only [El.flat, List.flatMap_cons]
        rw [e1] at e0
        conv => lhs; rw [e0]
        simp only [List.append_assoc]
      have e2 : cur.toList.take (k * D.m) = D.flat (xs.take k) := by
        rw [hcurr, ← hlk]; exact List.take_left
      have e3 : cur.toList.drop (k * D.m + (D.E r).length) = D.flat (xs.drop (k + 1)) ++ cur.toList.drop (xs.length * D.m) := by
        rw [D.hE]
        conv => lhs; rw [hcurr]
        rw [← List.append_assoc, List.drop_left' (by rw [List.length_append, hlk, D.hE])]
      unfold Own World.ownsRow
      rw [List.length_set]
      refine ⟨hl, .inr ⟨g, _, _, rfl, hg, hbk, hn, hc, ?_, ?_⟩⟩
      · simp only [List.size_toArray, List.length_append, List.length_take, List.length_drop, Array.length_toList, D.hE]
        omega
      · rw [List.toList_toArray, e2, e3]
        have e4 : D.flat (xs.set k r) = D.flat (xs.take k) ++ D.E r ++ D.flat (xs.drop (k + 1)) := by
          rw [hdec, D.flat_append]
          simp [El.flat]
        rw [← List.append_assoc, ← e4, ← hl]
        exact List.take_left
    · intro ρ o x y ho hx hy
      have hr : (storeVar D.e ⟨g, k * D.m, none⟩ (.agg (D.E r).toArray)).run P w = .ok () (w.setRow g (cur.toList.take (k * D.m + 0) ++ D.E r ++ cur.toList.drop (k * D.m + 0 + (D.E r).length)).toArray) := by
        have hl : (D.E r).length = D.m := D.hE r
        have hz : (Value.agg (D.E r).toArray).cells.size = D.m := by simp [Value.cells, hl]
        simp [storeVar, hs, hz, Value.cells] at hrun ⊢
        rw [hrun, if_pos hl]
      simp [RunsTo, execOp, ho, hx, hy, Instr.storeAt, Instr.sureAddr, hr]
end
section
variable {P : Program} {x : Value} {s i : Nat} {early : List Nat} {W W1 : World} {ρ : Operand → Value} {o : Oper}
theorem obl_any (his : i ≠ s) (h : ∀ W, RunsTo P ρ o W x W) : if i = s then RunsTo P ρ o W x W1 else RunsTo P ρ o W x W ∧ (early.contains i = false → RunsTo P ρ o W1 x W1) := by
  rw [if_neg his]; exact ⟨h W, fun _ => h W1⟩
theorem obl_early (his : i ≠ s) (he : early.contains i = true) (h : RunsTo P ρ o W x W) : if i = s then RunsTo P ρ o W x W1 else RunsTo P ρ o W x W ∧ (early.contains i = false → RunsTo P ρ o W1 x W1) := by
  rw [if_neg his]; exact ⟨h, fun hh => by rw [he] at hh; cases hh⟩
theorem obl_store (his : i = s) (h : RunsTo P ρ o W x W1) : if i = s then RunsTo P ρ o W x W1 else RunsTo P ρ o W x W ∧ (early.contains i = false → RunsTo P ρ o W1 x W1) := by
  rw [if_pos his]; exact h
end
structure Rw (g cap n : Nat) (w : World) (xs : List (RUnit × GUnit)) : Prop where
  len : xs.length = n
  own : Own pairEl 0 w (.slice (some ⟨g, 0, none⟩) xs.length cap) xs
theorem Rw.ext {g cap n : Nat} {w w' : World} {xs : List (RUnit × GUnit)} (h : Rw g cap n w xs) (he : Ext w w') : Rw g cap n w' xs := ⟨h.len, h.own.ext he⟩
theorem Rw.o {g cap n : Nat} {w : World} {xs : List (RUnit × GUnit)} (h : Rw g cap n w xs) : Own pairEl 0 w (.slice (some ⟨g, 0, none⟩) xs.length cap) xs := h.own
theorem Rw.store {g cap n : Nat} {w : World} {xs : List (RUnit × GUnit)} (h : Rw g cap n w xs) (k : Nat) (hk : k < n) (r : RUnit × GUnit) :
    ∃ w', Kp g w w' ∧ Rw g cap n w' (xs.set k r) ∧ ∀ (ρ : Operand → Value) (o : Oper) (x y : Operand), o.op = .store 27 x y → ρ x = .pointer (some ⟨g, k * 8, none⟩) → ρ y = .agg (pairEl.E r).toArray → RunsTo Tryz.prog ρ o w undef w' := by
  obtain ⟨hl, ho⟩ := h
  subst hl
  obtain ⟨w', h1, h2, h3⟩ := runs_store pairEl ho k hk r
  refine ⟨w', h1, ⟨by simp, ?_⟩, h3⟩
  rw [List.length_set]
  exact h2
theorem wpList_runs {P : Program} {w w' : World} {ops : Array Oper} {rest : List Oper} {o : Oper} {a : Act} {Q : Exit → Act → World → Prop} {x : Value} (hgd : o.guard = none) (hr : RunsTo P a.eval o w x w') (h : wpList P ops Q rest (a.put o.dst x) w') : wpList P ops Q (o :: rest) a w := by
  refine wpList_plain hgd fun K hK => ?_
  unfold Oper.wp
  rcases hr with hr | ⟨hr, rfl⟩
  · rw [hr]; exact hK _ _ h
  · rw [hr]; exact hK _ _ h
theorem Rw.keep {g cap n : Nat} {w : World} {xs : List (RUnit × GUnit)} (h : Rw g cap n w xs) : g < w.heap.size := (h.own.lt g rfl).2
end Go.Proofs.YtjhdamjbljafhaaGreatDoor
