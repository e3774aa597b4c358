/- Trees in blocks of their own: every part of the tree lies in a stretch of the heap that no other part shares. -/
import Derived.Test.YthjlnpcanccmkaaTreeLaws
namespace Go.Proofs.Ythjlnpcanccmkaa
open Go.RowKit

section
variable {P : Program} {α : Type} {D : El P α} {w w' : World} {v : Value} {xs : List α} {base lo hi m : Nat}
/-- a row of the call's own whose block lies from lo on and ahead of m -/
def OwnIn (D : El P α) (w : World) (v : Value) (xs : List α) (lo m : Nat) : Prop := Own D lo w v xs ∧ ∀ g, v.ownBlock = some g → g < m
theorem OwnIn.keep (h : OwnIn D w v xs lo m) (hs : ∀ k, lo ≤ k → k < m → w'.heap[k]? = w.heap[k]?) : OwnIn D w' v xs lo m :=
  ⟨h.1.keep fun k hk => hs k (h.1.lt k hk).1 (h.2 k hk), h.2⟩
theorem OwnIn.sl (h : OwnIn D w v xs lo m) {p : Nat → Bool} (hp : ∀ k, lo ≤ k → k < m → p k = false) : ∃ A c, v = .slice A xs.length c ∧ xs.length ≤ c ∧ Sl D (mask p w) A xs := by
  obtain ⟨A, c, h1, h2, -, h3⟩ := h.1.formMask (p := p) (fun k hk hb => hp k hk (h.2 k hb))
  exact ⟨A, c, h1, h2, h3⟩
theorem Own.inNew (h : Own D base w v xs) : OwnIn D w v xs base w.heap.size := ⟨h, fun g hg => (h.lt g hg).2⟩
theorem OwnIn.mono {lo' m' : Nat} (h : OwnIn D w v xs lo m) (h1 : lo' ≤ lo) (h2 : m ≤ m') : OwnIn D w v xs lo' m' := ⟨h.1.mono h1, fun g hg => Nat.lt_of_lt_of_le (h.2 g hg) h2⟩
/-- a part of an element in the call's own row is set -/
theorem Own.patch {g c k f : Nat} {vs : List Value} {r' : α} (hown : Own D base w (.slice (some ⟨g, 0, none⟩) xs.length c) xs) (hk : k < xs.length) (hr : D.E r' = (D.E xs[k]).take f ++ vs ++ (D.E xs[k]).drop (f + vs.length)) (hf : f + vs.length ≤ D.m) :
    ∃ cur : Array Value, w.heap[g]? = some (.cells cur D.e (0, 0)) ∧ k * D.m + f + vs.length ≤ cur.size ∧
      ∀ w' : World, w'.heap[g]? = some (.cells (cur.toList.take (k * D.m + f) ++ vs ++ cur.toList.drop (k * D.m + f + vs.length)).toArray D.e (0, 0)) → Own D base w' (.slice (some ⟨g, 0, none⟩) xs.length c) (xs.set k r') := by
  rcases hown.2 with ⟨hv, h0⟩ | ⟨g', cap, cur, hv, hg, hh, hn, hc, hcs, ht⟩
  · cases hv
  · cases hv
    have hkm : k * D.m + D.m ≤ xs.length * D.m := by rw [← Nat.succ_mul]; exact Nat.mul_le_mul_right _ hk
    have hcm : xs.length * D.m ≤ cur.size := by rw [hcs]; exact Nat.mul_le_mul_right _ hn
    refine ⟨cur, hh, by omega, fun w' h6 => ?_⟩
    have hl : (D.flat (xs.set k r')).length = xs.length * D.m := by rw [D.flat_length, List.length_set]
    have hdec : xs.set k r' = xs.take k ++ r' :: xs.drop (k + 1) := by rw [List.set_eq_take_append_cons_drop, if_pos hk]
    have hdec0 : xs = xs.take k ++ xs[k] :: xs.drop (k + 1) := by rw [← List.drop_eq_getElem_cons hk, List.take_append_drop]
    have hlk : (D.flat (xs.take k)).length = k * D.m := by rw [D.flat_length, List.length_take, Nat.min_eq_left (by omega)]
    have hcurr : cur.toList = D.flat (xs.take k) ++ (D.E xs[k] ++ (D.flat (xs.drop (k + 1)) ++ cur.toList.drop (xs.length * D.m))) := by
      have e0 : cur.toList = D.flat xs ++ cur.toList.drop (xs.length * D.m) := by
        conv => lhs; rw [← List.take_append_drop (xs.length * D.m) cur.toList, ht]
      have e1 : D.flat xs = D.flat (xs.take k) ++ (D.E xs[k] ++ D.flat (xs.drop (k + 1))) := by
        conv => lhs; rw [hdec0, D.flat_append]
        simp only [El.flat, List.flatMap_cons]
      rw [e1] at e0
      conv => lhs; rw [e0]
      simp only [List.append_assoc]
    have hEl : (D.E xs[k]).length = D.m := D.hE _
    have e2 : cur.toList.take (k * D.m + f) = D.flat (xs.take k) ++ (D.E xs[k]).take f := by
      rw [hcurr, ← hlk, List.take_length_add_append, List.take_append_of_le_length (by omega)]
    have e3 : cur.toList.drop (k * D.m + f + vs.length) = (D.E xs[k]).drop (f + vs.length) ++ (D.flat (xs.drop (k + 1)) ++ cur.toList.drop (xs.length * D.m)) := by
      conv => lhs; rw [hcurr]
      rw [Nat.add_assoc, ← hlk, List.drop_length_add_append, List.drop_append_of_le_length (by omega)]
    unfold Own World.ownsRow
    rw [List.length_set]
    refine ⟨hl, .inr ⟨g, c, _, rfl, hg, h6, hn, hc, ?_, ?_⟩⟩
    · simp only [List.size_toArray, List.length_append, List.length_take, List.length_drop, Array.length_toList]
      omega
    · rw [List.toList_toArray, e2, e3]
      have e4 : D.flat (xs.set k r') = D.flat (xs.take k) ++ D.E r' ++ D.flat (xs.drop (k + 1)) := by
        rw [hdec, D.flat_append]
        simp [El.flat]
      have e5 : D.flat (xs.take k) ++ (D.E xs[k]).take f ++ vs ++ ((D.E xs[k]).drop (f + vs.length) ++ (D.flat (xs.drop (k + 1)) ++ cur.toList.drop (xs.length * D.m))) = D.flat (xs.set k r') ++ cur.toList.drop (xs.length * D.m) := by
        rw [e4, hr]
        simp only [List.append_assoc]
      rw [e5, ← hl]
      exact List.take_left
end

mutual
/-- the tree lies in the blocks from lo to hi, each part in a stretch of its own -/
def Sep (w : World) : GUnit → RUnit → Nat → Nat → Prop
  | .mk a i n k l hd wd kids, r, lo, hi => (r.a = a ∧ r.i = i ∧ r.n = n ∧ r.kind = k ∧ r.label = l) ∧ ∃ m us, lo ≤ m ∧ m ≤ hi ∧ (r.hn = hd.length ∧ OwnIn wordEl w (.slice r.hA r.hn r.hc) hd lo m) ∧ (r.wn = wd.length ∧ OwnIn wordEl w (.slice r.wA r.wn r.wc) wd lo m) ∧
    (r.kn = kids.length ∧ OwnIn unitEl w (.slice r.kA r.kn r.kc) us lo m) ∧ SepL w kids us m hi
def SepL (w : World) : List GUnit → List RUnit → Nat → Nat → Prop
  | [], [], lo, hi => lo ≤ hi
  | u :: us, r :: rs, lo, hi => ∃ m, Sep w u r lo m ∧ SepL w us rs m hi
  | [], _ :: _, _, _ => False
  | _ :: _, [], _, _ => False
end
mutual
theorem Sep.le {w : World} : ∀ (u : GUnit) (r : RUnit) (lo hi : Nat), Sep w u r lo hi → lo ≤ hi
  | .mk a i n k l hd wd kids, r, lo, hi, h => by
    rw [Sep] at h
    obtain ⟨-, m, us, h1, h2, -⟩ := h
    omega
theorem SepL.le {w : World} : ∀ (us : List GUnit) (rs : List RUnit) (lo hi : Nat), SepL w us rs lo hi → lo ≤ hi
  | [], [], lo, hi, h => by rw [SepL] at h; exact h
  | u :: us, r :: rs, lo, hi, h => by
    rw [SepL] at h
    obtain ⟨m, h1, h2⟩ := h
    have := Sep.le u r lo m h1
    have := SepL.le us rs m hi h2
    omega
  | [], _ :: _, _, _, h => by rw [SepL] at h; exact h.elim
  | _ :: _, [], _, _, h => by rw [SepL] at h; exact h.elim
end
mutual
theorem Sep.keep {w w' : World} : ∀ (u : GUnit) (r : RUnit) (lo hi : Nat), Sep w u r lo hi → (∀ k, lo ≤ k → k < hi → w'.heap[k]? = w.heap[k]?) → Sep w' u r lo hi
  | .mk a i n k l hd wd kids, r, lo, hi, h, hs => by
    rw [Sep] at h ⊢
    obtain ⟨h0, m, us, h1, h2, ⟨h3, h4⟩, ⟨h5, h6⟩, ⟨h7, h8⟩, h9⟩ := h
    exact ⟨h0, m, us, h1, h2, ⟨h3, h4.keep fun k hk hk2 => hs k hk (by omega)⟩, ⟨h5, h6.keep fun k hk hk2 => hs k hk (by omega)⟩, ⟨h7, h8.keep fun k hk hk2 => hs k hk (by omega)⟩,
      SepL.keep kids us m hi h9 fun k hk hk2 => hs k (by omega) hk2⟩
theorem SepL.keep {w w' : World} : ∀ (us : List GUnit) (rs : List RUnit) (lo hi : Nat), SepL w us rs lo hi → (∀ k, lo ≤ k → k < hi → w'.heap[k]? = w.heap[k]?) → SepL w' us rs lo hi
  | [], [], lo, hi, h, _ => by rw [SepL] at h ⊢; exact h
  | u :: us, r :: rs, lo, hi, h, hs => by
    rw [SepL] at h ⊢
    obtain ⟨m, h1, h2⟩ := h
    have l1 := Sep.le u r lo m h1
    have l2 := SepL.le us rs m hi h2
    exact ⟨m, Sep.keep u r lo m h1 fun k hk hk2 => hs k hk (by omega), SepL.keep us rs m hi h2 fun k hk hk2 => hs k (by omega) hk2⟩
  | [], _ :: _, _, _, h, _ => by rw [SepL] at h; exact h.elim
  | _ :: _, [], _, _, h, _ => by rw [SepL] at h; exact h.elim
end
theorem SepL.length {w : World} : ∀ {us : List GUnit} {rs : List RUnit} {lo hi : Nat}, SepL w us rs lo hi → rs.length = us.length
  | [], [], _, _, _ => rfl
  | u :: us, r :: rs, lo, hi, h => by
    rw [SepL] at h
    obtain ⟨m, _, h2⟩ := h
    rw [List.length_cons, List.length_cons, SepL.length h2]
  | [], _ :: _, _, _, h => by rw [SepL] at h; exact h.elim
  | _ :: _, [], _, _, h => by rw [SepL] at h; exact h.elim
mutual
theorem Sep.reads {w : World} {p : Nat → Bool} : ∀ (u : GUnit) (r : RUnit) (lo hi : Nat), Sep w u r lo hi → (∀ k, lo ≤ k → k < hi → p k = false) → Reads (mask p w) u r
  | .mk a i n k l hd wd kids, r, lo, hi, h, hp => by
    rw [Sep] at h
    rw [Reads]
    obtain ⟨h0, m, us, h1, h2, ⟨h3, h4⟩, ⟨h5, h6⟩, ⟨h7, h8⟩, h9⟩ := h
    obtain ⟨A1, c1, e1, f1, g1⟩ := h4.sl (p := p) (fun k hk hk2 => hp k hk (by omega))
    obtain ⟨A2, c2, e2, f2, g2⟩ := h6.sl (p := p) (fun k hk hk2 => hp k hk (by omega))
    obtain ⟨A3, c3, e3, f3, g3⟩ := h8.sl (p := p) (fun k hk hk2 => hp k hk (by omega))
    have hl := SepL.length h9
    rw [Value.slice.injEq] at e1 e2 e3
    obtain ⟨rfl, -, rfl⟩ := e1
    obtain ⟨rfl, -, rfl⟩ := e2
    obtain ⟨rfl, -, rfl⟩ := e3
    exact ⟨h0, ⟨h3, f1, g1⟩, ⟨h5, f2, g2⟩, h7, by rw [← hl]; exact f3, us, g3, SepL.reads kids us m hi h9 fun k hk hk2 => hp k (by omega) hk2⟩
theorem SepL.reads {w : World} {p : Nat → Bool} : ∀ (us : List GUnit) (rs : List RUnit) (lo hi : Nat), SepL w us rs lo hi → (∀ k, lo ≤ k → k < hi → p k = false) → ReadsAll (mask p w) us rs
  | [], [], lo, hi, _, _ => by rw [ReadsAll]; trivial
  | u :: us, r :: rs, lo, hi, h, hp => by
    rw [SepL] at h
    rw [ReadsAll]
    obtain ⟨m, h1, h2⟩ := h
    have l1 := Sep.le u r lo m h1
    have l2 := SepL.le us rs m hi h2
    exact ⟨Sep.reads u r lo m h1 fun k hk hk2 => hp k hk (by omega), SepL.reads us rs m hi h2 fun k hk hk2 => hp k (by omega) hk2⟩
  | [], _ :: _, _, _, h, _ => by rw [SepL] at h; exact h.elim
  | _ :: _, [], _, _, h, _ => by rw [SepL] at h; exact h.elim
end
theorem SepL.snoc {w : World} : ∀ {us : List GUnit} {rs : List RUnit} {u : GUnit} {r : RUnit} {lo m hi : Nat}, SepL w us rs lo m → Sep w u r m hi → SepL w (us ++ [u]) (rs ++ [r]) lo hi
  | [], [], u, r, lo, m, hi, h, h2 => by
    rw [SepL] at h
    rw [List.nil_append, List.nil_append, SepL]
    refine ⟨hi, ?_, by rw [SepL]; exact Nat.le_refl _⟩
    obtain ⟨a, i, n, k, l, hd, wd, kids⟩ := u
    rw [Sep] at h2 ⊢
    obtain ⟨h0, m', us, h1, h2, ⟨h3, h4⟩, ⟨h5, h6⟩, ⟨h7, h8⟩, h9⟩ := h2
    exact ⟨h0, m', us, by omega, h2, ⟨h3, h4.mono h (Nat.le_refl _)⟩, ⟨h5, h6.mono h (Nat.le_refl _)⟩, ⟨h7, h8.mono h (Nat.le_refl _)⟩, h9⟩
  | v :: us, q :: rs, u, r, lo, m, hi, h, h2 => by
    rw [SepL] at h
    obtain ⟨m', h3, h4⟩ := h
    rw [List.cons_append, List.cons_append, SepL]
    exact ⟨m', h3, SepL.snoc h4 h2⟩
  | [], _ :: _, _, _, _, _, _, h, _ => by rw [SepL] at h; exact h.elim
  | _ :: _, [], _, _, _, _, _, h, _ => by rw [SepL] at h; exact h.elim
theorem SepL.split {w : World} : ∀ {us : List GUnit} {rs : List RUnit} {lo hi : Nat}, SepL w us rs lo hi → ∀ (k : Nat) (h1 : k < us.length) (h2 : k < rs.length), ∃ a b, lo ≤ a ∧ a ≤ b ∧ b ≤ hi ∧ Sep w us[k] rs[k] a b ∧
    ∀ (p : Nat → Bool), (∀ q, lo ≤ q → q < hi → ¬ (a ≤ q ∧ q < b) → p q = false) → ∀ (j : Nat) (g1 : j < us.length) (g2 : j < rs.length), j ≠ k → Reads (mask p w) us[j] rs[j]
  | u :: us, r :: rs, lo, hi, h, 0, h1, h2 => by
    rw [SepL] at h
    obtain ⟨m, h3, h4⟩ := h
    have l1 := Sep.le u r lo m h3
    have l2 := SepL.le us rs m hi h4
    refine ⟨lo, m, Nat.le_refl _, l1, l2, h3, fun p hp j g1 g2 hj => ?_⟩
    match j, hj with
    | j + 1, _ =>
      have := SepL.reads us rs m hi h4 (p := p) fun q hq hq2 => hp q (by omega) hq2 (by omega)
      exact ReadsAll.get this j (by simpa using g1) (by simpa using g2)
  | u :: us, r :: rs, lo, hi, h, k + 1, h1, h2 => by
    rw [SepL] at h
    obtain ⟨m, h3, h4⟩ := h
    have l1 := Sep.le u r lo m h3
    obtain ⟨a, b, q1, q2, q3, q4, q5⟩ := SepL.split h4 k (by simpa using h1) (by simpa using h2)
    refine ⟨a, b, by omega, q2, q3, q4, fun p hp j g1 g2 hj => ?_⟩
    match j, hj with
    | 0, _ => exact Sep.reads u r lo m h3 fun q hq hq2 => hp q hq (by omega) (by omega)
    | j + 1, hj => exact q5 p (fun q hq hq2 hq3 => hp q (by omega) hq2 hq3) j (by simpa using g1) (by simpa using g2) (by omega)
  | [], _, _, _, _, k, h1, _ => by simp at h1
  | _ :: _, [], _, _, _, k, _, h2 => by simp at h2
theorem ReadsAll.of_get {w : World} : ∀ {us : List GUnit} {rs : List RUnit}, rs.length = us.length → (∀ (k : Nat) (h1 : k < us.length) (h2 : k < rs.length), Reads w us[k] rs[k]) → ReadsAll w us rs
  | [], [], _, _ => by rw [ReadsAll]; trivial
  | u :: us, r :: rs, hl, h => by
    rw [ReadsAll]
    exact ⟨h 0 (by simp) (by simp), ReadsAll.of_get (by simpa using hl) fun k h1 h2 => h (k + 1) (by simpa using h1) (by simpa using h2)⟩
  | [], _ :: _, hl, _ => by simp at hl
  | _ :: _, [], hl, _ => by simp at hl

end Go.Proofs.Ythjlnpcanccmkaa
