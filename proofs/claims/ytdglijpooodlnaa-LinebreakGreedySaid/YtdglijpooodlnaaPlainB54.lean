/- Chapter 54: plain laws on widths. -/
import Derived.Test.YtdglijpooodlnaaPlain54
namespace Go.Proofs.Ytdglijpooodlnaa
open Go.RowKit

theorem wrong_wider {l : List ByteArray} {W W' : Int} (h : wrongF W l = 0) (hb : briefP l 60) (h1 : W ≤ W') (h2 : W' ≤ 200) : wrongF W' l = 0 := by
  have hF := fit_of h hb
  have hlo := hF.lo
  have hlen := hb.1
  refine wrongF_ok (by omega) (by omega) ?_
  rw [List.any_eq_false]
  intro s hs
  have h3 := hF.pos s hs
  have h4 := hF.fit s hs
  simp only [unfitB, Bool.or_eq_true, decide_eq_true_eq]
  omega
theorem fitL_wider {l : List ByteArray} {W W' : Int} (h1 : W ≤ W') : ∀ (es : List Int) (a : Nat), fitL l W a es → fitL l W' a es
  | [], _, _ => trivial
  | e :: es, a, h => ⟨by have := h.1; omega, fitL_wider h1 es _ h.2⟩
theorem Val.wider {l : List ByteArray} {W W' : Int} {a : Nat} {es : List Int} (h : Val l W a es) (h1 : W ≤ W') : Val l W' a es := ⟨h.ends, fitL_wider h1 _ _ h.fit⟩
theorem one_line {l : List ByteArray} {W : Int} (hF : Fit W l) (h0 : 0 < l.length) (h : lenF l 0 l.length ≤ W) : (gLines l W).length = 1 ∧ (bLines l W).length = 1 := by
  have hg : gF l W 0 = l.length := Nat.le_antisymm (gF_is W (Nat.zero_le _)).le (le_gF (Nat.zero_le _) (Nat.le_refl _) h)
  obtain ⟨m, hm⟩ : ∃ m, l.length = m + 1 := ⟨l.length - 1, by omega⟩
  have hL := CN_least hF h0
  obtain ⟨n1, n2⟩ := NF_lt hF h0
  have hN : NF l W 0 = l.length := by
    rcases Nat.lt_or_ge (NF l W 0) l.length with h1 | h1
    · exfalso
      have h2 : CF l W 0 = cand l W (CF l W) 0 (NF l W 0) := hL.eq
      have h3 : CF l W 0 ≤ cand l W (CF l W) 0 l.length := hL.least l.length h0 (by omega)
      rw [cand, if_pos rfl] at h3
      rw [cand, if_neg (by omega)] at h2
      have h4 := CF_le hF (i := NF l W 0) (by omega)
      have h5 := posF_succ (l := l) (i := NF l W 0) h1
      have h6 := posF_mono l (NF l W 0 + 1) l.length (by omega)
      have h7 : 1 ≤ W - lenF l 0 (NF l W 0) := by unfold lenF at h ⊢; omega
      have h8 : 0 < (W - lenF l 0 (NF l W 0)) * (W - lenF l 0 (NF l W 0)) := Int.mul_pos (by omega) (by omega)
      omega
    · omega
  constructor
  · unfold gLines
    rw [hm, gEndsF, if_pos h0, hg, gEndsF_end (Nat.le_refl _)]
    rfl
  · unfold bLines
    rw [hm, bEndsF, if_pos h0, hN, bEndsF_end (Nat.le_refl _)]
    rfl
theorem narrow {l : List ByteArray} (hF : Fit 1 l) : (gLines l 1).length = l.length ∧ (bLines l 1).length = l.length := by
  have hg : ∀ a, a < l.length → gF l 1 a = a + 1 := fun a ha => by
    have h1 := hF.lt ha
    have h2 := gF_is (l := l) 1 (show a ≤ l.length by omega)
    rcases Nat.lt_or_ge (gF l 1 a) (a + 2) with h3 | h3
    · omega
    · exfalso
      have h4 := h2.fit (a + 2) (by omega) h3
      have h5 := h2.le
      have h6 := posF_succ (l := l) (i := a) ha
      have h7 : posF l (a + 2) = posF l (a + 1) + (l[a + 1]'(by omega)).size + 1 := posF_succ (by omega)
      have h8 := hF.pos l[a] (List.getElem_mem ha)
      have h9 := hF.pos (l[a + 1]'(by omega)) (List.getElem_mem (by omega))
      unfold lenF at h4
      omega
  have key : ∀ f a, a ≤ l.length → l.length ≤ a + f → (gEndsF l 1 f a).length = l.length - a ∧ (bEndsF l 1 f a).length = l.length - a := by
    intro f
    induction f with
    | zero => intro a h1 h2; exact ⟨by simp [gEndsF]; omega, by simp [bEndsF]; omega⟩
    | succ f ih =>
      intro a h1 h2
      rw [gEndsF, bEndsF]
      by_cases h : a < l.length
      · rw [if_pos h, if_pos h]
        have hN : NF l 1 a = a + 1 := by
          have := NF_lt hF h
          rw [hg a h] at this
          omega
        rw [hg a h, hN]
        obtain ⟨i1, i2⟩ := ih (a + 1) (by omega) (by omega)
        rw [List.length_cons, List.length_cons, i1, i2]
        omega
      · rw [if_neg h, if_neg h]
        simp
        omega
  exact key l.length 0 (Nat.zero_le _) (by omega)
/-- the facts that the law on widths asks -/
theorem widths_facts {l : List ByteArray} {W W' : Int} (h : wrongF W l = 0) (hb : briefP l 60) (h1 : W ≤ W') (h2 : W' ≤ 200) :
    (gLines l W').length ≤ (gLines l W).length ∧ (gLines l W).length ≤ (bLines l W).length ∧ (0 < l.length → lenF l 0 l.length ≤ W → (gLines l W).length = 1 ∧ (bLines l W).length = 1) ∧ (W ≤ 1 → (gLines l W).length = l.length ∧ (bLines l W).length = l.length) := by
  have hF := fit_of h hb
  have hF' := fit_of (wrong_wider h hb h1 h2) hb
  have hg := gLines_val hF l.length 0 (Nat.zero_le _) (by omega)
  have hbv := (bLines_val hF l.length 0 (Nat.zero_le _) (by omega)).1
  refine ⟨greedy_few hF' _ _ 0 0 (Nat.zero_le _) (Nat.le_refl _) (hg.wider h1), greedy_few hF _ _ 0 0 (Nat.zero_le _) (Nat.le_refl _) hbv, fun h3 h4 => one_line hF h3 h4, fun h3 => ?_⟩
  have hlo := hF.lo
  obtain rfl : W = 1 := by omega
  exact narrow hF

end Go.Proofs.Ytdglijpooodlnaa
