/- Chapter 54: plain laws of optimal and greedy lines. -/
import Derived.Test.YtdglijpooodlnaaText54
namespace Go.Proofs.Ytdglijpooodlnaa
open Go.RowKit

/-- no line is too long -/
def fitL (l : List ByteArray) (W : Int) : Nat → List Int → Prop
  | _, [] => True
  | a, e :: es => lenF l a e.toNat ≤ W ∧ fitL l W e.toNat es
/-- the cost of lines -/
def tc (l : List ByteArray) (W : Int) : Nat → List Int → Int
  | _, [] => 0
  | a, e :: es => (if e < (l.length : Int) then (W - lenF l a e.toNat) * (W - lenF l a e.toNat) else 0) + tc l W e.toNat es
theorem costF_some {l : List ByteArray} {W : Int} : ∀ (es : List Int) (a : Nat) (s : Int), fitL l W a es → costF l W a es s = some (s + tc l W a es)
  | [], _, s, _ => by simp [costF, tc]
  | e :: es, a, s, h => by
    rw [costF, if_neg (by have := h.1; omega), costF_some es _ _ h.2, tc]
    split <;> (congr 1; omega)
theorem costF_of {l : List ByteArray} {W : Int} {c : Int} : ∀ (es : List Int) (a : Nat) (s : Int), costF l W a es s = some c → fitL l W a es ∧ c = s + tc l W a es
  | [], _, s, h => by
    simp only [costF, Option.some.injEq] at h
    exact ⟨trivial, by simp [tc, h]⟩
  | e :: es, a, s, h => by
    rw [costF] at h
    split at h
    · cases h
    · rename_i hf
      obtain ⟨h1, h2⟩ := costF_of es _ _ h
      refine ⟨⟨by omega, h1⟩, ?_⟩
      rw [h2, tc]
      split <;> omega
/-- valid lines from a on -/
structure Val (l : List ByteArray) (W : Int) (a : Nat) (es : List Int) : Prop where
  ends : endsB (l.length : Int) a es = true
  fit : fitL l W a es
theorem Val.nil_of {l : List ByteArray} {W : Int} {a : Nat} (h : Val l W a []) : a = l.length := by
  have := h.ends
  simp only [endsB, decide_eq_true_eq] at this
  omega
theorem Val.cons {l : List ByteArray} {W : Int} {a : Nat} {e : Int} {es : List Int} (h : Val l W a (e :: es)) : ∃ g : Nat, e = (g : Int) ∧ a < g ∧ g ≤ l.length ∧ lenF l a g ≤ W ∧ Val l W g es := by
  obtain ⟨h1, h2, h3⟩ := endsB_step h.ends
  obtain ⟨h4, h5⟩ := h.fit
  refine ⟨e.toNat, by omega, by omega, by omega, h4, ?_, h5⟩
  rw [show ((e.toNat : Nat) : Int) = e by omega]
  exact h3
theorem Val.mk_cons {l : List ByteArray} {W : Int} {a g : Nat} {es : List Int} (h1 : a < g) (h2 : g ≤ l.length) (h3 : lenF l a g ≤ W) (h : Val l W g es) : Val l W a ((g : Int) :: es) := by
  refine ⟨?_, ?_, ?_⟩
  · simp only [endsB, Bool.and_eq_true, decide_eq_true_eq]
    exact ⟨⟨by omega, by omega⟩, h.ends⟩
  · rw [Int.toNat_natCast]; exact h3
  · rw [Int.toNat_natCast]; exact h.fit
theorem lenF_mono {l : List ByteArray} {i a b : Nat} (h : a ≤ b) : lenF l i a ≤ lenF l i b := by
  have := posF_mono l a b h
  unfold lenF
  omega
theorem lenF_anti {l : List ByteArray} {i j b : Nat} (h : i ≤ j) : lenF l j b ≤ lenF l i b := by
  have := posF_mono l i j h
  unfold lenF
  omega
/-- a line that fits ends no later than the greedy one -/
theorem le_gF {l : List ByteArray} {W : Int} {a e : Nat} (ha : a ≤ l.length) (he : e ≤ l.length) (h : lenF l a e ≤ W) : e ≤ gF l W a := by
  have hg := gF_is W ha
  rcases Nat.lt_or_ge (gF l W a) e with h1 | h1
  · exfalso
    rcases hg.stop with h2 | h2
    · omega
    · have := lenF_mono (l := l) (i := a) (show gF l W a + 1 ≤ e by omega)
      omega
  · exact h1
theorem gLines_val {l : List ByteArray} {W : Int} (hF : Fit W l) : ∀ (f a : Nat), a ≤ l.length → l.length ≤ a + f → Val l W a (gEndsF l W f a)
  | 0, a, h1, h2 => ⟨by simp [gEndsF, endsB]; omega, trivial⟩
  | f + 1, a, h1, h2 => by
    rw [gEndsF]
    split
    · rename_i h
      have hg := gF_is W h1
      have hl := hF.lt h
      have := hg.le
      exact Val.mk_cons hl hg.le (hg.fit _ hl (Nat.le_refl _)) (gLines_val hF f _ hg.le (by omega))
    · exact ⟨by simp [endsB]; omega, trivial⟩
theorem bLines_val {l : List ByteArray} {W : Int} (hF : Fit W l) : ∀ (f a : Nat), a ≤ l.length → l.length ≤ a + f → Val l W a (bEndsF l W f a) ∧ tc l W a (bEndsF l W f a) = CF l W a
  | 0, a, h1, h2 => by
    obtain rfl : a = l.length := by omega
    exact ⟨⟨by simp [bEndsF, endsB], trivial⟩, by rw [CF_end]; rfl⟩
  | f + 1, a, h1, h2 => by
    rw [bEndsF]
    split
    · rename_i h
      obtain ⟨n1, n2⟩ := NF_lt hF h
      have hg := gF_is W h1
      have hgl := hg.le
      obtain ⟨h3, h4⟩ := bLines_val hF f (NF l W a) (by omega) (by omega)
      refine ⟨Val.mk_cons n1 (by omega) (hg.fit _ n1 n2) h3, ?_⟩
      have hC : CF l W a = cand l W (CF l W) a (NF l W a) := (CN_least hF h).eq
      rw [tc, Int.toNat_natCast, h4, hC, cand]
      by_cases hn : NF l W a = l.length
      · rw [if_pos hn, if_neg (by omega), hn, CF_end]; rfl
      · rw [if_neg hn, if_pos (by omega)]
    · obtain rfl : a = l.length := by omega
      exact ⟨⟨by simp [endsB], trivial⟩, by rw [CF_end]; rfl⟩
/-- no valid lines cost less -/
theorem tc_least {l : List ByteArray} {W : Int} (hF : Fit W l) : ∀ (es : List Int) (a : Nat), a ≤ l.length → Val l W a es → CF l W a ≤ tc l W a es
  | [], a, _, h => by
    rw [h.nil_of, CF_end]; exact Int.le_refl _
  | e :: es, a, ha, h => by
    obtain ⟨g, rfl, h1, h2, h3, h4⟩ := h.cons
    have hlt : a < l.length := by omega
    have hL := CN_least hF hlt
    have hg := le_gF ha h2 h3
    have h5 : CF l W a ≤ cand l W (CF l W) a g := hL.least g h1 (by omega)
    have h6 := tc_least hF es g h2 h4
    rw [tc, Int.toNat_natCast]
    unfold cand at h5
    by_cases hn : g = l.length
    · rw [if_pos hn] at h5
      rw [if_neg (by omega)]
      rw [hn, CF_end] at h6
      rw [hn]
      omega
    · rw [if_neg hn] at h5
      rw [if_pos (by omega)]
      omega
/-- the first difference, if there is one, is smaller; none: as many -/
def lx : List Int → List Int → Bool
  | [], [] => true
  | x :: xs, y :: ys => if x = y then lx xs ys else decide (x < y)
  | _, _ => false
theorem lx_best {l : List ByteArray} {W : Int} (hF : Fit W l) : ∀ (es : List Int) (f a : Nat), a ≤ l.length → l.length ≤ a + f → Val l W a es → tc l W a es = CF l W a → lx (bEndsF l W f a) es = true
  | [], f, a, _, _, h, _ => by
    rw [bEndsF_end (by rw [h.nil_of]; exact Nat.le_refl _)]; rfl
  | e :: es, 0, a, ha, hf, h, _ => by
    obtain ⟨g, rfl, h1, h2, h3, h4⟩ := h.cons
    omega
  | e :: es, f + 1, a, ha, hf, h, ht => by
    obtain ⟨g, rfl, h1, h2, h3, h4⟩ := h.cons
    have hlt : a < l.length := by omega
    have hL := CN_least hF hlt
    obtain ⟨n1, n2⟩ := NF_lt hF hlt
    have hg := le_gF ha h2 h3
    have h6 := tc_least hF es g h2 h4
    rw [bEndsF, if_pos hlt, lx]
    rw [tc, Int.toNat_natCast] at ht
    have hgl := (gF_is W ha).le
    by_cases he : NF l W a = g
    · rw [if_pos (by rw [he]), he]
      refine lx_best hF es f g h2 (by omega) h4 ?_
      have hC : CF l W a = cand l W (CF l W) a (NF l W a) := hL.eq
      rw [he, cand] at hC
      by_cases hn : g = l.length
      · cases es with
        | nil => rw [hn, CF_end]; rfl
        | cons y ys =>
          obtain ⟨q, rfl, p1, p2, -⟩ := h4.cons
          omega
      · rw [if_neg hn] at hC
        rw [if_pos (by omega)] at ht
        omega
    · rw [if_neg (by omega)]
      rw [decide_eq_true_eq]
      rcases Nat.lt_or_ge g (NF l W a) with h7 | h7
      · exfalso
        have h8 : CF l W a < cand l W (CF l W) a g := hL.first g h1 h7
        rw [cand, if_neg (by omega)] at h8
        rw [if_pos (by omega)] at ht
        omega
      · omega
/-- no valid lines are fewer than the greedy ones -/
theorem greedy_few {l : List ByteArray} {W : Int} (hF : Fit W l) : ∀ (es : List Int) (f a b : Nat), a ≤ l.length → b ≤ a → Val l W b es → (gEndsF l W f a).length ≤ es.length
  | [], f, a, b, ha, hb, h => by
    have := h.nil_of
    rw [gEndsF_end (by omega)]
    exact Nat.le_refl _
  | e :: es, 0, a, b, ha, hb, h => Nat.zero_le _
  | e :: es, f + 1, a, b, ha, hb, h => by
    obtain ⟨g, rfl, h1, h2, h3, h4⟩ := h.cons
    rw [gEndsF]
    split
    · rename_i hlt
      have hg := gF_is W ha
      have h5 : g ≤ gF l W a := le_gF ha h2 (by have := lenF_anti (l := l) (b := g) hb; omega)
      have := greedy_few hF es f (gF l W a) g hg.le h5 h4
      rw [List.length_cons, List.length_cons]
      omega
    · exact Nat.zero_le _

end Go.Proofs.Ytdglijpooodlnaa
