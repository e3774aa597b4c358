/- Chapter 54: no line of the greedy ones can take another word. -/
import Derived.Test.YtdglijpooodlnaaPlain54
namespace Go.Proofs.Ytdglijpooodlnaa
open Go.RowKit

theorem greedy_max {l : List ByteArray} {W : Int} : ∀ (f a i : Nat) (p : Int) (R : List Int), a ≤ l.length → (gEndsF l W f a)[i]? = some p → ¬ Val l W a ((gEndsF l W f a).take i ++ (p + 1) :: R)
  | 0, a, i, p, R, _, h => by simp [gEndsF] at h
  | f + 1, a, i, p, R, ha, h => by
    intro hv
    rw [gEndsF] at h hv
    split at h
    · rename_i hlt
      rw [if_pos hlt] at hv
      have hg := gF_is W ha
      cases i with
      | zero =>
        simp only [List.getElem?_cons_zero, Option.some.injEq] at h
        rw [List.take_zero, List.nil_append] at hv
        obtain ⟨g, h1, h2, h3, h4, -⟩ := hv.cons
        have h5 := le_gF ha h3 h4
        omega
      | succ i =>
        rw [List.getElem?_cons_succ] at h
        rw [List.take_succ_cons, List.cons_append] at hv
        obtain ⟨g, h1, h2, h3, h4, h5⟩ := hv.cons
        have h6 : gF l W a = g := by omega
        rw [← h6] at h5
        exact greedy_max f (gF l W a) i p R hg.le h h5
    · simp at h
/-- Cost refuses the greedy ends with one word moved up -/
theorem costR_more {l : List ByteArray} {W : Int} {i : Nat} {p : Int} {R : List Int} (h : (gLines l W)[i]? = some p) : (costR l W ((gLines l W).take i ++ (p + 1) :: R)).2 ≠ 0 := by
  intro h0
  obtain ⟨n, hn⟩ : ∃ n, (costR l W ((gLines l W).take i ++ (p + 1) :: R)).1 = n := ⟨_, rfl⟩
  unfold costR at h0
  split at h0
  · rename_i hw; exact hw h0
  · split at h0
    · rename_i he
      cases hc : costF l W 0 ((gLines l W).take i ++ (p + 1) :: R) 0 with
      | none => rw [hc] at h0; simp [costE] at h0
      | some c =>
        obtain ⟨h1, -⟩ := costF_of _ 0 0 hc
        exact greedy_max l.length 0 i p R (Nat.zero_le _) h ⟨he, h1⟩
    · simp at h0

end Go.Proofs.Ytdglijpooodlnaa
