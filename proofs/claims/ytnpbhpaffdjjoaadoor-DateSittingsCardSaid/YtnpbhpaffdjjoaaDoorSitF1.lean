/- Sittings, in plain lists. -/
import Derived.Test.YtnpbhpaffdjjoaaDoorLeap1
namespace Go.Proofs.YtnpbhpaffdjjoaaDoor

/-- the numbers are days, each after the one before -/
def risB (x : Int) : List Int → Bool
  | [] => true
  | n :: l => (decide (x < n) && dayB n) && risB n l
def risesB (l : List Int) : Bool := decide (l.length ≤ 64) && risB (-1) l
/-- how many leading elements are at most d -/
def cntLe (d : Int) : List Int → Nat
  | [] => 0
  | x :: l => if x ≤ d then cntLe d l + 1 else 0
theorem risB_drop {l : List Int} {k : Nat} (hk : k < l.length) (x : Int) : risB x (l.drop k) = ((decide (x < l[k]) && dayB l[k]) && risB l[k] (l.drop (k + 1))) := by
  rw [List.drop_eq_getElem_cons hk, risB]
theorem cntLe_le (d : Int) : ∀ l : List Int, cntLe d l ≤ l.length
  | [] => Nat.le_refl _
  | x :: l => by
    have := cntLe_le d l
    rw [cntLe]
    split <;> simp <;> omega
theorem cntLe_drop {d : Int} {l : List Int} {k : Nat} (hk : k < l.length) : cntLe d (l.drop k) = if l[k] ≤ d then cntLe d (l.drop (k + 1)) + 1 else 0 := by
  rw [List.drop_eq_getElem_cons hk, cntLe]
theorem risB_above : ∀ (l : List Int) (x : Int), risB x l = true → ∀ (k : Nat) (hk : k < l.length), x < l[k] ∧ dayB l[k] = true
  | [], _, _, k, hk => by simp at hk
  | n :: l, x, h, 0, _ => by
    simp only [risB, Bool.and_eq_true, decide_eq_true_eq] at h
    exact ⟨h.1.1, h.1.2⟩
  | n :: l, x, h, k + 1, hk => by
    simp only [risB, Bool.and_eq_true, decide_eq_true_eq] at h
    have := risB_above l n h.2 k (by simpa using hk)
    simp only [List.getElem_cons_succ]
    exact ⟨by omega, this.2⟩
theorem cntLe_none : ∀ (l : List Int) (d : Int), (∀ (k : Nat) (hk : k < l.length), d < l[k]) → cntLe d l = 0
  | [], _, _ => rfl
  | x :: l, d, h => by
    have := h 0 (by simp)
    simp only [List.getElem_cons_zero] at this
    rw [cntLe, if_neg (by omega)]
theorem cntLe_at : ∀ (l : List Int) (x : Int), risB x l = true → ∀ (k : Nat) (hk : k < l.length), cntLe l[k] l = k + 1
  | [], _, _, k, hk => by simp at hk
  | n :: l, x, h, 0, _ => by
    simp only [risB, Bool.and_eq_true, decide_eq_true_eq] at h
    rw [List.getElem_cons_zero, cntLe, if_pos (Int.le_refl _), cntLe_none l n fun k hk => (risB_above l n h.2 k hk).1]
  | n :: l, x, h, k + 1, hk => by
    simp only [risB, Bool.and_eq_true, decide_eq_true_eq] at h
    have hk' : k < l.length := by simpa using hk
    have h1 := (risB_above l n h.2 k hk').1
    rw [List.getElem_cons_succ, cntLe, if_pos (by omega), cntLe_at l n h.2 k hk']

/-- the sitting of a day, and the day within it -/
def sitN (l : List Int) (d : Int) : Int := if dayB d = true ∧ risesB l = true then (cntLe d l : Int) else 0
def sitO (l : List Int) (d : Int) : Int := if dayB d = true ∧ risesB l = true then (match cntLe d l with | 0 => 0 | k + 1 => d - l.getD k 0 + 1) else 0
theorem sit_no {l : List Int} {d : Int} (h : ¬ (dayB d = true ∧ risesB l = true)) : sitN l d = 0 ∧ sitO l d = 0 := by
  simp only [sitN, sitO, if_neg h, and_self]
theorem sit_zero {l : List Int} {d : Int} (h : cntLe d l = 0) : sitN l d = 0 ∧ sitO l d = 0 := by
  unfold sitN sitO
  rw [h]
  split <;> exact ⟨rfl, rfl⟩
theorem sit_yes {l : List Int} {d : Int} {k : Nat} (h : dayB d = true ∧ risesB l = true) (hc : cntLe d l = k + 1) : sitN l d = k + 1 ∧ sitO l d = d - l.getD k 0 + 1 := by
  unfold sitN sitO
  rw [if_pos h, if_pos h, hc]
  exact ⟨by omega, rfl⟩
theorem sit_first {l : List Int} (h : risesB l = true) {k : Nat} (hk : k < l.length) : sitN l l[k] = k + 1 ∧ sitO l l[k] = 1 := by
  have h2 := h
  simp only [risesB, Bool.and_eq_true] at h2
  have h3 := risB_above l (-1) h2.2 k hk
  have h4 := sit_yes ⟨h3.2, h⟩ (cntLe_at l (-1) h2.2 k hk)
  refine ⟨h4.1, ?_⟩
  rw [h4.2, List.getD_eq_getElem?_getD, List.getElem?_eq_getElem hk, Option.getD_some]
  omega

end Go.Proofs.YtnpbhpaffdjjoaaDoor
