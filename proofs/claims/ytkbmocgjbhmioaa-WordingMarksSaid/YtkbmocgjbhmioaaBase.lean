/- Slices of values as lists: what a slice reads as, what the call's own row holds; both outlive the growth of memory. -/
import Derived.Test.YtkbmocgjbhmioaaProg
import Derived.Test.YtkbmocgjbhmioaaEng
import Derived.WalkLawsBesides
import Derived.WalkSpells
import Derived.Lib.Hide
import Derived.Deep.QuietTactic
import Derived.BigQuiet
import Derived.Deep.Draws
import Derived.Laws.AppendOwnNone
namespace Go.Proofs.Ytkbmocgjbhmioaa
open Go.RowKit

/-- an element type: its numbers, and the cells of a value -/
structure El (P : Program) (α : Type) where
  t : TypeId
  e : TypeId
  m : Nat
  bytes : Nat
  z : Value
  E : α → List Value
  hE : ∀ x, (E x).length = m
  h1 : ∀ x u, u ∈ E x → u.oneCell' = true
  ht : P.underlying t = some (.slice e)
  hi : (P.info? e).map (fun i => (i.zero, i.size, i.bytes)) = some (some z, m, bytes)
  hz : z.cells.size = m
  hm : 0 < m
  hb : bytes ≤ 1024
  agg : Bool
  hagg : ∀ w, (isAgg e).run P w = .ok agg w

section
variable {P : Program} {α : Type} {D : El P α} {w w' : World} {A : Option Addr} {v : Value} {base : Nat} {xs ys : List α}

def El.flat (D : El P α) (xs : List α) : List Value := xs.flatMap D.E
theorem El.flat_length (D : El P α) (xs : List α) : (D.flat xs).length = xs.length * D.m := by
  induction xs with
  | nil => simp [El.flat]
  | cons x xs ih =>
    simp only [El.flat] at ih
    simp only [El.flat, List.flatMap_cons, List.length_append, ih, D.hE, List.length_cons, Nat.succ_mul]
    omega
theorem El.flat_append (D : El P α) (xs ys : List α) : D.flat (xs ++ ys) = D.flat xs ++ D.flat ys := by simp [El.flat]
theorem El.flat_one (D : El P α) (x : α) : D.flat [x] = D.E x := by simp [El.flat]
theorem El.flat_mem (D : El P α) {xs : List α} : ∀ u ∈ D.flat xs, u.oneCell' = true := by
  intro u hu
  simp only [El.flat, List.mem_flatMap] at hu
  obtain ⟨x, _, hx⟩ := hu
  exact D.h1 x u hx
theorem El.flat_get (D : El P α) : ∀ (xs : List α) (k j : Nat) (x : α) (u : Value), xs[k]? = some x → (D.E x)[j]? = some u → (D.flat xs)[k * D.m + j]? = some u
  | [], k, j, x, u, hk, _ => by simp at hk
  | y :: ys, 0, j, x, u, hk, hj => by
    simp only [List.getElem?_cons_zero, Option.some.injEq] at hk
    subst hk
    have hl : j < (D.E y).length := (List.getElem?_eq_some_iff.1 hj).1
    simp only [El.flat, List.flatMap_cons, Nat.zero_mul, Nat.zero_add]
    rw [List.getElem?_append_left hl, hj]
  | y :: ys, k + 1, j, x, u, hk, hj => by
    have := El.flat_get D ys k j x u (by simpa using hk) hj
    simp only [El.flat, List.flatMap_cons] at this ⊢
    rw [List.getElem?_append_right (by rw [D.hE, Nat.succ_mul]; omega), D.hE, ← this]
    congr 1
    rw [Nat.succ_mul]; omega

/-- a slice's address under which the list lies -/
def Sl (D : El P α) (w : World) (A : Option Addr) (xs : List α) : Prop :=
  xs ≠ [] → ∃ b off, A = some ⟨b, off, none⟩ ∧ b < w.heap.size ∧ ∀ j u, (D.flat xs)[j]? = some u → w.cell? ⟨b, off + j, none⟩ = some u
theorem Sl.nil : Sl D w A [] := fun h => absurd rfl h
theorem Sl.ext (h : Sl D w A xs) (he : Ext w w') : Sl D w' A xs := fun hn => by
  obtain ⟨b, off, hA, hb, hc⟩ := h hn
  exact ⟨b, off, hA, Nat.lt_of_lt_of_le hb he.size, fun j u hu => (he.cell (p := ⟨b, off + j, none⟩) hb).trans (hc j u hu)⟩
theorem Sl.at_ (h : Sl D w A xs) {k : Nat} (hk : k < xs.length) : ∃ b off, A = some ⟨b, off, none⟩ ∧ b < w.heap.size ∧ ∀ j u, (D.E xs[k])[j]? = some u → w.cell? ⟨b, off + k * D.m + j, none⟩ = some u := by
  obtain ⟨b, off, hA, hb, hc⟩ := h (by intro e; subst e; simp at hk)
  refine ⟨b, off, hA, hb, fun j u hu => ?_⟩
  have := hc _ u (D.flat_get xs k j xs[k] u (List.getElem?_eq_getElem hk) hu)
  rwa [← Nat.add_assoc] at this
theorem Sl.take (h : Sl D w A xs) (k : Nat) : Sl D w A (xs.take k) := fun hn => by
  have hx : xs ≠ [] := by intro e; subst e; simp at hn
  obtain ⟨b, off, hA, hb, hc⟩ := h hx
  refine ⟨b, off, hA, hb, fun j u hu => hc j u ?_⟩
  rw [← List.take_append_drop k xs, D.flat_append, List.getElem?_append_left (List.getElem?_eq_some_iff.1 hu).1]
  exact hu
theorem Sl.drop (h : Sl D w A xs) (k cap : Nat) (hk : k ≤ xs.length) (hc : xs.length ≤ cap) : Sl D w (if cap = k then A else A.map (·.add (k * D.m))) (xs.drop k) := fun hn => by
  have hkl : k < xs.length := by
    rcases Nat.lt_or_ge k xs.length with h | h
    · exact h
    · exact absurd (List.drop_eq_nil_of_le h) hn
  obtain ⟨b, off, hA, hb, hcell⟩ := h (by intro e; subst e; simp at hkl)
  rw [if_neg (by omega), hA]
  refine ⟨b, off + k * D.m, ?_, hb, fun j u hu => ?_⟩
  · simp only [Option.map_some, Addr.add]
    split
    · rename_i h0; simp [h0]
    · rfl
  · have : (D.flat xs)[k * D.m + j]? = some u := by
      rw [← List.take_append_drop k xs, D.flat_append, List.getElem?_append_right (by rw [D.flat_length, List.length_take]; rw [Nat.min_eq_left hk]; omega), D.flat_length, List.length_take, Nat.min_eq_left hk]
      rw [← hu]; congr 1; omega
    have := hcell _ u this
    rwa [← Nat.add_assoc] at this

/-- the call's own row: v is nil, or the head of a block from base on -/
def Own (D : El P α) (base : Nat) (w : World) (v : Value) (xs : List α) : Prop := w.ownsRow base D.e D.m v xs.length (D.flat xs)
theorem Own.nil (base : Nat) : Own D base w (.slice none 0 0) [] := ⟨by simp [El.flat], .inl ⟨rfl, rfl⟩⟩
theorem Own.form (h : Own D base w v xs) : ∃ A c, v = .slice A xs.length c ∧ xs.length ≤ c ∧ Sl D w A xs := by
  rcases h.2 with ⟨hv, h0⟩ | ⟨g, cap, cur, hv, hg, hh, hn, hc, hs, ht⟩
  · have : xs = [] := List.eq_nil_of_length_eq_zero h0
    subst this
    exact ⟨none, 0, hv, Nat.le_refl _, Sl.nil⟩
  · refine ⟨some ⟨g, 0, none⟩, cap, hv, hn, fun _ => ⟨g, 0, rfl, ?_, fun j u hu => ?_⟩⟩
    · rcases Nat.lt_or_ge g w.heap.size with hlt | hge
      · exact hlt
      · rw [Array.getElem?_eq_none hge] at hh; cases hh
    · rw [Nat.zero_add]
      simp only [World.cell?, hh]
      have : (cur.toList.take (xs.length * D.m))[j]? = some u := by rw [ht]; exact hu
      rw [List.getElem?_take] at this
      split at this
      · simpa using this
      · cases this
theorem Own.ext (h : Own D base w v xs) (he : Ext w w') : Own D base w' v xs := by
  refine ⟨h.1, ?_⟩
  rcases h.2 with h2 | ⟨g, cap, cur, hv, hg, hh, r⟩
  · exact .inl h2
  · have hlt : g < w.heap.size := by
      rcases Nat.lt_or_ge g w.heap.size with hlt | hge
      · exact hlt
      · rw [Array.getElem?_eq_none hge] at hh; cases hh
    exact .inr ⟨g, cap, cur, hv, hg, (he.block hlt).trans hh, r⟩
theorem Own.mono {base base' : Nat} (h : Own D base w v xs) (hb : base' ≤ base) : Own D base' w v xs := by
  refine ⟨h.1, ?_⟩
  rcases h.2 with h2 | ⟨g, cap, cur, hv, hg, r⟩
  · exact .inl h2
  · exact .inr ⟨g, cap, cur, hv, by omega, r⟩
end

/-! ### the elements that the program has -/
def strEl : El Try.prog ByteArray := { t := 23, e := 9, m := 1, bytes := 16, z := .string ByteArray.empty, E := fun s => [.string s], hE := fun _ => rfl, h1 := by simp [Value.oneCell'], ht := by kernel_rfl, hi := by kernel_rfl, hz := rfl, hm := by decide, hb := by decide, agg := false, hagg := Try.isAgg9 }
def intEl : El Try.prog Int := { t := 63, e := 3, m := 1, bytes := 8, z := .int .i64 0, E := fun s => [.int .i64 s], hE := fun _ => rfl, h1 := by simp [Value.oneCell'], ht := by kernel_rfl, hi := by kernel_rfl, hz := rfl, hm := by decide, hb := by decide, agg := false, hagg := Try.isAgg3 }

/-- a word: its text, and the mark's three numbers -/
structure GWord where
  t : ByteArray
  a : Int
  i : Int
  k : Int
def GWord.cells (x : GWord) : List Value := [.string x.t, .int .i64 x.a, .int .i64 x.i, .int .i64 x.k]
def wordEl : El Try.prog GWord := { t := 22, e := 59, m := 4, bytes := 40, z := .agg #[.string ByteArray.empty, .int .i64 0, .int .i64 0, .int .i64 0], E := GWord.cells, hE := fun _ => rfl, h1 := by simp [GWord.cells, Value.oneCell'], ht := by kernel_rfl, hi := by kernel_rfl, hz := rfl, hm := by decide, hb := by decide, agg := true, hagg := Try.isAgg59 }

end Go.Proofs.Ytkbmocgjbhmioaa
