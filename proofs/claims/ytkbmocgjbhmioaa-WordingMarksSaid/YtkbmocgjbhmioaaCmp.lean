/- Comparisons of strings, marks, words; small laws on lists. -/
import Derived.Test.YtkbmocgjbhmioaaLaws
namespace Go.Proofs.Ytkbmocgjbhmioaa
open Go.RowKit

instance : DecidableEq GWord := fun x y => by
  rcases x with ⟨a, b, c, d⟩
  rcases y with ⟨a', b', c', d'⟩
  exact decidable_of_iff (a = a' ∧ b = b' ∧ c = c' ∧ d = d') (by simp)

theorem take_succ_eq_iff {α : Type} {xs ys : List α} {k : Nat} (hx : k < xs.length) (hy : k < ys.length) : xs.take (k + 1) = ys.take (k + 1) ↔ xs.take k = ys.take k ∧ xs[k] = ys[k] := by
  rw [List.take_succ_eq_append_getElem hx, List.take_succ_eq_append_getElem hy]
  constructor
  · intro h
    have := List.append_inj h (by simp; omega)
    exact ⟨this.1, by simpa using this.2⟩
  · rintro ⟨h1, h2⟩
    rw [h1, h2]
theorem bytes_inj {a b : ByteArray} (h : a.toList = b.toList) : a = b := by
  rw [ByteArray.toList_eq, ByteArray.toList_eq] at h
  cases a; cases b
  simpa using h
theorem beq_bytes (a b : ByteArray) : (a.toList == b.toList) = decide (a = b) := by
  rw [Bool.eq_iff_iff]
  simp only [beq_iff_eq, decide_eq_true_eq]
  exact ⟨bytes_inj, fun h => by rw [h]⟩
theorem ret_bool {a b : Bool} (h : a = b) : Ending.returned (.bool a) = .returned (.bool b) := by rw [h]
theorem ret_val {a b : Value} (h : a = b) : Ending.returned a = .returned b := by rw [h]

@[go_sem] theorem eqMark (a b c a' b' c' : Int) (w : World) : (Op.equalIn 9999 57 (.agg #[.int .i64 a, .int .i64 b, .int .i64 c]) (.agg #[.int .i64 a', .int .i64 b', .int .i64 c'])).run Try.prog w = .ok (decide (a = a' ∧ b = b' ∧ c = c')) w := by
  have u3 := Try.underlying3
  have hS : Try.prog.underlying 57 = some (.struct (Try.prog.fieldsOf 57)) := by kernel_rfl
  rw [show (9999 : Nat) = 9998 + 1 from rfl, run_equalIn_agg w 9998 57 _ _ hS (by kernel_rfl)]
  simp only [Program.fieldsOf, Try.underlying57]
  go_simp
  by_cases h1 : a = a' <;> by_cases h2 : b = b' <;> by_cases h3 : c = c' <;> simp [h1, h2, h3]
@[go_sem] theorem eqWord (s s' : ByteArray) (a b c a' b' c' : Int) (w : World) : (Op.equalIn 10000 59 (.agg #[.string s, .int .i64 a, .int .i64 b, .int .i64 c]) (.agg #[.string s', .int .i64 a', .int .i64 b', .int .i64 c'])).run Try.prog w =
    .ok (decide (s = s' ∧ a = a' ∧ b = b' ∧ c = c')) w := by
  have u3 := Try.underlying9
  have hS : Try.prog.underlying 59 = some (.struct (Try.prog.fieldsOf 59)) := by kernel_rfl
  rw [show (10000 : Nat) = 9999 + 1 from rfl, run_equalIn_agg w 9999 59 _ _ hS (by kernel_rfl)]
  simp only [Program.fieldsOf, Try.underlying59]
  go_simp
  by_cases h1 : s = s'
  · subst h1
    by_cases h1 : a = a' <;> by_cases h2 : b = b' <;> by_cases h3 : c = c' <;> simp [h1, h2, h3]
  · have hn : ¬ s.toList = s'.toList := fun h => h1 (bytes_inj h)
    simp [h1, hn]
/-- '!=' between two words, as the walk meets it -/
theorem wordNeq (w : World) (x y : GWord) : (binOp .neq 59 (.agg #[.string x.t, .int .i64 x.a, .int .i64 x.i, .int .i64 x.k]) (.agg #[.string y.t, .int .i64 y.a, .int .i64 y.i, .int .i64 y.k])).run Try.prog w = .ok (.bool (!decide (x = y))) w := by
  rw [run_neq_struct, eqWord]
  simp only [Result.andThen_ok]
  congr 3
  cases x; cases y
  simp

theorem all_take_succ {α : Type} (p : α → Bool) (l : List α) (k : Nat) (hk : k < l.length) : (l.take (k + 1)).all p = ((l.take k).all p && p l[k]) := by
  rw [List.take_succ_eq_append_getElem hk, List.all_append]
  simp
theorem all_false_of {α : Type} {p : α → Bool} {l : List α} {k : Nat} (hk : k < l.length) (h : p l[k] = false) : l.all p = false := by
  rw [List.all_eq_false]
  exact ⟨l[k], List.getElem_mem hk, by simp [h]⟩

theorem map_take_succ {α β : Type} (f : α → β) (l : List α) (k : Nat) (hk : k < l.length) : (l.take (k + 1)).map f = (l.take k).map f ++ [f l[k]] := by
  rw [List.take_succ_eq_append_getElem hk, List.map_append]; rfl


end Go.Proofs.Ytkbmocgjbhmioaa
