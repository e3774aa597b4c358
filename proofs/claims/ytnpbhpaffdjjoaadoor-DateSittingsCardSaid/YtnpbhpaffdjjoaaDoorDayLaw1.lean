/- What the functions on days compute answers as the chapter says: plain laws. -/
import Derived.Test.YtnpbhpaffdjjoaaDoorAdd1
import Derived.Sort.Walk0
namespace Go.Proofs.YtnpbhpaffdjjoaaDoor
open Go.RowKit

theorem startB_of {d y : Int} (h1 : d ≤ 1048576) (hy : IsYear d y) : startB y = true := by
  obtain ⟨a, b, _⟩ := hy
  simp only [startB, Bool.and_eq_true, decide_eq_true_eq]
  omega
theorem startF_of {y : Int} (h : startB y = true) : startF y = dy y := by simp [startF, h]
theorem atB_parts {y o : Int} (h : atB y o = true) : startB y = true ∧ 1 ≤ o ∧ o ≤ daysF y ∧ 0 ≤ dy y + o - 1 ∧ dy y + o - 1 ≤ 1048576 := by
  simp only [atB, Bool.and_eq_true, decide_eq_true_eq, dayB_iff] at h
  omega
theorem atB_mk {y o : Int} (h1 : startB y = true) (h2 : 1 ≤ o) (h3 : o ≤ daysF y) (h4 : 0 ≤ dy y + o - 1) (h5 : dy y + o - 1 ≤ 1048576) : atB y o = true := by
  simp only [atB, Bool.and_eq_true, decide_eq_true_eq, dayB_iff]
  exact ⟨h1, h2, h3, h4, h5⟩
theorem atF_of {y o : Int} (h : atB y o = true) : atF y o = dy y + o - 1 := by simp [atF, h]
/-- the day that has a place in a year lies in that year -/
theorem at_year {y o : Int} (h : atB y o = true) : IsYear (dy y + o - 1) y := by
  obtain ⟨h1, h2, h3, h4, h5⟩ := atB_parts h
  have h6 := (startB_bd h1).2.2
  have := dy_succ y (by omega)
  exact ⟨h6, by omega, by omega⟩
theorem at_self {d y : Int} (h0 : 0 ≤ d) (h1 : d ≤ 1048576) (hy : IsYear d y) : atB y (d - dy y + 1) = true ∧ atF y (d - dy y + 1) = d := by
  have hs := startB_of h1 hy
  obtain ⟨a, b, c⟩ := hy
  have := dy_succ y (by omega)
  have h : atB y (d - dy y + 1) = true := atB_mk hs (by omega) (by omega) (by omega) (by omega)
  exact ⟨h, by rw [atF_of h]; omega⟩

/-- years added and taken off again -/
theorem add_back {d y k : Int} (h0 : 0 ≤ d) (h1 : d ≤ 1048576) (hy : IsYear d y) (h : addB (y + k) (d - dy y + 1) = true) :
    ∃ n M, addN (y + k) (d - dy y + 1) = n ∧ 0 ≤ n ∧ n ≤ 1048576 ∧ IsYear n (y + k) ∧ n - dy (y + k) + 1 = M ∧ addB (y + k + -k) M = true ∧ (d - dy y + 1 ≠ 366 → addN (y + k + -k) M = d) := by
  unfold addB at h
  have hp := atB_parts h
  have hyk := at_year h
  have hs := startB_of h1 hy
  obtain ⟨a, b, c⟩ := hy
  have hsu := dy_succ y (by omega)
  have hb1 := daysF_bd (y + k)
  have hb2 := daysF_bd y
  obtain ⟨O, hO⟩ : ∃ O, d - dy y + 1 = O := ⟨_, rfl⟩
  rw [hO] at h hp hyk ⊢
  have hm1 : min O (daysF (y + k)) ≤ O := Int.min_le_left _ _
  have hm2 : O ≤ 365 → min O (daysF (y + k)) = O := fun h => by omega
  have hN : addN (y + k) O = dy (y + k) + min O (daysF (y + k)) - 1 := atF_of h
  obtain ⟨M, hM⟩ : ∃ M, min O (daysF (y + k)) = M := ⟨_, rfl⟩
  rw [hM] at h hp hyk hm1 hm2 hN
  have hm3 : min M (daysF y) ≤ M := Int.min_le_left _ _
  have hm4 : min M (daysF y) ≤ daysF y := Int.min_le_right _ _
  have hm5 : 1 ≤ min M (daysF y) := by have := hp.2.1; omega
  have hdy := (startB_bd hs).1
  refine ⟨dy (y + k) + M - 1, M, hN, hp.2.2.2.1, hp.2.2.2.2, hyk, by omega, ?_, ?_⟩
  · rw [show y + k + -k = y from by omega]
    unfold addB
    exact atB_mk hs hm5 hm4 (by omega) (by omega)
  · intro hne
    have e1 : M = O := hm2 (by omega)
    subst e1
    rw [show y + k + -k = y from by omega]
    unfold addN
    rw [show min M (daysF y) = M from by omega, atF_of (atB_mk hs (by omega) (by omega) (by omega) (by omega))]
    omega

theorem text_list (y o : Nat) : (textF y o).data.toList = digs 4 y ++ 45 :: digs 3 o := rfl
theorem text_take (y o : Nat) : (textF y o).data.toList.take 4 = digs 4 y := by
  rw [text_list, List.take_left' (digs_length 4 y)]
theorem text_drop (y o : Nat) : (textF y o).data.toList.drop 5 = digs 3 o := by
  rw [text_list, show digs 4 y ++ 45 :: digs 3 o = (digs 4 y ++ [45]) ++ digs 3 o from by simp, List.drop_left' (by simp [digs_length])]
theorem text_form (y o : Nat) : formB (textF y o).data.toList = true := by
  have h4 : (textF y o).data.toList[4]? = some 45 := by
    rw [text_list, List.getElem?_append_right (by rw [digs_length]; omega), digs_length]
    rfl
  unfold formB
  rw [text_take, text_drop, h4, numB_digs, numB_digs, text_list]
  simp [digs_length]
/-- the text of a day is parsed to the day -/
theorem text_parse {d : Int} {Y O : Nat} (h0 : 0 ≤ d) (h1 : d ≤ 1048576) (hy : IsYear d Y) (hO : d - dy Y + 1 = O) (hY : Y ≤ 4772) (hO2 : O ≤ 366) : parseN (textF Y O).data.toList = d ∧ parseE (textF Y O).data.toList = 0 := by
  have hf := text_form Y O
  have e1 : valN ((textF Y O).data.toList.take 4) = Y := by rw [text_take, valN_digs 4 Y (by omega)]
  have e2 : valN ((textF Y O).data.toList.drop 5) = O := by rw [text_drop, valN_digs 3 O (by omega)]
  obtain ⟨a1, a2⟩ := at_self h0 h1 hy
  rw [hO] at a1 a2
  have := parse_yes hf (by rw [e1, e2]; exact a1)
  rw [e1, e2, a2] at this
  exact this
theorem split8 {l : List UInt8} (h : l.length = 8) (h4 : l[4]? = some 45) : l.take 4 ++ 45 :: l.drop 5 = l := by
  have h5 : l[4]'(by omega) = 45 := by
    rw [List.getElem?_eq_getElem (by omega)] at h4
    exact Option.some.inj h4
  have := List.drop_eq_getElem_cons (l := l) (i := 4) (by omega)
  rw [h5] at this
  rw [← this, List.take_append_drop]
/-- an accepted text is the text of its day -/
theorem parse_text {s : ByteArray} (h : parseE s.data.toList = 0) : ∃ (n : Int) (Y O : Nat), parseN s.data.toList = n ∧ 0 ≤ n ∧ n ≤ 1048576 ∧ IsYear n Y ∧ n - dy Y + 1 = O ∧ textF Y O = s := by
  cases hf : formB s.data.toList with
  | false => rw [(parse_no hf).2] at h; cases h
  | true =>
    cases ha : atB (valN (s.data.toList.take 4)) (valN (s.data.toList.drop 5)) with
    | false => rw [(parse_out hf ha).2] at h; cases h
    | true =>
      have hp := atB_parts ha
      refine ⟨_, valN (s.data.toList.take 4), valN (s.data.toList.drop 5), rfl, ?_⟩
      rw [(parse_yes hf ha).1, atF_of ha]
      refine ⟨hp.2.2.2.1, hp.2.2.2.2, at_year ha, by omega, ?_⟩
      simp only [formB, Bool.and_eq_true, decide_eq_true_eq] at hf
      obtain ⟨h8, h4, n1, n2⟩ := hf
      unfold textF
      rw [digs_valN 4 _ (by rw [List.length_take]; omega) n1, digs_valN 3 _ (by rw [List.length_drop]; omega) n2, split8 h8 h4, bstr_self]
theorem app_lt {α : Type} [LT α] [DecidableEq α] [Std.Irrefl (α := α) (· < ·)] : ∀ {x y u v : List α}, x.length = y.length → ((x ++ u) < (y ++ v) ↔ x < y ∨ (x = y ∧ u < v))
  | [], [], u, v, _ => by simp
  | a :: x, b :: y, u, v, hl => by
    have ih := app_lt (x := x) (y := y) (u := u) (v := v) (by simpa using hl)
    rw [List.cons_append, List.cons_append, List.cons_lt_cons_iff, List.cons_lt_cons_iff, ih]
    constructor
    · rintro (h | ⟨e, h | ⟨h, h2⟩⟩)
      · exact .inl (.inl h)
      · exact .inl (.inr ⟨e, h⟩)
      · exact .inr ⟨by rw [e, h], h2⟩
    · rintro ((h | ⟨e, h⟩) | ⟨h, h2⟩)
      · exact .inl h
      · exact .inr ⟨e, .inl h⟩
      · rw [List.cons.injEq] at h
        exact .inr ⟨h.1, .inr ⟨h.2, h2⟩⟩
/-- the order of texts is the order of days -/
theorem text_less {a b : Int} {Y O Z P : Nat} (ha : IsYear a Y) (hb : IsYear b Z) (hO : a - dy Y + 1 = O) (hP : b - dy Z + 1 = P) (hY : Y ≤ 4772) (hZ : Z ≤ 4772) (hO2 : O ≤ 366) (hP2 : P ≤ 366) :
    Op.bytesLess (textF Y O).toList (textF Z P).toList = decide (a < b) := by
  rw [bytesLess_eq, ByteArray.toList_eq, ByteArray.toList_eq, text_list, text_list]
  refine decide_eq_decide.2 ?_
  rw [app_lt (by rw [digs_length, digs_length]), List.cons_lt_cons_iff, digs_lt 4 Y Z (by omega) (by omega), digs_lt 3 O P (by omega) (by omega)]
  obtain ⟨a1, a2, a3⟩ := ha
  obtain ⟨b1, b2, b3⟩ := hb
  constructor
  · rintro (h | ⟨h, h2 | ⟨_, h2⟩⟩)
    · have := dy_mono (Y + 1) Z (by omega)
      omega
    · exact absurd h2 (by decide)
    · have := congrArg valN h
      rw [valN_digs 4 Y (by omega), valN_digs 4 Z (by omega)] at this
      subst this
      omega
  · intro h
    rcases Nat.lt_trichotomy Y Z with h1 | h1 | h1
    · exact .inl h1
    · subst h1
      exact .inr ⟨rfl, .inr ⟨rfl, by omega⟩⟩
    · have := dy_mono (Z + 1) Y (by omega)
      omega

end Go.Proofs.YtnpbhpaffdjjoaaDoor
