/- Chapter 10 in lists: anchors, findings, called notes, the renumbered tree; the elements that the program has. -/
import Derived.Test.YtiacmahfjcolaaaDoorLabB10
import Derived.Test.YtiacmahfjcolaaaDoorTreeLaws
namespace Go.Proofs.YtiacmahfjcolaaaDoor
open Go.RowKit

structure GId where
  a : Int
  i : Int
  n : Int
deriving DecidableEq
def GId.cells (x : GId) : List Value := [.int .i64 x.a, .int .i64 x.i, .int .i64 x.n]
/-- a finding: its place, the ID, the error, the text -/
structure GFind where
  at_ : Int
  a : Int
  i : Int
  n : Int
  why : Int
  text : ByteArray
def GFind.cells (x : GFind) : List Value := [.int .i64 x.at_, .int .i64 x.a, .int .i64 x.i, .int .i64 x.n, .int .i64 x.why, .string x.text]
instance : DecidableEq GFind := fun x y => by
  rcases x with ⟨a, b, c, d, e, f⟩
  rcases y with ⟨a', b', c', d', e', f'⟩
  exact decidable_of_iff (a = a' ∧ b = b' ∧ c = c' ∧ d = d' ∧ e = e' ∧ f = f') (by simp)
def idEl : El Tryd.prog GId := { t := 41, e := 23, m := 3, bytes := 24, z := .agg #[.int .i64 0, .int .i64 0, .int .i64 0], E := GId.cells, hE := fun _ => rfl, h1 := by simp [GId.cells, Value.oneCell'], ht := by kernel_rfl, hi := by kernel_rfl, hz := rfl, hm := by decide, hb := by decide, agg := true, hagg := Tryd.isAgg23 }
def findEl : El Tryd.prog GFind := { t := 36, e := 62, m := 6, bytes := 56, z := .agg #[.int .i64 0, .int .i64 0, .int .i64 0, .int .i64 0, .int .i64 0, .string ByteArray.empty], E := GFind.cells, hE := fun _ => rfl, h1 := by simp [GFind.cells, Value.oneCell'], ht := by kernel_rfl, hi := by kernel_rfl, hz := rfl, hm := by decide, hb := by decide, agg := true, hagg := Tryd.isAgg62 }

def GUnit.kind : GUnit → Int | .mk _ _ _ k _ _ _ _ => k
def GUnit.label : GUnit → ByteArray | .mk _ _ _ _ l _ _ _ => l
def GUnit.head : GUnit → List GWord | .mk _ _ _ _ _ h _ _ => h
def GUnit.words : GUnit → List GWord | .mk _ _ _ _ _ _ w _ => w
def GUnit.kids : GUnit → List GUnit | .mk _ _ _ _ _ _ _ k => k
def GUnit.id : GUnit → GId | .mk a i n _ _ _ _ _ => ⟨a, i, n⟩
/-- what of a child counts: kind and label -/
def keyU (u : GUnit) : Int × ByteArray := (u.kind, u.label)
def keyR (r : RUnit) : Int × ByteArray := (r.kind, r.label)
theorem Reads.key {w : World} {u : GUnit} {r : RUnit} (h : Reads w u r) : keyR r = keyU u := by
  obtain ⟨a, i, n, k, l, hd, wd, kids⟩ := u
  rw [Reads] at h
  obtain ⟨⟨-, -, -, h4, h5⟩, -⟩ := h
  simp [keyR, keyU, GUnit.kind, GUnit.label, h4, h5]
theorem ReadsAll.keys {w : World} : ∀ {us : List GUnit} {rs : List RUnit}, ReadsAll w us rs → rs.map keyR = us.map keyU
  | [], [], _ => rfl
  | u :: us, r :: rs, h => by
    rw [ReadsAll] at h
    rw [List.map_cons, List.map_cons, h.1.key, ReadsAll.keys h.2]
  | [], _ :: _, h => by rw [ReadsAll] at h; exact h.elim
  | _ :: _, [], h => by rw [ReadsAll] at h; exact h.elim

instance memDec (s : ByteArray) (l : List ByteArray) : Decidable (s ∈ l) := decidable_of_iff (l.any (fun x => decide (x = s)) = true) (by simp)
/-- the first place from k on, or -1 -/
def idxI {α : Type} (q : α → Bool) : List α → Nat → Int
  | [], _ => -1
  | x :: r, k => if q x = true then (k : Int) else idxI q r (k + 1)
theorem idxI_drop {α : Type} {q : α → Bool} {l : List α} {k : Nat} (h : k < l.length) : idxI q (l.drop k) k = if q l[k] = true then (k : Int) else idxI q (l.drop (k + 1)) (k + 1) := by
  rw [List.drop_eq_getElem_cons h, idxI]
theorem idxI_end {α : Type} {q : α → Bool} {l : List α} {k : Nat} (h : l.length ≤ k) : idxI q (l.drop k) k = -1 := by
  rw [List.drop_of_length_le h, idxI]
theorem idxI_range {α : Type} (q : α → Bool) : ∀ (l : List α) (k : Nat), idxI q l k = -1 ∨ ∃ j : Nat, idxI q l k = ((k + j : Nat) : Int) ∧ ∃ h : j < l.length, q l[j] = true
  | [], k => .inl rfl
  | x :: r, k => by
    rw [idxI]
    split
    · rename_i h; exact .inr ⟨0, by simp, by simp, h⟩
    · rcases idxI_range q r (k + 1) with h | ⟨j, h1, h2, h3⟩
      · exact .inl h
      · exact .inr ⟨j + 1, by rw [h1]; congr 1; omega, by simpa using h2, by simpa using h3⟩
theorem idxI_neg {α : Type} (q : α → Bool) : ∀ (l : List α) (k : Nat), idxI q l k < 0 ↔ ∀ x ∈ l, q x = false
  | [], k => by simp [idxI]
  | x :: r, k => by
    rw [idxI]
    split
    · rename_i h
      simp only [List.mem_cons, forall_eq_or_imp, h, Bool.true_eq_false, false_and, iff_false]
      omega
    · rename_i h
      rw [idxI_neg q r (k + 1)]
      simp only [List.mem_cons, forall_eq_or_imp]
      simp at h
      simp [h]
/-- the first place of a string -/
def placeI (l : List ByteArray) (s : ByteArray) : Int := idxI (fun x => decide (x = s)) l 0
/-- the first note with a label -/
def isNote (s : ByteArray) (k : Int × ByteArray) : Bool := decide (k.1 = 7) && decide (k.2 = s)
def noteI (ks : List (Int × ByteArray)) (s : ByteArray) : Int := idxI (isNote s) ks 0
theorem placeI_neg (l : List ByteArray) (s : ByteArray) : placeI l s < 0 ↔ s ∉ l := by
  unfold placeI
  rw [idxI_neg]
  simp only [decide_eq_false_iff_not]
  constructor
  · intro h hm; exact h s hm rfl
  · rintro h x hx rfl; exact h hx

/-- the labels of the anchors -/
def anchL : List GWord → List ByteArray
  | [] => []
  | x :: r => if ancB x.t = true then ancT x.t :: anchL r else anchL r
theorem anchL_append (xs ys : List GWord) : anchL (xs ++ ys) = anchL xs ++ anchL ys := by
  induction xs with
  | nil => rfl
  | cons x r ih =>
    rw [List.cons_append, anchL, anchL]
    split <;> simp [ih]
theorem anchL_take {l : List GWord} {k : Nat} (h : k < l.length) : anchL (l.take (k + 1)) = anchL (l.take k) ++ if ancB l[k].t = true then [ancT l[k].t] else [] := by
  rw [List.take_succ_eq_append_getElem h, anchL_append]
  congr 1
theorem anchL_len (l : List GWord) : (anchL l).length ≤ l.length := by
  induction l with
  | nil => exact Nat.le_refl _
  | cons x r ih =>
    rw [anchL]
    split <;> simp <;> omega
def GUnit.anchs (u : GUnit) : List ByteArray := anchL u.words
def GUnit.keys (u : GUnit) : List (Int × ByteArray) := u.kids.map keyU

/-- the findings among a unit's words: from place i on, where the labels of 'seen' have been met -/
def findW (id : GId) (ks : List (Int × ByteArray)) : Nat → List ByteArray → List GWord → List GFind
  | _, _, [] => []
  | i, seen, x :: r =>
    if ancB x.t = true then (if ancT x.t ∈ seen then [⟨i, id.a, id.i, id.n, 5, ancT x.t⟩] else if noteI ks (ancT x.t) < 0 then [⟨i, id.a, id.i, id.n, 4, ancT x.t⟩] else []) ++ findW id ks (i + 1) (seen ++ [ancT x.t]) r
    else findW id ks (i + 1) seen r
/-- the findings among its children -/
def findK (ks : List (Int × ByteArray)) (seen : List ByteArray) : Nat → List GUnit → List GFind
  | _, [] => []
  | i, u :: r => (if u.kind = 7 ∧ (u.label ∉ seen ∨ noteI ks u.label ≠ i) then [⟨i, u.id.a, u.id.i, u.id.n, 7, u.label⟩] else []) ++ findK ks seen (i + 1) r
def ownF (u : GUnit) : List GFind := findW u.id u.keys 0 [] u.words ++ findK u.keys u.anchs 0 u.kids
mutual
def checkF : GUnit → List GFind
  | .mk a i n k l hd wd kids => ownF (.mk a i n k l hd wd kids) ++ checkL kids
def checkL : List GUnit → List GFind
  | [] => []
  | u :: r => checkF u ++ checkL r
end
mutual
/-- the units in document order -/
def preF : GUnit → List GUnit
  | .mk a i n k l hd wd kids => .mk a i n k l hd wd kids :: preL kids
def preL : List GUnit → List GUnit
  | [] => []
  | u :: r => preF u ++ preL r
end
mutual
theorem checkF_pre : ∀ u, checkF u = (preF u).flatMap ownF
  | .mk a i n k l hd wd kids => by rw [checkF, preF, List.flatMap_cons, checkL_pre kids]
theorem checkL_pre : ∀ us, checkL us = (preL us).flatMap ownF
  | [] => rfl
  | u :: r => by rw [checkL, preL, List.flatMap_append, checkF_pre u, checkL_pre r]
end
/-- the called notes of a unit, in the order of the first calls -/
def notesG (ks : List (Int × ByteArray)) (ids : List GId) : List ByteArray → List ByteArray → List GId
  | _, [] => []
  | seen, s :: r => (if s ∉ seen ∧ 0 ≤ noteI ks s then (ids[(noteI ks s).toNat]?).toList else []) ++ notesG ks ids (seen ++ [s]) r
def notesOwn (u : GUnit) : List GId := notesG u.keys (u.kids.map GUnit.id) [] u.anchs
mutual
def notesF : GUnit → List GId
  | .mk a i n k l hd wd kids => notesOwn (.mk a i n k l hd wd kids) ++ notesL kids
def notesL : List GUnit → List GId
  | [] => []
  | u :: r => notesF u ++ notesL r
end
mutual
theorem notesF_pre : ∀ u, notesF u = (preF u).flatMap notesOwn
  | .mk a i n k l hd wd kids => by rw [notesF, preF, List.flatMap_cons, notesL_pre kids]
theorem notesL_pre : ∀ us, notesL us = (preL us).flatMap notesOwn
  | [] => rfl
  | u :: r => by rw [notesL, preL, List.flatMap_append, notesF_pre u, notesL_pre r]
end

end Go.Proofs.YtiacmahfjcolaaaDoor
