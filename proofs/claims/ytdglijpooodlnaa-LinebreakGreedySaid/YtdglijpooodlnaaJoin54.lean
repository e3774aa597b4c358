/- Lines of words: strings.Join, the model of Cost. -/
import Derived.Test.YtdglijpooodlnaaPos54
import Derived.Test.YtdglijpooodlnaaShelf
import Derived.Laws.Concat
namespace Go.Proofs.Ytdglijpooodlnaa
open Go.RowKit

def joinB (sep : ByteArray) (xs : List ByteArray) : ByteArray := ⟨(Lib.join (xs.map (·.data.toList)) sep.data.toList).toArray⟩
theorem bytesList_inj {a b : ByteArray} (h : a.data.toList = b.data.toList) : a = b := ByteArray.ext (Array.ext' h)
theorem joinB_nil (sep : ByteArray) : joinB sep [] = ⟨#[]⟩ := rfl
theorem joinB_one (sep x : ByteArray) : joinB sep [x] = x := bytesList_inj (by simp [joinB, Lib.join_one])
theorem joinB_list (sep : ByteArray) (xs : List ByteArray) : (joinB sep xs).data.toList = Lib.join (xs.map (·.data.toList)) sep.data.toList := by simp [joinB]
theorem joinB_snoc (sep x : ByteArray) (xs : List ByteArray) (h : xs ≠ []) : joinB sep (xs ++ [x]) = joinB sep xs ++ sep ++ x := by
  refine bytesList_inj ?_
  simp only [ByteArray.data_append, Array.toList_append, joinB_list, List.map_append, List.map_cons, List.map_nil]
  cases xs with
  | nil => exact absurd rfl h
  | cons y ys =>
    rw [List.map_cons, List.cons_append, Lib.join_cons, Lib.join_cons]
    simp [Lib.joinTail, List.append_assoc]
def spaceB : ByteArray := ⟨#[32]⟩
theorem joinB_sum : ∀ (y : ByteArray) (ys : List ByteArray), (joinB spaceB (y :: ys)).size + 1 = ((y :: ys).map fun s => s.size + 1).sum := by
  intro y ys
  have e : (joinB spaceB (y :: ys)).size = (Lib.join ((y :: ys).map (·.data.toList)) spaceB.data.toList).length := by
    rw [← joinB_list, Array.length_toList]; rfl
  have hl : ∀ xs : List ByteArray, (xs.map fun s => s.size + 1).sum = Lib.lens (xs.map (·.data.toList)) + xs.length := by
    intro xs
    induction xs with
    | nil => rfl
    | cons z zs ih =>
      simp only [Lib.lens, List.map_cons, List.sum_cons, List.length_cons, Array.length_toList] at ih ⊢
      have h3 : z.data.size = z.size := rfl
      omega
  have h4 : y.data.toList.length = y.size := Array.length_toList
  have h5 : spaceB.data.toList.length = 1 := rfl
  rw [e, List.map_cons, Lib.join_cons, List.length_append, Lib.joinTail_length, List.length_map, List.map_cons, List.sum_cons, hl ys, h4, h5]
  omega
/-- the words of a line -/
def lineW (l : List ByteArray) (a e : Nat) : List ByteArray := (l.drop a).take (e - a)
theorem lineW_sum {l : List ByteArray} {a e : Nat} (h : a ≤ e) : posF l e = posF l a + ((lineW l a e).map fun s => s.size + 1).sum := by
  obtain ⟨m, rfl⟩ : ∃ m, e = a + m := ⟨e - a, by omega⟩
  unfold posF lineW
  rw [List.take_add, List.map_append, List.sum_append, Nat.add_sub_cancel_left]
theorem lineW_length {l : List ByteArray} {a e : Nat} (he : e ≤ l.length) : (lineW l a e).length = e - a := by
  unfold lineW
  simp
  omega
/-- the text of the words a .. e - 1 -/
def lineB (l : List ByteArray) (a e : Nat) : ByteArray := joinB spaceB (lineW l a e)
theorem lineB_size {l : List ByteArray} {a e : Nat} (h : a < e) (he : e ≤ l.length) : ((lineB l a e).size : Int) = lenF l a e := by
  have h1 := lineW_sum (l := l) (Nat.le_of_lt h)
  have h2 := lineW_length (l := l) (a := a) he
  unfold lineB lenF
  cases hq : lineW l a e with
  | nil => rw [hq] at h2; simp at h2; omega
  | cons y ys =>
    have h3 := joinB_sum y ys
    rw [hq] at h1
    omega
theorem lineB_le {l : List ByteArray} {n a e : Nat} (hb : briefP l n) (h : a < e) (he : e ≤ l.length) : (lineB l a e).size ≤ 301 * e := by
  have h1 := lineB_size h he
  have h2 := posF_le hb e he
  unfold lenF at h1
  omega

theorem join_any (A : Option Addr) (c : Nat) (xs : List ByteArray) (sep : ByteArray) (w : World) (hs : Sl strEl w A xs) (hc : xs.length ≤ c) (hn : xs.length ≤ 140737488355328) (hz : (joinB sep xs).size ≤ 140737488355328) :
    Calls Try.prog 34 #[.slice A xs.length c, .string sep] w fun e w' => e = .returned (.string (joinB sep xs)) ∧ Ext w w' := by
  cases xs with
  | nil =>
    exact (Try.strings_Join_none A c sep w).mono fun e w' ⟨h1, h2⟩ => ⟨h1, h2 ▸ Ext.refl w⟩
  | cons x xs =>
    obtain ⟨b, off, rfl, hb, hcell⟩ := hs (by simp)
    refine (Try.strings_Join b off c (x :: xs) sep w (fun j y hy => ?_) hb hn hc ?_).mono fun e w' ⟨h1, h2⟩ => ⟨h1, h2⟩
    · have := hcell (j * 1 + 0) (.string y) (strEl.flat_get (x :: xs) j 0 y (.string y) hy rfl)
      simpa using this
    · rw [← joinB_list, Array.length_toList]; exact hz

/-- the cost of lines; none if one is too long -/
def costF (l : List ByteArray) (W : Int) : Nat → List Int → Int → Option Int
  | _, [], s => some s
  | a, e :: es, s => if W - lenF l a e.toNat < 0 then none else costF l W e.toNat es (if e < (l.length : Int) then s + (W - lenF l a e.toNat) * (W - lenF l a e.toNat) else s)
theorem costF_drop {l : List ByteArray} {W : Int} {es : List Int} {k : Nat} (hk : k < es.length) (a : Nat) (s : Int) :
    costF l W a (es.drop k) s = if W - lenF l a es[k].toNat < 0 then none else costF l W es[k].toNat (es.drop (k + 1)) (if es[k] < (l.length : Int) then s + (W - lenF l a es[k].toNat) * (W - lenF l a es[k].toNat) else s) := by
  rw [List.drop_eq_getElem_cons hk, costF]
def costE : Option Int → Int × Int
  | some s => (s, 0)
  | none => (0, 2)
/-- what Cost returns -/
def costR (l : List ByteArray) (W : Int) (es : List Int) : Int × Int :=
  if wrongF W l ≠ 0 then (0, wrongF W l) else if endsB (l.length : Int) 0 es = true then costE (costF l W 0 es 0) else (0, 2)
def Ret2 (w : World) (p : Int × Int) (e : Ending) (w' : World) : Prop := e = .returned (.tuple #[.int .i64 p.1, .int .i64 p.2]) ∧ Ext w w'
theorem ret2 {p : Int × Int} {a b : Int} (h : p = (a, b)) : Ending.returned (.tuple #[.int .i64 a, .int .i64 b]) = .returned (.tuple #[.int .i64 p.1, .int .i64 p.2]) := by rw [h]
/-- an end is behind the one before it, and the last one is the number of words -/
theorem endsB_step {n a x : Int} {es : List Int} (h : endsB n a (x :: es) = true) : a < x ∧ x ≤ n ∧ endsB n x es = true := by
  simp only [endsB, Bool.and_eq_true, decide_eq_true_eq] at h
  exact ⟨h.1.1, h.1.2, h.2⟩
theorem endsB_last {n x : Int} {es : List Int} (h : endsB n x es = true) : (es = [] ↔ ¬ x < n) := by
  cases es with
  | nil => simp only [endsB, decide_eq_true_eq] at h; simp; omega
  | cons y ys => have := endsB_step h; simp; omega

end Go.Proofs.Ytdglijpooodlnaa
