/- The optimal lines: plain laws; a block of ints. -/
import Derived.Test.YtdglijpooodlnaaGreedy54
namespace Go.Proofs.Ytdglijpooodlnaa
open Go.RowKit

/-- the cost of the words from i on if the first line ends at e, T the costs behind -/
def cand (l : List ByteArray) (W : Int) (T : Nat → Int) (i e : Nat) : Int := if e = l.length then 0 else (W - lenF l i e) * (W - lenF l i e) + T e
def sc (l : List ByteArray) (W : Int) (T : Nat → Int) (i : Nat) : Nat → Int × Nat
  | 0 => (9223372036854775807, 0)
  | q + 1 => if cand l W T i (i + q + 1) < (sc l W T i q).1 then (cand l W T i (i + q + 1), i + q + 1) else sc l W T i q
/-- the rows for n - m .. n -/
def tb (l : List ByteArray) (W : Int) : Nat → List (Int × Nat)
  | 0 => [(0, 0)]
  | m + 1 => sc l W (fun e => ((tb l W m).getD (e - (l.length - m)) (0, 0)).1) (l.length - (m + 1)) (gF l W (l.length - (m + 1)) - (l.length - (m + 1))) :: tb l W m
def CN (l : List ByteArray) (W : Int) (i : Nat) : Int × Nat := (tb l W (l.length - i)).headD (0, 0)
def CF (l : List ByteArray) (W : Int) (i : Nat) : Int := (CN l W i).1
def NF (l : List ByteArray) (W : Int) (i : Nat) : Nat := (CN l W i).2

theorem tb_get (l : List ByteArray) (W : Int) : ∀ (m k : Nat), k ≤ m → (tb l W m).getD k (0, 0) = (tb l W (m - k)).headD (0, 0)
  | 0, k, h => by
    obtain rfl : k = 0 := by omega
    rfl
  | m + 1, 0, h => rfl
  | m + 1, k + 1, h => by
    have := tb_get l W m k (by omega)
    simp only [tb, List.getD_cons_succ]
    rw [this, Nat.succ_sub_succ]
theorem sc_congr {l : List ByteArray} {W : Int} {T T' : Nat → Int} {i : Nat} : ∀ q, (∀ e, i < e → e ≤ i + q → T e = T' e) → sc l W T i q = sc l W T' i q
  | 0, _ => rfl
  | q + 1, h => by
    have h1 := sc_congr (l := l) (W := W) q fun e h1 h2 => h e h1 (by omega)
    have h2 : cand l W T i (i + q + 1) = cand l W T' i (i + q + 1) := by
      unfold cand
      rw [h _ (by omega) (by omega)]
    simp only [sc, h1, h2]
theorem CF_end (l : List ByteArray) (W : Int) : CF l W l.length = 0 := by
  unfold CF CN
  rw [Nat.sub_self]
  rfl
theorem CN_row {l : List ByteArray} {W : Int} {i : Nat} (hi : i < l.length) : CN l W i = sc l W (CF l W) i (gF l W i - i) := by
  obtain ⟨m, hm⟩ : ∃ m, l.length - i = m + 1 := ⟨l.length - i - 1, by omega⟩
  have hg := gF_is W (show i ≤ l.length by omega)
  have h1 := hg.le
  have h2 := hg.ge
  unfold CN
  rw [hm, tb, List.headD_cons]
  have e1 : l.length - (m + 1) = i := by omega
  rw [e1]
  refine sc_congr _ fun e he1 he2 => ?_
  rw [tb_get l W m _ (by omega)]
  unfold CF CN
  have e2 : m - (e - (l.length - m)) = l.length - e := by omega
  rw [e2]
/-- the first least cost -/
structure Least (l : List ByteArray) (W : Int) (T : Nat → Int) (i q : Nat) (p : Int × Nat) : Prop where
  lo : i < p.2
  hi : p.2 ≤ i + q
  eq : p.1 = cand l W T i p.2
  least : ∀ e, i < e → e ≤ i + q → p.1 ≤ cand l W T i e
  first : ∀ e, i < e → e < p.2 → p.1 < cand l W T i e
theorem sc_least {l : List ByteArray} {W : Int} {T : Nat → Int} {i : Nat} : ∀ q, (∀ e, i < e → e ≤ i + (q + 1) → cand l W T i e < 9223372036854775807) → Least l W T i (q + 1) (sc l W T i (q + 1))
  | 0, h => by
    have h1 := h (i + 0 + 1) (by omega) (by omega)
    have e1 : sc l W T i (0 + 1) = (cand l W T i (i + 0 + 1), i + 0 + 1) := by
      show (if _ then _ else _) = _
      exact if_pos h1
    rw [e1]
    refine ⟨by simp, by simp, rfl, fun e he1 he2 => ?_, fun e he1 he2 => by simp at he2; omega⟩
    obtain rfl : e = i + 0 + 1 := by omega
    exact Int.le_refl _
  | q + 1, h => by
    have hq := sc_least (l := l) (W := W) (T := T) (i := i) q fun e h1 h2 => h e h1 (by omega)
    have e1 : sc l W T i (q + 1 + 1) = if cand l W T i (i + (q + 1) + 1) < (sc l W T i (q + 1)).1 then (cand l W T i (i + (q + 1) + 1), i + (q + 1) + 1) else sc l W T i (q + 1) := rfl
    rw [e1]
    obtain ⟨p, hp⟩ : ∃ p, sc l W T i (q + 1) = p := ⟨_, rfl⟩
    rw [hp] at hq ⊢
    split
    · rename_i hlt
      refine ⟨by simp; omega, by simp; omega, rfl, fun e he1 he2 => ?_, fun e he1 he2 => ?_⟩
      · rcases Nat.lt_or_ge e (i + (q + 1) + 1) with h3 | h3
        · have := hq.least e he1 (by omega)
          show cand l W T i (i + (q + 1) + 1) ≤ _
          omega
        · obtain rfl : e = i + (q + 1) + 1 := by omega
          exact Int.le_refl _
      · have he2' : e < i + (q + 1) + 1 := he2
        have := hq.least e he1 (by omega)
        show cand l W T i (i + (q + 1) + 1) < _
        omega
    · rename_i hlt
      refine ⟨hq.lo, by have := hq.hi; omega, hq.eq, fun e he1 he2 => ?_, hq.first⟩
      rcases Nat.lt_or_ge e (i + (q + 1) + 1) with h3 | h3
      · exact hq.least e he1 (by omega)
      · obtain rfl : e = i + (q + 1) + 1 := by omega
        omega
theorem sq_le {a : Int} (h0 : 0 ≤ a) (h1 : a ≤ 200) : 0 ≤ a * a ∧ a * a ≤ 40000 := by
  refine ⟨Int.mul_nonneg h0 h0, ?_⟩
  have : a * a ≤ 200 * 200 := Int.mul_le_mul h1 h1 h0 (by decide)
  omega
theorem lenF_nonneg {l : List ByteArray} {i e : Nat} (h : i < e) (he : e ≤ l.length) : 0 ≤ lenF l i e := by
  have h1 := posF_succ (l := l) (i := i) (by omega)
  have h2 := posF_mono l (i + 1) e (by omega)
  unfold lenF
  omega
theorem cand_bound {l : List ByteArray} {W : Int} (hF : Fit W l) {T : Nat → Int} {B : Int} {i e : Nat} (hB : 0 ≤ B) (h1 : i < e) (h2 : e ≤ gF l W i) (hi : i < l.length) (hT0 : 0 ≤ T e) (hTB : T e ≤ B) :
    0 ≤ cand l W T i e ∧ cand l W T i e ≤ 40000 + B := by
  have hg := gF_is W (show i ≤ l.length by omega)
  have h3 := hg.fit e h1 h2
  have h4 := lenF_nonneg h1 (Nat.le_trans h2 hg.le)
  have hW := hF.hi
  have h5 := sq_le (a := W - lenF l i e) (by omega) (by omega)
  unfold cand
  split
  · omega
  · omega
theorem CF_bound {l : List ByteArray} {W : Int} (hF : Fit W l) : ∀ (m i : Nat), l.length - i = m → i ≤ l.length → 0 ≤ CF l W i ∧ CF l W i ≤ 40000 * (m : Int) ∧ (i < l.length → Least l W (CF l W) i (gF l W i - i) (CN l W i)) := by
  intro m
  induction m using Nat.strongRecOn with
  | _ m ih =>
    intro i him hi
    rcases Nat.lt_or_ge i l.length with hlt | hge
    · have hg := gF_is W hi
      have hgl := hF.lt hlt
      have hgn := hg.le
      have hc : ∀ e, i < e → e ≤ gF l W i → 0 ≤ cand l W (CF l W) i e ∧ cand l W (CF l W) i e ≤ 40000 + 40000 * ((m - 1 : Nat) : Int) := fun e h1 h2 => by
        obtain ⟨h3, h4, _⟩ := ih (l.length - e) (by omega) e rfl (by omega)
        exact cand_bound hF (by omega) h1 h2 hlt h3 (by omega)
      obtain ⟨q, hq⟩ : ∃ q, gF l W i - i = q + 1 := ⟨gF l W i - i - 1, by omega⟩
      have hb := hF.brief.1
      have hL := sc_least (l := l) (W := W) (T := CF l W) (i := i) q fun e h1 h2 => by
        have := (hc e h1 (by omega)).2
        omega
      rw [← hq, ← CN_row hlt] at hL
      have h5 := hc _ hL.lo (by have := hL.hi; omega)
      have h6 := hL.eq
      have h7 : CF l W i = cand l W (CF l W) i (CN l W i).2 := h6
      rw [h7]
      exact ⟨h5.1, by omega, fun _ => hL⟩
    · obtain rfl : i = l.length := by omega
      rw [CF_end]
      exact ⟨by omega, by omega, fun h => absurd h (by omega)⟩
theorem CF_le {l : List ByteArray} {W : Int} (hF : Fit W l) {i : Nat} (hi : i ≤ l.length) : 0 ≤ CF l W i ∧ CF l W i ≤ 2400000 := by
  have := CF_bound hF _ i rfl hi
  have hb := hF.brief.1
  omega
theorem CN_least {l : List ByteArray} {W : Int} (hF : Fit W l) {i : Nat} (hi : i < l.length) : Least l W (CF l W) i (gF l W i - i) (CN l W i) := (CF_bound hF _ i rfl (by omega)).2.2 hi
theorem NF_lt {l : List ByteArray} {W : Int} (hF : Fit W l) {i : Nat} (hi : i < l.length) : i < NF l W i ∧ NF l W i ≤ gF l W i := by
  have h := CN_least hF hi
  have h1 := (gF_is W (show i ≤ l.length by omega)).ge
  exact ⟨h.lo, by have := h.hi; unfold NF; omega⟩

/-- the ends of the optimal lines from i on -/
def bEndsF (l : List ByteArray) (W : Int) : Nat → Nat → List Int
  | 0, _ => []
  | f + 1, i => if i < l.length then (NF l W i : Int) :: bEndsF l W f (NF l W i) else []
def bLines (l : List ByteArray) (W : Int) : List Int := bEndsF l W l.length 0
theorem bEndsF_end {l : List ByteArray} {W : Int} {f i : Nat} (h : l.length ≤ i) : bEndsF l W f i = [] := by
  cases f with
  | zero => rfl
  | succ f => rw [bEndsF, if_neg (by omega)]
theorem bEndsF_len {l : List ByteArray} {W : Int} (hF : Fit W l) : ∀ (f i : Nat), i ≤ l.length → (bEndsF l W f i).length ≤ l.length - i
  | 0, _, _ => Nat.zero_le _
  | f + 1, i, hi => by
    rw [bEndsF]
    split
    · rename_i h
      have h1 := NF_lt hF h
      have h2 := (gF_is W hi).le
      have := bEndsF_len hF f (NF l W i) (by omega)
      rw [List.length_cons]
      omega
    · exact Nat.zero_le _

/-- a block of ints -/
def HasL (w : World) (B : Nat) (xs : List Int) : Prop := w.heap[B]? = some (.cells (xs.map (Value.int .i64)).toArray 3 (0, 0))
theorem HasL.cell {w : World} {B : Nat} {xs : List Int} (h : HasL w B xs) {k : Nat} {x : Int} (hk : xs[k]? = some x) : w.cell? ⟨B, k, none⟩ = some (.int .i64 x) := by
  unfold HasL at h
  simp [World.cell?, h, hk]
theorem HasL.free {w : World} {B : Nat} {xs : List Int} (h : HasL w B xs) (k : Nat) : w.frozen? ⟨B, k, none⟩ = false := by
  unfold HasL at h
  simp [World.frozen?, h]
theorem HasL.set {w : World} {B : Nat} {xs : List Int} (h : HasL w B xs) (k : Nat) (v : Int) : HasL (w.setCell ⟨B, k, none⟩ (.int .i64 v)) B (xs.set k v) := by
  have hlt := lt_of_block h
  have h' : w.heap[B] = .cells (xs.map (Value.int .i64)).toArray 3 (0, 0) := by
    unfold HasL at h
    simpa [Array.getElem?_eq_getElem hlt] using h
  unfold HasL
  show (w.heap.modify B _)[B]? = _
  rw [Array.getElem?_eq_getElem (by simpa using hlt), Array.getElem_modify_self, h']
  simp [List.map_set]
theorem HasL.keep {w w' : World} {B : Nat} {xs : List Int} (h : HasL w B xs) (hb : w'.heap[B]? = w.heap[B]?) : HasL w' B xs := hb.trans h
theorem HasL.lt {w : World} {B : Nat} {xs : List Int} (h : HasL w B xs) : B < w.heap.size := lt_of_block h

end Go.Proofs.Ytdglijpooodlnaa
