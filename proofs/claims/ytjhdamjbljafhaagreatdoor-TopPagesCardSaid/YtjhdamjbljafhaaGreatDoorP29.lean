/-  -/
import Derived.Test.YtjhdamjbljafhaaGreatDoorP28
import Derived.Test.YtjhdamjbljafhaaGreatDoorP04
import Derived.Test.YtjhdamjbljafhaaGreatDoorP12
import Derived.Laws.Concat
import Derived.BigRegion
import Derived.BigQuiet
import Derived.RegionTactic
namespace Go.Proofs.YtjhdamjbljafhaaGreatDoor
open Go.RowKit
structure Bes (b : Nat) (w w' : World) : Prop where
  os : w'.os = w.os
  tape : w'.tape = w.tape
  output : w'.output = w.output
  size : w.heap.size ≤ w'.heap.size
  block : ∀ k, k < w.heap.size → k ≠ b → w'.heap[k]? = w.heap[k]?
theorem Bes.refl (b : Nat) (w : World) : Bes b w w := ⟨rfl, rfl, rfl, Nat.le_refl _, fun _ _ _ => rfl⟩
theorem Bes.trans {b : Nat} {w w' w'' : World} (h : Bes b w w') (k : Bes b w' w'') : Bes b w w'' :=
  ⟨k.os.trans h.os, k.tape.trans h.tape, k.output.trans h.output, Nat.le_trans h.size k.size, fun i hi hb => (k.block i (Nat.lt_of_lt_of_le hi h.size) hb).trans (h.block i hi hb)⟩
theorem Bes.toExt {b : Nat} {w0 w w' : World} (h : Bes b w w') (h0 : Ext w0 w) (hb : w0.heap.size ≤ b) : Ext w0 w' :=
  ⟨h.os.trans h0.os, h.tape.trans h0.tape, h.output.trans h0.output, Nat.le_trans h0.size h.size, fun k hk => (h.block k (Nat.lt_of_lt_of_le hk h0.size) (by omega)).trans (h0.block hk)⟩
theorem Own.bes {P : Program} {α : Type} {D : El P α} {base b : Nat} {w w' : World} {v : Value} {xs : List α} (h : Own D base w v xs) (hb : Bes b w w') (hv : v.ownBlock ≠ some b) : Own D base w' v xs :=
  h.keep fun k hk => hb.block k (h.lt k hk).2 fun e => hv (by rw [hk, e])
def RetEnds (w : World) (es : List Int) (err : Int) (e : Ending) (w' : World) : Prop := ∃ v, e = .returned (.tuple #[v, .int .i64 err]) ∧ Own intEl w.heap.size w' v es ∧ Ext w w'
end Go.Proofs.YtjhdamjbljafhaaGreatDoor
namespace Go.Proofs.YtjhdamjbljafhaaGreatDoor
open Go.RowKit
def cand (l : List ByteArray) (W : Int) (T : Nat → Int) (i e : Nat) : Int := if e = l.length then 0 else (W - lenF l i e) * (W - lenF l i e) + T e
def sc (l : List ByteArray) (W : Int) (T : Nat → Int) (i : Nat) : Nat → Int × Nat
  | 0 => (9223372036854775807, 0)
  | q + 1 => if cand l W T i (i + q + 1) < (sc l W T i q).1 then (cand l W T i (i + q + 1), i + q + 1) else sc l W T i q
def tb (l : List ByteArray) (W : Int) : Nat → List (Int × Nat)
  | 0 => [(0, 0)]
  | m + 1 => sc l W (fun e => ((tb l W m).getD (e - (l.length - m)) (0, 0)).1) (l.length - (m + 1)) (gF l W (l.length - (m + 1)) - (l.length - (m + 1))) :: tb l W m
def CN (l : List ByteArray) (W : Int) (i : Nat) : Int × Nat := (tb l W (l.length - i)).headD (0, 0)
def CF (l : List ByteArray) (W : Int) (i : Nat) : Int := (CN l W i).1
def NF (l : List ByteArray) (W : Int) (i : Nat) : Nat := (CN l W i).2
theorem tb_get (l : List ByteArray) (W : Int) : ∀ (m k : Nat), k ≤ m → (tb l W m).getD k (0, 0) = (tb l W (m - k)).headD (0, 0)
  | 0, k, h => by
    obtain rfl : k = 0 := by omega
    rfl
  | m + 1, 0, h => rfl
  | m + 1, k + 1, h => by
    have := tb_get l W m k (by omega)
    simp only [tb, List.getD_cons_succ]
    rw [this, Nat.succ_sub_succ]
theorem sc_congr {l : List ByteArray} {W : Int} {T T' : Nat → Int} {i : Nat} : ∀ q, (∀ e, i < e → e ≤ i + q → T e = T' e) → sc l W T i q = sc l W T' i q
  | 0, _ => rfl
  | q + 1, h => by
    have h1 := sc_congr (l := l) (W := W) q fun e h1 h2 => h e h1 (by omega)
    have h2 : cand l W T i (i + q + 1) = cand l W T' i (i + q + 1) := by
      unfold cand
      rw [h _ (by omega) (by omega)]
    simp only [sc, h1, h2]
theorem CF_end (l : List ByteArray) (W : Int) : CF l W l.length = 0 := by
  unfold CF CN
  rw [Nat.sub_self]
  rfl
theorem CN_row {l : List ByteArray} {W : Int} {i : Nat} (hi : i < l.length) : CN l W i = sc l W (CF l W) i (gF l W i - i) := by
  obtain ⟨m, hm⟩ : ∃ m, l.length - i = m + 1 := ⟨l.length - i - 1, by omega⟩
  have hg := gF_is W (show i ≤ l.length by omega)
  have h1 := hg.le
  have h2 := hg.ge
  unfold CN
  rw [hm, tb, List.headD_cons]
  have e1 : l.length - (m + 1) = i := by omega
  rw [e1]
  refine sc_congr _ fun e he1 he2 => ?_
  rw [tb_get l W m _ (by omega)]
  unfold CF CN
  have e2 : m - (e - (l.length - m)) = l.length - e := by omega
  rw [e2]
structure Least (l : List ByteArray) (W : Int) (T : Nat → Int) (i q : Nat) (p : Int × Nat) : Prop where
  lo : i < p.2
  hi : p.2 ≤ i + q
  eq : p.1 = cand l W T i p.2
  least : ∀ e, i < e → e ≤ i + q → p.1 ≤ cand l W T i e
  first : ∀ e, i < e → e < p.2 → p.1 < cand l W T i e
theorem sc_least {l : List ByteArray} {W : Int} {T : Nat → Int} {i : Nat} : ∀ q, (∀ e, i < e → e ≤ i + (q + 1) → cand l W T i e < 9223372036854775807) → Least l W T i (q + 1) (sc l W T i (q + 1))
  | 0, h => by
    have h1 := h (i + 0 + 1) (by omega) (by omega)
    have e1 : sc l W T i (0 + 1) = (cand l W T i (i + 0 + 1), i + 0 + 1) := by
      show (if _ then _ else _) = _
      exact if_pos h1
    rw [e1]
    refine ⟨by simp, by simp, rfl, fun e he1 he2 => ?_, fun e he1 he2 => by simp at he2; omega⟩
    obtain rfl : e = i + 0 + 1 := by omega
    exact Int.le_refl _
  | q + 1, h => by
    have hq := sc_least (l := l) (W := W) (T := T) (i := i) q fun e h1 h2 => h e h1 (by omega)
    have e1 : sc l W T i (q + 1 + 1) = if cand l W T i (i + (q + 1) + 1) < (sc l W T i (q + 1)).1 then (cand l W T i (i + (q + 1) + 1), i + (q + 1) + 1) else sc l W T i (q + 1) := rfl
    rw [e1]
    obtain ⟨p, hp⟩ : ∃ p, sc l W T i (q + 1) = p := ⟨_, rfl⟩
    rw [hp] at hq ⊢
    split
    · rename_i hlt
      refine ⟨by simp; omega, by simp; omega, rfl, fun e he1 he2 => ?_, fun e he1 he2 => ?_⟩
      · rcases Nat.lt_or_ge e (i + (q + 1) + 1) with h3 | h3
        · have := hq.least e he1 (by omega)
          show cand l W T i (i + (q + 1) + 1) ≤ _
          omega
        · obtain rfl : e = i + (q + 1) + 1 := by omega
          exact Int.le_refl _
      · have he2' : e < i + (q + 1) + 1 := he2
        have := hq.least e he1 (by omega)
        show cand l W T i (i + (q + 1) + 1) < _
        omega
    · rename_i hlt
      refine ⟨hq.lo, by have := hq.hi; omega, hq.eq, fun e he1 he2 => ?_, hq.first⟩
      rcases Nat.lt_or_ge e (i + (q + 1) + 1) with h3 | h3
      · exact hq.least e he1 (by omega)
      · obtain rfl : e = i + (q + 1) + 1 := by omega
        omega
theorem sq_le {a : Int} (h0 : 0 ≤ a) (h1 : a ≤ 200) : 0 ≤ a * a ∧ a * a ≤ 40000 := by
  refine ⟨Int.mul_nonneg h0 h0, ?_⟩
  have : a * a ≤ 200 * 200 := Int.mul_le_mul h1 h1 h0 (by decide)
  omega
theorem lenF_nonneg {l : List ByteArray} {i e : Nat} (h : i < e) (he : e ≤ l.length) : 0 ≤ lenF l i e := by
  have h1 := posF_succ (l := l) (i := i) (by omega)
  have h2 := posF_mono l (i + 1) e (by omega)
  unfold lenF
  omega
theorem cand_bound {l : List ByteArray} {W : Int} (hF : Fit W l) {T : Nat → Int} {B : Int} {i e : Nat} (hB : 0 ≤ B) (h1 : i < e) (h2 : e ≤ gF l W i) (hi : i < l.length) (hT0 : 0 ≤ T e) (hTB : T e ≤ B) :
    0 ≤ cand l W T i e ∧ cand l W T i e ≤ 40000 + B := by
  have hg := gF_is W (show i ≤ l.length by omega)
  have h3 := hg.fit e h1 h2
  have h4 := lenF_nonneg h1 (Nat.le_trans h2 hg.le)
  have hW := hF.hi
  have h5 := sq_le (a := W - lenF l i e) (by omega) (by omega)
  unfold cand
  split
  · omega
  · omega
theorem CF_bound {l : List ByteArray} {W : Int} (hF : Fit W l) : ∀ (m i : Nat), l.length - i = m → i ≤ l.length → 0 ≤ CF l W i ∧ CF l W i ≤ 40000 * (m : Int) ∧ (i < l.length → Least l W (CF l W) i (gF l W i - i) (CN l W i)) := by
  intro m
  induction m using Nat.strongRecOn with
  | _ m ih =>
    intro i him hi
    rcases Nat.lt_or_ge i l.length with hlt | hge
    · have hg := gF_is W hi
      have hgl := hF.lt hlt
      have hgn := hg.le
      have hc : ∀ e, i < e → e ≤ gF l W i → 0 ≤ cand l W (CF l W) i e ∧ cand l W (CF l W) i e ≤ 40000 + 40000 * ((m - 1 : Nat) : Int) := fun e h1 h2 => by
        obtain ⟨h3, h4, _⟩ := ih (l.length - e) (by omega) e rfl (by omega)
        exact cand_bound hF (by omega) h1 h2 hlt h3 (by omega)
      obtain ⟨q, hq⟩ : ∃ q, gF l W i - i = q + 1 := ⟨gF l W i - i - 1, by omega⟩
      have hb := hF.brief.1
      have hL := sc_least (l := l) (W := W) (T := CF l W) (i := i) q fun e h1 h2 => by
        have := (hc e h1 (by omega)).2
        omega
      rw [← hq, ← CN_row hlt] at hL
      have h5 := hc _ hL.lo (by have := hL.hi; omega)
      have h6 := hL.eq
      have h7 : CF l W i = cand l W (CF l W) i (CN l W i).2 := h6
      rw [h7]
      exact ⟨h5.1, by omega, fun _ => hL⟩
    · obtain rfl : i = l.length := by omega
      rw [CF_end]
      exact ⟨by omega, by omega, fun h => absurd h (by omega)⟩
theorem CF_le {l : List ByteArray} {W : Int} (hF : Fit W l) {i : Nat} (hi : i ≤ l.length) : 0 ≤ CF l W i ∧ CF l W i ≤ 24080000 := by
  have := CF_bound hF _ i rfl hi
  have hb := hF.brief.1
  omega
theorem CN_least {l : List ByteArray} {W : Int} (hF : Fit W l) {i : Nat} (hi : i < l.length) : Least l W (CF l W) i (gF l W i - i) (CN l W i) := (CF_bound hF _ i rfl (by omega)).2.2 hi
theorem NF_lt {l : List ByteArray} {W : Int} (hF : Fit W l) {i : Nat} (hi : i < l.length) : i < NF l W i ∧ NF l W i ≤ gF l W i := by
  have h := CN_least hF hi
  have h1 := (gF_is W (show i ≤ l.length by omega)).ge
  exact ⟨h.lo, by have := h.hi; unfold NF; omega⟩
def bEndsF (l : List ByteArray) (W : Int) : Nat → Nat → List Int
  | 0, _ => []
  | f + 1, i => if i < l.length then (NF l W i : Int) :: bEndsF l W f (NF l W i) else []
def bLines (l : List ByteArray) (W : Int) : List Int := bEndsF l W l.length 0
theorem bEndsF_end {l : List ByteArray} {W : Int} {f i : Nat} (h : l.length ≤ i) : bEndsF l W f i = [] := by
  cases f with
  | zero => rfl
  | succ f => rw [bEndsF, if_neg (by omega)]
theorem bEndsF_len {l : List ByteArray} {W : Int} (hF : Fit W l) : ∀ (f i : Nat), i ≤ l.length → (bEndsF l W f i).length ≤ l.length - i
  | 0, _, _ => Nat.zero_le _
  | f + 1, i, hi => by
    rw [bEndsF]
    split
    · rename_i h
      have h1 := NF_lt hF h
      have h2 := (gF_is W hi).le
      have := bEndsF_len hF f (NF l W i) (by omega)
      rw [List.length_cons]
      omega
    · exact Nat.zero_le _
def HasL (w : World) (B : Nat) (xs : List Int) : Prop := w.heap[B]? = some (.cells (xs.map (Value.int .i64)).toArray 3 (0, 0))
theorem HasL.cell {w : World} {B : Nat} {xs : List Int} (h : HasL w B xs) {k : Nat} {x : Int} (hk : xs[k]? = some x) : w.cell? ⟨B, k, none⟩ = some (.int .i64 x) := by
  unfold HasL at h
  simp [World.cell?, h, hk]
theorem HasL.free {w : World} {B : Nat} {xs : List Int} (h : HasL w B xs) (k : Nat) : w.frozen? ⟨B, k, none⟩ = false := by
  unfold HasL at h
  simp [World.frozen?, h]
theorem HasL.set {w : World} {B : Nat} {xs : List Int} (h : HasL w B xs) (k : Nat) (v : Int) : HasL (w.setCell ⟨B, k, none⟩ (.int .i64 v)) B (xs.set k v) := by
  have hlt := lt_of_block h
  have h' : w.heap[B] = .cells (xs.map (Value.int .i64)).toArray 3 (0, 0) := by
    unfold HasL at h
    simpa [Array.getElem?_eq_getElem hlt] using h
  unfold HasL
  show (w.heap.modify B _)[B]? = _
  rw [Array.getElem?_eq_getElem (by simpa using hlt), Array.getElem_modify_self, h']
  simp [List.map_set]
theorem HasL.keep {w w' : World} {B : Nat} {xs : List Int} (h : HasL w B xs) (hb : w'.heap[B]? = w.heap[B]?) : HasL w' B xs := hb.trans h
theorem HasL.lt {w : World} {B : Nat} {xs : List Int} (h : HasL w B xs) : B < w.heap.size := lt_of_block h
end Go.Proofs.YtjhdamjbljafhaaGreatDoor
namespace Go.Proofs.YtjhdamjbljafhaaGreatDoor
open Go.RowKit
def joinB (sep : ByteArray) (xs : List ByteArray) : ByteArray := ⟨(Lib.join (xs.map (·.data.toList)) sep.data.toList).toArray⟩
theorem bytesList_inj54 {a b : ByteArray} (h : a.data.toList = b.data.toList) : a = b := ByteArray.ext (Array.ext' h)
theorem joinB_nil (sep : ByteArray) : joinB sep [] = ⟨#[]⟩ := rfl
theorem joinB_one (sep x : ByteArray) : joinB sep [x] = x := bytesList_inj54 (by simp [joinB, Lib.join_one])
theorem joinB_list (sep : ByteArray) (xs : List ByteArray) : (joinB sep xs).data.toList = Lib.join (xs.map (·.data.toList)) sep.data.toList := by simp [joinB]
def spaceB : ByteArray := ⟨#[32]⟩
theorem joinB_sum : ∀ (y : ByteArray) (ys : List ByteArray), (joinB spaceB (y :: ys)).size + 1 = ((y :: ys).map fun s => s.size + 1).sum := by
  intro y ys
  have e : (joinB spaceB (y :: ys)).size = (Lib.join ((y :: ys).map (·.data.toList)) spaceB.data.toList).length := by
    rw [← joinB_list, Array.length_toList]; rfl
  have hl : ∀ xs : List ByteArray, (xs.map fun s => s.size + 1).sum = Lib.lens (xs.map (·.data.toList)) + xs.length := by
    intro xs
    induction xs with
    | nil => rfl
    | cons z zs ih =>
      simp only [Lib.lens, List.map_cons, List.sum_cons, List.length_cons, Array.length_toList] at ih ⊢
      have h3 : z.data.size = z.size := rfl
      omega
  have h4 : y.data.toList.length = y.size := Array.length_toList
  have h5 : spaceB.data.toList.length = 1 := rfl
  rw [e, List.map_cons, Lib.join_cons, List.length_append, Lib.joinTail_length, List.length_map, List.map_cons, List.sum_cons, hl ys, h4, h5]
  omega
def lineW (l : List ByteArray) (a e : Nat) : List ByteArray := (l.drop a).take (e - a)
theorem lineW_sum {l : List ByteArray} {a e : Nat} (h : a ≤ e) : posF l e = posF l a + ((lineW l a e).map fun s => s.size + 1).sum := by
  obtain ⟨m, rfl⟩ : ∃ m, e = a + m := ⟨e - a, by omega⟩
  unfold posF lineW
  rw [List.take_add, List.map_append, List.sum_append, Nat.add_sub_cancel_left]
theorem lineW_length {l : List ByteArray} {a e : Nat} (he : e ≤ l.length) : (lineW l a e).length = e - a := by
  unfold lineW
  simp
  omega
def lineB (l : List ByteArray) (a e : Nat) : ByteArray := joinB spaceB (lineW l a e)
theorem lineB_size {l : List ByteArray} {a e : Nat} (h : a < e) (he : e ≤ l.length) : ((lineB l a e).size : Int) = lenF l a e := by
  have h1 := lineW_sum (l := l) (Nat.le_of_lt h)
  have h2 := lineW_length (l := l) (a := a) he
  unfold lineB lenF
  cases hq : lineW l a e with
  | nil => rw [hq] at h2; simp at h2; omega
  | cons y ys =>
    have h3 := joinB_sum y ys
    rw [hq] at h1
    omega
theorem lineB_le {l : List ByteArray} {n a e : Nat} (hb : briefP l n) (h : a < e) (he : e ≤ l.length) : (lineB l a e).size ≤ 301 * e := by
  have h1 := lineB_size h he
  have h2 := posF_le hb e he
  unfold lenF at h1
  omega
theorem join_any (A : Option Addr) (c : Nat) (xs : List ByteArray) (sep : ByteArray) (w : World) (hs : Sl strEl w A xs) (hc : xs.length ≤ c) (hn : xs.length ≤ 140737488355328) (hz : (joinB sep xs).size ≤ 140737488355328) :
    Calls Tryz.prog 143 #[.slice A xs.length c, .string sep] w fun e w' => e = .returned (.string (joinB sep xs)) ∧ Ext w w' := by
  cases xs with
  | nil =>
    exact (Tryz.strings_Join_none A c sep w).mono fun e w' ⟨h1, h2⟩ => ⟨h1, h2 ▸ Ext.refl w⟩
  | cons x xs =>
    obtain ⟨b, off, rfl, hb, hcell⟩ := hs (by simp)
    refine (Tryz.strings_Join b off c (x :: xs) sep w (fun j y hy => ?_) hb hn hc ?_).mono fun e w' ⟨h1, h2⟩ => ⟨h1, h2⟩
    · have := hcell (j * 1 + 0) (.string y) (strEl.flat_get (x :: xs) j 0 y (.string y) hy rfl)
      simpa using this
    · rw [← joinB_list, Array.length_toList]; exact hz
theorem endsB_step {n a x : Int} {es : List Int} (h : endsB n a (x :: es) = true) : a < x ∧ x ≤ n ∧ endsB n x es = true := by
  simp only [endsB, Bool.and_eq_true, decide_eq_true_eq] at h
  exact ⟨h.1.1, h.1.2, h.2⟩
end Go.Proofs.YtjhdamjbljafhaaGreatDoor
namespace Go.Proofs.YtjhdamjbljafhaaGreatDoor
open Go.RowKit
end Go.Proofs.YtjhdamjbljafhaaGreatDoor
namespace Go.Proofs.YtjhdamjbljafhaaGreatDoor
open Go.RowKit
def linesF (l : List ByteArray) : Nat → List Int → List ByteArray
  | _, [] => []
  | a, e :: es => lineB l a e.toNat :: linesF l e.toNat es
theorem linesF_drop {l : List ByteArray} {es : List Int} {k : Nat} (hk : k < es.length) (a : Nat) : linesF l a (es.drop k) = lineB l a es[k].toNat :: linesF l es[k].toNat (es.drop (k + 1)) := by
  rw [List.drop_eq_getElem_cons hk, linesF]
theorem linesF_length (l : List ByteArray) : ∀ (es : List Int) (a : Nat), (linesF l a es).length = es.length
  | [], _ => rfl
  | e :: es, a => by rw [linesF, List.length_cons, linesF_length l es, List.length_cons]
def linesR (l : List ByteArray) (es : List Int) : List ByteArray := if endsB (l.length : Int) 0 es = true then linesF l 0 es else []
set_option maxRecDepth 100000 in
set_option maxHeartbeats 1600000 in
theorem lines_any (E A : Option Addr) (ec c : Nat) (l : List ByteArray) (es : List Int) (w : World) (hs : Sl strEl w A l) (hc : l.length ≤ c) (he : Sl intEl w E es) (hen : es.length ≤ 34359738368) (hb : briefP l 602) :
    Calls Tryz.prog 101 #[.slice E es.length ec, .slice A l.length c] w (RetOwn strEl w (linesR l es)) := by
  have hl := hb.1
  have Hs := Lib.hid hs
  have He := Lib.hid he
  have Hb := Lib.hid hb
  have ha := are_any E ec es A c l.length w he (by omega) (by omega)
  cases hq : endsB (l.length : Int) 0 es with
  | false =>
    rw [hq] at ha
    have Ha := Lib.hid ha
    have HR := Lib.hid (show linesR l es = [] by unfold linesR; rw [if_neg (by simp [hq])])
    clear hs he hb hq ha
    go_enter Tryz.func101, Tryz.ntmps101
    go_wp2_with fail
    refine (Ha.out).mono ?_
    rintro e w2 ⟨rfl, hx2⟩
    go_wp2
    go_ret
    exact ⟨_, rfl, by rw [HR.out]; exact Own.nil _, hx2⟩
  | true =>
    rw [hq] at ha
    have Ha := Lib.hid ha
    have HR := Lib.hid (show linesR l es = linesF l 0 es by unfold linesR; rw [if_pos hq])
    have Hq := Lib.hid hq
    clear hs he hb hq ha
    go_enter Tryz.func101, Tryz.ntmps101
    go_wp2_with fail
    refine (Ha.out).mono ?_
    rintro e w2 ⟨rfl, hx2⟩
    go_wp2
    go_loopw [5, 6, 8, 15] (fun vo va _ vk wr => ∃ (k a : Nat) (xs : List ByteArray), k ≤ es.length ∧ a ≤ l.length ∧ vk = .int .i64 (k : Nat) ∧ va = .int .i64 (a : Nat) ∧ xs.length = k ∧ Hid (Own strEl w.heap.size wr vo xs) ∧ Hid (endsB (l.length : Int) a (es.drop k) = true) ∧ Hid (linesF l 0 es = xs ++ linesF l a (es.drop k)) ∧ Ext w wr) (fun _ _ _ vk _ => es.length - (intOf vk).toNat)
    case atStart => exact ⟨0, 0, [], by omega, by omega, rfl, rfl, rfl, Lib.hid (Own.nil _), Lib.hid Hq.out, Lib.hid rfl, hx2⟩
    case round =>
      obtain ⟨k, a, xs, hk, ha, rfl, rfl, hxl, Hown, HE, HC, hext⟩ := hrel
      by_cases hlt : k < es.length
      · obtain ⟨b, off, rfl, hbl, u0⟩ := intAt (He.out.ext hext) hlt
        have hE := HE.out
        rw [List.drop_eq_getElem_cons hlt] at hE
        obtain ⟨hg1, hg2, hE2⟩ := endsB_step hE
        have hC := HC.out
        rw [linesF_drop hlt] at hC
        obtain ⟨g, hg⟩ : ∃ g : Nat, es[k] = (g : Int) := ⟨es[k].toNat, by omega⟩
        rw [hg] at u0 hg1 hg2 hE2 hC
        rw [Int.toNat_natCast] at hC
        have hag : a < g := by omega
        have hgn : g ≤ l.length := by omega
        have hle := lineB_le Hb.out hag hgn
        obtain ⟨z, hz⟩ : ∃ z, lineB l a g = z := ⟨_, rfl⟩
        rw [hz] at hle hC
        have Hz := Lib.hid hz
        have HC2 := Lib.hid hC
        have HE2 := Lib.hid hE2
        clear hg hE hC hE2 hz
        go_wp2_with (refine wpList_sl strEl rfl _ _ _ rfl rfl _ _ rfl rfl (Hs.out.ext hext) a g (by omega) (by omega) (by omega) hgn hc ?_; intro A1 ys c1 Hy hl1 hs1; have hyn : ys.length ≤ 602 := (by rw [Hy.out]; simp; omega))
        refine (join_any A1 c1 ys spaceB _ hs1 hl1 (by omega) (by rw [Hy.out]; show (lineB l a g).size ≤ _; rw [Hz.out]; omega)).mono ?_
        rw [show joinB spaceB ys = z by rw [Hy.out]; exact Hz.out]
        rintro e w3 ⟨rfl, hx3⟩
        have hx03 := hext.trans hx3
        have hown := Hown.out.ext hx3
        have Hown2 := Lib.hid hown
        clear hown Hown
        go_wp2_with (at_builtin; refine wpList_app strEl rfl _ _ rfl 1 rfl (Hown2.out.ext ((Ext.refl _).alloc _)) (ys := [z]) rfl (Sl.new strEl rfl) (by rw [hxl]; simp; omega) (by have := hx03.size; simp; omega) ?_; intro v' w5 hown5 hb5 hg5; have Hown5 := Lib.hid hown5; have hx5 := (hx03.alloc _).trans' hb5; clear hown5 hb5 hg5)
        go_roundw
        case rel => exact ⟨k + 1, g, xs ++ [z], by omega, hgn, by go_num, rfl, by simp [hxl], Hown5, HE2, Lib.hid (by rw [HC2.out, List.append_assoc]; rfl), hx5⟩
        case measure => simp [intOf] <;> omega
      · obtain rfl : k = es.length := by omega
        have hC := HC.out
        rw [List.drop_of_length_le (by omega), linesF, List.append_nil] at hC
        have HC2 := Lib.hid hC
        clear hC
        go_wp2
        go_ret
        exact ⟨_, rfl, by rw [HR.out, HC2.out]; exact Hown.out, hext⟩
end Go.Proofs.YtjhdamjbljafhaaGreatDoor
namespace Go.Proofs.YtjhdamjbljafhaaGreatDoor
open Go.RowKit
structure Bes2 (b c : Nat) (w w' : World) : Prop where
  os : w'.os = w.os
  tape : w'.tape = w.tape
  output : w'.output = w.output
  size : w.heap.size ≤ w'.heap.size
  block : ∀ k, k < w.heap.size → k ≠ b → k ≠ c → w'.heap[k]? = w.heap[k]?
theorem Bes2.refl (b c : Nat) (w : World) : Bes2 b c w w := ⟨rfl, rfl, rfl, Nat.le_refl _, fun _ _ _ _ => rfl⟩
theorem Bes2.trans {b c : Nat} {w w' w'' : World} (h : Bes2 b c w w') (k : Bes2 b c w' w'') : Bes2 b c w w'' :=
  ⟨k.os.trans h.os, k.tape.trans h.tape, k.output.trans h.output, Nat.le_trans h.size k.size, fun i hi hb hc => (k.block i (Nat.lt_of_lt_of_le hi h.size) hb hc).trans (h.block i hi hb hc)⟩
theorem Bes2.toExt {b c : Nat} {w0 w w' : World} (h : Bes2 b c w w') (h0 : Ext w0 w) (hb : w0.heap.size ≤ b) (hc : w0.heap.size ≤ c) : Ext w0 w' :=
  ⟨h.os.trans h0.os, h.tape.trans h0.tape, h.output.trans h0.output, Nat.le_trans h0.size h.size, fun k hk => (h.block k (Nat.lt_of_lt_of_le hk h0.size) (by omega) (by omega)).trans (h0.block hk)⟩
theorem Bes2.drewN {b c : Nat} {w w' : World} (h : Bes2 b c w w') (n : Nat) : Bes2 b c w (w'.drewN n) := ⟨h.os, h.tape, h.output, h.size, fun k hk h1 h2 => h.block k hk h1 h2⟩
theorem Bes2.put {b c : Nat} {w w' : World} (h : Bes2 b c w w') {B : Nat} (hB : B = b ∨ B = c) (k : Nat) (u : Value) : Bes2 b c w (w'.setCell ⟨B, k, none⟩ u) :=
  ⟨h.os, h.tape, h.output, by simpa using h.size, fun j hj h1 h2 => (heap_setCell_other w' _ j _ (by rcases hB with rfl | rfl <;> assumption)).trans (h.block j hj h1 h2)⟩
def InPost (Bc Bn : Nat) (xs ys : List Int) (i e : Nat) (K b : Int) (w : World) (r : Ending) (w' : World) : Prop :=
  r = .returned (.tuple #[]) ∧ Bes2 Bc Bn w w' ∧ HasL w' Bc (if K < b then xs.set i K else xs) ∧ HasL w' Bn (if K < b then ys.set i e else ys)
theorem in_yes {Bc Bn : Nat} {xs ys : List Int} {i e : Nat} {K b : Int} {w : World} (h6 : HasL w Bc xs) (h7 : HasL w Bn ys) (hne : Bc ≠ Bn) (hk : K < b) (n : Nat) :
    InPost Bc Bn xs ys i e K b w (.returned (.tuple #[])) (((w.drewN n).setCell ⟨Bc, i, none⟩ (.int .i64 K)).setCell ⟨Bn, i, none⟩ (.int .i64 e)) := by
  refine ⟨rfl, (((Bes2.refl _ _ _).drewN _).put (.inl rfl) _ _).put (.inr rfl) _ _, ?_, ?_⟩
  · rw [if_pos hk]
    exact (HasL.set (w := w.drewN n) h6 i K).keep (heap_setCell_other _ _ _ _ hne)
  · rw [if_pos hk]
    exact HasL.set (w := (w.drewN n).setCell ⟨Bc, i, none⟩ (.int .i64 K)) (HasL.keep (w := w.drewN n) h7 (heap_setCell_other _ _ _ _ (Ne.symm hne))) i e
def HasS (w : World) (b : Nat) (v : Value) (t : TypeId) : Prop := w.heap[b]? = some (.cells #[v] t (0, 0))
set_option maxRecDepth 100000 in
set_option maxHeartbeats 1600000 in
theorem breakIn_any (A : Option Addr) (c : Nat) (l : List ByteArray) (W : Int) (i e : Nat) (xs ys : List Int) (x b : Int) (bW bC bL bF bN Bc Bn : Nat) (w : World)
    (h1 : Has1 w bW W) (h2 : HasS w bC (.slice (some ⟨Bc, 0, none⟩) (l.length + 1) (l.length + 1)) 40) (h3 : HasS w bL (.slice A l.length c) 34) (h4 : Has1 w bF i) (h5 : HasS w bN (.slice (some ⟨Bn, 0, none⟩) (l.length + 1) (l.length + 1)) 40)
    (h6 : HasL w Bc xs) (h7 : HasL w Bn ys) (hi : i < e) (he : e ≤ l.length) (hl : l.length ≤ 602) (hx : xs[e]? = some x) (hb : xs[i]? = some b) (hyl : ys.length = l.length + 1)
    (hd0 : 0 ≤ W - lenF l i e) (hd1 : W - lenF l i e ≤ 200) (hW0 : 0 ≤ W) (hW : W ≤ 200) (hx0 : 0 ≤ x) (hx1 : x ≤ 24080000) (hne : Bc ≠ Bn) (hcn : bC ≠ Bc ∧ bC ≠ Bn ∧ bF ≠ Bc ∧ bF ≠ Bn ∧ bN ≠ Bc ∧ bN ≠ Bn) (T : Nat → Int) (hT : T e = x) :
    Calls Tryz.prog 141 #[.int .i64 (e : Nat), .int .i64 (lenF l i e), .pointer (some ⟨bW, 0, none⟩), .pointer (some ⟨bC, 0, none⟩), .pointer (some ⟨bL, 0, none⟩), .pointer (some ⟨bF, 0, none⟩), .pointer (some ⟨bN, 0, none⟩)] w
      (InPost Bc Bn xs ys i e (cand l W T i e) b w) := by
  have c1 : w.cell? ⟨bW, 0, none⟩ = some (.int .i64 W) := cell_of_one h1
  have c2 : w.cell? ⟨bC, 0, none⟩ = some (.slice (some ⟨Bc, 0, none⟩) (l.length + 1) (l.length + 1)) := cell_of_one h2
  have c3 : w.cell? ⟨bL, 0, none⟩ = some (.slice A l.length c) := cell_of_one h3
  have c4 : w.cell? ⟨bF, 0, none⟩ = some (.int .i64 i) := cell_of_one h4
  have c5 : w.cell? ⟨bN, 0, none⟩ = some (.slice (some ⟨Bn, 0, none⟩) (l.length + 1) (l.length + 1)) := cell_of_one h5
  have c6 : w.cell? ⟨Bc, e, none⟩ = some (.int .i64 x) := h6.cell hx
  have c7 : w.cell? ⟨Bc, i, none⟩ = some (.int .i64 b) := h6.cell hb
  have f1 : w.frozen? ⟨Bc, i, none⟩ = false := h6.free i
  have f2 : w.frozen? ⟨Bn, i, none⟩ = false := h7.free i
  obtain ⟨y, hy⟩ : ∃ y, ys[i]? = some y := ⟨ys[i]'(by omega), List.getElem?_eq_getElem (by omega)⟩
  have c8 : w.cell? ⟨Bn, i, none⟩ = some (.int .i64 y) := h7.cell hy
  obtain ⟨hn1, hn2, hn3, hn4, hn5, hn6⟩ := hcn
  have hdd := sq_le hd0 hd1
  obtain ⟨L, hL⟩ : ∃ L, lenF l i e = L := ⟨_, rfl⟩
  have hcd : cand l W T i e = if e = l.length then 0 else (W - L) * (W - L) + x := by unfold cand; rw [hL, hT]
  rw [hL] at hd0 hd1 hdd ⊢
  obtain ⟨K, hK⟩ : ∃ K, cand l W T i e = K := ⟨_, rfl⟩
  rw [hK] at hcd ⊢
  have H6 := Lib.hid h6
  have H7 := Lib.hid h7
  have Hc := Lib.hid hcd
  have b1 : ((i : Int) < ((l.length : Int) + 1)) := by omega
  have b2 : ((e : Int) < ((l.length : Int) + 1)) := by omega
  clear h1 h2 h3 h4 h5 h6 h7 hK hcd hL hT
  by_cases hen : e = l.length
  · have d1 : ((e : Int) == (l.length : Int)) = true := by simp [hen]
    have hk2 := Hc.out
    rw [if_pos hen] at hk2
    subst hk2
    by_cases hk : (0 : Int) < b
    · have d2 : decide ((0 : Int) < b) = true := decide_eq_true hk
      have HK := Lib.hid hk
      clear hk Hc hen
      go_enter Tryz.func141, Tryz.ntmps141
      go_wp2
      go_quiet (fail)
      go_wp2
      go_region
      all_goals (try go_wp2)
      all_goals go_end0
      all_goals exact in_yes H6.out H7.out hne HK.out _
    · have d2 : decide ((0 : Int) < b) = false := decide_eq_false hk
      have HK := Lib.hid hk
      clear hk Hc hen
      go_enter Tryz.func141, Tryz.ntmps141
      go_wp2
      go_quiet (fail)
      go_wp2
      go_end0
      exact ⟨rfl, (Bes2.refl _ _ _).drewN _, by rw [if_neg (Int.not_lt.2 HK.out)]; exact H6.out, by rw [if_neg (Int.not_lt.2 HK.out)]; exact H7.out⟩
  · have d1 : ((e : Int) == (l.length : Int)) = false := by simp; omega
    have hk2 := Hc.out
    rw [if_neg hen] at hk2
    subst hk2
    by_cases hk : (W - L) * (W - L) + x < b
    · have d2 : decide ((W - L) * (W - L) + x < b) = true := decide_eq_true hk
      have HK := Lib.hid hk
      clear hk Hc hen
      go_enter Tryz.func141, Tryz.ntmps141
      go_wp2
      go_quiet (fail)
      go_wp2
      go_region
      all_goals (try go_wp2)
      all_goals go_end0
      all_goals exact in_yes H6.out H7.out hne HK.out _
    · have d2 : decide ((W - L) * (W - L) + x < b) = false := decide_eq_false hk
      have HK := Lib.hid hk
      clear hk Hc hen
      go_enter Tryz.func141, Tryz.ntmps141
      go_wp2
      go_quiet (fail)
      go_wp2
      go_end0
      exact ⟨rfl, (Bes2.refl _ _ _).drewN _, by rw [if_neg (Int.not_lt.2 HK.out)]; exact H6.out, by rw [if_neg (Int.not_lt.2 HK.out)]; exact H7.out⟩
end Go.Proofs.YtjhdamjbljafhaaGreatDoor
