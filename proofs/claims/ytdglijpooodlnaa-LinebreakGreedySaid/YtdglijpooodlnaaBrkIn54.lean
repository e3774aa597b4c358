/- Break's visitor: the walk. -/
import Derived.Test.YtdglijpooodlnaaOpt54
import Derived.BigRegion
import Derived.BigQuiet
import Derived.RegionTactic
namespace Go.Proofs.Ytdglijpooodlnaa
open Go.RowKit

/-- memory as it was but for two blocks -/
structure Bes2 (b c : Nat) (w w' : World) : Prop where
  os : w'.os = w.os
  tape : w'.tape = w.tape
  output : w'.output = w.output
  size : w.heap.size ≤ w'.heap.size
  block : ∀ k, k < w.heap.size → k ≠ b → k ≠ c → w'.heap[k]? = w.heap[k]?
theorem Bes2.refl (b c : Nat) (w : World) : Bes2 b c w w := ⟨rfl, rfl, rfl, Nat.le_refl _, fun _ _ _ _ => rfl⟩
theorem Bes2.trans {b c : Nat} {w w' w'' : World} (h : Bes2 b c w w') (k : Bes2 b c w' w'') : Bes2 b c w w'' :=
  ⟨k.os.trans h.os, k.tape.trans h.tape, k.output.trans h.output, Nat.le_trans h.size k.size, fun i hi hb hc => (k.block i (Nat.lt_of_lt_of_le hi h.size) hb hc).trans (h.block i hi hb hc)⟩
theorem Bes2.toExt {b c : Nat} {w0 w w' : World} (h : Bes2 b c w w') (h0 : Ext w0 w) (hb : w0.heap.size ≤ b) (hc : w0.heap.size ≤ c) : Ext w0 w' :=
  ⟨h.os.trans h0.os, h.tape.trans h0.tape, h.output.trans h0.output, Nat.le_trans h0.size h.size, fun k hk => (h.block k (Nat.lt_of_lt_of_le hk h0.size) (by omega) (by omega)).trans (h0.block hk)⟩
theorem Bes2.drewN {b c : Nat} {w w' : World} (h : Bes2 b c w w') (n : Nat) : Bes2 b c w (w'.drewN n) := ⟨h.os, h.tape, h.output, h.size, fun k hk h1 h2 => h.block k hk h1 h2⟩
theorem Bes2.put {b c : Nat} {w w' : World} (h : Bes2 b c w w') {B : Nat} (hB : B = b ∨ B = c) (k : Nat) (u : Value) : Bes2 b c w (w'.setCell ⟨B, k, none⟩ u) :=
  ⟨h.os, h.tape, h.output, by simpa using h.size, fun j hj h1 h2 => (heap_setCell_other w' _ j _ (by rcases hB with rfl | rfl <;> assumption)).trans (h.block j hj h1 h2)⟩

/-- what the visitor leaves: the cost K of the end e is stored at i if it is less than b -/
def InPost (Bc Bn : Nat) (xs ys : List Int) (i e : Nat) (K b : Int) (w : World) (r : Ending) (w' : World) : Prop :=
  r = .returned (.tuple #[]) ∧ Bes2 Bc Bn w w' ∧ HasL w' Bc (if K < b then xs.set i K else xs) ∧ HasL w' Bn (if K < b then ys.set i e else ys)
theorem in_yes {Bc Bn : Nat} {xs ys : List Int} {i e : Nat} {K b : Int} {w : World} (h6 : HasL w Bc xs) (h7 : HasL w Bn ys) (hne : Bc ≠ Bn) (hk : K < b) (n : Nat) :
    InPost Bc Bn xs ys i e K b w (.returned (.tuple #[])) (((w.drewN n).setCell ⟨Bc, i, none⟩ (.int .i64 K)).setCell ⟨Bn, i, none⟩ (.int .i64 e)) := by
  refine ⟨rfl, (((Bes2.refl _ _ _).drewN _).put (.inl rfl) _ _).put (.inr rfl) _ _, ?_, ?_⟩
  · rw [if_pos hk]
    exact (HasL.set (w := w.drewN n) h6 i K).keep (heap_setCell_other _ _ _ _ hne)
  · rw [if_pos hk]
    exact HasL.set (w := (w.drewN n).setCell ⟨Bc, i, none⟩ (.int .i64 K)) (HasL.keep (w := w.drewN n) h7 (heap_setCell_other _ _ _ _ (Ne.symm hne))) i e
/-- a box that holds a slice -/
def HasS (w : World) (b : Nat) (v : Value) (t : TypeId) : Prop := w.heap[b]? = some (.cells #[v] t (0, 0))

set_option maxRecDepth 100000 in
set_option maxHeartbeats 1600000 in
theorem breakIn_any (A : Option Addr) (c : Nat) (l : List ByteArray) (W : Int) (i e : Nat) (xs ys : List Int) (x b : Int) (bW bC bL bF bN Bc Bn : Nat) (w : World)
    (h1 : Has1 w bW W) (h2 : HasS w bC (.slice (some ⟨Bc, 0, none⟩) (l.length + 1) (l.length + 1)) 25) (h3 : HasS w bL (.slice A l.length c) 22) (h4 : Has1 w bF i) (h5 : HasS w bN (.slice (some ⟨Bn, 0, none⟩) (l.length + 1) (l.length + 1)) 25)
    (h6 : HasL w Bc xs) (h7 : HasL w Bn ys) (hi : i < e) (he : e ≤ l.length) (hl : l.length ≤ 60) (hx : xs[e]? = some x) (hb : xs[i]? = some b) (hyl : ys.length = l.length + 1)
    (hd0 : 0 ≤ W - lenF l i e) (hd1 : W - lenF l i e ≤ 200) (hW0 : 0 ≤ W) (hW : W ≤ 200) (hx0 : 0 ≤ x) (hx1 : x ≤ 2400000) (hne : Bc ≠ Bn) (hcn : bC ≠ Bc ∧ bC ≠ Bn ∧ bF ≠ Bc ∧ bF ≠ Bn ∧ bN ≠ Bc ∧ bN ≠ Bn) (T : Nat → Int) (hT : T e = x) :
    Calls Try.prog 28 #[.int .i64 (e : Nat), .int .i64 (lenF l i e), .pointer (some ⟨bW, 0, none⟩), .pointer (some ⟨bC, 0, none⟩), .pointer (some ⟨bL, 0, none⟩), .pointer (some ⟨bF, 0, none⟩), .pointer (some ⟨bN, 0, none⟩)] w
      (InPost Bc Bn xs ys i e (cand l W T i e) b w) := by
  have c1 : w.cell? ⟨bW, 0, none⟩ = some (.int .i64 W) := cell_of_one h1
  have c2 : w.cell? ⟨bC, 0, none⟩ = some (.slice (some ⟨Bc, 0, none⟩) (l.length + 1) (l.length + 1)) := cell_of_one h2
  have c3 : w.cell? ⟨bL, 0, none⟩ = some (.slice A l.length c) := cell_of_one h3
  have c4 : w.cell? ⟨bF, 0, none⟩ = some (.int .i64 i) := cell_of_one h4
  have c5 : w.cell? ⟨bN, 0, none⟩ = some (.slice (some ⟨Bn, 0, none⟩) (l.length + 1) (l.length + 1)) := cell_of_one h5
  have c6 : w.cell? ⟨Bc, e, none⟩ = some (.int .i64 x) := h6.cell hx
  have c7 : w.cell? ⟨Bc, i, none⟩ = some (.int .i64 b) := h6.cell hb
  have f1 : w.frozen? ⟨Bc, i, none⟩ = false := h6.free i
  have f2 : w.frozen? ⟨Bn, i, none⟩ = false := h7.free i
  obtain ⟨y, hy⟩ : ∃ y, ys[i]? = some y := ⟨ys[i]'(by omega), List.getElem?_eq_getElem (by omega)⟩
  have c8 : w.cell? ⟨Bn, i, none⟩ = some (.int .i64 y) := h7.cell hy
  obtain ⟨hn1, hn2, hn3, hn4, hn5, hn6⟩ := hcn
  have hdd := sq_le hd0 hd1
  obtain ⟨L, hL⟩ : ∃ L, lenF l i e = L := ⟨_, rfl⟩
  have hcd : cand l W T i e = if e = l.length then 0 else (W - L) * (W - L) + x := by unfold cand; rw [hL, hT]
  rw [hL] at hd0 hd1 hdd ⊢
  obtain ⟨K, hK⟩ : ∃ K, cand l W T i e = K := ⟨_, rfl⟩
  rw [hK] at hcd ⊢
  have H6 := Lib.hid h6
  have H7 := Lib.hid h7
  have Hc := Lib.hid hcd
  have b1 : ((i : Int) < ((l.length : Int) + 1)) := by omega
  have b2 : ((e : Int) < ((l.length : Int) + 1)) := by omega
  clear h1 h2 h3 h4 h5 h6 h7 hK hcd hL hT
  by_cases hen : e = l.length
  · have d1 : ((e : Int) == (l.length : Int)) = true := by simp [hen]
    have hk2 := Hc.out
    rw [if_pos hen] at hk2
    subst hk2
    by_cases hk : (0 : Int) < b
    · have d2 : decide ((0 : Int) < b) = true := decide_eq_true hk
      have HK := Lib.hid hk
      clear hk Hc hen
      go_enter Try.func28, Try.ntmps28
      go_wp2
      go_quiet (fail)
      go_wp2
      go_region
      all_goals (try go_wp2)
      all_goals go_end0
      all_goals exact in_yes H6.out H7.out hne HK.out _
    · have d2 : decide ((0 : Int) < b) = false := decide_eq_false hk
      have HK := Lib.hid hk
      clear hk Hc hen
      go_enter Try.func28, Try.ntmps28
      go_wp2
      go_quiet (fail)
      go_wp2
      go_end0
      exact ⟨rfl, (Bes2.refl _ _ _).drewN _, by rw [if_neg (Int.not_lt.2 HK.out)]; exact H6.out, by rw [if_neg (Int.not_lt.2 HK.out)]; exact H7.out⟩
  · have d1 : ((e : Int) == (l.length : Int)) = false := by simp; omega
    have hk2 := Hc.out
    rw [if_neg hen] at hk2
    subst hk2
    by_cases hk : (W - L) * (W - L) + x < b
    · have d2 : decide ((W - L) * (W - L) + x < b) = true := decide_eq_true hk
      have HK := Lib.hid hk
      clear hk Hc hen
      go_enter Try.func28, Try.ntmps28
      go_wp2
      go_quiet (fail)
      go_wp2
      go_region
      all_goals (try go_wp2)
      all_goals go_end0
      all_goals exact in_yes H6.out H7.out hne HK.out _
    · have d2 : decide ((W - L) * (W - L) + x < b) = false := decide_eq_false hk
      have HK := Lib.hid hk
      clear hk Hc hen
      go_enter Try.func28, Try.ntmps28
      go_wp2
      go_quiet (fail)
      go_wp2
      go_end0
      exact ⟨rfl, (Bes2.refl _ _ _).drewN _, by rw [if_neg (Int.not_lt.2 HK.out)]; exact H6.out, by rw [if_neg (Int.not_lt.2 HK.out)]; exact H7.out⟩

end Go.Proofs.Ytdglijpooodlnaa
