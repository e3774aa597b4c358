/- rises, Rises, Sitting: the walks. -/
import Derived.Test.YtnpbhpaffdjjoaaDoorSitF1
import Derived.Test.YtnpbhpaffdjjoaaDoorLaws
import Derived.OneCell
namespace Go.Proofs.YtnpbhpaffdjjoaaDoor
open Go.RowKit

/-- memory as it was but for new blocks and the block b -/
structure Bes (b : Nat) (w w' : World) : Prop where
  os : w'.os = w.os
  tape : w'.tape = w.tape
  output : w'.output = w.output
  size : w.heap.size ≤ w'.heap.size
  block : ∀ k, k < w.heap.size → k ≠ b → w'.heap[k]? = w.heap[k]?
theorem Bes.of_ext {b : Nat} {w w' : World} (h : Ext w w') : Bes b w w' := ⟨h.os, h.tape, h.output, h.size, fun _ hk _ => h.block hk⟩
theorem Bes.toExt {b : Nat} {w0 w w' : World} (h : Bes b w w') (h0 : Ext w0 w) (hb : w0.heap.size ≤ b) : Ext w0 w' :=
  ⟨h.os.trans h0.os, h.tape.trans h0.tape, h.output.trans h0.output, Nat.le_trans h0.size h.size, fun k hk => (h.block k (Nat.lt_of_lt_of_le hk h0.size) (by omega)).trans (h0.block hk)⟩

/-- a block of the call's own that holds one int -/
def Has1 (w : World) (b : Nat) (x : Int) : Prop := w.heap[b]? = some (.cells #[.int .i64 x] 3 (0, 0))

theorem setCell_bes (w : World) (B : Nat) (u : Value) : Bes B w (w.setCell ⟨B, 0, none⟩ u) := ⟨rfl, rfl, rfl, by simp, fun k _ hk => heap_setCell_other w _ k _ hk⟩
set_option maxHeartbeats 400000 in
theorem bad_any (n x : Int) (B : Nat) (w : World) (hb : Has1 w B x) : Calls Tryd.prog 38 #[.int .i64 n, .pointer (some ⟨B, 0, none⟩)] w fun e w' => e = .returned (.bool (!(decide (x < n) && dayB n))) ∧ Has1 w' B n ∧ Bes B w w' := by
  have hv := valid_any n
  obtain ⟨q, hq⟩ : ∃ q, dayB n = q := ⟨_, rfl⟩
  rw [hq] at hv ⊢
  have Hv := Lib.hid hv
  have Hb := Lib.hid hb
  have hc : w.cell? ⟨B, 0, none⟩ = some (.int .i64 x) := by simp [World.cell?, show w.heap[B]? = _ from hb]
  have hf : w.frozen? ⟨B, 0, none⟩ = false := by simp [World.frozen?, show w.heap[B]? = _ from hb]
  clear hv hq hb
  by_cases hx : x < n
  · have d1 : decide (n > x) = true := decide_eq_true hx
    have e1 : decide (x < n) = true := decide_eq_true hx
    rw [e1]
    go_enter Tryd.func38, Tryd.ntmps38
    go_wp2_with (refine (Hv.out _).mono ?_; rintro e w' ⟨rfl, rfl⟩)
    go_ret
    exact ⟨rfl, one_setCell Hb.out, setCell_bes _ _ _⟩
  · have d1 : decide (n > x) = false := decide_eq_false hx
    have e1 : decide (x < n) = false := decide_eq_false hx
    rw [e1]
    go_enter Tryd.func38, Tryd.ntmps38
    go_wp2
    go_ret
    exact ⟨rfl, one_setCell Hb.out, setCell_bes _ _ _⟩

set_option maxRecDepth 100000 in
set_option maxHeartbeats 1600000 in
theorem idxBad_any (A : Option Addr) (c : Nat) (l : List Int) (B : Nat) (w0 w : World) (hs : Sl intEl w0 A l) (he : Ext w0 w) (hB : w0.heap.size ≤ B) (hb : Has1 w B (-1)) (hn : l.length ≤ 9223372036854775807) :
    Calls Tryd.prog 42 #[.slice A l.length c, .func (.func 38) #[] #[.pointer (some ⟨B, 0, none⟩)]] w fun e w' => ∃ z : Int, e = .returned (.int .i64 z) ∧ decide (z ≥ 0) = !(risB (-1) l) ∧ Ext w0 w' := by
  have Hb := Lib.hid hb
  clear hb
  go_enter Tryd.func42, Tryd.ntmps42
  go_wp2
  go_loopw [8] (fun i wr => ∃ (k : Nat) (x : Int), k ≤ l.length ∧ i = .int .i64 k ∧ Hid (risB (-1) l = risB x (l.drop k)) ∧ Ext w0 wr ∧ Hid (Has1 wr B x)) (fun i _ => l.length - (intOf i).toNat)
  case atStart => exact ⟨0, -1, Nat.zero_le _, rfl, Lib.hid rfl, he, Hb⟩
  case round =>
    obtain ⟨k, x, hk, rfl, Hk, hext, Hx⟩ := hrel
    by_cases hlt : k < l.length
    · obtain ⟨b, off, rfl, hb, u0⟩ := intAt (hs.ext hext) hlt
      have Htk := Lib.hid (risB_drop hlt x)
      obtain ⟨n, hq⟩ : ∃ n, l[k] = n := ⟨_, rfl⟩
      rw [hq] at u0 Htk
      have ho := bad_any n x B wr Hx.out
      obtain ⟨bb, hbb⟩ : ∃ bb, (decide (x < n) && dayB n) = bb := ⟨_, rfl⟩
      rw [hbb] at ho Htk
      have Ho := Lib.hid ho
      clear ho hq hbb
      cases bb with
      | true =>
        go_wp2_with fail
        refine (Ho.out).mono ?_
        rintro e w2 ⟨rfl, hb2, hx2⟩
        have Hb2 := Lib.hid hb2
        have hx3 := hx2.toExt hext hB
        clear hb2 hx2
        go_wp2
        go_roundw
        case rel => exact ⟨k + 1, n, by omega, by go_num, Lib.hid (by rw [Hk.out, Htk.out, Bool.true_and]), hx3, Hb2⟩
        case measure => simp [intOf]; omega
      | false =>
        have Hf := Lib.hid (show risB (-1) l = false by rw [Hk.out, Htk.out, Bool.false_and])
        go_wp2_with fail
        refine (Ho.out).mono ?_
        rintro e w2 ⟨rfl, hb2, hx2⟩
        have hx3 := hx2.toExt hext hB
        clear hb2 hx2
        go_wp2
        go_ret
        exact ⟨k, rfl, by rw [Hf.out]; simp, hx3⟩
    · have hkl : k = l.length := by omega
      have h3 := Hk.out
      rw [List.drop_of_length_le (by omega)] at h3
      have H3 := Lib.hid h3
      clear h3 hkl
      go_wp2
      go_ret
      exact ⟨-1, rfl, by rw [H3.out]; rfl, hext⟩

set_option maxRecDepth 100000 in
set_option maxHeartbeats 800000 in
theorem hasBad_any (A : Option Addr) (c : Nat) (l : List Int) (B : Nat) (w0 w : World) (hs : Sl intEl w0 A l) (he : Ext w0 w) (hB : w0.heap.size ≤ B) (hb : Has1 w B (-1)) (hn : l.length ≤ 9223372036854775807) :
    Calls Tryd.prog 39 #[.slice A l.length c, .func (.func 38) #[] #[.pointer (some ⟨B, 0, none⟩)]] w fun e w' => e = .returned (.bool (!(risB (-1) l))) ∧ Ext w0 w' := by
  have hi := idxBad_any A c l B w0 w hs he hB hb hn
  obtain ⟨bb, hbb⟩ : ∃ bb, (!(risB (-1) l)) = bb := ⟨_, rfl⟩
  simp only [hbb] at hi
  rw [hbb]
  have Hi := Lib.hid hi
  clear hi hbb hs he hB hb
  go_enter Tryd.func39, Tryd.ntmps39
  go_wp2_with fail
  refine (Hi.out).mono ?_
  rintro e w2 ⟨z, rfl, hz, hx2⟩
  go_wp2
  go_ret
  exact ⟨rfl, hx2⟩

set_option maxHeartbeats 800000 in
theorem rises_any (A : Option Addr) (c : Nat) (l : List Int) (w : World) (hs : Sl intEl w A l) (hn : l.length ≤ 9223372036854775807) :
    Calls Tryd.prog 32 #[.slice A l.length c] w fun e w' => e = .returned (.bool (risesB l)) ∧ Ext w w' := by
  have hb := hasBad_any A c l w.heap.size w (w.alloc (.cells #[.int .i64 (-1)] 3)) hs ((Ext.refl w).alloc _) (Nat.le_refl _) (heap_alloc_new w _) hn
  have hx : Ext w (w.alloc (.cells #[.int .i64 (-1)] 3)) := (Ext.refl w).alloc _
  unfold risesB
  obtain ⟨q, hq⟩ : ∃ q, risB (-1) l = q := ⟨_, rfl⟩
  rw [hq] at hb ⊢
  have Hb := Lib.hid hb
  clear hb hq
  by_cases h64 : l.length ≤ 64
  · have d1 : decide ((l.length : Int) ≤ 64) = true := decide_eq_true (by omega)
    rw [decide_eq_true h64, Bool.true_and]
    go_enter Tryd.func32, Tryd.ntmps32
    go_wp2_with (refine (Hb.out).mono ?_; rintro e w2 ⟨rfl, hx2⟩)
    go_ret
    exact ⟨ret_bool (by simp), hx2⟩
  · have d1 : decide ((l.length : Int) ≤ 64) = false := decide_eq_false (by omega)
    rw [decide_eq_false h64, Bool.false_and]
    go_enter Tryd.func32, Tryd.ntmps32
    go_wp2
    go_ret
    exact ⟨rfl, hx⟩

end Go.Proofs.YtnpbhpaffdjjoaaDoor
