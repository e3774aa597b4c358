/- Greedy of both: the walks. -/
import Derived.Test.YtdglijpooodlnaaEach54
import Derived.Test.YtdglijpooodlnaaMask
namespace Go.Proofs.Ytdglijpooodlnaa
open Go.RowKit

/-- memory as it was but for new blocks and the block b -/
structure Bes (b : Nat) (w w' : World) : Prop where
  os : w'.os = w.os
  tape : w'.tape = w.tape
  output : w'.output = w.output
  size : w.heap.size ≤ w'.heap.size
  block : ∀ k, k < w.heap.size → k ≠ b → w'.heap[k]? = w.heap[k]?
theorem Bes.refl (b : Nat) (w : World) : Bes b w w := ⟨rfl, rfl, rfl, Nat.le_refl _, fun _ _ _ => rfl⟩
theorem Bes.trans {b : Nat} {w w' w'' : World} (h : Bes b w w') (k : Bes b w' w'') : Bes b w w'' :=
  ⟨k.os.trans h.os, k.tape.trans h.tape, k.output.trans h.output, Nat.le_trans h.size k.size, fun i hi hb => (k.block i (Nat.lt_of_lt_of_le hi h.size) hb).trans (h.block i hi hb)⟩
theorem Bes.toExt {b : Nat} {w0 w w' : World} (h : Bes b w w') (h0 : Ext w0 w) (hb : w0.heap.size ≤ b) : Ext w0 w' :=
  ⟨h.os.trans h0.os, h.tape.trans h0.tape, h.output.trans h0.output, Nat.le_trans h0.size h.size, fun k hk => (h.block k (Nat.lt_of_lt_of_le hk h0.size) (by omega)).trans (h0.block hk)⟩
theorem setCell_bes (w : World) (B : Nat) (u : Value) : Bes B w (w.setCell ⟨B, 0, none⟩ u) := ⟨rfl, rfl, rfl, by simp, fun k _ hk => heap_setCell_other w _ k _ hk⟩
theorem Own.bes {P : Program} {α : Type} {D : El P α} {base b : Nat} {w w' : World} {v : Value} {xs : List α} (h : Own D base w v xs) (hb : Bes b w w') (hv : v.ownBlock ≠ some b) : Own D base w' v xs :=
  h.keep fun k hk => hb.block k (h.lt k hk).2 fun e => hv (by rw [hk, e])

/-- the ends of the greedy lines from i on -/
def gEndsF (l : List ByteArray) (W : Int) : Nat → Nat → List Int
  | 0, _ => []
  | f + 1, i => if i < l.length then (gF l W i : Int) :: gEndsF l W f (gF l W i) else []
def gLines (l : List ByteArray) (W : Int) : List Int := gEndsF l W l.length 0
theorem gEndsF_end {l : List ByteArray} {W : Int} {f i : Nat} (h : l.length ≤ i) : gEndsF l W f i = [] := by
  cases f with
  | zero => rfl
  | succ f => rw [gEndsF, if_neg (by omega)]
theorem gEndsF_len {l : List ByteArray} {W : Int} (hF : Fit W l) : ∀ (f i : Nat), i ≤ l.length → (gEndsF l W f i).length ≤ l.length - i
  | 0, _, _ => Nat.zero_le _
  | f + 1, i, hi => by
    rw [gEndsF]
    split
    · rename_i h
      have h1 := hF.lt h
      have h2 := (gF_is W hi).le
      have := gEndsF_len hF f (gF l W i) h2
      rw [List.length_cons]
      omega
    · exact Nat.zero_le _
/-- ends of lines, an error -/
def RetEnds (w : World) (es : List Int) (err : Int) (e : Ending) (w' : World) : Prop := ∃ v, e = .returned (.tuple #[v, .int .i64 err]) ∧ Own intEl w.heap.size w' v es ∧ Ext w w'

set_option maxHeartbeats 400000 in
theorem setAt_any (e n : Int) (x : Int) (B : Nat) (w : World) (hb : Has1 w B x) : Calls Try.prog 32 #[.int .i64 e, .int .i64 n, .pointer (some ⟨B, 0, none⟩)] w fun r w' => r = .returned (.tuple #[]) ∧ Has1 w' B e ∧ Bes B w w' := by
  have hc : w.cell? ⟨B, 0, none⟩ = some (.int .i64 x) := cell_of_one hb
  have hf : w.frozen? ⟨B, 0, none⟩ = false := free_of_one hb
  have Hb := Lib.hid hb
  clear hb
  go_enter Try.func32, Try.ntmps32
  go_wp2
  go_end0
  exact ⟨rfl, one_setCell Hb.out, setCell_bes _ _ _⟩

set_option maxRecDepth 100000 in
set_option maxHeartbeats 800000 in
theorem greedy_no (A : Option Addr) (c : Nat) (l : List ByteArray) (W : Int) (w : World) (hs : Sl strEl w A l) (hn : l.length ≤ 9223372036854775807) (h : wrongF W l ≠ 0) :
    Calls Try.prog 14 #[.int .i64 W, .slice A l.length c] w (RetEnds w [] (wrongF W l)) := by
  have hw := wrong_any A c l W w hs hn
  obtain ⟨E, hE⟩ : ∃ E, wrongF W l = E := ⟨_, rfl⟩
  rw [hE] at hw h ⊢
  have Hw := Lib.hid hw
  have d1 : (E != 0) = true := by simp [h]
  clear hw hE h
  go_enter Try.func14, Try.ntmps14
  go_wp2_with fail
  refine (Hw.out).mono ?_
  rintro e w1 ⟨rfl, hx1⟩
  go_wp2
  go_ret2
  exact ⟨_, rfl, Own.nil _, hx1⟩
set_option maxRecDepth 100000 in
set_option maxHeartbeats 800000 in
theorem refGreedy_no (A : Option Addr) (c : Nat) (l : List ByteArray) (W : Int) (w : World) (hs : Sl strEl w A l) (hn : l.length ≤ 9223372036854775807) (h : wrongF W l ≠ 0) :
    Calls Try.prog 15 #[.int .i64 W, .slice A l.length c] w (RetEnds w [] (wrongF W l)) := by
  have hw := refWrong_any A c l W w hs hn
  obtain ⟨E, hE⟩ : ∃ E, wrongF W l = E := ⟨_, rfl⟩
  rw [hE] at hw h ⊢
  have Hw := Lib.hid hw
  have d1 : (E != 0) = true := by simp [h]
  clear hw hE h
  go_enter Try.func15, Try.ntmps15
  go_wp2_with fail
  refine (Hw.out).mono ?_
  rintro e w1 ⟨rfl, hx1⟩
  go_wp2
  go_ret2
  exact ⟨_, rfl, Own.nil _, hx1⟩

/-- the int that a pointer's cell holds -/
def cellInt (w : World) : Value → Nat
  | .pointer (some a) => match w.cell? a with | some (.int _ z) => z.toNat | _ => 0
  | _ => 0
theorem cellInt_of {w : World} {B : Nat} {x : Int} (h : Has1 w B x) : cellInt w (.pointer (some ⟨B, 0, none⟩)) = x.toNat := by
  simp [cellInt, cell_of_one h]

set_option maxRecDepth 100000 in
set_option maxHeartbeats 1600000 in
theorem greedy_yes (A : Option Addr) (c : Nat) (l : List ByteArray) (W : Int) (w : World) (hs : Sl strEl w A l) (hb : briefP l 60) (h : wrongF W l = 0) :
    Calls Try.prog 14 #[.int .i64 W, .slice A l.length c] w (RetEnds w (gLines l W) 0) := by
  have hF := fit_of h hb
  have hl := hb.1
  have hw := wrong_any A c l W w hs (by omega)
  rw [h] at hw
  have Hw := Lib.hid hw
  have HF := Lib.hid hF
  have Hs := Lib.hid hs
  clear hw h hF hb hs
  go_enter Try.func14, Try.ntmps14
  go_wp2_with fail
  refine (Hw.out).mono ?_
  rintro e w1 ⟨rfl, hx1⟩
  go_wp2
  go_loopw [7, 8] (fun v p wr => ∃ (a B f : Nat) (xs : List Int), a ≤ l.length ∧ p = .pointer (some ⟨B, 0, none⟩) ∧ Hid (Has1 wr B a) ∧ w.heap.size ≤ B ∧ Hid (Own intEl w.heap.size wr v xs) ∧ Hid (v.ownBlock ≠ some B) ∧ Ext w wr ∧ l.length ≤ a + f ∧ Hid (gLines l W = xs ++ gEndsF l W f a)) (fun _ p wr => l.length - cellInt wr p)
  case atStart => exact ⟨0, w1.heap.size, l.length, [], by omega, rfl, Lib.hid (heap_alloc_new w1 _), hx1.size, Lib.hid (Own.nil _), Lib.hid (by simp [Value.ownBlock]), hx1.alloc _, by omega, Lib.hid rfl⟩
  case round =>
    obtain ⟨a, B, f, xs, ha, rfl, HB, hB, Hown, Hne, hext, hf, Heq⟩ := hrel
    have hc : wr.cell? ⟨B, 0, none⟩ = some (.int .i64 a) := cell_of_one HB.out
    by_cases hlt : a < l.length
    · have hgl := HF.out.lt hlt
      have hG := gF_is W (show a ≤ l.length by omega)
      obtain ⟨f', rfl⟩ : ∃ f', f = f' + 1 := ⟨f - 1, by omega⟩
      have heq2 := Heq.out
      rw [gEndsF, if_pos hlt] at heq2
      obtain ⟨g, hg⟩ : ∃ g, gF l W a = g := ⟨_, rfl⟩
      rw [hg] at hgl hG heq2
      have hgn := hG.le
      have Heq2 := Lib.hid heq2
      have he := each1_any A c l W a g 60 (.pointer (some ⟨B, 0, none⟩)) (fun e w' => Has1 w' B e ∧ Bes B wr w') wr (fun e w' h => Hs.out.ext (h.2.toExt hext hB)) hG HF.out.brief (by omega) HF.out.hi
        (fun e w' _ _ h => (setAt_any _ _ _ B w' h.1).mono fun r w'' ⟨h1, h2, h3⟩ => ⟨h1, h2, h.2.trans h3⟩) ⟨HB.out, Bes.refl _ _⟩
      have He := Lib.hid he
      have d1 : decide ((a : Int) < (l.length : Int)) = true := decide_eq_true (by omega)
      clear he hg heq2 hG Heq
      go_wp2_with fail
      refine (He.out).mono ?_
      rintro r w2 ⟨rfl, hb2, hbes⟩
      have hx2 := hbes.toExt hext hB
      have hown2 := Hown.out.bes hbes Hne.out
      have hc2 : w2.cell? ⟨B, 0, none⟩ = some (.int .i64 g) := cell_of_one hb2
      have hBlt : B < w2.heap.size := lt_of_block hb2
      have hlen : xs.length + 1 ≤ 68719476736 := by
        have h1 := congrArg List.length Heq2.out
        have h2 := gEndsF_len HF.out l.length 0 (Nat.zero_le _)
        unfold gLines at h1
        rw [List.length_append, List.length_cons] at h1
        omega
      have Hb2 := Lib.hid hb2
      have Hown2 := Lib.hid hown2
      clear hc hb2 hown2 hbes
      go_wp2_with (at_builtin; refine wpList_app intEl rfl _ _ rfl 1 rfl (Hown2.out.ext (Ext.alloc (Ext.refl _) _)) (ys := [(g : Int)]) rfl (Sl.new intEl rfl) hlen (by have := hx2.size; simp; omega) ?_; intro v' w3 hown3 hb3 hg3; have hb4 : Has1 w3 B g := ((hg3.block B (by simp; omega) (fun h => Hne.out h.symm)).trans ((Ext.alloc (Ext.refl w2) _).block hBlt)).trans Hb2.out; have hc3 : w3.cell? ⟨B, 0, none⟩ = some (.int .i64 g) := cell_of_one hb4; have hx3 : Ext w w3 := (hx2.alloc _).trans' hb3; have Hown3 := Lib.hid hown3; clear hown3 hb3 hg3 hb4)
      go_roundw
      case rel => exact ⟨g, w3.heap.size, f', xs ++ [(g : Int)], by omega, rfl, Lib.hid (heap_alloc_new w3 _), by have := hx3.size; omega, Lib.hid (Hown3.out.ext ((Ext.refl _).alloc _)), Lib.hid (fun h => by have := (Hown3.out.lt _ h).2; omega), hx3.alloc _, by omega, Lib.hid (by rw [Heq2.out, List.append_assoc]; rfl)⟩
      case measure =>
        rw [cellInt_of HB.out, cellInt_of (show Has1 (w3.alloc (.cells #[.int .i64 g] 3)) w3.heap.size g from heap_alloc_new w3 _)]
        omega
    · have Hfin := Lib.hid (show gLines l W = xs by rw [Heq.out, gEndsF_end (by omega), List.append_nil])
      go_wp2
      go_ret2
      exact ⟨_, rfl, by rw [Hfin.out]; exact Hown.out, hext⟩

set_option maxRecDepth 100000 in
set_option maxHeartbeats 1600000 in
theorem refGreedy_yes (A : Option Addr) (c : Nat) (l : List ByteArray) (W : Int) (w : World) (hs : Sl strEl w A l) (hb : briefP l 60) (h : wrongF W l = 0) :
    Calls Try.prog 15 #[.int .i64 W, .slice A l.length c] w (RetEnds w (gLines l W) 0) := by
  have hF := fit_of h hb
  have hl := hb.1
  have hw := refWrong_any A c l W w hs (by omega)
  rw [h] at hw
  have Hw := Lib.hid hw
  have HF := Lib.hid hF
  have Hs := Lib.hid hs
  clear hw h hF hb hs
  go_enter Try.func15, Try.ntmps15
  go_wp2_with fail
  refine (Hw.out).mono ?_
  rintro e w1 ⟨rfl, hx1⟩
  go_wp2
  go_loopw [7, 8, 9] (fun v p _ wr => ∃ (a f : Nat) (xs : List Int), a ≤ l.length ∧ p = .int .i64 (a : Nat) ∧ Hid (Own intEl w.heap.size wr v xs) ∧ Ext w wr ∧ l.length ≤ a + f ∧ Hid (gLines l W = xs ++ gEndsF l W f a)) (fun _ p _ _ => l.length - (intOf p).toNat)
  case atStart => exact ⟨0, l.length, [], by omega, rfl, Lib.hid (Own.made intEl hx1.size), hx1.alloc _, by omega, Lib.hid rfl⟩
  case round =>
    obtain ⟨a, f, xs, ha, rfl, Hown, hext, hf, Heq⟩ := hrel
    by_cases hlt : a < l.length
    · have hgl := HF.out.lt hlt
      have hG := gF_is W (show a ≤ l.length by omega)
      obtain ⟨f', rfl⟩ : ∃ f', f = f' + 1 := ⟨f - 1, by omega⟩
      have heq2 := Heq.out
      rw [gEndsF, if_pos hlt] at heq2
      obtain ⟨g, hg⟩ : ∃ g, gF l W a = g := ⟨_, rfl⟩
      rw [hg] at hgl hG heq2
      have hgn := hG.le
      have Heq2 := Lib.hid heq2
      have HG := Lib.hid hG
      have d1 : decide ((a : Int) < (l.length : Int)) = true := decide_eq_true (by omega)
      have d1' : decide (a < l.length) = true := decide_eq_true hlt
      have hlen : xs.length + 1 ≤ 68719476736 := by
        have h1 := congrArg List.length Heq2.out
        have h2 := gEndsF_len HF.out l.length 0 (Nat.zero_le _)
        unfold gLines at h1
        rw [List.length_append, List.length_cons] at h1
        omega
      clear hg heq2 hG Heq
      go_wp2
      go_loopw [9] (fun q wq => ∃ k : Nat, a < k ∧ k ≤ g ∧ q = .int .i64 (k : Nat) ∧ Ext wr wq) (fun q _ => g - (intOf q).toNat)
      case atStart => exact ⟨a + 1, by omega, by omega, by go_num, Ext.refl _⟩
      case round =>
        obtain ⟨k, hk1, hk2, rfl, hxq⟩ := hrel
        by_cases hkn : k < l.length
        · have d2 : decide ((k : Int) < (l.length : Int)) = true := decide_eq_true (by omega)
          have d2' : decide (k < l.length) = true := decide_eq_true hkn
          have hlc := length_any A c l a (k + 1) 60 _ (Hs.out.ext (hext.trans hxq)) HF.out.brief (by omega) (by omega) (by omega)
          by_cases hkg : k < g
          · have hfit := HG.out.fit (k + 1) (by omega) (by omega)
            obtain ⟨L, hL⟩ : ∃ L, lenF l a (k + 1) = L := ⟨_, rfl⟩
            rw [hL] at hlc hfit
            have d3 : decide (L ≤ W) = true := decide_eq_true hfit
            have Hlc := Lib.hid hlc
            clear hL hlc
            go_wp2_with fail
            refine (Hlc.out).mono ?_
            rintro r w2 ⟨rfl, hx2⟩
            go_wp2
            go_roundw
            case rel => exact ⟨k + 1, by omega, by omega, by go_num, hxq.trans hx2⟩
            case measure => simp [intOf]; omega
          · obtain rfl : k = g := by omega
            have hbig : W < lenF l a (k + 1) := by
              rcases HG.out.stop with h | h
              · omega
              · exact h
            obtain ⟨L, hL⟩ : ∃ L, lenF l a (k + 1) = L := ⟨_, rfl⟩
            rw [hL] at hlc hbig
            have d3 : decide (L ≤ W) = false := decide_eq_false (by omega)
            have Hlc := Lib.hid hlc
            clear hL hlc
            go_wp2_with fail
            refine (Hlc.out).mono ?_
            rintro r w2 ⟨rfl, hx2⟩
            have hx3 : Ext w w2 := hext.trans (hxq.trans hx2)
            have hown2 := Hown.out.ext (hxq.trans hx2)
            have Hown2 := Lib.hid hown2
            clear hown2
            go_wp2_with (at_builtin; refine wpList_app intEl rfl _ _ rfl 1 rfl (Hown2.out.ext (Ext.alloc (Ext.refl _) _)) (ys := [(k : Int)]) rfl (Sl.new intEl rfl) hlen (by have := hx3.size; simp; omega) ?_; intro v' w3 hown3 hb3 hg3; have hx4 : Ext w w3 := (hx3.alloc _).trans' hb3; have Hown3 := Lib.hid hown3; clear hown3 hb3 hg3)
            go_roundw
            case rel => exact ⟨k, f', xs ++ [(k : Int)], by omega, rfl, Hown3, hx4, by omega, Lib.hid (by rw [Heq2.out, List.append_assoc]; rfl)⟩
            case measure => simp [intOf]; omega
        · obtain rfl : k = g := by omega
          have d2 : decide ((k : Int) < (l.length : Int)) = false := decide_eq_false (by omega)
          have d2' : decide (k < l.length) = false := decide_eq_false hkn
          have hx3 := hext.trans hxq
          have hown2 := Hown.out.ext hxq
          have Hown2 := Lib.hid hown2
          clear hown2
          go_wp2_with (at_builtin; refine wpList_app intEl rfl _ _ rfl 1 rfl (Hown2.out.ext (Ext.alloc (Ext.refl _) _)) (ys := [(k : Int)]) rfl (Sl.new intEl rfl) hlen (by have := hx3.size; simp; omega) ?_; intro v' w3 hown3 hb3 hg3; have hx4 : Ext w w3 := (hx3.alloc _).trans' hb3; have Hown3 := Lib.hid hown3; clear hown3 hb3 hg3)
          go_roundw
          case rel => exact ⟨k, f', xs ++ [(k : Int)], by omega, rfl, Hown3, hx4, by omega, Lib.hid (by rw [Heq2.out, List.append_assoc]; rfl)⟩
          case measure => simp [intOf]; omega
    · have Hfin := Lib.hid (show gLines l W = xs by rw [Heq.out, gEndsF_end (by omega), List.append_nil])
      go_wp2
      go_ret2
      exact ⟨_, rfl, by rw [Hfin.out]; exact Hown.out, hext⟩

end Go.Proofs.Ytdglijpooodlnaa
