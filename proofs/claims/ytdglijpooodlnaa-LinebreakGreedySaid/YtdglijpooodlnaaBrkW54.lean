/- Break: the walk. -/
import Derived.Test.YtdglijpooodlnaaBrkRow54
import Derived.Deep.DeepCutAuto
import Derived.Deep.OwnRows
import Derived.Deep.RegionHeld3
import Derived.Deep.DrawnRows
namespace Go.Proofs.Ytdglijpooodlnaa
open Go.RowKit
attribute [local go_sem ↓] Go.wp_at_zero Go.wp_at_succ

/-- behind the two makes: two rows and their boxes -/
structure Made (w : World) (n : Nat) (s7 s8 : Value) (wx : World) (b7 b8 Bc Bn : Nat) : Prop where
  e7 : s7 = .pointer (some ⟨b7, 0, none⟩)
  e8 : s8 = .pointer (some ⟨b8, 0, none⟩)
  h7 : HasS wx b7 (.slice (some ⟨Bc, 0, none⟩) (n + 1) (n + 1)) 25
  h8 : HasS wx b8 (.slice (some ⟨Bn, 0, none⟩) (n + 1) (n + 1)) 25
  hx : HasL wx Bc (List.replicate (n + 1) 0)
  hy : HasL wx Bn (List.replicate (n + 1) 0)
  ne : Bc ≠ Bn
  n7 : b7 ≠ Bc ∧ b7 ≠ Bn
  n8 : b8 ≠ Bc ∧ b8 ≠ Bn
  l7 : w.heap.size + 2 ≤ b7
  l8 : w.heap.size + 2 ≤ b8
  lc : w.heap.size + 2 ≤ Bc
  ln : w.heap.size + 2 ≤ Bn

/-- the boxes of Break in a later world -/
structure Boxes5 (w : World) (A : Option Addr) (c n : Nat) (W : Int) (wr : World) (b7 b8 Bc Bn : Nat) : Prop where
  ext : Ext w wr
  hW : Has1 wr w.heap.size W
  hL : HasS wr (w.heap.size + 1) (.slice A n c) 22
  h7 : HasS wr b7 (.slice (some ⟨Bc, 0, none⟩) (n + 1) (n + 1)) 25
  h8 : HasS wr b8 (.slice (some ⟨Bn, 0, none⟩) (n + 1) (n + 1)) 25
/-- the rows are right from i on -/
def RowsAt (l : List ByteArray) (W : Int) (i : Nat) (wr : World) (Bc Bn : Nat) : Prop :=
  ∃ xs ys, HasL wr Bc xs ∧ HasL wr Bn ys ∧ xs.length = l.length + 1 ∧ ys.length = l.length + 1 ∧ (∀ e, i ≤ e → e ≤ l.length → xs[e]? = some (CF l W e)) ∧ (∀ e, i ≤ e → e < l.length → ys[e]? = some (NF l W e : Int))
theorem row_round (A : Option Addr) (c : Nat) (l : List ByteArray) (W : Int) (i b7 b8 Bc Bn : Nat) (w wr : World) (hs : Sl strEl w A l) (hF : Fit W l) (hi : i < l.length) (hB : Boxes5 w A c l.length W wr b7 b8 Bc Bn) (hR : RowsAt l W (i + 1) wr Bc Bn)
    (hn : Bc ≠ Bn ∧ (b7 ≠ Bc ∧ b7 ≠ Bn) ∧ (b8 ≠ Bc ∧ b8 ≠ Bn)) (hlc : w.heap.size + 2 ≤ Bc) (hln : w.heap.size + 2 ≤ Bn) :
    Calls Try.prog 27 #[.int .i64 W, .int .i64 (i : Nat), .slice A l.length c, .func (.func 28) #[] #[.pointer (some ⟨w.heap.size, 0, none⟩), .pointer (some ⟨b7, 0, none⟩), .pointer (some ⟨w.heap.size + 1, 0, none⟩), .pointer (some ⟨wr.heap.size, 0, none⟩), .pointer (some ⟨b8, 0, none⟩)]]
      ((wr.setCell ⟨Bc, i, none⟩ (.int .i64 9223372036854775807)).alloc (.cells #[.int .i64 (i : Nat)] 3)) fun r w' => r = .returned (.tuple #[]) ∧ RowsAt l W i w' Bc Bn ∧ Boxes5 w A c l.length W w' b7 b8 Bc Bn := by
  obtain ⟨xs, ys, hX, hY, hXl, hYl, hXe, hYe⟩ := hR
  obtain ⟨hn0, hn7, hn8⟩ := hn
  have z1 := hX.lt
  have z2 := hY.lt
  obtain ⟨w3, h3⟩ : ∃ w3, wr.setCell ⟨Bc, i, none⟩ (.int .i64 9223372036854775807) = w3 := ⟨_, rfl⟩
  have hbes : Bes2 Bc Bn wr w3 := h3 ▸ (Bes2.refl Bc Bn wr).put (.inl rfl) i (.int .i64 9223372036854775807)
  have hX3 : HasL w3 Bc (xs.set i 9223372036854775807) := h3 ▸ hX.set i 9223372036854775807
  have hs3 : w3.heap.size = wr.heap.size := by rw [← h3]; simp
  have hY3 : HasL w3 Bn ys := by rw [← h3]; exact (heap_setCell_other _ _ _ _ (Ne.symm hn0)).trans hY
  rw [h3, ← hs3]
  obtain ⟨w4, h4⟩ : ∃ w4, w3.alloc (.cells #[.int .i64 (i : Nat)] 3) = w4 := ⟨_, rfl⟩
  have hx4 : Ext w3 w4 := h4 ▸ (Ext.refl w3).alloc _
  have hb4 : Bes2 Bc Bn wr w4 := hbes.trans ⟨hx4.os, hx4.tape, hx4.output, hx4.size, fun k hk _ _ => hx4.block hk⟩
  have hF4 : Has1 w4 w3.heap.size i := by rw [← h4]; exact heap_alloc_new w3 _
  have hX4 : HasL w4 Bc (xs.set i 9223372036854775807) := (hx4.block hX3.lt).trans hX3
  have hY4 : HasL w4 Bn ys := (hx4.block hY3.lt).trans hY3
  rw [h4]
  have hk : ∀ b o, b ≠ Bc → b ≠ Bn → wr.heap[b]? = some o → w4.heap[b]? = some o := fun b o h1 h2 h => (hb4.block b (lt_of_block h) h1 h2).trans h
  have hfive : Five w4 A c l.length W i w.heap.size b7 (w.heap.size + 1) w3.heap.size b8 Bc Bn :=
    ⟨hk _ _ (by omega) (by omega) hB.hW, hk _ _ hn7.1 hn7.2 hB.h7, hk _ _ (by omega) (by omega) hB.hL, hF4, hk _ _ hn8.1 hn8.2 hB.h8, hn0, ⟨by omega, by omega⟩, hn7, ⟨by omega, by omega⟩, ⟨by omega, by omega⟩, hn8⟩
  have hxw : Ext w w4 := hb4.toExt hB.ext (by omega) (by omega)
  refine (row_any A c l W i _ ys w.heap.size b7 (w.heap.size + 1) w3.heap.size b8 Bc Bn 0 w4 w hs hxw (by omega) (by omega) hF hi hfive hX4 hY4 (by rw [List.length_set]; exact hXl) hYl (List.getElem?_set_self (by omega)) (fun e h1 h2 => by
    rw [List.getElem?_set_ne (by omega)]
    exact hXe e (by omega) h2)).mono fun r w5 ⟨hr1, hrow⟩ => ⟨hr1, ?_, ?_⟩
  · obtain ⟨xs5, ys5, a1, a2, a3, a4, a5, a6, a7⟩ := hrow.rows
    have hrow := CN_row (W := W) hi
    refine ⟨xs5, ys5, a1, a2, a3, a4, fun e h1 h2 => ?_, fun e h1 h2 => ?_⟩
    · rcases Nat.lt_or_ge i e with h | h
      · rw [(a5 e (by omega)).1, List.getElem?_set_ne (by omega)]
        exact hXe e (by omega) h2
      · obtain rfl : i = e := by omega
        rw [a6, ← hrow]
        rfl
    · rcases Nat.lt_or_ge i e with h | h
      · rw [(a5 e (by omega)).2]
        exact hYe e (by omega) h2
      · obtain rfl : i = e := by omega
        rw [a7 (hF.lt hi), ← hrow]
        rfl
  · have hf5 := hfive.bes hrow.bes
    exact ⟨hrow.bes.toExt hxw (by omega) (by omega), hf5.h1, hf5.h3, hf5.h2, hf5.h5⟩
theorem brk_step {w wq w3 : World} {v v' : Value} {xs : List Int} {o : Obj} {Bn b8 n c : Nat} {A : Option Addr} {ys : List Int} {S : Value} (hx : Ext w wq) (hown : Own intEl w.heap.size wq v xs) (hob : v.ownBlock ≠ some Bn ∧ v.ownBlock ≠ some b8 ∧ v.ownBlock ≠ some (w.heap.size + 1))
    (hq : HasL wq Bn ys ∧ HasS wq b8 S 25 ∧ HasS wq (w.heap.size + 1) (.slice A n c) 22) (hg : (wq.alloc o).grownBy w3 v.ownBlock) (hloc : v'.ownBlock = v.ownBlock ∨ v'.ownBlock = some (wq.alloc o).heap.size) :
    (v'.ownBlock ≠ some Bn ∧ v'.ownBlock ≠ some b8 ∧ v'.ownBlock ≠ some (w.heap.size + 1)) ∧ Ext w w3 ∧ HasL w3 Bn ys ∧ HasS w3 b8 S 25 ∧ HasS w3 (w.heap.size + 1) (.slice A n c) 22 := by
  obtain ⟨q1, q2, q3⟩ := hq
  obtain ⟨o1, o2, o3⟩ := hob
  have z1 := q1.lt
  have z2 := lt_of_block q2
  have z3 := lt_of_block q3
  have hx1 : Ext wq (wq.alloc o) := (Ext.refl wq).alloc o
  have hs : (wq.alloc o).heap.size = wq.heap.size + 1 := by simp
  have hk : ∀ k ob, v.ownBlock ≠ some k → wq.heap[k]? = some ob → w3.heap[k]? = some ob := fun k ob h1 h2 =>
    (hg.block k (by rw [hs]; have := lt_of_block h2; omega) (fun h => h1 h.symm)).trans ((hx1.block (lt_of_block h2)).trans h2)
  refine ⟨?_, ⟨hg.os.trans (hx1.os.trans hx.os), hg.tape.trans (hx1.tape.trans hx.tape), hg.output.trans (hx1.output.trans hx.output), Nat.le_trans hx.size (Nat.le_trans hx1.size hg.size), fun k hk2 => ?_⟩, hk _ _ o1 q1, hk _ _ o2 q2, hk _ _ o3 q3⟩
  · rcases hloc with h | h
    · rw [h]; exact ⟨o1, o2, o3⟩
    · rw [h, hs]
      refine ⟨fun h => ?_, fun h => ?_, fun h => ?_⟩ <;> (injection h with h; omega)
  · have hz := hx.size
    refine (hg.block k (by rw [hs]; omega) (fun h => ?_)).trans ((hx1.block (by omega)).trans (hx.block hk2))
    have := (hown.lt k h.symm).1
    omega
theorem blk_new (w : World) (o : Obj) (k : Nat) (hk : k = w.heap.size) : (w.alloc o).heap[k]? = some o := by rw [hk]; exact heap_alloc_new w o
theorem blk_old {w : World} {o o' : Obj} {k : Nat} (h : w.heap[k]? = some o') : (w.alloc o).heap[k]? = some o' := (((Ext.refl w).alloc o).block (lt_of_block h)).trans h
theorem blk_drew {w : World} {o : Obj} {k : Nat} (h : w.heap[k]? = some o) : w.drew.heap[k]? = some o := h
theorem madeCells_ints (m : Nat) : madeCells #[Value.int .i64 0] m = ((List.replicate m 0).map (Value.int .i64)).toArray := by
  apply Array.ext'
  simp only [madeCells, Array.toList_map, Array.toList_range, List.map_replicate]
  rw [List.eq_replicate_iff]
  exact ⟨by simp, fun b hb => by obtain ⟨x, _, rfl⟩ := List.mem_map.1 hb; simp [Nat.mod_one]⟩
theorem hasL_of {w : World} {B m : Nat} (h : w.heap[B]? = some (.cells (madeCells #[.int .i64 0] m) 3 (0, 0))) : HasL w B (List.replicate m 0) := by
  rw [madeCells_ints] at h
  exact h
set_option maxRecDepth 100000 in
set_option maxHeartbeats 1600000 in
theorem break_yes (A : Option Addr) (c : Nat) (l : List ByteArray) (W : Int) (w : World) (hs : Sl strEl w A l) (hb : briefP l 60) (h : wrongF W l = 0) :
    Calls Try.prog 12 #[.int .i64 W, .slice A l.length c] w (RetEnds w (bLines l W) 0) := by
  have hF := fit_of h hb
  have hl := hb.1
  have hmk := run_make_row' (P := Try.prog) 25 3 (.int .i64 0) 8 Try.underlying25 (by kernel_rfl) rfl .i64 .i64 (l.length + 1) (by omega) (by omega)
  have hw := wrong_any A c l W _ (hs.ext (((Ext.refl w).alloc (.cells #[.int .i64 W] 3)).alloc (.cells #[.slice A l.length c] 22))) (by omega)
  rw [h] at hw
  have Hw := Lib.hid hw
  have HF := Lib.hid hF
  have Hs := Lib.hid hs
  clear hw h hF hb hs
  go_enter Try.func12, Try.ntmps12
  go_wp2_with fail
  refine (Hw.out).mono ?_
  rintro e w1 ⟨rfl, hx1⟩
  have hz1 : w.heap.size + 2 ≤ w1.heap.size := by have := hx1.size; simpa using this
  have hw1 : IntKind.i64.wrap ((l.length : Int) + 1) = ((l.length + 1 : Nat) : Int) := IntWalk.i64_in _ (by omega)
  have hmk1 : ∀ W : World, (Instr.makeSlice 25 (.int .i64 (IntKind.i64.wrap ((l.length : Int) + 1))) (.int .i64 (IntKind.i64.wrap ((l.length : Int) + 1)))).run Try.prog W = .ok (.slice (some ⟨W.heap.size, 0, none⟩) (l.length + 1) (l.length + 1)) (W.alloc (.cells (madeCells #[.int .i64 0] (l.length + 1)) 3)) := fun W => by rw [hw1]; exact hmk W
  have hmk2 : ∀ W : World, (Instr.makeSlice 25 (.int .i64 ((l.length : Int) + 1)) (.int .i64 ((l.length : Int) + 1))).run Try.prog W = .ok (.slice (some ⟨W.heap.size, 0, none⟩) (l.length + 1) (l.length + 1)) (W.alloc (.cells (madeCells #[.int .i64 0] (l.length + 1)) 3)) := fun W => hmk W
  clear hmk hw1
  have hW1 : Has1 w1 w.heap.size W := (hx1.block (by simp; omega)).trans (blk_old (heap_alloc_new _ _))
  have hL1 : HasS w1 (w.heap.size + 1) (.slice A l.length c) 22 := (hx1.block (by simp)).trans (blk_new _ _ _ (by simp))
  have HW1 := Lib.hid hW1
  have HL1 := Lib.hid hL1
  have hxw : Ext w w1 := (((Ext.refl w).alloc _).alloc _).trans hx1
  have c2 : w1.cell? ⟨w.heap.size, 0, none⟩ = some (.int .i64 W) := cell_of_one hW1
  have c3 : w1.cell? ⟨w.heap.size + 1, 0, none⟩ = some (.slice A l.length c) := cell_of_one hL1
  clear hW1 hL1 hx1
  have hq0 : w1.heap.size ≠ w.heap.size := by omega
  have hq1 : w1.heap.size + 1 ≠ w.heap.size := by omega
  have hq2 : w1.heap.size + 2 ≠ w.heap.size := by omega
  have hne1 := World.new_ne w1 _ c3
  go_upto_region 4 with fail
  go_cut [7, 8] (fun s7 s8 wx => ∃ b7 b8 Bc Bn, Made w l.length s7 s8 wx b7 b8 Bc Bn ∧ Ext w1 wx)
  case first =>
    go_region_held3 (fun w' => w'.cell? ⟨w.heap.size + 1, 0, none⟩ = some (.slice A l.length c)) (simp (config := { maxDischargeDepth := 20 }) [*, World.cell?_alloc_some, World.cell?_setCell_far]) (fail)
    all_goals (go_wp2_with fail; go_meet; exact ⟨_, _, _, _, Made.mk rfl rfl (blk_drew (by repeat (first | (refine blk_new _ _ _ ?_; simp; done) | refine blk_old ?_))) (blk_drew (by repeat (first | (refine blk_new _ _ _ ?_; simp; done) | refine blk_old ?_))) (hasL_of (blk_drew (by repeat (first | (refine blk_new _ _ _ ?_; simp; done) | refine blk_old ?_)))) (hasL_of (blk_drew (by repeat (first | (refine blk_new _ _ _ ?_; simp; done) | refine blk_old ?_)))) (by omega) (by omega) (by omega) (by omega) (by omega) (by omega) (by omega), (((((Ext.refl w1).alloc _).alloc _).alloc _).alloc _).drew⟩)
  case rest =>
    obtain ⟨b7, b8, Bc, Bn, hM, hxm⟩ := hcut
    obtain ⟨rfl, rfl, h7, h8, hx, hy, hne, hn7, hn8, hl7, hl8, hlc, hln⟩ := hM
    have hxc := hxw.trans hxm
    have hWc : Has1 wc w.heap.size W := (hxm.block (lt_of_block HW1.out)).trans HW1.out
    have hLc : HasS wc (w.heap.size + 1) (.slice A l.length c) 22 := (hxm.block (lt_of_block HL1.out)).trans HL1.out
    have cc3 : wc.cell? ⟨w.heap.size + 1, 0, none⟩ = some (.slice A l.length c) := cell_of_one hLc
    have HM := Lib.hid (⟨hxc, hWc, hLc, h7, h8⟩ : Boxes5 w A c l.length W wc b7 b8 Bc Bn)
    have HX := Lib.hid hx
    have HY := Lib.hid hy
    have hb0 := HF.out.brief.1
    have Hn := Lib.hid (⟨hne, hn7, hn8⟩ : Bc ≠ Bn ∧ (b7 ≠ Bc ∧ b7 ≠ Bn) ∧ (b8 ≠ Bc ∧ b8 ≠ Bn))
    clear hxc hWc hLc h7 h8 hx hy hne hn7 hn8 hmk1 hmk2 c2 c3 HW1 HL1 hxw hxm hq0 hq1 hq2 hne1 Hw hz1
    go_wp2
    go_loopw [9, 10, 29] (fun _ _ v wr => ∃ m, m ≤ l.length ∧ v = .int .i64 (m : Nat) ∧ Hid (RowsAt l W (l.length - m) wr Bc Bn) ∧ Hid (Boxes5 w A c l.length W wr b7 b8 Bc Bn)) (fun _ _ v _ => l.length - (intOf v).toNat)
    case atStart =>
      refine ⟨0, by omega, rfl, Lib.hid ⟨_, _, HX.out, HY.out, by simp, by simp, fun e h1 h2 => ?_, fun e h1 h2 => by omega⟩, HM⟩
      obtain rfl : e = l.length := by omega
      rw [CF_end, List.getElem?_replicate, if_pos (by omega)]
    case round =>
      obtain ⟨m, hm, rfl, HR, HB⟩ := hrel
      obtain ⟨hn0, hn7, hn8⟩ := Hn.out
      have k7 : wr.cell? ⟨b7, 0, none⟩ = some (.slice (some ⟨Bc, 0, none⟩) (l.length + 1) (l.length + 1)) := cell_of_one HB.out.h7
      have k8 : wr.cell? ⟨b8, 0, none⟩ = some (.slice (some ⟨Bn, 0, none⟩) (l.length + 1) (l.length + 1)) := cell_of_one HB.out.h8
      have k2 : wr.cell? ⟨w.heap.size, 0, none⟩ = some (.int .i64 W) := cell_of_one HB.out.hW
      have k3 : wr.cell? ⟨w.heap.size + 1, 0, none⟩ = some (.slice A l.length c) := cell_of_one HB.out.hL
      by_cases hlt : m < l.length
      · obtain ⟨i, hi⟩ : ∃ i, l.length = m + 1 + i := ⟨l.length - (m + 1), by omega⟩
        have hfr : (l.length : Int) - 1 - (m : Int) = (i : Int) := by omega
        obtain ⟨xs, ys, hX, hY, hXl, hYl, hXe, hYe⟩ := HR.out
        have f1 : wr.frozen? ⟨Bc, i, none⟩ = false := hX.free i
        obtain ⟨x0, hx0⟩ : ∃ x0, xs[i]? = some x0 := ⟨xs[i]'(by omega), List.getElem?_eq_getElem (by omega)⟩
        have f2 : wr.cell? ⟨Bc, i, none⟩ = some (.int .i64 x0) := hX.cell hx0
        have z1 := hX.lt
        have z2 := hY.lt
        have z7 := lt_of_block HB.out.h7
        have z8 := lt_of_block HB.out.h8
        have zW := lt_of_block HB.out.hW
        have zL := lt_of_block HB.out.hL
        have b1 : ((i : Int) < ((l.length : Int) + 1)) := by omega
        have d1 : decide ((m : Int) < (l.length : Int)) = true := decide_eq_true (by omega)
        have hil : i < l.length := by omega
        have hr := Lib.hid (row_round A c l W i b7 b8 Bc Bn w wr Hs.out HF.out hil HB.out (by rw [← show l.length - m = i + 1 by omega]; exact HR.out) Hn.out hlc hln)
        clear hi hX hY hXe hYe
        go_wp2_with fail
        refine (hr.out).mono ?_
        rintro r w5 ⟨rfl, hR5, hB5⟩
        have HR5 := Lib.hid hR5
        have HB5 := Lib.hid hB5
        clear hR5 hB5
        go_wp2
        go_roundw
        case rel => exact ⟨m + 1, by omega, by go_num, Lib.hid (by rw [show l.length - (m + 1) = i by omega]; exact HR5.out), HB5⟩
        case measure => simp [intOf]; omega
      · obtain rfl : m = l.length := by omega
        obtain ⟨xs, ys, -, hY, -, hYl, -, hYe⟩ := HR.out
        have HY2 := Lib.hid (⟨hY, HB.out.h8, HB.out.hL⟩ : HasL wr Bn ys ∧ HasS wr b8 (.slice (some ⟨Bn, 0, none⟩) (l.length + 1) (l.length + 1)) 25 ∧ HasS wr (w.heap.size + 1) (.slice A l.length c) 22)
        have HYe : Hid (∀ e, e < l.length → ys[e]? = some (NF l W e : Int)) := Lib.hid fun e h => hYe e (by omega) h
        have Hx2 := Lib.hid HB.out.ext
        have Hlt := Lib.hid (⟨hY.lt, lt_of_block HB.out.h8, lt_of_block HB.out.hL⟩ : Bn < wr.heap.size ∧ b8 < wr.heap.size ∧ w.heap.size + 1 < wr.heap.size)
        clear hY hYe
        go_wp2
        go_loopw [11, 12] (fun v p wq => ∃ (a f : Nat) (xs : List Int), a ≤ l.length ∧ p = .int .i64 (a : Nat) ∧ Hid (Own intEl w.heap.size wq v xs) ∧ Hid (v.ownBlock ≠ some Bn ∧ v.ownBlock ≠ some b8 ∧ v.ownBlock ≠ some (w.heap.size + 1)) ∧ Hid (Ext w wq) ∧
          Hid (HasL wq Bn ys ∧ HasS wq b8 (.slice (some ⟨Bn, 0, none⟩) (l.length + 1) (l.length + 1)) 25 ∧ HasS wq (w.heap.size + 1) (.slice A l.length c) 22) ∧ l.length ≤ a + f ∧ Hid (bLines l W = xs ++ bEndsF l W f a)) (fun _ p _ => l.length - (intOf p).toNat)
        case atStart => exact ⟨0, l.length, [], by omega, rfl, Lib.hid (Own.nil _), Lib.hid (by simp [Value.ownBlock]), Hx2, HY2, by omega, Lib.hid rfl⟩
        case round =>
          obtain ⟨a, f, xs, ha, rfl, Hown, Hob, Hext, Hq, hf, Heq⟩ := hrel
          obtain ⟨q1, q2, q3⟩ := Hq.out
          have c8 := cell_of_one q2
          have c3 := cell_of_one q3
          by_cases hlt : a < l.length
          · have hgl := NF_lt HF.out hlt
            have hgn := (gF_is W (show a ≤ l.length by omega)).le
            have hc5 := q1.cell (HYe.out a hlt)
            obtain ⟨f', rfl⟩ : ∃ f', f = f' + 1 := ⟨f - 1, by omega⟩
            have heq2 := Heq.out
            rw [bEndsF, if_pos hlt] at heq2
            obtain ⟨g, hg⟩ : ∃ g, NF l W a = g := ⟨_, rfl⟩
            rw [hg] at hgl hc5 heq2
            have Heq2 := Lib.hid heq2
            have d1 : decide ((a : Int) < (l.length : Int)) = true := decide_eq_true (by omega)
            have b1 : ((a : Int) < ((l.length : Int) + 1)) := by omega
            have hlen : xs.length + 1 ≤ 68719476736 := by
              have h1 := congrArg List.length Heq2.out
              have h2 := bEndsF_len HF.out l.length 0 (Nat.zero_le _)
              unfold bLines at h1
              rw [List.length_append, List.length_cons] at h1
              omega
            have hgl2 : g ≤ l.length := by omega
            have hgl1 := hgl.1
            have zq := Hext.out.size
            clear hg heq2 Heq hgl q1 q2 q3
            go_wp2_with (at_builtin; refine wpList_appAt intEl rfl _ _ rfl 1 rfl (Hown.out.ext ((Ext.refl _).alloc _)) (ys := [(g : Int)]) rfl (Sl.new intEl rfl) hlen (by simp; omega) ?_; intro v' w3 hown3 hg3 hloc; have Hown3 := Lib.hid hown3; have Hg3 := Lib.hid hg3; have Hloc := Lib.hid hloc; clear hown3 hg3 hloc)
            go_roundw
            case rel =>
              have hstep := brk_step Hext.out Hown.out Hob.out Hq.out Hg3.out Hloc.out
              exact ⟨g, f', xs ++ [(g : Int)], hgl2, rfl, Hown3, Lib.hid hstep.1, Lib.hid hstep.2.1, Lib.hid hstep.2.2, by omega, Lib.hid (by rw [Heq2.out, List.append_assoc]; rfl)⟩
            case measure => simp [intOf]; omega
          · have Hfin := Lib.hid (show bLines l W = xs by rw [Heq.out, bEndsF_end (by omega), List.append_nil])
            have d1 : decide ((a : Int) < (l.length : Int)) = false := decide_eq_false (by omega)
            go_wp2
            go_ret2
            exact ⟨_, rfl, by rw [Hfin.out]; exact Hown.out, Hext.out⟩

set_option maxRecDepth 100000 in
set_option maxHeartbeats 800000 in
theorem break_no (A : Option Addr) (c : Nat) (l : List ByteArray) (W : Int) (w : World) (hs : Sl strEl w A l) (hn : l.length ≤ 9223372036854775807) (h : wrongF W l ≠ 0) :
    Calls Try.prog 12 #[.int .i64 W, .slice A l.length c] w (RetEnds w [] (wrongF W l)) := by
  have hw := wrong_any A c l W _ (hs.ext (((Ext.refl w).alloc (.cells #[.int .i64 W] 3)).alloc (.cells #[.slice A l.length c] 22))) hn
  obtain ⟨E, hE⟩ : ∃ E, wrongF W l = E := ⟨_, rfl⟩
  rw [hE] at hw h ⊢
  have Hw := Lib.hid hw
  have d1 : (E != 0) = true := by simp [h]
  clear hw hE h
  go_enter Try.func12, Try.ntmps12
  go_wp2_with fail
  refine (Hw.out).mono ?_
  rintro e w1 ⟨rfl, hx1⟩
  go_wp2
  go_ret2
  exact ⟨_, rfl, Own.nil _, (((Ext.refl w).alloc _).alloc _).trans hx1⟩

end Go.Proofs.Ytdglijpooodlnaa
