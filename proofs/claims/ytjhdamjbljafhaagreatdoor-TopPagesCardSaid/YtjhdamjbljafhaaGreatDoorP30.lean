/- paginate.broken: a unit's lines and their ends. Chapter 54: plain laws of optimal and greedy lines. -/
import Derived.Test.YtjhdamjbljafhaaGreatDoorP29
import Derived.Deep.DeepCutAuto
import Derived.Deep.OwnRows
import Derived.Deep.RegionHeld3
import Derived.Deep.DrawnRows
import Derived.Test.YtjhdamjbljafhaaGreatDoorP28
namespace Go.Proofs.YtjhdamjbljafhaaGreatDoor
open Go.RowKit
structure Five (w : World) (A : Option Addr) (c n : Nat) (W : Int) (i : Nat) (bW bC bL bF bN Bc Bn : Nat) : Prop where
  h1 : Has1 w bW W
  h2 : HasS w bC (.slice (some ⟨Bc, 0, none⟩) (n + 1) (n + 1)) 40
  h3 : HasS w bL (.slice A n c) 34
  h4 : Has1 w bF i
  h5 : HasS w bN (.slice (some ⟨Bn, 0, none⟩) (n + 1) (n + 1)) 40
  ne : Bc ≠ Bn
  nW : bW ≠ Bc ∧ bW ≠ Bn
  nC : bC ≠ Bc ∧ bC ≠ Bn
  nL : bL ≠ Bc ∧ bL ≠ Bn
  nF : bF ≠ Bc ∧ bF ≠ Bn
  nN : bN ≠ Bc ∧ bN ≠ Bn
theorem Five.bes {w w' : World} {A : Option Addr} {c n : Nat} {W : Int} {i bW bC bL bF bN Bc Bn : Nat} (h : Five w A c n W i bW bC bL bF bN Bc Bn) (hb : Bes2 Bc Bn w w') : Five w' A c n W i bW bC bL bF bN Bc Bn :=
  ⟨(hb.block _ (lt_of_block h.h1) h.nW.1 h.nW.2).trans h.h1, (hb.block _ (lt_of_block h.h2) h.nC.1 h.nC.2).trans h.h2, (hb.block _ (lt_of_block h.h3) h.nL.1 h.nL.2).trans h.h3,
   (hb.block _ (lt_of_block h.h4) h.nF.1 h.nF.2).trans h.h4, (hb.block _ (lt_of_block h.h5) h.nN.1 h.nN.2).trans h.h5, h.ne, h.nW, h.nC, h.nL, h.nF, h.nN⟩
structure RowIn (l : List ByteArray) (W : Int) (i : Nat) (Bc Bn : Nat) (xs0 ys0 : List Int) (w : World) (e : Nat) (w' : World) : Prop where
  bes : Bes2 Bc Bn w w'
  rows : ∃ xs ys, HasL w' Bc xs ∧ HasL w' Bn ys ∧ xs.length = l.length + 1 ∧ ys.length = l.length + 1 ∧ (∀ k, k ≠ i → xs[k]? = xs0[k]? ∧ ys[k]? = ys0[k]?) ∧
    xs[i]? = some (sc l W (CF l W) i (e - i)).1 ∧ (i < e → ys[i]? = some ((sc l W (CF l W) i (e - i)).2 : Int))
set_option maxRecDepth 100000 in
theorem row_any (A : Option Addr) (c : Nat) (l : List ByteArray) (W : Int) (i : Nat) (xs0 ys0 : List Int) (bW bC bL bF bN Bc Bn base : Nat) (w w0 : World) (hs : Sl strEl w0 A l) (hext : Ext w0 w) (hbc : w0.heap.size ≤ Bc) (hbn : w0.heap.size ≤ Bn)
    (hF : Fit W l) (hi : i < l.length) (h5 : Five w A c l.length W i bW bC bL bF bN Bc Bn) (hx : HasL w Bc xs0) (hy : HasL w Bn ys0) (hxl : xs0.length = l.length + 1) (hyl : ys0.length = l.length + 1)
    (hxi : xs0[i]? = some 9223372036854775807) (hxe : ∀ e, i < e → e ≤ l.length → xs0[e]? = some (CF l W e)) :
    Calls Tryz.prog 140 #[.int .i64 W, .int .i64 (i : Nat), .slice A l.length c, .func (.func 141) #[] #[.pointer (some ⟨bW, 0, none⟩), .pointer (some ⟨bC, 0, none⟩), .pointer (some ⟨bL, 0, none⟩), .pointer (some ⟨bF, 0, none⟩), .pointer (some ⟨bN, 0, none⟩)]] w
      fun r w' => r = .returned (.tuple #[]) ∧ RowIn l W i Bc Bn xs0 ys0 w (gF l W i) w' := by
  have hW := hF.hi
  have hW1 := hF.lo
  have hG := gF_is W (show i ≤ l.length by omega)
  refine each5_any A c l W i (gF l W i) 602 _ _ _ _ _ (RowIn l W i Bc Bn xs0 ys0 w) w (fun e w' h => hs.ext (h.bes.toExt hext hbc hbn)) hG hF.brief (by omega) hW (fun e w' h1 h2 hr => ?_) ⟨Bes2.refl _ _ _, xs0, ys0, hx, hy, hxl, hyl, fun _ _ => ⟨rfl, rfl⟩, by rw [Nat.sub_self]; exact hxi, fun h => absurd h (by omega)⟩
  obtain ⟨hbes, xs, ys, hX, hY, hXl, hYl, hoth, hXi, hYi⟩ := hr
  have h5' := h5.bes hbes
  have hen : e + 1 ≤ l.length := Nat.le_trans h2 hG.le
  have hfit := hG.fit (e + 1) (by omega) (by omega)
  have hnn := lenF_nonneg (l := l) (i := i) (e := e + 1) (by omega) hen
  have hCF := CF_le hF hen
  have hxe1 := (hoth (e + 1) (by omega)).1.trans (hxe (e + 1) (by omega) hen)
  refine (breakIn_any A c l W i (e + 1) xs ys (CF l W (e + 1)) _ bW bC bL bF bN Bc Bn w' h5'.h1 h5'.h2 h5'.h3 h5'.h4 h5'.h5 hX hY (by omega) hen hF.brief.1 hxe1 hXi hYl (by omega) (by omega) (by omega) hW hCF.1 hCF.2 h5.ne
    ⟨h5.nC.1, h5.nC.2, h5.nF.1, h5.nF.2, h5.nN.1, h5.nN.2⟩ (CF l W) rfl).mono fun r w'' ⟨hr1, hr2, hr3, hr4⟩ => ⟨hr1, hbes.trans hr2, ?_⟩
  have e1 : e + 1 - i = (e - i) + 1 := by omega
  have e2 : i + (e - i) + 1 = e + 1 := by omega
  rw [e1]
  simp only [sc, e2]
  by_cases hlt : cand l W (CF l W) i (e + 1) < (sc l W (CF l W) i (e - i)).1
  · rw [if_pos hlt] at hr3 hr4
    rw [if_pos hlt]
    refine ⟨_, _, hr3, hr4, by rw [List.length_set]; exact hXl, by rw [List.length_set]; exact hYl, fun k hk => ?_, ?_, fun _ => ?_⟩
    · rw [List.getElem?_set_ne (Ne.symm hk), List.getElem?_set_ne (Ne.symm hk)]
      exact hoth k hk
    · exact List.getElem?_set_self (by omega)
    · exact List.getElem?_set_self (by omega)
  · rw [if_neg hlt] at hr3 hr4
    rw [if_neg hlt]
    refine ⟨_, _, hr3, hr4, hXl, hYl, hoth, hXi, fun _ => ?_⟩
    rcases Nat.lt_or_ge i e with h7 | h7
    · exact hYi h7
    · exfalso
      obtain rfl : i = e := by omega
      rw [Nat.sub_self] at hlt
      have := cand_bound hF (B := 24080000) (T := CF l W) (by omega) (show i < i + 1 by omega) (by omega) hi hCF.1 hCF.2
      exact hlt (by show _ < (9223372036854775807 : Int); omega)
end Go.Proofs.YtjhdamjbljafhaaGreatDoor
namespace Go.Proofs.YtjhdamjbljafhaaGreatDoor
open Go.RowKit
attribute [local go_sem ↓] Go.wp_at_zero Go.wp_at_succ
structure Made (w : World) (n : Nat) (s7 s8 : Value) (wx : World) (b7 b8 Bc Bn : Nat) : Prop where
  e7 : s7 = .pointer (some ⟨b7, 0, none⟩)
  e8 : s8 = .pointer (some ⟨b8, 0, none⟩)
  h7 : HasS wx b7 (.slice (some ⟨Bc, 0, none⟩) (n + 1) (n + 1)) 40
  h8 : HasS wx b8 (.slice (some ⟨Bn, 0, none⟩) (n + 1) (n + 1)) 40
  hx : HasL wx Bc (List.replicate (n + 1) 0)
  hy : HasL wx Bn (List.replicate (n + 1) 0)
  ne : Bc ≠ Bn
  n7 : b7 ≠ Bc ∧ b7 ≠ Bn
  n8 : b8 ≠ Bc ∧ b8 ≠ Bn
  l7 : w.heap.size + 2 ≤ b7
  l8 : w.heap.size + 2 ≤ b8
  lc : w.heap.size + 2 ≤ Bc
  ln : w.heap.size + 2 ≤ Bn
structure Boxes5 (w : World) (A : Option Addr) (c n : Nat) (W : Int) (wr : World) (b7 b8 Bc Bn : Nat) : Prop where
  ext : Ext w wr
  hW : Has1 wr w.heap.size W
  hL : HasS wr (w.heap.size + 1) (.slice A n c) 34
  h7 : HasS wr b7 (.slice (some ⟨Bc, 0, none⟩) (n + 1) (n + 1)) 40
  h8 : HasS wr b8 (.slice (some ⟨Bn, 0, none⟩) (n + 1) (n + 1)) 40
def RowsAt (l : List ByteArray) (W : Int) (i : Nat) (wr : World) (Bc Bn : Nat) : Prop :=
  ∃ xs ys, HasL wr Bc xs ∧ HasL wr Bn ys ∧ xs.length = l.length + 1 ∧ ys.length = l.length + 1 ∧ (∀ e, i ≤ e → e ≤ l.length → xs[e]? = some (CF l W e)) ∧ (∀ e, i ≤ e → e < l.length → ys[e]? = some (NF l W e : Int))
theorem row_round (A : Option Addr) (c : Nat) (l : List ByteArray) (W : Int) (i b7 b8 Bc Bn : Nat) (w wr : World) (hs : Sl strEl w A l) (hF : Fit W l) (hi : i < l.length) (hB : Boxes5 w A c l.length W wr b7 b8 Bc Bn) (hR : RowsAt l W (i + 1) wr Bc Bn)
    (hn : Bc ≠ Bn ∧ (b7 ≠ Bc ∧ b7 ≠ Bn) ∧ (b8 ≠ Bc ∧ b8 ≠ Bn)) (hlc : w.heap.size + 2 ≤ Bc) (hln : w.heap.size + 2 ≤ Bn) :
    Calls Tryz.prog 140 #[.int .i64 W, .int .i64 (i : Nat), .slice A l.length c, .func (.func 141) #[] #[.pointer (some ⟨w.heap.size, 0, none⟩), .pointer (some ⟨b7, 0, none⟩), .pointer (some ⟨w.heap.size + 1, 0, none⟩), .pointer (some ⟨wr.heap.size, 0, none⟩), .pointer (some ⟨b8, 0, none⟩)]]
      ((wr.setCell ⟨Bc, i, none⟩ (.int .i64 9223372036854775807)).alloc (.cells #[.int .i64 (i : Nat)] 3)) fun r w' => r = .returned (.tuple #[]) ∧ RowsAt l W i w' Bc Bn ∧ Boxes5 w A c l.length W w' b7 b8 Bc Bn := by
  obtain ⟨xs, ys, hX, hY, hXl, hYl, hXe, hYe⟩ := hR
  obtain ⟨hn0, hn7, hn8⟩ := hn
  have z1 := hX.lt
  have z2 := hY.lt
  obtain ⟨w3, h3⟩ : ∃ w3, wr.setCell ⟨Bc, i, none⟩ (.int .i64 9223372036854775807) = w3 := ⟨_, rfl⟩
  have hbes : Bes2 Bc Bn wr w3 := h3 ▸ (Bes2.refl Bc Bn wr).put (.inl rfl) i (.int .i64 9223372036854775807)
  have hX3 : HasL w3 Bc (xs.set i 9223372036854775807) := h3 ▸ hX.set i 9223372036854775807
  have hs3 : w3.heap.size = wr.heap.size := by rw [← h3]; simp
  have hY3 : HasL w3 Bn ys := by rw [← h3]; exact (heap_setCell_other _ _ _ _ (Ne.symm hn0)).trans hY
  rw [h3, ← hs3]
  obtain ⟨w4, h4⟩ : ∃ w4, w3.alloc (.cells #[.int .i64 (i : Nat)] 3) = w4 := ⟨_, rfl⟩
  have hx4 : Ext w3 w4 := h4 ▸ (Ext.refl w3).alloc _
  have hb4 : Bes2 Bc Bn wr w4 := hbes.trans ⟨hx4.os, hx4.tape, hx4.output, hx4.size, fun k hk _ _ => hx4.block hk⟩
  have hF4 : Has1 w4 w3.heap.size i := by rw [← h4]; exact heap_alloc_new w3 _
  have hX4 : HasL w4 Bc (xs.set i 9223372036854775807) := (hx4.block hX3.lt).trans hX3
  have hY4 : HasL w4 Bn ys := (hx4.block hY3.lt).trans hY3
  rw [h4]
  have hk : ∀ b o, b ≠ Bc → b ≠ Bn → wr.heap[b]? = some o → w4.heap[b]? = some o := fun b o h1 h2 h => (hb4.block b (lt_of_block h) h1 h2).trans h
  have hfive : Five w4 A c l.length W i w.heap.size b7 (w.heap.size + 1) w3.heap.size b8 Bc Bn :=
    ⟨hk _ _ (by omega) (by omega) hB.hW, hk _ _ hn7.1 hn7.2 hB.h7, hk _ _ (by omega) (by omega) hB.hL, hF4, hk _ _ hn8.1 hn8.2 hB.h8, hn0, ⟨by omega, by omega⟩, hn7, ⟨by omega, by omega⟩, ⟨by omega, by omega⟩, hn8⟩
  have hxw : Ext w w4 := hb4.toExt hB.ext (by omega) (by omega)
  refine (row_any A c l W i _ ys w.heap.size b7 (w.heap.size + 1) w3.heap.size b8 Bc Bn 0 w4 w hs hxw (by omega) (by omega) hF hi hfive hX4 hY4 (by rw [List.length_set]; exact hXl) hYl (List.getElem?_set_self (by omega)) (fun e h1 h2 => by
    rw [List.getElem?_set_ne (by omega)]
    exact hXe e (by omega) h2)).mono fun r w5 ⟨hr1, hrow⟩ => ⟨hr1, ?_, ?_⟩
  · obtain ⟨xs5, ys5, a1, a2, a3, a4, a5, a6, a7⟩ := hrow.rows
    have hrow := CN_row (W := W) hi
    refine ⟨xs5, ys5, a1, a2, a3, a4, fun e h1 h2 => ?_, fun e h1 h2 => ?_⟩
    · rcases Nat.lt_or_ge i e with h | h
      · rw [(a5 e (by omega)).1, List.getElem?_set_ne (by omega)]
        exact hXe e (by omega) h2
      · obtain rfl : i = e := by omega
        rw [a6, ← hrow]
        rfl
    · rcases Nat.lt_or_ge i e with h | h
      · rw [(a5 e (by omega)).2]
        exact hYe e (by omega) h2
      · obtain rfl : i = e := by omega
        rw [a7 (hF.lt hi), ← hrow]
        rfl
  · have hf5 := hfive.bes hrow.bes
    exact ⟨hrow.bes.toExt hxw (by omega) (by omega), hf5.h1, hf5.h3, hf5.h2, hf5.h5⟩
theorem brk_step {w wq w3 : World} {v v' : Value} {xs : List Int} {o : Obj} {Bn b8 n c : Nat} {A : Option Addr} {ys : List Int} {S : Value} (hx : Ext w wq) (hown : Own intEl w.heap.size wq v xs) (hob : v.ownBlock ≠ some Bn ∧ v.ownBlock ≠ some b8 ∧ v.ownBlock ≠ some (w.heap.size + 1))
    (hq : HasL wq Bn ys ∧ HasS wq b8 S 40 ∧ HasS wq (w.heap.size + 1) (.slice A n c) 34) (hg : (wq.alloc o).grownBy w3 v.ownBlock) (hloc : v'.ownBlock = v.ownBlock ∨ v'.ownBlock = some (wq.alloc o).heap.size) :
    (v'.ownBlock ≠ some Bn ∧ v'.ownBlock ≠ some b8 ∧ v'.ownBlock ≠ some (w.heap.size + 1)) ∧ Ext w w3 ∧ HasL w3 Bn ys ∧ HasS w3 b8 S 40 ∧ HasS w3 (w.heap.size + 1) (.slice A n c) 34 := by
  obtain ⟨q1, q2, q3⟩ := hq
  obtain ⟨o1, o2, o3⟩ := hob
  have z1 := q1.lt
  have z2 := lt_of_block q2
  have z3 := lt_of_block q3
  have hx1 : Ext wq (wq.alloc o) := (Ext.refl wq).alloc o
  have hs : (wq.alloc o).heap.size = wq.heap.size + 1 := by simp
  have hk : ∀ k ob, v.ownBlock ≠ some k → wq.heap[k]? = some ob → w3.heap[k]? = some ob := fun k ob h1 h2 =>
    (hg.block k (by rw [hs]; have := lt_of_block h2; omega) (fun h => h1 h.symm)).trans ((hx1.block (lt_of_block h2)).trans h2)
  refine ⟨?_, ⟨hg.os.trans (hx1.os.trans hx.os), hg.tape.trans (hx1.tape.trans hx.tape), hg.output.trans (hx1.output.trans hx.output), Nat.le_trans hx.size (Nat.le_trans hx1.size hg.size), fun k hk2 => ?_⟩, hk _ _ o1 q1, hk _ _ o2 q2, hk _ _ o3 q3⟩
  · rcases hloc with h | h
    · rw [h]; exact ⟨o1, o2, o3⟩
    · rw [h, hs]
      refine ⟨fun h => ?_, fun h => ?_, fun h => ?_⟩ <;> (injection h with h; omega)
  · have hz := hx.size
    refine (hg.block k (by rw [hs]; omega) (fun h => ?_)).trans ((hx1.block (by omega)).trans (hx.block hk2))
    have := (hown.lt k h.symm).1
    omega
theorem blk_new (w : World) (o : Obj) (k : Nat) (hk : k = w.heap.size) : (w.alloc o).heap[k]? = some o := by rw [hk]; exact heap_alloc_new w o
theorem blk_old {w : World} {o o' : Obj} {k : Nat} (h : w.heap[k]? = some o') : (w.alloc o).heap[k]? = some o' := (((Ext.refl w).alloc o).block (lt_of_block h)).trans h
theorem blk_drew {w : World} {o : Obj} {k : Nat} (h : w.heap[k]? = some o) : w.drew.heap[k]? = some o := h
theorem madeCells_ints (m : Nat) : madeCells #[Value.int .i64 0] m = ((List.replicate m 0).map (Value.int .i64)).toArray := by
  apply Array.ext'
  simp only [madeCells, Array.toList_map, Array.toList_range, List.map_replicate]
  rw [List.eq_replicate_iff]
  exact ⟨by simp, fun b hb => by obtain ⟨x, _, rfl⟩ := List.mem_map.1 hb; simp [Nat.mod_one]⟩
theorem hasL_of {w : World} {B m : Nat} (h : w.heap[B]? = some (.cells (madeCells #[.int .i64 0] m) 3 (0, 0))) : HasL w B (List.replicate m 0) := by
  rw [madeCells_ints] at h
  exact h
set_option maxRecDepth 100000 in
set_option maxHeartbeats 1600000 in
theorem break_yes (A : Option Addr) (c : Nat) (l : List ByteArray) (W : Int) (w : World) (hs : Sl strEl w A l) (hb : briefP l 602) (h : wrongF W l = 0) :
    Calls Tryz.prog 100 #[.int .i64 W, .slice A l.length c] w (RetEnds w (bLines l W) 0) := by
  have hF := fit_of h hb
  have hl := hb.1
  have hmk := run_make_row' (P := Tryz.prog) 40 3 (.int .i64 0) 8 Tryz.underlying40 (by kernel_rfl) rfl .i64 .i64 (l.length + 1) (by omega) (by omega)
  have hw := wrong_any A c l W _ (hs.ext (((Ext.refl w).alloc (.cells #[.int .i64 W] 3)).alloc (.cells #[.slice A l.length c] 34))) (by omega)
  rw [h] at hw
  have Hw := Lib.hid hw
  have HF := Lib.hid hF
  have Hs := Lib.hid hs
  clear hw h hF hb hs
  go_enter Tryz.func100, Tryz.ntmps100
  go_wp2_with fail
  refine (Hw.out).mono ?_
  rintro e w1 ⟨rfl, hx1⟩
  have hz1 : w.heap.size + 2 ≤ w1.heap.size := by have := hx1.size; simpa using this
  have hw1 : IntKind.i64.wrap ((l.length : Int) + 1) = ((l.length + 1 : Nat) : Int) := IntWalk.i64_in _ (by omega)
  have hmk1 : ∀ W : World, (Instr.makeSlice 40 (.int .i64 (IntKind.i64.wrap ((l.length : Int) + 1))) (.int .i64 (IntKind.i64.wrap ((l.length : Int) + 1)))).run Tryz.prog W = .ok (.slice (some ⟨W.heap.size, 0, none⟩) (l.length + 1) (l.length + 1)) (W.alloc (.cells (madeCells #[.int .i64 0] (l.length + 1)) 3)) := fun W => by rw [hw1]; exact hmk W
  have hmk2 : ∀ W : World, (Instr.makeSlice 40 (.int .i64 ((l.length : Int) + 1)) (.int .i64 ((l.length : Int) + 1))).run Tryz.prog W = .ok (.slice (some ⟨W.heap.size, 0, none⟩) (l.length + 1) (l.length + 1)) (W.alloc (.cells (madeCells #[.int .i64 0] (l.length + 1)) 3)) := fun W => hmk W
  clear hmk hw1
  have hW1 : Has1 w1 w.heap.size W := (hx1.block (by simp; omega)).trans (blk_old (heap_alloc_new _ _))
  have hL1 : HasS w1 (w.heap.size + 1) (.slice A l.length c) 34 := (hx1.block (by simp)).trans (blk_new _ _ _ (by simp))
  have HW1 := Lib.hid hW1
  have HL1 := Lib.hid hL1
  have hxw : Ext w w1 := (((Ext.refl w).alloc _).alloc _).trans hx1
  have c2 : w1.cell? ⟨w.heap.size, 0, none⟩ = some (.int .i64 W) := cell_of_one hW1
  have c3 : w1.cell? ⟨w.heap.size + 1, 0, none⟩ = some (.slice A l.length c) := cell_of_one hL1
  clear hW1 hL1 hx1
  have hq0 : w1.heap.size ≠ w.heap.size := by omega
  have hq1 : w1.heap.size + 1 ≠ w.heap.size := by omega
  have hq2 : w1.heap.size + 2 ≠ w.heap.size := by omega
  have hne1 := World.new_ne w1 _ c3
  go_upto_region 4 with fail
  go_cut [7, 8] (fun s7 s8 wx => ∃ b7 b8 Bc Bn, Made w l.length s7 s8 wx b7 b8 Bc Bn ∧ Ext w1 wx)
  case first =>
    go_region_held3 (fun w' => w'.cell? ⟨w.heap.size + 1, 0, none⟩ = some (.slice A l.length c)) (simp (config := { maxDischargeDepth := 20 }) [*, World.cell?_alloc_some, World.cell?_setCell_far]) (fail)
    all_goals (go_wp2_with fail; go_meet; exact ⟨_, _, _, _, Made.mk rfl rfl (blk_drew (by repeat (first | (refine blk_new _ _ _ ?_; simp; done) | refine blk_old ?_))) (blk_drew (by repeat (first | (refine blk_new _ _ _ ?_; simp; done) | refine blk_old ?_))) (hasL_of (blk_drew (by repeat (first | (refine blk_new _ _ _ ?_; simp; done) | refine blk_old ?_)))) (hasL_of (blk_drew (by repeat (first | (refine blk_new _ _ _ ?_; simp; done) | refine blk_old ?_)))) (by omega) (by omega) (by omega) (by omega) (by omega) (by omega) (by omega), (((((Ext.refl w1).alloc _).alloc _).alloc _).alloc _).drew⟩)
  case rest =>
    obtain ⟨b7, b8, Bc, Bn, hM, hxm⟩ := hcut
    obtain ⟨rfl, rfl, h7, h8, hx, hy, hne, hn7, hn8, hl7, hl8, hlc, hln⟩ := hM
    have hxc := hxw.trans hxm
    have hWc : Has1 wc w.heap.size W := (hxm.block (lt_of_block HW1.out)).trans HW1.out
    have hLc : HasS wc (w.heap.size + 1) (.slice A l.length c) 34 := (hxm.block (lt_of_block HL1.out)).trans HL1.out
    have cc3 : wc.cell? ⟨w.heap.size + 1, 0, none⟩ = some (.slice A l.length c) := cell_of_one hLc
    have HM := Lib.hid (⟨hxc, hWc, hLc, h7, h8⟩ : Boxes5 w A c l.length W wc b7 b8 Bc Bn)
    have HX := Lib.hid hx
    have HY := Lib.hid hy
    have hb0 := HF.out.brief.1
    have Hn := Lib.hid (⟨hne, hn7, hn8⟩ : Bc ≠ Bn ∧ (b7 ≠ Bc ∧ b7 ≠ Bn) ∧ (b8 ≠ Bc ∧ b8 ≠ Bn))
    clear hxc hWc hLc h7 h8 hx hy hne hn7 hn8 hmk1 hmk2 c2 c3 HW1 HL1 hxw hxm hq0 hq1 hq2 hne1 Hw hz1
    go_wp2
    go_loopw [9, 10, 29] (fun _ _ v wr => ∃ m, m ≤ l.length ∧ v = .int .i64 (m : Nat) ∧ Hid (RowsAt l W (l.length - m) wr Bc Bn) ∧ Hid (Boxes5 w A c l.length W wr b7 b8 Bc Bn)) (fun _ _ v _ => l.length - (intOf v).toNat)
    case atStart =>
      refine ⟨0, by omega, rfl, Lib.hid ⟨_, _, HX.out, HY.out, by simp, by simp, fun e h1 h2 => ?_, fun e h1 h2 => by omega⟩, HM⟩
      obtain rfl : e = l.length := by omega
      rw [CF_end, List.getElem?_replicate, if_pos (by omega)]
    case round =>
      obtain ⟨m, hm, rfl, HR, HB⟩ := hrel
      obtain ⟨hn0, hn7, hn8⟩ := Hn.out
      have k7 : wr.cell? ⟨b7, 0, none⟩ = some (.slice (some ⟨Bc, 0, none⟩) (l.length + 1) (l.length + 1)) := cell_of_one HB.out.h7
      have k8 : wr.cell? ⟨b8, 0, none⟩ = some (.slice (some ⟨Bn, 0, none⟩) (l.length + 1) (l.length + 1)) := cell_of_one HB.out.h8
      have k2 : wr.cell? ⟨w.heap.size, 0, none⟩ = some (.int .i64 W) := cell_of_one HB.out.hW
      have k3 : wr.cell? ⟨w.heap.size + 1, 0, none⟩ = some (.slice A l.length c) := cell_of_one HB.out.hL
      by_cases hlt : m < l.length
      · obtain ⟨i, hi⟩ : ∃ i, l.length = m + 1 + i := ⟨l.length - (m + 1), by omega⟩
        have hfr : (l.length : Int) - 1 - (m : Int) = (i : Int) := by omega
        obtain ⟨xs, ys, hX, hY, hXl, hYl, hXe, hYe⟩ := HR.out
        have f1 : wr.frozen? ⟨Bc, i, none⟩ = false := hX.free i
        obtain ⟨x0, hx0⟩ : ∃ x0, xs[i]? = some x0 := ⟨xs[i]'(by omega), List.getElem?_eq_getElem (by omega)⟩
        have f2 : wr.cell? ⟨Bc, i, none⟩ = some (.int .i64 x0) := hX.cell hx0
        have z1 := hX.lt
        have z2 := hY.lt
        have z7 := lt_of_block HB.out.h7
        have z8 := lt_of_block HB.out.h8
        have zW := lt_of_block HB.out.hW
        have zL := lt_of_block HB.out.hL
        have b1 : ((i : Int) < ((l.length : Int) + 1)) := by omega
        have d1 : decide ((m : Int) < (l.length : Int)) = true := decide_eq_true (by omega)
        have hil : i < l.length := by omega
        have hr := Lib.hid (row_round A c l W i b7 b8 Bc Bn w wr Hs.out HF.out hil HB.out (by rw [← show l.length - m = i + 1 by omega]; exact HR.out) Hn.out hlc hln)
        clear hi hX hY hXe hYe
        go_wp2_with fail
        refine (hr.out).mono ?_
        rintro r w5 ⟨rfl, hR5, hB5⟩
        have HR5 := Lib.hid hR5
        have HB5 := Lib.hid hB5
        clear hR5 hB5
        go_wp2
        go_roundw
        case rel => exact ⟨m + 1, by omega, by go_num, Lib.hid (by rw [show l.length - (m + 1) = i by omega]; exact HR5.out), HB5⟩
        case measure => simp [intOf]; omega
      · obtain rfl : m = l.length := by omega
        obtain ⟨xs, ys, -, hY, -, hYl, -, hYe⟩ := HR.out
        have HY2 := Lib.hid (⟨hY, HB.out.h8, HB.out.hL⟩ : HasL wr Bn ys ∧ HasS wr b8 (.slice (some ⟨Bn, 0, none⟩) (l.length + 1) (l.length + 1)) 40 ∧ HasS wr (w.heap.size + 1) (.slice A l.length c) 34)
        have HYe : Hid (∀ e, e < l.length → ys[e]? = some (NF l W e : Int)) := Lib.hid fun e h => hYe e (by omega) h
        have Hx2 := Lib.hid HB.out.ext
        have Hlt := Lib.hid (⟨hY.lt, lt_of_block HB.out.h8, lt_of_block HB.out.hL⟩ : Bn < wr.heap.size ∧ b8 < wr.heap.size ∧ w.heap.size + 1 < wr.heap.size)
        clear hY hYe
        go_wp2
        go_loopw [11, 12] (fun v p wq => ∃ (a f : Nat) (xs : List Int), a ≤ l.length ∧ p = .int .i64 (a : Nat) ∧ Hid (Own intEl w.heap.size wq v xs) ∧ Hid (v.ownBlock ≠ some Bn ∧ v.ownBlock ≠ some b8 ∧ v.ownBlock ≠ some (w.heap.size + 1)) ∧ Hid (Ext w wq) ∧
          Hid (HasL wq Bn ys ∧ HasS wq b8 (.slice (some ⟨Bn, 0, none⟩) (l.length + 1) (l.length + 1)) 40 ∧ HasS wq (w.heap.size + 1) (.slice A l.length c) 34) ∧ l.length ≤ a + f ∧ Hid (bLines l W = xs ++ bEndsF l W f a)) (fun _ p _ => l.length - (intOf p).toNat)
        case atStart => exact ⟨0, l.length, [], by omega, rfl, Lib.hid (Own.nil _), Lib.hid (by simp [Value.ownBlock]), Hx2, HY2, by omega, Lib.hid rfl⟩
        case round =>
          obtain ⟨a, f, xs, ha, rfl, Hown, Hob, Hext, Hq, hf, Heq⟩ := hrel
          obtain ⟨q1, q2, q3⟩ := Hq.out
          have c8 := cell_of_one q2
          have c3 := cell_of_one q3
          by_cases hlt : a < l.length
          · have hgl := NF_lt HF.out hlt
            have hgn := (gF_is W (show a ≤ l.length by omega)).le
            have hc5 := q1.cell (HYe.out a hlt)
            obtain ⟨f', rfl⟩ : ∃ f', f = f' + 1 := ⟨f - 1, by omega⟩
            have heq2 := Heq.out
            rw [bEndsF, if_pos hlt] at heq2
            obtain ⟨g, hg⟩ : ∃ g, NF l W a = g := ⟨_, rfl⟩
            rw [hg] at hgl hc5 heq2
            have Heq2 := Lib.hid heq2
            have d1 : decide ((a : Int) < (l.length : Int)) = true := decide_eq_true (by omega)
            have b1 : ((a : Int) < ((l.length : Int) + 1)) := by omega
            have hlen : xs.length + 1 ≤ 68719476736 := by
              have h1 := congrArg List.length Heq2.out
              have h2 := bEndsF_len HF.out l.length 0 (Nat.zero_le _)
              unfold bLines at h1
              rw [List.length_append, List.length_cons] at h1
              omega
            have hgl2 : g ≤ l.length := by omega
            have hgl1 := hgl.1
            have zq := Hext.out.size
            clear hg heq2 Heq hgl q1 q2 q3
            go_wp2_with (at_builtin; refine wpList_appAt intEl rfl _ _ rfl 1 rfl (Hown.out.ext ((Ext.refl _).alloc _)) (ys := [(g : Int)]) rfl (Sl.new intEl rfl) hlen (by simp; omega) ?_; intro v' w3 hown3 hg3 hloc; have Hown3 := Lib.hid hown3; have Hg3 := Lib.hid hg3; have Hloc := Lib.hid hloc; clear hown3 hg3 hloc)
            go_roundw
            case rel =>
              have hstep := brk_step Hext.out Hown.out Hob.out Hq.out Hg3.out Hloc.out
              exact ⟨g, f', xs ++ [(g : Int)], hgl2, rfl, Hown3, Lib.hid hstep.1, Lib.hid hstep.2.1, Lib.hid hstep.2.2, by omega, Lib.hid (by rw [Heq2.out, List.append_assoc]; rfl)⟩
            case measure => simp [intOf]; omega
          · have Hfin := Lib.hid (show bLines l W = xs by rw [Heq.out, bEndsF_end (by omega), List.append_nil])
            have d1 : decide ((a : Int) < (l.length : Int)) = false := decide_eq_false (by omega)
            go_wp2
            go_ret2
            exact ⟨_, rfl, by rw [Hfin.out]; exact Hown.out, Hext.out⟩
end Go.Proofs.YtjhdamjbljafhaaGreatDoor
namespace Go.Proofs.YtjhdamjbljafhaaGreatDoor
open Go.RowKit
def linesU (u : GUnit) (W : Int) : List ByteArray := linesR (rowF u) (bLines (rowF u) W)
def endsU (u : GUnit) (W : Int) : List Int := bLines (rowF u) W
theorem rowF_brief {u : GUnit} (hok : OkU u) : briefP (rowF u) 602 := by
  obtain ⟨o1, o2, o3, o4, o5, o6⟩ := hok.all.head
  refine ⟨by rw [rowF_len]; omega, fun s hs => ?_⟩
  simp only [rowF, List.mem_cons, List.mem_map, List.mem_append] at hs
  rcases hs with rfl | rfl | ⟨x, hx | hx, rfl⟩
  · have := kindS_size u.kind; omega
  · omega
  · have := o5 x hx; omega
  · have := o6 x hx; omega
set_option maxRecDepth 100000 in
set_option maxHeartbeats 1600000 in
theorem broken_any (u : GUnit) (r : RUnit) (W : Int) (w : World) (hr : Reads w u r) (hok : OkU u) (hT : Tabs w) (hW : wrongF W (rowF u) = 0) (hlen : (endsU u W).length ≤ 602) :
    Calls Tryz.prog 62 #[.agg r.cells.toArray, .int .i64 W] w fun e w' => ∃ v1 v2, e = .returned (.tuple #[v1, v2]) ∧ Own strEl w.heap.size w' v1 (linesU u W) ∧ Own intEl w.heap.size w' v2 (endsU u W) ∧ Ext w w' := by
  have hbr := rowF_brief hok
  have Hrow := Lib.hid (fun wq (he : Ext w wq) => rowU_any u r wq (Reads.ext he u r hr) hok (hT.ext he))
  unfold linesU
  unfold endsU at hlen ⊢
  obtain ⟨l, hl⟩ : ∃ l, rowF u = l := ⟨_, rfl⟩
  rw [hl] at hbr hW Hrow hlen ⊢
  have hx0 : Ext w (w.alloc (.cells r.cells.toArray 27)) := (Ext.refl w).alloc _
  have Hbk := Lib.hid (fun A c wq (hs : Sl strEl wq A l) => break_yes A c l W wq hs hbr hW)
  obtain ⟨E, hE⟩ : ∃ E, bLines l W = E := ⟨_, rfl⟩
  rw [hE] at Hbk hlen ⊢
  have Hln := Lib.hid (fun A B ec c wq (hs : Sl strEl wq A l) (hc : l.length ≤ c) (he : Sl intEl wq B E) => lines_any B A ec c l E wq hs hc he (by omega) hbr)
  obtain ⟨L, hL⟩ : ∃ L, linesR l E = L := ⟨_, rfl⟩
  rw [hL] at Hln ⊢
  obtain ⟨ra, ri, rn, rk, rl, hdA, hn, hc, wA, wn, wc, kA, kn, kc⟩ := r
  simp only [RUnit.cells] at hx0 Hrow ⊢
  obtain ⟨wb, hwb⟩ : ∃ wb, w.alloc (.cells #[.int .i64 ra, .int .i64 ri, .int .i64 rn, .int .i64 rk, .string rl, .slice hdA hn hc, .slice wA wn wc, .slice kA kn kc] 27) = wb := ⟨_, rfl⟩
  rw [hwb] at hx0
  have Hwb := Lib.hid hwb
  have Hx0 := Lib.hid hx0
  have H1 := Lib.hid (Hrow.out wb hx0)
  clear hL hE hl hbr hW Hrow hr hok hT hwb hx0
  go_enter Tryz.func62, Tryz.ntmps62
  go_wp2_with fail
  rw [Hwb.out]
  refine (H1.out).mono ?_
  rintro e w1 ⟨v1, rfl, hown1, hx1⟩
  obtain ⟨A1, c1, rfl, hc1, hs1⟩ := hown1.form
  have H2 := Lib.hid (Hbk.out A1 c1 w1 hs1)
  have Hs1 := Lib.hid hs1
  have Hx1 := Lib.hid hx1
  clear hown1 hs1 hx1 H1 Hbk
  go_wp2_with fail
  refine (H2.out).mono ?_
  rintro e w2 ⟨v2, rfl, hown2, hx2⟩
  obtain ⟨A2, c2, rfl, hc2, hs2⟩ := hown2.form
  have H3 := Lib.hid (Hln.out A1 A2 c2 c1 w2 (Hs1.out.ext hx2) hc1 hs2)
  have Ho2 := Lib.hid hown2
  have Hx2 := Lib.hid hx2
  clear hown2 hs2 hx2 H2 Hln
  go_wp2_with fail
  refine (H3.out).mono ?_
  rintro e w3 ⟨v3, rfl, hown3, hx3⟩
  have Ho3 := Lib.hid hown3
  have Hx3 := Lib.hid hx3
  have z0 := Hx0.out.size
  have z1 := Hx1.out.size
  have z2 := Hx2.out.size
  clear hown3 hx3
  go_wp2
  go_ret2
  exact ⟨_, _, rfl, Ho3.out.mono (by omega), (Ho2.out.ext Hx3.out).mono (by omega), ((Hx0.out.trans Hx1.out).trans Hx2.out).trans Hx3.out⟩
end Go.Proofs.YtjhdamjbljafhaaGreatDoor
namespace Go.Proofs.YtjhdamjbljafhaaGreatDoor
open Go.RowKit
def fitL (l : List ByteArray) (W : Int) : Nat → List Int → Prop
  | _, [] => True
  | a, e :: es => lenF l a e.toNat ≤ W ∧ fitL l W e.toNat es
def tc (l : List ByteArray) (W : Int) : Nat → List Int → Int
  | _, [] => 0
  | a, e :: es => (if e < (l.length : Int) then (W - lenF l a e.toNat) * (W - lenF l a e.toNat) else 0) + tc l W e.toNat es
structure Val (l : List ByteArray) (W : Int) (a : Nat) (es : List Int) : Prop where
  ends : endsB (l.length : Int) a es = true
  fit : fitL l W a es
theorem Val.nil_of {l : List ByteArray} {W : Int} {a : Nat} (h : Val l W a []) : a = l.length := by
  have := h.ends
  simp only [endsB, decide_eq_true_eq] at this
  omega
theorem Val.cons {l : List ByteArray} {W : Int} {a : Nat} {e : Int} {es : List Int} (h : Val l W a (e :: es)) : ∃ g : Nat, e = (g : Int) ∧ a < g ∧ g ≤ l.length ∧ lenF l a g ≤ W ∧ Val l W g es := by
  obtain ⟨h1, h2, h3⟩ := endsB_step h.ends
  obtain ⟨h4, h5⟩ := h.fit
  refine ⟨e.toNat, by omega, by omega, by omega, h4, ?_, h5⟩
  rw [show ((e.toNat : Nat) : Int) = e by omega]
  exact h3
theorem Val.mk_cons {l : List ByteArray} {W : Int} {a g : Nat} {es : List Int} (h1 : a < g) (h2 : g ≤ l.length) (h3 : lenF l a g ≤ W) (h : Val l W g es) : Val l W a ((g : Int) :: es) := by
  refine ⟨?_, ?_, ?_⟩
  · simp only [endsB, Bool.and_eq_true, decide_eq_true_eq]
    exact ⟨⟨by omega, by omega⟩, h.ends⟩
  · rw [Int.toNat_natCast]; exact h3
  · rw [Int.toNat_natCast]; exact h.fit
theorem bLines_val {l : List ByteArray} {W : Int} (hF : Fit W l) : ∀ (f a : Nat), a ≤ l.length → l.length ≤ a + f → Val l W a (bEndsF l W f a) ∧ tc l W a (bEndsF l W f a) = CF l W a
  | 0, a, h1, h2 => by
    obtain rfl : a = l.length := by omega
    exact ⟨⟨by simp [bEndsF, endsB], trivial⟩, by rw [CF_end]; rfl⟩
  | f + 1, a, h1, h2 => by
    rw [bEndsF]
    split
    · rename_i h
      obtain ⟨n1, n2⟩ := NF_lt hF h
      have hg := gF_is W h1
      have hgl := hg.le
      obtain ⟨h3, h4⟩ := bLines_val hF f (NF l W a) (by omega) (by omega)
      refine ⟨Val.mk_cons n1 (by omega) (hg.fit _ n1 n2) h3, ?_⟩
      have hC : CF l W a = cand l W (CF l W) a (NF l W a) := (CN_least hF h).eq
      rw [tc, Int.toNat_natCast, h4, hC, cand]
      by_cases hn : NF l W a = l.length
      · rw [if_pos hn, if_neg (by omega), hn, CF_end]; rfl
      · rw [if_neg hn, if_pos (by omega)]
    · obtain rfl : a = l.length := by omega
      exact ⟨⟨by simp [endsB], trivial⟩, by rw [CF_end]; rfl⟩
end Go.Proofs.YtjhdamjbljafhaaGreatDoor
