/- The reference's Number: the renumbered tree, built in new memory: the walk. -/
import Derived.Test.YtiacmahfjcolaaaDoorRenum10
namespace Go.Proofs.YtiacmahfjcolaaaDoor
open Go.RowKit Go.Maps

/-- where the reference's Number stands: its box and its result's cell -/
structure RState (w : World) (r : RUnit) (wr : World) : Prop where
  ext : Ext w wr
  b1 : wr.heap[w.heap.size]? = some (.cells r.cells.toArray 27 (0, 0))
  b2 : wr.heap[w.heap.size + 1]? = some (.cells unit0.cells.toArray 27 (0, 0))
  size : w.heap.size + 2 ≤ wr.heap.size
section
variable {w wr w' : World} {r r' : RUnit}
theorem RState.grow (h : RState w r wr) (he : Ext wr w') : RState w r w' := by
  have hs := h.size
  exact ⟨h.ext.trans he, (he.block (by omega)).trans h.b1, (he.block (by omega)).trans h.b2, by have := he.size; omega⟩
theorem RState.put1 (h : RState w r wr) (hw : ∀ k, k ≠ w.heap.size → w'.heap[k]? = wr.heap[k]?) (hos : w'.os = wr.os) (htp : w'.tape = wr.tape) (hou : w'.output = wr.output) (hs : w'.heap.size = wr.heap.size) (hb : w'.heap[w.heap.size]? = some (.cells r'.cells.toArray 27 (0, 0))) : RState w r' w' :=
  ⟨h.ext.put (Nat.le_refl _) hw hos htp hou hs, hb, (hw _ (by omega)).trans h.b2, by rw [hs]; exact h.size⟩
end
/-- a block of the call's own that holds one word: its four cells -/
theorem wordBlock {w : World} {b : Nat} {x : GWord} (h : w.heap[b]? = some (.cells x.cells.toArray 52 (0, 0))) :
    w.cell? ⟨b, 0, none⟩ = some (.string x.t) ∧ w.cell? ⟨b, 1, none⟩ = some (.int .i64 x.a) ∧ w.cell? ⟨b, 2, none⟩ = some (.int .i64 x.i) ∧ w.cell? ⟨b, 3, none⟩ = some (.int .i64 x.k) := by
  simp [World.cell?, h, GWord.cells]
/-- one more element on the call's own row; q: the blocks that no one else reads -/
theorem Own.stepQ {P : Program} {α : Type} {D : El P α} {base : Nat} {wq w2 : World} {v v' : Value} {xs ys : List α} {q : Nat → Bool} (hown : Own D base wq v xs) (hq3 : ∀ j, q j = true → j < wq.heap.size)
    (hqo : ∀ g, v.ownBlock = some g → q g = true) (hg2 : wq.grownBy w2 v.ownBlock) (hloc : v'.ownBlock = v.ownBlock ∨ v'.ownBlock = some wq.heap.size) (hown2 : Own D base w2 v' ys) (hbw : base ≤ wq.heap.size) :
    ∃ q' : Nat → Bool, (∀ j, q j = true → q' j = true) ∧ (∀ j, q' j = true → j < w2.heap.size) ∧ (∀ g, v'.ownBlock = some g → q' g = true) ∧ (∀ j, q' j = true → q j = true ∨ base ≤ j) ∧ CIn (mask q wq) (mask q' w2) ∧ Below base wq w2 := by
  have hsz2 := hg2.size
  refine ⟨fun j => q j || decide (v'.ownBlock = some j), fun j hj => by simp [hj], fun j hj => ?_, fun g hg => by simp [hg], fun j hj => ?_, ?_, ?_⟩
  · simp only [Bool.or_eq_true, decide_eq_true_eq] at hj
    rcases hj with h | h
    · have := hq3 j h; omega
    · exact (hown2.lt j h).2
  · simp only [Bool.or_eq_true, decide_eq_true_eq] at hj
    rcases hj with h | h
    · exact .inl h
    · exact .inr (hown2.lt j h).1
  · refine CIn.keep (by omega) fun k hk hpk => ?_
    have h2 : v.ownBlock ≠ some k := fun h => by rw [hqo k h] at hpk; cases hpk
    refine ⟨hg2.block k hk (fun h => h2 h.symm), ?_⟩
    have h3 : v'.ownBlock ≠ some k := by
      intro h3
      rcases hloc with h | h
      · rw [h] at h3; exact h2 h3
      · rw [h] at h3
        cases h3
        omega
    simp [hpk, h3]
  · refine ⟨hg2.os, hg2.tape, hg2.output, hsz2, fun k hk => ?_⟩
    have h2 : v.ownBlock ≠ some k := fun h => by have := (hown.lt k h).1; omega
    exact hg2.block k (by omega) (fun h => h2 h.symm)
/-- the result reads in new blocks, and in old ones that p leaves lit -/
def RetNumP (p : Nat → Bool) (u' : GUnit) (w : World) (e : Ending) (w' : World) : Prop := ∃ r' : RUnit, e = .returned (.agg r'.cells.toArray) ∧ Ext w w' ∧ Reads (mask p w') u' r'
def RefNumberAt (N : Nat) : Prop := ∀ (u : GUnit) (r : RUnit) (w : World) (p : Nat → Bool), SizeOf.sizeOf u ≤ N → (∀ j, p j = true → j < w.heap.size) → Reads (mask p w) u r → OkT u → checkF u = [] →
    Calls Tryd.prog 26 #[.agg r.cells.toArray] w (RetNumP p (numF u) w)
set_option maxRecDepth 100000 in
set_option maxHeartbeats 6400000 in
theorem refNumber_step (N : Nat) (ih : RefNumberAt N) : RefNumberAt (N + 1) := by
  intro u r w p hN hp hr0 hok hck
  have hru := Reads.cin (CIn.unmask p w) _ _ hr0
  have hr := hr0
  have hshu := hok.short
  have hkok := fun k h => hok.kid k h
  have hkck := fun k h => checkF_kid hck k h
  have hcl := clean_of (checkF_own hck)
  have hanc := fun w' (he : Ext w w') => refAnchors_any u r w' (Reads.ext he _ _ hru) hshu.1 (by have := hshu.2.1; omega)
  obtain ⟨a, i, n, kd, lb, hz, wd, kids⟩ := u
  rw [Reads] at hr
  obtain ⟨⟨hra, hri, hrn, hrk, hrl0⟩, ⟨hhn, hhc, hhs⟩, ⟨hwn, hwc, hws⟩, hkn, hkc, rs, hrs, hall⟩ := hr
  have hrl := ReadsAll.length hall
  have hx0 : Ext w ((w.alloc (.cells r.cells.toArray 27)).alloc (.cells unit0.cells.toArray 27)) := ((Ext.refl w).alloc _).alloc _
  have hst0 : RState w r ((w.alloc (.cells r.cells.toArray 27)).alloc (.cells unit0.cells.toArray 27)) := by
    have e1 : (w.alloc (.cells r.cells.toArray 27)).heap.size = w.heap.size + 1 := by simp
    refine ⟨hx0, ?_, ?_, by simp⟩
    · exact (((Ext.refl (w.alloc (.cells r.cells.toArray 27))).alloc _).block (by rw [e1]; omega)).trans (heap_alloc_new w _)
    · have h1 := heap_alloc_new (w.alloc (.cells r.cells.toArray 27)) (.cells unit0.cells.toArray 27)
      rwa [e1] at h1
  obtain ⟨ra, ri, rn, rk, rl, hdA, hn, hc, wA, wn, wc, kA, kn, kc⟩ := r
  dsimp only at hra hri hrn hrk hrl0 hhn hhc hhs hwn hwc hws hkn hkc hrs hall
  obtain ⟨hsh, hlw, hlk, hlab⟩ := hshu
  simp only [GUnit.words, GUnit.kids] at hsh hlw hlk hlab hkok hkck
  subst hra hri hrn hrk hrl0 hhn hwn
  rw [← hrl] at hkn hlk
  subst hkn
  have hal2 := anchL_len wd
  have hancs : (GUnit.mk ra ri rn rk rl hz wd kids).anchs = anchL wd := rfl
  rw [hancs] at hanc
  have hnd := hcl.nodup
  have hkid := hcl.kid
  rw [hancs] at hnd hkid
  simp only [GUnit.kids] at hkid
  obtain ⟨L, hL⟩ : ∃ L, anchL wd = L := ⟨_, rfl⟩
  rw [hL] at hanc hal2 hnd hkid
  have hlab2 : ∀ T, T ∈ L → ∃ j : Nat, placeI L T = (j : Int) ∧ j ≤ 310 ∧ labF L T = decB (j + 1) := fun T hT => by
    obtain ⟨j, h1, h2⟩ := placeI_mem hT
    exact ⟨j, h1, by omega, by unfold labF; rw [h1, Int.toNat_natCast]⟩
  have Hlb := Lib.hid hlab2
  obtain ⟨R, hR⟩ : ∃ R, numF (.mk ra ri rn rk rl hz wd kids) = R := ⟨_, rfl⟩
  have HR := Lib.hid (show R = .mk ra ri rn rk rl hz (wd.map (renW L)) (numL L kids) by rw [← hR, numF, hL])
  rw [hR]
  simp only [RUnit.cells, unit0] at hx0 hanc ⊢
  obtain ⟨wz, hwz⟩ : ∃ wz, (w.alloc (.cells #[.int .i64 ra, .int .i64 ri, .int .i64 rn, .int .i64 rk, .string rl, .slice hdA hz.length hc, .slice wA wd.length wc, .slice kA rs.length kc] 27)).alloc (.cells #[.int .i64 0, .int .i64 0, .int .i64 0, .int .i64 0, .string ⟨#[]⟩, .slice none 0 0, .slice none 0 0, .slice none 0 0] 27) = wz := ⟨_, rfl⟩
  have hst1 : RState w ⟨ra, ri, rn, rk, rl, hdA, hz.length, hc, wA, wd.length, wc, kA, rs.length, kc⟩ wz := by rw [← hwz]; exact hst0
  rw [hwz] at hx0
  have Hwz := Lib.hid hwz
  have Hst1 := Lib.hid hst1
  have Hanc := Lib.hid (hanc wz hx0)
  have Hsh := Lib.hid hsh
  have Hlab := Lib.hid hlab
  have Hall := Lib.hid hall
  have Hl : Hid (kids.length = rs.length) := Lib.hid hrl.symm
  have Hkok := Lib.hid hkok
  have Hkck := Lib.hid hkck
  have Hkid := Lib.hid hkid
  have Hnd := Lib.hid hnd
  have HL := Lib.hid hL
  have Hih := Lib.hid ih
  have Hhc := Lib.hid hhc
  have Hhs := Lib.hid hhs
  have Hp := Lib.hid hp
  have hwsW := hws.cin (CIn.unmask p w)
  have hrsW := hrs.cin (CIn.unmask p w)
  have Hsub := Lib.hid (show ∀ k, ∀ h : k < kids.length, SizeOf.sizeOf kids[k] ≤ N from fun k h => by
    have a1 := List.sizeOf_lt_of_mem (List.getElem_mem h)
    simp at hN
    omega)
  obtain ⟨z0, z1, z2, z3, z4, z5, z6, z7⟩ := unitBlock hst1.b1
  dsimp only at z0 z1 z2 z3 z4 z5 z6 z7
  clear hst0 hst1 hwz hx0 hanc hru hsh hlab hall hrl hkok hkck hkid hnd hL ih hN hok hck hcl hancs hR hhc hwc hkc hlab2 hhs hr0 hp hws hrs
  go_enter Tryd.func26, Tryd.ntmps26
  go_wp2_with fail
  rw [Hwz.out]
  refine (Hanc.out).mono ?_
  rintro e wa ⟨vL, rfl, hoL, hxL⟩
  have hN0 := Hst1.out.grow hxL
  have hxaz : Hid (w.heap.size + 2 ≤ wa.heap.size) := Lib.hid hN0.size
  obtain ⟨AL, cL, rfl, hcL, hsL⟩ := hoL.form
  clear hoL hxL z0 z1 z2 z3 z4 z5 z6 z7
  go_wp2
  go_loopw [4, 5] (fun vo vk wr => ∃ k : Nat, k ≤ wd.length ∧ vk = .int .i64 (k : Nat) ∧ Own wordEl wa.heap.size wr vo ((wd.take k).map (renW L)) ∧ Ext wa wr) (fun _ vk _ => wd.length - (intOf vk).toNat)
  case atStart => exact ⟨0, Nat.zero_le _, rfl, Own.made wordEl (Nat.le_refl _), (Ext.refl _).alloc _⟩
  case round =>
    obtain ⟨k, hk, rfl, hown, hexta⟩ := hrel
    have hI := hN0.grow hexta
    obtain ⟨z0, z1, z2, z3, z4, z5, z6, z7⟩ := unitBlock hI.b1
    dsimp only at z0 z1 z2 z3 z4 z5 z6 z7
    by_cases hlt : k < wd.length
    · obtain ⟨b, off, rfl, hb, c0, c1, c2, c3⟩ := wordAt (hwsW.ext hI.ext) hlt
      obtain ⟨x, hx⟩ : ∃ x, wd[k] = x := ⟨_, rfl⟩
      have hta : (wd.take (k + 1)).map (renW L) = (wd.take k).map (renW L) ++ [renW L wd[k]] := by rw [List.take_succ_eq_append_getElem hlt, List.map_append]; rfl
      have hxs := Hsh.out wd[k] (List.getElem_mem hlt)
      have hmem := ancT_mem hlt
      rw [HL.out] at hmem
      rw [hx] at c0 c1 c2 c3 hta hxs hmem
      have Hpa := Lib.hid (fun w => anchor_any x.t w (by omega))
      have hrx : renW L x = if ancB x.t = true then ⟨⟨#[94]⟩ ++ labF L (ancT x.t), x.a, x.i, x.k⟩ else x := rfl
      obtain ⟨T, hT⟩ : ∃ T, ancT x.t = T := ⟨_, rfl⟩
      obtain ⟨B, hB⟩ : ∃ B, ancB x.t = B := ⟨_, rfl⟩
      simp only [show RetAnc x.t = fun w e w' => e = .returned (.tuple #[.string (ancT x.t), .bool (ancB x.t)]) ∧ Ext w w' from rfl] at Hpa
      rw [hT, hB] at Hpa hmem
      rw [hT, hB] at hrx
      have hal : ((wd.take k).map (renW L)).length = k := by simp; omega
      obtain ⟨acc, hacc⟩ : ∃ acc, (wd.take k).map (renW L) = acc := ⟨_, rfl⟩
      rw [hacc] at hown hta hal
      have Hal := Lib.hid hal
      have d1 : decide ((k : Int) < (wd.length : Int)) = true := decide_eq_true (by omega)
      have hsz := hexta.size
      clear hx hT hB hacc hxs hal
      go_wp2_with (refine wpList_put rfl 52 (.tmp 6) (.tmp 26) rfl wr.heap.size 0 (.agg x.cells.toArray) rfl rfl x.cells rfl Tryd.sizeOf52 (wordEl.h1 x) 52 _ (heap_alloc_new wr _) (by simp [GWord.cells]) ?_; intro w1 hw1 hos1 htp1 hou1 hs1 hbk1; have hx1 : Ext wr w1 := ((Ext.refl wr).alloc _).put (Nat.le_refl _) hw1 hos1 htp1 hou1 hs1; have hb1 : w1.heap[wr.heap.size]? = some (.cells x.cells.toArray 52 (0, 0)) := hbk1.trans (by simp [GWord.cells]); have hlt1 : wr.heap.size < w1.heap.size := block_lt hb1; clear hw1 hos1 htp1 hou1 hs1 hbk1; obtain ⟨y0, y1, y2, y3⟩ := wordBlock hb1)
      refine (Hpa.out _).mono ?_
      rintro e w2 ⟨rfl, hx2w⟩
      have hb2 := (hx2w.block hlt1).trans hb1
      have hx2 := hx1.trans hx2w
      have hlt2 := block_lt hb2
      clear y0 y1 y2 y3 hb1 z0 z1 z2 z3 z4 z5 z6 z7
      obtain ⟨y0, y1, y2, y3⟩ := wordBlock hb2
      cases B with
      | false =>
        have Hta := Lib.hid (hta.trans (by rw [hrx, if_neg (by simp)]))
        clear hta hrx hmem
        go_wp2_with (at_builtin; refine wpList_app wordEl rfl _ _ rfl 1 rfl ((hown.ext hx2).ext (Ext.alloc (Ext.refl _) _)) (ys := [x]) rfl (Sl.new wordEl rfl) (by rw [Hal.out]; simp; omega) (by have := hx2.size; simp; omega) ?_; intro v' w3 hown' hb3 hg3)
        go_roundw
        case rel => exact ⟨k + 1, by omega, by go_num, by rw [Hta.out]; exact hown', (hexta.trans (hx2.alloc _)).trans' hb3⟩
        case measure => simp [intOf]; omega
      | true =>
        obtain ⟨j, hj1, hj2, hj3⟩ := Hlb.out T (hmem rfl)
        have Hpl := Lib.hid (fun w' hs => place_any AL cL L T w' hs (by omega))
        rw [hj1] at Hpl
        have Hdg := Lib.hid (fun w' => digits_any (j + 1) w' (by omega))
        rw [show ((j + 1 : Nat) : Int) = (j : Int) + 1 by omega, ← hj3] at Hdg
        obtain ⟨W, hW⟩ : ∃ W, labF L T = W := ⟨_, rfl⟩
        have hws8 : W.size ≤ 8 := by rw [← hW, hj3]; exact decB_le (by omega)
        rw [hW] at Hdg hrx
        have Hta := Lib.hid (hta.trans (by rw [hrx, if_pos rfl]))
        clear hta hrx hmem hj1 hj3 hW
        go_wp2_with fail
        refine (Hpl.out _ ((hsL.ext hexta).ext hx2)).mono ?_
        rintro e w2' ⟨rfl, rfl⟩
        go_wp2_with fail
        refine (Hdg.out _).mono ?_
        rintro e w3 ⟨rfl, hx3⟩
        have hb3 := (hx3.block hlt2).trans hb2
        clear y0 y1 y2 y3 hb2
        obtain ⟨y0, y1, y2, y3⟩ := wordBlock hb3
        go_wp2_with (first | (refine wpList_put rfl 9 (.tmp 40) (.tmp 39) rfl wr.heap.size 0 (.string (⟨#[94]⟩ ++ W)) rfl rfl [.string (⟨#[94]⟩ ++ W)] rfl Tryd.sizeOf9 (by simp [Value.oneCell']) 52 _ hb3 (by simp [GWord.cells]) ?_; intro w4 hw4 hos4 htp4 hou4 hs4 hbk4; have hx4 : Ext wr w4 := (hx2.trans hx3).put (Nat.le_refl _) hw4 hos4 htp4 hou4 hs4; have hb4 : w4.heap[wr.heap.size]? = some (.cells (GWord.cells ⟨⟨#[94]⟩ ++ W, x.a, x.i, x.k⟩).toArray 52 (0, 0)) := hbk4.trans (by simp [GWord.cells]); clear hw4 hos4 htp4 hou4 hs4 hbk4 y0 y1 y2 y3; obtain ⟨y0, y1, y2, y3⟩ := wordBlock hb4; dsimp only at y0 y1 y2 y3) |
          (at_builtin; refine wpList_app wordEl rfl _ _ rfl 1 rfl ((hown.ext hx4).ext (Ext.alloc (Ext.refl _) _)) (ys := [⟨⟨#[94]⟩ ++ W, x.a, x.i, x.k⟩]) rfl (Sl.new wordEl rfl) (by rw [Hal.out]; simp; omega) (by have := hx4.size; simp; omega) ?_; intro v' w5 hown' hb5 hg5))
        go_roundw
        case rel => exact ⟨k + 1, by omega, by go_num, by rw [Hta.out]; exact hown', (hexta.trans (hx4.alloc _)).trans' hb5⟩
        case measure => simp [intOf]; omega
    · have hkL : k = wd.length := by omega
      have d1 : decide ((k : Int) < (wd.length : Int)) = false := decide_eq_false (by omega)
      subst hkL
      rw [List.take_length] at hown
      have hsL2 := hsL.ext hexta
      obtain ⟨A2, c2, rfl, hc2, -⟩ := hown.form
      have hml : (wd.map (renW L)).length = wd.length := List.length_map ..
      rw [hml] at hc2
      rw [show Value.slice A2 (wd.map (renW L)).length c2 = .slice A2 wd.length c2 from by rw [hml]] at hown
      rw [hml]
      obtain ⟨wc, rfl⟩ : ∃ wc, wc = wr := ⟨_, rfl⟩
      have HIc := Lib.hid hI
      have HO2 := Lib.hid hown
      have Hml := Lib.hid hml
      clear hI hown hml hsL hexta hN0
      go_wp2
      clear z0 z1 z2 z3 z4 z5 z6 z7 d1
      go_loopw [9, 10] (fun vo vk wr => ∃ (k : Nat) (rr : List RUnit) (q : Nat → Bool), k ≤ kids.length ∧ vk = .int .i64 (k : Nat) ∧ Own unitEl wc.heap.size wr vo rr ∧ Hid (∀ j, (p j = true ∨ j = w.heap.size ∨ j = w.heap.size + 1) → q j = true) ∧ Hid (∀ j, q j = true → j < wr.heap.size) ∧ Hid (∀ g, vo.ownBlock = some g → q g = true) ∧ Hid (∀ j, q j = true → p j = true ∨ w.heap.size ≤ j) ∧ Hid (ReadsAll (mask q wr) (numL L (kids.take k)) rr) ∧ Ext wc wr) (fun _ vk _ => kids.length - (intOf vk).toNat)
      case atStart => exact ⟨0, [], fun j => p j || decide (j = w.heap.size) || decide (j = w.heap.size + 1) || decide (j = wc.heap.size), Nat.zero_le _, rfl, Own.made unitEl (Nat.le_refl _), Lib.hid (fun j hj => by rcases hj with hj | hj | hj <;> simp [hj]), Lib.hid (fun j hj => by
        have hz2 := HIc.out.size
        simp only [Bool.or_eq_true, decide_eq_true_eq] at hj
        have h0 := Hp.out j
        rcases hj with ((hj | hj) | hj) | hj
        · have := h0 hj; simp; omega
        · simp; omega
        · simp; omega
        · simp; omega), Lib.hid (fun g hg => by cases hg; simp), Lib.hid (fun j hj => by
        have hz2 := HIc.out.size
        simp only [Bool.or_eq_true, decide_eq_true_eq] at hj
        rcases hj with ((hj | hj) | hj) | hj
        · exact .inl hj
        · exact .inr (by omega)
        · exact .inr (by omega)
        · exact .inr (by omega)), Lib.hid (by rw [List.take_zero, numL, ReadsAll]; trivial), (Ext.refl _).alloc _⟩
      case round =>
        obtain ⟨k, rr, q, hk, rfl, hown, Hq1, Hq2, Hqo, Hq3, Hrr, hext⟩ := hrel
        have hlr := Hl.out
        have hI := HIc.out.grow hext
        obtain ⟨z0, z1, z2, z3, z4, z5, z6, z7⟩ := unitBlock hI.b1
        dsimp only at z0 z1 z2 z3 z4 z5 z6 z7
        by_cases hlt : k < kids.length
        · have hltr : k < rs.length := by omega
          have hxw : Ext w wr := hI.ext
          have hrec := Hih.out kids[k] rs[k] wr q (Hsub.out k hlt) Hq2.out (Reads.cin (CIn.keepExt hxw (fun j hj hpj => by
            cases hqj : q j with
            | false => rfl
            | true =>
              rcases Hq3.out j hqj with h | h
              · rw [h] at hpj; cases hpj
              · omega)) _ _ (ReadsAll.get Hall.out k hlt hltr)) (Hkok.out k hlt) (Hkck.out k hlt)
          obtain ⟨b, off, rfl, hb, u0, u1, u2, u3, u4, u5, u6, u7⟩ := unitAt (hrsW.ext hxw) hltr
          obtain ⟨r1, hr1⟩ : ∃ r1, rs[k] = r1 := ⟨_, rfl⟩
          rw [hr1] at u0 u1 u2 u3 u4 u5 u6 u7 hrec
          simp only [RUnit.cells] at hrec
          have Hrec := Lib.hid hrec
          have d1 : decide ((k : Int) < (rs.length : Int)) = true := decide_eq_true (by omega)
          clear hrec hr1 hlr
          go_wp2_with fail
          refine (Hrec.out).mono ?_
          rintro e w2 ⟨r2, rfl, hx2, hr2⟩
          have hwr2 := hx2.size
          have hrr := hext.size
          obtain ⟨hkd, hlb⟩ := reads_kl hr2
          rw [(numF_kl _).1] at hkd
          rw [(numF_kl _).2] at hlb
          have hin : r2.kind = 7 → r2.label ∈ L := fun h7 => by rw [hlb]; exact (Hkid.out k hlt (by rw [← hkd]; exact h7)).1
          have hr3 := reads_relab (L := L) hr2
          have Hrl2 : Hid (rr.length = k) := Lib.hid (by rw [ReadsAll.length Hrr.out, numL_len, List.length_take]; omega)
          clear hkd hlb hr2 z0 z1 z2 z3 z4 z5 z6 z7 u0 u1 u2 u3 u4 u5 u6 u7
          by_cases h7 : r2.kind = 7
          · obtain ⟨j, hj1, hj2, hj3⟩ := Hlb.out r2.label (hin h7)
            have Hpl := Lib.hid (fun w' hs => place_any AL cL L r2.label w' hs (by omega))
            rw [hj1] at Hpl
            have Hdg := Lib.hid (fun w' => digits_any (j + 1) w' (by omega))
            rw [show ((j + 1 : Nat) : Int) = (j : Int) + 1 by omega, ← hj3] at Hdg
            obtain ⟨W, hW⟩ : ∃ W, labF L r2.label = W := ⟨_, rfl⟩
            rw [if_pos h7, hW] at hr3
            rw [show ({ r2 with label := W } : RUnit) = (⟨r2.a, r2.i, r2.n, 7, W, r2.hA, r2.hn, r2.hc, r2.wA, r2.wn, r2.wc, r2.kA, r2.kn, r2.kc⟩ : RUnit) from by rw [← h7]] at hr3
            rw [hW] at Hdg
            have Hr2 := Lib.hid hr3
            have d2 : decide (r2.kind = 7) = true := decide_eq_true h7
            clear hr3 hW hin hj1 hj3
            go_wp2_with (refine wpList_put rfl 27 (.tmp 11) (.tmp 58) rfl w2.heap.size 0 (.agg r2.cells.toArray) rfl rfl r2.cells rfl Tryd.sizeOf27 (by simp [RUnit.cells, Value.oneCell']) 27 _ (heap_alloc_new w2 _) (by simp [RUnit.cells]) ?_; intro w3 hw3 hos3 htp3 hou3 hs3 hbk3; have hb3 : w3.heap[w2.heap.size]? = some (.cells (RUnit.cells r2).toArray 27 (0, 0)) := hbk3.trans (by simp [RUnit.cells]); have hx3 : Ext w2 w3 := ((Ext.refl _).alloc _).put (Nat.le_refl _) hw3 hos3 htp3 hou3 hs3; clear hw3 hos3 htp3 hou3 hs3 hbk3; have hlt3 := block_lt hb3; obtain ⟨z0, z1, z2, z3, z4, z5, z6, z7⟩ := unitBlock hb3)
            refine (Hpl.out _ (((hsL2.ext hext).ext hx2).ext hx3)).mono ?_
            rintro e w3' ⟨rfl, rfl⟩
            go_wp2_with fail
            refine (Hdg.out _).mono ?_
            rintro e w4 ⟨rfl, hx4⟩
            have hb4 := (hx4.block hlt3).trans hb3
            clear z0 z1 z2 z3 z4 z5 z6 z7 hb3
            obtain ⟨z0, z1, z2, z3, z4, z5, z6, z7⟩ := unitBlock hb4
            go_wp2_with (first | (refine wpList_put rfl 9 (.tmp 68) (.tmp 67) rfl w2.heap.size 4 (.string W) rfl rfl [.string W] rfl Tryd.sizeOf9 (by simp [Value.oneCell']) 27 _ hb4 (by simp [RUnit.cells]) ?_; intro w5 hw5 hos5 htp5 hou5 hs5 hbk5; have hb5 : w5.heap[w2.heap.size]? = some (.cells (RUnit.cells { r2 with label := W }).toArray 27 (0, 0)) := hbk5.trans (by simp [RUnit.cells]); have hx5 : Ext w2 w5 := (hx3.trans hx4).put (Nat.le_refl _) hw5 hos5 htp5 hou5 hs5; clear hw5 hos5 htp5 hou5 hs5 hbk5 z0 z1 z2 z3 z4 z5 z6 z7; obtain ⟨z0, z1, z2, z3, z4, z5, z6, z7⟩ := unitBlock hb5; dsimp only at z0 z1 z2 z3 z4 z5 z6 z7) |
              (at_builtin; refine wpList_appAt unitEl rfl (.tmp 69) (.tmp 71) rfl 1 rfl (hown.ext (hx2.trans (hx5.alloc _))) (ys := [(⟨r2.a, r2.i, r2.n, 7, W, r2.hA, r2.hn, r2.hc, r2.wA, r2.wn, r2.wc, r2.kA, r2.kn, r2.kc⟩ : RUnit)]) rfl (Sl.new' unitEl (by simp) rfl) (by rw [Hrl2.out]; simp; omega) (by have := hx5.size; simp at *; omega) ?_; intro v5 w6 hown5 hg5 hloc5; obtain ⟨q', a1, a2, a3, a4, a5, a6⟩ := Own.stepQ (q := q) (hown.ext (hx2.trans (hx5.alloc _))) (fun j hj => Nat.lt_of_lt_of_le (Hq2.out j hj) (hx2.trans (hx5.alloc _)).size) Hqo.out hg5 hloc5 hown5 (hext.trans (hx2.trans (hx5.alloc _))).size; have Hown5 := Lib.hid hown5; clear hown5 hg5 hloc5))
            go_roundw
            case rel => exact ⟨k + 1, rr ++ [(⟨r2.a, r2.i, r2.n, 7, W, r2.hA, r2.hn, r2.hc, r2.wA, r2.wn, r2.wc, r2.kA, r2.kn, r2.kc⟩ : RUnit)], q', by omega, by go_num, Hown5.out, Lib.hid (fun j hj => a1 j (Hq1.out j hj)), Lib.hid a2, Lib.hid a3, Lib.hid (fun j hj => (a4 j hj).elim (Hq3.out j) (fun h => .inr (by have := HIc.out.size; omega))), Lib.hid (by rw [numL_take hlt]; exact (ReadsAll.cin ((CIn.ext (hx2.trans (hx5.alloc _))).trans a5) _ _ Hrr.out).snoc (Reads.cin ((CIn.ext (hx5.alloc _)).trans a5) _ _ Hr2.out)), (hext.trans (hx2.trans (hx5.alloc _))).trans' a6⟩
            case measure => simp [intOf]; omega
          · have hr4 : Reads (mask q w2) (relab L (numF kids[k])) r2 := by have := hr3; rw [if_neg h7] at this; exact this
            have Hr2 := Lib.hid hr4
            have d2 : decide (r2.kind = 7) = false := decide_eq_false h7
            clear hr3 hr4 hin
            go_wp2_with (first | (refine wpList_put rfl 27 (.tmp 11) (.tmp 58) rfl w2.heap.size 0 (.agg r2.cells.toArray) rfl rfl r2.cells rfl Tryd.sizeOf27 (by simp [RUnit.cells, Value.oneCell']) 27 _ (heap_alloc_new w2 _) (by simp [RUnit.cells]) ?_; intro w3 hw3 hos3 htp3 hou3 hs3 hbk3; have hb3 : w3.heap[w2.heap.size]? = some (.cells (RUnit.cells r2).toArray 27 (0, 0)) := hbk3.trans (by simp [RUnit.cells]); have hx3 : Ext w2 w3 := ((Ext.refl _).alloc _).put (Nat.le_refl _) hw3 hos3 htp3 hou3 hs3; clear hw3 hos3 htp3 hou3 hs3 hbk3; obtain ⟨z0, z1, z2, z3, z4, z5, z6, z7⟩ := unitBlock hb3) |
              (at_builtin; refine wpList_appAt unitEl rfl (.tmp 69) (.tmp 71) rfl 1 rfl (hown.ext (hx2.trans (hx3.alloc _))) (ys := [r2]) rfl (Sl.new' unitEl (by simp) rfl) (by rw [Hrl2.out]; simp; omega) (by have := hx3.size; simp at *; omega) ?_; intro v5 w6 hown5 hg5 hloc5; obtain ⟨q', a1, a2, a3, a4, a5, a6⟩ := Own.stepQ (q := q) (hown.ext (hx2.trans (hx3.alloc _))) (fun j hj => Nat.lt_of_lt_of_le (Hq2.out j hj) (hx2.trans (hx3.alloc _)).size) Hqo.out hg5 hloc5 hown5 (hext.trans (hx2.trans (hx3.alloc _))).size; have Hown5 := Lib.hid hown5; clear hown5 hg5 hloc5))
            go_roundw
            case rel => exact ⟨k + 1, rr ++ [r2], q', by omega, by go_num, Hown5.out, Lib.hid (fun j hj => a1 j (Hq1.out j hj)), Lib.hid a2, Lib.hid a3, Lib.hid (fun j hj => (a4 j hj).elim (Hq3.out j) (fun h => .inr (by have := HIc.out.size; omega))), Lib.hid (by rw [numL_take hlt]; exact (ReadsAll.cin ((CIn.ext (hx2.trans (hx3.alloc _))).trans a5) _ _ Hrr.out).snoc (Reads.cin ((CIn.ext (hx3.alloc _)).trans a5) _ _ Hr2.out)), (hext.trans (hx2.trans (hx3.alloc _))).trans' a6⟩
            case measure => simp [intOf]; omega
        · have hkL : k = kids.length := by omega
          have d1 : decide ((k : Int) < (rs.length : Int)) = false := decide_eq_false (by omega)
          obtain ⟨A3, c3, rfl, hc3, -⟩ := hown.form
          have HRR := Lib.hid (by have := Hrr.out; rw [hkL, List.take_length] at this; exact this)
          clear Hrr hkL
          go_wp2_with (first | (refine wpList_fld rfl 27 4 (.tmp 1) rfl _ Tryd.underlying27 _ rfl 1 Tryd.sizeOf24 (by decide) w.heap.size 0 rfl ?_) | (refine wpList_fld rfl 27 5 (.tmp 1) rfl _ Tryd.underlying27 _ rfl 1 Tryd.sizeOf25 (by decide) w.heap.size 0 rfl ?_) | (refine wpList_put rfl 24 (.tmp 75) (.tmp 73) rfl w.heap.size 6 (.slice A2 wd.length c2) rfl rfl [.slice A2 wd.length c2] rfl Tryd.sizeOf24 (by simp [Value.oneCell']) 27 _ hI.b1 (by simp [RUnit.cells]) ?_; intro w3 hw3 hos3 htp3 hou3 hs3 hbk3; have hI3 : RState w ⟨ra, ri, rn, rk, rl, hdA, hz.length, hc, A2, wd.length, c2, kA, rs.length, kc⟩ w3 := hI.put1 hw3 hos3 htp3 hou3 hs3 (hbk3.trans (by simp [RUnit.cells])); have Hw3 := Lib.hid hw3; have Hs3 := Lib.hid hs3; clear hw3 hos3 htp3 hou3 hs3 hbk3 z0 z1 z2 z3 z4 z5 z6 z7) | (refine wpList_put rfl 25 (.tmp 76) (.tmp 74) rfl w.heap.size 7 (.slice A3 rr.length c3) rfl rfl [.slice A3 rr.length c3] rfl Tryd.sizeOf25 (by simp [Value.oneCell']) 27 _ hI3.b1 (by simp [RUnit.cells]) ?_; intro w4 hw4 hos4 htp4 hou4 hs4 hbk4; have hI4 : RState w ⟨ra, ri, rn, rk, rl, hdA, hz.length, hc, A2, wd.length, c2, A3, rr.length, c3⟩ w4 := hI3.put1 hw4 hos4 htp4 hou4 hs4 (hbk4.trans (by simp [RUnit.cells])); have Hw4 := Lib.hid hw4; have Hs4 := Lib.hid hs4; clear hw4 hos4 htp4 hou4 hs4 hbk4; obtain ⟨z0, z1, z2, z3, z4, z5, z6, z7⟩ := unitBlock hI4.b1; dsimp only at z0 z1 z2 z3 z4 z5 z6 z7) | (refine wpList_put rfl 27 (.tmp 2) (.tmp 77) rfl (w.heap.size + 1) 0 (.agg (RUnit.cells ⟨ra, ri, rn, rk, rl, hdA, hz.length, hc, A2, wd.length, c2, A3, rr.length, c3⟩).toArray) rfl rfl (RUnit.cells ⟨ra, ri, rn, rk, rl, hdA, hz.length, hc, A2, wd.length, c2, A3, rr.length, c3⟩) rfl Tryd.sizeOf27 (by simp [RUnit.cells, Value.oneCell']) 27 _ hI4.b2 (by simp [unit0, RUnit.cells]) ?_; intro w5 hw5 hos5 htp5 hou5 hs5 hbk5))
          have hfin : w5.heap[w.heap.size + 1]? = some (.cells (RUnit.cells ⟨ra, ri, rn, rk, rl, hdA, hz.length, hc, A2, wd.length, c2, A3, rr.length, c3⟩).toArray 27 (0, 0)) := hbk5.trans (by simp [RUnit.cells, unit0])
          have hkeep : ∀ j, j ≠ w.heap.size → j ≠ w.heap.size + 1 → w5.heap[j]? = wr.heap[j]? := fun j h1 h2 => (hw5 j h2).trans ((Hw4.out j h1).trans (Hw3.out j h1))
          have hx5 : Ext w w5 := hI4.ext.put (by omega) hw5 hos5 htp5 hou5 hs5
          have hsz := HIc.out.size
          have hwz := hext.size
          have hci : CIn (mask q wr) (mask p w5) := CIn.keep (by have := Hs3.out; have := Hs4.out; omega) fun j hj hpj => by
            have h1 : ∀ h : (p j = true ∨ j = w.heap.size ∨ j = w.heap.size + 1), False := fun h => by rw [Hq1.out j h] at hpj; cases hpj
            refine ⟨hkeep j (fun h => h1 (.inr (.inl h))) (fun h => h1 (.inr (.inr h))), ?_⟩
            cases hpp : p j with
            | false => rfl
            | true => exact (h1 (.inl hpp)).elim
          have hdark : ∀ g, w.heap.size ≤ g → p g = false := fun g hg => by
            cases hpp : p g with
            | false => rfl
            | true => have := Hp.out g hpp; omega
          have hza := hxaz.out
          have o2 := (HO2.out.ext hext).keep (w' := w5) fun j hj => hkeep j (by have := (HO2.out.lt j hj).1; omega) (by have := (HO2.out.lt j hj).1; omega)
          have o3 := hown.keep (w' := w5) fun j hj => hkeep j (by have := (hown.lt j hj).1; omega) (by have := (hown.lt j hj).1; omega)
          have o2' : Own wordEl wa.heap.size w5 (.slice A2 (wd.map (renW L)).length c2) (wd.map (renW L)) := by rw [Hml.out]; exact o2
          obtain ⟨B2, d2', hv2, hd2, -, s2⟩ := o2'.formMask (p := p) (fun g hg _ => hdark g (by omega))
          cases hv2
          obtain ⟨B3, d3', hv3, hd3, -, s3⟩ := o3.formMask (p := p) (fun g hg _ => hdark g (by omega))
          cases hv3
          have hrn := ReadsAll.length HRR.out
          (try simp only [Exit.inBlock, Exit.then])
          refine bodyPost_ret (results_cell1 rfl _ _ (w.heap.size + 1) _ rfl hfin) rfl ?_
          refine ⟨_, rfl, hx5, ?_⟩
          rw [HR.out, Reads]
          exact ⟨⟨rfl, rfl, rfl, rfl, rfl⟩, ⟨rfl, Hhc.out, Hhs.out.cin (CIn.ext hx5)⟩, ⟨Hml.out.symm, hd2, s2⟩, hrn, by rw [← hrn]; exact hd3, rr, s3, ReadsAll.cin hci _ _ HRR.out⟩

theorem refNumber_all : ∀ N, RefNumberAt N
  | 0 => by
    intro u r w p h
    cases u
    simp at h
  | N + 1 => refNumber_step N (refNumber_all N)
theorem refNumber_any (u : GUnit) (r : RUnit) (w : World) (hr : Reads w u r) (hok : OkT u) (hc : checkF u = []) :
    Calls Tryd.prog 26 #[.agg r.cells.toArray] w fun e w' => ∃ r' : RUnit, e = .returned (.agg r'.cells.toArray) ∧ Ext w w' ∧ Reads w' (numF u) r' :=
  (refNumber_all _ u r w (fun _ => false) (Nat.le_refl _) (fun _ h => by cases h) (Reads.cin ⟨by rw [mask_size]; exact Nat.le_refl _, fun _ _ h => mask_cell_of rfl h⟩ _ _ hr) hok hc).mono fun _ _ ⟨r', h1, h2, h3⟩ => ⟨r', h1, h2, Reads.cin (CIn.unmask _ _) _ _ h3⟩

end Go.Proofs.YtiacmahfjcolaaaDoor
