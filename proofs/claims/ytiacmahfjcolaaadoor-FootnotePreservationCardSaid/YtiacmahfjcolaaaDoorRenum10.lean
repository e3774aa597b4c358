/- number for every tree without findings; Renumber: the walk. -/
import Derived.Test.YtiacmahfjcolaaaDoorNumber10
import Derived.Test.YtiacmahfjcolaaaDoorOk10
namespace Go.Proofs.YtiacmahfjcolaaaDoor
open Go.RowKit

theorem number_all : ∀ N, NumberAt N
  | 0 => by
    intro u r w h
    cases u
    simp at h
  | N + 1 => number_step N (number_all N)
theorem number_any (u : GUnit) (r : RUnit) (w : World) (hr : Reads w u r) (hok : OkT u) (hc : checkF u = []) (hT : Tab w) : Calls Tryd.prog 46 #[.agg r.cells.toArray] w (RetNum (numF u) w) := number_all _ u r w (Nat.le_refl _) hr hok hc hT
def zeroU : GUnit := .mk 0 0 0 0 ⟨#[]⟩ [] [] []
theorem reads_zero (w : World) : Reads w zeroU unit0 := by
  unfold zeroU
  rw [Reads]
  refine ⟨⟨rfl, rfl, rfl, rfl, rfl⟩, ⟨rfl, Nat.le_refl _, Sl.nil⟩, ⟨rfl, Nat.le_refl _, Sl.nil⟩, rfl, Nat.le_refl _, [], Sl.nil, ?_⟩
  rw [ReadsAll]
  trivial
theorem validB_iff (u : GUnit) : validB u = true ↔ checkF u = [] := by
  unfold validB
  rw [List.isEmpty_iff]
def renF (u : GUnit) : GUnit := if validB u = true then numF u else zeroU
def RetRen (u : GUnit) (w : World) (e : Ending) (w' : World) : Prop := ∃ r' : RUnit, e = .returned (.tuple #[.agg r'.cells.toArray, .bool (validB u)]) ∧ Ext w w' ∧ Reads (mask (fresh w.heap.size) w') (renF u) r'
set_option maxRecDepth 100000 in
set_option maxHeartbeats 1600000 in
theorem renumber_any (u : GUnit) (r : RUnit) (w : World) (hr : Reads w u r) (hok : OkT u) (hT : Tab w) :
    Calls Tryd.prog 24 #[.agg r.cells.toArray] w (RetRen u w) := by
  have hx0 : Ext w ((w.alloc (.cells r.cells.toArray 27)).alloc (.cells unit0.cells.toArray 27)) := ((Ext.refl w).alloc _).alloc _
  have hsz1 : (w.alloc (.cells r.cells.toArray 27)).heap.size = w.heap.size + 1 := by simp
  have hb1 : ((w.alloc (.cells r.cells.toArray 27)).alloc (.cells unit0.cells.toArray 27)).heap[w.heap.size]? = some (.cells r.cells.toArray 27 (0, 0)) :=
    (((Ext.refl (w.alloc (.cells r.cells.toArray 27))).alloc _).block (by rw [hsz1]; omega)).trans (heap_alloc_new w _)
  have hb2 : ((w.alloc (.cells r.cells.toArray 27)).alloc (.cells unit0.cells.toArray 27)).heap[w.heap.size + 1]? = some (.cells unit0.cells.toArray 27 (0, 0)) := by
    have h1 := heap_alloc_new (w.alloc (.cells r.cells.toArray 27)) (.cells unit0.cells.toArray 27)
    rwa [hsz1] at h1
  have hva := fun w' (he : Ext w w') => fvalid_any u r w' (Reads.ext he _ _ hr) hok
  have hnu := fun w' (he : Ext w w') (hv : validB u = true) => number_any u r w' (Reads.ext he _ _ hr) hok ((validB_iff u).1 hv) (hT.ext he)
  have hfin0 : ∀ (r' : RUnit) (b : Bool) (w' : World), validB u = b → Ext w w' → Reads (mask (fresh w.heap.size) w') (if b = true then numF u else zeroU) r' → RetRen u w (.returned (.tuple #[.agg r'.cells.toArray, .bool b])) w' := by
    intro r' b w' hv he hre
    refine ⟨r', by rw [hv], he, ?_⟩
    unfold renF
    rw [hv]
    exact hre
  have Hret := Lib.hid hfin0
  have Hva := Lib.hid hva
  have Hnu := Lib.hid hnu
  obtain ⟨ra, ri, rn, rk, rl, hdA, hn, hc, wA, wn, wc, kA, kn, kc⟩ := r
  obtain ⟨v, hv⟩ : ∃ v, validB u = v := ⟨_, rfl⟩
  rw [hv] at Hva Hnu Hret
  clear hfin0 hva hnu hr hok hT
  simp only [RUnit.cells, unit0] at hx0 hb1 hb2 Hva Hnu ⊢
  obtain ⟨wz, hwz⟩ : ∃ wz, (w.alloc (.cells #[.int .i64 ra, .int .i64 ri, .int .i64 rn, .int .i64 rk, .string rl, .slice hdA hn hc, .slice wA wn wc, .slice kA kn kc] 27)).alloc (.cells #[.int .i64 0, .int .i64 0, .int .i64 0, .int .i64 0, .string ⟨#[]⟩, .slice none 0 0, .slice none 0 0, .slice none 0 0] 27) = wz := ⟨_, rfl⟩
  rw [hwz] at hx0 hb1 hb2
  have Hwz := Lib.hid hwz
  have Hb2 := Lib.hid hb2
  have Hb1 := Lib.hid hb1
  have hbl1 := block_lt hb1
  have hbl2 := block_lt hb2
  obtain ⟨z0, z1, z2, z3, z4, z5, z6, z7⟩ := unitBlock (r := ⟨ra, ri, rn, rk, rl, hdA, hn, hc, wA, wn, wc, kA, kn, kc⟩) hb1
  dsimp only at z0 z1 z2 z3 z4 z5 z6 z7
  have Hv := Lib.hid hv
  clear hwz hb1 hb2 hv hsz1
  go_enter Tryd.func24, Tryd.ntmps24
  go_wp2_with fail
  rw [Hwz.out]
  go_wp2_with fail
  refine (Hva.out _ hx0).mono ?_
  rintro e w2 ⟨rfl, hx2⟩
  have hb12 := (hx2.block hbl1).trans Hb1.out
  have hb22 := (hx2.block hbl2).trans Hb2.out
  clear z0 z1 z2 z3 z4 z5 z6 z7
  obtain ⟨z0, z1, z2, z3, z4, z5, z6, z7⟩ := unitBlock (r := ⟨ra, ri, rn, rk, rl, hdA, hn, hc, wA, wn, wc, kA, kn, kc⟩) hb12
  dsimp only at z0 z1 z2 z3 z4 z5 z6 z7
  cases v with
  | false =>
    go_wp2_with (refine wpList_put rfl 27 (.tmp 2) (.tmp 7) rfl (w.heap.size + 1) 0 (.agg unit0.cells.toArray) rfl rfl unit0.cells rfl Tryd.sizeOf27 (unitEl.h1 unit0) 27 _ hb22 (by simp [RUnit.cells]) ?_; intro w3 hw3 hos3 htp3 hou3 hs3 hbk3)
    have hfin : w3.heap[w.heap.size + 1]? = some (.cells unit0.cells.toArray 27 (0, 0)) := by
      rw [hbk3]
      simp [RUnit.cells, unit0]
    (try simp only [Exit.inBlock, Exit.then])
    refine bodyPost_ret (results_cell2 rfl _ _ (w.heap.size + 1) _ rfl hfin) rfl ?_
    exact Hret.out unit0 false w3 rfl ((hx0.trans hx2).put (by omega) hw3 hos3 htp3 hou3 hs3) (reads_zero _)
  | true =>
    go_wp2_with fail
    refine (Hnu.out _ (hx0.trans hx2) trivial).mono ?_
    rintro e w3 ⟨r3, rfl, hx3, hr3⟩
    have hb23 := (hx3.block (by have := hx2.size; omega)).trans hb22
    clear hb12 hb22 z0 z1 z2 z3 z4 z5 z6 z7
    have Hr3 := Lib.hid hr3
    clear hr3
    go_wp2_with (refine wpList_put rfl 27 (.tmp 2) (.tmp 9) rfl (w.heap.size + 1) 0 (.agg r3.cells.toArray) rfl (by simp only [RUnit.cells]; rfl) r3.cells rfl Tryd.sizeOf27 (unitEl.h1 r3) 27 _ hb23 (by simp [RUnit.cells]) ?_; intro w4 hw4 hos4 htp4 hou4 hs4 hbk4)
    have hfin : w4.heap[w.heap.size + 1]? = some (.cells r3.cells.toArray 27 (0, 0)) := by
      rw [hbk4]
      simp [RUnit.cells, unit0]
    (try simp only [Exit.inBlock, Exit.then])
    refine bodyPost_ret (results_cell2 rfl _ _ (w.heap.size + 1) _ rfl hfin) rfl ?_
    refine Hret.out r3 true w4 rfl (((hx0.trans hx2).trans hx3).put (by omega) hw4 hos4 htp4 hou4 hs4) ?_
    have hsz : w.heap.size + 2 ≤ w2.heap.size := by have := hx2.size; omega
    refine Reads.cin ?_ _ _ Hr3.out
    refine CIn.keep (by omega) fun j hj hpj => ?_
    simp only [fresh, decide_eq_false_iff_not, Nat.not_lt] at hpj
    exact ⟨hw4 j (by omega), by simp [fresh]; omega⟩

end Go.Proofs.YtiacmahfjcolaaaDoor
