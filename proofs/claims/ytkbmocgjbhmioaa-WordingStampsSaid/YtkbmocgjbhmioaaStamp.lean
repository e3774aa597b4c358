/- Stamp of package wording and of its reference: a whole tree, numbered from 1 and from 0. -/
import Derived.Test.YtkbmocgjbhmioaaStampF
namespace Go.Proofs.Ytkbmocgjbhmioaa
open Go.RowKit

theorem CIn.lit {p : Nat → Bool} {w w' : World} (he : Ext w w') (h : ∀ k, k < w.heap.size → p k = false) : CIn w (mask p w') := by
  refine ⟨by rw [mask_size]; exact he.size, fun q c hc => ?_⟩
  have hb := World.block_lt_of_cell? w q hc
  exact mask_cell_of (h _ hb) ((he.cell hb).trans hc)

def RetU (w : World) (u : GUnit) (e : Ending) (w' : World) : Prop := ∃ r' : RUnit, e = .returned (.agg r'.cells.toArray) ∧ Ext w w' ∧ Reads (mask (fresh w.heap.size) w') u r'

set_option maxRecDepth 100000 in
set_option maxHeartbeats 1600000 in
theorem stamp_any (act item : Int) (u : GUnit) (r : RUnit) (w : World) (hr : Reads w u r) (hA : AllU (lensLe 300 60) u) (hc : cntF u ≤ 1000) :
    Calls Try.prog 23 #[.agg r.cells.toArray, .int .i64 act, .int .i64 item] w (RetU w (stampF act item u 1 0).1) := by
  obtain ⟨X, hX⟩ : ∃ X, stampF act item u 1 0 = X := ⟨_, rfl⟩
  have htree := tree_any act item _ u r (w.heap.size + 2) 0 0 (((w.alloc (.cells #[.int .i64 r.a, .int .i64 r.i, .int .i64 r.n, .int .i64 r.kind, .string r.label, .slice r.hA r.hn r.hc, .slice r.wA r.wn r.wc, .slice r.kA r.kn r.kc] 41)).alloc (.cells #[.int .i64 0, .int .i64 0, .int .i64 0, .int .i64 0, .string ⟨#[]⟩, .slice none 0 0, .slice none 0 0, .slice none 0 0] 41)).alloc (.cells #[.int .i64 act, .int .i64 item, .int .i64 0, .int .i64 0] 74)) (Nat.le_refl _)
    (Reads.cin (CIn.lit ((((Ext.refl w).alloc _).alloc _).alloc _) (fun k hk => by simp; omega)) _ _ hr) hA (by omega) (by omega) (by omega) (by omega) (by
      have e := heap_alloc_new ((w.alloc (.cells #[.int .i64 r.a, .int .i64 r.i, .int .i64 r.n, .int .i64 r.kind, .string r.label, .slice r.hA r.hn r.hc, .slice r.wA r.wn r.wc, .slice r.kA r.kn r.kc] 41)).alloc (.cells #[.int .i64 0, .int .i64 0, .int .i64 0, .int .i64 0, .string ⟨#[]⟩, .slice none 0 0, .slice none 0 0, .slice none 0 0] 41)) (.cells #[.int .i64 act, .int .i64 item, .int .i64 0, .int .i64 0] 74)
      rw [show ((w.alloc (.cells #[.int .i64 r.a, .int .i64 r.i, .int .i64 r.n, .int .i64 r.kind, .string r.label, .slice r.hA r.hn r.hc, .slice r.wA r.wn r.wc, .slice r.kA r.kn r.kc] 41)).alloc (.cells #[.int .i64 0, .int .i64 0, .int .i64 0, .int .i64 0, .string ⟨#[]⟩, .slice none 0 0, .slice none 0 0, .slice none 0 0] 41)).heap.size = w.heap.size + 2 from by simp] at e
      exact e)
  rw [Int.zero_add, hX] at htree
  rw [hX]
  have hres : ((w.alloc (.cells #[.int .i64 r.a, .int .i64 r.i, .int .i64 r.n, .int .i64 r.kind, .string r.label, .slice r.hA r.hn r.hc, .slice r.wA r.wn r.wc, .slice r.kA r.kn r.kc] 41)).alloc (.cells #[.int .i64 0, .int .i64 0, .int .i64 0, .int .i64 0, .string ⟨#[]⟩, .slice none 0 0, .slice none 0 0, .slice none 0 0] 41)).heap[w.heap.size + 1]? = some (.cells unit0.cells.toArray 41 (0, 0)) := by
    have e := heap_alloc_new (w.alloc (.cells #[.int .i64 r.a, .int .i64 r.i, .int .i64 r.n, .int .i64 r.kind, .string r.label, .slice r.hA r.hn r.hc, .slice r.wA r.wn r.wc, .slice r.kA r.kn r.kc] 41)) (.cells unit0.cells.toArray 41)
    rw [show (w.alloc (.cells #[.int .i64 r.a, .int .i64 r.i, .int .i64 r.n, .int .i64 r.kind, .string r.label, .slice r.hA r.hn r.hc, .slice r.wA r.wn r.wc, .slice r.kA r.kn r.kc] 41)).heap.size = w.heap.size + 1 from by simp] at e
    exact e
  have hext : Ext w (((w.alloc (.cells #[.int .i64 r.a, .int .i64 r.i, .int .i64 r.n, .int .i64 r.kind, .string r.label, .slice r.hA r.hn r.hc, .slice r.wA r.wn r.wc, .slice r.kA r.kn r.kc] 41)).alloc (.cells #[.int .i64 0, .int .i64 0, .int .i64 0, .int .i64 0, .string ⟨#[]⟩, .slice none 0 0, .slice none 0 0, .slice none 0 0] 41)).alloc (.cells #[.int .i64 act, .int .i64 item, .int .i64 0, .int .i64 0] 74)) := (((Ext.refl w).alloc _).alloc _).alloc _
  have hres2 := (heap_alloc_old _ (.cells #[.int .i64 act, .int .i64 item, .int .i64 0, .int .i64 0] 74) (by simp)).trans hres
  have hsz : (((w.alloc (.cells #[.int .i64 r.a, .int .i64 r.i, .int .i64 r.n, .int .i64 r.kind, .string r.label, .slice r.hA r.hn r.hc, .slice r.wA r.wn r.wc, .slice r.kA r.kn r.kc] 41)).alloc (.cells #[.int .i64 0, .int .i64 0, .int .i64 0, .int .i64 0, .string ⟨#[]⟩, .slice none 0 0, .slice none 0 0, .slice none 0 0] 41)).alloc (.cells #[.int .i64 act, .int .i64 item, .int .i64 0, .int .i64 0] 74)).heap.size = w.heap.size + 3 := by simp
  obtain ⟨wz, hwz⟩ : ∃ wz, (((w.alloc (.cells #[.int .i64 r.a, .int .i64 r.i, .int .i64 r.n, .int .i64 r.kind, .string r.label, .slice r.hA r.hn r.hc, .slice r.wA r.wn r.wc, .slice r.kA r.kn r.kc] 41)).alloc (.cells #[.int .i64 0, .int .i64 0, .int .i64 0, .int .i64 0, .string ⟨#[]⟩, .slice none 0 0, .slice none 0 0, .slice none 0 0] 41)).alloc (.cells #[.int .i64 act, .int .i64 item, .int .i64 0, .int .i64 0] 74)) = wz := ⟨_, rfl⟩
  rw [hwz] at htree hext hres2 hsz
  have Hwz := Lib.hid hwz
  have Hsz := Lib.hid hsz
  have Htree := Lib.hid htree
  simp only [RUnit.cells] at Htree ⊢
  clear hwz hsz htree hres hX
  go_enter Try.func23, Try.ntmps23
  go_wp2_with fail
  rw [Hwz.out]
  refine (Htree.out).mono ?_
  rintro e w2 ⟨r', rfl, hB, -, hrd⟩
  have hsz := Hsz.out
  have hres3 := (hB.block (w.heap.size + 1) (by omega) (by omega)).trans hres2
  clear hsz hres2
  go_wp2_with (refine wpList_put rfl 41 (.tmp 6) (.tmp 12) rfl (w.heap.size + 1) 0 (.agg r'.cells.toArray) rfl rfl r'.cells rfl Try.sizeOf41 (unitEl.h1 r') 41 _ hres3 (by simp [unit0, RUnit.cells]) ?_; intro w3 hw3 hos3 htp3 hou3 hs3 hbk3)
  have hfin : w3.heap[w.heap.size + 1]? = some (.cells r'.cells.toArray 41 (0, 0)) := by
    rw [hbk3]
    simp [RUnit.cells, unit0]
  (try simp only [Exit.inBlock, Exit.then])
  refine bodyPost_ret (results_cell1 rfl _ _ (w.heap.size + 1) _ rfl hfin) rfl ?_
  have hsz := Hsz.out
  have hx2 : Ext w w2 := hB.toExt hext (by omega)
  refine ⟨r', rfl, hx2.put (by omega) hw3 hos3 htp3 hou3 hs3, Reads.cin (CIn.keep (by rw [hs3]; exact Nat.le_refl _) fun k hk hpk => ?_) _ _ hrd⟩
  simp only [fresh, decide_eq_false_iff_not, Nat.not_lt] at hpk
  exact ⟨hw3 k (by omega), by simp [fresh]; omega⟩

set_option maxRecDepth 100000 in
set_option maxHeartbeats 1600000 in
theorem refStamp_any (act item : Int) (u : GUnit) (r : RUnit) (w : World) (hr : Reads w u r) (hA : AllU (lensLe 300 60) u) (hc : cntF u ≤ 1000) :
    Calls Try.prog 25 #[.agg r.cells.toArray, .int .i64 act, .int .i64 item] w (RetU w (stampF act item u 1 0).1) := by
  obtain ⟨X, hX⟩ : ∃ X, stampF act item u 1 0 = X := ⟨_, rfl⟩
  have hext : Ext w ((w.alloc (.cells #[.int .i64 r.a, .int .i64 r.i, .int .i64 r.n, .int .i64 r.kind, .string r.label, .slice r.hA r.hn r.hc, .slice r.wA r.wn r.wc, .slice r.kA r.kn r.kc] 41)).alloc (.cells #[.int .i64 0, .int .i64 0, .int .i64 0, .int .i64 0, .string ⟨#[]⟩, .slice none 0 0, .slice none 0 0, .slice none 0 0] 41)) := ((Ext.refl w).alloc _).alloc _
  have htree := refStamp_rec act item _ u r 1 0 ((w.alloc (.cells #[.int .i64 r.a, .int .i64 r.i, .int .i64 r.n, .int .i64 r.kind, .string r.label, .slice r.hA r.hn r.hc, .slice r.wA r.wn r.wc, .slice r.kA r.kn r.kc] 41)).alloc (.cells #[.int .i64 0, .int .i64 0, .int .i64 0, .int .i64 0, .string ⟨#[]⟩, .slice none 0 0, .slice none 0 0, .slice none 0 0] 41)) (Nat.le_refl _) (Reads.ext hext _ _ hr) hA (by omega) (by omega) (by omega) (by omega)
  rw [hX] at htree ⊢
  have hres : ((w.alloc (.cells #[.int .i64 r.a, .int .i64 r.i, .int .i64 r.n, .int .i64 r.kind, .string r.label, .slice r.hA r.hn r.hc, .slice r.wA r.wn r.wc, .slice r.kA r.kn r.kc] 41)).alloc (.cells #[.int .i64 0, .int .i64 0, .int .i64 0, .int .i64 0, .string ⟨#[]⟩, .slice none 0 0, .slice none 0 0, .slice none 0 0] 41)).heap[w.heap.size + 1]? = some (.cells unit0.cells.toArray 41 (0, 0)) := by
    have e := heap_alloc_new (w.alloc (.cells #[.int .i64 r.a, .int .i64 r.i, .int .i64 r.n, .int .i64 r.kind, .string r.label, .slice r.hA r.hn r.hc, .slice r.wA r.wn r.wc, .slice r.kA r.kn r.kc] 41)) (.cells unit0.cells.toArray 41)
    rw [show (w.alloc (.cells #[.int .i64 r.a, .int .i64 r.i, .int .i64 r.n, .int .i64 r.kind, .string r.label, .slice r.hA r.hn r.hc, .slice r.wA r.wn r.wc, .slice r.kA r.kn r.kc] 41)).heap.size = w.heap.size + 1 from by simp] at e
    exact e
  have hsz : ((w.alloc (.cells #[.int .i64 r.a, .int .i64 r.i, .int .i64 r.n, .int .i64 r.kind, .string r.label, .slice r.hA r.hn r.hc, .slice r.wA r.wn r.wc, .slice r.kA r.kn r.kc] 41)).alloc (.cells #[.int .i64 0, .int .i64 0, .int .i64 0, .int .i64 0, .string ⟨#[]⟩, .slice none 0 0, .slice none 0 0, .slice none 0 0] 41)).heap.size = w.heap.size + 2 := by simp
  obtain ⟨wz, hwz⟩ : ∃ wz, ((w.alloc (.cells #[.int .i64 r.a, .int .i64 r.i, .int .i64 r.n, .int .i64 r.kind, .string r.label, .slice r.hA r.hn r.hc, .slice r.wA r.wn r.wc, .slice r.kA r.kn r.kc] 41)).alloc (.cells #[.int .i64 0, .int .i64 0, .int .i64 0, .int .i64 0, .string ⟨#[]⟩, .slice none 0 0, .slice none 0 0, .slice none 0 0] 41)) = wz := ⟨_, rfl⟩
  rw [hwz] at htree hext hres hsz
  have Hwz := Lib.hid hwz
  have Hsz := Lib.hid hsz
  obtain ⟨x1, hx1⟩ : ∃ x1, X.2.1 = x1 := ⟨_, rfl⟩
  obtain ⟨x2, hx2⟩ : ∃ x2, X.2.2 = x2 := ⟨_, rfl⟩
  rw [hx1, hx2] at htree
  have Htree := Lib.hid htree
  simp only [RUnit.cells] at Htree ⊢
  clear hwz hsz htree hX hx1 hx2
  go_enter Try.func25, Try.ntmps25
  go_wp2_with fail
  rw [Hwz.out]
  refine (Htree.out).mono ?_
  rintro e w2 ⟨r', rfl, hB, hrd⟩
  have hsz := Hsz.out
  have hres3 := (hB.block (k := w.heap.size + 1) (by omega)).trans hres
  have hw2 : w.heap.size + 2 ≤ w2.heap.size := by have := hB.size; omega
  clear hsz hres
  go_wp2_with (first | (refine wpList_put rfl 41 (.tmp 7) (.tmp 15) rfl w2.heap.size 0 (.agg r'.cells.toArray) rfl rfl r'.cells rfl Try.sizeOf41 (unitEl.h1 r') 41 _ (heap_alloc_new w2 _) (by simp [unit0, RUnit.cells]) ?_; intro w3 hw3 hos3 htp3 hou3 hs3 hbk3; have hbk4 : w3.heap[w2.heap.size]? = some (.cells r'.cells.toArray 41 (0, 0)) := (by rw [hbk3]; simp [RUnit.cells]); have hx3 : Ext w2 w3 := ((Ext.refl w2).alloc _).put (Nat.le_refl _) hw3 hos3 htp3 hou3 hs3; clear hs3; have hres4 := (hx3.block (k := w.heap.size + 1) (by omega)).trans hres3; obtain ⟨g0, g1, g2, g3, g4, g5, g6, g7⟩ := unitBlock hbk4) |
    (refine wpList_put rfl 41 (.tmp 6) (.tmp 18) rfl (w.heap.size + 1) 0 (.agg r'.cells.toArray) rfl rfl r'.cells rfl Try.sizeOf41 (unitEl.h1 r') 41 _ hres4 (by simp [unit0, RUnit.cells]) ?_; intro w4 hw4 hos4 htp4 hou4 hs4 hbk5))
  have hfin : w4.heap[w.heap.size + 1]? = some (.cells r'.cells.toArray 41 (0, 0)) := by
    rw [hbk5]
    simp [RUnit.cells, unit0]
  (try simp only [Exit.inBlock, Exit.then])
  refine bodyPost_ret (results_cell1 rfl _ _ (w.heap.size + 1) _ rfl hfin) rfl ?_
  have hsz := Hsz.out
  have hx2 : Ext w w3 := (hext.trans hB).trans hx3
  refine ⟨r', rfl, hx2.put (by omega) hw4 hos4 htp4 hou4 hs4, Reads.cin (CIn.keep (by rw [hs4]; exact hx3.size) fun k hk hpk => ?_) _ _ hrd⟩
  simp only [fresh, decide_eq_false_iff_not, Nat.not_lt] at hpk
  exact ⟨(hw4 k (by omega)).trans (hx3.block hk), by simp [fresh]; omega⟩

end Go.Proofs.Ytkbmocgjbhmioaa
