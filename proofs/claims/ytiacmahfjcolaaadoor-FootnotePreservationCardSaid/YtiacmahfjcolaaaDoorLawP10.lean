/- The law on preservation. -/
import Derived.Test.YtiacmahfjcolaaaDoorLawH10
import Derived.Test.YtiacmahfjcolaaaDoorKept10
namespace Go.Proofs.YtiacmahfjcolaaaDoor
open Go.RowKit

theorem OkT.okW {u : GUnit} (h : OkT u) : AllU okW u := by
  refine AllU.mono ?_ _ (AllU.and _ h.sh (AllU.and _ h.ln h.hds))
  rintro ⟨a, i, n, k, l, hd, wd, kids⟩ ⟨⟨h1, h2, h3, -⟩, -, h5⟩
  simp only [GUnit.words, GUnit.kids, GUnit.head] at h1 h2 h3 h5
  unfold Proofs.YtiacmahfjcolaaaDoor.okW
  simp only [GUnit.words, GUnit.kids, GUnit.head]
  exact ⟨fun x hx => by have := h1 x hx; omega, by omega, by omega, by omega⟩

set_option maxRecDepth 100000 in
set_option maxHeartbeats 6400000 in
theorem footnotePreservation_law (u : GUnit) (r : RUnit) (w : World) (hr : Reads w u r) (hbig : AllU (lensLe 9223372036854775807 9223372036854775807) u) (hT : Tab w) :
    Calls Tryd.prog 7 #[.agg r.cells.toArray] w fun e w' => e = .returned (.bool true) ∧ Ext w w' := by
  have hx0 : Ext w (w.alloc (.cells r.cells.toArray 27)) := (Ext.refl w).alloc _
  have Hbu := Lib.hid (show ∀ w', Ext (w.alloc (.cells r.cells.toArray 27)) w' → _ from fun w' he => boxUnit (w' := w') r (w := w) he)
  have Hbt := Lib.hid (show ∀ w', Ext (w.alloc (.cells r.cells.toArray 27)) w' → _ from fun w' he => boxT (w' := w') r (w := w) he)
  have Hfew := Lib.hid (show ∀ w', Ext w w' → _ from fun w' he => few6_any u r 60 w' (Reads.ext he _ _ hr) hbig (by decide) (by decide))
  have Hru := Lib.hid (show ∀ w', Ext w w' → Reads w' u r from fun w' he => Reads.ext he _ _ hr)
  have HT := Lib.hid (show ∀ w', Ext w w' → Tab w' from fun w' he => hT.ext he)
  obtain ⟨wz, hwz⟩ : ∃ wz, w.alloc (.cells r.cells.toArray 27) = wz := ⟨_, rfl⟩
  rw [hwz] at hx0 Hbu Hbt
  simp only [RUnit.cells] at hwz
  have Hwz := Lib.hid hwz
  have hok : fewF u 60 = true → OkT u := few_ok
  obtain ⟨F, hF⟩ : ∃ F, fewF u 60 = F := ⟨_, rfl⟩
  rw [hF] at Hfew hok
  have Hok := Lib.hid hok
  simp only [RUnit.cells] at Hfew Hbt ⊢
  clear hwz hbig hr hT hF hok
  go_enter Tryd.func7, Tryd.ntmps7
  go_wp2_with fail
  rw [Hwz.out]
  refine (awake10_any _ (HT.out _ hx0)).mono ?_
  rintro e w1 ⟨rfl, hx1⟩
  obtain ⟨-, u0, u1, u2, u3, u4, u5, u6, u7⟩ := Hbu.out w1 hx1
  go_wp2_with fail
  refine (Hfew.out w1 (hx0.trans hx1)).mono ?_
  rintro e w2 ⟨rfl, hx2⟩
  have hxz : Ext wz w2 := hx1.trans hx2
  have hw0 : Ext w w2 := hx0.trans hxz
  clear u0 u1 u2 u3 u4 u5 u6 u7 Hfew hx0 hx1 hx2
  obtain ⟨-, u0, u1, u2, u3, u4, u5, u6, u7⟩ := Hbu.out w2 hxz
  cases F
  case false =>
    go_wp2
    go_ret
    exact ⟨rfl, hw0⟩
  case true =>
    have hok := Hok.out rfl
    have Hb := Lib.hid (show ∀ w', Ext w2 w' → (TCells [.int .i64 r.a, .int .i64 r.i, .int .i64 r.n, .int .i64 r.kind, .string r.label, .slice r.hA r.hn r.hc, .slice r.wA r.wn r.wc, .slice r.kA r.kn r.kc]).p (.pointer (some ⟨w.heap.size, 0, none⟩)) w' from fun w' he => Hbt.out w' (hxz.trans he))
    have Hbq := Lib.hid (show ∀ w', Ext w2 w' → _ from fun w' he => Hbu.out w' (hxz.trans he))
    have Hr := Lib.hid (show ∀ w', Ext w2 w' → Reads w' u r from fun w' he => Hru.out w' (hw0.trans he))
    have HT2 := Lib.hid (show ∀ w', Ext w2 w' → Tab w' from fun w' he => HT.out w' (hw0.trans he))
    clear Hbt Hbu Hru HT Hok
    have hl0 := fun wq (he : Ext w2 wq) => renumber_any u r wq (Hr.out wq he) hok (HT2.out wq he)
    simp only [RUnit.cells, show RetRen u = fun w e w' => ∃ r' : RUnit, e = .returned (.tuple #[.agg r'.cells.toArray, .bool (validB u)]) ∧ Ext w w' ∧ Reads (mask (fresh w.heap.size) w') (renF u) r' from rfl] at hl0
    have hcl : validB u = true → checkF u = [] := (validB_iff u).1
    have hr1 : validB u = true → renF u = numF u := fun h => by unfold renF; rw [if_pos h]
    have hr0 : validB u = false → renF u = zeroU := fun h => by unfold renF; rw [if_neg (by rw [h]; simp)]
    have hl5 := fun wq (he : Ext w2 wq) => fvalid_any u r wq (Hr.out wq he) hok
    have hl1 := fun wq (he : Ext w2 wq) => refCheck_any u r wq (Hr.out wq he) hok
    have hlen := isEmpty_iff u
    obtain ⟨FL, hFL⟩ : ∃ FL, checkF u = FL := ⟨_, rfl⟩
    obtain ⟨V, hV⟩ : ∃ V, validB u = V := ⟨_, rfl⟩
    rw [hFL] at hl1 hlen
    rw [hV] at hl0 hcl hr1 hr0 hl5 hlen
    simp only [RUnit.cells] at hl1 hl5
    have H0 := Lib.hid hl0
    have H1 := Lib.hid hl1
    have H5 := Lib.hid hl5
    have Hcl := Lib.hid hcl
    have Hr1 := Lib.hid hr1
    have Hr0 := Lib.hid hr0
    have Hlen := Lib.hid hlen
    have Hok := Lib.hid hok
    clear hl0 hl1 hl5 hcl hr1 hr0 hlen hV hFL
    go_wp2_with fail
    refine (H0.out w2 (Ext.refl _)).mono ?_
    rintro e w3 ⟨rx, rfl, hx3, hrx⟩
    have Hrx0 := Lib.hid (Reads.cin (CIn.unmask _ _) _ _ hrx)
    clear u0 u1 u2 u3 u4 u5 u6 u7 hrx
    simp only [RUnit.cells]
    cases V
    case false =>
      go_wp2_with (refine wpList_put rfl 27 (.tmp 3) (.tmp 13) rfl w3.heap.size 0 (.agg rx.cells.toArray) rfl rfl rx.cells rfl Tryd.sizeOf27 (unitEl.h1 rx) 27 _ (heap_alloc_new w3 _) (by simp [unit0, RUnit.cells]) ?_; intro w4 hwp hosp htpp houp hsp hbkp; have hbw4 : w4.heap[w3.heap.size]? = some (.cells rx.cells.toArray 27 (0, 0)) := hbkp.trans (by simp [RUnit.cells]); have hxw4 : Ext w3 w4 := ((Ext.refl w3).alloc _).put (Nat.le_refl _) hwp hosp htpp houp hsp; clear hwp hosp htpp houp hsp hbkp; have hx24 : Ext w2 w4 := hx3.trans hxw4; obtain ⟨-, u0, u1, u2, u3, u4, u5, u6, u7⟩ := Hbq.out w4 hx24; obtain ⟨x0, x1, x2, x3, x4, x5, x6, x7⟩ := unitBlock hbw4)
      have Hx := Lib.hid (show ∀ w', Ext w4 w' → (TCells [.int .i64 rx.a, .int .i64 rx.i, .int .i64 rx.n, .int .i64 rx.kind, .string rx.label, .slice rx.hA rx.hn rx.hc, .slice rx.wA rx.wn rx.wc, .slice rx.kA rx.kn rx.kc]).p (.pointer (some ⟨w3.heap.size, 0, none⟩)) w' from fun w' he => blockT hbw4 (block_lt hbw4) he)
      have Hxu := Lib.hid (show ∀ w', Ext w4 w' → w'.heap[w3.heap.size]? = some (.cells rx.cells.toArray 27 (0, 0)) from fun w' he => (he.block (block_lt hbw4)).trans hbw4)
      have Hrx := Lib.hid (show ∀ w', Ext w4 w' → Reads w' (renF u) rx from fun w' he => Reads.ext (hxw4.trans he) _ _ Hrx0.out)
      clear Hrx0 hbw4
      go_wp2
      go_ret
      exact ⟨rfl, hw0.trans hx24⟩
    go_wp2_with (refine wpList_put rfl 27 (.tmp 3) (.tmp 13) rfl w3.heap.size 0 (.agg rx.cells.toArray) rfl rfl rx.cells rfl Tryd.sizeOf27 (unitEl.h1 rx) 27 _ (heap_alloc_new w3 _) (by simp [unit0, RUnit.cells]) ?_; intro w4 hwp hosp htpp houp hsp hbkp; have hbw4 : w4.heap[w3.heap.size]? = some (.cells rx.cells.toArray 27 (0, 0)) := hbkp.trans (by simp [RUnit.cells]); have hxw4 : Ext w3 w4 := ((Ext.refl w3).alloc _).put (Nat.le_refl _) hwp hosp htpp houp hsp; clear hwp hosp htpp houp hsp hbkp; have hx24 : Ext w2 w4 := hx3.trans hxw4; obtain ⟨-, u0, u1, u2, u3, u4, u5, u6, u7⟩ := Hbq.out w4 hx24; obtain ⟨x0, x1, x2, x3, x4, x5, x6, x7⟩ := unitBlock hbw4)
    have Hx := Lib.hid (show ∀ w', Ext w4 w' → (TCells [.int .i64 rx.a, .int .i64 rx.i, .int .i64 rx.n, .int .i64 rx.kind, .string rx.label, .slice rx.hA rx.hn rx.hc, .slice rx.wA rx.wn rx.wc, .slice rx.kA rx.kn rx.kc]).p (.pointer (some ⟨w3.heap.size, 0, none⟩)) w' from fun w' he => blockT hbw4 (block_lt hbw4) he)
    have Hxu := Lib.hid (show ∀ w', Ext w4 w' → w'.heap[w3.heap.size]? = some (.cells rx.cells.toArray 27 (0, 0)) from fun w' he => (he.block (block_lt hbw4)).trans hbw4)
    have Hrx := Lib.hid (show ∀ w', Ext w4 w' → Reads w' (renF u) rx from fun w' he => Reads.ext (hxw4.trans he) _ _ Hrx0.out)
    clear Hrx0 hbw4
    have hl6 := fun wq (he : Ext w4 wq) => kept_all _ u (numF u) r rx wq (Nat.le_refl _) (Hr.out wq (hx24.trans he)) (Hr1.out (by trivial) ▸ Hrx.out wq he) (kept_num u (Hcl.out (by trivial)) Hok.out.fewA) Hok.out.okW (Hok.out.num (Hcl.out (by trivial))).okW
    simp only [RUnit.cells] at hl6
    have H6 := Lib.hid hl6
    clear hl6
    go_wp2_with fail
    refine (H6.out w4 (Ext.refl _)).mono ?_
    rintro e w5 ⟨rfl, hx5⟩
    go_wp2
    go_ret
    exact ⟨rfl, hw0.trans (hx24.trans hx5)⟩

end Go.Proofs.YtiacmahfjcolaaaDoor
