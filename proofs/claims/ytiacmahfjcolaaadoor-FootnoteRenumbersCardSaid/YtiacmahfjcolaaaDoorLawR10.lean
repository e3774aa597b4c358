/- The law on renumbered trees. -/
import Derived.Test.YtiacmahfjcolaaaDoorLawH10
namespace Go.Proofs.YtiacmahfjcolaaaDoor
open Go.RowKit

set_option maxRecDepth 100000 in
set_option maxHeartbeats 6400000 in
theorem footnoteRenumbers_law (u : GUnit) (r : RUnit) (w : World) (hr : Reads w u r) (hbig : AllU (lensLe 9223372036854775807 9223372036854775807) u) (hT : Tab w) :
    Calls Tryd.prog 5 #[.agg r.cells.toArray] w fun e w' => e = .returned (.bool true) ∧ Ext w w' := by
  have hx0 : Ext w (w.alloc (.cells r.cells.toArray 27)) := (Ext.refl w).alloc _
  have Hbu := Lib.hid (show ∀ w', Ext (w.alloc (.cells r.cells.toArray 27)) w' → _ from fun w' he => boxUnit (w' := w') r (w := w) he)
  have Hbt := Lib.hid (show ∀ w', Ext (w.alloc (.cells r.cells.toArray 27)) w' → _ from fun w' he => boxT (w' := w') r (w := w) he)
  have Hfew := Lib.hid (show ∀ w', Ext w w' → _ from fun w' he => few6_any u r 60 w' (Reads.ext he _ _ hr) hbig (by decide) (by decide))
  have Hru := Lib.hid (show ∀ w', Ext w w' → Reads w' u r from fun w' he => Reads.ext he _ _ hr)
  have HT := Lib.hid (show ∀ w', Ext w w' → Tab w' from fun w' he => hT.ext he)
  obtain ⟨wz, hwz⟩ : ∃ wz, w.alloc (.cells r.cells.toArray 27) = wz := ⟨_, rfl⟩
  rw [hwz] at hx0 Hbu Hbt
  simp only [RUnit.cells] at hwz
  have Hwz := Lib.hid hwz
  have hok : fewF u 60 = true → OkT u := few_ok
  obtain ⟨F, hF⟩ : ∃ F, fewF u 60 = F := ⟨_, rfl⟩
  rw [hF] at Hfew hok
  have Hok := Lib.hid hok
  simp only [RUnit.cells] at Hfew Hbt ⊢
  clear hwz hbig hr hT hF hok
  go_enter Tryd.func5, Tryd.ntmps5
  go_wp2_with fail
  rw [Hwz.out]
  refine (awake10_any _ (HT.out _ hx0)).mono ?_
  rintro e w1 ⟨rfl, hx1⟩
  obtain ⟨-, u0, u1, u2, u3, u4, u5, u6, u7⟩ := Hbu.out w1 hx1
  go_wp2_with fail
  refine (Hfew.out w1 (hx0.trans hx1)).mono ?_
  rintro e w2 ⟨rfl, hx2⟩
  have hxz : Ext wz w2 := hx1.trans hx2
  have hw0 : Ext w w2 := hx0.trans hxz
  clear u0 u1 u2 u3 u4 u5 u6 u7 Hfew hx0 hx1 hx2
  obtain ⟨-, u0, u1, u2, u3, u4, u5, u6, u7⟩ := Hbu.out w2 hxz
  cases F
  case false =>
    go_wp2
    go_ret
    exact ⟨rfl, hw0⟩
  case true =>
    have hok := Hok.out rfl
    have Hb := Lib.hid (show ∀ w', Ext w2 w' → (TCells [.int .i64 r.a, .int .i64 r.i, .int .i64 r.n, .int .i64 r.kind, .string r.label, .slice r.hA r.hn r.hc, .slice r.wA r.wn r.wc, .slice r.kA r.kn r.kc]).p (.pointer (some ⟨w.heap.size, 0, none⟩)) w' from fun w' he => Hbt.out w' (hxz.trans he))
    have Hbq := Lib.hid (show ∀ w', Ext w2 w' → _ from fun w' he => Hbu.out w' (hxz.trans he))
    have Hr := Lib.hid (show ∀ w', Ext w2 w' → Reads w' u r from fun w' he => Hru.out w' (hw0.trans he))
    have HT2 := Lib.hid (show ∀ w', Ext w2 w' → Tab w' from fun w' he => HT.out w' (hw0.trans he))
    clear Hbt Hbu Hru HT Hok
    have hl0 := fun wq (he : Ext w2 wq) => renumber_any u r wq (Hr.out wq he) hok (HT2.out wq he)
    simp only [RUnit.cells, show RetRen u = fun w e w' => ∃ r' : RUnit, e = .returned (.tuple #[.agg r'.cells.toArray, .bool (validB u)]) ∧ Ext w w' ∧ Reads (mask (fresh w.heap.size) w') (renF u) r' from rfl] at hl0
    have hcl : validB u = true → checkF u = [] := (validB_iff u).1
    have hr1 : validB u = true → renF u = numF u := fun h => by unfold renF; rw [if_pos h]
    have hr0 : validB u = false → renF u = zeroU := fun h => by unfold renF; rw [if_neg (by rw [h]; simp)]
    have hl5 := fun wq (he : Ext w2 wq) => fvalid_any u r wq (Hr.out wq he) hok
    have hl1 := fun wq (he : Ext w2 wq) => refCheck_any u r wq (Hr.out wq he) hok
    have hlen := isEmpty_iff u
    obtain ⟨FL, hFL⟩ : ∃ FL, checkF u = FL := ⟨_, rfl⟩
    obtain ⟨V, hV⟩ : ∃ V, validB u = V := ⟨_, rfl⟩
    rw [hFL] at hl1 hlen
    rw [hV] at hl0 hcl hr1 hr0 hl5 hlen
    simp only [RUnit.cells] at hl1 hl5
    have H0 := Lib.hid hl0
    have H1 := Lib.hid hl1
    have H5 := Lib.hid hl5
    have Hcl := Lib.hid hcl
    have Hr1 := Lib.hid hr1
    have Hr0 := Lib.hid hr0
    have Hlen := Lib.hid hlen
    have Hok := Lib.hid hok
    clear hl0 hl1 hl5 hcl hr1 hr0 hlen hV hFL
    go_wp2_with fail
    refine (H0.out w2 (Ext.refl _)).mono ?_
    rintro e w3 ⟨rx, rfl, hx3, hrx⟩
    have Hrx0 := Lib.hid (Reads.cin (CIn.unmask _ _) _ _ hrx)
    clear u0 u1 u2 u3 u4 u5 u6 u7 hrx
    simp only [RUnit.cells]
    go_wp2_with (refine wpList_put rfl 27 (.tmp 3) (.tmp 13) rfl w3.heap.size 0 (.agg rx.cells.toArray) rfl rfl rx.cells rfl Tryd.sizeOf27 (unitEl.h1 rx) 27 _ (heap_alloc_new w3 _) (by simp [unit0, RUnit.cells]) ?_; intro w4 hwp hosp htpp houp hsp hbkp; have hbw4 : w4.heap[w3.heap.size]? = some (.cells rx.cells.toArray 27 (0, 0)) := hbkp.trans (by simp [RUnit.cells]); have hxw4 : Ext w3 w4 := ((Ext.refl w3).alloc _).put (Nat.le_refl _) hwp hosp htpp houp hsp; clear hwp hosp htpp houp hsp hbkp; have hx24 : Ext w2 w4 := hx3.trans hxw4; obtain ⟨-, u0, u1, u2, u3, u4, u5, u6, u7⟩ := Hbq.out w4 hx24; obtain ⟨x0, x1, x2, x3, x4, x5, x6, x7⟩ := unitBlock hbw4)
    have Hx := Lib.hid (show ∀ w', Ext w4 w' → (TCells [.int .i64 rx.a, .int .i64 rx.i, .int .i64 rx.n, .int .i64 rx.kind, .string rx.label, .slice rx.hA rx.hn rx.hc, .slice rx.wA rx.wn rx.wc, .slice rx.kA rx.kn rx.kc]).p (.pointer (some ⟨w3.heap.size, 0, none⟩)) w' from fun w' he => blockT hbw4 (block_lt hbw4) he)
    have Hxu := Lib.hid (show ∀ w', Ext w4 w' → w'.heap[w3.heap.size]? = some (.cells rx.cells.toArray 27 (0, 0)) from fun w' he => (he.block (block_lt hbw4)).trans hbw4)
    have Hrx := Lib.hid (show ∀ w', Ext w4 w' → Reads w' (renF u) rx from fun w' he => Reads.ext (hxw4.trans he) _ _ Hrx0.out)
    clear Hrx0 hbw4
    go_wp2_with fail
    refine (H1.out w4 hx24).mono ?_
    rintro e w5 ⟨v5, rfl, hown5, hx5⟩
    obtain ⟨A5, c5, rfl, hc5, -⟩ := hown5.form
    clear hown5 u0 u1 u2 u3 u4 u5 u6 u7 x0 x1 x2 x3 x4 x5 x6 x7
    obtain ⟨x0, x1, x2, x3, x4, x5, x6, x7⟩ := unitBlock (Hxu.out w5 hx5)
    have hx25 := hx24.trans hx5
    cases V
    case false =>
      have d1 : decide (0 < (FL.length : Int)) = true := by
        have := Hlen.out
        refine decide_eq_true ?_
        have h2 := of_decide_eq_false this.symm
        omega
      have d1' : decide (0 < FL.length) = true := decide_eq_true (by have := of_decide_eq_true d1; omega)
      have hsm := same6_eq _ zeroU rx unit0 w5 (Nat.le_refl _) (Hr0.out rfl ▸ Hrx.out w5 hx5) (reads_zero _) (by unfold zeroU; rw [AllU, AllUs, lensLe]; simp)
      simp only [RUnit.cells, unit0] at hsm
      have Hsm := Lib.hid hsm
      clear hsm
      go_wp2_with fail
      refine (Hsm.out).mono ?_
      rintro e w6 ⟨rfl, hx6⟩
      go_wp2
      go_ret
      exact ⟨rfl, hw0.trans (hx25.trans hx6)⟩
    have d1 : FL.length = 0 := by
      have h2 := of_decide_eq_true Hlen.out.symm
      omega
    rw [d1]
    clear d1
    have hl6 := fun wq (he : Ext w5 wq) => refNumber_any u r wq (Hr.out wq (hx25.trans he)) Hok.out (Hcl.out rfl)
    have hl7 := fun wq (ry : RUnit) (he : Ext w5 wq) (hy : Reads wq (numF u) ry) => same6_eq _ (numF u) rx ry wq (Nat.le_refl _) (Hr1.out rfl ▸ Hrx.out wq (hx5.trans he)) hy (Hok.out.num (Hcl.out rfl)).ln
    simp only [RUnit.cells] at hl6 hl7
    have H6 := Lib.hid hl6
    have H7 := Lib.hid hl7
    clear hl6 hl7
    go_wp2
    refine wp_drawn (by kernel_rfl) (fun i => match i with | 0 => Ty.is (.bool true) | 1 => Ty.is (.bool true) | 2 => TGd (true = true) (Ty.is (.agg #[.int .i64 rx.a, .int .i64 rx.i, .int .i64 rx.n, .int .i64 rx.kind, .string rx.label, .slice rx.hA rx.hn rx.hc, .slice rx.wA rx.wn rx.wc, .slice rx.kA rx.kn rx.kc])) | 3 => TGd (true = true) (Ty.is (.agg #[.int .i64 r.a, .int .i64 r.i, .int .i64 r.n, .int .i64 r.kind, .string r.label, .slice r.hA r.hn r.hc, .slice r.wA r.wn r.wc, .slice r.kA r.kn r.kc])) | 4 => TGd (true = true) (TReads (numF u)) | 5 => TGd (true = true) (Ty.is (.bool true)) | 6 => Ty.is (.bool (true && true)) | 7 => Ty.is (.bool (true && true)) | _ => Ty.any) (by kernel_rfl) rfl ?_
    intro v
    refine ⟨?_, ?_, ?_, ?_, ?_, ?_, ?_, ?_, ?_⟩
    · intro wq hq hd
      refine ob_plain rfl ?_
      exact yld_move (.tmp 4) rfl rfl rfl
    · intro wq hq hd
      obtain ⟨h0, -⟩ := hd
      change v 0 = _ at h0
      refine ob_plain rfl ?_
      exact yld_move (.tmp 26) rfl h0 rfl
    · intro wq hq hd
      obtain ⟨h0, -⟩ := hd
      change v 1 = _ at h0
      refine ob_guard 1 true (true) rfl (yields_of rfl h0) (fun hg => ?_) (fun hg => ?_)
      · refine Yld.gd (p := true = true) (T := Ty.is (.agg #[.int .i64 rx.a, .int .i64 rx.i, .int .i64 rx.n, .int .i64 rx.kind, .string rx.label, .slice rx.hA rx.hn rx.hc, .slice rx.wA rx.wn rx.wc, .slice rx.kA rx.kn rx.kc])) ?_
        exact yld_loadAgg 27 (.tmp 3) rfl Tryd.isAgg27 8 Tryd.sizeOf27 [.int .i64 rx.a, .int .i64 rx.i, .int .i64 rx.n, .int .i64 rx.kind, .string rx.label, .slice rx.hA rx.hn rx.hc, .slice rx.wA rx.wn rx.wc, .slice rx.kA rx.kn rx.kc] rfl (Hx.out _ (hx5.trans hq)) rfl
      · intro hn; rw [hn] at hg; cases hg
    · intro wq hq hd
      obtain ⟨h0, -⟩ := hd
      change v 1 = _ at h0
      refine ob_guard 1 true (true) rfl (yields_of rfl h0) (fun hg => ?_) (fun hg => ?_)
      · refine Yld.gd (p := true = true) (T := Ty.is (.agg #[.int .i64 r.a, .int .i64 r.i, .int .i64 r.n, .int .i64 r.kind, .string r.label, .slice r.hA r.hn r.hc, .slice r.wA r.wn r.wc, .slice r.kA r.kn r.kc])) ?_
        exact yld_loadAgg 27 (.tmp 1) rfl Tryd.isAgg27 8 Tryd.sizeOf27 [.int .i64 r.a, .int .i64 r.i, .int .i64 r.n, .int .i64 r.kind, .string r.label, .slice r.hA r.hn r.hc, .slice r.wA r.wn r.wc, .slice r.kA r.kn r.kc] rfl (Hb.out _ (hx25.trans hq)) rfl
      · intro hn; rw [hn] at hg; cases hg
    · intro wq hq hd
      obtain ⟨h0, h1, h2, -⟩ := hd
      change (true = true) → v 3 = _ at h0
      change v 1 = _ at h1
      refine ob_guard 1 true (true) rfl (yields_of rfl h1) (fun hg => ?_) (fun hg => ?_)
      · refine Yld.gd (p := true = true) (T := TReads (numF u)) ?_
        replace h0 := h0 hg
        refine yld_call 26 Tryd.call26 _ _ rfl rfl [_] ⟨h0, trivial⟩ ?_
        refine (H6.out _ hq).mono ?_
        rintro e w' ⟨r', rfl, hx', hr'⟩
        exact ⟨_, rfl, hx', r', rfl, hr'⟩
      · intro hn; rw [hn] at hg; cases hg
    · intro wq hq hd
      obtain ⟨h0, h1, h2, h3, -⟩ := hd
      change (true = true) → v 2 = _ at h0
      change (true = true) → (TReads (numF u)).p (v 4) wq at h1
      change v 1 = _ at h3
      refine ob_guard 1 true (true) rfl (yields_of rfl h3) (fun hg => ?_) (fun hg => ?_)
      · refine Yld.gd (p := true = true) (T := Ty.is (.bool true)) ?_
        replace h0 := h0 hg
        replace h1 := h1 hg
        obtain ⟨ry, g1, g2⟩ := h1
        refine yld_call 25 Tryd.call25 _ _ rfl rfl [_, _] ⟨h0, g1, trivial⟩ ?_
        refine (H7.out _ ry hq g2).mono ?_
        rintro e w' ⟨rfl, hx'⟩
        exact ⟨_, rfl, hx', rfl⟩
      · intro hn; rw [hn] at hg; cases hg
    · intro wq hq hd
      obtain ⟨h0, h1, -⟩ := hd
      change v 1 = _ at h0
      change (true = true) → v 5 = _ at h1
      refine ob_plain rfl ?_
      exact yld_and (.tmp 27) (.tmp 31) rfl rfl _ _ h0 (fun hgd => h1 hgd) rfl
    · intro wq hq hd
      obtain ⟨h0, h1, h2, h3, h4, h5, h6, h7, h8, -⟩ := hd
      change v 6 = _ at h0
      refine ob_plain rfl ?_
      exact yld_assign (.tmp 32) rfl h0 rfl
    · intro wq hq hT
      have k7 := hT 7 (by decide)
      change v 7 = _ at k7
      clear hT
      simp only [List.drop_succ_cons, List.drop_zero, putE, setsE, List.set_cons_succ, List.set_cons_zero, Nat.reduceAdd]
      rw [k7]
      go_wp2
      go_ret
      exact ⟨by simp, hw0.trans (hx25.trans hq)⟩

end Go.Proofs.YtiacmahfjcolaaaDoor
