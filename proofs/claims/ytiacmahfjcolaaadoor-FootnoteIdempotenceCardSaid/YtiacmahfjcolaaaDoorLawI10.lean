/- The law on renumbering twice. -/
import Derived.Test.YtiacmahfjcolaaaDoorLawH10
import Derived.Test.YtiacmahfjcolaaaDoorCounted10
namespace Go.Proofs.YtiacmahfjcolaaaDoor
open Go.RowKit

set_option maxRecDepth 100000 in
set_option maxHeartbeats 6400000 in
theorem footnoteIdempotence_law (u : GUnit) (r : RUnit) (w : World) (hr : Reads w u r) (hbig : AllU (lensLe 9223372036854775807 9223372036854775807) u) (hT : Tab w) :
    Calls Tryd.prog 6 #[.agg r.cells.toArray] w fun e w' => e = .returned (.bool true) ∧ Ext w w' := by
  have hx0 : Ext w (w.alloc (.cells r.cells.toArray 27)) := (Ext.refl w).alloc _
  have Hbu := Lib.hid (show ∀ w', Ext (w.alloc (.cells r.cells.toArray 27)) w' → _ from fun w' he => boxUnit (w' := w') r (w := w) he)
  have Hbt := Lib.hid (show ∀ w', Ext (w.alloc (.cells r.cells.toArray 27)) w' → _ from fun w' he => boxT (w' := w') r (w := w) he)
  have Hfew := Lib.hid (show ∀ w', Ext w w' → _ from fun w' he => few6_any u r 60 w' (Reads.ext he _ _ hr) hbig (by decide) (by decide))
  have Hru := Lib.hid (show ∀ w', Ext w w' → Reads w' u r from fun w' he => Reads.ext he _ _ hr)
  have HT := Lib.hid (show ∀ w', Ext w w' → Tab w' from fun w' he => hT.ext he)
  obtain ⟨wz, hwz⟩ : ∃ wz, w.alloc (.cells r.cells.toArray 27) = wz := ⟨_, rfl⟩
  rw [hwz] at hx0 Hbu Hbt
  simp only [RUnit.cells] at hwz
  have Hwz := Lib.hid hwz
  have hok : fewF u 60 = true → OkT u := few_ok
  obtain ⟨F, hF⟩ : ∃ F, fewF u 60 = F := ⟨_, rfl⟩
  rw [hF] at Hfew hok
  have Hok := Lib.hid hok
  simp only [RUnit.cells] at Hfew Hbt ⊢
  clear hwz hbig hr hT hF hok
  go_enter Tryd.func6, Tryd.ntmps6
  go_wp2_with fail
  rw [Hwz.out]
  refine (awake10_any _ (HT.out _ hx0)).mono ?_
  rintro e w1 ⟨rfl, hx1⟩
  obtain ⟨-, u0, u1, u2, u3, u4, u5, u6, u7⟩ := Hbu.out w1 hx1
  go_wp2_with fail
  refine (Hfew.out w1 (hx0.trans hx1)).mono ?_
  rintro e w2 ⟨rfl, hx2⟩
  have hxz : Ext wz w2 := hx1.trans hx2
  have hw0 : Ext w w2 := hx0.trans hxz
  clear u0 u1 u2 u3 u4 u5 u6 u7 Hfew hx0 hx1 hx2
  obtain ⟨-, u0, u1, u2, u3, u4, u5, u6, u7⟩ := Hbu.out w2 hxz
  cases F
  case false =>
    go_wp2
    go_ret
    exact ⟨rfl, hw0⟩
  case true =>
    have hok := Hok.out rfl
    have Hb := Lib.hid (show ∀ w', Ext w2 w' → (TCells [.int .i64 r.a, .int .i64 r.i, .int .i64 r.n, .int .i64 r.kind, .string r.label, .slice r.hA r.hn r.hc, .slice r.wA r.wn r.wc, .slice r.kA r.kn r.kc]).p (.pointer (some ⟨w.heap.size, 0, none⟩)) w' from fun w' he => Hbt.out w' (hxz.trans he))
    have Hbq := Lib.hid (show ∀ w', Ext w2 w' → _ from fun w' he => Hbu.out w' (hxz.trans he))
    have Hr := Lib.hid (show ∀ w', Ext w2 w' → Reads w' u r from fun w' he => Hru.out w' (hw0.trans he))
    have HT2 := Lib.hid (show ∀ w', Ext w2 w' → Tab w' from fun w' he => HT.out w' (hw0.trans he))
    clear Hbt Hbu Hru HT Hok
    have hl0 := fun wq (he : Ext w2 wq) => renumber_any u r wq (Hr.out wq he) hok (HT2.out wq he)
    simp only [RUnit.cells, show RetRen u = fun w e w' => ∃ r' : RUnit, e = .returned (.tuple #[.agg r'.cells.toArray, .bool (validB u)]) ∧ Ext w w' ∧ Reads (mask (fresh w.heap.size) w') (renF u) r' from rfl] at hl0
    have hcl : validB u = true → checkF u = [] := (validB_iff u).1
    have hr1 : validB u = true → renF u = numF u := fun h => by unfold renF; rw [if_pos h]
    have hr0 : validB u = false → renF u = zeroU := fun h => by unfold renF; rw [if_neg (by rw [h]; simp)]
    have hl5 := fun wq (he : Ext w2 wq) => fvalid_any u r wq (Hr.out wq he) hok
    have hl1 := fun wq (he : Ext w2 wq) => refCheck_any u r wq (Hr.out wq he) hok
    have hlen := isEmpty_iff u
    obtain ⟨FL, hFL⟩ : ∃ FL, checkF u = FL := ⟨_, rfl⟩
    obtain ⟨V, hV⟩ : ∃ V, validB u = V := ⟨_, rfl⟩
    rw [hFL] at hl1 hlen
    rw [hV] at hl0 hcl hr1 hr0 hl5 hlen
    simp only [RUnit.cells] at hl1 hl5
    have H0 := Lib.hid hl0
    have H1 := Lib.hid hl1
    have H5 := Lib.hid hl5
    have Hcl := Lib.hid hcl
    have Hr1 := Lib.hid hr1
    have Hr0 := Lib.hid hr0
    have Hlen := Lib.hid hlen
    have Hok := Lib.hid hok
    clear hl0 hl1 hl5 hcl hr1 hr0 hlen hV hFL
    go_wp2_with fail
    refine (H0.out w2 (Ext.refl _)).mono ?_
    rintro e w3 ⟨rx, rfl, hx3, hrx⟩
    have Hrx0 := Lib.hid (Reads.cin (CIn.unmask _ _) _ _ hrx)
    clear u0 u1 u2 u3 u4 u5 u6 u7 hrx
    simp only [RUnit.cells]
    go_wp2_with (refine wpList_put rfl 27 (.tmp 3) (.tmp 15) rfl w3.heap.size 0 (.agg rx.cells.toArray) rfl rfl rx.cells rfl Tryd.sizeOf27 (unitEl.h1 rx) 27 _ (heap_alloc_new w3 _) (by simp [unit0, RUnit.cells]) ?_; intro w4 hwp hosp htpp houp hsp hbkp; have hbw4 : w4.heap[w3.heap.size]? = some (.cells rx.cells.toArray 27 (0, 0)) := hbkp.trans (by simp [RUnit.cells]); have hxw4 : Ext w3 w4 := ((Ext.refl w3).alloc _).put (Nat.le_refl _) hwp hosp htpp houp hsp; clear hwp hosp htpp houp hsp hbkp; have hx24 : Ext w2 w4 := hx3.trans hxw4; obtain ⟨-, u0, u1, u2, u3, u4, u5, u6, u7⟩ := Hbq.out w4 hx24; obtain ⟨x0, x1, x2, x3, x4, x5, x6, x7⟩ := unitBlock hbw4)
    have Hx := Lib.hid (show ∀ w', Ext w4 w' → (TCells [.int .i64 rx.a, .int .i64 rx.i, .int .i64 rx.n, .int .i64 rx.kind, .string rx.label, .slice rx.hA rx.hn rx.hc, .slice rx.wA rx.wn rx.wc, .slice rx.kA rx.kn rx.kc]).p (.pointer (some ⟨w3.heap.size, 0, none⟩)) w' from fun w' he => blockT hbw4 (block_lt hbw4) he)
    have Hxu := Lib.hid (show ∀ w', Ext w4 w' → w'.heap[w3.heap.size]? = some (.cells rx.cells.toArray 27 (0, 0)) from fun w' he => (he.block (block_lt hbw4)).trans hbw4)
    have Hrx := Lib.hid (show ∀ w', Ext w4 w' → Reads w' (renF u) rx from fun w' he => Reads.ext (hxw4.trans he) _ _ Hrx0.out)
    clear Hrx0 hbw4
    go_wp2_with fail
    refine (H5.out w4 hx24).mono ?_
    rintro e w5 ⟨rfl, hx5⟩
    clear u0 u1 u2 u3 u4 u5 u6 u7 x0 x1 x2 x3 x4 x5 x6 x7
    obtain ⟨x0, x1, x2, x3, x4, x5, x6, x7⟩ := unitBlock (Hxu.out w5 hx5)
    have hx25 := hx24.trans hx5
    cases V
    case false =>
      go_wp2
      go_ret
      exact ⟨rfl, hw0.trans hx25⟩
    have hck := Hcl.out rfl
    have hokX := Hok.out.num hck
    have hckX : checkF (numF u) = [] := check_num u hck Hok.out.fewA
    have hvX : validB (numF u) = true := (validB_iff _).2 hckX
    have hXX : renF (numF u) = numF u := by unfold renF; rw [if_pos hvX]; exact num_num u hck Hok.out.fewA
    have hnX : notesF (numF u) = notesF u := notes_num u hck Hok.out.fewA
    have hcX : AllU CntU (numF u) := cnt_num u hck Hok.out.fewA
    have hrX : ∀ w', Ext w5 w' → Reads w' (numF u) rx := fun w' he => Hr1.out rfl ▸ Hrx.out w' (hx5.trans he)
    have hl6 := fun wq (he : Ext w5 wq) => renumber_any (numF u) rx wq (hrX wq he) hokX (HT2.out wq (hx25.trans he))
    simp only [show RetRen (numF u) = fun w e w' => ∃ r' : RUnit, e = .returned (.tuple #[.agg r'.cells.toArray, .bool (validB (numF u))]) ∧ Ext w w' ∧ Reads (mask (fresh w.heap.size) w') (renF (numF u)) r' from rfl, hvX, hXX] at hl6
    have hl7 := fun wq (ry : RUnit) (he : Ext w5 wq) (hy : Reads wq (numF u) ry) => same6_eq _ (numF u) rx ry wq (Nat.le_refl _) (hrX wq he) hy hokX.ln
    have hl8 := fun wq (he : Ext w5 wq) => fvalid_any (numF u) rx wq (hrX wq he) hokX
    rw [hvX] at hl8
    have hl9 := fun wq (he : Ext w5 wq) => notes_any (numF u) rx wq (hrX wq he) hokX
    have hl10 := fun wq (he : Ext w5 wq) => notes_any u r wq (Hr.out wq (hx25.trans he)) Hok.out
    have hl11 := fun wq (he : Ext w5 wq) => counted_any (numF u) rx wq (hrX wq he) hokX hcX
    have hnl := (okT_lens Hok.out).2
    rw [hnX] at hl9
    obtain ⟨NL, hNL⟩ : ∃ NL, notesF u = NL := ⟨_, rfl⟩
    rw [hNL] at hl9 hl10 hnl
    simp only [RUnit.cells] at hl6 hl7 hl8 hl9 hl10 hl11
    have H6 := Lib.hid hl6
    have H7 := Lib.hid hl7
    have H8 := Lib.hid hl8
    have H9 := Lib.hid hl9
    have H10 := Lib.hid hl10
    have H11 := Lib.hid hl11
    have Hnl := Lib.hid hnl
    clear hl6 hl7 hl8 hl9 hl10 hl11 hnl hNL hck hokX hckX hvX hXX hnX hcX hrX
    go_wp2_with fail
    refine (H6.out w5 (Ext.refl _)).mono ?_
    rintro e w6 ⟨ry, rfl, hx6, hry⟩
    have Hry0 := Lib.hid (Reads.cin (CIn.unmask _ _) _ _ hry)
    clear hry x0 x1 x2 x3 x4 x5 x6 x7
    simp only [RUnit.cells]
    go_wp2_with (refine wpList_put rfl 27 (.tmp 5) (.tmp 26) rfl w6.heap.size 0 (.agg ry.cells.toArray) rfl rfl ry.cells rfl Tryd.sizeOf27 (unitEl.h1 ry) 27 _ (heap_alloc_new w6 _) (by simp [unit0, RUnit.cells]) ?_; intro w7 hwp hosp htpp houp hsp hbkp; have hbw7 : w7.heap[w6.heap.size]? = some (.cells ry.cells.toArray 27 (0, 0)) := hbkp.trans (by simp [RUnit.cells]); have hxw7 : Ext w6 w7 := ((Ext.refl w6).alloc _).put (Nat.le_refl _) hwp hosp htpp houp hsp; clear hwp hosp htpp houp hsp hbkp; have hx57 : Ext w5 w7 := hx6.trans hxw7)
    have Hy := Lib.hid (show ∀ w', Ext w7 w' → (TCells [.int .i64 ry.a, .int .i64 ry.i, .int .i64 ry.n, .int .i64 ry.kind, .string ry.label, .slice ry.hA ry.hn ry.hc, .slice ry.wA ry.wn ry.wc, .slice ry.kA ry.kn ry.kc]).p (.pointer (some ⟨w6.heap.size, 0, none⟩)) w' from fun w' he => blockT hbw7 (block_lt hbw7) he)
    have Hry := Lib.hid (show ∀ w', Ext w7 w' → Reads w' (numF u) ry from fun w' he => Reads.ext (hxw7.trans he) _ _ Hry0.out)
    clear Hry0 hbw7
    refine wp_drawn (by kernel_rfl) (fun i => match i with | 0 => Ty.is (.bool true) | 1 => Ty.is (.bool true) | 2 => TGd (true = true) (Ty.is (.agg #[.int .i64 rx.a, .int .i64 rx.i, .int .i64 rx.n, .int .i64 rx.kind, .string rx.label, .slice rx.hA rx.hn rx.hc, .slice rx.wA rx.wn rx.wc, .slice rx.kA rx.kn rx.kc])) | 3 => TGd (true = true) (Ty.is (.bool true)) | 4 => Ty.is (.bool (true && true)) | 5 => Ty.is (.bool (true && true)) | 6 => TGd ((true && true) = true) (Ty.is (.agg #[.int .i64 rx.a, .int .i64 rx.i, .int .i64 rx.n, .int .i64 rx.kind, .string rx.label, .slice rx.hA rx.hn rx.hc, .slice rx.wA rx.wn rx.wc, .slice rx.kA rx.kn rx.kc])) | 7 => TGd ((true && true) = true) (Ty.is (.agg #[.int .i64 ry.a, .int .i64 ry.i, .int .i64 ry.n, .int .i64 ry.kind, .string ry.label, .slice ry.hA ry.hn ry.hc, .slice ry.wA ry.wn ry.wc, .slice ry.kA ry.kn ry.kc])) | 8 => TGd ((true && true) = true) (Ty.is (.bool true)) | 9 => Ty.is (.bool ((true && true) && true)) | 10 => Ty.is (.bool ((true && true) && true)) | 11 => TGd (((true && true) && true) = true) (Ty.is (.agg #[.int .i64 rx.a, .int .i64 rx.i, .int .i64 rx.n, .int .i64 rx.kind, .string rx.label, .slice rx.hA rx.hn rx.hc, .slice rx.wA rx.wn rx.wc, .slice rx.kA rx.kn rx.kc])) | 12 => TGd (((true && true) && true) = true) (TSl idEl NL) | 13 => TGd (((true && true) && true) = true) (Ty.is (.agg #[.int .i64 r.a, .int .i64 r.i, .int .i64 r.n, .int .i64 r.kind, .string r.label, .slice r.hA r.hn r.hc, .slice r.wA r.wn r.wc, .slice r.kA r.kn r.kc])) | 14 => TGd (((true && true) && true) = true) (TSl idEl NL) | 15 => TGd (((true && true) && true) = true) (Ty.is (.bool true)) | 16 => Ty.is (.bool (((true && true) && true) && true)) | 17 => Ty.is (.bool (((true && true) && true) && true)) | 18 => TGd ((((true && true) && true) && true) = true) (Ty.is (.agg #[.int .i64 rx.a, .int .i64 rx.i, .int .i64 rx.n, .int .i64 rx.kind, .string rx.label, .slice rx.hA rx.hn rx.hc, .slice rx.wA rx.wn rx.wc, .slice rx.kA rx.kn rx.kc])) | 19 => TGd ((((true && true) && true) && true) = true) (Ty.is (.bool true)) | 20 => Ty.is (.bool ((((true && true) && true) && true) && true)) | 21 => Ty.is (.bool ((((true && true) && true) && true) && true)) | _ => Ty.any) (by kernel_rfl) rfl ?_
    intro v
    refine ⟨?_, ?_, ?_, ?_, ?_, ?_, ?_, ?_, ?_, ?_, ?_, ?_, ?_, ?_, ?_, ?_, ?_, ?_, ?_, ?_, ?_, ?_, ?_⟩
    · intro wq hq hd
      refine ob_plain rfl ?_
      exact yld_move (.tmp 6) rfl rfl rfl
    · intro wq hq hd
      obtain ⟨h0, -⟩ := hd
      change v 0 = _ at h0
      refine ob_plain rfl ?_
      exact yld_move (.tmp 28) rfl h0 rfl
    · intro wq hq hd
      obtain ⟨h0, -⟩ := hd
      change v 1 = _ at h0
      refine ob_guard 1 true (true) rfl (yields_of rfl h0) (fun hg => ?_) (fun hg => ?_)
      · refine Yld.gd (p := true = true) (T := Ty.is (.agg #[.int .i64 rx.a, .int .i64 rx.i, .int .i64 rx.n, .int .i64 rx.kind, .string rx.label, .slice rx.hA rx.hn rx.hc, .slice rx.wA rx.wn rx.wc, .slice rx.kA rx.kn rx.kc])) ?_
        exact yld_loadAgg 27 (.tmp 3) rfl Tryd.isAgg27 8 Tryd.sizeOf27 [.int .i64 rx.a, .int .i64 rx.i, .int .i64 rx.n, .int .i64 rx.kind, .string rx.label, .slice rx.hA rx.hn rx.hc, .slice rx.wA rx.wn rx.wc, .slice rx.kA rx.kn rx.kc] rfl (Hx.out _ (hx5.trans (hx57.trans hq))) rfl
      · intro hn; rw [hn] at hg; cases hg
    · intro wq hq hd
      obtain ⟨h0, h1, h2, -⟩ := hd
      change (true = true) → v 2 = _ at h0
      change v 1 = _ at h1
      refine ob_guard 1 true (true) rfl (yields_of rfl h1) (fun hg => ?_) (fun hg => ?_)
      · refine Yld.gd (p := true = true) (T := Ty.is (.bool true)) ?_
        replace h0 := h0 hg
        refine yld_call 20 Tryd.call20 _ _ rfl rfl [_] ⟨h0, trivial⟩ ?_
        refine (H8.out _ (hx57.trans hq)).mono ?_
        rintro e w' ⟨rfl, hx'⟩
        exact ⟨_, rfl, hx', rfl⟩
      · intro hn; rw [hn] at hg; cases hg
    · intro wq hq hd
      obtain ⟨h0, h1, -⟩ := hd
      change v 1 = _ at h0
      change (true = true) → v 3 = _ at h1
      refine ob_plain rfl ?_
      exact yld_and (.tmp 29) (.tmp 31) rfl rfl _ _ h0 (fun hgd => h1 hgd) rfl
    · intro wq hq hd
      obtain ⟨h0, h1, -⟩ := hd
      change v 4 = _ at h0
      refine ob_plain rfl ?_
      exact yld_move (.tmp 32) rfl h0 rfl
    · intro wq hq hd
      obtain ⟨h0, -⟩ := hd
      change v 5 = _ at h0
      refine ob_guard 5 true ((true && true)) rfl (yields_of rfl h0) (fun hg => ?_) (fun hg => ?_)
      · refine Yld.gd (p := (true && true) = true) (T := Ty.is (.agg #[.int .i64 rx.a, .int .i64 rx.i, .int .i64 rx.n, .int .i64 rx.kind, .string rx.label, .slice rx.hA rx.hn rx.hc, .slice rx.wA rx.wn rx.wc, .slice rx.kA rx.kn rx.kc])) ?_
        exact yld_loadAgg 27 (.tmp 3) rfl Tryd.isAgg27 8 Tryd.sizeOf27 [.int .i64 rx.a, .int .i64 rx.i, .int .i64 rx.n, .int .i64 rx.kind, .string rx.label, .slice rx.hA rx.hn rx.hc, .slice rx.wA rx.wn rx.wc, .slice rx.kA rx.kn rx.kc] rfl (Hx.out _ (hx5.trans (hx57.trans hq))) rfl
      · intro hn; rw [hn] at hg; cases hg
    · intro wq hq hd
      obtain ⟨h0, -⟩ := hd
      change v 5 = _ at h0
      refine ob_guard 5 true ((true && true)) rfl (yields_of rfl h0) (fun hg => ?_) (fun hg => ?_)
      · refine Yld.gd (p := (true && true) = true) (T := Ty.is (.agg #[.int .i64 ry.a, .int .i64 ry.i, .int .i64 ry.n, .int .i64 ry.kind, .string ry.label, .slice ry.hA ry.hn ry.hc, .slice ry.wA ry.wn ry.wc, .slice ry.kA ry.kn ry.kc])) ?_
        exact yld_loadAgg 27 (.tmp 5) rfl Tryd.isAgg27 8 Tryd.sizeOf27 [.int .i64 ry.a, .int .i64 ry.i, .int .i64 ry.n, .int .i64 ry.kind, .string ry.label, .slice ry.hA ry.hn ry.hc, .slice ry.wA ry.wn ry.wc, .slice ry.kA ry.kn ry.kc] rfl (Hy.out _ hq) rfl
      · intro hn; rw [hn] at hg; cases hg
    · intro wq hq hd
      obtain ⟨h0, h1, h2, h3, -⟩ := hd
      change ((true && true) = true) → v 6 = _ at h0
      change ((true && true) = true) → v 7 = _ at h1
      change v 5 = _ at h2
      refine ob_guard 5 true ((true && true)) rfl (yields_of rfl h2) (fun hg => ?_) (fun hg => ?_)
      · refine Yld.gd (p := (true && true) = true) (T := Ty.is (.bool true)) ?_
        replace h0 := h0 hg
        replace h1 := h1 hg
        refine yld_call 25 Tryd.call25 _ _ rfl rfl [_, _] ⟨h0, h1, trivial⟩ ?_
        refine (H7.out _ ry (hx57.trans hq) (Hry.out _ hq)).mono ?_
        rintro e w' ⟨rfl, hx'⟩
        exact ⟨_, rfl, hx', rfl⟩
      · intro hn; rw [hn] at hg; cases hg
    · intro wq hq hd
      obtain ⟨h0, h1, -⟩ := hd
      change v 5 = _ at h0
      change ((true && true) = true) → v 8 = _ at h1
      refine ob_plain rfl ?_
      exact yld_and (.tmp 33) (.tmp 36) rfl rfl _ _ h0 (fun hgd => h1 hgd) rfl
    · intro wq hq hd
      obtain ⟨h0, h1, -⟩ := hd
      change v 9 = _ at h0
      refine ob_plain rfl ?_
      exact yld_move (.tmp 37) rfl h0 rfl
    · intro wq hq hd
      obtain ⟨h0, -⟩ := hd
      change v 10 = _ at h0
      refine ob_guard 10 true (((true && true) && true)) rfl (yields_of rfl h0) (fun hg => ?_) (fun hg => ?_)
      · refine Yld.gd (p := ((true && true) && true) = true) (T := Ty.is (.agg #[.int .i64 rx.a, .int .i64 rx.i, .int .i64 rx.n, .int .i64 rx.kind, .string rx.label, .slice rx.hA rx.hn rx.hc, .slice rx.wA rx.wn rx.wc, .slice rx.kA rx.kn rx.kc])) ?_
        exact yld_loadAgg 27 (.tmp 3) rfl Tryd.isAgg27 8 Tryd.sizeOf27 [.int .i64 rx.a, .int .i64 rx.i, .int .i64 rx.n, .int .i64 rx.kind, .string rx.label, .slice rx.hA rx.hn rx.hc, .slice rx.wA rx.wn rx.wc, .slice rx.kA rx.kn rx.kc] rfl (Hx.out _ (hx5.trans (hx57.trans hq))) rfl
      · intro hn; rw [hn] at hg; cases hg
    · intro wq hq hd
      obtain ⟨h0, h1, h2, -⟩ := hd
      change (((true && true) && true) = true) → v 11 = _ at h0
      change v 10 = _ at h1
      refine ob_guard 10 true (((true && true) && true)) rfl (yields_of rfl h1) (fun hg => ?_) (fun hg => ?_)
      · refine Yld.gd (p := ((true && true) && true) = true) (T := TSl idEl NL) ?_
        replace h0 := h0 hg
        refine yld_call 22 Tryd.call22 _ _ rfl rfl [_] ⟨h0, trivial⟩ ?_
        refine (H9.out _ (hx57.trans hq)).mono ?_
        rintro e w' ⟨v', rfl, hown, hx'⟩
        obtain ⟨A9, c9, rfl, hc9, hs9⟩ := hown.form
        exact ⟨_, rfl, hx', A9, c9, rfl, hc9, hs9⟩
      · intro hn; rw [hn] at hg; cases hg
    · intro wq hq hd
      obtain ⟨h0, -⟩ := hd
      change v 10 = _ at h0
      refine ob_guard 10 true (((true && true) && true)) rfl (yields_of rfl h0) (fun hg => ?_) (fun hg => ?_)
      · refine Yld.gd (p := ((true && true) && true) = true) (T := Ty.is (.agg #[.int .i64 r.a, .int .i64 r.i, .int .i64 r.n, .int .i64 r.kind, .string r.label, .slice r.hA r.hn r.hc, .slice r.wA r.wn r.wc, .slice r.kA r.kn r.kc])) ?_
        exact yld_loadAgg 27 (.tmp 1) rfl Tryd.isAgg27 8 Tryd.sizeOf27 [.int .i64 r.a, .int .i64 r.i, .int .i64 r.n, .int .i64 r.kind, .string r.label, .slice r.hA r.hn r.hc, .slice r.wA r.wn r.wc, .slice r.kA r.kn r.kc] rfl (Hb.out _ (hx25.trans (hx57.trans hq))) rfl
      · intro hn; rw [hn] at hg; cases hg
    · intro wq hq hd
      obtain ⟨h0, h1, h2, -⟩ := hd
      change (((true && true) && true) = true) → v 13 = _ at h0
      change v 10 = _ at h2
      refine ob_guard 10 true (((true && true) && true)) rfl (yields_of rfl h2) (fun hg => ?_) (fun hg => ?_)
      · refine Yld.gd (p := ((true && true) && true) = true) (T := TSl idEl NL) ?_
        replace h0 := h0 hg
        refine yld_call 22 Tryd.call22 _ _ rfl rfl [_] ⟨h0, trivial⟩ ?_
        refine (H10.out _ (hx57.trans hq)).mono ?_
        rintro e w' ⟨v', rfl, hown, hx'⟩
        obtain ⟨A9, c9, rfl, hc9, hs9⟩ := hown.form
        exact ⟨_, rfl, hx', A9, c9, rfl, hc9, hs9⟩
      · intro hn; rw [hn] at hg; cases hg
    · intro wq hq hd
      obtain ⟨h0, h1, h2, h3, -⟩ := hd
      change (((true && true) && true) = true) → (TSl idEl NL).p (v 12) wq at h0
      change (((true && true) && true) = true) → (TSl idEl NL).p (v 14) wq at h1
      change v 10 = _ at h3
      refine ob_guard 10 true (((true && true) && true)) rfl (yields_of rfl h3) (fun hg => ?_) (fun hg => ?_)
      · refine Yld.gd (p := ((true && true) && true) = true) (T := Ty.is (.bool true)) ?_
        replace h0 := h0 hg
        replace h1 := h1 hg
        obtain ⟨A1, c1, g1, g2, g3⟩ := h0
        obtain ⟨A2, c2, g4, g5, g6⟩ := h1
        refine yld_call 21 Tryd.call21 _ _ rfl rfl [_, _] ⟨g1, g4, trivial⟩ ?_
        refine (alike_any A1 A2 c1 c2 NL NL _ g3 g6 Hnl.out).mono ?_
        rw [decide_eq_true rfl]
        rintro e w' ⟨rfl, m, rfl⟩
        exact ⟨_, rfl, (Ext.refl _).drewN _, rfl⟩
      · intro hn; rw [hn] at hg; cases hg
    · intro wq hq hd
      obtain ⟨h0, h1, -⟩ := hd
      change v 10 = _ at h0
      change (((true && true) && true) = true) → v 15 = _ at h1
      refine ob_plain rfl ?_
      exact yld_and (.tmp 38) (.tmp 43) rfl rfl _ _ h0 (fun hgd => h1 hgd) rfl
    · intro wq hq hd
      obtain ⟨h0, h1, -⟩ := hd
      change v 16 = _ at h0
      refine ob_plain rfl ?_
      exact yld_move (.tmp 44) rfl h0 rfl
    · intro wq hq hd
      obtain ⟨h0, -⟩ := hd
      change v 17 = _ at h0
      refine ob_guard 17 true ((((true && true) && true) && true)) rfl (yields_of rfl h0) (fun hg => ?_) (fun hg => ?_)
      · refine Yld.gd (p := (((true && true) && true) && true) = true) (T := Ty.is (.agg #[.int .i64 rx.a, .int .i64 rx.i, .int .i64 rx.n, .int .i64 rx.kind, .string rx.label, .slice rx.hA rx.hn rx.hc, .slice rx.wA rx.wn rx.wc, .slice rx.kA rx.kn rx.kc])) ?_
        exact yld_loadAgg 27 (.tmp 3) rfl Tryd.isAgg27 8 Tryd.sizeOf27 [.int .i64 rx.a, .int .i64 rx.i, .int .i64 rx.n, .int .i64 rx.kind, .string rx.label, .slice rx.hA rx.hn rx.hc, .slice rx.wA rx.wn rx.wc, .slice rx.kA rx.kn rx.kc] rfl (Hx.out _ (hx5.trans (hx57.trans hq))) rfl
      · intro hn; rw [hn] at hg; cases hg
    · intro wq hq hd
      obtain ⟨h0, h1, h2, -⟩ := hd
      change ((((true && true) && true) && true) = true) → v 18 = _ at h0
      change v 17 = _ at h1
      refine ob_guard 17 true ((((true && true) && true) && true)) rfl (yields_of rfl h1) (fun hg => ?_) (fun hg => ?_)
      · refine Yld.gd (p := (((true && true) && true) && true) = true) (T := Ty.is (.bool true)) ?_
        replace h0 := h0 hg
        refine yld_call 27 Tryd.call27 _ _ rfl rfl [_] ⟨h0, trivial⟩ ?_
        refine (H11.out _ (hx57.trans hq)).mono ?_
        rintro e w' ⟨rfl, hx'⟩
        exact ⟨_, rfl, hx', rfl⟩
      · intro hn; rw [hn] at hg; cases hg
    · intro wq hq hd
      obtain ⟨h0, h1, -⟩ := hd
      change v 17 = _ at h0
      change ((((true && true) && true) && true) = true) → v 19 = _ at h1
      refine ob_plain rfl ?_
      exact yld_and (.tmp 45) (.tmp 47) rfl rfl _ _ h0 (fun hgd => h1 hgd) rfl
    · intro wq hq hd
      obtain ⟨h0, h1, h2, h3, h4, h5, h6, h7, h8, h9, h10, h11, h12, h13, h14, h15, h16, h17, h18, h19, h20, h21, h22, -⟩ := hd
      change v 20 = _ at h0
      refine ob_plain rfl ?_
      exact yld_assign (.tmp 48) rfl h0 rfl
    · intro wq hq hT
      have k21 := hT 21 (by decide)
      change v 21 = _ at k21
      clear hT
      simp only [List.drop_succ_cons, List.drop_zero, putE, setsE, List.set_cons_succ, List.set_cons_zero, Nat.reduceAdd]
      rw [k21]
      go_wp2
      go_ret
      exact ⟨by simp, hw0.trans (hx25.trans (hx57.trans hq))⟩

end Go.Proofs.YtiacmahfjcolaaaDoor
