/- The law on stamps: the program's stamp is the reference's, stripping forgets it, stamping anew changes nothing. -/
import Derived.Test.YtkbmocgjbhmioaaStamp
import Derived.Test.YtkbmocgjbhmioaaSame6
namespace Go.Proofs.Ytkbmocgjbhmioaa
open Go.RowKit

/-- a unit's value that reads as the tree -/
def TReads (u : GUnit) : Ty := ⟨fun v w => ∃ r : RUnit, v = .agg r.cells.toArray ∧ Reads w u r, fun _ _ _ he ⟨r, h1, h2⟩ => ⟨r, h1, Reads.ext he _ _ h2⟩⟩

set_option maxRecDepth 100000 in
set_option maxHeartbeats 3200000 in
theorem stamps_law (act item : Int) (u : GUnit) (r : RUnit) (w : World) (hr : Reads w u r) (hbig : AllU (lensLe 9223372036854775807 9223372036854775807) u) :
    Calls Try.prog 7 #[.agg r.cells.toArray, .int .i64 act, .int .i64 item] w fun e w' => e = .returned (.bool true) ∧ Ext w w' := by
  have hx0 : Ext w (w.alloc (.cells r.cells.toArray 41)) := (Ext.refl w).alloc _
  have Hbu := Lib.hid (show ∀ w', Ext (w.alloc (.cells r.cells.toArray 41)) w' → _ from fun w' he => boxUnit (w' := w') r (w := w) he)
  have Hbt := Lib.hid (show ∀ w', Ext (w.alloc (.cells r.cells.toArray 41)) w' → _ from fun w' he => boxT (w' := w') r (w := w) he)
  have Hfew := Lib.hid (show ∀ w', Ext w w' → _ from fun w' he => few6_any u r 60 w' (Reads.ext he _ _ hr) hbig (by decide) (by decide))
  obtain ⟨wz, hwz⟩ : ∃ wz, w.alloc (.cells r.cells.toArray 41) = wz := ⟨_, rfl⟩
  rw [hwz] at hx0 Hbu Hbt
  have hwz2 := hwz
  simp only [RUnit.cells] at hwz2
  have Hwz := Lib.hid hwz2
  by_cases hf : fewF u 60 = true
  case neg =>
    have hf' : fewF u 60 = false := by simpa using hf
    rw [hf'] at Hfew
    simp only [RUnit.cells] at Hfew ⊢
    clear hf hf' hwz hwz2 hbig Hbt
    go_enter Try.func7, Try.ntmps7
    go_wp2_with fail
    rw [Hwz.out]
    refine (awake_any _).mono ?_
    rintro e w1 ⟨rfl, hx1⟩
    obtain ⟨-, u0, u1, u2, u3, u4, u5, u6, u7⟩ := Hbu.out w1 hx1
    go_wp2_with fail
    refine (Hfew.out w1 (hx0.trans hx1)).mono ?_
    rintro e w2 ⟨rfl, hx2⟩
    go_wp2
    go_ret
    exact ⟨rfl, (hx0.trans hx1).trans hx2⟩
  case pos =>
    rw [hf] at Hfew
    have hA := few_lens hf
    have hc : cntF u ≤ 1000 := by have := few_cnt (by decide) hf; omega
    obtain ⟨X, hX⟩ : ∃ X, (stampF act item u 1 0).1 = X := ⟨_, rfl⟩
    have hS : stripF X = stripF u := by rw [← hX]; exact strip_stamp act item u 1 0
    have hI : (stampF act item X 1 0).1 = X := by rw [← hX, stamp_stamp]
    have hAx : AllU (lensLe 300 60) X := by rw [← hX]; exact stamp_lens act item u 1 0 hA
    have hcx : cntF X ≤ 1000 := by rw [← hX, stamp_cnt]; exact hc
    have up : ∀ (m q : Nat), 300 ≤ m → 60 ≤ q → ∀ v, lensLe 300 60 v → lensLe m q v := by
      rintro m q hm hq ⟨a, i, n, k, l, hl, wl, kids⟩ ⟨h1, h2, h3⟩
      exact ⟨by omega, by omega, by omega⟩
    have HA := Lib.hid hA
    have Hc := Lib.hid hc
    have HX := Lib.hid hX
    have HS := Lib.hid hS
    have HI := Lib.hid hI
    have HAx := Lib.hid hAx
    have Hcx := Lib.hid hcx
    have HAX := Lib.hid (AllU.mono (up 9223372036854775807 9223372036854775807 (by omega) (by omega)) _ hAx)
    have HAs := Lib.hid (AllU.mono (up 1048576 1048576 (by omega) (by omega)) _ hAx)
    have HAu := Lib.hid (AllU.mono (up 1048576 1048576 (by omega) (by omega)) _ hA)
    have HASX := Lib.hid (AllU.mono (up 9223372036854775807 9223372036854775807 (by omega) (by omega)) _ (strip_lens _ hAx))
    have Hst := Lib.hid (show ∀ w', Ext w w' → _ from fun w' he => stamp_any act item u r w' (Reads.ext he _ _ hr) hA hc)
    rw [hX] at Hst
    have Hru := Lib.hid (show ∀ w', Ext w w' → _ from fun w' he => Reads.ext he _ _ hr)
    simp only [RUnit.cells] at Hfew Hst Hbt ⊢
    clear hA hc hX hS hI hAx hcx up hf hwz hwz2 hbig hr
    go_enter Try.func7, Try.ntmps7
    go_wp2_with fail
    rw [Hwz.out]
    refine (awake_any _).mono ?_
    rintro e w1 ⟨rfl, hx1⟩
    obtain ⟨-, u0, u1, u2, u3, u4, u5, u6, u7⟩ := Hbu.out w1 hx1
    go_wp2_with fail
    refine (Hfew.out w1 (hx0.trans hx1)).mono ?_
    rintro e w2 ⟨rfl, hx2⟩
    clear u0 u1 u2 u3 u4 u5 u6 u7
    obtain ⟨-, u0, u1, u2, u3, u4, u5, u6, u7⟩ := Hbu.out w2 (hx1.trans hx2)
    go_wp2_with fail
    refine (Hst.out w2 ((hx0.trans hx1).trans hx2)).mono ?_
    rintro e w3 ⟨rx, rfl, hx3, hrx⟩
    have hxz : Ext wz w3 := (hx1.trans hx2).trans hx3
    clear u0 u1 u2 u3 u4 u5 u6 u7
    go_wp2_with (refine wpList_put rfl 41 (.tmp 7) (.tmp 16) rfl w3.heap.size 0 (.agg rx.cells.toArray) rfl rfl rx.cells rfl Try.sizeOf41 (unitEl.h1 rx) 41 _ (heap_alloc_new w3 _) (by simp [unit0, RUnit.cells]) ?_; intro w4 hw4 hos4 htp4 hou4 hs4 hbk4; have hbx : w4.heap[w3.heap.size]? = some (.cells rx.cells.toArray 41 (0, 0)) := (by rw [hbk4]; simp [RUnit.cells]); have hx4 : Ext w3 w4 := ((Ext.refl w3).alloc _).put (Nat.le_refl _) hw4 hos4 htp4 hou4 hs4)
    have hw0 : Ext w w4 := hx0.trans (hxz.trans hx4)
    have hlt4 : w3.heap.size < w4.heap.size := by rw [hs4]; simp
    have Hx := Lib.hid (show ∀ w', Ext w4 w' → _ from fun w' he => blockT hbx hlt4 he)
    have Hrx := Lib.hid (show ∀ w', Ext w4 w' → _ from fun w' he => Reads.ext (hx4.trans he) _ _ (Reads.cin (CIn.unmask _ _) _ _ hrx))
    have Hb := Lib.hid (show ∀ w', Ext w4 w' → _ from fun w' he => Hbt.out w' ((hxz.trans hx4).trans he))
    have Hru' := Lib.hid (show ∀ w', Ext w4 w' → _ from fun w' he => Hru.out w' (hw0.trans he))
    clear Hru
    have Hru := Hru'
    clear Hru' hrx hbx hbk4 hw4 hos4 htp4 hou4 hs4 hlt4
    simp only [RUnit.cells] at Hx
    refine wp_drawn (by kernel_rfl) (fun i => match i with | 0 => Ty.is (.agg #[.int .i64 rx.a, .int .i64 rx.i, .int .i64 rx.n, .int .i64 rx.kind, .string rx.label, .slice rx.hA rx.hn rx.hc, .slice rx.wA rx.wn rx.wc, .slice rx.kA rx.kn rx.kc]) | 1 => Ty.is (.agg #[.int .i64 r.a, .int .i64 r.i, .int .i64 r.n, .int .i64 r.kind, .string r.label, .slice r.hA r.hn r.hc, .slice r.wA r.wn r.wc, .slice r.kA r.kn r.kc]) | 2 => Ty.is (.int .i64 act) | 3 => Ty.is (.int .i64 item) | 4 => TReads X | 5 => Ty.is (.bool true) | 6 => Ty.is (.bool true) | 7 => TGd (true = true) (Ty.is (.agg #[.int .i64 rx.a, .int .i64 rx.i, .int .i64 rx.n, .int .i64 rx.kind, .string rx.label, .slice rx.hA rx.hn rx.hc, .slice rx.wA rx.wn rx.wc, .slice rx.kA rx.kn rx.kc])) | 8 => TGd (true = true) (TReads (stripF X)) | 9 => TGd (true = true) (Ty.is (.agg #[.int .i64 r.a, .int .i64 r.i, .int .i64 r.n, .int .i64 r.kind, .string r.label, .slice r.hA r.hn r.hc, .slice r.wA r.wn r.wc, .slice r.kA r.kn r.kc])) | 10 => TGd (true = true) (TReads (stripF X)) | 11 => TGd (true = true) (Ty.is (.bool true)) | 12 => Ty.is (.bool (true && true)) | 13 => Ty.is (.bool (true && true)) | 14 => TGd ((true && true) = true) (Ty.is (.agg #[.int .i64 rx.a, .int .i64 rx.i, .int .i64 rx.n, .int .i64 rx.kind, .string rx.label, .slice rx.hA rx.hn rx.hc, .slice rx.wA rx.wn rx.wc, .slice rx.kA rx.kn rx.kc])) | 15 => TGd ((true && true) = true) (Ty.is (.int .i64 act)) | 16 => TGd ((true && true) = true) (Ty.is (.int .i64 item)) | 17 => TGd ((true && true) = true) (TReads X) | 18 => TGd ((true && true) = true) (Ty.is (.agg #[.int .i64 rx.a, .int .i64 rx.i, .int .i64 rx.n, .int .i64 rx.kind, .string rx.label, .slice rx.hA rx.hn rx.hc, .slice rx.wA rx.wn rx.wc, .slice rx.kA rx.kn rx.kc])) | 19 => TGd ((true && true) = true) (Ty.is (.bool true)) | 20 => Ty.is (.bool ((true && true) && true)) | 21 => Ty.is (.bool ((true && true) && true)) | _ => Ty.any) (by kernel_rfl) rfl ?_
    intro v
    refine ⟨?_, ?_, ?_, ?_, ?_, ?_, ?_, ?_, ?_, ?_, ?_, ?_, ?_, ?_, ?_, ?_, ?_, ?_, ?_, ?_, ?_, ?_, ?_⟩
    · intro wq hq hd
      refine ob_plain rfl ?_
      exact yld_loadAgg 41 (.tmp 7) rfl Try.isAgg41 8 Try.sizeOf41 [.int .i64 rx.a, .int .i64 rx.i, .int .i64 rx.n, .int .i64 rx.kind, .string rx.label, .slice rx.hA rx.hn rx.hc, .slice rx.wA rx.wn rx.wc, .slice rx.kA rx.kn rx.kc] rfl (Hx.out _ hq) rfl
    · intro wq hq hd
      refine ob_plain rfl ?_
      exact yld_loadAgg 41 (.tmp 3) rfl Try.isAgg41 8 Try.sizeOf41 [.int .i64 r.a, .int .i64 r.i, .int .i64 r.n, .int .i64 r.kind, .string r.label, .slice r.hA r.hn r.hc, .slice r.wA r.wn r.wc, .slice r.kA r.kn r.kc] rfl (Hb.out _ hq) rfl
    · intro wq hq hd
      refine ob_plain rfl ?_
      exact yld_move (.tmp 1) rfl rfl rfl
    · intro wq hq hd
      refine ob_plain rfl ?_
      exact yld_move (.tmp 2) rfl rfl rfl
    · intro wq hq hd
      obtain ⟨h0, h1, h2, -⟩ := hd
      change v 1 = _ at h0
      change v 2 = _ at h1
      change v 3 = _ at h2
      refine ob_plain rfl ?_
      refine yld_call 25 Try.call25 _ _ rfl rfl [_, _, _] ⟨h0, h1, h2, trivial⟩ ?_
      refine (refStamp_any act item u r _ (Hru.out _ hq) HA.out Hc.out).mono ?_
      rw [HX.out]
      rintro e w' ⟨r', rfl, hext', hr'⟩
      exact ⟨_, rfl, hext', r', rfl, Reads.cin (CIn.unmask _ _) _ _ hr'⟩
    · intro wq hq hd
      obtain ⟨h0, h1, h2, -⟩ := hd
      change v 0 = _ at h0
      change (TReads X).p (v 4) wq at h1
      refine ob_plain rfl ?_
      obtain ⟨r', g1, g2⟩ := h1
      refine yld_call 24 Try.call24 _ _ rfl rfl [_, _] ⟨h0, g1, trivial⟩ ?_
      refine (same6_eq _ X _ _ _ (Nat.le_refl _) (Hrx.out _ hq) g2 (HAX.out)).mono ?_
      rintro e w' ⟨rfl, hext'⟩
      exact ⟨_, rfl, hext', rfl⟩
    · intro wq hq hd
      obtain ⟨h0, h1, -⟩ := hd
      change v 5 = _ at h0
      refine ob_plain rfl ?_
      exact yld_move (.tmp 22) rfl h0 rfl
    · intro wq hq hd
      obtain ⟨h0, -⟩ := hd
      change v 6 = _ at h0
      refine ob_guard 6 true (true) rfl (yields_of rfl h0) (fun hg => ?_) (fun hg => ?_)
      · refine Yld.gd (p := true = true) (T := Ty.is (.agg #[.int .i64 rx.a, .int .i64 rx.i, .int .i64 rx.n, .int .i64 rx.kind, .string rx.label, .slice rx.hA rx.hn rx.hc, .slice rx.wA rx.wn rx.wc, .slice rx.kA rx.kn rx.kc])) ?_
        exact yld_loadAgg 41 (.tmp 7) rfl Try.isAgg41 8 Try.sizeOf41 [.int .i64 rx.a, .int .i64 rx.i, .int .i64 rx.n, .int .i64 rx.kind, .string rx.label, .slice rx.hA rx.hn rx.hc, .slice rx.wA rx.wn rx.wc, .slice rx.kA rx.kn rx.kc] rfl (Hx.out _ hq) rfl
      · intro hn; rw [hn] at hg; cases hg
    · intro wq hq hd
      obtain ⟨h0, h1, h2, -⟩ := hd
      change (true = true) → v 7 = _ at h0
      change v 6 = _ at h1
      refine ob_guard 6 true (true) rfl (yields_of rfl h1) (fun hg => ?_) (fun hg => ?_)
      · refine Yld.gd (p := true = true) (T := TReads (stripF X)) ?_
        replace h0 := h0 hg
        refine yld_call 26 Try.call26 _ _ rfl rfl [_] ⟨h0, trivial⟩ ?_
        refine (strip_any _ X rx _ (Nat.le_refl _) (Hrx.out _ hq) HAs.out).mono ?_
        rintro e w' ⟨r', rfl, hext', hr'⟩
        exact ⟨_, rfl, hext', r', rfl, Reads.cin (CIn.unmask _ _) _ _ hr'⟩
      · intro hn; rw [hn] at hg; cases hg
    · intro wq hq hd
      obtain ⟨h0, -⟩ := hd
      change v 6 = _ at h0
      refine ob_guard 6 true (true) rfl (yields_of rfl h0) (fun hg => ?_) (fun hg => ?_)
      · refine Yld.gd (p := true = true) (T := Ty.is (.agg #[.int .i64 r.a, .int .i64 r.i, .int .i64 r.n, .int .i64 r.kind, .string r.label, .slice r.hA r.hn r.hc, .slice r.wA r.wn r.wc, .slice r.kA r.kn r.kc])) ?_
        exact yld_loadAgg 41 (.tmp 3) rfl Try.isAgg41 8 Try.sizeOf41 [.int .i64 r.a, .int .i64 r.i, .int .i64 r.n, .int .i64 r.kind, .string r.label, .slice r.hA r.hn r.hc, .slice r.wA r.wn r.wc, .slice r.kA r.kn r.kc] rfl (Hb.out _ hq) rfl
      · intro hn; rw [hn] at hg; cases hg
    · intro wq hq hd
      obtain ⟨h0, h1, h2, -⟩ := hd
      change (true = true) → v 9 = _ at h0
      change v 6 = _ at h2
      refine ob_guard 6 true (true) rfl (yields_of rfl h2) (fun hg => ?_) (fun hg => ?_)
      · refine Yld.gd (p := true = true) (T := TReads (stripF X)) ?_
        replace h0 := h0 hg
        refine yld_call 26 Try.call26 _ _ rfl rfl [_] ⟨h0, trivial⟩ ?_
        refine (strip_any _ u r _ (Nat.le_refl _) (Hru.out _ hq) HAu.out).mono ?_
        rw [← HS.out]
        rintro e w' ⟨r', rfl, hext', hr'⟩
        exact ⟨_, rfl, hext', r', rfl, Reads.cin (CIn.unmask _ _) _ _ hr'⟩
      · intro hn; rw [hn] at hg; cases hg
    · intro wq hq hd
      obtain ⟨h0, h1, h2, h3, -⟩ := hd
      change (true = true) → (TReads (stripF X)).p (v 8) wq at h0
      change (true = true) → (TReads (stripF X)).p (v 10) wq at h1
      change v 6 = _ at h3
      refine ob_guard 6 true (true) rfl (yields_of rfl h3) (fun hg => ?_) (fun hg => ?_)
      · refine Yld.gd (p := true = true) (T := Ty.is (.bool true)) ?_
        replace h0 := h0 hg
        replace h1 := h1 hg
        obtain ⟨r1, g1, g2⟩ := h0
        obtain ⟨r2, g3, g4⟩ := h1
        refine yld_call 24 Try.call24 _ _ rfl rfl [_, _] ⟨g1, g3, trivial⟩ ?_
        refine (same6_eq _ (stripF X) _ _ _ (Nat.le_refl _) g2 g4 (HASX.out)).mono ?_
        rintro e w' ⟨rfl, hext'⟩
        exact ⟨_, rfl, hext', rfl⟩
      · intro hn; rw [hn] at hg; cases hg
    · intro wq hq hd
      obtain ⟨h0, h1, -⟩ := hd
      change v 6 = _ at h0
      change (true = true) → v 11 = _ at h1
      refine ob_plain rfl ?_
      exact yld_and (.tmp 23) (.tmp 28) rfl rfl _ _ h0 (fun hgd => h1 hgd) rfl
    · intro wq hq hd
      obtain ⟨h0, h1, -⟩ := hd
      change v 12 = _ at h0
      refine ob_plain rfl ?_
      exact yld_move (.tmp 29) rfl h0 rfl
    · intro wq hq hd
      obtain ⟨h0, -⟩ := hd
      change v 13 = _ at h0
      refine ob_guard 13 true ((true && true)) rfl (yields_of rfl h0) (fun hg => ?_) (fun hg => ?_)
      · refine Yld.gd (p := (true && true) = true) (T := Ty.is (.agg #[.int .i64 rx.a, .int .i64 rx.i, .int .i64 rx.n, .int .i64 rx.kind, .string rx.label, .slice rx.hA rx.hn rx.hc, .slice rx.wA rx.wn rx.wc, .slice rx.kA rx.kn rx.kc])) ?_
        exact yld_loadAgg 41 (.tmp 7) rfl Try.isAgg41 8 Try.sizeOf41 [.int .i64 rx.a, .int .i64 rx.i, .int .i64 rx.n, .int .i64 rx.kind, .string rx.label, .slice rx.hA rx.hn rx.hc, .slice rx.wA rx.wn rx.wc, .slice rx.kA rx.kn rx.kc] rfl (Hx.out _ hq) rfl
      · intro hn; rw [hn] at hg; cases hg
    · intro wq hq hd
      obtain ⟨h0, -⟩ := hd
      change v 13 = _ at h0
      refine ob_guard 13 true ((true && true)) rfl (yields_of rfl h0) (fun hg => ?_) (fun hg => ?_)
      · refine Yld.gd (p := (true && true) = true) (T := Ty.is (.int .i64 act)) ?_
        exact yld_move (.tmp 1) rfl rfl rfl
      · intro hn; rw [hn] at hg; cases hg
    · intro wq hq hd
      obtain ⟨h0, -⟩ := hd
      change v 13 = _ at h0
      refine ob_guard 13 true ((true && true)) rfl (yields_of rfl h0) (fun hg => ?_) (fun hg => ?_)
      · refine Yld.gd (p := (true && true) = true) (T := Ty.is (.int .i64 item)) ?_
        exact yld_move (.tmp 2) rfl rfl rfl
      · intro hn; rw [hn] at hg; cases hg
    · intro wq hq hd
      obtain ⟨h0, h1, h2, h3, h4, -⟩ := hd
      change ((true && true) = true) → v 14 = _ at h0
      change ((true && true) = true) → v 15 = _ at h1
      change ((true && true) = true) → v 16 = _ at h2
      change v 13 = _ at h3
      refine ob_guard 13 true ((true && true)) rfl (yields_of rfl h3) (fun hg => ?_) (fun hg => ?_)
      · refine Yld.gd (p := (true && true) = true) (T := TReads X) ?_
        replace h0 := h0 hg
        replace h1 := h1 hg
        replace h2 := h2 hg
        refine yld_call 23 Try.call23 _ _ rfl rfl [_, _, _] ⟨h0, h1, h2, trivial⟩ ?_
        refine (stamp_any act item X rx _ (Hrx.out _ hq) HAx.out Hcx.out).mono ?_
        rw [HI.out]
        rintro e w' ⟨r', rfl, hext', hr'⟩
        exact ⟨_, rfl, hext', r', rfl, Reads.cin (CIn.unmask _ _) _ _ hr'⟩
      · intro hn; rw [hn] at hg; cases hg
    · intro wq hq hd
      obtain ⟨h0, -⟩ := hd
      change v 13 = _ at h0
      refine ob_guard 13 true ((true && true)) rfl (yields_of rfl h0) (fun hg => ?_) (fun hg => ?_)
      · refine Yld.gd (p := (true && true) = true) (T := Ty.is (.agg #[.int .i64 rx.a, .int .i64 rx.i, .int .i64 rx.n, .int .i64 rx.kind, .string rx.label, .slice rx.hA rx.hn rx.hc, .slice rx.wA rx.wn rx.wc, .slice rx.kA rx.kn rx.kc])) ?_
        exact yld_loadAgg 41 (.tmp 7) rfl Try.isAgg41 8 Try.sizeOf41 [.int .i64 rx.a, .int .i64 rx.i, .int .i64 rx.n, .int .i64 rx.kind, .string rx.label, .slice rx.hA rx.hn rx.hc, .slice rx.wA rx.wn rx.wc, .slice rx.kA rx.kn rx.kc] rfl (Hx.out _ hq) rfl
      · intro hn; rw [hn] at hg; cases hg
    · intro wq hq hd
      obtain ⟨h0, h1, h2, h3, -⟩ := hd
      change ((true && true) = true) → (TReads X).p (v 17) wq at h0
      change ((true && true) = true) → v 18 = _ at h1
      change v 13 = _ at h3
      refine ob_guard 13 true ((true && true)) rfl (yields_of rfl h3) (fun hg => ?_) (fun hg => ?_)
      · refine Yld.gd (p := (true && true) = true) (T := Ty.is (.bool true)) ?_
        replace h0 := h0 hg
        replace h1 := h1 hg
        obtain ⟨r1, g1, g2⟩ := h0
        refine yld_call 24 Try.call24 _ _ rfl rfl [_, _] ⟨g1, h1, trivial⟩ ?_
        refine (same6_eq _ X _ _ _ (Nat.le_refl _) g2 (Hrx.out _ hq) (HAX.out)).mono ?_
        rintro e w' ⟨rfl, hext'⟩
        exact ⟨_, rfl, hext', rfl⟩
      · intro hn; rw [hn] at hg; cases hg
    · intro wq hq hd
      obtain ⟨h0, h1, -⟩ := hd
      change v 13 = _ at h0
      change ((true && true) = true) → v 19 = _ at h1
      refine ob_plain rfl ?_
      exact yld_and (.tmp 30) (.tmp 36) rfl rfl _ _ h0 (fun hgd => h1 hgd) rfl
    · intro wq hq hd
      obtain ⟨h0, h1, h2, h3, h4, h5, h6, h7, h8, h9, h10, h11, h12, h13, h14, h15, h16, h17, h18, h19, h20, h21, h22, -⟩ := hd
      change v 20 = _ at h0
      refine ob_plain rfl ?_
      exact yld_assign (.tmp 37) rfl h0 rfl
    · intro wq hq hT
      have k21 := hT 21 (by decide)
      change v 21 = _ at k21
      clear hT
      simp only [List.drop_succ_cons, List.drop_zero, putE, setsE, List.set_cons_succ, List.set_cons_zero, Nat.reduceAdd]
      rw [k21]
      go_wp2
      go_ret
      exact ⟨rfl, hw0.trans hq⟩

end Go.Proofs.Ytkbmocgjbhmioaa
