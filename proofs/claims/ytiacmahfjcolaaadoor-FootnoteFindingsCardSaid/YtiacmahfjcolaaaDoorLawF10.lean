/- The law on findings. -/
import Derived.Test.YtiacmahfjcolaaaDoorLawH10
namespace Go.Proofs.YtiacmahfjcolaaaDoor
open Go.RowKit

set_option maxRecDepth 100000 in
set_option maxHeartbeats 6400000 in
theorem footnoteFindings_law (u : GUnit) (r : RUnit) (w : World) (hr : Reads w u r) (hbig : AllU (lensLe 9223372036854775807 9223372036854775807) u) (hT : Tab w) :
    Calls Tryd.prog 4 #[.agg r.cells.toArray] w fun e w' => e = .returned (.bool true) ∧ Ext w w' := by
  have hx0 : Ext w (w.alloc (.cells r.cells.toArray 27)) := (Ext.refl w).alloc _
  have Hbu := Lib.hid (show ∀ w', Ext (w.alloc (.cells r.cells.toArray 27)) w' → _ from fun w' he => boxUnit (w' := w') r (w := w) he)
  have Hbt := Lib.hid (show ∀ w', Ext (w.alloc (.cells r.cells.toArray 27)) w' → _ from fun w' he => boxT (w' := w') r (w := w) he)
  have Hfew := Lib.hid (show ∀ w', Ext w w' → _ from fun w' he => few6_any u r 60 w' (Reads.ext he _ _ hr) hbig (by decide) (by decide))
  have Hru := Lib.hid (show ∀ w', Ext w w' → Reads w' u r from fun w' he => Reads.ext he _ _ hr)
  have HT := Lib.hid (show ∀ w', Ext w w' → Tab w' from fun w' he => hT.ext he)
  obtain ⟨wz, hwz⟩ : ∃ wz, w.alloc (.cells r.cells.toArray 27) = wz := ⟨_, rfl⟩
  rw [hwz] at hx0 Hbu Hbt
  simp only [RUnit.cells] at hwz
  have Hwz := Lib.hid hwz
  have hok : fewF u 60 = true → OkT u := few_ok
  obtain ⟨F, hF⟩ : ∃ F, fewF u 60 = F := ⟨_, rfl⟩
  rw [hF] at Hfew hok
  have Hok := Lib.hid hok
  simp only [RUnit.cells] at Hfew Hbt ⊢
  clear hwz hbig hr hT hF hok
  go_enter Tryd.func4, Tryd.ntmps4
  go_wp2_with fail
  rw [Hwz.out]
  refine (awake10_any _ (HT.out _ hx0)).mono ?_
  rintro e w1 ⟨rfl, hx1⟩
  obtain ⟨-, u0, u1, u2, u3, u4, u5, u6, u7⟩ := Hbu.out w1 hx1
  go_wp2_with fail
  refine (Hfew.out w1 (hx0.trans hx1)).mono ?_
  rintro e w2 ⟨rfl, hx2⟩
  have hxz : Ext wz w2 := hx1.trans hx2
  have hw0 : Ext w w2 := hx0.trans hxz
  clear u0 u1 u2 u3 u4 u5 u6 u7 Hfew hx0 hx1 hx2
  obtain ⟨-, u0, u1, u2, u3, u4, u5, u6, u7⟩ := Hbu.out w2 hxz
  cases F
  case false =>
    go_wp2
    go_ret
    exact ⟨rfl, hw0⟩
  case true =>
    have hok := Hok.out rfl
    have Hb := Lib.hid (show ∀ w', Ext w2 w' → (TCells [.int .i64 r.a, .int .i64 r.i, .int .i64 r.n, .int .i64 r.kind, .string r.label, .slice r.hA r.hn r.hc, .slice r.wA r.wn r.wc, .slice r.kA r.kn r.kc]).p (.pointer (some ⟨w.heap.size, 0, none⟩)) w' from fun w' he => Hbt.out w' (hxz.trans he))
    have Hbq := Lib.hid (show ∀ w', Ext w2 w' → _ from fun w' he => Hbu.out w' (hxz.trans he))
    have Hr := Lib.hid (show ∀ w', Ext w2 w' → Reads w' u r from fun w' he => Hru.out w' (hw0.trans he))
    have HT2 := Lib.hid (show ∀ w', Ext w2 w' → Tab w' from fun w' he => HT.out w' (hw0.trans he))
    clear Hbt Hbu Hru HT Hok
    have hV := isEmpty_iff u
    have hfl : (checkF u).length ≤ 9223372036854775807 ∧ (notesF u).length ≤ 9223372036854775807 := okT_lens hok
    have hl1 := fun wq (he : Ext w2 wq) => refCheck_any u r wq (Hr.out wq he) hok
    have hl2 := fun wq (he : Ext w2 wq) => check_any u r wq (Hr.out wq he) hok
    have hl3 := fun wq (he : Ext w2 wq) => notes_any u r wq (Hr.out wq he) hok
    have hl4 := fun wq (he : Ext w2 wq) => refNotes_any u r wq (Hr.out wq he) hok
    have hl5 := fun wq (he : Ext w2 wq) => fvalid_any u r wq (Hr.out wq he) hok
    obtain ⟨FL, hFL⟩ : ∃ FL, checkF u = FL := ⟨_, rfl⟩
    obtain ⟨NL, hNL⟩ : ∃ NL, notesF u = NL := ⟨_, rfl⟩
    obtain ⟨V, hVV⟩ : ∃ V, validB u = V := ⟨_, rfl⟩
    rw [hFL] at hV hfl hl1 hl2
    rw [hNL] at hfl hl3 hl4
    rw [hVV] at hV hl5
    simp only [RUnit.cells] at hl1 hl2 hl3 hl4 hl5
    have H1 := Lib.hid hl1
    have H2 := Lib.hid hl2
    have H3 := Lib.hid hl3
    have H4 := Lib.hid hl4
    have H5 := Lib.hid hl5
    have HV := Lib.hid hV
    have Hfl := Lib.hid hfl
    clear hl1 hl2 hl3 hl4 hl5 hFL hNL hVV hV hfl
    go_wp2_with fail
    refine (H1.out w2 (Ext.refl _)).mono ?_
    rintro e w3 ⟨v3, rfl, hown3, hx3⟩
    obtain ⟨A3, c3, rfl, hc3, hs3⟩ := hown3.form
    clear hown3 u0 u1 u2 u3 u4 u5 u6 u7
    go_wp2
    refine wp_drawn (by kernel_rfl) (fun i => match i with | 0 => Ty.is (.agg #[.int .i64 r.a, .int .i64 r.i, .int .i64 r.n, .int .i64 r.kind, .string r.label, .slice r.hA r.hn r.hc, .slice r.wA r.wn r.wc, .slice r.kA r.kn r.kc]) | 1 => TSl findEl FL | 2 => Ty.is (.slice A3 FL.length c3) | 3 => Ty.is (.bool true) | 4 => Ty.is (.bool true) | 5 => TGd (true = true) (Ty.is (.agg #[.int .i64 r.a, .int .i64 r.i, .int .i64 r.n, .int .i64 r.kind, .string r.label, .slice r.hA r.hn r.hc, .slice r.wA r.wn r.wc, .slice r.kA r.kn r.kc])) | 6 => TGd (true = true) (Ty.is (.bool V)) | 7 => TGd (true = true) (Ty.is (.slice A3 FL.length c3)) | 8 => TGd (true = true) (Ty.is (.int .i64 FL.length)) | 9 => TGd (true = true) (Ty.is (.bool (decide ((FL.length : Int) = 0)))) | 10 => TGd (true = true) (Ty.is (.bool true)) | 11 => Ty.is (.bool (true && true)) | 12 => Ty.is (.bool (true && true)) | 13 => TGd ((true && true) = true) (Ty.is (.agg #[.int .i64 r.a, .int .i64 r.i, .int .i64 r.n, .int .i64 r.kind, .string r.label, .slice r.hA r.hn r.hc, .slice r.wA r.wn r.wc, .slice r.kA r.kn r.kc])) | 14 => TGd ((true && true) = true) (TSl idEl NL) | 15 => TGd ((true && true) = true) (Ty.is (.agg #[.int .i64 r.a, .int .i64 r.i, .int .i64 r.n, .int .i64 r.kind, .string r.label, .slice r.hA r.hn r.hc, .slice r.wA r.wn r.wc, .slice r.kA r.kn r.kc])) | 16 => TGd ((true && true) = true) (TSl idEl NL) | 17 => TGd ((true && true) = true) (Ty.is (.bool true)) | 18 => Ty.is (.bool ((true && true) && true)) | 19 => Ty.is (.bool ((true && true) && true)) | _ => Ty.any) (by kernel_rfl) rfl ?_
    intro v
    refine ⟨?_, ?_, ?_, ?_, ?_, ?_, ?_, ?_, ?_, ?_, ?_, ?_, ?_, ?_, ?_, ?_, ?_, ?_, ?_, ?_, ?_⟩
    · intro wq hq hd
      refine ob_plain rfl ?_
      exact yld_loadAgg 27 (.tmp 1) rfl Tryd.isAgg27 8 Tryd.sizeOf27 [.int .i64 r.a, .int .i64 r.i, .int .i64 r.n, .int .i64 r.kind, .string r.label, .slice r.hA r.hn r.hc, .slice r.wA r.wn r.wc, .slice r.kA r.kn r.kc] rfl (Hb.out _ (hx3.trans hq)) rfl
    · intro wq hq hd
      obtain ⟨h0, -⟩ := hd
      change v 0 = _ at h0
      refine ob_plain rfl ?_
      refine yld_call 19 Tryd.call19 _ _ rfl rfl [_] ⟨h0, trivial⟩ ?_
      refine (H2.out _ (hx3.trans hq)).mono ?_
      rintro e w' ⟨v', rfl, hown, hx'⟩
      obtain ⟨A9, c9, rfl, hc9, hs9⟩ := hown.form
      exact ⟨_, rfl, hx', A9, c9, rfl, hc9, hs9⟩
    · intro wq hq hd
      refine ob_plain rfl ?_
      exact yld_move (.tmp 3) rfl rfl rfl
    · intro wq hq hd
      obtain ⟨h0, h1, h2, -⟩ := hd
      change (TSl findEl FL).p (v 1) wq at h0
      change v 2 = _ at h1
      refine ob_plain rfl ?_
      obtain ⟨A1, c1, g1, g2, g3⟩ := h0
      refine yld_call 18 Tryd.call18 _ _ rfl rfl [_, _] ⟨g1, h1, trivial⟩ ?_
      refine (flaws_any A1 A3 c1 c3 FL FL _ g3 (hs3.ext hq) Hfl.out.1).mono ?_
      rw [decide_eq_true rfl]
      rintro e w' ⟨rfl, m, rfl⟩
      exact ⟨_, rfl, (Ext.refl _).drewN _, rfl⟩
    · intro wq hq hd
      obtain ⟨h0, h1, -⟩ := hd
      change v 3 = _ at h0
      refine ob_plain rfl ?_
      exact yld_move (.tmp 14) rfl h0 rfl
    · intro wq hq hd
      obtain ⟨h0, -⟩ := hd
      change v 4 = _ at h0
      refine ob_guard 4 true (true) rfl (yields_of rfl h0) (fun hg => ?_) (fun hg => ?_)
      · refine Yld.gd (p := true = true) (T := Ty.is (.agg #[.int .i64 r.a, .int .i64 r.i, .int .i64 r.n, .int .i64 r.kind, .string r.label, .slice r.hA r.hn r.hc, .slice r.wA r.wn r.wc, .slice r.kA r.kn r.kc])) ?_
        exact yld_loadAgg 27 (.tmp 1) rfl Tryd.isAgg27 8 Tryd.sizeOf27 [.int .i64 r.a, .int .i64 r.i, .int .i64 r.n, .int .i64 r.kind, .string r.label, .slice r.hA r.hn r.hc, .slice r.wA r.wn r.wc, .slice r.kA r.kn r.kc] rfl (Hb.out _ (hx3.trans hq)) rfl
      · intro hn; rw [hn] at hg; cases hg
    · intro wq hq hd
      obtain ⟨h0, h1, h2, -⟩ := hd
      change (true = true) → v 5 = _ at h0
      change v 4 = _ at h1
      refine ob_guard 4 true (true) rfl (yields_of rfl h1) (fun hg => ?_) (fun hg => ?_)
      · refine Yld.gd (p := true = true) (T := Ty.is (.bool V)) ?_
        replace h0 := h0 hg
        refine yld_call 20 Tryd.call20 _ _ rfl rfl [_] ⟨h0, trivial⟩ ?_
        refine (H5.out _ (hx3.trans hq)).mono ?_
        rintro e w' ⟨rfl, hx'⟩
        exact ⟨_, rfl, hx', rfl⟩
      · intro hn; rw [hn] at hg; cases hg
    · intro wq hq hd
      obtain ⟨h0, -⟩ := hd
      change v 4 = _ at h0
      refine ob_guard 4 true (true) rfl (yields_of rfl h0) (fun hg => ?_) (fun hg => ?_)
      · refine Yld.gd (p := true = true) (T := Ty.is (.slice A3 FL.length c3)) ?_
        exact yld_move (.tmp 3) rfl rfl rfl
      · intro hn; rw [hn] at hg; cases hg
    · intro wq hq hd
      obtain ⟨h0, h1, -⟩ := hd
      change (true = true) → v 7 = _ at h0
      change v 4 = _ at h1
      refine ob_guard 4 true (true) rfl (yields_of rfl h1) (fun hg => ?_) (fun hg => ?_)
      · refine Yld.gd (p := true = true) (T := Ty.is (.int .i64 FL.length)) ?_
        replace h0 := h0 hg
        exact yld_len (.tmp 18) 36 _ Tryd.underlying36 rfl _ _ _ h0 rfl
      · intro hn; rw [hn] at hg; cases hg
    · intro wq hq hd
      obtain ⟨h0, h1, -⟩ := hd
      change (true = true) → v 8 = _ at h0
      change v 4 = _ at h1
      refine ob_guard 4 true (true) rfl (yields_of rfl h1) (fun hg => ?_) (fun hg => ?_)
      · refine Yld.gd (p := true = true) (T := Ty.is (.bool (decide ((FL.length : Int) = 0)))) ?_
        replace h0 := h0 hg
        exact yld_binInt .eql 3 3 (.tmp 19) _ rfl _ _ h0 rfl (run_eql_i64 _ _ _) rfl
      · intro hn; rw [hn] at hg; cases hg
    · intro wq hq hd
      obtain ⟨h0, h1, h2, -⟩ := hd
      change (true = true) → v 6 = _ at h0
      change (true = true) → v 9 = _ at h1
      change v 4 = _ at h2
      refine ob_guard 4 true (true) rfl (yields_of rfl h2) (fun hg => ?_) (fun hg => ?_)
      · refine Yld.gd (p := true = true) (T := Ty.is (.bool true)) ?_
        replace h0 := h0 hg
        replace h1 := h1 hg
        exact yld_binBool .eql 4 4 (.tmp 17) (.tmp 20) rfl _ _ h0 h1 (run_eql_bool _ _ HV.out) rfl
      · intro hn; rw [hn] at hg; cases hg
    · intro wq hq hd
      obtain ⟨h0, h1, -⟩ := hd
      change v 4 = _ at h0
      change (true = true) → v 10 = _ at h1
      refine ob_plain rfl ?_
      exact yld_and (.tmp 15) (.tmp 21) rfl rfl _ _ h0 (fun hgd => h1 hgd) rfl
    · intro wq hq hd
      obtain ⟨h0, h1, -⟩ := hd
      change v 11 = _ at h0
      refine ob_plain rfl ?_
      exact yld_move (.tmp 22) rfl h0 rfl
    · intro wq hq hd
      obtain ⟨h0, -⟩ := hd
      change v 12 = _ at h0
      refine ob_guard 12 true ((true && true)) rfl (yields_of rfl h0) (fun hg => ?_) (fun hg => ?_)
      · refine Yld.gd (p := (true && true) = true) (T := Ty.is (.agg #[.int .i64 r.a, .int .i64 r.i, .int .i64 r.n, .int .i64 r.kind, .string r.label, .slice r.hA r.hn r.hc, .slice r.wA r.wn r.wc, .slice r.kA r.kn r.kc])) ?_
        exact yld_loadAgg 27 (.tmp 1) rfl Tryd.isAgg27 8 Tryd.sizeOf27 [.int .i64 r.a, .int .i64 r.i, .int .i64 r.n, .int .i64 r.kind, .string r.label, .slice r.hA r.hn r.hc, .slice r.wA r.wn r.wc, .slice r.kA r.kn r.kc] rfl (Hb.out _ (hx3.trans hq)) rfl
      · intro hn; rw [hn] at hg; cases hg
    · intro wq hq hd
      obtain ⟨h0, h1, h2, -⟩ := hd
      change ((true && true) = true) → v 13 = _ at h0
      change v 12 = _ at h1
      refine ob_guard 12 true ((true && true)) rfl (yields_of rfl h1) (fun hg => ?_) (fun hg => ?_)
      · refine Yld.gd (p := (true && true) = true) (T := TSl idEl NL) ?_
        replace h0 := h0 hg
        refine yld_call 22 Tryd.call22 _ _ rfl rfl [_] ⟨h0, trivial⟩ ?_
        refine (H3.out _ (hx3.trans hq)).mono ?_
        rintro e w' ⟨v', rfl, hown, hx'⟩
        obtain ⟨A9, c9, rfl, hc9, hs9⟩ := hown.form
        exact ⟨_, rfl, hx', A9, c9, rfl, hc9, hs9⟩
      · intro hn; rw [hn] at hg; cases hg
    · intro wq hq hd
      obtain ⟨h0, -⟩ := hd
      change v 12 = _ at h0
      refine ob_guard 12 true ((true && true)) rfl (yields_of rfl h0) (fun hg => ?_) (fun hg => ?_)
      · refine Yld.gd (p := (true && true) = true) (T := Ty.is (.agg #[.int .i64 r.a, .int .i64 r.i, .int .i64 r.n, .int .i64 r.kind, .string r.label, .slice r.hA r.hn r.hc, .slice r.wA r.wn r.wc, .slice r.kA r.kn r.kc])) ?_
        exact yld_loadAgg 27 (.tmp 1) rfl Tryd.isAgg27 8 Tryd.sizeOf27 [.int .i64 r.a, .int .i64 r.i, .int .i64 r.n, .int .i64 r.kind, .string r.label, .slice r.hA r.hn r.hc, .slice r.wA r.wn r.wc, .slice r.kA r.kn r.kc] rfl (Hb.out _ (hx3.trans hq)) rfl
      · intro hn; rw [hn] at hg; cases hg
    · intro wq hq hd
      obtain ⟨h0, h1, h2, -⟩ := hd
      change ((true && true) = true) → v 15 = _ at h0
      change v 12 = _ at h2
      refine ob_guard 12 true ((true && true)) rfl (yields_of rfl h2) (fun hg => ?_) (fun hg => ?_)
      · refine Yld.gd (p := (true && true) = true) (T := TSl idEl NL) ?_
        replace h0 := h0 hg
        refine yld_call 23 Tryd.call23 _ _ rfl rfl [_] ⟨h0, trivial⟩ ?_
        refine (H4.out _ (hx3.trans hq)).mono ?_
        rintro e w' ⟨v', rfl, hown, hx'⟩
        obtain ⟨A9, c9, rfl, hc9, hs9⟩ := hown.form
        exact ⟨_, rfl, hx', A9, c9, rfl, hc9, hs9⟩
      · intro hn; rw [hn] at hg; cases hg
    · intro wq hq hd
      obtain ⟨h0, h1, h2, h3, -⟩ := hd
      change ((true && true) = true) → (TSl idEl NL).p (v 14) wq at h0
      change ((true && true) = true) → (TSl idEl NL).p (v 16) wq at h1
      change v 12 = _ at h3
      refine ob_guard 12 true ((true && true)) rfl (yields_of rfl h3) (fun hg => ?_) (fun hg => ?_)
      · refine Yld.gd (p := (true && true) = true) (T := Ty.is (.bool true)) ?_
        replace h0 := h0 hg
        replace h1 := h1 hg
        obtain ⟨A1, c1, g1, g2, g3⟩ := h0
        obtain ⟨A2, c2, g4, g5, g6⟩ := h1
        refine yld_call 21 Tryd.call21 _ _ rfl rfl [_, _] ⟨g1, g4, trivial⟩ ?_
        refine (alike_any A1 A2 c1 c2 NL NL _ g3 g6 Hfl.out.2).mono ?_
        rw [decide_eq_true rfl]
        rintro e w' ⟨rfl, m, rfl⟩
        exact ⟨_, rfl, (Ext.refl _).drewN _, rfl⟩
      · intro hn; rw [hn] at hg; cases hg
    · intro wq hq hd
      obtain ⟨h0, h1, -⟩ := hd
      change v 12 = _ at h0
      change ((true && true) = true) → v 17 = _ at h1
      refine ob_plain rfl ?_
      exact yld_and (.tmp 23) (.tmp 28) rfl rfl _ _ h0 (fun hgd => h1 hgd) rfl
    · intro wq hq hd
      obtain ⟨h0, h1, h2, h3, h4, h5, h6, h7, h8, h9, h10, h11, h12, h13, h14, h15, h16, h17, h18, h19, h20, -⟩ := hd
      change v 18 = _ at h0
      refine ob_plain rfl ?_
      exact yld_assign (.tmp 29) rfl h0 rfl
    · intro wq hq hT
      have k19 := hT 19 (by decide)
      change v 19 = _ at k19
      clear hT
      simp only [List.drop_succ_cons, List.drop_zero, putE, setsE, List.set_cons_succ, List.set_cons_zero, Nat.reduceAdd]
      rw [k19]
      go_wp2
      go_ret
      exact ⟨by simp, hw0.trans (hx3.trans hq)⟩

end Go.Proofs.YtiacmahfjcolaaaDoor
