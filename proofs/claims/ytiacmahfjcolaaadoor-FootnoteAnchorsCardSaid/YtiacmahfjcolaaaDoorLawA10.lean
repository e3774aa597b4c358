/- The law on anchors. -/
import Derived.Test.YtiacmahfjcolaaaDoorLawH10
namespace Go.Proofs.YtiacmahfjcolaaaDoor
open Go.RowKit

set_option maxRecDepth 100000 in
set_option maxHeartbeats 6400000 in
theorem footnoteAnchors_law (word : ByteArray) (u : GUnit) (r : RUnit) (w : World) (hr : Reads w u r) (hbig : AllU (lensLe 9223372036854775807 9223372036854775807) u) (hT : Tab w) :
    Calls Tryd.prog 3 #[.string word, .agg r.cells.toArray] w fun e w' => e = .returned (.bool true) ∧ Ext w w' := by
  have hx0 : Ext w (w.alloc (.cells r.cells.toArray 27)) := (Ext.refl w).alloc _
  have Hbu := Lib.hid (show ∀ w', Ext (w.alloc (.cells r.cells.toArray 27)) w' → _ from fun w' he => boxUnit (w' := w') r (w := w) he)
  have Hbt := Lib.hid (show ∀ w', Ext (w.alloc (.cells r.cells.toArray 27)) w' → _ from fun w' he => boxT (w' := w') r (w := w) he)
  have Hfew := Lib.hid (show ∀ w', Ext w w' → _ from fun w' he => few6_any u r 60 w' (Reads.ext he _ _ hr) hbig (by decide) (by decide))
  have Hru := Lib.hid (show ∀ w', Ext w w' → Reads w' u r from fun w' he => Reads.ext he _ _ hr)
  have HT := Lib.hid (show ∀ w', Ext w w' → Tab w' from fun w' he => hT.ext he)
  obtain ⟨wz, hwz⟩ : ∃ wz, w.alloc (.cells r.cells.toArray 27) = wz := ⟨_, rfl⟩
  rw [hwz] at hx0 Hbu Hbt
  simp only [RUnit.cells] at hwz
  have Hwz := Lib.hid hwz
  have hok : fewF u 60 = true → OkT u := few_ok
  obtain ⟨F, hF⟩ : ∃ F, fewF u 60 = F := ⟨_, rfl⟩
  rw [hF] at Hfew hok
  have Hok := Lib.hid hok
  simp only [RUnit.cells] at Hfew Hbt ⊢
  clear hwz hbig hr hT hF hok
  go_enter Tryd.func3, Tryd.ntmps3
  go_wp2_with fail
  rw [Hwz.out]
  refine (awake10_any _ (HT.out _ hx0)).mono ?_
  rintro e w1 ⟨rfl, hx1⟩
  obtain ⟨-, u0, u1, u2, u3, u4, u5, u6, u7⟩ := Hbu.out w1 hx1
  go_wp2_with fail
  refine (Hfew.out w1 (hx0.trans hx1)).mono ?_
  rintro e w2 ⟨rfl, hx2⟩
  have hxz : Ext wz w2 := hx1.trans hx2
  have hw0 : Ext w w2 := hx0.trans hxz
  clear u0 u1 u2 u3 u4 u5 u6 u7 Hfew hx0 hx1 hx2
  obtain ⟨-, u0, u1, u2, u3, u4, u5, u6, u7⟩ := Hbu.out w2 hxz
  cases F
  case false =>
    go_wp2
    go_ret
    exact ⟨rfl, hw0⟩
  case true =>
    have hok := Hok.out rfl
    have Hb := Lib.hid (show ∀ w', Ext w2 w' → (TCells [.int .i64 r.a, .int .i64 r.i, .int .i64 r.n, .int .i64 r.kind, .string r.label, .slice r.hA r.hn r.hc, .slice r.wA r.wn r.wc, .slice r.kA r.kn r.kc]).p (.pointer (some ⟨w.heap.size, 0, none⟩)) w' from fun w' he => Hbt.out w' (hxz.trans he))
    have Hbq := Lib.hid (show ∀ w', Ext w2 w' → _ from fun w' he => Hbu.out w' (hxz.trans he))
    have Hr := Lib.hid (show ∀ w', Ext w2 w' → Reads w' u r from fun w' he => Hru.out w' (hw0.trans he))
    have HT2 := Lib.hid (show ∀ w', Ext w2 w' → Tab w' from fun w' he => HT.out w' (hw0.trans he))
    clear Hbt Hbu Hru HT Hok
    by_cases hwd : word.size ≤ 100
    case neg =>
      have d1 : decide ((word.size : Int) > 100) = true := decide_eq_true (by omega)
      have d1' : decide (100 < (word.size : Int)) = true := decide_eq_true (by omega)
      have d2 : decide (100 < word.size) = true := decide_eq_true (by omega)
      clear hwd
      go_wp2
      go_ret
      exact ⟨rfl, hw0⟩
    have d1 : decide ((word.size : Int) > 100) = false := decide_eq_false (by omega)
    have d1' : decide (100 < (word.size : Int)) = false := decide_eq_false (by omega)
    have d2 : decide (100 < word.size) = false := decide_eq_false (by omega)
    have hsh := hok.short
    have hl1 := fun wq (he : Ext w2 wq) => anchors_any u r wq (Hr.out wq he) hsh.1 (by have := hsh.2.1; omega)
    have hl2 := fun wq (he : Ext w2 wq) => refAnchors_any u r wq (Hr.out wq he) hsh.1 (by have := hsh.2.1; omega)
    have hl3 := fun wq => parseAnchor_any word wq (by omega)
    have hl4 := fun wq => anchor_any word wq (by omega)
    simp only [show RetAnc word = fun w e w' => e = .returned (.tuple #[.string (ancT word), .bool (ancB word)]) ∧ Ext w w' from rfl] at hl3 hl4
    have hll : u.anchs.length ≤ 9223372036854775807 := by
      have := anchL_len u.words
      have h2 := hsh.2.1
      unfold GUnit.anchs
      omega
    obtain ⟨L, hL⟩ : ∃ L, u.anchs = L := ⟨_, rfl⟩
    obtain ⟨X, hX⟩ : ∃ X, ancT word = X := ⟨_, rfl⟩
    obtain ⟨B, hB⟩ : ∃ B, ancB word = B := ⟨_, rfl⟩
    rw [hL] at hl1 hl2 hll
    rw [hX, hB] at hl3 hl4
    simp only [RUnit.cells] at hl1 hl2
    have H1 := Lib.hid hl1
    have H2 := Lib.hid hl2
    have H3 := Lib.hid hl3
    have H4 := Lib.hid hl4
    have Hll := Lib.hid hll
    clear hl1 hl2 hl3 hl4 hL hX hB hsh hll
    go_wp2_with fail
    refine (H3.out _).mono ?_
    rintro e w3 ⟨rfl, hx3⟩
    clear u0 u1 u2 u3 u4 u5 u6 u7
    go_wp2_with fail
    refine (H4.out _).mono ?_
    rintro e w4 ⟨rfl, hx4⟩
    have hx24 := hx3.trans hx4
    clear d1 d1' d2
    go_wp2
    refine wp_drawn (by kernel_rfl) (fun i => match i with | 0 => Ty.is (.string X) | 1 => Ty.is (.string X) | 2 => Ty.is (.bool true) | 3 => Ty.is (.bool true) | 4 => TGd (true = true) (Ty.is (.bool B)) | 5 => TGd (true = true) (Ty.is (.bool B)) | 6 => TGd (true = true) (Ty.is (.bool true)) | 7 => Ty.is (.bool (true && true)) | 8 => Ty.is (.bool (true && true)) | 9 => TGd ((true && true) = true) (Ty.is (.agg #[.int .i64 r.a, .int .i64 r.i, .int .i64 r.n, .int .i64 r.kind, .string r.label, .slice r.hA r.hn r.hc, .slice r.wA r.wn r.wc, .slice r.kA r.kn r.kc])) | 10 => TGd ((true && true) = true) (TSl strEl L) | 11 => TGd ((true && true) = true) (Ty.is (.agg #[.int .i64 r.a, .int .i64 r.i, .int .i64 r.n, .int .i64 r.kind, .string r.label, .slice r.hA r.hn r.hc, .slice r.wA r.wn r.wc, .slice r.kA r.kn r.kc])) | 12 => TGd ((true && true) = true) (TSl strEl L) | 13 => TGd ((true && true) = true) (Ty.is (.bool true)) | 14 => Ty.is (.bool ((true && true) && true)) | 15 => Ty.is (.bool ((true && true) && true)) | _ => Ty.any) (by kernel_rfl) rfl ?_
    intro v
    refine ⟨?_, ?_, ?_, ?_, ?_, ?_, ?_, ?_, ?_, ?_, ?_, ?_, ?_, ?_, ?_, ?_, ?_⟩
    · intro wq hq hd
      refine ob_plain rfl ?_
      exact yld_move (.tmp 5) rfl rfl rfl
    · intro wq hq hd
      refine ob_plain rfl ?_
      exact yld_move (.tmp 7) rfl rfl rfl
    · intro wq hq hd
      obtain ⟨h0, h1, -⟩ := hd
      change v 0 = _ at h0
      change v 1 = _ at h1
      refine ob_plain rfl ?_
      exact yld_binStr .eql 9 9 (.tmp 29) (.tmp 30) rfl _ _ h0 h1 (run_eql_strs _ _) rfl
    · intro wq hq hd
      obtain ⟨h0, -⟩ := hd
      change v 2 = _ at h0
      refine ob_plain rfl ?_
      exact yld_move (.tmp 31) rfl h0 rfl
    · intro wq hq hd
      obtain ⟨h0, -⟩ := hd
      change v 3 = _ at h0
      refine ob_guard 3 true (true) rfl (yields_of rfl h0) (fun hg => ?_) (fun hg => ?_)
      · refine Yld.gd (p := true = true) (T := Ty.is (.bool B)) ?_
        exact yld_move (.tmp 6) rfl rfl rfl
      · intro hn; rw [hn] at hg; cases hg
    · intro wq hq hd
      obtain ⟨h0, -⟩ := hd
      change v 3 = _ at h0
      refine ob_guard 3 true (true) rfl (yields_of rfl h0) (fun hg => ?_) (fun hg => ?_)
      · refine Yld.gd (p := true = true) (T := Ty.is (.bool B)) ?_
        exact yld_move (.tmp 8) rfl rfl rfl
      · intro hn; rw [hn] at hg; cases hg
    · intro wq hq hd
      obtain ⟨h0, h1, h2, -⟩ := hd
      change (true = true) → v 4 = _ at h0
      change (true = true) → v 5 = _ at h1
      change v 3 = _ at h2
      refine ob_guard 3 true (true) rfl (yields_of rfl h2) (fun hg => ?_) (fun hg => ?_)
      · refine Yld.gd (p := true = true) (T := Ty.is (.bool true)) ?_
        replace h0 := h0 hg
        replace h1 := h1 hg
        exact yld_binBool .eql 4 4 (.tmp 33) (.tmp 34) rfl _ _ h0 h1 (run_eql_bool _ _ rfl) rfl
      · intro hn; rw [hn] at hg; cases hg
    · intro wq hq hd
      obtain ⟨h0, h1, -⟩ := hd
      change v 3 = _ at h0
      change (true = true) → v 6 = _ at h1
      refine ob_plain rfl ?_
      exact yld_and (.tmp 32) (.tmp 35) rfl rfl _ _ h0 (fun hgd => h1 hgd) rfl
    · intro wq hq hd
      obtain ⟨h0, h1, -⟩ := hd
      change v 7 = _ at h0
      refine ob_plain rfl ?_
      exact yld_move (.tmp 36) rfl h0 rfl
    · intro wq hq hd
      obtain ⟨h0, -⟩ := hd
      change v 8 = _ at h0
      refine ob_guard 8 true ((true && true)) rfl (yields_of rfl h0) (fun hg => ?_) (fun hg => ?_)
      · refine Yld.gd (p := (true && true) = true) (T := Ty.is (.agg #[.int .i64 r.a, .int .i64 r.i, .int .i64 r.n, .int .i64 r.kind, .string r.label, .slice r.hA r.hn r.hc, .slice r.wA r.wn r.wc, .slice r.kA r.kn r.kc])) ?_
        exact yld_loadAgg 27 (.tmp 3) rfl Tryd.isAgg27 8 Tryd.sizeOf27 [.int .i64 r.a, .int .i64 r.i, .int .i64 r.n, .int .i64 r.kind, .string r.label, .slice r.hA r.hn r.hc, .slice r.wA r.wn r.wc, .slice r.kA r.kn r.kc] rfl (Hb.out _ (hx24.trans hq)) rfl
      · intro hn; rw [hn] at hg; cases hg
    · intro wq hq hd
      obtain ⟨h0, h1, h2, -⟩ := hd
      change ((true && true) = true) → v 9 = _ at h0
      change v 8 = _ at h1
      refine ob_guard 8 true ((true && true)) rfl (yields_of rfl h1) (fun hg => ?_) (fun hg => ?_)
      · refine Yld.gd (p := (true && true) = true) (T := TSl strEl L) ?_
        replace h0 := h0 hg
        refine yld_call 15 Tryd.call15 _ _ rfl rfl [_] ⟨h0, trivial⟩ ?_
        refine (H1.out _ (hx24.trans hq)).mono ?_
        rintro e w' ⟨v', rfl, hown, hx'⟩
        obtain ⟨A9, c9, rfl, hc9, hs9⟩ := hown.form
        exact ⟨_, rfl, hx', A9, c9, rfl, hc9, hs9⟩
      · intro hn; rw [hn] at hg; cases hg
    · intro wq hq hd
      obtain ⟨h0, -⟩ := hd
      change v 8 = _ at h0
      refine ob_guard 8 true ((true && true)) rfl (yields_of rfl h0) (fun hg => ?_) (fun hg => ?_)
      · refine Yld.gd (p := (true && true) = true) (T := Ty.is (.agg #[.int .i64 r.a, .int .i64 r.i, .int .i64 r.n, .int .i64 r.kind, .string r.label, .slice r.hA r.hn r.hc, .slice r.wA r.wn r.wc, .slice r.kA r.kn r.kc])) ?_
        exact yld_loadAgg 27 (.tmp 3) rfl Tryd.isAgg27 8 Tryd.sizeOf27 [.int .i64 r.a, .int .i64 r.i, .int .i64 r.n, .int .i64 r.kind, .string r.label, .slice r.hA r.hn r.hc, .slice r.wA r.wn r.wc, .slice r.kA r.kn r.kc] rfl (Hb.out _ (hx24.trans hq)) rfl
      · intro hn; rw [hn] at hg; cases hg
    · intro wq hq hd
      obtain ⟨h0, h1, h2, -⟩ := hd
      change ((true && true) = true) → v 11 = _ at h0
      change v 8 = _ at h2
      refine ob_guard 8 true ((true && true)) rfl (yields_of rfl h2) (fun hg => ?_) (fun hg => ?_)
      · refine Yld.gd (p := (true && true) = true) (T := TSl strEl L) ?_
        replace h0 := h0 hg
        refine yld_call 16 Tryd.call16 _ _ rfl rfl [_] ⟨h0, trivial⟩ ?_
        refine (H2.out _ (hx24.trans hq)).mono ?_
        rintro e w' ⟨v', rfl, hown, hx'⟩
        obtain ⟨A9, c9, rfl, hc9, hs9⟩ := hown.form
        exact ⟨_, rfl, hx', A9, c9, rfl, hc9, hs9⟩
      · intro hn; rw [hn] at hg; cases hg
    · intro wq hq hd
      obtain ⟨h0, h1, h2, h3, -⟩ := hd
      change ((true && true) = true) → (TSl strEl L).p (v 10) wq at h0
      change ((true && true) = true) → (TSl strEl L).p (v 12) wq at h1
      change v 8 = _ at h3
      refine ob_guard 8 true ((true && true)) rfl (yields_of rfl h3) (fun hg => ?_) (fun hg => ?_)
      · refine Yld.gd (p := (true && true) = true) (T := Ty.is (.bool true)) ?_
        replace h0 := h0 hg
        replace h1 := h1 hg
        obtain ⟨A1, c1, g1, g2, g3⟩ := h0
        obtain ⟨A2, c2, g4, g5, g6⟩ := h1
        refine yld_call 14 Tryd.call14 _ _ rfl rfl [_, _] ⟨g1, g4, trivial⟩ ?_
        refine (same_any A1 A2 c1 c2 L L _ g3 g6 Hll.out).mono ?_
        rw [decide_eq_true rfl]
        rintro e w' ⟨rfl, m, rfl⟩
        exact ⟨_, rfl, (Ext.refl _).drewN _, rfl⟩
      · intro hn; rw [hn] at hg; cases hg
    · intro wq hq hd
      obtain ⟨h0, h1, -⟩ := hd
      change v 8 = _ at h0
      change ((true && true) = true) → v 13 = _ at h1
      refine ob_plain rfl ?_
      exact yld_and (.tmp 37) (.tmp 42) rfl rfl _ _ h0 (fun hgd => h1 hgd) rfl
    · intro wq hq hd
      obtain ⟨h0, h1, h2, h3, h4, h5, h6, h7, h8, h9, h10, h11, h12, h13, h14, h15, h16, -⟩ := hd
      change v 14 = _ at h0
      refine ob_plain rfl ?_
      exact yld_assign (.tmp 43) rfl h0 rfl
    · intro wq hq hT
      have k15 := hT 15 (by decide)
      change v 15 = _ at k15
      clear hT
      simp only [List.drop_succ_cons, List.drop_zero, putE, setsE, List.set_cons_succ, List.set_cons_zero, Nat.reduceAdd]
      rw [k15]
      go_wp2
      go_ret
      exact ⟨by simp, hw0.trans (hx24.trans hq)⟩

end Go.Proofs.YtiacmahfjcolaaaDoor
