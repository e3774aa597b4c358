/- The law on Format, ColumnWidths and Column. -/
import Derived.Test.YthjlnpcanccmkaaAwake9
namespace Go.Proofs.Ythjlnpcanccmkaa
open Go.RowKit

theorem kids_small {u : GUnit} (h : smallU u) : u.kids.length ≤ 60 := by
  obtain ⟨a, i, n, kd, lb, hl, wl, kids⟩ := u
  have h1 := h.1
  rw [cntF] at h1
  have := cntL_len kids
  show kids.length ≤ 60
  omega
theorem formatF_small {u : GUnit} (h : smallU u) : (formatF u).length ≤ 9223372036854775807 := by
  have := kids_small h
  unfold formatF
  split <;> simp <;> omega
theorem widthsF_small (u : GUnit) : (widthsF u).length ≤ 9223372036854775807 := by
  have := colsF_le u
  rw [widthsF_length]
  omega
theorem columnF_small {u : GUnit} (c : Int) (h : smallU u) : (columnF u c).length ≤ 9223372036854775807 := by
  have := kids_small h
  have := columnF_length u c
  omega

set_option maxRecDepth 100000 in
set_option maxHeartbeats 3200000 in
theorem tableFormat_law (u : GUnit) (r : RUnit) (c : Int) (w : World) (hr : Reads w u r) (hbig : AllU (lensLe 9223372036854775807 9223372036854775807) u) :
    Calls Try.prog 3 #[.agg r.cells.toArray, .int .i64 c] w fun e w' => e = .returned (.bool true) ∧ Ext w w' := by
  have hx0 : Ext w (w.alloc (.cells r.cells.toArray 27)) := (Ext.refl w).alloc _
  have Hbu := Lib.hid (show ∀ w', Ext (w.alloc (.cells r.cells.toArray 27)) w' → _ from fun w' he => boxUnit (w' := w') r (w := w) he)
  have Hbt := Lib.hid (show ∀ w', Ext (w.alloc (.cells r.cells.toArray 27)) w' → _ from fun w' he => boxT (w' := w') r (w := w) he)
  have Hbigc := Lib.hid (show ∀ w', Ext w w' → _ from fun w' he => big_any u r w' (Reads.ext he _ _ hr) hbig)
  have Hru := Lib.hid (show ∀ w', Ext w w' → _ from fun w' he => Reads.ext he _ _ hr)
  obtain ⟨wz, hwz⟩ : ∃ wz, w.alloc (.cells r.cells.toArray 27) = wz := ⟨_, rfl⟩
  rw [hwz] at hx0 Hbu Hbt
  simp only [RUnit.cells] at hwz
  have Hwz := Lib.hid hwz
  simp only [RUnit.cells] at Hbigc Hbt ⊢
  clear hwz hbig hr
  go_enter Try.func3, Try.ntmps3
  go_wp2_with fail
  rw [Hwz.out]
  refine (awake9_any _).mono ?_
  rintro e w1 ⟨rfl, hx1⟩
  obtain ⟨-, u0, u1, u2, u3, u4, u5, u6, u7⟩ := Hbu.out w1 hx1
  go_wp2_with fail
  refine (Hbigc.out w1 (hx0.trans hx1)).mono ?_
  rintro e w2 ⟨b, rfl, hb, hx2⟩
  have hxz : Ext wz w2 := hx1.trans hx2
  have hw0 : Ext w w2 := hx0.trans hxz
  clear u0 u1 u2 u3 u4 u5 u6 u7 Hbigc hx0 hx1 hx2
  cases b
  case true =>
    clear hb
    go_wp2
    go_ret
    exact ⟨rfl, hw0⟩
  case false =>
    have hsm := hb rfl
    clear hb
    have Hb := Lib.hid (show ∀ w', Ext w2 w' → _ from fun w' he => Hbt.out w' (hxz.trans he))
    have Hbq := Lib.hid (show ∀ w', Ext w2 w' → _ from fun w' he => Hbu.out w' (hxz.trans he))
    have Hr := Lib.hid (show ∀ w', Ext w2 w' → _ from fun w' he => Hru.out w' (hw0.trans he))
    clear Hbt Hbu Hru
    have Hf1 := Lib.hid (show ∀ w', Ext w2 w' → _ from fun w' he => format_any u r w' (Hr.out w' he) hsm)
    have Hf2 := Lib.hid (show ∀ w', Ext w2 w' → _ from fun w' he => text_any u r w' (Hr.out w' he) hsm)
    have Hw1 := Lib.hid (show ∀ w', Ext w2 w' → _ from fun w' he => widths_any u r w' (Hr.out w' he) hsm)
    have Hw2 := Lib.hid (show ∀ w', Ext w2 w' → _ from fun w' he => wide_any u r w' (Hr.out w' he) hsm)
    have Hc1 := Lib.hid (show ∀ w', Ext w2 w' → _ from fun w' he => column_any u r c w' (Hr.out w' he) hsm)
    have Hc2 := Lib.hid (show ∀ w', Ext w2 w' → _ from fun w' he => refColumn_any u r c w' (Hr.out w' he) hsm)
    have hl1 := Lib.hid (formatF_small hsm)
    have hl2 := Lib.hid (widthsF_small u)
    have hl3 := Lib.hid (columnF_small c hsm)
    obtain ⟨F, hF⟩ : ∃ F, formatF u = F := ⟨_, rfl⟩
    obtain ⟨D, hD⟩ : ∃ D, widthsF u = D := ⟨_, rfl⟩
    obtain ⟨C, hC⟩ : ∃ C, columnF u c = C := ⟨_, rfl⟩
    rw [hF] at Hf1 Hf2 hl1
    rw [hD] at Hw1 Hw2 hl2
    rw [hC] at Hc1 Hc2 hl3
    simp only [RUnit.cells] at Hf1 Hf2 Hw1 Hw2 Hc1 Hc2
    clear hF hD hC hsm
    obtain ⟨-, u0, u1, u2, u3, u4, u5, u6, u7⟩ := Hbq.out w2 (Ext.refl w2)
    go_wp2
    refine wp_drawn (by kernel_rfl) (fun i => match i with | 0 => Ty.is (.agg #[.int .i64 r.a, .int .i64 r.i, .int .i64 r.n, .int .i64 r.kind, .string r.label, .slice r.hA r.hn r.hc, .slice r.wA r.wn r.wc, .slice r.kA r.kn r.kc]) | 1 => TSl strEl F | 2 => Ty.is (.agg #[.int .i64 r.a, .int .i64 r.i, .int .i64 r.n, .int .i64 r.kind, .string r.label, .slice r.hA r.hn r.hc, .slice r.wA r.wn r.wc, .slice r.kA r.kn r.kc]) | 3 => TSl strEl F | 4 => Ty.is (.bool true) | 5 => Ty.is (.bool true) | 6 => TGd (true = true) (Ty.is (.agg #[.int .i64 r.a, .int .i64 r.i, .int .i64 r.n, .int .i64 r.kind, .string r.label, .slice r.hA r.hn r.hc, .slice r.wA r.wn r.wc, .slice r.kA r.kn r.kc])) | 7 => TGd (true = true) (TSl intEl D) | 8 => TGd (true = true) (Ty.is (.agg #[.int .i64 r.a, .int .i64 r.i, .int .i64 r.n, .int .i64 r.kind, .string r.label, .slice r.hA r.hn r.hc, .slice r.wA r.wn r.wc, .slice r.kA r.kn r.kc])) | 9 => TGd (true = true) (TSl intEl D) | 10 => TGd (true = true) (Ty.is (.bool true)) | 11 => Ty.is (.bool (true && true)) | 12 => Ty.is (.bool (true && true)) | 13 => TGd ((true && true) = true) (Ty.is (.agg #[.int .i64 r.a, .int .i64 r.i, .int .i64 r.n, .int .i64 r.kind, .string r.label, .slice r.hA r.hn r.hc, .slice r.wA r.wn r.wc, .slice r.kA r.kn r.kc])) | 14 => TGd ((true && true) = true) (Ty.is (.int .i64 c)) | 15 => TGd ((true && true) = true) (TSl strEl C) | 16 => TGd ((true && true) = true) (Ty.is (.agg #[.int .i64 r.a, .int .i64 r.i, .int .i64 r.n, .int .i64 r.kind, .string r.label, .slice r.hA r.hn r.hc, .slice r.wA r.wn r.wc, .slice r.kA r.kn r.kc])) | 17 => TGd ((true && true) = true) (Ty.is (.int .i64 c)) | 18 => TGd ((true && true) = true) (TSl strEl C) | 19 => TGd ((true && true) = true) (Ty.is (.bool true)) | 20 => Ty.is (.bool ((true && true) && true)) | 21 => Ty.is (.bool ((true && true) && true)) | _ => Ty.any) (by kernel_rfl) rfl ?_
    intro v
    refine ⟨?_, ?_, ?_, ?_, ?_, ?_, ?_, ?_, ?_, ?_, ?_, ?_, ?_, ?_, ?_, ?_, ?_, ?_, ?_, ?_, ?_, ?_, ?_⟩
    · intro wq hq hd
      refine ob_plain rfl ?_
      exact yld_loadAgg 27 (.tmp 2) rfl Try.isAgg27 8 Try.sizeOf27 [.int .i64 r.a, .int .i64 r.i, .int .i64 r.n, .int .i64 r.kind, .string r.label, .slice r.hA r.hn r.hc, .slice r.wA r.wn r.wc, .slice r.kA r.kn r.kc] rfl (Hb.out _ hq) rfl
    · intro wq hq hd
      obtain ⟨h0, -⟩ := hd
      change v 0 = _ at h0
      refine ob_plain rfl ?_
      refine yld_call 12 Try.call12 _ _ rfl rfl [_] ⟨h0, trivial⟩ ?_
      refine (Hf1.out _ hq).mono ?_
      rintro e w' ⟨v', rfl, hown, hx'⟩
      obtain ⟨A3, c3, rfl, hc3, hs3⟩ := hown.form
      exact ⟨_, rfl, hx', A3, c3, rfl, hc3, hs3⟩
    · intro wq hq hd
      refine ob_plain rfl ?_
      exact yld_loadAgg 27 (.tmp 2) rfl Try.isAgg27 8 Try.sizeOf27 [.int .i64 r.a, .int .i64 r.i, .int .i64 r.n, .int .i64 r.kind, .string r.label, .slice r.hA r.hn r.hc, .slice r.wA r.wn r.wc, .slice r.kA r.kn r.kc] rfl (Hb.out _ hq) rfl
    · intro wq hq hd
      obtain ⟨h0, h1, -⟩ := hd
      change v 2 = _ at h0
      refine ob_plain rfl ?_
      refine yld_call 13 Try.call13 _ _ rfl rfl [_] ⟨h0, trivial⟩ ?_
      refine (Hf2.out _ hq).mono ?_
      rintro e w' ⟨v', rfl, hown, hx'⟩
      obtain ⟨A3, c3, rfl, hc3, hs3⟩ := hown.form
      exact ⟨_, rfl, hx', A3, c3, rfl, hc3, hs3⟩
    · intro wq hq hd
      obtain ⟨h0, h1, h2, -⟩ := hd
      change (TSl strEl F).p (v 1) wq at h0
      change (TSl strEl F).p (v 3) wq at h1
      refine ob_plain rfl ?_
      obtain ⟨A1, c1, g1, g2, g3⟩ := h0
      obtain ⟨A2, c2, g4, g5, g6⟩ := h1
      refine yld_call 11 Try.call11 _ _ rfl rfl [_, _] ⟨g1, g4, trivial⟩ ?_
      refine (texts9_eq A1 A2 c1 c2 F _ g3 g6 hl1.out).mono ?_
      rintro e w' ⟨rfl, hext'⟩
      exact ⟨_, rfl, hext', rfl⟩
    · intro wq hq hd
      obtain ⟨h0, h1, -⟩ := hd
      change v 4 = _ at h0
      refine ob_plain rfl ?_
      exact yld_move (.tmp 13) rfl h0 rfl
    · intro wq hq hd
      obtain ⟨h0, -⟩ := hd
      change v 5 = _ at h0
      refine ob_guard 5 true (true) rfl (yields_of rfl h0) (fun hg => ?_) (fun hg => ?_)
      · refine Yld.gd (p := true = true) (T := Ty.is (.agg #[.int .i64 r.a, .int .i64 r.i, .int .i64 r.n, .int .i64 r.kind, .string r.label, .slice r.hA r.hn r.hc, .slice r.wA r.wn r.wc, .slice r.kA r.kn r.kc])) ?_
        exact yld_loadAgg 27 (.tmp 2) rfl Try.isAgg27 8 Try.sizeOf27 [.int .i64 r.a, .int .i64 r.i, .int .i64 r.n, .int .i64 r.kind, .string r.label, .slice r.hA r.hn r.hc, .slice r.wA r.wn r.wc, .slice r.kA r.kn r.kc] rfl (Hb.out _ hq) rfl
      · intro hn; rw [hn] at hg; cases hg
    · intro wq hq hd
      obtain ⟨h0, h1, h2, -⟩ := hd
      change (true = true) → v 6 = _ at h0
      change v 5 = _ at h1
      refine ob_guard 5 true (true) rfl (yields_of rfl h1) (fun hg => ?_) (fun hg => ?_)
      · refine Yld.gd (p := true = true) (T := TSl intEl D) ?_
        replace h0 := h0 hg
        refine yld_call 15 Try.call15 _ _ rfl rfl [_] ⟨h0, trivial⟩ ?_
        refine (Hw1.out _ hq).mono ?_
        rintro e w' ⟨v', rfl, hown, hx'⟩
        obtain ⟨A3, c3, rfl, hc3, hs3⟩ := hown.form
        exact ⟨_, rfl, hx', A3, c3, rfl, hc3, hs3⟩
      · intro hn; rw [hn] at hg; cases hg
    · intro wq hq hd
      obtain ⟨h0, -⟩ := hd
      change v 5 = _ at h0
      refine ob_guard 5 true (true) rfl (yields_of rfl h0) (fun hg => ?_) (fun hg => ?_)
      · refine Yld.gd (p := true = true) (T := Ty.is (.agg #[.int .i64 r.a, .int .i64 r.i, .int .i64 r.n, .int .i64 r.kind, .string r.label, .slice r.hA r.hn r.hc, .slice r.wA r.wn r.wc, .slice r.kA r.kn r.kc])) ?_
        exact yld_loadAgg 27 (.tmp 2) rfl Try.isAgg27 8 Try.sizeOf27 [.int .i64 r.a, .int .i64 r.i, .int .i64 r.n, .int .i64 r.kind, .string r.label, .slice r.hA r.hn r.hc, .slice r.wA r.wn r.wc, .slice r.kA r.kn r.kc] rfl (Hb.out _ hq) rfl
      · intro hn; rw [hn] at hg; cases hg
    · intro wq hq hd
      obtain ⟨h0, h1, h2, -⟩ := hd
      change (true = true) → v 8 = _ at h0
      change v 5 = _ at h2
      refine ob_guard 5 true (true) rfl (yields_of rfl h2) (fun hg => ?_) (fun hg => ?_)
      · refine Yld.gd (p := true = true) (T := TSl intEl D) ?_
        replace h0 := h0 hg
        refine yld_call 16 Try.call16 _ _ rfl rfl [_] ⟨h0, trivial⟩ ?_
        refine (Hw2.out _ hq).mono ?_
        rintro e w' ⟨v', rfl, hown, hx'⟩
        obtain ⟨A3, c3, rfl, hc3, hs3⟩ := hown.form
        exact ⟨_, rfl, hx', A3, c3, rfl, hc3, hs3⟩
      · intro hn; rw [hn] at hg; cases hg
    · intro wq hq hd
      obtain ⟨h0, h1, h2, h3, -⟩ := hd
      change (true = true) → (TSl intEl D).p (v 7) wq at h0
      change (true = true) → (TSl intEl D).p (v 9) wq at h1
      change v 5 = _ at h3
      refine ob_guard 5 true (true) rfl (yields_of rfl h3) (fun hg => ?_) (fun hg => ?_)
      · refine Yld.gd (p := true = true) (T := Ty.is (.bool true)) ?_
        replace h0 := h0 hg
        replace h1 := h1 hg
        obtain ⟨A1, c1, g1, g2, g3⟩ := h0
        obtain ⟨A2, c2, g4, g5, g6⟩ := h1
        refine yld_call 14 Try.call14 _ _ rfl rfl [_, _] ⟨g1, g4, trivial⟩ ?_
        refine (ints_eq A1 A2 c1 c2 D _ g3 g6 hl2.out).mono ?_
        rintro e w' ⟨rfl, hext'⟩
        exact ⟨_, rfl, hext', rfl⟩
      · intro hn; rw [hn] at hg; cases hg
    · intro wq hq hd
      obtain ⟨h0, h1, -⟩ := hd
      change v 5 = _ at h0
      change (true = true) → v 10 = _ at h1
      refine ob_plain rfl ?_
      exact yld_and (.tmp 14) (.tmp 19) rfl rfl _ _ h0 (fun hgd => h1 hgd) rfl
    · intro wq hq hd
      obtain ⟨h0, h1, -⟩ := hd
      change v 11 = _ at h0
      refine ob_plain rfl ?_
      exact yld_move (.tmp 20) rfl h0 rfl
    · intro wq hq hd
      obtain ⟨h0, -⟩ := hd
      change v 12 = _ at h0
      refine ob_guard 12 true ((true && true)) rfl (yields_of rfl h0) (fun hg => ?_) (fun hg => ?_)
      · refine Yld.gd (p := (true && true) = true) (T := Ty.is (.agg #[.int .i64 r.a, .int .i64 r.i, .int .i64 r.n, .int .i64 r.kind, .string r.label, .slice r.hA r.hn r.hc, .slice r.wA r.wn r.wc, .slice r.kA r.kn r.kc])) ?_
        exact yld_loadAgg 27 (.tmp 2) rfl Try.isAgg27 8 Try.sizeOf27 [.int .i64 r.a, .int .i64 r.i, .int .i64 r.n, .int .i64 r.kind, .string r.label, .slice r.hA r.hn r.hc, .slice r.wA r.wn r.wc, .slice r.kA r.kn r.kc] rfl (Hb.out _ hq) rfl
      · intro hn; rw [hn] at hg; cases hg
    · intro wq hq hd
      obtain ⟨h0, -⟩ := hd
      change v 12 = _ at h0
      refine ob_guard 12 true ((true && true)) rfl (yields_of rfl h0) (fun hg => ?_) (fun hg => ?_)
      · refine Yld.gd (p := (true && true) = true) (T := Ty.is (.int .i64 c)) ?_
        exact yld_move (.tmp 1) rfl rfl rfl
      · intro hn; rw [hn] at hg; cases hg
    · intro wq hq hd
      obtain ⟨h0, h1, h2, h3, -⟩ := hd
      change ((true && true) = true) → v 13 = _ at h0
      change ((true && true) = true) → v 14 = _ at h1
      change v 12 = _ at h2
      refine ob_guard 12 true ((true && true)) rfl (yields_of rfl h2) (fun hg => ?_) (fun hg => ?_)
      · refine Yld.gd (p := (true && true) = true) (T := TSl strEl C) ?_
        replace h0 := h0 hg
        replace h1 := h1 hg
        refine yld_call 17 Try.call17 _ _ rfl rfl [_, _] ⟨h0, h1, trivial⟩ ?_
        refine (Hc1.out _ hq).mono ?_
        rintro e w' ⟨v', rfl, hown, hx'⟩
        obtain ⟨A3, c3, rfl, hc3, hs3⟩ := hown.form
        exact ⟨_, rfl, hx', A3, c3, rfl, hc3, hs3⟩
      · intro hn; rw [hn] at hg; cases hg
    · intro wq hq hd
      obtain ⟨h0, -⟩ := hd
      change v 12 = _ at h0
      refine ob_guard 12 true ((true && true)) rfl (yields_of rfl h0) (fun hg => ?_) (fun hg => ?_)
      · refine Yld.gd (p := (true && true) = true) (T := Ty.is (.agg #[.int .i64 r.a, .int .i64 r.i, .int .i64 r.n, .int .i64 r.kind, .string r.label, .slice r.hA r.hn r.hc, .slice r.wA r.wn r.wc, .slice r.kA r.kn r.kc])) ?_
        exact yld_loadAgg 27 (.tmp 2) rfl Try.isAgg27 8 Try.sizeOf27 [.int .i64 r.a, .int .i64 r.i, .int .i64 r.n, .int .i64 r.kind, .string r.label, .slice r.hA r.hn r.hc, .slice r.wA r.wn r.wc, .slice r.kA r.kn r.kc] rfl (Hb.out _ hq) rfl
      · intro hn; rw [hn] at hg; cases hg
    · intro wq hq hd
      obtain ⟨h0, -⟩ := hd
      change v 12 = _ at h0
      refine ob_guard 12 true ((true && true)) rfl (yields_of rfl h0) (fun hg => ?_) (fun hg => ?_)
      · refine Yld.gd (p := (true && true) = true) (T := Ty.is (.int .i64 c)) ?_
        exact yld_move (.tmp 1) rfl rfl rfl
      · intro hn; rw [hn] at hg; cases hg
    · intro wq hq hd
      obtain ⟨h0, h1, h2, h3, -⟩ := hd
      change ((true && true) = true) → v 16 = _ at h0
      change ((true && true) = true) → v 17 = _ at h1
      change v 12 = _ at h3
      refine ob_guard 12 true ((true && true)) rfl (yields_of rfl h3) (fun hg => ?_) (fun hg => ?_)
      · refine Yld.gd (p := (true && true) = true) (T := TSl strEl C) ?_
        replace h0 := h0 hg
        replace h1 := h1 hg
        refine yld_call 18 Try.call18 _ _ rfl rfl [_, _] ⟨h0, h1, trivial⟩ ?_
        refine (Hc2.out _ hq).mono ?_
        rintro e w' ⟨v', rfl, hown, hx'⟩
        obtain ⟨A3, c3, rfl, hc3, hs3⟩ := hown.form
        exact ⟨_, rfl, hx', A3, c3, rfl, hc3, hs3⟩
      · intro hn; rw [hn] at hg; cases hg
    · intro wq hq hd
      obtain ⟨h0, h1, h2, h3, -⟩ := hd
      change ((true && true) = true) → (TSl strEl C).p (v 15) wq at h0
      change ((true && true) = true) → (TSl strEl C).p (v 18) wq at h1
      change v 12 = _ at h3
      refine ob_guard 12 true ((true && true)) rfl (yields_of rfl h3) (fun hg => ?_) (fun hg => ?_)
      · refine Yld.gd (p := (true && true) = true) (T := Ty.is (.bool true)) ?_
        replace h0 := h0 hg
        replace h1 := h1 hg
        obtain ⟨A1, c1, g1, g2, g3⟩ := h0
        obtain ⟨A2, c2, g4, g5, g6⟩ := h1
        refine yld_call 11 Try.call11 _ _ rfl rfl [_, _] ⟨g1, g4, trivial⟩ ?_
        refine (texts9_eq A1 A2 c1 c2 C _ g3 g6 hl3.out).mono ?_
        rintro e w' ⟨rfl, hext'⟩
        exact ⟨_, rfl, hext', rfl⟩
      · intro hn; rw [hn] at hg; cases hg
    · intro wq hq hd
      obtain ⟨h0, h1, -⟩ := hd
      change v 12 = _ at h0
      change ((true && true) = true) → v 19 = _ at h1
      refine ob_plain rfl ?_
      exact yld_and (.tmp 21) (.tmp 28) rfl rfl _ _ h0 (fun hgd => h1 hgd) rfl
    · intro wq hq hd
      obtain ⟨h0, h1, h2, h3, h4, h5, h6, h7, h8, h9, h10, h11, h12, h13, h14, h15, h16, h17, h18, h19, h20, h21, h22, -⟩ := hd
      change v 20 = _ at h0
      refine ob_plain rfl ?_
      exact yld_assign (.tmp 29) rfl h0 rfl
    · intro wq hq hT
      have k21 := hT 21 (by decide)
      change v 21 = _ at k21
      clear hT
      simp only [List.drop_succ_cons, List.drop_zero, putE, setsE, List.set_cons_succ, List.set_cons_zero, Nat.reduceAdd]
      rw [k21]
      go_wp2
      go_ret
      exact ⟨rfl, hw0.trans hq⟩

end Go.Proofs.Ythjlnpcanccmkaa
