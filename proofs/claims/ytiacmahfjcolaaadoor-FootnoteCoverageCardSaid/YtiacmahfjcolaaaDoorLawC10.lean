/- The law on coverage. -/
import Derived.Test.YtiacmahfjcolaaaDoorLawH10
namespace Go.Proofs.YtiacmahfjcolaaaDoor
open Go.RowKit

set_option maxRecDepth 100000 in
set_option maxHeartbeats 6400000 in
theorem footnoteCoverage_law (u : GUnit) (r : RUnit) (w : World) (hr : Reads w u r) (hbig : AllU (lensLe 9223372036854775807 9223372036854775807) u) (hT : Tab w) :
    Calls Tryd.prog 9 #[.agg r.cells.toArray] w fun e w' => e = .returned (.bool true) ∧ Ext w w' := by
  have hx0 : Ext w (w.alloc (.cells r.cells.toArray 27)) := (Ext.refl w).alloc _
  have Hbu := Lib.hid (show ∀ w', Ext (w.alloc (.cells r.cells.toArray 27)) w' → _ from fun w' he => boxUnit (w' := w') r (w := w) he)
  have Hbt := Lib.hid (show ∀ w', Ext (w.alloc (.cells r.cells.toArray 27)) w' → _ from fun w' he => boxT (w' := w') r (w := w) he)
  have Hfew := Lib.hid (show ∀ w', Ext w w' → _ from fun w' he => few6_any u r 60 w' (Reads.ext he _ _ hr) hbig (by decide) (by decide))
  have Hru := Lib.hid (show ∀ w', Ext w w' → Reads w' u r from fun w' he => Reads.ext he _ _ hr)
  have HT := Lib.hid (show ∀ w', Ext w w' → Tab w' from fun w' he => hT.ext he)
  obtain ⟨wz, hwz⟩ : ∃ wz, w.alloc (.cells r.cells.toArray 27) = wz := ⟨_, rfl⟩
  rw [hwz] at hx0 Hbu Hbt
  simp only [RUnit.cells] at hwz
  have Hwz := Lib.hid hwz
  have hok : fewF u 60 = true → OkT u := few_ok
  obtain ⟨F, hF⟩ : ∃ F, fewF u 60 = F := ⟨_, rfl⟩
  rw [hF] at Hfew hok
  have Hok := Lib.hid hok
  simp only [RUnit.cells] at Hfew Hbt ⊢
  clear hwz hbig hr hT hF hok
  go_enter Tryd.func9, Tryd.ntmps9
  go_wp2_with fail
  rw [Hwz.out]
  refine (awake10_any _ (HT.out _ hx0)).mono ?_
  rintro e w1 ⟨rfl, hx1⟩
  obtain ⟨-, u0, u1, u2, u3, u4, u5, u6, u7⟩ := Hbu.out w1 hx1
  go_wp2_with fail
  refine (Hfew.out w1 (hx0.trans hx1)).mono ?_
  rintro e w2 ⟨rfl, hx2⟩
  have hxz : Ext wz w2 := hx1.trans hx2
  have hw0 : Ext w w2 := hx0.trans hxz
  clear u0 u1 u2 u3 u4 u5 u6 u7 Hfew hx0 hx1 hx2
  obtain ⟨-, u0, u1, u2, u3, u4, u5, u6, u7⟩ := Hbu.out w2 hxz
  cases F
  case false =>
    go_wp2
    go_ret
    exact ⟨rfl, hw0⟩
  case true =>
    have hok := Hok.out rfl
    have Hb := Lib.hid (show ∀ w', Ext w2 w' → (TCells [.int .i64 r.a, .int .i64 r.i, .int .i64 r.n, .int .i64 r.kind, .string r.label, .slice r.hA r.hn r.hc, .slice r.wA r.wn r.wc, .slice r.kA r.kn r.kc]).p (.pointer (some ⟨w.heap.size, 0, none⟩)) w' from fun w' he => Hbt.out w' (hxz.trans he))
    have Hbq := Lib.hid (show ∀ w', Ext w2 w' → _ from fun w' he => Hbu.out w' (hxz.trans he))
    have Hr := Lib.hid (show ∀ w', Ext w2 w' → Reads w' u r from fun w' he => Hru.out w' (hw0.trans he))
    have HT2 := Lib.hid (show ∀ w', Ext w2 w' → Tab w' from fun w' he => HT.out w' (hw0.trans he))
    clear Hbt Hbu Hru HT Hok
    have hl1 := fun wq (he : Ext w2 wq) => notes_any u r wq (Hr.out wq he) hok
    have hl2 := fun wq (he : Ext w2 wq) => count_any u r wq (Hr.out wq he) hok.few
    have hl5 := fun wq (he : Ext w2 wq) => fvalid_any u r wq (Hr.out wq he) hok
    have hcl : validB u = true → (notesF u).length = countF u := fun h => notes_count u ((validB_iff u).1 h)
    obtain ⟨NL, hNL⟩ : ∃ NL, notesF u = NL := ⟨_, rfl⟩
    obtain ⟨C, hC⟩ : ∃ C, countF u = C := ⟨_, rfl⟩
    obtain ⟨V, hV⟩ : ∃ V, validB u = V := ⟨_, rfl⟩
    rw [hNL] at hl1 hcl
    rw [hC] at hl2 hcl
    rw [hV] at hl5 hcl
    simp only [RUnit.cells] at hl1 hl2 hl5
    have H1 := Lib.hid hl1
    have H2 := Lib.hid hl2
    have H5 := Lib.hid hl5
    have Hcl := Lib.hid hcl
    clear hl1 hl2 hl5 hcl hNL hC hV
    go_wp2_with fail
    refine (H5.out w2 (Ext.refl _)).mono ?_
    rintro e w3 ⟨rfl, hx3⟩
    clear u0 u1 u2 u3 u4 u5 u6 u7
    cases V
    case false =>
      go_wp2
      go_ret
      exact ⟨rfl, hw0.trans hx3⟩
    have hcl := Hcl.out rfl
    subst hcl
    go_wp2
    refine wp_drawn (by kernel_rfl) (fun i => match i with | 0 => Ty.is (.agg #[.int .i64 r.a, .int .i64 r.i, .int .i64 r.n, .int .i64 r.kind, .string r.label, .slice r.hA r.hn r.hc, .slice r.wA r.wn r.wc, .slice r.kA r.kn r.kc]) | 1 => TSl idEl NL | 2 => Ty.is (.int .i64 ((NL).length : Nat)) | 3 => Ty.is (.agg #[.int .i64 r.a, .int .i64 r.i, .int .i64 r.n, .int .i64 r.kind, .string r.label, .slice r.hA r.hn r.hc, .slice r.wA r.wn r.wc, .slice r.kA r.kn r.kc]) | 4 => Ty.is (.int .i64 ((NL.length : Nat))) | 5 => Ty.is (.bool (decide ((((NL).length : Nat) : Int) = ((NL.length : Nat))))) | 6 => Ty.is (.bool (decide ((((NL).length : Nat) : Int) = ((NL.length : Nat))))) | _ => Ty.any) (by kernel_rfl) rfl ?_
    intro v
    refine ⟨?_, ?_, ?_, ?_, ?_, ?_, ?_, ?_⟩
    · intro wq hq hd
      refine ob_plain rfl ?_
      exact yld_loadAgg 27 (.tmp 1) rfl Tryd.isAgg27 8 Tryd.sizeOf27 [.int .i64 r.a, .int .i64 r.i, .int .i64 r.n, .int .i64 r.kind, .string r.label, .slice r.hA r.hn r.hc, .slice r.wA r.wn r.wc, .slice r.kA r.kn r.kc] rfl (Hb.out _ (hx3.trans hq)) rfl
    · intro wq hq hd
      obtain ⟨h0, -⟩ := hd
      change v 0 = _ at h0
      refine ob_plain rfl ?_
      refine yld_call 22 Tryd.call22 _ _ rfl rfl [_] ⟨h0, trivial⟩ ?_
      refine (H1.out _ (hx3.trans hq)).mono ?_
      rintro e w' ⟨v', rfl, hown, hx'⟩
      obtain ⟨A9, c9, rfl, hc9, hs9⟩ := hown.form
      exact ⟨_, rfl, hx', A9, c9, rfl, hc9, hs9⟩
    · intro wq hq hd
      obtain ⟨h0, -⟩ := hd
      change (TSl idEl NL).p (v 1) wq at h0
      refine ob_plain rfl ?_
      obtain ⟨Aq, cq, hq1, _, _⟩ := h0
      exact yld_len (.tmp 14) 41 _ Tryd.underlying41 rfl _ _ _ hq1 rfl
    · intro wq hq hd
      refine ob_plain rfl ?_
      exact yld_loadAgg 27 (.tmp 1) rfl Tryd.isAgg27 8 Tryd.sizeOf27 [.int .i64 r.a, .int .i64 r.i, .int .i64 r.n, .int .i64 r.kind, .string r.label, .slice r.hA r.hn r.hc, .slice r.wA r.wn r.wc, .slice r.kA r.kn r.kc] rfl (Hb.out _ (hx3.trans hq)) rfl
    · intro wq hq hd
      obtain ⟨h0, h1, -⟩ := hd
      change v 3 = _ at h0
      refine ob_plain rfl ?_
      refine yld_call 31 Tryd.call31 _ _ rfl rfl [_] ⟨h0, trivial⟩ ?_
      refine (H2.out _ (hx3.trans hq)).mono ?_
      rintro e w' ⟨rfl, hx'⟩
      exact ⟨_, rfl, hx', rfl⟩
    · intro wq hq hd
      obtain ⟨h0, h1, -⟩ := hd
      change v 2 = _ at h0
      change v 4 = _ at h1
      refine ob_plain rfl ?_
      exact yld_binInt .eql 3 3 (.tmp 15) (.tmp 17) rfl _ _ h0 h1 (run_eql_i64 _ _ _) rfl
    · intro wq hq hd
      obtain ⟨h0, h1, h2, h3, h4, h5, h6, h7, -⟩ := hd
      change v 5 = _ at h0
      refine ob_plain rfl ?_
      exact yld_assign (.tmp 18) rfl h0 rfl
    · intro wq hq hT
      have k6 := hT 6 (by decide)
      change v 6 = _ at k6
      clear hT
      simp only [List.drop_succ_cons, List.drop_zero, putE, setsE, List.set_cons_succ, List.set_cons_zero, Nat.reduceAdd]
      rw [k6]
      go_wp2
      go_ret
      exact ⟨by simp, hw0.trans (hx3.trans hq)⟩

end Go.Proofs.YtiacmahfjcolaaaDoor
