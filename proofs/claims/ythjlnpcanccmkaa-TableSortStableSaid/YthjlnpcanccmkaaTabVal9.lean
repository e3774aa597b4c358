/- The law on Valid, Size and Get. -/
import Derived.Test.YthjlnpcanccmkaaAwake9
import Derived.Test.YthjlnpcanccmkaaGet9
namespace Go.Proofs.Ythjlnpcanccmkaa
open Go.RowKit

section
variable {P : Program} {ρ : Operand → Value} {o : Oper} {w : World} {T : Value → World → Prop} {c : Value}
theorem yld_binBool (op : BinOp) (t t' : TypeId) (x y : Operand) (ho : o.op = .binOp op t x y t') (a b : Bool) (hx : ρ x = .bool a) (hy : ρ y = .bool b) (hr : ∀ w, (binOp op t (.bool a) (.bool b)).run P w = .ok c w) (h : T c w) : Yld P ρ o w T :=
  yld_run (w' := w) (v := c) (by cases op <;> simp [execOp, ho, hx, hy, eqGuard, hr]) (Ext.refl _) h
theorem run_neq_bool (a : Bool) (w : World) : (binOp .neq 4 (.bool a) (.bool a)).run Try.prog w = .ok (.bool false) w := by
  have h : ∀ d : Nat, (Op.equalIn (d + 1) 4 (.bool a) (.bool a)).run Try.prog w = .ok true w := fun d => by
    simp [Op.equalIn, run_underlying Try.underlying4]
  simp only [binOp]
  simp [Op.equal, Op.maxDepth, h 9999]
theorem run_neq_same (t : TypeId) (a : Int) (w : World) : (binOp .neq t (.int .i64 a) (.int .i64 a)).run P w = .ok (.bool false) w := by
  rw [run_neq_i64]
  simp
end

set_option maxRecDepth 100000 in
set_option maxHeartbeats 3200000 in
theorem tableValid_law (u : GUnit) (r : RUnit) (row col : Int) (w : World) (hr : Reads w u r) (hbig : AllU (lensLe 9223372036854775807 9223372036854775807) u) :
    Calls Try.prog 5 #[.agg r.cells.toArray, .int .i64 row, .int .i64 col] w fun e w' => e = .returned (.bool true) ∧ Ext w w' := by
  have hx0 : Ext w (w.alloc (.cells r.cells.toArray 27)) := (Ext.refl w).alloc _
  have Hbu := Lib.hid (show ∀ w', Ext (w.alloc (.cells r.cells.toArray 27)) w' → _ from fun w' he => boxUnit (w' := w') r (w := w) he)
  have Hbt := Lib.hid (show ∀ w', Ext (w.alloc (.cells r.cells.toArray 27)) w' → _ from fun w' he => boxT (w' := w') r (w := w) he)
  have Hbigc := Lib.hid (show ∀ w', Ext w w' → _ from fun w' he => big_any u r w' (Reads.ext he _ _ hr) hbig)
  have Hru := Lib.hid (show ∀ w', Ext w w' → _ from fun w' he => Reads.ext he _ _ hr)
  obtain ⟨wz, hwz⟩ : ∃ wz, w.alloc (.cells r.cells.toArray 27) = wz := ⟨_, rfl⟩
  rw [hwz] at hx0 Hbu Hbt
  simp only [RUnit.cells] at hwz
  have Hwz := Lib.hid hwz
  simp only [RUnit.cells] at Hbigc Hbt ⊢
  clear hwz hbig hr
  go_enter Try.func5, Try.ntmps5
  go_wp2_with fail
  rw [Hwz.out]
  refine (awake9_any _).mono ?_
  rintro e w1 ⟨rfl, hx1⟩
  obtain ⟨-, u0, u1, u2, u3, u4, u5, u6, u7⟩ := Hbu.out w1 hx1
  go_wp2_with fail
  refine (Hbigc.out w1 (hx0.trans hx1)).mono ?_
  rintro e w2 ⟨b, rfl, hb, hx2⟩
  have hxz : Ext wz w2 := hx1.trans hx2
  have hw0 : Ext w w2 := hx0.trans hxz
  clear u0 u1 u2 u3 u4 u5 u6 u7 Hbigc hx0 hx1 hx2
  cases b
  case true =>
    clear hb
    go_wp2
    go_ret
    exact ⟨rfl, hw0⟩
  case false =>
    have hsm := hb rfl
    clear hb
    have Hb := Lib.hid (show ∀ w', Ext w2 w' → _ from fun w' he => Hbt.out w' (hxz.trans he))
    have Hbq := Lib.hid (show ∀ w', Ext w2 w' → _ from fun w' he => Hbu.out w' (hxz.trans he))
    have Hr := Lib.hid (show ∀ w', Ext w2 w' → _ from fun w' he => Hru.out w' (hw0.trans he))
    clear Hbt Hbu Hru
    have Hs1 := Lib.hid (show ∀ w', Ext w2 w' → _ from fun w' he => size_any u r w' (Hr.out w' he) (smallU_lens hsm))
    have Hs2 := Lib.hid (show ∀ w', Ext w2 w' → _ from fun w' he => refSize_any u r w' (Hr.out w' he) (smallU_lens hsm))
    have Hg := Lib.hid (show ∀ w', Ext w2 w' → _ from fun w' he => get_any u r row col w' (Hr.out w' he) hsm)
    have Hv1 := Lib.hid (show ∀ w', Ext w2 w' → _ from fun w' he => valid_any u r w' (Hr.out w' he) (smallU_lens hsm))
    have Hv2 := Lib.hid (show ∀ w', Ext w2 w' → _ from fun w' he => may_any u r w' (Hr.out w' he) (smallU_lens hsm))
    have Hh := Lib.hid (show ∀ w', Ext w2 w' → _ from fun w' he => has_any u r row col w' (Hr.out w' he) (smallU_lens hsm))
    have hlen := getF_len row col hsm.2
    have hpath : thereB u row col = true → ∃ i j : Nat, row = i ∧ col = j ∧ PathTo w2 r i j (getF u row col) := fun h => there_path (Hr.out w2 (Ext.refl _)) h
    have hnil : thereB u row col = false → getF u row col = [] := fun h => by simp [getF, h]
    obtain ⟨R, hR⟩ : ∃ R : Int, (rowsF u : Int) = R := ⟨_, rfl⟩
    obtain ⟨C, hC⟩ : ∃ C : Int, (colsF u : Int) = C := ⟨_, rfl⟩
    obtain ⟨V, hV⟩ : ∃ V, validB u = V := ⟨_, rfl⟩
    obtain ⟨TB, hTB⟩ : ∃ TB, thereB u row col = TB := ⟨_, rfl⟩
    obtain ⟨G, hG⟩ : ∃ G, getF u row col = G := ⟨_, rfl⟩
    rw [hR, hC] at Hs1 Hs2
    rw [hTB, hG] at Hg hpath hnil
    rw [hTB] at Hh
    rw [hV] at Hv1 Hv2
    rw [hG] at hlen
    have Hpath := Lib.hid hpath
    have Hnil := Lib.hid hnil
    have Hlen := Lib.hid hlen
    simp only [RUnit.cells] at Hs1 Hs2 Hg Hv1 Hv2 Hh
    clear hR hC hV hTB hG hsm hpath hnil hlen
    obtain ⟨-, u0, u1, u2, u3, u4, u5, u6, u7⟩ := Hbq.out w2 (Ext.refl w2)
    go_wp2_with fail
    refine (Hs1.out w2 (Ext.refl _)).mono ?_
    rintro e w3 ⟨rfl, hx3⟩
    clear u0 u1 u2 u3 u4 u5 u6 u7
    obtain ⟨-, u0, u1, u2, u3, u4, u5, u6, u7⟩ := Hbq.out w3 hx3
    go_wp2_with fail
    refine (Hs2.out w3 hx3).mono ?_
    rintro e w4 ⟨rfl, hx4⟩
    have hx24 := hx3.trans hx4
    clear u0 u1 u2 u3 u4 u5 u6 u7
    obtain ⟨-, u0, u1, u2, u3, u4, u5, u6, u7⟩ := Hbq.out w4 hx24
    go_wp2_with fail
    refine (Hg.out w4 hx24).mono ?_
    rintro e w5 ⟨v5, rfl, hown5, hx5⟩
    have hx25 := hx24.trans hx5
    obtain ⟨A5, c5, rfl, -, hs5⟩ := hown5.form
    clear u0 u1 u2 u3 u4 u5 u6 u7 hown5
    go_wp2
    refine wp_drawn (by kernel_rfl) (fun i => match i with | 0 => Ty.is (.agg #[.int .i64 r.a, .int .i64 r.i, .int .i64 r.n, .int .i64 r.kind, .string r.label, .slice r.hA r.hn r.hc, .slice r.wA r.wn r.wc, .slice r.kA r.kn r.kc]) | 1 => Ty.is (.bool V) | 2 => Ty.is (.agg #[.int .i64 r.a, .int .i64 r.i, .int .i64 r.n, .int .i64 r.kind, .string r.label, .slice r.hA r.hn r.hc, .slice r.wA r.wn r.wc, .slice r.kA r.kn r.kc]) | 3 => Ty.is (.bool V) | 4 => Ty.is (.bool false) | 5 => Ty.is (.bool false) | 6 => TGd (false = false) (Ty.is (.int .i64 R)) | 7 => TGd (false = false) (Ty.is (.int .i64 R)) | 8 => TGd (false = false) (Ty.is (.bool false)) | 9 => Ty.is (.bool false) | 10 => Ty.is (.bool false) | 11 => TGd (false = false) (Ty.is (.int .i64 C)) | 12 => TGd (false = false) (Ty.is (.int .i64 C)) | 13 => TGd (false = false) (Ty.is (.bool false)) | 14 => Ty.is (.bool false) | 15 => Ty.is (.bool false) | 16 => TGd (false = false) (Ty.is (.bool TB)) | 17 => TGd (false = false) (Ty.is (.agg #[.int .i64 r.a, .int .i64 r.i, .int .i64 r.n, .int .i64 r.kind, .string r.label, .slice r.hA r.hn r.hc, .slice r.wA r.wn r.wc, .slice r.kA r.kn r.kc])) | 18 => TGd (false = false) (Ty.is (.int .i64 row)) | 19 => TGd (false = false) (Ty.is (.int .i64 col)) | 20 => TGd (false = false) (Ty.is (.bool TB)) | 21 => TGd (false = false) (Ty.is (.bool false)) | 22 => Ty.is (.bool false) | _ => Ty.any) (by kernel_rfl) rfl ?_
    intro v
    refine ⟨?_, ?_, ?_, ?_, ?_, ?_, ?_, ?_, ?_, ?_, ?_, ?_, ?_, ?_, ?_, ?_, ?_, ?_, ?_, ?_, ?_, ?_, ?_, ?_⟩
    · intro wq hq hd
      refine ob_plain rfl ?_
      exact yld_loadAgg 27 (.tmp 3) rfl Try.isAgg27 8 Try.sizeOf27 [.int .i64 r.a, .int .i64 r.i, .int .i64 r.n, .int .i64 r.kind, .string r.label, .slice r.hA r.hn r.hc, .slice r.wA r.wn r.wc, .slice r.kA r.kn r.kc] rfl (Hb.out _ (hx25.trans hq)) rfl
    · intro wq hq hd
      obtain ⟨h0, -⟩ := hd
      change v 0 = _ at h0
      refine ob_plain rfl ?_
      refine yld_call 23 Try.call23 _ _ rfl rfl [_] ⟨h0, trivial⟩ ?_
      refine (Hv1.out _ (hx25.trans hq)).mono ?_
      rintro e w' ⟨rfl, hx'⟩
      exact ⟨_, rfl, hx', rfl⟩
    · intro wq hq hd
      refine ob_plain rfl ?_
      exact yld_loadAgg 27 (.tmp 3) rfl Try.isAgg27 8 Try.sizeOf27 [.int .i64 r.a, .int .i64 r.i, .int .i64 r.n, .int .i64 r.kind, .string r.label, .slice r.hA r.hn r.hc, .slice r.wA r.wn r.wc, .slice r.kA r.kn r.kc] rfl (Hb.out _ (hx25.trans hq)) rfl
    · intro wq hq hd
      obtain ⟨h0, h1, -⟩ := hd
      change v 2 = _ at h0
      refine ob_plain rfl ?_
      refine yld_call 19 Try.call19 _ _ rfl rfl [_] ⟨h0, trivial⟩ ?_
      refine (Hv2.out _ (hx25.trans hq)).mono ?_
      rintro e w' ⟨rfl, hx'⟩
      exact ⟨_, rfl, hx', rfl⟩
    · intro wq hq hd
      obtain ⟨h0, h1, -⟩ := hd
      change v 1 = _ at h0
      change v 3 = _ at h1
      refine ob_plain rfl ?_
      exact yld_binBool .neq 4 4 (.tmp 35) (.tmp 37) rfl _ _ h0 h1 (run_neq_bool _) rfl
    · intro wq hq hd
      obtain ⟨h0, h1, -⟩ := hd
      change v 4 = _ at h0
      refine ob_plain rfl ?_
      exact yld_move (.tmp 38) rfl h0 rfl
    · intro wq hq hd
      obtain ⟨h0, -⟩ := hd
      change v 5 = _ at h0
      refine ob_guard 5 false (false) rfl (yields_of rfl h0) (fun hg => ?_) (fun hg => ?_)
      · refine Yld.gd (p := false = false) (T := Ty.is (.int .i64 R)) ?_
        exact yld_move (.tmp 7) rfl rfl rfl
      · intro hn; rw [hn] at hg; cases hg
    · intro wq hq hd
      obtain ⟨h0, -⟩ := hd
      change v 5 = _ at h0
      refine ob_guard 5 false (false) rfl (yields_of rfl h0) (fun hg => ?_) (fun hg => ?_)
      · refine Yld.gd (p := false = false) (T := Ty.is (.int .i64 R)) ?_
        exact yld_move (.tmp 9) rfl rfl rfl
      · intro hn; rw [hn] at hg; cases hg
    · intro wq hq hd
      obtain ⟨h0, h1, h2, -⟩ := hd
      change (false = false) → v 6 = _ at h0
      change (false = false) → v 7 = _ at h1
      change v 5 = _ at h2
      refine ob_guard 5 false (false) rfl (yields_of rfl h2) (fun hg => ?_) (fun hg => ?_)
      · refine Yld.gd (p := false = false) (T := Ty.is (.bool false)) ?_
        replace h0 := h0 hg
        replace h1 := h1 hg
        exact yld_binInt .neq 3 3 (.tmp 40) (.tmp 41) rfl _ _ h0 h1 (run_neq_same _ _) rfl
      · intro hn; rw [hn] at hg; cases hg
    · intro wq hq hd
      obtain ⟨h0, h1, -⟩ := hd
      change v 5 = _ at h0
      change (false = false) → v 8 = _ at h1
      refine ob_plain rfl ?_
      exact yld_or (.tmp 39) (.tmp 42) rfl rfl _ _ h0 (fun hgd => h1 hgd) rfl
    · intro wq hq hd
      obtain ⟨h0, h1, -⟩ := hd
      change v 9 = _ at h0
      refine ob_plain rfl ?_
      exact yld_move (.tmp 43) rfl h0 rfl
    · intro wq hq hd
      obtain ⟨h0, -⟩ := hd
      change v 10 = _ at h0
      refine ob_guard 10 false (false) rfl (yields_of rfl h0) (fun hg => ?_) (fun hg => ?_)
      · refine Yld.gd (p := false = false) (T := Ty.is (.int .i64 C)) ?_
        exact yld_move (.tmp 8) rfl rfl rfl
      · intro hn; rw [hn] at hg; cases hg
    · intro wq hq hd
      obtain ⟨h0, -⟩ := hd
      change v 10 = _ at h0
      refine ob_guard 10 false (false) rfl (yields_of rfl h0) (fun hg => ?_) (fun hg => ?_)
      · refine Yld.gd (p := false = false) (T := Ty.is (.int .i64 C)) ?_
        exact yld_move (.tmp 10) rfl rfl rfl
      · intro hn; rw [hn] at hg; cases hg
    · intro wq hq hd
      obtain ⟨h0, h1, h2, -⟩ := hd
      change (false = false) → v 11 = _ at h0
      change (false = false) → v 12 = _ at h1
      change v 10 = _ at h2
      refine ob_guard 10 false (false) rfl (yields_of rfl h2) (fun hg => ?_) (fun hg => ?_)
      · refine Yld.gd (p := false = false) (T := Ty.is (.bool false)) ?_
        replace h0 := h0 hg
        replace h1 := h1 hg
        exact yld_binInt .neq 3 3 (.tmp 45) (.tmp 46) rfl _ _ h0 h1 (run_neq_same _ _) rfl
      · intro hn; rw [hn] at hg; cases hg
    · intro wq hq hd
      obtain ⟨h0, h1, -⟩ := hd
      change v 10 = _ at h0
      change (false = false) → v 13 = _ at h1
      refine ob_plain rfl ?_
      exact yld_or (.tmp 44) (.tmp 47) rfl rfl _ _ h0 (fun hgd => h1 hgd) rfl
    · intro wq hq hd
      obtain ⟨h0, h1, -⟩ := hd
      change v 14 = _ at h0
      refine ob_plain rfl ?_
      exact yld_move (.tmp 48) rfl h0 rfl
    · intro wq hq hd
      obtain ⟨h0, -⟩ := hd
      change v 15 = _ at h0
      refine ob_guard 15 false (false) rfl (yields_of rfl h0) (fun hg => ?_) (fun hg => ?_)
      · refine Yld.gd (p := false = false) (T := Ty.is (.bool TB)) ?_
        exact yld_move (.tmp 12) rfl rfl rfl
      · intro hn; rw [hn] at hg; cases hg
    · intro wq hq hd
      obtain ⟨h0, -⟩ := hd
      change v 15 = _ at h0
      refine ob_guard 15 false (false) rfl (yields_of rfl h0) (fun hg => ?_) (fun hg => ?_)
      · refine Yld.gd (p := false = false) (T := Ty.is (.agg #[.int .i64 r.a, .int .i64 r.i, .int .i64 r.n, .int .i64 r.kind, .string r.label, .slice r.hA r.hn r.hc, .slice r.wA r.wn r.wc, .slice r.kA r.kn r.kc])) ?_
        exact yld_loadAgg 27 (.tmp 3) rfl Try.isAgg27 8 Try.sizeOf27 [.int .i64 r.a, .int .i64 r.i, .int .i64 r.n, .int .i64 r.kind, .string r.label, .slice r.hA r.hn r.hc, .slice r.wA r.wn r.wc, .slice r.kA r.kn r.kc] rfl (Hb.out _ (hx25.trans hq)) rfl
      · intro hn; rw [hn] at hg; cases hg
    · intro wq hq hd
      obtain ⟨h0, -⟩ := hd
      change v 15 = _ at h0
      refine ob_guard 15 false (false) rfl (yields_of rfl h0) (fun hg => ?_) (fun hg => ?_)
      · refine Yld.gd (p := false = false) (T := Ty.is (.int .i64 row)) ?_
        exact yld_move (.tmp 1) rfl rfl rfl
      · intro hn; rw [hn] at hg; cases hg
    · intro wq hq hd
      obtain ⟨h0, -⟩ := hd
      change v 15 = _ at h0
      refine ob_guard 15 false (false) rfl (yields_of rfl h0) (fun hg => ?_) (fun hg => ?_)
      · refine Yld.gd (p := false = false) (T := Ty.is (.int .i64 col)) ?_
        exact yld_move (.tmp 2) rfl rfl rfl
      · intro hn; rw [hn] at hg; cases hg
    · intro wq hq hd
      obtain ⟨h0, h1, h2, h3, h4, -⟩ := hd
      change (false = false) → v 17 = _ at h0
      change (false = false) → v 18 = _ at h1
      change (false = false) → v 19 = _ at h2
      change v 15 = _ at h3
      refine ob_guard 15 false (false) rfl (yields_of rfl h3) (fun hg => ?_) (fun hg => ?_)
      · refine Yld.gd (p := false = false) (T := Ty.is (.bool TB)) ?_
        replace h0 := h0 hg
        replace h1 := h1 hg
        replace h2 := h2 hg
        refine yld_call 24 Try.call24 _ _ rfl rfl [_, _, _] ⟨h0, h1, h2, trivial⟩ ?_
        refine (Hh.out _ (hx25.trans hq)).mono ?_
        rintro e w' ⟨rfl, hx'⟩
        exact ⟨_, rfl, hx', rfl⟩
      · intro hn; rw [hn] at hg; cases hg
    · intro wq hq hd
      obtain ⟨h0, h1, h2, -⟩ := hd
      change (false = false) → v 16 = _ at h0
      change (false = false) → v 20 = _ at h1
      change v 15 = _ at h2
      refine ob_guard 15 false (false) rfl (yields_of rfl h2) (fun hg => ?_) (fun hg => ?_)
      · refine Yld.gd (p := false = false) (T := Ty.is (.bool false)) ?_
        replace h0 := h0 hg
        replace h1 := h1 hg
        exact yld_binBool .neq 4 4 (.tmp 50) (.tmp 54) rfl _ _ h0 h1 (run_neq_bool _) rfl
      · intro hn; rw [hn] at hg; cases hg
    · intro wq hq hd
      obtain ⟨h0, h1, -⟩ := hd
      change v 15 = _ at h0
      change (false = false) → v 21 = _ at h1
      refine ob_plain rfl ?_
      exact yld_or (.tmp 49) (.tmp 55) rfl rfl _ _ h0 (fun hgd => h1 hgd) rfl
    · intro wq hq hT
      have k22 := hT 22 (by decide)
      change v 22 = _ at k22
      clear hT
      simp only [List.drop_succ_cons, List.drop_zero, putE, setsE, List.set_cons_succ, List.set_cons_zero, Nat.reduceAdd]
      rw [k22]
      have hx2q := hx25.trans hq
      have hs := hs5.ext hq
      cases TB
      case false =>
        have hG := Hnil.out rfl
        subst hG
        simp only [List.length_nil]
        go_wp2
        go_ret
        exact ⟨rfl, hw0.trans hx2q⟩
      case true =>
        obtain ⟨i, j, rfl, rfl, hp⟩ := Hpath.out rfl
        obtain ⟨b, off, b2, off2, m, mc, A, c, p1, p2, p3, p4, p5, p6, p7, p8, p9⟩ := hp.ext hx2q
        obtain ⟨-, u0, u1, u2, u3, u4, u5, u6, f7⟩ := Hbq.out wq hx2q
        rw [p1] at f7
        have d1 : decide ((i : Int) < (r.kn : Int)) = true := decide_eq_true (by omega)
        have d2 : decide ((j : Int) < (m : Int)) = true := decide_eq_true (by omega)
        clear u0 u1 u2 u3 u4 u5 u6 p1 hp
        go_wp2_with fail
        refine (words9_eq A5 A c5 c G _ hs p8 (by have := Hlen.out; omega)).mono ?_
        rintro e w' ⟨rfl, hx'⟩
        go_wp2
        go_ret
        exact ⟨rfl, hw0.trans (hx2q.trans hx')⟩

end Go.Proofs.Ythjlnpcanccmkaa
