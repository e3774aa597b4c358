/- Valid: whether a unit is a table. -/
import Derived.Test.YthjlnpcanccmkaaCells9
namespace Go.Proofs.Ythjlnpcanccmkaa
open Go.RowKit

/-- the number of columns: the cells of the first row -/
def ncols (u : GUnit) : Nat := match u.kids with | [] => 0 | r :: _ => r.kids.length
def rowOk (n : Nat) (u : GUnit) : Bool := decide (u.kind = 5) && decide (u.kids.length = n) && u.kids.all cellOk
def validB (u : GUnit) : Bool := decide (u.kind = 4) && manyB u.kids.length && manyB (ncols u) && u.kids.all (rowOk (ncols u))

set_option maxRecDepth 100000 in
set_option maxHeartbeats 3200000 in
theorem valid_any (u : GUnit) (r : RUnit) (w : World) (hr : Reads w u r) (hln : AllU (lensLe 9223372036854775807 9223372036854775807) u) : Calls Try.prog 23 #[.agg r.cells.toArray] w fun e w' => e = .returned (.bool (validB u)) ∧ Ext w w' := by
  obtain ⟨a, i, n, kd, lb, hl, wl, kids⟩ := u
  rw [Reads] at hr
  rw [AllU] at hln
  obtain ⟨⟨-, -, hl3⟩, hln⟩ := hln
  have HLN := Lib.hid hln
  obtain ⟨⟨-, -, -, hk, -⟩, -, -, hkn, hkc, us, hus, hall⟩ := hr
  have hbx := fun w' he => boxT (w' := w') r (w := w) he
  obtain ⟨ra, ri, rn, rk, rl, hdA, hn, hc, wA, wn, wc, kA, kn, kc⟩ := r
  dsimp only at hk hkn hkc hus
  simp only [RUnit.cells] at hbx ⊢
  have hul := ReadsAll.length hall
  rw [← hul] at hkn hkc hl3
  subst hk hkn
  have Hall := Lib.hid hall
  have Hul := Lib.hid hul
  have Hbx0 := Lib.hid hbx
  have he0 : Ext w (w.alloc (.cells #[.int .i64 ra, .int .i64 ri, .int .i64 rn, .int .i64 rk, .string rl, .slice hdA hn hc, .slice wA wn wc, .slice kA us.length kc] 27)) := (Ext.refl _).alloc _
  clear hall hul hln hbx
  by_cases h1 : rk = 4
  case neg =>
    have e1 : validB (.mk a i n rk lb hl wl kids) = false := by simp [validB, GUnit.kind, h1]
    rw [e1]
    have d1 : (rk != 4) = true := by simp [h1]
    clear h1 e1
    go_enter Try.func23, Try.ntmps23
    go_wp2
    go_ret
    exact ⟨rfl, he0⟩
  have d1 : (rk != 4) = false := by simp [h1]
  by_cases h2 : manyB (us.length : Int) = true
  case neg =>
    have h2' : manyB (us.length : Int) = false := by simpa using h2
    have e1 : validB (.mk a i n rk lb hl wl kids) = false := by
      have : manyB (kids.length : Int) = false := by rw [← Hul.out]; exact h2'
      simp [validB, GUnit.kids, this]
    rw [e1]
    have Hm := Lib.hid (show ∀ w', _ from fun w' => many_any (us.length : Int) w')
    rw [h2'] at Hm
    clear h1 h2 h2' e1
    go_enter Try.func23, Try.ntmps23
    go_wp2_with (go_at_call 40; refine (Hm.out _).mono ?_; rintro e w' ⟨rfl, rfl⟩)
    go_ret
    exact ⟨rfl, he0⟩
  have hpos : 0 < us.length ∧ us.length ≤ 64 := by simp [manyB] at h2; omega
  obtain ⟨q0, hq0⟩ : ∃ q0, us[0]? = some q0 := ⟨_, List.getElem?_eq_getElem hpos.1⟩
  have hku : 0 < kids.length := by rw [← Hul.out]; exact hpos.1
  have hq0k : us[0] = q0 := (List.getElem?_eq_some_iff.1 hq0).2
  have hrd0 := ReadsAll.get Hall.out 0 hku hpos.1
  rw [hq0k] at hrd0
  have hnc : q0.kn = ncols (.mk a i n rk lb hl wl kids) := by
    unfold ncols
    obtain ⟨k0, kt, hkk⟩ : ∃ k0 kt, kids = k0 :: kt := by
      cases kids with
      | nil => simp at hku
      | cons x y => exact ⟨x, y, rfl⟩
    subst hkk
    simp only [GUnit.kids, List.getElem_cons_zero] at hrd0 ⊢
    obtain ⟨_, _, _, _, _, _, _, k00⟩ := k0
    rw [Reads] at hrd0
    exact hrd0.2.2.2.1
  have Hm := Lib.hid (show ∀ w', _ from fun w' => many_any (us.length : Int) w')
  rw [h2] at Hm
  obtain ⟨nc, hnce⟩ : ∃ nc, ncols (.mk a i n rk lb hl wl kids) = nc := ⟨_, rfl⟩
  rw [hnce] at hnc
  have Hm2 := Lib.hid (show ∀ w', _ from fun w' => many_any (q0.kn : Int) w')
  have hall0 := (hus.ext he0).at_ hpos.1
  have Hq0 := Lib.hid hq0
  by_cases h3 : manyB (nc : Int) = true
  case neg =>
    have h3' : manyB (nc : Int) = false := by simpa using h3
    have e1 : validB (.mk a i n rk lb hl wl kids) = false := by simp [validB, hnce, h3']
    rw [e1]
    rw [hnc, h3'] at Hm2
    obtain ⟨b, off, rfl, hb, u0, u1, u2, u3, u4, u5, u6, u7⟩ := unitAt (hus.ext he0) hpos.1
    rw [hq0k] at u0 u1 u2 u3 u4 u5 u6 u7
    rw [hnc] at u7
    rw [Nat.zero_mul, Nat.add_zero] at u0 u1 u2 u3 u4 u5 u6 u7
    obtain ⟨hpos1, hpos2⟩ := hpos
    have d5 : decide ((0 : Int) < (us.length : Int)) = true := decide_eq_true (by omega)
    clear h1 h2 h3 h3' e1 hnc hnce hq0 hq0k hrd0 hall0
    go_enter Try.func23, Try.ntmps23
    go_wp2_with fail
    refine (Hm.out _).mono ?_
    rintro e w' ⟨rfl, rfl⟩
    go_wp2_with fail
    refine (Hm2.out _).mono ?_
    rintro e w' ⟨rfl, rfl⟩
    go_wp2
    go_ret
    exact ⟨rfl, he0⟩
  have e1 : validB (.mk a i n rk lb hl wl kids) = kids.all (rowOk nc) := by
    have : manyB (kids.length : Int) = true := by rw [← Hul.out]; exact h2
    unfold validB
    rw [hnce]
    simp [GUnit.kind, GUnit.kids, h1, h3, this]
  rw [e1]
  obtain ⟨R, hR⟩ : ∃ R, kids.all (rowOk nc) = R := ⟨_, rfl⟩
  rw [hR]
  have HR := Lib.hid hR
  rw [hnc, h3] at Hm2
  have Hnc := Lib.hid hnc
  obtain ⟨hpos1, hpos2⟩ := hpos
  have d5 : decide ((0 : Int) < (us.length : Int)) = true := decide_eq_true (by omega)
  obtain ⟨wb, hwb⟩ : ∃ wb, w.alloc (.cells #[.int .i64 ra, .int .i64 ri, .int .i64 rn, .int .i64 rk, .string rl, .slice hdA hn hc, .slice wA wn wc, .slice kA us.length kc] 27) = wb := ⟨_, rfl⟩
  rw [hwb] at he0 Hbx0 hall0
  have Hwb := Lib.hid hwb
  have Hbx := Hbx0
  have husb := hus.ext he0
  have hfirst : ∃ b off, kA = some ⟨b, off, none⟩ ∧ b < wb.heap.size ∧ wb.cell? ⟨b, off + 7, none⟩ = some (.slice q0.kA nc q0.kc) := by
    obtain ⟨b, off, h4, hb, -, -, -, -, -, -, -, u7⟩ := unitAt husb hpos1
    rw [hq0k, hnc, Nat.zero_mul, Nat.add_zero] at u7
    exact ⟨b, off, h4, hb, u7⟩
  clear hwb Hbx0 h1 h2 h3 e1 hnce hnc hq0 hq0k hrd0 hall0 hR
  obtain ⟨b00, off00, rfl, hb00, u7⟩ := hfirst
  rw [← Hwb.out] at u7 hb00
  go_enter Try.func23, Try.ntmps23
  go_wp2_with fail
  refine (Hm.out _).mono ?_
  rintro e w' ⟨rfl, rfl⟩
  go_wp2_with fail
  refine (Hm2.out _).mono ?_
  rintro e w' ⟨rfl, rfl⟩
  go_wp2
  rw [Hwb.out]
  clear u7 hb00 d5 d1
  go_loopw [28] (fun i wr => ∃ k : Nat, k ≤ us.length ∧ i = .int .i64 k ∧ Hid ((kids.take k).all (rowOk nc) = true) ∧ Ext wb wr) (fun i _ => us.length - (intOf i).toNat)
  case atStart => exact ⟨0, Nat.zero_le _, rfl, Lib.hid (by simp), Ext.refl _⟩
  case round =>
    obtain ⟨k, hk, rfl, Hk, hext⟩ := hrel
    by_cases hlt : k < us.length
    · have hltk : k < kids.length := by have := Hul.out; omega
      have husw := husb.ext hext
      have hrdk := Reads.ext (he0.trans hext) _ _ (ReadsAll.get Hall.out k hltk hlt)
      have Htk := Lib.hid (all_take_succ (rowOk nc) kids k hltk)
      have hlk := HLN.out.get k hltk
      have huw := unitAt husw hlt
      obtain ⟨q, hq⟩ : ∃ q, us[k] = q := ⟨_, rfl⟩
      obtain ⟨v, hv⟩ : ∃ v, kids[k] = v := ⟨_, rfl⟩
      rw [hq] at hrdk huw
      rw [hv] at hrdk hlk Htk
      have Hv := Lib.hid hv
      clear hq hv
      obtain ⟨b, off, hkA2, hb, u0, u1, u2, u3, u4, u5, u6, u7⟩ := huw
      have hro := fun w' he => boxT (w' := w') q (w := wr) he
      obtain ⟨va, vi, vn, vk, vl, vh, vw, qks⟩ := v
      rw [Reads] at hrdk
      obtain ⟨⟨-, -, -, hvk, -⟩, -, -, hqn, hqc, cs, hcs0, hcall⟩ := hrdk
      rw [AllU] at hlk
      obtain ⟨⟨-, -, hln⟩, -⟩ := hlk
      have hcl := ReadsAll.length hcall
      obtain ⟨qa, qi, qn, qk, ql, qhA, qhn, qhc, qwA, qwn, qwc, qkA, qkn, qkc⟩ := q
      dsimp only at hvk hqn hqc hcs0 u0 u1 u2 u3 u4 u5 u6 u7
      simp only [RUnit.cells] at hro
      rw [← hcl] at hqn hqc
      subst hvk hqn
      have hextr : Ext wb (wr.alloc (.cells #[.int .i64 qa, .int .i64 qi, .int .i64 qn, .int .i64 qk, .string ql, .slice qhA qhn qhc, .slice qwA qwn qwc, .slice qkA cs.length qkc] 27)) := hext.alloc _
      obtain ⟨wo, hwo⟩ : ∃ wo, wr.alloc (.cells #[.int .i64 qa, .int .i64 qi, .int .i64 qn, .int .i64 qk, .string ql, .slice qhA qhn qhc, .slice qwA qwn qwc, .slice qkA cs.length qkc] 27) = wo := ⟨_, rfl⟩
      rw [hwo] at hextr hro
      have hxo : Ext wr wo := by rw [← hwo]; exact (Ext.refl _).alloc _
      have husr := husw.ext hxo
      have hcs := hcs0.ext hxo
      have Hcall := Lib.hid (ReadsAll.ext hxo _ _ hcall)
      have Hro := Lib.hid hro
      have Hwo := Lib.hid hwo
      have Hln := Lib.hid hln
      obtain ⟨b1, hb1⟩ : ∃ b1, (qk != 5) = b1 := ⟨_, rfl⟩
      obtain ⟨b2, hb2⟩ : ∃ b2, ((cs.length : Int) != (q0.kn : Int)) = b2 := ⟨_, rfl⟩
      obtain ⟨b3, hb3⟩ : ∃ b3, (!(qks.all cellOk)) = b3 := ⟨_, rfl⟩
      have hrow : rowOk nc (.mk va vi vn qk vl vh vw qks) = !((b1 || b2) || b3) := by
        have hq2 : b2 = !decide (qks.length = nc) := by
          rw [← hb2, hcl, Hnc.out]
          by_cases h : qks.length = nc
          · simp [h]
          · simp [h]
            omega
        have hq1 : b1 = !decide (qk = 5) := by
          rw [← hb1]
          by_cases h : qk = 5
          · simp [h]
          · simp [h]
        have hbool : ∀ x y z : Bool, (x && y && z) = !((!x || !y) || !z) := by decide
        rw [hq1, hq2, ← hb3]
        exact hbool _ _ _
      rw [hrow] at Htk
      have Hrow := Lib.hid hrow
      have Hb1 := Lib.hid hb1
      have Hb2 := Lib.hid hb2
      have Hb3 := Lib.hid hb3
      clear hwo hro hcall hcl hb1 hb2 hb3 hrow hln hcs0
      cases hkA2
      go_wp2
      rw [Hwo.out]
      clear u0 u1 u2 u3 u4 u5 u6 u7
      refine wp_drawn (by kernel_rfl) (fun i => match i with | 0 => TCells [.int .i64 qk] | 1 => Ty.is (.int .i64 qk) | 2 => Ty.is (.bool b1) | 3 => Ty.is (.bool b1) | 4 => TGd (b1 = false) (TCells [.slice qkA cs.length qkc]) | 5 => TGd (b1 = false) (Ty.is (.slice qkA cs.length qkc)) | 6 => TGd (b1 = false) (Ty.is (.int .i64 cs.length)) | 7 => TGd (b1 = false) (TCells [.slice (some ⟨b00, off00, none⟩) us.length kc]) | 8 => TGd (b1 = false) (Ty.is (.slice (some ⟨b00, off00, none⟩) us.length kc)) | 9 => TGd (b1 = false) (TCells [.int .i64 q0.a, .int .i64 q0.i, .int .i64 q0.n, .int .i64 q0.kind, .string q0.label, .slice q0.hA q0.hn q0.hc, .slice q0.wA q0.wn q0.wc, .slice q0.kA q0.kn q0.kc]) | 10 => TGd (b1 = false) (TCells [.slice q0.kA q0.kn q0.kc]) | 11 => TGd (b1 = false) (Ty.is (.slice q0.kA q0.kn q0.kc)) | 12 => TGd (b1 = false) (Ty.is (.int .i64 q0.kn)) | 13 => TGd (b1 = false) (Ty.is (.bool b2)) | 14 => Ty.is (.bool (b1 || b2)) | 15 => Ty.is (.bool (b1 || b2)) | 16 => TGd ((b1 || b2) = false) (TCells [.slice qkA cs.length qkc]) | 17 => TGd ((b1 || b2) = false) (Ty.is (.slice qkA cs.length qkc)) | 18 => TGd ((b1 || b2) = false) (Ty.is (.bool b3)) | 19 => Ty.is (.bool ((b1 || b2) || b3)) | _ => Ty.any) (by kernel_rfl) rfl ?_
      intro v
      refine ⟨?_, ?_, ?_, ?_, ?_, ?_, ?_, ?_, ?_, ?_, ?_, ?_, ?_, ?_, ?_, ?_, ?_, ?_, ?_, ?_, ?_⟩
      · intro wq hq hd
        refine ob_plain rfl ?_
        exact yld_field 27 1 (.tmp 4) rfl _ Try.underlying27 _ rfl 1 Try.sizeOf3 (by decide) [.int .i64 qa, .int .i64 qi, .int .i64 qn, .int .i64 qk, .string ql, .slice qhA qhn qhc, .slice qwA qwn qwc, .slice qkA cs.length qkc] (Hro.out _ hq)
      · intro wq hq hd
        obtain ⟨h0, -⟩ := hd
        change (TCells [.int .i64 qk]).p (v 0) wq at h0
        refine ob_plain rfl ?_
        exact yld_loadOne 3 (.tmp 32) rfl Try.isAgg3 (c := .int .i64 qk) h0 rfl
      · intro wq hq hd
        obtain ⟨h0, -⟩ := hd
        change v 1 = _ at h0
        refine ob_plain rfl ?_
        exact yld_binInt .neq 3 3 (.tmp 33) _ rfl _ _ h0 rfl (fun w => by go_simp; rw [Hb1.out]) rfl
      · intro wq hq hd
        obtain ⟨h0, -⟩ := hd
        change v 2 = _ at h0
        refine ob_plain rfl ?_
        exact yld_move (.tmp 34) rfl h0 rfl
      · intro wq hq hd
        obtain ⟨h0, -⟩ := hd
        change v 3 = _ at h0
        refine ob_guard 3 false (b1) rfl (yields_of rfl h0) (fun hg => ?_) (fun hg => ?_)
        · refine Yld.gd (p := b1 = false) (T := TCells [.slice qkA cs.length qkc]) ?_
          exact yld_field 27 5 (.tmp 4) rfl _ Try.underlying27 _ rfl 1 Try.sizeOf25 (by decide) [.int .i64 qa, .int .i64 qi, .int .i64 qn, .int .i64 qk, .string ql, .slice qhA qhn qhc, .slice qwA qwn qwc, .slice qkA cs.length qkc] (Hro.out _ hq)
        · intro hn; rw [hn] at hg; cases hg
      · intro wq hq hd
        obtain ⟨h0, h1, -⟩ := hd
        change (b1 = false) → (TCells [.slice qkA cs.length qkc]).p (v 4) wq at h0
        change v 3 = _ at h1
        refine ob_guard 3 false (b1) rfl (yields_of rfl h1) (fun hg => ?_) (fun hg => ?_)
        · refine Yld.gd (p := b1 = false) (T := Ty.is (.slice qkA cs.length qkc)) ?_
          replace h0 := h0 hg
          exact yld_loadOne 25 (.tmp 36) rfl Try.isAgg25 (c := .slice qkA cs.length qkc) h0 rfl
        · intro hn; rw [hn] at hg; cases hg
      · intro wq hq hd
        obtain ⟨h0, h1, -⟩ := hd
        change (b1 = false) → v 5 = _ at h0
        change v 3 = _ at h1
        refine ob_guard 3 false (b1) rfl (yields_of rfl h1) (fun hg => ?_) (fun hg => ?_)
        · refine Yld.gd (p := b1 = false) (T := Ty.is (.int .i64 cs.length)) ?_
          replace h0 := h0 hg
          exact yld_len (.tmp 37) 25 _ Try.underlying25 rfl _ _ _ h0 rfl
        · intro hn; rw [hn] at hg; cases hg
      · intro wq hq hd
        obtain ⟨h0, -⟩ := hd
        change v 3 = _ at h0
        refine ob_guard 3 false (b1) rfl (yields_of rfl h0) (fun hg => ?_) (fun hg => ?_)
        · refine Yld.gd (p := b1 = false) (T := TCells [.slice (some ⟨b00, off00, none⟩) us.length kc]) ?_
          exact yld_field 27 5 (.tmp 1) rfl _ Try.underlying27 _ rfl 1 Try.sizeOf25 (by decide) [.int .i64 ra, .int .i64 ri, .int .i64 rn, .int .i64 rk, .string rl, .slice hdA hn hc, .slice wA wn wc, .slice (some ⟨b00, off00, none⟩) us.length kc] (Hbx.out _ (hextr.trans hq))
        · intro hn; rw [hn] at hg; cases hg
      · intro wq hq hd
        obtain ⟨h0, h1, -⟩ := hd
        change (b1 = false) → (TCells [.slice (some ⟨b00, off00, none⟩) us.length kc]).p (v 7) wq at h0
        change v 3 = _ at h1
        refine ob_guard 3 false (b1) rfl (yields_of rfl h1) (fun hg => ?_) (fun hg => ?_)
        · refine Yld.gd (p := b1 = false) (T := Ty.is (.slice (some ⟨b00, off00, none⟩) us.length kc)) ?_
          replace h0 := h0 hg
          exact yld_loadOne 25 (.tmp 39) rfl Try.isAgg25 (c := .slice (some ⟨b00, off00, none⟩) us.length kc) h0 rfl
        · intro hn; rw [hn] at hg; cases hg
      · intro wq hq hd
        obtain ⟨h0, h1, -⟩ := hd
        change (b1 = false) → v 8 = _ at h0
        change v 3 = _ at h1
        refine ob_guard 3 false (b1) rfl (yields_of rfl h1) (fun hg => ?_) (fun hg => ?_)
        · refine Yld.gd (p := b1 = false) (T := TCells [.int .i64 q0.a, .int .i64 q0.i, .int .i64 q0.n, .int .i64 q0.kind, .string q0.label, .slice q0.hA q0.hn q0.hc, .slice q0.wA q0.wn q0.wc, .slice q0.kA q0.kn q0.kc]) ?_
          replace h0 := h0 hg
          exact yld_indexAt unitEl (.tmp 40) _ rfl (some ⟨b00, off00, none⟩) us _ h0 0 rfl (husr.ext hq) q0 Hq0.out
        · intro hn; rw [hn] at hg; cases hg
      · intro wq hq hd
        obtain ⟨h0, h1, -⟩ := hd
        change (b1 = false) → (TCells [.int .i64 q0.a, .int .i64 q0.i, .int .i64 q0.n, .int .i64 q0.kind, .string q0.label, .slice q0.hA q0.hn q0.hc, .slice q0.wA q0.wn q0.wc, .slice q0.kA q0.kn q0.kc]).p (v 9) wq at h0
        change v 3 = _ at h1
        refine ob_guard 3 false (b1) rfl (yields_of rfl h1) (fun hg => ?_) (fun hg => ?_)
        · refine Yld.gd (p := b1 = false) (T := TCells [.slice q0.kA q0.kn q0.kc]) ?_
          replace h0 := h0 hg
          exact yld_field 27 5 (.tmp 41) rfl _ Try.underlying27 _ rfl 1 Try.sizeOf25 (by decide) [.int .i64 q0.a, .int .i64 q0.i, .int .i64 q0.n, .int .i64 q0.kind, .string q0.label, .slice q0.hA q0.hn q0.hc, .slice q0.wA q0.wn q0.wc, .slice q0.kA q0.kn q0.kc] (h0)
        · intro hn; rw [hn] at hg; cases hg
      · intro wq hq hd
        obtain ⟨h0, h1, -⟩ := hd
        change (b1 = false) → (TCells [.slice q0.kA q0.kn q0.kc]).p (v 10) wq at h0
        change v 3 = _ at h1
        refine ob_guard 3 false (b1) rfl (yields_of rfl h1) (fun hg => ?_) (fun hg => ?_)
        · refine Yld.gd (p := b1 = false) (T := Ty.is (.slice q0.kA q0.kn q0.kc)) ?_
          replace h0 := h0 hg
          exact yld_loadOne 25 (.tmp 42) rfl Try.isAgg25 (c := .slice q0.kA q0.kn q0.kc) h0 rfl
        · intro hn; rw [hn] at hg; cases hg
      · intro wq hq hd
        obtain ⟨h0, h1, -⟩ := hd
        change (b1 = false) → v 11 = _ at h0
        change v 3 = _ at h1
        refine ob_guard 3 false (b1) rfl (yields_of rfl h1) (fun hg => ?_) (fun hg => ?_)
        · refine Yld.gd (p := b1 = false) (T := Ty.is (.int .i64 q0.kn)) ?_
          replace h0 := h0 hg
          exact yld_len (.tmp 43) 25 _ Try.underlying25 rfl _ _ _ h0 rfl
        · intro hn; rw [hn] at hg; cases hg
      · intro wq hq hd
        obtain ⟨h0, h1, h2, -⟩ := hd
        change (b1 = false) → v 6 = _ at h0
        change (b1 = false) → v 12 = _ at h1
        change v 3 = _ at h2
        refine ob_guard 3 false (b1) rfl (yields_of rfl h2) (fun hg => ?_) (fun hg => ?_)
        · refine Yld.gd (p := b1 = false) (T := Ty.is (.bool b2)) ?_
          replace h0 := h0 hg
          replace h1 := h1 hg
          exact yld_binInt .neq 3 3 (.tmp 38) (.tmp 44) rfl _ _ h0 h1 (fun w => by go_simp; rw [Hb2.out]) rfl
        · intro hn; rw [hn] at hg; cases hg
      · intro wq hq hd
        obtain ⟨h0, h1, -⟩ := hd
        change v 3 = _ at h0
        change (b1 = false) → v 13 = _ at h1
        refine ob_plain rfl ?_
        exact yld_or (.tmp 35) (.tmp 45) rfl rfl _ _ h0 (fun hgd => h1 hgd) rfl
      · intro wq hq hd
        obtain ⟨h0, h1, -⟩ := hd
        change v 14 = _ at h0
        refine ob_plain rfl ?_
        exact yld_move (.tmp 46) rfl h0 rfl
      · intro wq hq hd
        obtain ⟨h0, -⟩ := hd
        change v 15 = _ at h0
        refine ob_guard 15 false ((b1 || b2)) rfl (yields_of rfl h0) (fun hg => ?_) (fun hg => ?_)
        · refine Yld.gd (p := (b1 || b2) = false) (T := TCells [.slice qkA cs.length qkc]) ?_
          exact yld_field 27 5 (.tmp 4) rfl _ Try.underlying27 _ rfl 1 Try.sizeOf25 (by decide) [.int .i64 qa, .int .i64 qi, .int .i64 qn, .int .i64 qk, .string ql, .slice qhA qhn qhc, .slice qwA qwn qwc, .slice qkA cs.length qkc] (Hro.out _ hq)
        · intro hn; rw [hn] at hg; cases hg
      · intro wq hq hd
        obtain ⟨h0, h1, -⟩ := hd
        change ((b1 || b2) = false) → (TCells [.slice qkA cs.length qkc]).p (v 16) wq at h0
        change v 15 = _ at h1
        refine ob_guard 15 false ((b1 || b2)) rfl (yields_of rfl h1) (fun hg => ?_) (fun hg => ?_)
        · refine Yld.gd (p := (b1 || b2) = false) (T := Ty.is (.slice qkA cs.length qkc)) ?_
          replace h0 := h0 hg
          exact yld_loadOne 25 (.tmp 48) rfl Try.isAgg25 (c := .slice qkA cs.length qkc) h0 rfl
        · intro hn; rw [hn] at hg; cases hg
      · intro wq hq hd
        obtain ⟨h0, h1, h2, -⟩ := hd
        change ((b1 || b2) = false) → v 17 = _ at h0
        change v 15 = _ at h1
        refine ob_guard 15 false ((b1 || b2)) rfl (yields_of rfl h1) (fun hg => ?_) (fun hg => ?_)
        · refine Yld.gd (p := (b1 || b2) = false) (T := Ty.is (.bool b3)) ?_
          replace h0 := h0 hg
          refine yld_call 41 Try.call41 _ _ rfl rfl [_, _] ⟨h0, rfl, trivial⟩ ?_
          refine (hasOdd_any qkA qkc cs qks _ (hcs.ext hq) (ReadsAll.ext hq _ _ Hcall.out) Hln.out).mono ?_
          rw [Hb3.out]
          rintro e w' ⟨rfl, hext'⟩
          exact ⟨_, rfl, hext', rfl⟩
        · intro hn; rw [hn] at hg; cases hg
      · intro wq hq hd
        obtain ⟨h0, h1, -⟩ := hd
        change v 15 = _ at h0
        change ((b1 || b2) = false) → v 18 = _ at h1
        refine ob_plain rfl ?_
        exact yld_or (.tmp 47) (.tmp 50) rfl rfl _ _ h0 (fun hgd => h1 hgd) rfl
      · intro wq hq hT
        have k19 := hT 19 (by decide)
        change v 19 = _ at k19
        clear hT
        simp only [List.drop_succ_cons, List.drop_zero, putE, setsE, List.set_cons_succ, List.set_cons_zero, Nat.reduceAdd]
        rw [k19]
        obtain ⟨B, hB⟩ : ∃ B, ((b1 || b2) || b3) = B := ⟨_, rfl⟩
        rw [hB] at Htk ⊢
        have HB := Lib.hid hB
        clear hB
        cases B with
        | true =>
          have Hf := Lib.hid (show kids.all (rowOk nc) = false from all_false_of hltk (by rw [Hv.out, Hrow.out, HB.out]; rfl))
          go_wp2
          go_ret
          exact ⟨by rw [← HR.out, Hf.out]; rfl, he0.trans (hextr.trans hq)⟩
        | false =>
          go_wp2
          go_roundw
          case rel => exact ⟨k + 1, by omega, by go_num, Lib.hid (by rw [Htk.out, Hk.out]; rfl), hextr.trans hq⟩
          case measure => simp [intOf]; omega
    · have hkl : k = us.length := by omega
      have h3 := Hk.out
      rw [List.take_of_length_le (by have := Hul.out; omega)] at h3
      have H3 := Lib.hid h3
      clear h3 hkl
      go_wp2
      go_ret
      exact ⟨by rw [← HR.out, H3.out]; rfl, he0.trans hext⟩

end Go.Proofs.Ythjlnpcanccmkaa
