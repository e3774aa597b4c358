/- May: the reference's test whether a unit is a table. -/
import Derived.Test.YthjlnpcanccmkaaSize9
namespace Go.Proofs.Ythjlnpcanccmkaa
open Go.RowKit

theorem bne_of {a b : Int} (h : a ≠ b) : (a != b) = true := by simp [h]
theorem bne_not {a b : Int} (h : a = b) : (a != b) = false := by simp [h]

set_option maxRecDepth 100000 in
set_option maxHeartbeats 3200000 in
theorem may_any (u : GUnit) (r : RUnit) (w : World) (hr : Reads w u r) (hln : AllU (lensLe 9223372036854775807 9223372036854775807) u) : Calls Try.prog 19 #[.agg r.cells.toArray] w fun e w' => e = .returned (.bool (validB u)) ∧ Ext w w' := by
  have hfr : ∀ us, ReadsAll w u.kids us → ∀ h : 0 < us.length, us[0].kn = ncols u := fun us h1 h2 => first_row h1 h2
  obtain ⟨a, i, n, kd, lb, hl, wl, kids⟩ := u
  rw [Reads] at hr
  rw [AllU] at hln
  obtain ⟨⟨-, -, hl3⟩, hln⟩ := hln
  have HLN := Lib.hid hln
  obtain ⟨⟨-, -, -, hk, -⟩, -, -, hkn, hkc, us, hus, hall⟩ := hr
  have hbu := fun w' he => boxUnit (w' := w') r (w := w) he
  obtain ⟨ra, ri, rn, rk, rl, hdA, hn, hc, wA, wn, wc, kA, kn, kc⟩ := r
  dsimp only at hk hkn hkc hus
  simp only [RUnit.cells] at hbu ⊢
  simp only [GUnit.kids] at hfr
  have hul := ReadsAll.length hall
  rw [← hul] at hkn hkc hl3
  subst hk hkn
  have hfr2 := hfr us hall
  have Hall := Lib.hid hall
  have Hul := Lib.hid hul
  have he0 : Ext w (w.alloc (.cells #[.int .i64 ra, .int .i64 ri, .int .i64 rn, .int .i64 rk, .string rl, .slice hdA hn hc, .slice wA wn wc, .slice kA us.length kc] 27)) := (Ext.refl _).alloc _
  clear hall hul hln hfr
  by_cases h1 : rk = 4
  case neg =>
    have e1 : validB (.mk a i n rk lb hl wl kids) = false := by simp [validB, GUnit.kind, h1]
    rw [e1]
    have d1 : (rk != 4) = true := bne_of h1
    clear h1 e1 hbu
    go_enter Try.func19, Try.ntmps19
    go_wp2
    go_ret
    exact ⟨rfl, he0⟩
  have d1 : (rk != 4) = false := bne_not h1
  by_cases h2 : us.length < 1
  · have e1 : validB (.mk a i n rk lb hl wl kids) = false := by
      have : kids.length = 0 := by rw [← Hul.out]; omega
      simp [validB, GUnit.kids, this, manyB]
    rw [e1]
    have hz : us.length = 0 := by omega
    have d2 : decide ((us.length : Int) < 1) = true := decide_eq_true (by omega)
    clear h1 e1 hbu hz hfr2
    go_enter Try.func19, Try.ntmps19
    go_wp2
    go_ret
    exact ⟨rfl, he0⟩
  have d2 : decide ((us.length : Int) < 1) = false := decide_eq_false (by omega)
  by_cases h3 : 64 < us.length
  · have e1 : validB (.mk a i n rk lb hl wl kids) = false := by
      have : ¬ ((kids.length : Int) ≤ 64) := by rw [← Hul.out]; omega
      simp [validB, GUnit.kids, manyB, this]
    rw [e1]
    have d3 : decide ((us.length : Int) > 64) = true := decide_eq_true (by omega)
    clear h1 e1 hbu hfr2
    go_enter Try.func19, Try.ntmps19
    go_wp2
    go_ret
    exact ⟨rfl, he0⟩
  have d3 : decide ((us.length : Int) > 64) = false := decide_eq_false (by omega)
  have hpos : 0 < us.length := by omega
  have hhi : us.length ≤ 64 := by omega
  have hnc := hfr2 hpos
  obtain ⟨nc, hnce⟩ : ∃ nc, ncols (.mk a i n rk lb hl wl kids) = nc := ⟨_, rfl⟩
  rw [hnce] at hnc
  have e1 : validB (.mk a i n rk lb hl wl kids) = (kids.all (rowOk nc) && manyB nc) := by
    have : manyB (kids.length : Int) = true := by rw [← Hul.out]; simp [manyB]; omega
    unfold validB
    rw [hnce]
    simp [GUnit.kind, GUnit.kids, h1, this, Bool.and_comm]
  rw [e1]
  obtain ⟨R, hR⟩ : ∃ R, (kids.all (rowOk nc) && manyB nc) = R := ⟨_, rfl⟩
  rw [hR]
  have HR := Lib.hid hR
  have Hbu := Lib.hid hbu
  have hncl : nc ≤ 9223372036854775807 := by
    have hku : 0 < kids.length := by rw [← Hul.out]; exact hpos
    obtain ⟨k0, kt, hkk⟩ : ∃ k0 kt, kids = k0 :: kt := by
      cases kids with
      | nil => simp at hku
      | cons x y => exact ⟨x, y, rfl⟩
    have hl0 := HLN.out
    rw [hkk, AllUs] at hl0
    rw [← hnce]
    unfold ncols
    simp only [GUnit.kids, hkk]
    obtain ⟨_, _, _, _, _, _, _, k00⟩ := k0
    rw [AllU] at hl0
    exact hl0.1.1.2.2
  obtain ⟨b00, off00, hkA, hb00, u0, u1, u2, u3, u4, u5, u6, u7⟩ := unitAt (hus.ext he0) hpos
  rw [Nat.zero_mul, Nat.add_zero, hnc] at u7
  subst hkA
  have d5 : decide ((0 : Int) < (us.length : Int)) = true := decide_eq_true (by omega)
  clear h1 h2 h3 e1 hnce hnc hR hbu hfr2 u0 u1 u2 u3 u4 u5 u6
  go_enter Try.func19, Try.ntmps19
  go_wp2
  obtain ⟨wb, hwb⟩ : ∃ wb, w.alloc (.cells #[.int .i64 ra, .int .i64 ri, .int .i64 rn, .int .i64 rk, .string rl, .slice hdA hn hc, .slice wA wn wc, .slice (some ⟨b00, off00, none⟩) us.length kc] 27) = wb := ⟨_, rfl⟩
  rw [hwb] at he0 Hbu ⊢
  clear hwb u7 hb00 d1 d2 d3 d5
  have husb := hus.ext he0
  go_loopw [4] (fun i wr => ∃ k : Nat, k ≤ us.length ∧ i = .int .i64 k ∧ Hid ((kids.take k).all (rowOk nc) = true) ∧ Ext wb wr) (fun i _ => us.length - (intOf i).toNat)
  case atStart => exact ⟨0, Nat.zero_le _, rfl, Lib.hid (by simp), Ext.refl _⟩
  case round =>
    obtain ⟨k, hk, rfl, Hk, hext⟩ := hrel
    have f7 := (Hbu.out _ hext).2.2.2.2.2.2.2.2
    by_cases hlt : k < us.length
    · have hltk : k < kids.length := by have := Hul.out; omega
      have husw := husb.ext hext
      have hrdk := Reads.ext (he0.trans hext) _ _ (ReadsAll.get Hall.out k hltk hlt)
      have Htk := Lib.hid (all_take_succ (rowOk nc) kids k hltk)
      have huw := unitAt husw hlt
      obtain ⟨q, hq⟩ : ∃ q, us[k] = q := ⟨_, rfl⟩
      obtain ⟨v, hv⟩ : ∃ v, kids[k] = v := ⟨_, rfl⟩
      rw [hq] at hrdk huw
      rw [hv] at hrdk Htk
      have Hv := Lib.hid hv
      clear hq hv
      obtain ⟨b, off, hkA2, hb, u0, u1, u2, u3, u4, u5, u6, u7⟩ := huw
      obtain ⟨va, vi, vn, vk, vl, vh, vw, qks⟩ := v
      rw [Reads] at hrdk
      obtain ⟨⟨-, -, -, hvk, -⟩, -, -, hqn, hqc, cs, hcs0, hcall⟩ := hrdk
      have hcl := ReadsAll.length hcall
      have hbq := fun w' he => boxUnit (w' := w') q (w := wr) he
      obtain ⟨qa, qi, qn, qk, ql, qhA, qhn, qhc, qwA, qwn, qwc, qkA, qkn, qkc⟩ := q
      dsimp only at hvk hqn hqc hcs0 u0 u1 u2 u3 u4 u5 u6 u7
      simp only [RUnit.cells] at hbq
      rw [← hcl] at hqn hqc
      subst hvk hqn
      obtain ⟨wo, hwo⟩ : ∃ wo, wr.alloc (.cells #[.int .i64 qa, .int .i64 qi, .int .i64 qn, .int .i64 qk, .string ql, .slice qhA qhn qhc, .slice qwA qwn qwc, .slice qkA cs.length qkc] 27) = wo := ⟨_, rfl⟩
      have hxo : Ext wr wo := by rw [← hwo]; exact (Ext.refl _).alloc _
      have hcs := hcs0.ext hxo
      have Hcall := Lib.hid (ReadsAll.ext hxo _ _ hcall)
      have Hcl := Lib.hid hcl
      obtain ⟨-, g0, g1, g2, g3, g4, g5, g6, g7⟩ := hbq wo (by rw [hwo]; exact Ext.refl _)
      have Hwo := Lib.hid hwo
      cases hkA2
      have hbad : ∀ h : rowOk nc (.mk va vi vn qk vl vh vw qks) = false, R = false := fun h => by
        rw [← HR.out, all_false_of hltk (by rw [Hv.out]; exact h)]; rfl
      have Hbad := Lib.hid hbad
      clear hcall hcl hbq hcs0 hwo hbad
      by_cases c1 : qk = 5
      case neg =>
        have Hf := Lib.hid (Hbad.out (by simp [rowOk, GUnit.kind, c1]))
        have d1 : (qk != 5) = true := bne_of c1
        rw [← Hwo.out] at g3
        clear c1 g0 g1 g2 g4 g5 g6 g7
        go_wp2
        go_ret
        exact ⟨by rw [Hf.out]; rfl, he0.trans (hext.alloc _)⟩
      have d1 : (qk != 5) = false := bne_not c1
      by_cases c2 : cs.length = nc
      case neg =>
        have Hf := Lib.hid (Hbad.out (by
          have : ¬ qks.length = nc := by rw [← Hcl.out]; exact c2
          simp [rowOk, GUnit.kids, this]))
        have d2 : ((cs.length : Int) != (nc : Int)) = true := bne_of (by omega)
        rw [← Hwo.out] at g3 g7
        clear c1 c2 g0 g1 g2 g4 g5 g6
        go_wp2
        go_ret
        exact ⟨by rw [Hf.out]; rfl, he0.trans (hext.alloc _)⟩
      have hro : rowOk nc (.mk va vi vn qk vl vh vw qks) = qks.all cellOk := by
        have : qks.length = nc := by rw [← Hcl.out]; exact c2
        simp [rowOk, GUnit.kind, GUnit.kids, c1, this]
      have d2 : ((cs.length : Int) != (nc : Int)) = false := bne_not (by omega)
      rw [hro] at Htk
      have Hro := Lib.hid hro
      rw [← Hwo.out] at g3 g7
      have Hc2 := Lib.hid c2
      clear c1 c2 hro
      go_wp2
      rw [Hwo.out] at g3 g7 ⊢
      clear u0 u1 u2 u3 u4 u5 u6 u7 f7 g0 g1 g2 g3 g4 g5 g6 d1 d2
      go_loop [6] (fun j => ∃ m : Nat, m ≤ nc ∧ j = .int .i64 m ∧ Hid ((qks.take m).all cellOk = true)) (fun j => nc - (intOf j).toNat)
      case atStart => exact ⟨0, Nat.zero_le _, rfl, Lib.hid (by simp)⟩
      case round =>
        obtain ⟨m, hm, rfl, Hm⟩ := hrel
        by_cases hmt : m < nc
        · have hmc : m < cs.length := by rw [Hc2.out]; exact hmt
          have hmq : m < qks.length := by rw [← Hcl.out]; exact hmc
          have hrc := ReadsAll.get Hcall.out m hmq hmc
          have huc := unitAt hcs hmc
          have Htm := Lib.hid (all_take_succ cellOk qks m hmq)
          obtain ⟨x, hx⟩ : ∃ x, cs[m] = x := ⟨_, rfl⟩
          obtain ⟨y, hy⟩ : ∃ y, qks[m] = y := ⟨_, rfl⟩
          rw [hx] at hrc huc
          rw [hy] at hrc Htm
          have Hy := Lib.hid hy
          have Hcs := Lib.hid hcs
          clear hx hy hcs
          obtain ⟨b2, off2, hA2, hb2, v0, v1, v2, v3, v4, v5, v6, v7⟩ := huc
          obtain ⟨ya, yi, yn, yk, yl, yh, yw, yks⟩ := y
          rw [Reads] at hrc
          obtain ⟨⟨-, -, -, hyk, -⟩, -, -, hyn, -⟩ := hrc
          obtain ⟨xa, xi, xn, xk, xl, xhA, xhn, xhc, xwA, xwn, xwc, xkA, xkn, xkc⟩ := x
          dsimp only at hyk hyn v3 v7
          subst hyk hyn
          have dmc : decide ((m : Int) < (cs.length : Int)) = true := decide_eq_true (by omega)
          cases hA2
          have hbad2 : ∀ h : cellOk (.mk ya yi yn xk yl yh yw yks) = false, R = false := fun h => Hbad.out (by rw [Hro.out, all_false_of hmq (by rw [Hy.out]; exact h)])
          by_cases c1 : xk = 6
          case neg =>
            have Hf := Lib.hid (hbad2 (by simp [cellOk, GUnit.kind, c1]))
            have d1 : (xk != 6) = true := bne_of c1
            clear c1 hbad2
            go_wp2
            go_ret
            exact ⟨by rw [Hf.out]; rfl, he0.trans (hext.trans hxo)⟩
          have d1 : (xk != 6) = false := bne_not c1
          by_cases c2 : yks.length = 0
          case neg =>
            have Hf := Lib.hid (hbad2 (by
              simp [cellOk, GUnit.kind, GUnit.kids, c1]
              intro h
              exact c2 (by simp [h])))
            have hpz : 0 < yks.length := by omega
            clear c1 c2 hbad2
            go_wp2
            go_ret
            exact ⟨by rw [Hf.out]; rfl, he0.trans (hext.trans hxo)⟩
          have hgood : cellOk (.mk ya yi yn xk yl yh yw yks) = true := by simp [cellOk, GUnit.kind, GUnit.kids, c1]; exact List.eq_nil_of_length_eq_zero c2
          have Hgood := Lib.hid hgood
          rw [c2] at v7
          clear c1 c2 hbad2 hgood
          go_wp2
          go_round
          case rel => exact ⟨m + 1, by omega, by go_num, Lib.hid (by rw [Htm.out, Hm.out, Hgood.out]; rfl)⟩
          case measure => simp [intOf]; omega
        · have hmn : m = nc := by omega
          have h3 := Hm.out
          rw [List.take_of_length_le (by rw [← Hcl.out, Hc2.out]; omega)] at h3
          have H3 := Lib.hid h3
          clear h3 hmn Hm
          go_wp2
          go_roundw
          case rel => exact ⟨k + 1, by omega, by go_num, Lib.hid (by rw [Htk.out, Hk.out, H3.out]; rfl), hext.trans hxo⟩
          case measure => simp [intOf]; omega
    · have hkl : k = us.length := by omega
      have h3 := Hk.out
      rw [List.take_of_length_le (by have := Hul.out; omega)] at h3
      have hR := HR.out
      rw [h3, Bool.true_and] at hR
      have HR2 := Lib.hid hR
      clear h3 hkl hR
      by_cases m1 : 1 ≤ nc
      · by_cases m2 : nc ≤ 64
        · have Hf := Lib.hid (show R = true by rw [← HR2.out]; simp [manyB]; omega)
          have d1 : decide ((nc : Int) ≥ 1) = true := decide_eq_true (by omega)
          have d2 : decide ((nc : Int) ≤ 64) = true := decide_eq_true (by omega)
          go_wp2
          go_ret
          exact ⟨by rw [Hf.out]; rfl, he0.trans hext⟩
        · have Hf := Lib.hid (show R = false by rw [← HR2.out]; simp [manyB]; omega)
          have d1 : decide ((nc : Int) ≥ 1) = true := decide_eq_true (by omega)
          have d2 : decide ((nc : Int) ≤ 64) = false := decide_eq_false (by omega)
          go_wp2
          go_ret
          exact ⟨by rw [Hf.out]; rfl, he0.trans hext⟩
      · have Hf := Lib.hid (show R = false by rw [← HR2.out]; simp [manyB]; omega)
        have d1 : decide ((nc : Int) ≥ 1) = false := decide_eq_false (by omega)
        go_wp2
        go_ret
        exact ⟨by rw [Hf.out]; rfl, he0.trans hext⟩

end Go.Proofs.Ythjlnpcanccmkaa
