/- The law on the optimal lines: the walk. -/
import Derived.Test.YtdglijpooodlnaaLawA54
import Derived.Test.YtdglijpooodlnaaPlain54
namespace Go.Proofs.Ytdglijpooodlnaa
open Go.RowKit

theorem bR_yes {l : List ByteArray} {W : Int} (h : wrongF W l = 0) : bR l W = bLines l W := by unfold bR; rw [if_pos h]
theorem gR_yes {l : List ByteArray} {W : Int} (h : wrongF W l = 0) : gR l W = gLines l W := by unfold gR; rw [if_pos h]
theorem costR_best {l : List ByteArray} {W : Int} (h : wrongF W l = 0) (hb : briefP l 60) : costR l W (bR l W) = (CF l W 0, 0) := by
  have hF := fit_of h hb
  obtain ⟨h1, h2⟩ := bLines_val hF l.length 0 (Nat.zero_le _) (by omega)
  have h3 : Val l W 0 (bLines l W) := h1
  have h4 : tc l W 0 (bLines l W) = CF l W 0 := h2
  rw [bR_yes h, costR_yes h h3.ends, costF_some _ _ _ h3.fit, h4, Int.zero_add]
  rfl
theorem costR_val {l : List ByteArray} {W : Int} {es : List Int} {n : Int} (h : costR l W es = (n, 0)) : wrongF W l = 0 ∧ Val l W 0 es ∧ n = tc l W 0 es := by
  unfold costR at h
  by_cases hw : wrongF W l = 0
  · rw [if_neg (by simp [hw])] at h
    split at h
    · rename_i he
      cases hc : costF l W 0 es 0 with
      | none => rw [hc] at h; simp [costE] at h
      | some c =>
        rw [hc] at h
        simp only [costE, Prod.mk.injEq, and_true] at h
        obtain ⟨h1, h2⟩ := costF_of es 0 0 hc
        exact ⟨hw, ⟨he, h1⟩, by omega⟩
    · simp at h
  · rw [if_pos hw] at h
    simp only [Prod.mk.injEq] at h
    exact absurd h.2 hw
theorem costR_err (l : List ByteArray) (W : Int) (es : List Int) : (costR l W es).2 = 0 ∨ (costR l W es).2 = 2 ∨ (wrongF W l ≠ 0 ∧ (costR l W es).2 = wrongF W l) := by
  unfold costR
  split
  · rename_i h; exact .inr (.inr ⟨h, rfl⟩)
  · split
    · cases costF l W 0 es 0 with
      | none => exact .inr (.inl rfl)
      | some c => exact .inl rfl
    · exact .inr (.inl rfl)
theorem lx_drop {xs ys : List Int} {k : Nat} (h1 : k < xs.length) (h2 : k < ys.length) : lx (xs.drop k) (ys.drop k) = if xs[k] = ys[k] then lx (xs.drop (k + 1)) (ys.drop (k + 1)) else decide (xs[k] < ys[k]) := by
  rw [List.drop_eq_getElem_cons h1, List.drop_eq_getElem_cons h2, lx]
theorem lx_end {xs ys : List Int} {k : Nat} (h : lx (xs.drop k) (ys.drop k) = true) (h1 : k ≤ xs.length) (h2 : k ≤ ys.length) (h3 : ¬ (k < xs.length ∧ k < ys.length)) : xs.length = ys.length := by
  rcases Nat.lt_or_ge k xs.length with h4 | h4
  · have h5 : k = ys.length := by omega
    rw [List.drop_eq_getElem_cons h4, List.drop_of_length_le (l := ys) (by omega)] at h
    simp [lx] at h
  · rcases Nat.lt_or_ge k ys.length with h5 | h5
    · rw [List.drop_eq_getElem_cons h5, List.drop_of_length_le (l := xs) (by omega)] at h
      simp [lx] at h
    · omega

set_option maxRecDepth 100000 in
set_option maxHeartbeats 3200000 in
theorem optimality_law (W : Int) (E : Option Addr) (ec : Nat) (es : List Int) (A : Option Addr) (c : Nat) (l : List ByteArray) (w : World) (hs : Sl strEl w A l) (he : Sl intEl w E es) (hc : l.length ≤ c) (hn : l.length ≤ 9223372036854775807) (hen : es.length ≤ 9223372036854775807) :
    Calls Try.prog 6 #[.int .i64 W, .slice E es.length ec, .slice A l.length c] w (RetTrue w) := by
  have Ha := Lib.hid (awake_any w)
  have Hs := Lib.hid hs
  have He := Lib.hid he
  have Hb := Lib.hid (fun w' (hx : Ext w w') => brief_any A c l 60 w' (hs.ext hx) hn)
  clear hs he
  go_enter Try.func6, Try.ntmps6
  go_wp2_with fail
  refine (Ha.out).mono ?_
  rintro e w1 ⟨rfl, hx1⟩
  go_wp2_with fail
  refine (Hb.out _ hx1).mono ?_
  rintro e w2 ⟨b, rfl, hb, hx2⟩
  cases b with
  | false =>
    go_wp2
    go_ret
    exact ⟨rfl, hx1.trans hx2⟩
  | true =>
    have HB := Lib.hid (hb rfl)
    clear hb
    have hx12 := hx1.trans hx2
    by_cases h100 : es.length > 100
    · have d1 : decide ((es.length : Int) > 100) = true := decide_eq_true (by omega)
      go_wp2
      go_ret
      exact ⟨rfl, hx12⟩
    · have d1 : decide ((es.length : Int) > 100) = false := decide_eq_false (by omega)
      have H1 : Hid (∀ w', Ext w w' → Calls Try.prog 12 #[.int .i64 W, .slice A l.length c] w' (RetEnds w' (bR l W) (wrongF W l))) := Lib.hid fun w' hx => break_any A c l W w' (Hs.out.ext hx) HB.out
      have H2 : Hid (∀ w', Ext w w' → Calls Try.prog 17 #[.int .i64 W, .slice E es.length ec, .slice A l.length c] w' (Ret2 w' (costR l W es))) := Lib.hid fun w' hx => cost_any E A ec c l W es w' (Hs.out.ext hx) hc (He.out.ext hx) hen HB.out
      have hce := costR_err l W es
      obtain ⟨⟨n, f⟩, hp⟩ : ∃ p, costR l W es = p := ⟨_, rfl⟩
      obtain ⟨B, hB⟩ : ∃ B, bR l W = B := ⟨_, rfl⟩
      obtain ⟨Z, hZ⟩ : ∃ Z, wrongF W l = Z := ⟨_, rfl⟩
      rw [hp, hZ] at hce
      simp only at hce
      rw [hp] at H2
      rw [hB, hZ] at H1
      have Hp := Lib.hid hp
      have HZ := Lib.hid hZ
      have HBB := Lib.hid hB
      clear hp hZ hB hx1 hx2
      by_cases hf0 : f = 0
      · subst hf0
        obtain ⟨v1, v2, v3⟩ := costR_val Hp.out
        have hZ0 : Z = 0 := by rw [← HZ.out]; exact v1
        subst hZ0
        have hF := fit_of v1 HB.out
        have hcb := costR_best v1 HB.out
        rw [HBB.out] at hcb
        have hle : CF l W 0 ≤ n := by rw [v3]; exact tc_least hF es 0 (Nat.zero_le _) v2
        have hlx : CF l W 0 = n → lx B es = true := fun h => by
          rw [← HBB.out, bR_yes v1]
          exact lx_best hF es l.length 0 (Nat.zero_le _) (by omega) v2 (by rw [← v3, h])
        have hBl : B.length ≤ 60 := by
          rw [← HBB.out, bR_yes v1]
          have h1 := bEndsF_len hF l.length 0 (Nat.zero_le _)
          have h2 := HB.out.1
          unfold bLines
          omega
        have H3 : Hid (∀ w' D dc, Ext w w' → Sl intEl w' D B → Calls Try.prog 17 #[.int .i64 W, .slice D B.length dc, .slice A l.length c] w' (Ret2 w' (CF l W 0, 0))) := Lib.hid fun w' D dc hx h => by
          have := cost_any D A dc c l W B w' (Hs.out.ext hx) hc h (by omega) HB.out
          rwa [hcb] at this
        obtain ⟨m, hm⟩ : ∃ m, CF l W 0 = m := ⟨_, rfl⟩
        rw [hm] at hle hlx H3
        have Hlx := Lib.hid hlx
        have HBl := Lib.hid hBl
        clear v1 v2 v3 hF hcb hlx hm hce hBl
        go_wp2_with fail
        refine (H1.out _ hx12).mono ?_
        rintro e w3 ⟨vB, rfl, ho3, hx3⟩
        obtain ⟨D, dc, rfl, hdc, hs3⟩ := ho3.form
        go_wp2_with fail
        refine (H2.out _ (hx12.trans hx3)).mono ?_
        rintro e w4 ⟨rfl, hx4⟩
        go_wp2_with fail
        refine (H3.out _ _ _ ((hx12.trans hx3).trans hx4) (hs3.ext hx4)).mono ?_
        rintro e w5 ⟨rfl, hx5⟩
        have hx05 := ((hx12.trans hx3).trans hx4).trans hx5
        have Hs5 := Lib.hid (hs3.ext (hx4.trans hx5))
        have He5 := Lib.hid (He.out.ext hx05)
        have Hx5 := Lib.hid hx05
        clear ho3 hdc hs3 hx3 hx4 hx5 hx12
        have d2 : decide (m > n) = false := decide_eq_false (by omega)
        by_cases hmn : m < n
        · have d3 : decide (m < n) = true := decide_eq_true hmn
          go_wp2
          go_ret
          exact ⟨rfl, Hx5.out⟩
        · have d3 : decide (m < n) = false := decide_eq_false hmn
          have HL := Lib.hid (Hlx.out (by omega))
          clear hmn
          go_wp2
          go_loopw [13] (fun vi wr => ∃ k : Nat, k ≤ B.length ∧ k ≤ es.length ∧ vi = .int .i64 (k : Nat) ∧ Hid (lx (B.drop k) (es.drop k) = true) ∧ Ext w5 wr) (fun vi _ => B.length - (intOf vi).toNat)
          case atStart => exact ⟨0, Nat.zero_le _, Nat.zero_le _, rfl, HL, Ext.refl _⟩
          case round =>
            obtain ⟨k, hk1, hk2, rfl, Hk, hext⟩ := hrel
            have hBl := HBl.out
            by_cases hlt : k < B.length
            · by_cases hlt2 : k < es.length
              · obtain ⟨b1, o1, rfl, q1, u1⟩ := intAt (Hs5.out.ext hext) hlt
                obtain ⟨b2, o2, rfl, q2, u2⟩ := intAt (He5.out.ext hext) hlt2
                have hk := Hk.out
                rw [lx_drop hlt hlt2] at hk
                obtain ⟨x, hx⟩ : ∃ x, B[k] = x := ⟨_, rfl⟩
                obtain ⟨y, hy⟩ : ∃ y, es[k] = y := ⟨_, rfl⟩
                rw [hx] at u1 hk
                rw [hy] at u2 hk
                have e1 : decide ((k : Int) < (B.length : Int)) = true := decide_eq_true (by omega)
                have e2 : decide ((k : Int) < (es.length : Int)) = true := decide_eq_true (by omega)
                have g1 : ((k : Int) < (B.length : Int)) := by omega
                have g2 : ((k : Int) < (es.length : Int)) := by omega
                clear hx hy
                by_cases hxy : x = y
                · rw [if_pos hxy] at hk
                  have e3 : (x != y) = false := by simp [hxy]
                  have Hk2 := Lib.hid hk
                  clear hk hxy
                  go_wp2
                  go_quiet (fail)
                  go_wp2
                  go_roundw
                  case rel => exact ⟨k + 1, by omega, by omega, by go_num, Hk2, hext.drewN _⟩
                  case measure => simp [intOf] <;> omega
                · rw [if_neg hxy] at hk
                  have e3 : (x != y) = true := by simp [hxy]
                  have Hk2 := Lib.hid hk
                  clear hk hxy
                  go_wp2
                  go_quiet (fail)
                  go_wp2
                  go_quiet (fail)
                  go_wp2
                  go_ret
                  exact ⟨ret_bool Hk2.out, ((Hx5.out.trans hext).drewN _).drewN _⟩
              · have e1 : decide ((k : Int) < (B.length : Int)) = true := decide_eq_true (by omega)
                have e2 : decide ((k : Int) < (es.length : Int)) = false := decide_eq_false (by omega)
                have Hend := Lib.hid (lx_end Hk.out hk1 hk2 (by omega))
                go_wp2
                go_ret
                exact ⟨ret_bool (by rw [Hend.out]; simp), Hx5.out.trans hext⟩
            · have e1 : decide ((k : Int) < (B.length : Int)) = false := decide_eq_false (by omega)
              have Hend := Lib.hid (lx_end Hk.out hk1 hk2 (by omega))
              go_wp2
              go_ret
              exact ⟨ret_bool (by rw [Hend.out]; simp), Hx5.out.trans hext⟩
      · have e1 : (f != 0) = true := by simp [hf0]
        have e2 : f = 2 ∨ (f ≠ 2 ∧ Z = f) := by omega
        rcases e2 with e2 | ⟨e2, e3⟩
        · subst e2
          clear hce hf0
          go_wp2_with fail
          refine (H1.out _ hx12).mono ?_
          rintro e w3 ⟨vB, rfl, ho3, hx3⟩
          obtain ⟨D, dc, rfl, hdc, hs3⟩ := ho3.form
          go_wp2_with fail
          refine (H2.out _ (hx12.trans hx3)).mono ?_
          rintro e w4 ⟨rfl, hx4⟩
          go_wp2
          go_ret
          exact ⟨rfl, (hx12.trans hx3).trans hx4⟩
        · subst e3
          have e4 : (Z == 2) = false := by simp [e2]
          have e5 : (Z == Z) = true := by simp
          clear hce
          go_wp2_with fail
          refine (H1.out _ hx12).mono ?_
          rintro e w3 ⟨vB, rfl, ho3, hx3⟩
          obtain ⟨D, dc, rfl, hdc, hs3⟩ := ho3.form
          go_wp2_with fail
          refine (H2.out _ (hx12.trans hx3)).mono ?_
          rintro e w4 ⟨rfl, hx4⟩
          go_wp2
          go_ret
          exact ⟨rfl, (hx12.trans hx3).trans hx4⟩

end Go.Proofs.Ytdglijpooodlnaa
