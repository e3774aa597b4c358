/- Cost of both: the walks. -/
import Derived.Test.YtdglijpooodlnaaOpt54
import Derived.Test.YtdglijpooodlnaaJoin54
namespace Go.Proofs.Ytdglijpooodlnaa
open Go.RowKit

theorem costR_no {l : List ByteArray} {W : Int} {es : List Int} (h : wrongF W l ≠ 0) : costR l W es = (0, wrongF W l) := by unfold costR; rw [if_pos h]
theorem costR_form {l : List ByteArray} {W : Int} {es : List Int} (h : wrongF W l = 0) (h2 : endsB (l.length : Int) 0 es = false) : costR l W es = (0, 2) := by unfold costR; rw [if_neg (by simp [h]), if_neg (by simp [h2])]
theorem costR_yes {l : List ByteArray} {W : Int} {es : List Int} (h : wrongF W l = 0) (h2 : endsB (l.length : Int) 0 es = true) : costR l W es = costE (costF l W 0 es 0) := by unfold costR; rw [if_neg (by simp [h]), if_pos h2]

set_option maxRecDepth 100000 in
set_option maxHeartbeats 1600000 in
theorem cost_any (E A : Option Addr) (ec c : Nat) (l : List ByteArray) (W : Int) (es : List Int) (w : World) (hs : Sl strEl w A l) (hc : l.length ≤ c) (he : Sl intEl w E es) (hen : es.length ≤ 9223372036854775807) (hb : briefP l 60) :
    Calls Try.prog 17 #[.int .i64 W, .slice E es.length ec, .slice A l.length c] w (Ret2 w (costR l W es)) := by
  have hl := hb.1
  have hw := wrong_any A c l W w hs (by omega)
  have Hs := Lib.hid hs
  have He := Lib.hid he
  have Hb := Lib.hid hb
  by_cases hwr : wrongF W l = 0
  · have hF := fit_of hwr hb
    have hW1 := hF.lo
    have hW2 := hF.hi
    have HF := Lib.hid hF
    rw [hwr] at hw
    have Hw := Lib.hid hw
    have Hwr := Lib.hid hwr
    cases hq : endsB (l.length : Int) 0 es with
    | false =>
      have ha : ∀ w', Ext w w' → Calls Try.prog 33 #[.slice E es.length ec, .slice A l.length c] w' fun e w'' => e = .returned (.bool false) ∧ Ext w' w'' := fun w' hx => by
        have := are_any E ec es A c l.length w' (he.ext hx) hen (by omega)
        rwa [hq] at this
      have Ha := Lib.hid ha
      rw [costR_form hwr hq]
      clear hw hs he hb hF hwr hq ha
      go_enter Try.func17, Try.ntmps17
      go_wp2_with fail
      refine (Hw.out).mono ?_
      rintro e w1 ⟨rfl, hx1⟩
      go_wp2_with fail
      refine (Ha.out _ hx1).mono ?_
      rintro e w2 ⟨rfl, hx2⟩
      go_wp2
      go_ret2
      exact ⟨rfl, hx1.trans hx2⟩
    | true =>
      have ha : ∀ w', Ext w w' → Calls Try.prog 33 #[.slice E es.length ec, .slice A l.length c] w' fun e w'' => e = .returned (.bool true) ∧ Ext w' w'' := fun w' hx => by
        have := are_any E ec es A c l.length w' (he.ext hx) hen (by omega)
        rwa [hq] at this
      have Ha := Lib.hid ha
      have Hq := Lib.hid hq
      rw [costR_yes hwr hq]
      clear hw hs he hb hF hwr hq ha
      go_enter Try.func17, Try.ntmps17
      go_wp2_with fail
      refine (Hw.out).mono ?_
      rintro e w1 ⟨rfl, hx1⟩
      go_wp2_with fail
      refine (Ha.out _ hx1).mono ?_
      rintro e w2 ⟨rfl, hx2⟩
      have hx02 := hx1.trans hx2
      clear hx1 hx2
      go_wp2
      go_loopw [9, 10, 12, 13, 26] (fun vs va _ _ vk wr => ∃ (k a : Nat) (s : Int), k ≤ es.length ∧ a ≤ l.length ∧ 0 ≤ s ∧ s ≤ 40000 * (a : Int) ∧ vk = .int .i64 (k : Nat) ∧ va = .int .i64 (a : Nat) ∧ vs = .int .i64 s ∧ Hid (endsB (l.length : Int) a (es.drop k) = true) ∧ Hid (costF l W 0 es 0 = costF l W a (es.drop k) s) ∧ Ext w wr) (fun _ _ _ _ vk _ => es.length - (intOf vk).toNat)
      case atStart => exact ⟨0, 0, 0, by omega, by omega, by omega, by omega, rfl, rfl, rfl, Lib.hid Hq.out, Lib.hid rfl, hx02⟩
      case round =>
        obtain ⟨k, a, s, hk, ha, hs0, hs1, rfl, rfl, rfl, HE, HC, hext⟩ := hrel
        by_cases hlt : k < es.length
        · obtain ⟨b, off, rfl, hbl, u0⟩ := intAt (He.out.ext hext) hlt
          have hE := HE.out
          rw [List.drop_eq_getElem_cons hlt] at hE
          obtain ⟨hg1, hg2, hE2⟩ := endsB_step hE
          have hC := HC.out
          rw [costF_drop hlt] at hC
          obtain ⟨g, hg⟩ : ∃ g : Nat, es[k] = (g : Int) := ⟨es[k].toNat, by omega⟩
          rw [hg] at u0 hg1 hg2 hE2 hC
          rw [Int.toNat_natCast] at hC
          have hag : a < g := by omega
          have hgn : g ≤ l.length := by omega
          have hsz := lineB_size hag hgn
          have hnn := lenF_nonneg hag hgn
          have hle := lineB_le Hb.out hag hgn
          obtain ⟨z, hz⟩ : ∃ z, lineB l a g = z := ⟨_, rfl⟩
          obtain ⟨L, hL⟩ : ∃ L, lenF l a g = L := ⟨_, rfl⟩
          rw [hz] at hsz hle
          rw [hL] at hsz hnn hC
          have Hz := Lib.hid hz
          have HC2 := Lib.hid hC
          have HE2 := Lib.hid hE2
          clear hg hE hC hE2 hz hL
          have hzL : (z.size : Int) = L := hsz
          have Hzl := Lib.hid hzL
          by_cases hf : W - (z.size : Int) < 0
          · have d1 : decide (W - (z.size : Int) < 0) = true := decide_eq_true hf
            have Hr := Lib.hid (show costF l W 0 es 0 = none by rw [HC2.out, if_pos (by rw [← Hzl.out]; exact hf)])
            clear hsz hzL
            go_wp2_with (refine wpList_sl strEl rfl _ _ _ rfl rfl _ _ rfl rfl (Hs.out.ext hext) a g (by omega) (by omega) (by omega) hgn hc ?_; intro A1 ys c1 Hy hl1 hs1; have hyn : ys.length ≤ 60 := (by rw [Hy.out]; simp; omega))
            refine (join_any A1 c1 ys spaceB _ hs1 hl1 (by omega) (by rw [Hy.out]; show (lineB l a g).size ≤ _; rw [Hz.out]; omega)).mono ?_
            rw [show joinB spaceB ys = z by rw [Hy.out]; exact Hz.out]
            rintro e w3 ⟨rfl, hx3⟩
            go_wp2
            go_ret2
            exact ⟨ret2 (by rw [Hr.out]; rfl), hext.trans hx3⟩
          · have d1 : decide (W - (z.size : Int) < 0) = false := decide_eq_false hf
            have hsq := sq_le (a := W - (z.size : Int)) (by omega) (by omega)
            by_cases hgl : g < l.length
            · skip
              have d2 : decide ((g : Int) < (l.length : Int)) = true := decide_eq_true (by omega)
              have d2' : decide (g < l.length) = true := decide_eq_true (by omega)
              have HN := Lib.hid (show costF l W 0 es 0 = costF l W g (es.drop (k + 1)) (s + (W - (z.size : Int)) * (W - (z.size : Int))) by rw [HC2.out, if_neg (by rw [← Hzl.out]; exact hf), if_pos (by omega), ← Hzl.out])
              clear hsz hzL hf
              go_wp2_with (refine wpList_sl strEl rfl _ _ _ rfl rfl _ _ rfl rfl (Hs.out.ext hext) a g (by omega) (by omega) (by omega) hgn hc ?_; intro A1 ys c1 Hy hl1 hs1; have hyn : ys.length ≤ 60 := (by rw [Hy.out]; simp; omega))
              refine (join_any A1 c1 ys spaceB _ hs1 hl1 (by omega) (by rw [Hy.out]; show (lineB l a g).size ≤ _; rw [Hz.out]; omega)).mono ?_
              rw [show joinB spaceB ys = z by rw [Hy.out]; exact Hz.out]
              rintro e w3 ⟨rfl, hx3⟩
              go_wp2
              go_roundw
              case rel => exact ⟨k + 1, g, s + (W - (z.size : Int)) * (W - (z.size : Int)), by omega, by omega, by omega, by omega, by go_num, rfl, rfl, HE2, HN, hext.trans hx3⟩
              case measure => simp [intOf] <;> omega
            · skip
              have d2 : decide ((g : Int) < (l.length : Int)) = false := decide_eq_false (by omega)
              have d2' : decide (g < l.length) = false := decide_eq_false (by omega)
              have HN := Lib.hid (show costF l W 0 es 0 = costF l W g (es.drop (k + 1)) (s) by rw [HC2.out, if_neg (by rw [← Hzl.out]; exact hf), if_neg (by omega)])
              clear hsz hzL hf
              go_wp2_with (refine wpList_sl strEl rfl _ _ _ rfl rfl _ _ rfl rfl (Hs.out.ext hext) a g (by omega) (by omega) (by omega) hgn hc ?_; intro A1 ys c1 Hy hl1 hs1; have hyn : ys.length ≤ 60 := (by rw [Hy.out]; simp; omega))
              refine (join_any A1 c1 ys spaceB _ hs1 hl1 (by omega) (by rw [Hy.out]; show (lineB l a g).size ≤ _; rw [Hz.out]; omega)).mono ?_
              rw [show joinB spaceB ys = z by rw [Hy.out]; exact Hz.out]
              rintro e w3 ⟨rfl, hx3⟩
              go_wp2
              go_roundw
              case rel => exact ⟨k + 1, g, s, by omega, by omega, by omega, by omega, by go_num, rfl, rfl, HE2, HN, hext.trans hx3⟩
              case measure => simp [intOf] <;> omega
        · obtain rfl : k = es.length := by omega
          have hC := HC.out
          rw [List.drop_of_length_le (by omega)] at hC
          have HC2 := Lib.hid hC
          clear hC
          go_wp2
          go_ret2
          exact ⟨ret2 (by rw [HC2.out]; rfl), hext⟩
  · obtain ⟨Z, hZ⟩ : ∃ Z, wrongF W l = Z := ⟨_, rfl⟩
    rw [costR_no hwr]
    rw [hZ] at hw hwr ⊢
    have Hw := Lib.hid hw
    have d1 : (Z != 0) = true := by simp [hwr]
    clear hw hZ hwr hs he hb
    go_enter Try.func17, Try.ntmps17
    go_wp2_with fail
    refine (Hw.out).mono ?_
    rintro e w1 ⟨rfl, hx1⟩
    go_wp2
    go_ret2
    exact ⟨rfl, hx1⟩

set_option maxRecDepth 100000 in
set_option maxHeartbeats 1600000 in
theorem refCost_any (E A : Option Addr) (ec c : Nat) (l : List ByteArray) (W : Int) (es : List Int) (w : World) (hs : Sl strEl w A l) (he : Sl intEl w E es) (hen : es.length ≤ 9223372036854775807) (hb : briefP l 60) :
    Calls Try.prog 18 #[.int .i64 W, .slice E es.length ec, .slice A l.length c] w (Ret2 w (costR l W es)) := by
  have hl := hb.1
  have hw := refWrong_any A c l W w hs (by omega)
  have Hs := Lib.hid hs
  have He := Lib.hid he
  have Hb := Lib.hid hb
  by_cases hwr : wrongF W l = 0
  · have hF := fit_of hwr hb
    have hW1 := hF.lo
    have hW2 := hF.hi
    have HF := Lib.hid hF
    rw [hwr] at hw
    have Hw := Lib.hid hw
    have Hwr := Lib.hid hwr
    cases hq : endsB (l.length : Int) 0 es with
    | false =>
      have ha : ∀ w', Ext w w' → Calls Try.prog 35 #[.slice E es.length ec, .int .i64 (l.length : Nat)] w' fun e w'' => e = .returned (.bool false) ∧ Ext w' w'' := fun w' hx => by
        have := rises_any E ec es (l.length : Int) w' (he.ext hx) hen
        rwa [hq] at this
      have Ha := Lib.hid ha
      rw [costR_form hwr hq]
      clear hw hs he hb hF hwr hq ha
      go_enter Try.func18, Try.ntmps18
      go_wp2_with fail
      refine (Hw.out).mono ?_
      rintro e w1 ⟨rfl, hx1⟩
      go_wp2_with fail
      refine (Ha.out _ hx1).mono ?_
      rintro e w2 ⟨rfl, hx2⟩
      go_wp2
      go_ret2
      exact ⟨rfl, hx1.trans hx2⟩
    | true =>
      have ha : ∀ w', Ext w w' → Calls Try.prog 35 #[.slice E es.length ec, .int .i64 (l.length : Nat)] w' fun e w'' => e = .returned (.bool true) ∧ Ext w' w'' := fun w' hx => by
        have := rises_any E ec es (l.length : Int) w' (he.ext hx) hen
        rwa [hq] at this
      have Ha := Lib.hid ha
      have Hq := Lib.hid hq
      rw [costR_yes hwr hq]
      clear hw hs he hb hF hwr hq ha
      go_enter Try.func18, Try.ntmps18
      go_wp2_with fail
      refine (Hw.out).mono ?_
      rintro e w1 ⟨rfl, hx1⟩
      go_wp2_with fail
      refine (Ha.out _ hx1).mono ?_
      rintro e w2 ⟨rfl, hx2⟩
      have hx02 := hx1.trans hx2
      clear hx1 hx2
      go_wp2
      go_loopw [9, 10, 11, 12] (fun vs va vk _ wr => ∃ (k a : Nat) (s : Int), k ≤ es.length ∧ a ≤ l.length ∧ 0 ≤ s ∧ s ≤ 40000 * (a : Int) ∧ vk = .int .i64 (k : Nat) ∧ va = .int .i64 (a : Nat) ∧ vs = .int .i64 s ∧ Hid (endsB (l.length : Int) a (es.drop k) = true) ∧ Hid (costF l W 0 es 0 = costF l W a (es.drop k) s) ∧ Ext w wr) (fun _ _ vk _ _ => es.length - (intOf vk).toNat)
      case atStart => exact ⟨0, 0, 0, by omega, by omega, by omega, by omega, rfl, rfl, rfl, Lib.hid Hq.out, Lib.hid rfl, hx02⟩
      case round =>
        obtain ⟨k, a, s, hk, ha, hs0, hs1, rfl, rfl, rfl, HE, HC, hext⟩ := hrel
        by_cases hlt : k < es.length
        · obtain ⟨b, off, rfl, hbl, u0⟩ := intAt (He.out.ext hext) hlt
          have hE := HE.out
          rw [List.drop_eq_getElem_cons hlt] at hE
          obtain ⟨hg1, hg2, hE2⟩ := endsB_step hE
          have hC := HC.out
          rw [costF_drop hlt] at hC
          obtain ⟨g, hg⟩ : ∃ g : Nat, es[k] = (g : Int) := ⟨es[k].toNat, by omega⟩
          rw [hg] at u0 hg1 hg2 hE2 hC
          rw [Int.toNat_natCast] at hC
          have hag : a < g := by omega
          have hgn : g ≤ l.length := by omega
          have hnn := lenF_nonneg hag hgn
          have hp := posF_le Hb.out g hgn
          have hlb : lenF l a g ≤ 301 * (g : Int) := by unfold lenF; omega
          have hlast0 := endsB_last hE2
          have hlast : k + 1 < es.length ↔ g < l.length := by
            rw [List.drop_eq_nil_iff] at hlast0
            omega
          have Hlen : Hid (∀ wz, Ext w wz → Calls Try.prog 31 #[.slice A l.length c, .int .i64 (a : Nat), .int .i64 (g : Nat)] wz fun e w' => e = .returned (.int .i64 (lenF l a g)) ∧ Ext wz w') :=
            Lib.hid fun wz hz => length_any A c l a g 60 wz (Hs.out.ext hz) Hb.out (by omega) (by omega) hgn
          obtain ⟨L, hL⟩ : ∃ L, lenF l a g = L := ⟨_, rfl⟩
          rw [hL] at hnn hC hlb Hlen
          have HC2 := Lib.hid hC
          have HE2 := Lib.hid hE2
          clear hg hE hC hE2 hL hp hlast0
          by_cases hf : L > W
          · have d1 : decide (L > W) = true := decide_eq_true hf
            have Hr := Lib.hid (show costF l W 0 es 0 = none by rw [HC2.out, if_pos (by omega)])
            clear hlast
            go_wp2_with fail
            refine (Hlen.out _ hext).mono ?_
            rintro r w3 ⟨rfl, hx3⟩
            go_wp2
            go_ret2
            exact ⟨ret2 (by rw [Hr.out]; rfl), hext.trans hx3⟩
          · have d1 : decide (L > W) = false := decide_eq_false hf
            have hsq := sq_le (a := W - L) (by omega) (by omega)
            by_cases hgl : g < l.length
            · skip
              have hkl : k + 1 < es.length := by have := hlast; omega
              have d2 : decide ((k : Int) < (es.length : Int) - 1) = true := decide_eq_true (by omega)
              have HN := Lib.hid (show costF l W 0 es 0 = costF l W g (es.drop (k + 1)) (s + (W - L) * (W - L)) by rw [HC2.out, if_neg (by omega), if_pos (by omega)])
              clear hlast
              go_wp2_with fail
              refine (Hlen.out _ hext).mono ?_
              rintro r w3 ⟨rfl, hx3⟩
              have u1 := (hx3.cell (p := ⟨b, off + k, none⟩) hbl).trans u0
              go_wp2
              go_roundw
              case rel => exact ⟨k + 1, g, s + (W - L) * (W - L), by omega, by omega, by omega, by omega, by go_num, rfl, rfl, HE2, HN, hext.trans hx3⟩
              case measure => simp [intOf] <;> omega
            · skip
              have hkl : ¬ k + 1 < es.length := by have := hlast; omega
              have d2 : decide ((k : Int) < (es.length : Int) - 1) = false := decide_eq_false (by omega)
              have HN := Lib.hid (show costF l W 0 es 0 = costF l W g (es.drop (k + 1)) (s) by rw [HC2.out, if_neg (by omega), if_neg (by omega)])
              clear hlast
              go_wp2_with fail
              refine (Hlen.out _ hext).mono ?_
              rintro r w3 ⟨rfl, hx3⟩
              have u1 := (hx3.cell (p := ⟨b, off + k, none⟩) hbl).trans u0
              go_wp2
              go_roundw
              case rel => exact ⟨k + 1, g, s, by omega, by omega, by omega, by omega, by go_num, rfl, rfl, HE2, HN, hext.trans hx3⟩
              case measure => simp [intOf] <;> omega
        · obtain rfl : k = es.length := by omega
          have hC := HC.out
          rw [List.drop_of_length_le (by omega)] at hC
          have HC2 := Lib.hid hC
          clear hC
          go_wp2
          go_ret2
          exact ⟨ret2 (by rw [HC2.out]; rfl), hext⟩
  · obtain ⟨Z, hZ⟩ : ∃ Z, wrongF W l = Z := ⟨_, rfl⟩
    rw [costR_no hwr]
    rw [hZ] at hw hwr ⊢
    have Hw := Lib.hid hw
    have d1 : (Z != 0) = true := by simp [hwr]
    clear hw hZ hwr hs he hb
    go_enter Try.func18, Try.ntmps18
    go_wp2_with fail
    refine (Hw.out).mono ?_
    rintro e w1 ⟨rfl, hx1⟩
    go_wp2
    go_ret2
    exact ⟨rfl, hx1⟩

end Go.Proofs.Ytdglijpooodlnaa
