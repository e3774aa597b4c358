/- The reference's Text: the lines of a table. -/
import Derived.Test.YthjlnpcanccmkaaFmtF9
namespace Go.Proofs.Ythjlnpcanccmkaa
open Go.RowKit

theorem Own.grow {P : Program} {α : Type} {D : El P α} {base B : Nat} {wr wq w2 : World} {v v' : Value} {xs ys : List α} {p : Nat → Bool} (he : Ext wr wq) (hown : Own D base wr v xs) (hp3 : ∀ j, p j = true → j < wr.heap.size)
    (hpo : ∀ g, v.ownBlock = some g → p g = true) (hg2 : wq.grownBy w2 v.ownBlock) (hloc : v'.ownBlock = v.ownBlock ∨ v'.ownBlock = some wq.heap.size) (hown2 : Own D base w2 v' ys) (hB2 : B ≤ base) (hB3 : B ≤ wr.heap.size) :
    ∃ p' : Nat → Bool, (∀ j, p' j = true → j < w2.heap.size) ∧ (∀ g, v'.ownBlock = some g → p' g = true) ∧ CIn (mask p wr) (mask p' w2) ∧ Below B wr w2 := by
  have hsz := he.size
  have hsz2 := hg2.size
  have hnot : ∀ k, k ≠ wq.heap.size → v.ownBlock ≠ some k → v'.ownBlock ≠ some k := by
    intro k h1 h2 h3
    rcases hloc with h | h
    · rw [h] at h3; exact h2 h3
    · rw [h] at h3
      cases h3
      exact h1 rfl
  refine ⟨fun j => p j || decide (v'.ownBlock = some j), fun j hj => ?_, fun g hg => by simp [hg], ?_, ?_⟩
  · simp only [Bool.or_eq_true, decide_eq_true_eq] at hj
    rcases hj with h | h
    · have := hp3 j h; omega
    · have := (hown2.lt j h).2; omega
  · refine CIn.keep (by omega) fun k hk hpk => ?_
    have h2 : v.ownBlock ≠ some k := fun h => by rw [hpo k h] at hpk; cases hpk
    refine ⟨(hg2.block k (by omega) (fun h => h2 h.symm)).trans (he.block hk), ?_⟩
    simp [hpk, hnot k (by omega) h2]
  · refine ⟨hg2.os.trans he.os, hg2.tape.trans he.tape, hg2.output.trans he.output, by omega, fun k hk => ?_⟩
    have h2 : v.ownBlock ≠ some k := fun h => by have := (hown.lt k h).1; omega
    exact (hg2.block k (by omega) (fun h => h2 h.symm)).trans (he.block (by omega))

def strLen : Value → Nat | .string b => b.size | _ => 0
theorem app_spaces0 (c : ByteArray) : c ++ spacesB 0 = c := bytesList_inj (by simp [spacesB, Lib.repeatL, ByteArray.data_append])

set_option maxRecDepth 100000 in
set_option maxHeartbeats 6400000 in
theorem text_any (u : GUnit) (r : RUnit) (w : World) (hr : Reads w u r) (hsm : smallU u) :
    Calls Try.prog 13 #[.agg r.cells.toArray] w (RetOwn strEl w (formatF u)) := by
  have he0 : Ext w (w.alloc (.cells r.cells.toArray 27)) := (Ext.refl _).alloc _
  have he9 : Ext w ((w.alloc (.cells r.cells.toArray 27)).alloc (.cells #[] 9)) := ((Ext.refl _).alloc _).alloc _
  have hsz9 := refSize_any u r _ (Reads.ext he9 _ _ hr) (smallU_lens hsm)
  have hv := fun w' (he : Ext w w') => wide_any u r w' (Reads.ext he _ _ hr) hsm
  have hbu := fun w' he => boxUnit (w' := w') r (w := w) he
  have hmade := Own.made' (base := w.heap.size + 1) (n := w.heap.size + 1) strEl (w := w.alloc (.cells r.cells.toArray 27)) (by simp) (by simp)
  cases hvb : validB u with
  | false =>
    have e1 : formatF u = [] := by simp [formatF, colsF, hvb]
    have e2 : rowsF u = 0 := by simp [rowsF, hvb]
    have e3 : colsF u = 0 := by simp [colsF, hvb]
    rw [e1]
    rw [e2, e3] at hsz9
    simp only [RUnit.cells] at hv hsz9 he0 he9 hbu hmade ⊢
    have Hsz := Lib.hid hsz9
    have Hv := Lib.hid hv
    have Hmade := Lib.hid hmade
    have Hbu := Lib.hid hbu
    clear hv hsz9 hmade hvb e1 e2 e3 hr hbu
    go_enter Try.func13, Try.ntmps13
    go_wp2_with fail
    refine (Hsz.out).mono ?_
    rintro e w2 ⟨rfl, hx2⟩
    obtain ⟨-, u0, u1, u2, u3, u4, u5, u6, u7⟩ := Hbu.out w2 (((Ext.refl _).alloc _).trans hx2)
    go_wp2_with fail
    refine (Hv.out w2 (he9.trans hx2)).mono ?_
    rintro e w3 ⟨v3, rfl, hown3, hx3⟩
    have hx4 := hx2.trans hx3
    have hown0 := (Hmade.out).ext hx4
    go_wp2
    go_loopw [3, 7] (fun out i wr => i = .int .i64 0 ∧ Own strEl (w.heap.size + 1) wr out [] ∧ Ext w wr) (fun _ _ _ => 0)
    case atStart => exact ⟨rfl, hown0, he9.trans hx4⟩
    case round =>
      obtain ⟨rfl, hown, hext⟩ := hrel
      go_wp2
      go_ret
      exact ⟨_, rfl, hown.mono (by omega), hext⟩
  | true =>
    have hz : colsF u ≠ 0 := by
      have := (validB_parts hvb).2.2.1.1
      have h2 : colsF u = ncols u := by simp [colsF, hvb]
      omega
    have hrw : rowsF u = u.kids.length := by simp [rowsF, hvb]
    rw [hrw] at hsz9
    obtain ⟨-, hv2, hv3, hv4⟩ := validB_parts hvb
    have hcn : colsF u = ncols u := by simp [colsF, hvb]
    have e1 : formatF u = u.kids.map (lineF u) := by simp [formatF, hz]
    rw [e1]
    obtain ⟨L, hL⟩ : ∃ L, lineF u = L := ⟨_, rfl⟩
    obtain ⟨PC, hPC⟩ : ∃ PC, padCell u = PC := ⟨_, rfl⟩
    obtain ⟨nc, hnc⟩ : ∃ nc, ncols u = nc := ⟨_, rfl⟩
    have hLine : ∀ row, L row = joinB barB ((List.range nc).map (PC row)) := fun row => by rw [← hL, ← hPC, ← hnc]; rfl
    have hLsz : ∀ i (hi : i < u.kids.length), (L u.kids[i]).size ≤ 30303 * 64 := fun i hi => by rw [← hL]; exact lineF_size hsm.2 hvb hi
    have hPsz : ∀ i (hi : i < u.kids.length) k, k < nc → (PC u.kids[i] k).size ≤ 30300 := fun i hi k hk => by rw [← hPC]; exact padCell_size hsm.2 hvb (by rw [hnc]; exact hk) hi
    obtain ⟨wd, hwd⟩ : ∃ wd : Nat → Nat, (fun k : Nat => widest (columnF u (k : Nat))) = wd := ⟨_, rfl⟩
    have hPe : ∀ row k, PC row k = if k + 1 < nc then padTo (cellText k row) (wd k) else cellText k row := fun row k => by rw [← hPC, ← hnc, ← hwd]; rfl
    have hcw : ∀ i (hi : i < u.kids.length) k, k < nc → (cellText k u.kids[i]).size ≤ wd k := fun i hi k hk => by rw [← hwd]; exact cell_le_wide hvb (by rw [hnc]; exact hk) hi
    have hwdl : ∀ k, k < nc → wd k ≤ 30300 := fun k hk => by rw [← hwd]; exact widest_le (columnF_size hsm.2 _)
    have hwf : widthsF u = (List.range nc).map fun k => ((wd k : Nat) : Int) := by rw [← hwd, ← hnc, ← hcn]; rfl
    rw [hL]
    rw [hwf] at hv
    rw [hnc] at hv3 hv4
    have hsm2 := hsm.2
    obtain ⟨a, i, n, kd, lb, hl, wl, kids⟩ := u
    rw [AllU] at hsm2
    have HSM := Lib.hid hsm2.2
    simp only [GUnit.kids] at hv2 hv4 hLsz hPsz hcw ⊢
    rw [Reads] at hr
    obtain ⟨-, -, -, hkn, hkc, us, hus, hall⟩ := hr
    obtain ⟨ra, ri, rn, rk, rl, hdA, hn, hc, wA, wn, wc, kA, kn, kc⟩ := r
    dsimp only at hkn hkc hus
    have hul := ReadsAll.length hall
    rw [← hul] at hkn hkc hv2
    subst hkn
    simp only [RUnit.cells] at hv hsz9 he0 he9 hbu hmade ⊢
    obtain ⟨WL, hWL⟩ : ∃ WL : List Int, ((List.range nc).map fun k => ((wd k : Nat) : Int)) = WL := ⟨_, rfl⟩
    have hWl : WL.length = nc := by rw [← hWL]; simp
    have hWk : ∀ k (hk : k < WL.length), WL[k] = ((wd k : Nat) : Int) := by
      subst hWL
      intro k hk
      simp
    rw [hWL] at hv
    rw [hcn, hnc] at hsz9
    simp only [GUnit.kids] at hsz9
    have Hsz := Lib.hid hsz9
    have Hv := Lib.hid hv
    have Hall := Lib.hid hall
    have Hul := Lib.hid hul
    have Hv4 := Lib.hid hv4
    have Hbu := Lib.hid hbu
    have HLine := Lib.hid hLine
    have HLsz := Lib.hid hLsz
    have HPsz := Lib.hid hPsz
    have HPe := Lib.hid hPe
    have Hcw := Lib.hid hcw
    have Hwdl := Lib.hid hwdl
    have HWl := Lib.hid hWl
    have HWk := Lib.hid hWk
    have Hmade := Lib.hid hmade
    obtain ⟨hv2a, hv2b⟩ := hv2
    obtain ⟨hv3a, hv3b⟩ := hv3
    obtain ⟨wb, hwb0⟩ : ∃ wb, w.alloc (.cells #[.int .i64 ra, .int .i64 ri, .int .i64 rn, .int .i64 rk, .string rl, .slice hdA hn hc, .slice wA wn wc, .slice kA us.length kc] 27) = wb := ⟨_, rfl⟩
    have hbs : wb.heap.size = w.heap.size + 1 := by rw [← hwb0]; simp
    rw [hwb0] at he0 he9 Hsz Hbu Hmade
    have hwb := he0
    have Hwb := Lib.hid hwb0
    have Hbs := Lib.hid hbs
    clear hwb0 hbs hv hvb e1 hnc hul hall hv4 hsm hsm2 hbu hz hcn hL hPC hLine hLsz hPsz hwd hPe hcw hwdl hwf hWL hWl hWk hsz9 hmade hrw
    go_enter Try.func13, Try.ntmps13
    go_wp2_with fail
    rw [Hwb.out]
    refine (Hsz.out).mono ?_
    rintro e w2 ⟨rfl, hx2⟩
    obtain ⟨-, u0, u1, u2, u3, u4, u5, u6, u7⟩ := Hbu.out w2 (((Ext.refl _).alloc _).trans hx2)
    go_wp2_with fail
    refine (Hv.out w2 (he9.trans hx2)).mono ?_
    rintro e w3 ⟨v3, rfl, hown3, hx3⟩
    have hx4 := hx2.trans hx3
    have hown0 := (Hmade.out).ext hx4
    have hw3b : w.heap.size + 1 < w2.heap.size := by have := hx2.size; simp at this; have := Hbs.out; omega
    obtain ⟨p, hp⟩ : ∃ p : Nat → Bool, p = fun j => decide (j = w.heap.size + 1) := ⟨_, rfl⟩
    obtain ⟨A6, c6, rfl, hc6, -, hs6⟩ := hown3.formMask (p := p) (fun j hj _ => by rw [hp]; simp; omega)
    have Hp3 := Lib.hid (show ∀ j, p j = true → j < w3.heap.size from fun j hj => by rw [hp] at hj; simp at hj; have := hx3.size; omega)
    have Hpo := Lib.hid (show ∀ g, (Value.slice (some ⟨w.heap.size + 1, 0, none⟩) 0 0).ownBlock = some g → p g = true from fun g hg => by cases hg; rw [hp]; simp)
    have hbx4 : Ext wb w3 := ((Ext.refl wb).alloc _).trans hx4
    clear hp hown3 u0 u1 u2 u3 u4 u5 u6 u7
    go_wp2
    go_loopw [3, 7] (fun out i wr => ∃ (k : Nat) (p : Nat → Bool), k ≤ kids.length ∧ i = .int .i64 k ∧ Own strEl (w.heap.size + 1) wr out ((kids.take k).map L) ∧ Hid (∀ j, p j = true → j < wr.heap.size) ∧ Hid (∀ g, out.ownBlock = some g → p g = true) ∧ Sl intEl (mask p wr) A6 WL ∧ Ext wb wr) (fun _ i _ => kids.length - (intOf i).toNat)
    case atStart => exact ⟨0, p, Nat.zero_le _, rfl, hown0, Hp3, Hpo, hs6, hbx4⟩
    case round =>
      obtain ⟨k, p, hk, rfl, hown, Hp3, Hpo, hs6, hext⟩ := hrel
      have hsz := hext.size
      by_cases hlt : k < kids.length
      · have hltu : k < us.length := by rw [Hul.out]; exact hlt
        have hrow := all_get Hv4.out k hlt
        obtain ⟨-, hrl, -⟩ := rowOk_parts hrow
        have hnd := HSM.out.get k hlt
        have husw := (hus.ext hwb).ext hext
        have hrdk := Reads.ext (hwb.trans hext) _ _ (ReadsAll.get Hall.out k hlt hltu)
        have Htk := Lib.hid (map_take_succ L kids k hlt)
        have Hlk := Lib.hid (HLine.out kids[k])
        have HPek := Lib.hid (HPe.out kids[k])
        have Hck := Lib.hid (Hcw.out k hlt)
        have huw := unitAt husw hltu
        have dku : decide ((k : Int) < (us.length : Int)) = true := decide_eq_true (by omega)
        obtain ⟨q, hq⟩ : ∃ q, us[k] = q := ⟨_, rfl⟩
        obtain ⟨v, hv⟩ : ∃ v, kids[k] = v := ⟨_, rfl⟩
        rw [hq] at hrdk huw
        rw [hv] at hrdk hnd hrl Htk Hlk HPek Hck
        clear hq hv hrow
        obtain ⟨b, off, hkA2, hb, u0, u1, u2, u3, u4, u5, u6, u7⟩ := huw
        obtain ⟨va, vi, vn, vk, vl, vh, vw, qks⟩ := v
        rw [Reads] at hrdk
        obtain ⟨-, -, -, hqn, hqc, cs, hcs0, hcall⟩ := hrdk
        rw [AllU] at hnd
        simp only [GUnit.kids] at hrl
        have hcl := ReadsAll.length hcall
        obtain ⟨qa, qi, qn, qk, ql, qhA, qhn, qhc, qwA, qwn, qwc, qkA, qkn, qkc⟩ := q
        dsimp only at hqn hqc hcs0 u0 u1 u2 u3 u4 u5 u6 u7
        rw [← hcl] at hqn hqc hrl
        subst hqn
        have Hnd := Lib.hid hnd.2
        have Hcall := Lib.hid hcall
        have Hcl := Lib.hid hcl
        have Hrl := Lib.hid hrl
        obtain ⟨lk, hlk⟩ : ∃ lk, L (.mk va vi vn vk vl vh vw qks) = lk := ⟨_, rfl⟩
        obtain ⟨pk, hpk⟩ : ∃ pk, PC (.mk va vi vn vk vl vh vw qks) = pk := ⟨_, rfl⟩
        obtain ⟨ck, hck⟩ : ∃ ck : Nat → ByteArray, (fun j => cellText j (.mk va vi vn vk vl vh vw qks)) = ck := ⟨_, rfl⟩
        have hckj : ∀ j, cellText j (.mk va vi vn vk vl vh vw qks) = ck j := fun j => congrFun hck j
        have htext : ∀ j (hj : j < qks.length), ck j = sayF qks[j].words := fun j hj => by
          rw [← hckj]
          unfold cellText
          simp only [GUnit.kids]
          rw [List.getElem?_eq_getElem hj]
        have Htext := Lib.hid htext
        rw [hlk] at Htk Hlk
        rw [hpk] at Hlk HPek
        simp only [hckj] at HPek Hck
        have hc1 : ((kids.take k).map L).length + 1 ≤ 68719476736 := by rw [List.length_map, List.length_take]; omega
        have hs6u := hs6.cin (CIn.unmask _ _)
        have HU7 := Lib.hid (show ∀ w', Ext wr w' → _ from fun w' he => (he.cell (p := ⟨b, off + k * 8 + 7, none⟩) hb).trans u7)
        cases hkA2
        clear hcall hcl hrl hnd htext hlk hpk hck hckj u0 u1 u2 u3 u4 u5 u6 u7
        obtain ⟨wo, hwo⟩ : ∃ wo, wo = wr := ⟨_, rfl⟩
        subst hwo
        go_wp2
        go_loopw [8, 9] (fun sv j wi => ∃ (m : Nat) (s : ByteArray), m ≤ nc ∧ j = .int .i64 m ∧ sv = .string s ∧ Hid (s = joinB barB ((List.range m).map pk)) ∧ s.size ≤ 30303 * m ∧ Ext wo wi) (fun _ j _ => nc - (intOf j).toNat)
        case atStart => exact ⟨0, ⟨#[]⟩, Nat.zero_le _, rfl, rfl, Lib.hid rfl, Nat.le_refl _, Ext.refl _⟩
        case round =>
          obtain ⟨m, s, hm, rfl, rfl, Hs, hss, hexi⟩ := hrel
          have hszi := hexi.size
          by_cases hmt : m < nc
          · have hmc : m < cs.length := by rw [Hrl.out]; exact hmt
            have hmq : m < qks.length := by rw [← Hcl.out]; exact hmc
            have hrc := Reads.ext hexi _ _ (ReadsAll.get Hcall.out m hmq hmc)
            have hnc := Hnd.out.get m hmq
            have hcw := unitAt (hcs0.ext hexi) hmc
            have hckm := Htext.out m hmq
            have hpe := HPek.out m
            have hcsz := Hck.out m hmt
            have hwdm := Hwdl.out m hmt
            have f7 := (Hbu.out _ (hext.trans hexi)).2.2.2.2.2.2.2.2
            have u7 := HU7.out _ hexi
            have hbz : b < wr.heap.size := by omega
            obtain ⟨x, hx⟩ : ∃ x, cs[m] = x := ⟨_, rfl⟩
            obtain ⟨y, hy⟩ : ∃ y, qks[m] = y := ⟨_, rfl⟩
            rw [hx] at hrc hcw
            rw [hy] at hrc hnc hckm
            obtain ⟨b2, off2, hA2, hb2, v0, v1, v2, v3, v4, v5, v6, v7⟩ := hcw
            obtain ⟨hyl, hyt⟩ := nodeOk_words hnc
            have hxw : x.wn = y.words.length ∧ Sl wordEl wr x.wA y.words := by
              obtain ⟨_, _, _, _, _, _, yw, _⟩ := y
              rw [Reads] at hrc
              exact ⟨hrc.2.2.1.1, hrc.2.2.1.2.2⟩
            obtain ⟨hxn, hxs⟩ := hxw
            rw [hxn] at v6
            have Hsay := Lib.hid (show ∀ w', Ext wr w' → _ from fun w' he => say_any x.wA x.wc y.words w' (hxs.ext he) hyl hyt)
            rw [← hckm] at Hsay
            obtain ⟨c0, hc0⟩ : ∃ c0, ck m = c0 := ⟨_, rfl⟩
            rw [hc0] at Hsay hpe hcsz
            have Hpe := Lib.hid hpe
            have Hsz2 := Lib.hid hcsz
            have hmW : m < WL.length := by rw [HWl.out]; exact hmt
            have hWm := HWk.out m hmW
            have dmc : decide ((m : Int) < (cs.length : Int)) = true := decide_eq_true (by omega)
            have hc0b : c0.size ≤ 30300 := by omega
            subst hA2
            clear hx hy hrc hnc hckm hc0 hpe hyl hyt hxn hxs hcsz v0 v1 v2 v3 v4 v5
            by_cases hm0 : m = 0
            · have hs0 : s = ⟨#[]⟩ := by rw [Hs.out, hm0]; rfl
              have Hm0 := Lib.hid hm0
              have hmd : decide ((m : Int) > 0) = false := decide_eq_false (by omega)
              have hnot : ¬ 0 < m := by omega
              subst hs0
              clear hm0 Hs
              go_wp2_with fail
              refine (Hsay.out _ (Ext.refl _)).mono ?_
              rintro e w2 ⟨rfl, hx2⟩
              have hx3 := hexi.trans hx2
              obtain ⟨bw, ow, hA3, hbw, hwc⟩ := intAt (hs6u.ext hx3) hmW
              rw [hWm] at hwc
              have hcell3 := Hsz2.out
              clear v6 v7 u7 hWm
              cases hA3
              by_cases hlast : m + 1 < nc
              · have dl : decide ((m : Int) < (nc : Int) - 1) = true := decide_eq_true (by omega)
                have hp2 : pk m = c0 ++ spacesB (wd m - c0.size) := by rw [Hpe.out, if_pos hlast]; rfl
                have Hp2 := Lib.hid hp2
                have dmW : decide ((m : Int) < (WL.length : Int)) = true := decide_eq_true (by omega)
                clear hp2
                go_wp2
                go_loop [10] (fun c => ∃ d : Nat, d ≤ wd m - c0.size ∧ Hid (c = .string (c0 ++ spacesB d))) (fun c => wd m - strLen c)
                case atStart => exact ⟨0, Nat.zero_le _, Lib.hid (by rw [app_spaces0])⟩
                case round =>
                  obtain ⟨d, hd, Hc⟩ := hrel
                  have hcv := Hc.out
                  obtain ⟨cd, hcd⟩ : ∃ cd, c0 ++ spacesB d = cd := ⟨_, rfl⟩
                  have hcds : cd.size = c0.size + d := by rw [← hcd, size_app, spacesB_size]
                  have Hcd := Lib.hid hcd
                  have Hcds := Lib.hid hcds
                  have hcdb : cd.size ≤ 60600 := by omega
                  rw [hcd] at hcv
                  subst hcv
                  clear hcd hcds Hc
                  by_cases hlt2 : d < wd m - c0.size
                  · have d2 : cd.size < wd m := by have := Hcds.out; omega
                    go_wp2
                    go_round
                    case rel => exact ⟨d + 1, by omega, Lib.hid (by rw [← Hcd.out, spacesB_succ, ← ByteArray.append_assoc]; rfl)⟩
                    case measure =>
                      show wd m - (cd ++ spaceB).size < wd m - cd.size
                      rw [size_app]
                      have h1 := Hcds.out
                      show wd m - (cd.size + 1) < _
                      omega
                  · have d2 : wd m ≤ cd.size := by have := Hcds.out; omega
                    have Hpm := Lib.hid (show cd = pk m by rw [Hp2.out, ← Hcd.out, show d = wd m - c0.size by omega])
                    go_wp2
                    go_roundw
                    case rel => exact ⟨m + 1, _, by omega, by go_num, rfl, Lib.hid (by rw [joinB_range, if_pos Hm0.out]; rw [← Hpm.out]; exact bytesList_inj (by simp [ByteArray.data_append])), by rw [size_app]; first | (have := Hp2.out; have := Hcds.out; show 0 + _ ≤ _; omega) | (show 0 + _ ≤ _; omega), hx3⟩
                    case measure => simp [intOf]; omega
              · have dl : decide ((m : Int) < (nc : Int) - 1) = false := decide_eq_false (by omega)
                have hp2 : pk m = c0 := by rw [Hpe.out, if_neg hlast]
                have Hp2 := Lib.hid hp2
                clear hp2
                go_wp2
                go_loop [10] (fun c => c = .string c0) (fun _ => 0)
                case atStart => exact rfl
                case round =>
                  subst hrel
                  go_wp2
                  go_roundw
                  case rel => exact ⟨m + 1, _, by omega, by go_num, rfl, Lib.hid (by rw [joinB_range, if_pos Hm0.out]; rw [Hp2.out]; exact bytesList_inj (by simp [ByteArray.data_append])), by rw [size_app]; first | (have := Hp2.out; have := Hcds.out; show 0 + _ ≤ _; omega) | (show 0 + _ ≤ _; omega), hx3⟩
                  case measure => simp [intOf]; omega
            · have hm1 : 0 < m := by omega
              have Hm0 := Lib.hid hm0
              have HsO := Lib.hid Hs.out
              clear hm0 Hs
              go_wp2_with fail
              refine (Hsay.out _ (Ext.refl _)).mono ?_
              rintro e w2 ⟨rfl, hx2⟩
              have hx3 := hexi.trans hx2
              obtain ⟨bw, ow, hA3, hbw, hwc⟩ := intAt (hs6u.ext hx3) hmW
              rw [hWm] at hwc
              have hcell3 := Hsz2.out
              clear v6 v7 u7 hWm
              cases hA3
              by_cases hlast : m + 1 < nc
              · have dl : decide ((m : Int) < (nc : Int) - 1) = true := decide_eq_true (by omega)
                have hp2 : pk m = c0 ++ spacesB (wd m - c0.size) := by rw [Hpe.out, if_pos hlast]; rfl
                have Hp2 := Lib.hid hp2
                have dmW : decide ((m : Int) < (WL.length : Int)) = true := decide_eq_true (by omega)
                clear hp2
                go_wp2
                go_loop [10] (fun c => ∃ d : Nat, d ≤ wd m - c0.size ∧ Hid (c = .string (c0 ++ spacesB d))) (fun c => wd m - strLen c)
                case atStart => exact ⟨0, Nat.zero_le _, Lib.hid (by rw [app_spaces0])⟩
                case round =>
                  obtain ⟨d, hd, Hc⟩ := hrel
                  have hcv := Hc.out
                  obtain ⟨cd, hcd⟩ : ∃ cd, c0 ++ spacesB d = cd := ⟨_, rfl⟩
                  have hcds : cd.size = c0.size + d := by rw [← hcd, size_app, spacesB_size]
                  have Hcd := Lib.hid hcd
                  have Hcds := Lib.hid hcds
                  have hcdb : cd.size ≤ 60600 := by omega
                  rw [hcd] at hcv
                  subst hcv
                  clear hcd hcds Hc
                  by_cases hlt2 : d < wd m - c0.size
                  · have d2 : cd.size < wd m := by have := Hcds.out; omega
                    go_wp2
                    go_round
                    case rel => exact ⟨d + 1, by omega, Lib.hid (by rw [← Hcd.out, spacesB_succ, ← ByteArray.append_assoc]; rfl)⟩
                    case measure =>
                      show wd m - (cd ++ spaceB).size < wd m - cd.size
                      rw [size_app]
                      have h1 := Hcds.out
                      show wd m - (cd.size + 1) < _
                      omega
                  · have d2 : wd m ≤ cd.size := by have := Hcds.out; omega
                    have Hpm := Lib.hid (show cd = pk m by rw [Hp2.out, ← Hcd.out, show d = wd m - c0.size by omega])
                    go_wp2
                    go_roundw
                    case rel => exact ⟨m + 1, _, by omega, by go_num, rfl, Lib.hid (by rw [joinB_range, if_neg Hm0.out, ← HsO.out]; rw [← Hpm.out]; rfl), by rw [size_app]; rw [size_app]; first | (have := Hp2.out; have := Hcds.out; show _ + 3 + _ ≤ _; omega) | (show _ + 3 + _ ≤ _; omega), hx3⟩
                    case measure => simp [intOf]; omega
              · have dl : decide ((m : Int) < (nc : Int) - 1) = false := decide_eq_false (by omega)
                have hp2 : pk m = c0 := by rw [Hpe.out, if_neg hlast]
                have Hp2 := Lib.hid hp2
                clear hp2
                go_wp2
                go_loop [10] (fun c => c = .string c0) (fun _ => 0)
                case atStart => exact rfl
                case round =>
                  subst hrel
                  go_wp2
                  go_roundw
                  case rel => exact ⟨m + 1, _, by omega, by go_num, rfl, Lib.hid (by rw [joinB_range, if_neg Hm0.out, ← HsO.out]; rw [Hp2.out]; rfl), by rw [size_app]; rw [size_app]; first | (have := Hp2.out; have := Hcds.out; show _ + 3 + _ ≤ _; omega) | (show _ + 3 + _ ≤ _; omega), hx3⟩
                  case measure => simp [intOf]; omega
          · have hmn : m = nc := by omega
            have hj0 : s = lk := by rw [Hs.out, hmn]; exact Hlk.out.symm
            subst hj0
            have hszi2 := hext.size
            have hbs2 : w.heap.size + 1 ≤ wr.heap.size := by have := Hbs.out; omega
            clear Hs hmn
            go_wp2_with (at_builtin; refine wpList_appAt strEl rfl _ _ rfl 1 rfl (((hown.ext hexi)).ext (Ext.alloc (Ext.refl _) _)) (ys := [s]) rfl (Sl.new strEl rfl) hc1 (by simp; omega) ?_; intro v' w6 hown' hg6 hloc)
            obtain ⟨p', hq1, hq2, hci, hbel⟩ := Own.grow (B := wb.heap.size) (hexi.alloc _) hown Hp3.out Hpo.out hg6 hloc hown' (by rw [Hbs.out]; exact Nat.le_refl _) hszi2
            have Hq1 := Lib.hid hq1
            have Hq2 := Lib.hid hq2
            clear hq1 hq2 hloc hg6
            go_wp2
            go_roundw
            case rel => exact ⟨k + 1, p', by omega, by go_num, by rw [Htk.out]; exact hown', Hq1, Hq2, hs6.cin hci, hext.trans' hbel⟩
            case measure => simp [intOf]; omega
      · obtain rfl : k = kids.length := by omega
        rw [List.take_length] at hown
        go_wp2
        go_ret
        exact ⟨_, rfl, hown.mono (by omega), hwb.trans hext⟩

end Go.Proofs.Ythjlnpcanccmkaa
