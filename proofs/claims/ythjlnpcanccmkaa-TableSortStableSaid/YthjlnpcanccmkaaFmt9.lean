/- Format of package table: one line for each row. -/
import Derived.Test.YthjlnpcanccmkaaFmtF9
namespace Go.Proofs.Ythjlnpcanccmkaa
open Go.RowKit

theorem rep_any (d : Nat) (w : World) (hd : d ≤ 100000) : Calls Try.prog 35 #[.string ⟨#[32]⟩, .int .i64 d] w fun e w' => e = .returned (.string (spacesB d)) ∧ Ext w w' :=
  (Try.strings_Repeat ⟨#[32]⟩ d w (by omega) (by show 1 * d ≤ _; omega)).mono fun e w' ⟨h1, h2⟩ => ⟨h1, h2⟩

set_option maxRecDepth 100000 in
set_option maxHeartbeats 6400000 in
theorem format_any (u : GUnit) (r : RUnit) (w : World) (hr : Reads w u r) (hsm : smallU u) :
    Calls Try.prog 12 #[.agg r.cells.toArray] w (RetOwn strEl w (formatF u)) := by
  have he0 : Ext w (w.alloc (.cells r.cells.toArray 27)) := (Ext.refl _).alloc _
  have hv := widths_any u r _ (Reads.ext he0 _ _ hr) hsm
  have hbu := fun w' he => boxUnit (w' := w') r (w := w) he
  have hwl := widthsF_length u
  by_cases hz : colsF u = 0
  · have e1 : formatF u = [] := by simp [formatF, hz]
    have e2 : widthsF u = [] := by simp [widthsF, hz]
    rw [e1]
    rw [e2] at hv
    simp only [RUnit.cells] at hv he0 hbu ⊢
    have Hv := Lib.hid hv
    clear hv hz e1 e2 hr hwl hbu
    go_enter Try.func12, Try.ntmps12
    go_wp2_with fail
    refine (Hv.out).mono ?_
    rintro e w2 ⟨v2, rfl, hown2, hx2⟩
    obtain ⟨A2, c2, rfl, hc2, hs2⟩ := hown2.form
    simp only [List.length_nil]
    clear hown2
    go_wp2
    go_ret
    exact ⟨_, rfl, Own.nil _, he0.trans hx2⟩
  · have hvb : validB u = true := by
      cases h : validB u with
      | true => rfl
      | false => exact absurd (by simp [colsF, h]) hz
    obtain ⟨-, hv2, hv3, hv4⟩ := validB_parts hvb
    have hcn : colsF u = ncols u := by simp [colsF, hvb]
    have e1 : formatF u = u.kids.map (lineF u) := by simp [formatF, hz]
    rw [e1]
    obtain ⟨L, hL⟩ : ∃ L, lineF u = L := ⟨_, rfl⟩
    obtain ⟨PC, hPC⟩ : ∃ PC, padCell u = PC := ⟨_, rfl⟩
    obtain ⟨nc, hnc⟩ : ∃ nc, ncols u = nc := ⟨_, rfl⟩
    have hLine : ∀ row, L row = joinB barB ((List.range nc).map (PC row)) := fun row => by rw [← hL, ← hPC, ← hnc]; rfl
    have hLsz : ∀ i (hi : i < u.kids.length), (L u.kids[i]).size ≤ 30303 * 64 := fun i hi => by rw [← hL]; exact lineF_size hsm.2 hvb hi
    have hPsz : ∀ i (hi : i < u.kids.length) k, k < nc → (PC u.kids[i] k).size ≤ 30300 := fun i hi k hk => by rw [← hPC]; exact padCell_size hsm.2 hvb (by rw [hnc]; exact hk) hi
    obtain ⟨wd, hwd⟩ : ∃ wd : Nat → Nat, (fun k : Nat => widest (columnF u (k : Nat))) = wd := ⟨_, rfl⟩
    have hPe : ∀ row k, PC row k = if k + 1 < nc then padTo (cellText k row) (wd k) else cellText k row := fun row k => by rw [← hPC, ← hnc, ← hwd]; rfl
    have hcw : ∀ i (hi : i < u.kids.length) k, k < nc → (cellText k u.kids[i]).size ≤ wd k := fun i hi k hk => by rw [← hwd]; exact cell_le_wide hvb (by rw [hnc]; exact hk) hi
    have hwdl : ∀ k, k < nc → wd k ≤ 30300 := fun k hk => by rw [← hwd]; exact widest_le (columnF_size hsm.2 _)
    have hwf : widthsF u = (List.range nc).map fun k => ((wd k : Nat) : Int) := by rw [← hwd, ← hnc, ← hcn]; rfl
    rw [hL]
    rw [hwf] at hv
    rw [hnc] at hv3 hv4
    have hsm2 := hsm.2
    obtain ⟨a, i, n, kd, lb, hl, wl, kids⟩ := u
    rw [AllU] at hsm2
    have HSM := Lib.hid hsm2.2
    simp only [GUnit.kids] at hv2 hv4 hLsz hPsz hcw ⊢
    rw [Reads] at hr
    obtain ⟨-, -, -, hkn, hkc, us, hus, hall⟩ := hr
    obtain ⟨ra, ri, rn, rk, rl, hdA, hn, hc, wA, wn, wc, kA, kn, kc⟩ := r
    dsimp only at hkn hkc hus
    have hul := ReadsAll.length hall
    rw [← hul] at hkn hkc hv2
    subst hkn
    simp only [RUnit.cells] at hv he0 hbu ⊢
    obtain ⟨WL, hWL⟩ : ∃ WL : List Int, ((List.range nc).map fun k => ((wd k : Nat) : Int)) = WL := ⟨_, rfl⟩
    have hWl : WL.length = nc := by rw [← hWL]; simp
    have hWk : ∀ k (hk : k < WL.length), WL[k] = ((wd k : Nat) : Int) := by
      subst hWL
      intro k hk
      simp
    rw [hWL] at hv
    have Hv := Lib.hid hv
    have Hall := Lib.hid hall
    have Hul := Lib.hid hul
    have Hv4 := Lib.hid hv4
    have Hbu := Lib.hid hbu
    have HLine := Lib.hid hLine
    have HLsz := Lib.hid hLsz
    have HPsz := Lib.hid hPsz
    have HPe := Lib.hid hPe
    have Hcw := Lib.hid hcw
    have Hwdl := Lib.hid hwdl
    have HWl := Lib.hid hWl
    have HWk := Lib.hid hWk
    obtain ⟨hv2a, hv2b⟩ := hv2
    obtain ⟨hv3a, hv3b⟩ := hv3
    clear hv hvb e1 hnc hul hall hv4 hsm hsm2 hbu hz hcn hL hPC hLine hLsz hPsz hwd hPe hcw hwdl hwf hWL hWl hWk hwl
    go_enter Try.func12, Try.ntmps12
    go_wp2_with fail
    refine (Hv.out).mono ?_
    rintro e wb ⟨v2, rfl, hown2, hxb⟩
    obtain ⟨A2, c2, rfl, hc2, hs2⟩ := hown2.form
    have hwb : Ext w wb := he0.trans hxb
    have f7 := (Hbu.out wb hxb).2.2.2.2.2.2.2.2
    have husb := hus.ext hwb
    have hWne : ((WL.length : Int) == 0) = false := beq_eq_false_iff_ne.2 (by rw [HWl.out]; omega)
    clear hown2
    go_wp2
    clear f7 hWne
    go_loopw [4, 20] (fun out i wr => ∃ k : Nat, k ≤ us.length ∧ i = .int .i64 k ∧ Own strEl wb.heap.size wr out ((kids.take k).map L) ∧ Ext wb wr) (fun _ i _ => us.length - (intOf i).toNat)
    case atStart => exact ⟨0, Nat.zero_le _, rfl, Own.nil _, Ext.refl _⟩
    case round =>
      obtain ⟨k, hk, rfl, hown, hext⟩ := hrel
      have hsz := hext.size
      by_cases hlt : k < us.length
      · have hltk : k < kids.length := by have := Hul.out; omega
        have hrow := all_get Hv4.out k hltk
        obtain ⟨-, hrl, -⟩ := rowOk_parts hrow
        have hnd := HSM.out.get k hltk
        have husw := husb.ext hext
        have hrdk := Reads.ext (hwb.trans hext) _ _ (ReadsAll.get Hall.out k hltk hlt)
        have Htk := Lib.hid (map_take_succ L kids k hltk)
        have Hlk := Lib.hid (HLine.out kids[k])
        have HLk := Lib.hid (HLsz.out k hltk)
        have HPk := Lib.hid (HPsz.out k hltk)
        have HPek := Lib.hid (HPe.out kids[k])
        have Hck := Lib.hid (Hcw.out k hltk)
        have huw := unitAt husw hlt
        obtain ⟨q, hq⟩ : ∃ q, us[k] = q := ⟨_, rfl⟩
        obtain ⟨v, hv⟩ : ∃ v, kids[k] = v := ⟨_, rfl⟩
        rw [hq] at hrdk huw
        rw [hv] at hrdk hnd hrl Htk Hlk HLk HPk HPek Hck
        clear hq hv hrow
        obtain ⟨b, off, hkA2, hb, u0, u1, u2, u3, u4, u5, u6, u7⟩ := huw
        obtain ⟨va, vi, vn, vk, vl, vh, vw, qks⟩ := v
        rw [Reads] at hrdk
        obtain ⟨-, -, -, hqn, hqc, cs, hcs0, hcall⟩ := hrdk
        rw [AllU] at hnd
        simp only [GUnit.kids] at hrl
        have hcl := ReadsAll.length hcall
        have hbq := fun w' he => boxUnit (w' := w') q (w := wr) he
        obtain ⟨qa, qi, qn, qk, ql, qhA, qhn, qhc, qwA, qwn, qwc, qkA, qkn, qkc⟩ := q
        dsimp only at hqn hqc hcs0 u0 u1 u2 u3 u4 u5 u6 u7
        simp only [RUnit.cells] at hbq
        rw [← hcl] at hqn hqc hrl
        subst hqn
        have Hnd := Lib.hid hnd.2
        have Hcall := Lib.hid hcall
        have Hcl := Lib.hid hcl
        have Hrl := Lib.hid hrl
        have hcs64 : cs.length ≤ 64 := by omega
        obtain ⟨lk, hlk⟩ : ∃ lk, L (.mk va vi vn vk vl vh vw qks) = lk := ⟨_, rfl⟩
        obtain ⟨pk, hpk⟩ : ∃ pk, PC (.mk va vi vn vk vl vh vw qks) = pk := ⟨_, rfl⟩
        obtain ⟨ck, hck⟩ : ∃ ck : Nat → ByteArray, (fun j => cellText j (.mk va vi vn vk vl vh vw qks)) = ck := ⟨_, rfl⟩
        have hckj : ∀ j, cellText j (.mk va vi vn vk vl vh vw qks) = ck j := fun j => congrFun hck j
        have htext : ∀ j (hj : j < qks.length), ck j = sayF qks[j].words := fun j hj => by
          rw [← hckj]
          unfold cellText
          simp only [GUnit.kids]
          rw [List.getElem?_eq_getElem hj]
        have Htext := Lib.hid htext
        rw [hlk] at Htk Hlk HLk
        rw [hpk] at Hlk HPk HPek
        simp only [hckj] at HPek Hck
        have hc1 : ((kids.take k).map L).length + 1 ≤ 68719476736 := by rw [List.length_map, List.length_take]; omega
        cases hkA2
        obtain ⟨wo, hwo⟩ : ∃ wo, wr.alloc (.cells #[.int .i64 qa, .int .i64 qi, .int .i64 qn, .int .i64 qk, .string ql, .slice qhA qhn qhc, .slice qwA qwn qwc, .slice qkA cs.length qkc] 27) = wo := ⟨_, rfl⟩
        have hxo : Ext wr wo := by rw [← hwo]; exact (Ext.refl _).alloc _
        have g7 := (hbq wo (by rw [hwo]; exact Ext.refl _)).2.2.2.2.2.2.2.2
        have Hwo := Lib.hid hwo
        rw [← Hwo.out] at g7
        have hcso := hcs0.ext hxo
        clear hwo hbq hcall hcl hrl hnd hcs0 htext hlk hpk hck hckj
        go_wp2
        rw [Hwo.out]
        clear g7 u0 u1 u2 u3 u4 u5 u6 u7
        go_loopw [7, 27] (fun l j wi => ∃ m : Nat, m ≤ cs.length ∧ j = .int .i64 m ∧ Own strEl wo.heap.size wi l ((List.range m).map pk) ∧ Ext wo wi) (fun _ j _ => cs.length - (intOf j).toNat)
        case atStart => exact ⟨0, Nat.zero_le _, rfl, Own.nil _, Ext.refl _⟩
        case round =>
          obtain ⟨m, hm, rfl, hownl, hexi⟩ := hrel
          have hszi := hexi.size
          by_cases hmt : m < cs.length
          · have hmq : m < qks.length := by rw [← Hcl.out]; exact hmt
            have hmn : m < nc := by rw [← Hrl.out]; exact hmt
            have hrc := Reads.ext (hxo.trans hexi) _ _ (ReadsAll.get Hcall.out m hmq hmt)
            have hnc := Hnd.out.get m hmq
            have hcw := unitAt (hcso.ext hexi) hmt
            have hckm := Htext.out m hmq
            have hpe := HPek.out m
            have hcsz := Hck.out m hmn
            have hwdm := Hwdl.out m hmn
            obtain ⟨x, hx⟩ : ∃ x, cs[m] = x := ⟨_, rfl⟩
            obtain ⟨y, hy⟩ : ∃ y, qks[m] = y := ⟨_, rfl⟩
            rw [hx] at hrc hcw
            rw [hy] at hrc hnc hckm
            obtain ⟨b2, off2, hA2, hb2, v0, v1, v2, v3, v4, v5, v6, v7⟩ := hcw
            obtain ⟨hyl, hyt⟩ := nodeOk_words hnc
            have Hsay := Lib.hid (show ∀ w', Ext wr w' → _ from fun w' he => says_any y x w' (Reads.ext he _ _ hrc) hyl hyt)
            rw [← hckm] at Hsay
            obtain ⟨s, hs⟩ : ∃ s, ck m = s := ⟨_, rfl⟩
            rw [hs] at Hsay hpe hcsz
            obtain ⟨d, hd⟩ : ∃ d, wd m - s.size = d := ⟨_, rfl⟩
            have hde : ((wd m : Nat) : Int) - (s.size : Int) = (d : Int) := by omega
            have hsp : (spacesB d).size ≤ 30300 := by rw [spacesB_size]; omega
            have hss : s.size ≤ 30300 := by omega
            have hd2 : d ≤ 100000 := by omega
            have Hpe := Lib.hid hpe
            have hmW : m < WL.length := by rw [HWl.out]; exact hmn
            have hWm := HWk.out m hmW
            have hc2 : ((List.range m).map pk).length + 1 ≤ 68719476736 := by rw [List.length_map, List.length_range]; omega
            have hHd := Lib.hid hd
            have hWn : WL.length = nc := HWl.out
            have HWn := Lib.hid hWn
            have hWL1 : WL.length ≤ 64 := by omega
            subst hA2
            clear hx hy hrc hnc hckm hs hpe hyl hyt hd hcsz hWn
            by_cases hlast : m + 1 < nc
            · have dl : decide ((m : Int) < (WL.length : Int) - 1) = true := decide_eq_true (by have := HWn.out; omega)
              have hp2 : pk m = s ++ spacesB d := by rw [Hpe.out, if_pos hlast]; unfold padTo; rw [hHd.out]
              have Hp2 := Lib.hid hp2
              clear hp2 hlast
              have hWlt : decide ((m : Int) < (WL.length : Int)) = true := decide_eq_true (by omega)
              obtain ⟨wn2, hwn⟩ : ∃ wn2, wr.alloc (.cells x.cells.toArray 27) = wn2 := ⟨_, rfl⟩
              have hxn : Ext wr wn2 := by rw [← hwn]; exact (Ext.refl _).alloc _
              have Hsay2 := Lib.hid (Hsay.out wn2 hxn)
              simp only [RUnit.cells] at hwn Hsay2
              have Hwn := Lib.hid hwn
              clear hwn
              go_wp2_with fail
              rw [Hwn.out]
              refine (Hsay2.out).mono ?_
              rintro e w2 ⟨rfl, hx2⟩
              have hx3 := hxn.trans hx2
              obtain ⟨bw, ow, hA3, hbw, hwc⟩ := intAt (hs2.ext (hext.trans (hxo.trans (hexi.trans hx3)))) hmW
              rw [hWm] at hwc
              clear v0 v1 v2 v3 v4 v5 v6 v7 hWm
              cases hA3
              go_wp2_with fail
              refine (rep_any d _ hd2).mono ?_
              rintro e w3 ⟨rfl, hx4⟩
              have hx5 := hx3.trans hx4
              have hsz5 := hx5.size
              clear hwc hde
              go_wp2_with (at_builtin; refine wpList_app strEl rfl _ _ rfl 1 rfl ((hownl.ext hx5).ext (Ext.alloc (Ext.refl _) _)) (ys := [s ++ spacesB d]) rfl (Sl.new strEl rfl) hc2 (by simp; omega) ?_; intro v' w6 hown' hb6 hg6)
              have hx6 : Ext wo w6 := ((hexi.trans hx5).alloc _).trans' hb6
              go_wp2
              go_roundw
              case rel => exact ⟨m + 1, by omega, by go_num, by rw [range_map_succ, Hp2.out]; exact hown', hx6⟩
              case measure => simp [intOf]; omega
            · have dl : decide ((m : Int) < (WL.length : Int) - 1) = false := decide_eq_false (by have := HWn.out; omega)
              have hp2 : pk m = s := by rw [Hpe.out, if_neg hlast]
              have Hp2 := Lib.hid hp2
              clear hp2 hlast
              obtain ⟨wn2, hwn⟩ : ∃ wn2, wr.alloc (.cells x.cells.toArray 27) = wn2 := ⟨_, rfl⟩
              have hxn : Ext wr wn2 := by rw [← hwn]; exact (Ext.refl _).alloc _
              have Hsay2 := Lib.hid (Hsay.out wn2 hxn)
              simp only [RUnit.cells] at hwn Hsay2
              have Hwn := Lib.hid hwn
              clear hwn
              go_wp2_with fail
              rw [Hwn.out]
              refine (Hsay2.out).mono ?_
              rintro e w2 ⟨rfl, hx2⟩
              have hx5 := hxn.trans hx2
              have hsz5 := hx5.size
              clear v0 v1 v2 v3 v4 v5 v6 v7 hWm hde
              go_wp2_with (at_builtin; refine wpList_app strEl rfl _ _ rfl 1 rfl ((hownl.ext hx5).ext (Ext.alloc (Ext.refl _) _)) (ys := [s]) rfl (Sl.new strEl rfl) hc2 (by simp; omega) ?_; intro v' w6 hown' hb6 hg6)
              have hx6 : Ext wo w6 := ((hexi.trans hx5).alloc _).trans' hb6
              go_wp2
              go_roundw
              case rel => exact ⟨m + 1, by omega, by go_num, by rw [range_map_succ, Hp2.out]; exact hown', hx6⟩
              case measure => simp [intOf]; omega
          · have hmn : m = nc := by rw [← Hrl.out, ← Hcl.out] at *; omega
            have hml : ((List.range m).map pk).length = m := by simp
            obtain ⟨Ac, cc, rfl, hcc, hsc⟩ := hownl.form
            obtain ⟨TL, hTL⟩ : ∃ TL, (List.range m).map pk = TL := ⟨_, rfl⟩
            rw [hTL] at hcc hsc hml ⊢
            have hj0 : joinB barB TL = lk := by rw [← hTL, hmn]; exact Hlk.out.symm
            have hj := join_any Ac cc TL barB wr hsc hcc (by omega) (by rw [hj0]; have := HLk.out; omega)
            rw [hj0] at hj
            have Hj := Lib.hid hj
            clear hj hj0 hTL hml hmn hownl
            go_wp2_with fail
            refine (Hj.out).mono ?_
            rintro e w2 ⟨rfl, hx2⟩
            have hx5 := hxo.trans (hexi.trans hx2)
            have hsz5 := hx5.size
            go_wp2_with (at_builtin; refine wpList_app strEl rfl _ _ rfl 1 rfl ((hown.ext hx5).ext (Ext.alloc (Ext.refl _) _)) (ys := [lk]) rfl (Sl.new strEl rfl) hc1 (by simp; omega) ?_; intro v' w6 hown' hb6 hg6)
            have hx6 : Ext wb w6 := ((hext.trans hx5).alloc _).trans' hb6
            go_wp2
            go_roundw
            case rel => exact ⟨k + 1, by omega, by go_num, by rw [Htk.out]; exact hown', hx6⟩
            case measure => simp [intOf]; omega
      · obtain rfl : k = us.length := by omega
        rw [Hul.out, List.take_length] at hown
        go_wp2
        go_ret
        exact ⟨_, rfl, hown.mono hwb.size, hwb.trans hext⟩

end Go.Proofs.Ythjlnpcanccmkaa
