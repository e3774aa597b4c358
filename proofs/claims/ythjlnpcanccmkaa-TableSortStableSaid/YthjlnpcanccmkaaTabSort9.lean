/- The law on sorting. -/
import Derived.Test.YthjlnpcanccmkaaAwake9
import Derived.Test.YthjlnpcanccmkaaTabVal9
import Derived.Test.YthjlnpcanccmkaaSortL9
import Derived.Test.YthjlnpcanccmkaaRefSort9
namespace Go.Proofs.Ythjlnpcanccmkaa
open Go.RowKit

theorem kids_of {w : World} {u : GUnit} {r : RUnit} (h : Reads w u r) : ∃ rs, r.kn = rs.length ∧ rs.length = u.kids.length ∧ Sl unitEl w r.kA rs ∧ ReadsAll w u.kids rs := by
  obtain ⟨a, i, n, kd, lb, hd, wd, kids⟩ := u
  rw [Reads] at h
  obtain ⟨-, -, -, hkn, -, rs, hrs, hall⟩ := h
  have hl := ReadsAll.length hall
  exact ⟨rs, by omega, hl, hrs, hall⟩
theorem zero_lens9 : AllU (lensLe 9223372036854775807 9223372036854775807) zeroU := by
  unfold zeroU
  rw [AllU, AllUs]
  exact ⟨⟨by simp, by simp, by simp⟩, trivial⟩
/-- a unit that reads as the tree -/
def TRead (u : GUnit) : Ty := ⟨fun v w => ∃ r : RUnit, v = .agg r.cells.toArray ∧ Reads w u r, fun _ _ _ he ⟨r, h1, h2⟩ => ⟨r, h1, Reads.ext he _ _ h2⟩⟩

set_option maxRecDepth 100000 in
set_option maxHeartbeats 6400000 in
theorem tableSort_law (u : GUnit) (r : RUnit) (col : Int) (w : World) (hr : Reads w u r) (hbig : AllU (lensLe 9223372036854775807 9223372036854775807) u) :
    Calls Try.prog 7 #[.agg r.cells.toArray, .int .i64 col] w fun e w' => e = .returned (.bool true) ∧ Ext w w' := by
  have hx0 : Ext w (w.alloc (.cells r.cells.toArray 27)) := (Ext.refl w).alloc _
  have Hbu := Lib.hid (show ∀ w', Ext (w.alloc (.cells r.cells.toArray 27)) w' → _ from fun w' he => boxUnit (w' := w') r (w := w) he)
  have Hbt := Lib.hid (show ∀ w', Ext (w.alloc (.cells r.cells.toArray 27)) w' → _ from fun w' he => boxT (w' := w') r (w := w) he)
  have Hbigc := Lib.hid (show ∀ w', Ext w w' → _ from fun w' he => big_any u r w' (Reads.ext he _ _ hr) hbig)
  have Hru := Lib.hid (show ∀ w', Ext w w' → _ from fun w' he => Reads.ext he _ _ hr)
  obtain ⟨wz, hwz⟩ : ∃ wz, w.alloc (.cells r.cells.toArray 27) = wz := ⟨_, rfl⟩
  rw [hwz] at hx0 Hbu Hbt
  simp only [RUnit.cells] at hwz
  have Hwz := Lib.hid hwz
  simp only [RUnit.cells] at Hbigc Hbt ⊢
  clear hwz hbig hr
  go_enter Try.func7, Try.ntmps7
  go_wp2_with fail
  rw [Hwz.out]
  refine (awake9_any _).mono ?_
  rintro e w1 ⟨rfl, hx1⟩
  obtain ⟨-, u0, u1, u2, u3, u4, u5, u6, u7⟩ := Hbu.out w1 hx1
  go_wp2_with fail
  refine (Hbigc.out w1 (hx0.trans hx1)).mono ?_
  rintro e w2 ⟨b, rfl, hb, hx2⟩
  have hxz : Ext wz w2 := hx1.trans hx2
  have hw0 : Ext w w2 := hx0.trans hxz
  clear u0 u1 u2 u3 u4 u5 u6 u7 Hbigc hx0 hx1 hx2
  cases b
  case true =>
    clear hb
    go_wp2
    go_ret
    exact ⟨rfl, hw0⟩
  case false =>
    have hsm := hb rfl
    clear hb
    have Hb := Lib.hid (show ∀ w', Ext w2 w' → _ from fun w' he => Hbt.out w' (hxz.trans he))
    have Hbq := Lib.hid (show ∀ w', Ext w2 w' → _ from fun w' he => Hbu.out w' (hxz.trans he))
    have Hr := Lib.hid (show ∀ w', Ext w2 w' → Reads w' u r from fun w' he => Hru.out w' (hw0.trans he))
    clear Hbt Hbu Hru
    have hH := fun w' he => has_any u r 0 col w' (Hr.out w' he) (smallU_lens hsm)
    have hS := fun w' he => sortBy_any u r col w' (Hr.out w' he) hsm
    obtain ⟨TB, hTB⟩ : ∃ TB, thereB u 0 col = TB := ⟨_, rfl⟩
    rw [hTB] at hH hS
    have HTB := Lib.hid hTB
    have Hh := Lib.hid (show ∀ w', Ext w2 w' → _ from hH)
    have Hs := Lib.hid (show ∀ w', Ext w2 w' → _ from hS)
    have Hsm := Lib.hid hsm
    simp only [RUnit.cells] at Hh Hs
    clear hTB hH hS hsm
    obtain ⟨-, u0, u1, u2, u3, u4, u5, u6, u7⟩ := Hbq.out w2 (Ext.refl w2)
    go_wp2_with fail
    refine (Hs.out w2 (Ext.refl _)).mono ?_
    rintro e w3 ⟨r', rfl, hx3, hr'⟩
    have Hr' := Lib.hid (show ∀ w', Ext w3 w' → Reads w' (sortF u col) r' from fun w' he => Reads.ext he _ _ hr')
    have Hbu' := Lib.hid (show ∀ w', Ext (w3.alloc (.cells r'.cells.toArray 27)) w' → _ from fun w' he => boxUnit (w' := w') r' (w := w3) he)
    have Hbt' := Lib.hid (show ∀ w', Ext (w3.alloc (.cells r'.cells.toArray 27)) w' → _ from fun w' he => boxT (w' := w') r' (w := w3) he)
    clear hr'
    simp only [RUnit.cells] at Hbu' Hbt' ⊢
    clear u0 u1 u2 u3 u4 u5 u6 u7
    have hx34 : Ext w3 (w3.alloc (.cells #[.int .i64 r'.a, .int .i64 r'.i, .int .i64 r'.n, .int .i64 r'.kind, .string r'.label, .slice r'.hA r'.hn r'.hc, .slice r'.wA r'.wn r'.wc, .slice r'.kA r'.kn r'.kc] 27)) := (Ext.refl _).alloc _
    obtain ⟨-, u0, u1, u2, u3, u4, u5, u6, u7⟩ := Hbq.out _ (hx3.trans hx34)
    go_wp2_with fail
    obtain ⟨w4, hw4⟩ : ∃ w4, w3.alloc (.cells #[.int .i64 r'.a, .int .i64 r'.i, .int .i64 r'.n, .int .i64 r'.kind, .string r'.label, .slice r'.hA r'.hn r'.hc, .slice r'.wA r'.wn r'.wc, .slice r'.kA r'.kn r'.kc] 27) = w4 := ⟨_, rfl⟩
    rw [hw4] at hx34 Hbu' Hbt' ⊢
    have hx24 := hx3.trans hx34
    clear u0 u1 u2 u3 u4 u5 u6 u7 hw4
    refine (Hh.out w4 hx24).mono ?_
    rintro e w5 ⟨rfl, hx5⟩
    have hx25 := hx24.trans hx5
    obtain ⟨-, b0, b1, b2, b3, b4, b5, b6, b7⟩ := Hbu'.out w5 hx5
    have nb := fun w => run_neq_bool TB w
    cases TB
    case false =>
      have hz : sortF u col = zeroU := by unfold sortF; rw [HTB.out]; rfl
      rw [hz] at Hr'
      clear hz
      go_wp2_with fail
      refine (same9_eq _ zeroU r' unit0 _ (Nat.le_refl _) (Hr'.out _ (hx34.trans hx5)) (zero_reads _) zero_lens9).mono ?_
      rintro e w9 ⟨rfl, hx9⟩
      go_wp2
      go_ret
      exact ⟨rfl, hw0.trans (hx25.trans hx9)⟩
    case true =>
      obtain ⟨hvb, -, -, hc0, -⟩ := there_parts2 HTB.out
      obtain ⟨j, rfl⟩ : ∃ j : Nat, col = j := ⟨col.toNat, by omega⟩
      have hVe : sortF u (j : Nat) = sortU j u := by unfold sortF; rw [HTB.out, if_pos rfl]; simp
      have hsV := sort_small (j := j) Hsm.out
      have htV : thereB (sortU j u) 0 (j : Nat) = true := by rw [sort_there hvb]; exact HTB.out
      have hagain : sortF (sortU j u) (j : Nat) = sortU j u := by unfold sortF; rw [htV, if_pos rfl]; simp [sort_again]
      have hcolS := col_step (l := u.kids) (col_sorted HTB.out)
      have hcnt := fun f => sort_count f j u.kids
      have hVk : (sortU j u).kids = sortL (ltG j) u.kids := (sortU_kids j u).1
      have hrs := fun w' he => refSort_any u r j w' (Hr.out w' he) Hsm.out HTB.out
      obtain ⟨rs, hkn, hrl, hrsl, hrall⟩ := kids_of (Hr.out w2 (Ext.refl _))
      obtain ⟨-, hv2, -, -⟩ := validB_parts hvb
      rw [hVe] at Hr'
      have hlens := smallU_lens Hsm.out
      have hlensV := smallU_lens hsV
      obtain ⟨vs, hvn, hvl, hvsl, hvall⟩ := kids_of (Hr'.out w3 (Ext.refl _))
      rw [hVk] at hvall hvl
      have hvl2 : vs.length = rs.length := by rw [hvl, hrl]; exact (sort_perm j u.kids).length_eq.symm
      obtain ⟨VK, hVK⟩ : ∃ VK, sortL (ltG j) u.kids = VK := ⟨_, rfl⟩
      obtain ⟨KD, hKD⟩ : ∃ KD, u.kids = KD := ⟨_, rfl⟩
      have hlK : AllUs (lensLe 9223372036854775807 9223372036854775807) KD := by rw [← hKD]; obtain ⟨_, _, _, _, _, _, _, _⟩ := u; rw [AllU] at hlens; exact hlens.2
      have hlV : AllUs (lensLe 9223372036854775807 9223372036854775807) VK := by rw [← hVK]; exact allUs_iff.2 fun x hx => allUs_iff.1 (by rw [hKD]; exact hlK) x ((sort_perm j u.kids).mem_iff.2 hx)
      have hcol := fun w' (he : Ext w3 w') => column_any (sortU j u) r' (j : Nat) w' (Hr'.out w' he) hsV
      have hs2 := fun w' (he : Ext w3 w') => sortBy_any (sortU j u) r' (j : Nat) w' (Hr'.out w' he) hsV
      rw [hagain, htV] at hs2
      obtain ⟨L, hL⟩ : ∃ L, columnF (sortU j u) (j : Nat) = L := ⟨_, rfl⟩
      have hLl : L.length = rs.length := by
        rw [← hL, col_sorted HTB.out, List.length_map]
        rw [← hvl, hvl2]
      rw [hL] at hcol hcolS
      rw [hVK] at hvl hvall hcnt
      rw [hKD] at hrl hrall hcnt hv2
      obtain ⟨V, hV⟩ : ∃ V, sortU j u = V := ⟨_, rfl⟩
      rw [hV] at Hr' hs2 hrs hlensV
      have Hcol := Lib.hid hcol
      have Hs2 := Lib.hid hs2
      have Hrs0 := Lib.hid (show ∀ w', Ext w2 w' → _ from hrs)
      have HcolS := Lib.hid hcolS
      have Hcnt := Lib.hid hcnt
      have HVl := Lib.hid hlensV
      have HlK := Lib.hid hlK
      have HlV := Lib.hid hlV
      have Hkn := Lib.hid hkn
      have Hvn := Lib.hid hvn
      have Hrl := Lib.hid hrl
      have Hvl := Lib.hid hvl
      have Hrall := Lib.hid hrall
      have Hvall := Lib.hid hvall
      have HLl := Lib.hid hLl
      have hlim : rs.length ≤ 64 := by omega
      have hvlim : vs.length = rs.length := hvl2
      have Hvl2 := Lib.hid hvl2
      simp only [RUnit.cells] at Hcol Hs2 Hrs0
      clear hvb hc0 hVe hsV htV hagain hcolS hcnt hVk hrs hkn hrl hrall hv2 hlens hlensV hvn hvl hvall hvl2 hVK hKD hlK hlV hcol hs2 hL hLl hV hvlim
      go_wp2_with fail
      refine (Hcol.out w5 (hx34.trans hx5)).mono ?_
      rintro e w6 ⟨v6, rfl, hown6, hx6⟩
      obtain ⟨A6, c6, rfl, hc6, hs6⟩ := hown6.form
      clear hown6 b0 b1 b2 b3 b4 b5 b6 b7 nb
      have hx46 := hx5.trans hx6
      have hlL : L.length ≤ 64 := by have := HLl.out; omega
      go_wp2
      go_loopw [8] (fun vi wr => ∃ ii : Nat, 1 ≤ ii ∧ (ii ≤ L.length ∨ ii = 1) ∧ vi = .int .i64 (ii : Nat) ∧ Ext w6 wr) (fun vi _ => L.length - (intOf vi).toNat)
      case atStart => exact ⟨1, Nat.le_refl _, .inr rfl, rfl, Ext.refl _⟩
      case round =>
        obtain ⟨ii, hi1, hi2, rfl, hext⟩ := hrel
        by_cases hlt : ii < L.length
        · have d1 : decide ((ii : Int) < (L.length : Int)) = true := decide_eq_true (by omega)
          obtain ⟨x, y, hx0, hy0, hxy⟩ := HcolS.out ii (by omega) hlt
          have Hx0 := Lib.hid hx0
          have Hy0 := Lib.hid hy0
          have Hxy := Lib.hid hxy
          have Hsl := Lib.hid (show ∀ w', Ext wr w' → Sl strEl w' A6 L from fun w' he => hs6.ext (hext.trans he))
          clear hx0 hy0 hxy
          go_wp2_with fail
          refine wp_drawn (by kernel_rfl) (fun i => match i with | 0 => Ty.is (.slice A6 L.length c6) | 1 => Ty.is (.int .i64 (ii : Nat)) | 2 => Ty.is (.int .i64 ((ii - 1 : Nat) : Int)) | 3 => TCells [.string x] | 4 => Ty.is (.string x) | 5 => Ty.is (.slice A6 L.length c6) | 6 => Ty.is (.int .i64 (ii : Nat)) | 7 => TCells [.string y] | 8 => Ty.is (.string y) | 9 => Ty.is (.bool false) | _ => Ty.any) (by kernel_rfl) rfl ?_
          intro v
          refine ⟨?_, ?_, ?_, ?_, ?_, ?_, ?_, ?_, ?_, ?_, ?_⟩
          · intro wq hq hd
            refine ob_plain rfl ?_
            exact yld_move (.tmp 7) rfl rfl rfl
          · intro wq hq hd
            refine ob_plain rfl ?_
            exact yld_move (.tmp 8) rfl rfl rfl
          · intro wq hq hd
            obtain ⟨h0, -⟩ := hd
            change v 1 = _ at h0
            refine ob_plain rfl ?_
            exact yld_binInt .sub 3 3 (.tmp 44) _ rfl _ _ h0 rfl (bin_sub _ _ _ _ (by omega) (by omega) (by omega)) rfl
          · intro wq hq hd
            obtain ⟨h0, h1, -⟩ := hd
            change v 0 = _ at h0
            change v 2 = _ at h1
            refine ob_plain rfl ?_
            exact yld_indexAt strEl (.tmp 43) (.tmp 45) rfl _ L c6 h0 (ii - 1) h1 (Hsl.out wq hq) x Hx0.out
          · intro wq hq hd
            obtain ⟨h0, -⟩ := hd
            change (TCells [.string x]).p (v 3) wq at h0
            refine ob_plain rfl ?_
            exact yld_loadOne 9 (.tmp 46) rfl Try.isAgg9 (c := .string x) h0 rfl
          · intro wq hq hd
            refine ob_plain rfl ?_
            exact yld_move (.tmp 7) rfl rfl rfl
          · intro wq hq hd
            refine ob_plain rfl ?_
            exact yld_move (.tmp 8) rfl rfl rfl
          · intro wq hq hd
            obtain ⟨h0, h1, -⟩ := hd
            change v 5 = _ at h0
            change v 6 = _ at h1
            refine ob_plain rfl ?_
            exact yld_indexAt strEl (.tmp 48) (.tmp 49) rfl _ L c6 h0 ii h1 (Hsl.out wq hq) y Hy0.out
          · intro wq hq hd
            obtain ⟨h0, -⟩ := hd
            change (TCells [.string y]).p (v 7) wq at h0
            refine ob_plain rfl ?_
            exact yld_loadOne 9 (.tmp 50) rfl Try.isAgg9 (c := .string y) h0 rfl
          · intro wq hq hd
            obtain ⟨h0, h1, -⟩ := hd
            change v 4 = _ at h0
            change v 8 = _ at h1
            refine ob_plain rfl ?_
            exact yld_binStr .gtr 9 9 (.tmp 47) (.tmp 51) rfl _ _ h0 h1 (fun w => by rw [run_gtr_str, Hxy.out]) rfl
          · intro wq hq hT
            have k9 := hT 9 (by decide)
            change v 9 = _ at k9
            clear hT
            simp only [List.drop_succ_cons, List.drop_zero, putE, setsE, List.set_cons_succ, List.set_cons_zero, Nat.reduceAdd]
            rw [k9]
            go_wp2
            go_roundw
            case rel => exact ⟨ii + 1, by omega, .inl (by omega), by go_num, hext.trans hq⟩
            case measure => simp [intOf]; omega
        · have d1 : decide ((ii : Int) < (L.length : Int)) = false := decide_eq_false (by omega)
          have hx4r := hx46.trans hext
          obtain ⟨-, b0, b1, b2, b3, b4, b5, b6, b7⟩ := Hbu'.out wr hx4r
          go_wp2_with fail
          refine (Hs2.out wr (hx34.trans hx4r)).mono ?_
          rintro e w7 ⟨rr, rfl, hx7, hrr⟩
          have HrV9a := Lib.hid (show ∀ w', Ext w7 w' → Reads w' V rr from fun w' he => Reads.ext he _ _ hrr)
          have Hbt9a := Lib.hid (show ∀ w', Ext (w7.alloc (.cells rr.cells.toArray 27)) w' → _ from fun w' he => boxT (w' := w') rr (w := w7) he)
          clear hrr
          simp only [RUnit.cells] at Hbt9a ⊢
          clear b0 b1 b2 b3 b4 b5 b6 b7
          have hx78 : Ext w7 (w7.alloc (.cells #[.int .i64 rr.a, .int .i64 rr.i, .int .i64 rr.n, .int .i64 rr.kind, .string rr.label, .slice rr.hA rr.hn rr.hc, .slice rr.wA rr.wn rr.wc, .slice rr.kA rr.kn rr.kc] 27)) := (Ext.refl _).alloc _
          have hx48 := (hx4r.trans hx7).trans hx78
          have hx28 := hx24.trans hx48
          have f7 := (Hbq.out _ hx28).2.2.2.2.2.2.2.2
          rw [Hkn.out] at f7
          obtain ⟨w8, hw8⟩ : ∃ w8, w7.alloc (.cells #[.int .i64 rr.a, .int .i64 rr.i, .int .i64 rr.n, .int .i64 rr.kind, .string rr.label, .slice rr.hA rr.hn rr.hc, .slice rr.wA rr.wn rr.wc, .slice rr.kA rr.kn rr.kc] 27) = w8 := ⟨_, rfl⟩
          have Hw8 := Lib.hid hw8
          rw [hw8] at hx78 Hbt9a hx48 hx28 f7
          clear hw8
          have Hb7 := Lib.hid (show ∀ w', Ext w8 w' → w'.cell? ⟨w.heap.size, 7, none⟩ = some (.slice r.kA rs.length r.kc) from fun w' he => by
            have := (Hbq.out w' (hx28.trans he)).2.2.2.2.2.2.2.2
            rwa [Hkn.out] at this)
          clear f7
          go_wp2_with (rw [Hw8.out])
          go_loopw [11] (fun vi wr => ∃ ii : Nat, ii ≤ rs.length ∧ vi = .int .i64 (ii : Nat) ∧ Ext w8 wr) (fun vi _ => rs.length - (intOf vi).toNat)
          case atStart => exact ⟨0, Nat.zero_le _, rfl, Ext.refl _⟩
          case round =>
            obtain ⟨ii, hi, rfl, hexo⟩ := hrel
            have f7 := Hb7.out wr hexo
            obtain ⟨wo, rfl⟩ : ∃ wo, wo = wr := ⟨_, rfl⟩
            by_cases hlti : ii < rs.length
            · have d1 : decide ((ii : Int) < (rs.length : Int)) = true := decide_eq_true (by omega)
              have hiK : ii < KD.length := by have := Hrl.out; omega
              go_wp2
              clear f7
              go_loopw [12, 13] (fun vn vk wr => ∃ (k : Nat) (z : Int), k ≤ rs.length ∧ -(k : Int) ≤ z ∧ z ≤ (k : Int) ∧ vk = .int .i64 (k : Nat) ∧ vn = .int .i64 z ∧ Hid (z = (((KD.take k).countP (fun x => sameG x KD[ii]) : Nat) : Int) - (((VK.take k).countP (fun x => sameG x KD[ii]) : Nat) : Int)) ∧ Ext wo wr) (fun _ vk _ => rs.length - (intOf vk).toNat)
              case atStart => exact ⟨0, 0, Nat.zero_le _, by omega, by omega, rfl, rfl, Lib.hid (by simp), Ext.refl _⟩
              case round =>
                obtain ⟨k, z, hk, hz1, hz2, rfl, rfl, Hz, hext⟩ := hrel
                have f7 := Hb7.out wr (hexo.trans hext)
                by_cases hltk : k < rs.length
                · have d2 : decide ((k : Int) < (rs.length : Int)) = true := decide_eq_true (by omega)
                  have hkK : k < KD.length := by have := Hrl.out; omega
                  have hkV : k < VK.length := by have := Hvl.out; have := Hvl2.out; omega
                  have hkvs : k < vs.length := by have := Hvl2.out; omega
                  have hx8r := hexo.trans hext
                  have hx2r := hx28.trans hx8r
                  have hx3r := hx34.trans (hx48.trans hx8r)
                  obtain ⟨rk, hrk⟩ : ∃ rk, rs[k] = rk := ⟨_, rfl⟩
                  obtain ⟨ri, hri⟩ : ∃ ri, rs[ii] = ri := ⟨_, rfl⟩
                  obtain ⟨rv, hrv⟩ : ∃ rv, vs[k] = rv := ⟨_, rfl⟩
                  have Hrk := Lib.hid (show rs[k]? = some rk by rw [← hrk]; exact List.getElem?_eq_getElem hltk)
                  have Hri := Lib.hid (show rs[ii]? = some ri by rw [← hri]; exact List.getElem?_eq_getElem hlti)
                  have Hrv := Lib.hid (show vs[k]? = some rv by rw [← hrv]; exact List.getElem?_eq_getElem hkvs)
                  have Hsm1 := Lib.hid (show ∀ w', Ext wr w' → _ from fun w' he => same9_any _ KD[k] KD[ii] rk ri w' (Nat.le_refl _) (Reads.ext (hx2r.trans he) _ _ (hrk ▸ ReadsAll.get Hrall.out k hkK hltk)) (Reads.ext (hx2r.trans he) _ _ (hri ▸ ReadsAll.get Hrall.out ii hiK hlti)) (HlK.out.get k hkK) (HlK.out.get ii hiK))
                  have Hsm2 := Lib.hid (show ∀ w', Ext wr w' → _ from fun w' he => same9_any _ VK[k] KD[ii] rv ri w' (Nat.le_refl _) (Reads.ext (hx3r.trans he) _ _ (hrv ▸ ReadsAll.get Hvall.out k hkV hkvs)) (Reads.ext (hx2r.trans he) _ _ (hri ▸ ReadsAll.get Hrall.out ii hiK hlti)) (HlV.out.get k hkV) (HlK.out.get ii hiK))
                  have Hbr := Lib.hid (show ∀ w', Ext wr w' → (TCells [.int .i64 r.a, .int .i64 r.i, .int .i64 r.n, .int .i64 r.kind, .string r.label, .slice r.hA r.hn r.hc, .slice r.wA r.wn r.wc, .slice r.kA rs.length r.kc]).p (.pointer (some ⟨w.heap.size, 0, none⟩)) w' from fun w' he => by
                    have := Hb.out w' (hx2r.trans he)
                    rwa [Hkn.out] at this)
                  have Hbv := Lib.hid (show ∀ w', Ext wr w' → (TCells [.int .i64 r'.a, .int .i64 r'.i, .int .i64 r'.n, .int .i64 r'.kind, .string r'.label, .slice r'.hA r'.hn r'.hc, .slice r'.wA r'.wn r'.wc, .slice r'.kA vs.length r'.kc]).p (.pointer (some ⟨w3.heap.size, 0, none⟩)) w' from fun w' he => by
                    have := Hbt'.out w' ((hx48.trans hx8r).trans he)
                    rwa [Hvn.out] at this)
                  have Hrs := Lib.hid (show ∀ w', Ext wr w' → Sl unitEl w' r.kA rs from fun w' he => hrsl.ext (hx2r.trans he))
                  have Hvs := Lib.hid (show ∀ w', Ext wr w' → Sl unitEl w' r'.kA vs from fun w' he => hvsl.ext (hx3r.trans he))
                  clear hrk hri hrv
                  obtain ⟨b1, hb1⟩ : ∃ b1, sameG KD[k] KD[ii] = b1 := ⟨_, rfl⟩
                  obtain ⟨b2, hb2⟩ : ∃ b2, sameG VK[k] KD[ii] = b2 := ⟨_, rfl⟩
                  have Hb1 := Lib.hid hb1
                  have Hb2 := Lib.hid hb2
                  have Hstep := Lib.hid (show z + (if b1 = true then 1 else 0) - (if b2 = true then 1 else 0) = (((KD.take (k + 1)).countP (fun x => sameG x KD[ii]) : Nat) : Int) - (((VK.take (k + 1)).countP (fun x => sameG x KD[ii]) : Nat) : Int) by
                    rw [countP_take_succ _ _ _ hkK, countP_take_succ _ _ _ hkV, hb1, hb2, Hz.out]
                    cases b1 <;> cases b2 <;> simp <;> omega)
                  clear hb1 hb2
                  cases b1
                  case true =>
                    go_wp2_with fail
                    refine wp_drawn (by kernel_rfl) (fun i => match i with | 0 => TCells [.slice r.kA rs.length r.kc] | 1 => Ty.is (.slice r.kA rs.length r.kc) | 2 => Ty.is (.int .i64 (k : Nat)) | 3 => TCells (RUnit.cells rk) | 4 => Ty.is (.agg (RUnit.cells rk).toArray) | 5 => TCells [.slice r.kA rs.length r.kc] | 6 => Ty.is (.slice r.kA rs.length r.kc) | 7 => Ty.is (.int .i64 (ii : Nat)) | 8 => TCells (RUnit.cells ri) | 9 => Ty.is (.agg (RUnit.cells ri).toArray) | 10 => Ty.is (.bool true) | _ => Ty.any) (by kernel_rfl) rfl ?_
                    intro v
                    refine ⟨?_, ?_, ?_, ?_, ?_, ?_, ?_, ?_, ?_, ?_, ?_, ?_⟩
                    · intro wq hq hd
                      refine ob_plain rfl ?_
                      exact yld_field 27 5 (.tmp 2) rfl _ Try.underlying27 _ rfl 1 Try.sizeOf25 (by decide) [.int .i64 r.a, .int .i64 r.i, .int .i64 r.n, .int .i64 r.kind, .string r.label, .slice r.hA r.hn r.hc, .slice r.wA r.wn r.wc, .slice r.kA rs.length r.kc] (Hbr.out _ hq)
                    · intro wq hq hd
                      obtain ⟨h0, -⟩ := hd
                      change (TCells [.slice r.kA rs.length r.kc]).p (v 0) wq at h0
                      refine ob_plain rfl ?_
                      exact yld_loadOne 25 (.tmp 73) rfl Try.isAgg25 (c := .slice r.kA rs.length r.kc) h0 rfl
                    · intro wq hq hd
                      refine ob_plain rfl ?_
                      exact yld_move (.tmp 13) rfl rfl rfl
                    · intro wq hq hd
                      obtain ⟨h0, h1, -⟩ := hd
                      change v 1 = _ at h0
                      change v 2 = _ at h1
                      refine ob_plain rfl ?_
                      exact yld_indexAt unitEl (.tmp 74) (.tmp 75) rfl _ rs r.kc h0 k h1 (Hrs.out wq hq) rk Hrk.out
                    · intro wq hq hd
                      obtain ⟨h0, -⟩ := hd
                      change (TCells (RUnit.cells rk)).p (v 3) wq at h0
                      refine ob_plain rfl ?_
                      exact yld_loadAgg 27 (.tmp 76) rfl Try.isAgg27 8 Try.sizeOf27 (RUnit.cells rk) rfl h0 rfl
                    · intro wq hq hd
                      refine ob_plain rfl ?_
                      exact yld_field 27 5 (.tmp 2) rfl _ Try.underlying27 _ rfl 1 Try.sizeOf25 (by decide) [.int .i64 r.a, .int .i64 r.i, .int .i64 r.n, .int .i64 r.kind, .string r.label, .slice r.hA r.hn r.hc, .slice r.wA r.wn r.wc, .slice r.kA rs.length r.kc] (Hbr.out _ hq)
                    · intro wq hq hd
                      obtain ⟨h0, -⟩ := hd
                      change (TCells [.slice r.kA rs.length r.kc]).p (v 5) wq at h0
                      refine ob_plain rfl ?_
                      exact yld_loadOne 25 (.tmp 78) rfl Try.isAgg25 (c := .slice r.kA rs.length r.kc) h0 rfl
                    · intro wq hq hd
                      refine ob_plain rfl ?_
                      exact yld_move (.tmp 11) rfl rfl rfl
                    · intro wq hq hd
                      obtain ⟨h0, h1, -⟩ := hd
                      change v 6 = _ at h0
                      change v 7 = _ at h1
                      refine ob_plain rfl ?_
                      exact yld_indexAt unitEl (.tmp 79) (.tmp 80) rfl _ rs r.kc h0 ii h1 (Hrs.out wq hq) ri Hri.out
                    · intro wq hq hd
                      obtain ⟨h0, -⟩ := hd
                      change (TCells (RUnit.cells ri)).p (v 8) wq at h0
                      refine ob_plain rfl ?_
                      exact yld_loadAgg 27 (.tmp 81) rfl Try.isAgg27 8 Try.sizeOf27 (RUnit.cells ri) rfl h0 rfl
                    · intro wq hq hd
                      obtain ⟨h0, h1, -⟩ := hd
                      change v 4 = _ at h0
                      change v 9 = _ at h1
                      refine ob_plain rfl ?_
                      refine yld_call 27 Try.call27 _ _ rfl rfl [_, _] ⟨h0, h1, trivial⟩ ?_
                      refine (Hsm1.out wq hq).mono ?_
                      rintro e w' ⟨rfl, hx'⟩
                      exact ⟨_, rfl, hx', by rw [Hb1.out]; rfl⟩
                    · intro wq hq hT
                      have k10 := hT 10 (by decide)
                      change v 10 = _ at k10
                      clear hT
                      simp only [List.drop_succ_cons, List.drop_zero, putE, setsE, List.set_cons_succ, List.set_cons_zero, Nat.reduceAdd]
                      rw [k10]
                      have hext24 := hext.trans hq
                      have Hbr := Lib.hid (show ∀ w', Ext wq w' → _ from fun w' he => Hbr.out w' (hq.trans he))
                      have Hbv := Lib.hid (show ∀ w', Ext wq w' → _ from fun w' he => Hbv.out w' (hq.trans he))
                      have Hrs := Lib.hid (show ∀ w', Ext wq w' → _ from fun w' he => Hrs.out w' (hq.trans he))
                      have Hvs := Lib.hid (show ∀ w', Ext wq w' → _ from fun w' he => Hvs.out w' (hq.trans he))
                      have Hsm2 := Lib.hid (show ∀ w', Ext wq w' → _ from fun w' he => Hsm2.out w' (hq.trans he))
                      obtain ⟨wv, rfl⟩ : ∃ wv, wv = wq := ⟨_, rfl⟩
                      clear hq
                      cases b2
                      case true =>
                        go_wp2_with fail
                        refine wp_drawn (by kernel_rfl) (fun i => match i with | 0 => Ty.is (.int .i64 (k : Nat)) | 1 => TCells [.slice r'.kA vs.length r'.kc] | 2 => Ty.is (.slice r'.kA vs.length r'.kc) | 3 => Ty.is (.int .i64 vs.length) | 4 => Ty.is (.bool true) | 5 => Ty.is (.bool true) | 6 => TGd (true = true) (TCells [.slice r'.kA vs.length r'.kc]) | 7 => TGd (true = true) (Ty.is (.slice r'.kA vs.length r'.kc)) | 8 => TGd (true = true) (Ty.is (.int .i64 (k : Nat))) | 9 => TGd (true = true) (TCells (RUnit.cells rv)) | 10 => TGd (true = true) (Ty.is (.agg (RUnit.cells rv).toArray)) | 11 => TGd (true = true) (TCells [.slice r.kA rs.length r.kc]) | 12 => TGd (true = true) (Ty.is (.slice r.kA rs.length r.kc)) | 13 => TGd (true = true) (Ty.is (.int .i64 (ii : Nat))) | 14 => TGd (true = true) (TCells (RUnit.cells ri)) | 15 => TGd (true = true) (Ty.is (.agg (RUnit.cells ri).toArray)) | 16 => TGd (true = true) (Ty.is (.bool true)) | 17 => Ty.is (.bool true) | _ => Ty.any) (by kernel_rfl) rfl ?_
                        intro v
                        refine ⟨?_, ?_, ?_, ?_, ?_, ?_, ?_, ?_, ?_, ?_, ?_, ?_, ?_, ?_, ?_, ?_, ?_, ?_, ?_⟩
                        · intro wq hq hd
                          refine ob_plain rfl ?_
                          exact yld_move (.tmp 13) rfl rfl rfl
                        · intro wq hq hd
                          refine ob_plain rfl ?_
                          exact yld_field 27 5 (.tmp 5) rfl _ Try.underlying27 _ rfl 1 Try.sizeOf25 (by decide) [.int .i64 r'.a, .int .i64 r'.i, .int .i64 r'.n, .int .i64 r'.kind, .string r'.label, .slice r'.hA r'.hn r'.hc, .slice r'.wA r'.wn r'.wc, .slice r'.kA vs.length r'.kc] (Hbv.out _ hq)
                        · intro wq hq hd
                          obtain ⟨h0, -⟩ := hd
                          change (TCells [.slice r'.kA vs.length r'.kc]).p (v 1) wq at h0
                          refine ob_plain rfl ?_
                          exact yld_loadOne 25 (.tmp 87) rfl Try.isAgg25 (c := .slice r'.kA vs.length r'.kc) h0 rfl
                        · intro wq hq hd
                          obtain ⟨h0, -⟩ := hd
                          change v 2 = _ at h0
                          refine ob_plain rfl ?_
                          exact yld_len (.tmp 88) 25 _ Try.underlying25 rfl _ _ _ h0 rfl
                        · intro wq hq hd
                          obtain ⟨h0, h1, -⟩ := hd
                          change v 0 = _ at h0
                          change v 3 = _ at h1
                          refine ob_plain rfl ?_
                          exact yld_binInt .lss 3 3 (.tmp 86) (.tmp 89) rfl _ _ h0 h1 (fun w => by rw [run_lss_i64, decide_eq_true (by omega)]) rfl
                        · intro wq hq hd
                          obtain ⟨h0, -⟩ := hd
                          change v 4 = _ at h0
                          refine ob_plain rfl ?_
                          exact yld_move (.tmp 90) rfl h0 rfl
                        · intro wq hq hd
                          obtain ⟨h0, -⟩ := hd
                          change v 5 = _ at h0
                          refine ob_guard 5 true (true) rfl (yields_of rfl h0) (fun hg => ?_) (fun hg => ?_)
                          · refine Yld.gd (p := true = true) (T := TCells [.slice r'.kA vs.length r'.kc]) ?_
                            exact yld_field 27 5 (.tmp 5) rfl _ Try.underlying27 _ rfl 1 Try.sizeOf25 (by decide) [.int .i64 r'.a, .int .i64 r'.i, .int .i64 r'.n, .int .i64 r'.kind, .string r'.label, .slice r'.hA r'.hn r'.hc, .slice r'.wA r'.wn r'.wc, .slice r'.kA vs.length r'.kc] (Hbv.out _ hq)
                          · intro hn; rw [hn] at hg; cases hg
                        · intro wq hq hd
                          obtain ⟨h0, h1, -⟩ := hd
                          change (true = true) → (TCells [.slice r'.kA vs.length r'.kc]).p (v 6) wq at h0
                          change v 5 = _ at h1
                          refine ob_guard 5 true (true) rfl (yields_of rfl h1) (fun hg => ?_) (fun hg => ?_)
                          · refine Yld.gd (p := true = true) (T := Ty.is (.slice r'.kA vs.length r'.kc)) ?_
                            replace h0 := h0 hg
                            exact yld_loadOne 25 (.tmp 92) rfl Try.isAgg25 (c := .slice r'.kA vs.length r'.kc) h0 rfl
                          · intro hn; rw [hn] at hg; cases hg
                        · intro wq hq hd
                          obtain ⟨h0, -⟩ := hd
                          change v 5 = _ at h0
                          refine ob_guard 5 true (true) rfl (yields_of rfl h0) (fun hg => ?_) (fun hg => ?_)
                          · refine Yld.gd (p := true = true) (T := Ty.is (.int .i64 (k : Nat))) ?_
                            exact yld_move (.tmp 13) rfl rfl rfl
                          · intro hn; rw [hn] at hg; cases hg
                        · intro wq hq hd
                          obtain ⟨h0, h1, h2, -⟩ := hd
                          change (true = true) → v 7 = _ at h0
                          change (true = true) → v 8 = _ at h1
                          change v 5 = _ at h2
                          refine ob_guard 5 true (true) rfl (yields_of rfl h2) (fun hg => ?_) (fun hg => ?_)
                          · refine Yld.gd (p := true = true) (T := TCells (RUnit.cells rv)) ?_
                            replace h0 := h0 hg
                            replace h1 := h1 hg
                            exact yld_indexAt unitEl (.tmp 93) (.tmp 94) rfl _ vs r'.kc h0 k h1 (Hvs.out wq hq) rv Hrv.out
                          · intro hn; rw [hn] at hg; cases hg
                        · intro wq hq hd
                          obtain ⟨h0, h1, -⟩ := hd
                          change (true = true) → (TCells (RUnit.cells rv)).p (v 9) wq at h0
                          change v 5 = _ at h1
                          refine ob_guard 5 true (true) rfl (yields_of rfl h1) (fun hg => ?_) (fun hg => ?_)
                          · refine Yld.gd (p := true = true) (T := Ty.is (.agg (RUnit.cells rv).toArray)) ?_
                            replace h0 := h0 hg
                            exact yld_loadAgg 27 (.tmp 95) rfl Try.isAgg27 8 Try.sizeOf27 (RUnit.cells rv) rfl h0 rfl
                          · intro hn; rw [hn] at hg; cases hg
                        · intro wq hq hd
                          obtain ⟨h0, -⟩ := hd
                          change v 5 = _ at h0
                          refine ob_guard 5 true (true) rfl (yields_of rfl h0) (fun hg => ?_) (fun hg => ?_)
                          · refine Yld.gd (p := true = true) (T := TCells [.slice r.kA rs.length r.kc]) ?_
                            exact yld_field 27 5 (.tmp 2) rfl _ Try.underlying27 _ rfl 1 Try.sizeOf25 (by decide) [.int .i64 r.a, .int .i64 r.i, .int .i64 r.n, .int .i64 r.kind, .string r.label, .slice r.hA r.hn r.hc, .slice r.wA r.wn r.wc, .slice r.kA rs.length r.kc] (Hbr.out _ hq)
                          · intro hn; rw [hn] at hg; cases hg
                        · intro wq hq hd
                          obtain ⟨h0, h1, -⟩ := hd
                          change (true = true) → (TCells [.slice r.kA rs.length r.kc]).p (v 11) wq at h0
                          change v 5 = _ at h1
                          refine ob_guard 5 true (true) rfl (yields_of rfl h1) (fun hg => ?_) (fun hg => ?_)
                          · refine Yld.gd (p := true = true) (T := Ty.is (.slice r.kA rs.length r.kc)) ?_
                            replace h0 := h0 hg
                            exact yld_loadOne 25 (.tmp 97) rfl Try.isAgg25 (c := .slice r.kA rs.length r.kc) h0 rfl
                          · intro hn; rw [hn] at hg; cases hg
                        · intro wq hq hd
                          obtain ⟨h0, -⟩ := hd
                          change v 5 = _ at h0
                          refine ob_guard 5 true (true) rfl (yields_of rfl h0) (fun hg => ?_) (fun hg => ?_)
                          · refine Yld.gd (p := true = true) (T := Ty.is (.int .i64 (ii : Nat))) ?_
                            exact yld_move (.tmp 11) rfl rfl rfl
                          · intro hn; rw [hn] at hg; cases hg
                        · intro wq hq hd
                          obtain ⟨h0, h1, h2, -⟩ := hd
                          change (true = true) → v 12 = _ at h0
                          change (true = true) → v 13 = _ at h1
                          change v 5 = _ at h2
                          refine ob_guard 5 true (true) rfl (yields_of rfl h2) (fun hg => ?_) (fun hg => ?_)
                          · refine Yld.gd (p := true = true) (T := TCells (RUnit.cells ri)) ?_
                            replace h0 := h0 hg
                            replace h1 := h1 hg
                            exact yld_indexAt unitEl (.tmp 98) (.tmp 99) rfl _ rs r.kc h0 ii h1 (Hrs.out wq hq) ri Hri.out
                          · intro hn; rw [hn] at hg; cases hg
                        · intro wq hq hd
                          obtain ⟨h0, h1, -⟩ := hd
                          change (true = true) → (TCells (RUnit.cells ri)).p (v 14) wq at h0
                          change v 5 = _ at h1
                          refine ob_guard 5 true (true) rfl (yields_of rfl h1) (fun hg => ?_) (fun hg => ?_)
                          · refine Yld.gd (p := true = true) (T := Ty.is (.agg (RUnit.cells ri).toArray)) ?_
                            replace h0 := h0 hg
                            exact yld_loadAgg 27 (.tmp 100) rfl Try.isAgg27 8 Try.sizeOf27 (RUnit.cells ri) rfl h0 rfl
                          · intro hn; rw [hn] at hg; cases hg
                        · intro wq hq hd
                          obtain ⟨h0, h1, h2, h3, -⟩ := hd
                          change (true = true) → v 10 = _ at h0
                          change (true = true) → v 15 = _ at h1
                          change v 5 = _ at h2
                          refine ob_guard 5 true (true) rfl (yields_of rfl h2) (fun hg => ?_) (fun hg => ?_)
                          · refine Yld.gd (p := true = true) (T := Ty.is (.bool true)) ?_
                            replace h0 := h0 hg
                            replace h1 := h1 hg
                            refine yld_call 27 Try.call27 _ _ rfl rfl [_, _] ⟨h0, h1, trivial⟩ ?_
                            refine (Hsm2.out wq hq).mono ?_
                            rintro e w' ⟨rfl, hx'⟩
                            exact ⟨_, rfl, hx', by rw [Hb2.out]; rfl⟩
                          · intro hn; rw [hn] at hg; cases hg
                        · intro wq hq hd
                          obtain ⟨h0, h1, -⟩ := hd
                          change v 5 = _ at h0
                          change (true = true) → v 16 = _ at h1
                          refine ob_plain rfl ?_
                          exact yld_and (.tmp 91) (.tmp 102) rfl rfl _ _ h0 (fun hgd => h1 hgd) rfl
                        · intro wq hq hT
                          have k17 := hT 17 (by decide)
                          change v 17 = _ at k17
                          clear hT
                          simp only [List.drop_succ_cons, List.drop_zero, putE, setsE, List.set_cons_succ, List.set_cons_zero, Nat.reduceAdd]
                          rw [k17]
                          have Hz2 := Lib.hid (show z + 1 - 1 = (((KD.take (k + 1)).countP (fun x => sameG x KD[ii]) : Nat) : Int) - (((VK.take (k + 1)).countP (fun x => sameG x KD[ii]) : Nat) : Int) from (by simp; try omega : z + 1 - 1 = z + (if true = true then 1 else 0) - (if true = true then 1 else 0)).trans Hstep.out)
                          go_wp2
                          go_roundw
                          case rel => exact ⟨k + 1, z + 1 - 1, by omega, by omega, by omega, by go_num, by go_num, Hz2, hext24.trans hq⟩
                          case measure => simp [intOf]; omega
                      case false =>
                        go_wp2_with fail
                        refine wp_drawn (by kernel_rfl) (fun i => match i with | 0 => Ty.is (.int .i64 (k : Nat)) | 1 => TCells [.slice r'.kA vs.length r'.kc] | 2 => Ty.is (.slice r'.kA vs.length r'.kc) | 3 => Ty.is (.int .i64 vs.length) | 4 => Ty.is (.bool true) | 5 => Ty.is (.bool true) | 6 => TGd (true = true) (TCells [.slice r'.kA vs.length r'.kc]) | 7 => TGd (true = true) (Ty.is (.slice r'.kA vs.length r'.kc)) | 8 => TGd (true = true) (Ty.is (.int .i64 (k : Nat))) | 9 => TGd (true = true) (TCells (RUnit.cells rv)) | 10 => TGd (true = true) (Ty.is (.agg (RUnit.cells rv).toArray)) | 11 => TGd (true = true) (TCells [.slice r.kA rs.length r.kc]) | 12 => TGd (true = true) (Ty.is (.slice r.kA rs.length r.kc)) | 13 => TGd (true = true) (Ty.is (.int .i64 (ii : Nat))) | 14 => TGd (true = true) (TCells (RUnit.cells ri)) | 15 => TGd (true = true) (Ty.is (.agg (RUnit.cells ri).toArray)) | 16 => TGd (true = true) (Ty.is (.bool false)) | 17 => Ty.is (.bool false) | _ => Ty.any) (by kernel_rfl) rfl ?_
                        intro v
                        refine ⟨?_, ?_, ?_, ?_, ?_, ?_, ?_, ?_, ?_, ?_, ?_, ?_, ?_, ?_, ?_, ?_, ?_, ?_, ?_⟩
                        · intro wq hq hd
                          refine ob_plain rfl ?_
                          exact yld_move (.tmp 13) rfl rfl rfl
                        · intro wq hq hd
                          refine ob_plain rfl ?_
                          exact yld_field 27 5 (.tmp 5) rfl _ Try.underlying27 _ rfl 1 Try.sizeOf25 (by decide) [.int .i64 r'.a, .int .i64 r'.i, .int .i64 r'.n, .int .i64 r'.kind, .string r'.label, .slice r'.hA r'.hn r'.hc, .slice r'.wA r'.wn r'.wc, .slice r'.kA vs.length r'.kc] (Hbv.out _ hq)
                        · intro wq hq hd
                          obtain ⟨h0, -⟩ := hd
                          change (TCells [.slice r'.kA vs.length r'.kc]).p (v 1) wq at h0
                          refine ob_plain rfl ?_
                          exact yld_loadOne 25 (.tmp 87) rfl Try.isAgg25 (c := .slice r'.kA vs.length r'.kc) h0 rfl
                        · intro wq hq hd
                          obtain ⟨h0, -⟩ := hd
                          change v 2 = _ at h0
                          refine ob_plain rfl ?_
                          exact yld_len (.tmp 88) 25 _ Try.underlying25 rfl _ _ _ h0 rfl
                        · intro wq hq hd
                          obtain ⟨h0, h1, -⟩ := hd
                          change v 0 = _ at h0
                          change v 3 = _ at h1
                          refine ob_plain rfl ?_
                          exact yld_binInt .lss 3 3 (.tmp 86) (.tmp 89) rfl _ _ h0 h1 (fun w => by rw [run_lss_i64, decide_eq_true (by omega)]) rfl
                        · intro wq hq hd
                          obtain ⟨h0, -⟩ := hd
                          change v 4 = _ at h0
                          refine ob_plain rfl ?_
                          exact yld_move (.tmp 90) rfl h0 rfl
                        · intro wq hq hd
                          obtain ⟨h0, -⟩ := hd
                          change v 5 = _ at h0
                          refine ob_guard 5 true (true) rfl (yields_of rfl h0) (fun hg => ?_) (fun hg => ?_)
                          · refine Yld.gd (p := true = true) (T := TCells [.slice r'.kA vs.length r'.kc]) ?_
                            exact yld_field 27 5 (.tmp 5) rfl _ Try.underlying27 _ rfl 1 Try.sizeOf25 (by decide) [.int .i64 r'.a, .int .i64 r'.i, .int .i64 r'.n, .int .i64 r'.kind, .string r'.label, .slice r'.hA r'.hn r'.hc, .slice r'.wA r'.wn r'.wc, .slice r'.kA vs.length r'.kc] (Hbv.out _ hq)
                          · intro hn; rw [hn] at hg; cases hg
                        · intro wq hq hd
                          obtain ⟨h0, h1, -⟩ := hd
                          change (true = true) → (TCells [.slice r'.kA vs.length r'.kc]).p (v 6) wq at h0
                          change v 5 = _ at h1
                          refine ob_guard 5 true (true) rfl (yields_of rfl h1) (fun hg => ?_) (fun hg => ?_)
                          · refine Yld.gd (p := true = true) (T := Ty.is (.slice r'.kA vs.length r'.kc)) ?_
                            replace h0 := h0 hg
                            exact yld_loadOne 25 (.tmp 92) rfl Try.isAgg25 (c := .slice r'.kA vs.length r'.kc) h0 rfl
                          · intro hn; rw [hn] at hg; cases hg
                        · intro wq hq hd
                          obtain ⟨h0, -⟩ := hd
                          change v 5 = _ at h0
                          refine ob_guard 5 true (true) rfl (yields_of rfl h0) (fun hg => ?_) (fun hg => ?_)
                          · refine Yld.gd (p := true = true) (T := Ty.is (.int .i64 (k : Nat))) ?_
                            exact yld_move (.tmp 13) rfl rfl rfl
                          · intro hn; rw [hn] at hg; cases hg
                        · intro wq hq hd
                          obtain ⟨h0, h1, h2, -⟩ := hd
                          change (true = true) → v 7 = _ at h0
                          change (true = true) → v 8 = _ at h1
                          change v 5 = _ at h2
                          refine ob_guard 5 true (true) rfl (yields_of rfl h2) (fun hg => ?_) (fun hg => ?_)
                          · refine Yld.gd (p := true = true) (T := TCells (RUnit.cells rv)) ?_
                            replace h0 := h0 hg
                            replace h1 := h1 hg
                            exact yld_indexAt unitEl (.tmp 93) (.tmp 94) rfl _ vs r'.kc h0 k h1 (Hvs.out wq hq) rv Hrv.out
                          · intro hn; rw [hn] at hg; cases hg
                        · intro wq hq hd
                          obtain ⟨h0, h1, -⟩ := hd
                          change (true = true) → (TCells (RUnit.cells rv)).p (v 9) wq at h0
                          change v 5 = _ at h1
                          refine ob_guard 5 true (true) rfl (yields_of rfl h1) (fun hg => ?_) (fun hg => ?_)
                          · refine Yld.gd (p := true = true) (T := Ty.is (.agg (RUnit.cells rv).toArray)) ?_
                            replace h0 := h0 hg
                            exact yld_loadAgg 27 (.tmp 95) rfl Try.isAgg27 8 Try.sizeOf27 (RUnit.cells rv) rfl h0 rfl
                          · intro hn; rw [hn] at hg; cases hg
                        · intro wq hq hd
                          obtain ⟨h0, -⟩ := hd
                          change v 5 = _ at h0
                          refine ob_guard 5 true (true) rfl (yields_of rfl h0) (fun hg => ?_) (fun hg => ?_)
                          · refine Yld.gd (p := true = true) (T := TCells [.slice r.kA rs.length r.kc]) ?_
                            exact yld_field 27 5 (.tmp 2) rfl _ Try.underlying27 _ rfl 1 Try.sizeOf25 (by decide) [.int .i64 r.a, .int .i64 r.i, .int .i64 r.n, .int .i64 r.kind, .string r.label, .slice r.hA r.hn r.hc, .slice r.wA r.wn r.wc, .slice r.kA rs.length r.kc] (Hbr.out _ hq)
                          · intro hn; rw [hn] at hg; cases hg
                        · intro wq hq hd
                          obtain ⟨h0, h1, -⟩ := hd
                          change (true = true) → (TCells [.slice r.kA rs.length r.kc]).p (v 11) wq at h0
                          change v 5 = _ at h1
                          refine ob_guard 5 true (true) rfl (yields_of rfl h1) (fun hg => ?_) (fun hg => ?_)
                          · refine Yld.gd (p := true = true) (T := Ty.is (.slice r.kA rs.length r.kc)) ?_
                            replace h0 := h0 hg
                            exact yld_loadOne 25 (.tmp 97) rfl Try.isAgg25 (c := .slice r.kA rs.length r.kc) h0 rfl
                          · intro hn; rw [hn] at hg; cases hg
                        · intro wq hq hd
                          obtain ⟨h0, -⟩ := hd
                          change v 5 = _ at h0
                          refine ob_guard 5 true (true) rfl (yields_of rfl h0) (fun hg => ?_) (fun hg => ?_)
                          · refine Yld.gd (p := true = true) (T := Ty.is (.int .i64 (ii : Nat))) ?_
                            exact yld_move (.tmp 11) rfl rfl rfl
                          · intro hn; rw [hn] at hg; cases hg
                        · intro wq hq hd
                          obtain ⟨h0, h1, h2, -⟩ := hd
                          change (true = true) → v 12 = _ at h0
                          change (true = true) → v 13 = _ at h1
                          change v 5 = _ at h2
                          refine ob_guard 5 true (true) rfl (yields_of rfl h2) (fun hg => ?_) (fun hg => ?_)
                          · refine Yld.gd (p := true = true) (T := TCells (RUnit.cells ri)) ?_
                            replace h0 := h0 hg
                            replace h1 := h1 hg
                            exact yld_indexAt unitEl (.tmp 98) (.tmp 99) rfl _ rs r.kc h0 ii h1 (Hrs.out wq hq) ri Hri.out
                          · intro hn; rw [hn] at hg; cases hg
                        · intro wq hq hd
                          obtain ⟨h0, h1, -⟩ := hd
                          change (true = true) → (TCells (RUnit.cells ri)).p (v 14) wq at h0
                          change v 5 = _ at h1
                          refine ob_guard 5 true (true) rfl (yields_of rfl h1) (fun hg => ?_) (fun hg => ?_)
                          · refine Yld.gd (p := true = true) (T := Ty.is (.agg (RUnit.cells ri).toArray)) ?_
                            replace h0 := h0 hg
                            exact yld_loadAgg 27 (.tmp 100) rfl Try.isAgg27 8 Try.sizeOf27 (RUnit.cells ri) rfl h0 rfl
                          · intro hn; rw [hn] at hg; cases hg
                        · intro wq hq hd
                          obtain ⟨h0, h1, h2, h3, -⟩ := hd
                          change (true = true) → v 10 = _ at h0
                          change (true = true) → v 15 = _ at h1
                          change v 5 = _ at h2
                          refine ob_guard 5 true (true) rfl (yields_of rfl h2) (fun hg => ?_) (fun hg => ?_)
                          · refine Yld.gd (p := true = true) (T := Ty.is (.bool false)) ?_
                            replace h0 := h0 hg
                            replace h1 := h1 hg
                            refine yld_call 27 Try.call27 _ _ rfl rfl [_, _] ⟨h0, h1, trivial⟩ ?_
                            refine (Hsm2.out wq hq).mono ?_
                            rintro e w' ⟨rfl, hx'⟩
                            exact ⟨_, rfl, hx', by rw [Hb2.out]; rfl⟩
                          · intro hn; rw [hn] at hg; cases hg
                        · intro wq hq hd
                          obtain ⟨h0, h1, -⟩ := hd
                          change v 5 = _ at h0
                          change (true = true) → v 16 = _ at h1
                          refine ob_plain rfl ?_
                          exact yld_and (.tmp 91) (.tmp 102) rfl rfl _ _ h0 (fun hgd => h1 hgd) rfl
                        · intro wq hq hT
                          have k17 := hT 17 (by decide)
                          change v 17 = _ at k17
                          clear hT
                          simp only [List.drop_succ_cons, List.drop_zero, putE, setsE, List.set_cons_succ, List.set_cons_zero, Nat.reduceAdd]
                          rw [k17]
                          have Hz2 := Lib.hid (show z + 1 = (((KD.take (k + 1)).countP (fun x => sameG x KD[ii]) : Nat) : Int) - (((VK.take (k + 1)).countP (fun x => sameG x KD[ii]) : Nat) : Int) from (by simp; try omega : z + 1 = z + (if true = true then 1 else 0) - (if false = true then 1 else 0)).trans Hstep.out)
                          go_wp2
                          go_roundw
                          case rel => exact ⟨k + 1, z + 1, by omega, by omega, by omega, by go_num, by go_num, Hz2, hext24.trans hq⟩
                          case measure => simp [intOf]; omega
                  case false =>
                    go_wp2_with fail
                    refine wp_drawn (by kernel_rfl) (fun i => match i with | 0 => TCells [.slice r.kA rs.length r.kc] | 1 => Ty.is (.slice r.kA rs.length r.kc) | 2 => Ty.is (.int .i64 (k : Nat)) | 3 => TCells (RUnit.cells rk) | 4 => Ty.is (.agg (RUnit.cells rk).toArray) | 5 => TCells [.slice r.kA rs.length r.kc] | 6 => Ty.is (.slice r.kA rs.length r.kc) | 7 => Ty.is (.int .i64 (ii : Nat)) | 8 => TCells (RUnit.cells ri) | 9 => Ty.is (.agg (RUnit.cells ri).toArray) | 10 => Ty.is (.bool false) | _ => Ty.any) (by kernel_rfl) rfl ?_
                    intro v
                    refine ⟨?_, ?_, ?_, ?_, ?_, ?_, ?_, ?_, ?_, ?_, ?_, ?_⟩
                    · intro wq hq hd
                      refine ob_plain rfl ?_
                      exact yld_field 27 5 (.tmp 2) rfl _ Try.underlying27 _ rfl 1 Try.sizeOf25 (by decide) [.int .i64 r.a, .int .i64 r.i, .int .i64 r.n, .int .i64 r.kind, .string r.label, .slice r.hA r.hn r.hc, .slice r.wA r.wn r.wc, .slice r.kA rs.length r.kc] (Hbr.out _ hq)
                    · intro wq hq hd
                      obtain ⟨h0, -⟩ := hd
                      change (TCells [.slice r.kA rs.length r.kc]).p (v 0) wq at h0
                      refine ob_plain rfl ?_
                      exact yld_loadOne 25 (.tmp 73) rfl Try.isAgg25 (c := .slice r.kA rs.length r.kc) h0 rfl
                    · intro wq hq hd
                      refine ob_plain rfl ?_
                      exact yld_move (.tmp 13) rfl rfl rfl
                    · intro wq hq hd
                      obtain ⟨h0, h1, -⟩ := hd
                      change v 1 = _ at h0
                      change v 2 = _ at h1
                      refine ob_plain rfl ?_
                      exact yld_indexAt unitEl (.tmp 74) (.tmp 75) rfl _ rs r.kc h0 k h1 (Hrs.out wq hq) rk Hrk.out
                    · intro wq hq hd
                      obtain ⟨h0, -⟩ := hd
                      change (TCells (RUnit.cells rk)).p (v 3) wq at h0
                      refine ob_plain rfl ?_
                      exact yld_loadAgg 27 (.tmp 76) rfl Try.isAgg27 8 Try.sizeOf27 (RUnit.cells rk) rfl h0 rfl
                    · intro wq hq hd
                      refine ob_plain rfl ?_
                      exact yld_field 27 5 (.tmp 2) rfl _ Try.underlying27 _ rfl 1 Try.sizeOf25 (by decide) [.int .i64 r.a, .int .i64 r.i, .int .i64 r.n, .int .i64 r.kind, .string r.label, .slice r.hA r.hn r.hc, .slice r.wA r.wn r.wc, .slice r.kA rs.length r.kc] (Hbr.out _ hq)
                    · intro wq hq hd
                      obtain ⟨h0, -⟩ := hd
                      change (TCells [.slice r.kA rs.length r.kc]).p (v 5) wq at h0
                      refine ob_plain rfl ?_
                      exact yld_loadOne 25 (.tmp 78) rfl Try.isAgg25 (c := .slice r.kA rs.length r.kc) h0 rfl
                    · intro wq hq hd
                      refine ob_plain rfl ?_
                      exact yld_move (.tmp 11) rfl rfl rfl
                    · intro wq hq hd
                      obtain ⟨h0, h1, -⟩ := hd
                      change v 6 = _ at h0
                      change v 7 = _ at h1
                      refine ob_plain rfl ?_
                      exact yld_indexAt unitEl (.tmp 79) (.tmp 80) rfl _ rs r.kc h0 ii h1 (Hrs.out wq hq) ri Hri.out
                    · intro wq hq hd
                      obtain ⟨h0, -⟩ := hd
                      change (TCells (RUnit.cells ri)).p (v 8) wq at h0
                      refine ob_plain rfl ?_
                      exact yld_loadAgg 27 (.tmp 81) rfl Try.isAgg27 8 Try.sizeOf27 (RUnit.cells ri) rfl h0 rfl
                    · intro wq hq hd
                      obtain ⟨h0, h1, -⟩ := hd
                      change v 4 = _ at h0
                      change v 9 = _ at h1
                      refine ob_plain rfl ?_
                      refine yld_call 27 Try.call27 _ _ rfl rfl [_, _] ⟨h0, h1, trivial⟩ ?_
                      refine (Hsm1.out wq hq).mono ?_
                      rintro e w' ⟨rfl, hx'⟩
                      exact ⟨_, rfl, hx', by rw [Hb1.out]; rfl⟩
                    · intro wq hq hT
                      have k10 := hT 10 (by decide)
                      change v 10 = _ at k10
                      clear hT
                      simp only [List.drop_succ_cons, List.drop_zero, putE, setsE, List.set_cons_succ, List.set_cons_zero, Nat.reduceAdd]
                      rw [k10]
                      have hext24 := hext.trans hq
                      have Hbr := Lib.hid (show ∀ w', Ext wq w' → _ from fun w' he => Hbr.out w' (hq.trans he))
                      have Hbv := Lib.hid (show ∀ w', Ext wq w' → _ from fun w' he => Hbv.out w' (hq.trans he))
                      have Hrs := Lib.hid (show ∀ w', Ext wq w' → _ from fun w' he => Hrs.out w' (hq.trans he))
                      have Hvs := Lib.hid (show ∀ w', Ext wq w' → _ from fun w' he => Hvs.out w' (hq.trans he))
                      have Hsm2 := Lib.hid (show ∀ w', Ext wq w' → _ from fun w' he => Hsm2.out w' (hq.trans he))
                      obtain ⟨wv, rfl⟩ : ∃ wv, wv = wq := ⟨_, rfl⟩
                      clear hq
                      cases b2
                      case true =>
                        go_wp2_with fail
                        refine wp_drawn (by kernel_rfl) (fun i => match i with | 0 => Ty.is (.int .i64 (k : Nat)) | 1 => TCells [.slice r'.kA vs.length r'.kc] | 2 => Ty.is (.slice r'.kA vs.length r'.kc) | 3 => Ty.is (.int .i64 vs.length) | 4 => Ty.is (.bool true) | 5 => Ty.is (.bool true) | 6 => TGd (true = true) (TCells [.slice r'.kA vs.length r'.kc]) | 7 => TGd (true = true) (Ty.is (.slice r'.kA vs.length r'.kc)) | 8 => TGd (true = true) (Ty.is (.int .i64 (k : Nat))) | 9 => TGd (true = true) (TCells (RUnit.cells rv)) | 10 => TGd (true = true) (Ty.is (.agg (RUnit.cells rv).toArray)) | 11 => TGd (true = true) (TCells [.slice r.kA rs.length r.kc]) | 12 => TGd (true = true) (Ty.is (.slice r.kA rs.length r.kc)) | 13 => TGd (true = true) (Ty.is (.int .i64 (ii : Nat))) | 14 => TGd (true = true) (TCells (RUnit.cells ri)) | 15 => TGd (true = true) (Ty.is (.agg (RUnit.cells ri).toArray)) | 16 => TGd (true = true) (Ty.is (.bool true)) | 17 => Ty.is (.bool true) | _ => Ty.any) (by kernel_rfl) rfl ?_
                        intro v
                        refine ⟨?_, ?_, ?_, ?_, ?_, ?_, ?_, ?_, ?_, ?_, ?_, ?_, ?_, ?_, ?_, ?_, ?_, ?_, ?_⟩
                        · intro wq hq hd
                          refine ob_plain rfl ?_
                          exact yld_move (.tmp 13) rfl rfl rfl
                        · intro wq hq hd
                          refine ob_plain rfl ?_
                          exact yld_field 27 5 (.tmp 5) rfl _ Try.underlying27 _ rfl 1 Try.sizeOf25 (by decide) [.int .i64 r'.a, .int .i64 r'.i, .int .i64 r'.n, .int .i64 r'.kind, .string r'.label, .slice r'.hA r'.hn r'.hc, .slice r'.wA r'.wn r'.wc, .slice r'.kA vs.length r'.kc] (Hbv.out _ hq)
                        · intro wq hq hd
                          obtain ⟨h0, -⟩ := hd
                          change (TCells [.slice r'.kA vs.length r'.kc]).p (v 1) wq at h0
                          refine ob_plain rfl ?_
                          exact yld_loadOne 25 (.tmp 87) rfl Try.isAgg25 (c := .slice r'.kA vs.length r'.kc) h0 rfl
                        · intro wq hq hd
                          obtain ⟨h0, -⟩ := hd
                          change v 2 = _ at h0
                          refine ob_plain rfl ?_
                          exact yld_len (.tmp 88) 25 _ Try.underlying25 rfl _ _ _ h0 rfl
                        · intro wq hq hd
                          obtain ⟨h0, h1, -⟩ := hd
                          change v 0 = _ at h0
                          change v 3 = _ at h1
                          refine ob_plain rfl ?_
                          exact yld_binInt .lss 3 3 (.tmp 86) (.tmp 89) rfl _ _ h0 h1 (fun w => by rw [run_lss_i64, decide_eq_true (by omega)]) rfl
                        · intro wq hq hd
                          obtain ⟨h0, -⟩ := hd
                          change v 4 = _ at h0
                          refine ob_plain rfl ?_
                          exact yld_move (.tmp 90) rfl h0 rfl
                        · intro wq hq hd
                          obtain ⟨h0, -⟩ := hd
                          change v 5 = _ at h0
                          refine ob_guard 5 true (true) rfl (yields_of rfl h0) (fun hg => ?_) (fun hg => ?_)
                          · refine Yld.gd (p := true = true) (T := TCells [.slice r'.kA vs.length r'.kc]) ?_
                            exact yld_field 27 5 (.tmp 5) rfl _ Try.underlying27 _ rfl 1 Try.sizeOf25 (by decide) [.int .i64 r'.a, .int .i64 r'.i, .int .i64 r'.n, .int .i64 r'.kind, .string r'.label, .slice r'.hA r'.hn r'.hc, .slice r'.wA r'.wn r'.wc, .slice r'.kA vs.length r'.kc] (Hbv.out _ hq)
                          · intro hn; rw [hn] at hg; cases hg
                        · intro wq hq hd
                          obtain ⟨h0, h1, -⟩ := hd
                          change (true = true) → (TCells [.slice r'.kA vs.length r'.kc]).p (v 6) wq at h0
                          change v 5 = _ at h1
                          refine ob_guard 5 true (true) rfl (yields_of rfl h1) (fun hg => ?_) (fun hg => ?_)
                          · refine Yld.gd (p := true = true) (T := Ty.is (.slice r'.kA vs.length r'.kc)) ?_
                            replace h0 := h0 hg
                            exact yld_loadOne 25 (.tmp 92) rfl Try.isAgg25 (c := .slice r'.kA vs.length r'.kc) h0 rfl
                          · intro hn; rw [hn] at hg; cases hg
                        · intro wq hq hd
                          obtain ⟨h0, -⟩ := hd
                          change v 5 = _ at h0
                          refine ob_guard 5 true (true) rfl (yields_of rfl h0) (fun hg => ?_) (fun hg => ?_)
                          · refine Yld.gd (p := true = true) (T := Ty.is (.int .i64 (k : Nat))) ?_
                            exact yld_move (.tmp 13) rfl rfl rfl
                          · intro hn; rw [hn] at hg; cases hg
                        · intro wq hq hd
                          obtain ⟨h0, h1, h2, -⟩ := hd
                          change (true = true) → v 7 = _ at h0
                          change (true = true) → v 8 = _ at h1
                          change v 5 = _ at h2
                          refine ob_guard 5 true (true) rfl (yields_of rfl h2) (fun hg => ?_) (fun hg => ?_)
                          · refine Yld.gd (p := true = true) (T := TCells (RUnit.cells rv)) ?_
                            replace h0 := h0 hg
                            replace h1 := h1 hg
                            exact yld_indexAt unitEl (.tmp 93) (.tmp 94) rfl _ vs r'.kc h0 k h1 (Hvs.out wq hq) rv Hrv.out
                          · intro hn; rw [hn] at hg; cases hg
                        · intro wq hq hd
                          obtain ⟨h0, h1, -⟩ := hd
                          change (true = true) → (TCells (RUnit.cells rv)).p (v 9) wq at h0
                          change v 5 = _ at h1
                          refine ob_guard 5 true (true) rfl (yields_of rfl h1) (fun hg => ?_) (fun hg => ?_)
                          · refine Yld.gd (p := true = true) (T := Ty.is (.agg (RUnit.cells rv).toArray)) ?_
                            replace h0 := h0 hg
                            exact yld_loadAgg 27 (.tmp 95) rfl Try.isAgg27 8 Try.sizeOf27 (RUnit.cells rv) rfl h0 rfl
                          · intro hn; rw [hn] at hg; cases hg
                        · intro wq hq hd
                          obtain ⟨h0, -⟩ := hd
                          change v 5 = _ at h0
                          refine ob_guard 5 true (true) rfl (yields_of rfl h0) (fun hg => ?_) (fun hg => ?_)
                          · refine Yld.gd (p := true = true) (T := TCells [.slice r.kA rs.length r.kc]) ?_
                            exact yld_field 27 5 (.tmp 2) rfl _ Try.underlying27 _ rfl 1 Try.sizeOf25 (by decide) [.int .i64 r.a, .int .i64 r.i, .int .i64 r.n, .int .i64 r.kind, .string r.label, .slice r.hA r.hn r.hc, .slice r.wA r.wn r.wc, .slice r.kA rs.length r.kc] (Hbr.out _ hq)
                          · intro hn; rw [hn] at hg; cases hg
                        · intro wq hq hd
                          obtain ⟨h0, h1, -⟩ := hd
                          change (true = true) → (TCells [.slice r.kA rs.length r.kc]).p (v 11) wq at h0
                          change v 5 = _ at h1
                          refine ob_guard 5 true (true) rfl (yields_of rfl h1) (fun hg => ?_) (fun hg => ?_)
                          · refine Yld.gd (p := true = true) (T := Ty.is (.slice r.kA rs.length r.kc)) ?_
                            replace h0 := h0 hg
                            exact yld_loadOne 25 (.tmp 97) rfl Try.isAgg25 (c := .slice r.kA rs.length r.kc) h0 rfl
                          · intro hn; rw [hn] at hg; cases hg
                        · intro wq hq hd
                          obtain ⟨h0, -⟩ := hd
                          change v 5 = _ at h0
                          refine ob_guard 5 true (true) rfl (yields_of rfl h0) (fun hg => ?_) (fun hg => ?_)
                          · refine Yld.gd (p := true = true) (T := Ty.is (.int .i64 (ii : Nat))) ?_
                            exact yld_move (.tmp 11) rfl rfl rfl
                          · intro hn; rw [hn] at hg; cases hg
                        · intro wq hq hd
                          obtain ⟨h0, h1, h2, -⟩ := hd
                          change (true = true) → v 12 = _ at h0
                          change (true = true) → v 13 = _ at h1
                          change v 5 = _ at h2
                          refine ob_guard 5 true (true) rfl (yields_of rfl h2) (fun hg => ?_) (fun hg => ?_)
                          · refine Yld.gd (p := true = true) (T := TCells (RUnit.cells ri)) ?_
                            replace h0 := h0 hg
                            replace h1 := h1 hg
                            exact yld_indexAt unitEl (.tmp 98) (.tmp 99) rfl _ rs r.kc h0 ii h1 (Hrs.out wq hq) ri Hri.out
                          · intro hn; rw [hn] at hg; cases hg
                        · intro wq hq hd
                          obtain ⟨h0, h1, -⟩ := hd
                          change (true = true) → (TCells (RUnit.cells ri)).p (v 14) wq at h0
                          change v 5 = _ at h1
                          refine ob_guard 5 true (true) rfl (yields_of rfl h1) (fun hg => ?_) (fun hg => ?_)
                          · refine Yld.gd (p := true = true) (T := Ty.is (.agg (RUnit.cells ri).toArray)) ?_
                            replace h0 := h0 hg
                            exact yld_loadAgg 27 (.tmp 100) rfl Try.isAgg27 8 Try.sizeOf27 (RUnit.cells ri) rfl h0 rfl
                          · intro hn; rw [hn] at hg; cases hg
                        · intro wq hq hd
                          obtain ⟨h0, h1, h2, h3, -⟩ := hd
                          change (true = true) → v 10 = _ at h0
                          change (true = true) → v 15 = _ at h1
                          change v 5 = _ at h2
                          refine ob_guard 5 true (true) rfl (yields_of rfl h2) (fun hg => ?_) (fun hg => ?_)
                          · refine Yld.gd (p := true = true) (T := Ty.is (.bool true)) ?_
                            replace h0 := h0 hg
                            replace h1 := h1 hg
                            refine yld_call 27 Try.call27 _ _ rfl rfl [_, _] ⟨h0, h1, trivial⟩ ?_
                            refine (Hsm2.out wq hq).mono ?_
                            rintro e w' ⟨rfl, hx'⟩
                            exact ⟨_, rfl, hx', by rw [Hb2.out]; rfl⟩
                          · intro hn; rw [hn] at hg; cases hg
                        · intro wq hq hd
                          obtain ⟨h0, h1, -⟩ := hd
                          change v 5 = _ at h0
                          change (true = true) → v 16 = _ at h1
                          refine ob_plain rfl ?_
                          exact yld_and (.tmp 91) (.tmp 102) rfl rfl _ _ h0 (fun hgd => h1 hgd) rfl
                        · intro wq hq hT
                          have k17 := hT 17 (by decide)
                          change v 17 = _ at k17
                          clear hT
                          simp only [List.drop_succ_cons, List.drop_zero, putE, setsE, List.set_cons_succ, List.set_cons_zero, Nat.reduceAdd]
                          rw [k17]
                          have Hz2 := Lib.hid (show z - 1 = (((KD.take (k + 1)).countP (fun x => sameG x KD[ii]) : Nat) : Int) - (((VK.take (k + 1)).countP (fun x => sameG x KD[ii]) : Nat) : Int) from (by simp; try omega : z - 1 = z + (if false = true then 1 else 0) - (if true = true then 1 else 0)).trans Hstep.out)
                          go_wp2
                          go_roundw
                          case rel => exact ⟨k + 1, z - 1, by omega, by omega, by omega, by go_num, by go_num, Hz2, hext24.trans hq⟩
                          case measure => simp [intOf]; omega
                      case false =>
                        go_wp2_with fail
                        refine wp_drawn (by kernel_rfl) (fun i => match i with | 0 => Ty.is (.int .i64 (k : Nat)) | 1 => TCells [.slice r'.kA vs.length r'.kc] | 2 => Ty.is (.slice r'.kA vs.length r'.kc) | 3 => Ty.is (.int .i64 vs.length) | 4 => Ty.is (.bool true) | 5 => Ty.is (.bool true) | 6 => TGd (true = true) (TCells [.slice r'.kA vs.length r'.kc]) | 7 => TGd (true = true) (Ty.is (.slice r'.kA vs.length r'.kc)) | 8 => TGd (true = true) (Ty.is (.int .i64 (k : Nat))) | 9 => TGd (true = true) (TCells (RUnit.cells rv)) | 10 => TGd (true = true) (Ty.is (.agg (RUnit.cells rv).toArray)) | 11 => TGd (true = true) (TCells [.slice r.kA rs.length r.kc]) | 12 => TGd (true = true) (Ty.is (.slice r.kA rs.length r.kc)) | 13 => TGd (true = true) (Ty.is (.int .i64 (ii : Nat))) | 14 => TGd (true = true) (TCells (RUnit.cells ri)) | 15 => TGd (true = true) (Ty.is (.agg (RUnit.cells ri).toArray)) | 16 => TGd (true = true) (Ty.is (.bool false)) | 17 => Ty.is (.bool false) | _ => Ty.any) (by kernel_rfl) rfl ?_
                        intro v
                        refine ⟨?_, ?_, ?_, ?_, ?_, ?_, ?_, ?_, ?_, ?_, ?_, ?_, ?_, ?_, ?_, ?_, ?_, ?_, ?_⟩
                        · intro wq hq hd
                          refine ob_plain rfl ?_
                          exact yld_move (.tmp 13) rfl rfl rfl
                        · intro wq hq hd
                          refine ob_plain rfl ?_
                          exact yld_field 27 5 (.tmp 5) rfl _ Try.underlying27 _ rfl 1 Try.sizeOf25 (by decide) [.int .i64 r'.a, .int .i64 r'.i, .int .i64 r'.n, .int .i64 r'.kind, .string r'.label, .slice r'.hA r'.hn r'.hc, .slice r'.wA r'.wn r'.wc, .slice r'.kA vs.length r'.kc] (Hbv.out _ hq)
                        · intro wq hq hd
                          obtain ⟨h0, -⟩ := hd
                          change (TCells [.slice r'.kA vs.length r'.kc]).p (v 1) wq at h0
                          refine ob_plain rfl ?_
                          exact yld_loadOne 25 (.tmp 87) rfl Try.isAgg25 (c := .slice r'.kA vs.length r'.kc) h0 rfl
                        · intro wq hq hd
                          obtain ⟨h0, -⟩ := hd
                          change v 2 = _ at h0
                          refine ob_plain rfl ?_
                          exact yld_len (.tmp 88) 25 _ Try.underlying25 rfl _ _ _ h0 rfl
                        · intro wq hq hd
                          obtain ⟨h0, h1, -⟩ := hd
                          change v 0 = _ at h0
                          change v 3 = _ at h1
                          refine ob_plain rfl ?_
                          exact yld_binInt .lss 3 3 (.tmp 86) (.tmp 89) rfl _ _ h0 h1 (fun w => by rw [run_lss_i64, decide_eq_true (by omega)]) rfl
                        · intro wq hq hd
                          obtain ⟨h0, -⟩ := hd
                          change v 4 = _ at h0
                          refine ob_plain rfl ?_
                          exact yld_move (.tmp 90) rfl h0 rfl
                        · intro wq hq hd
                          obtain ⟨h0, -⟩ := hd
                          change v 5 = _ at h0
                          refine ob_guard 5 true (true) rfl (yields_of rfl h0) (fun hg => ?_) (fun hg => ?_)
                          · refine Yld.gd (p := true = true) (T := TCells [.slice r'.kA vs.length r'.kc]) ?_
                            exact yld_field 27 5 (.tmp 5) rfl _ Try.underlying27 _ rfl 1 Try.sizeOf25 (by decide) [.int .i64 r'.a, .int .i64 r'.i, .int .i64 r'.n, .int .i64 r'.kind, .string r'.label, .slice r'.hA r'.hn r'.hc, .slice r'.wA r'.wn r'.wc, .slice r'.kA vs.length r'.kc] (Hbv.out _ hq)
                          · intro hn; rw [hn] at hg; cases hg
                        · intro wq hq hd
                          obtain ⟨h0, h1, -⟩ := hd
                          change (true = true) → (TCells [.slice r'.kA vs.length r'.kc]).p (v 6) wq at h0
                          change v 5 = _ at h1
                          refine ob_guard 5 true (true) rfl (yields_of rfl h1) (fun hg => ?_) (fun hg => ?_)
                          · refine Yld.gd (p := true = true) (T := Ty.is (.slice r'.kA vs.length r'.kc)) ?_
                            replace h0 := h0 hg
                            exact yld_loadOne 25 (.tmp 92) rfl Try.isAgg25 (c := .slice r'.kA vs.length r'.kc) h0 rfl
                          · intro hn; rw [hn] at hg; cases hg
                        · intro wq hq hd
                          obtain ⟨h0, -⟩ := hd
                          change v 5 = _ at h0
                          refine ob_guard 5 true (true) rfl (yields_of rfl h0) (fun hg => ?_) (fun hg => ?_)
                          · refine Yld.gd (p := true = true) (T := Ty.is (.int .i64 (k : Nat))) ?_
                            exact yld_move (.tmp 13) rfl rfl rfl
                          · intro hn; rw [hn] at hg; cases hg
                        · intro wq hq hd
                          obtain ⟨h0, h1, h2, -⟩ := hd
                          change (true = true) → v 7 = _ at h0
                          change (true = true) → v 8 = _ at h1
                          change v 5 = _ at h2
                          refine ob_guard 5 true (true) rfl (yields_of rfl h2) (fun hg => ?_) (fun hg => ?_)
                          · refine Yld.gd (p := true = true) (T := TCells (RUnit.cells rv)) ?_
                            replace h0 := h0 hg
                            replace h1 := h1 hg
                            exact yld_indexAt unitEl (.tmp 93) (.tmp 94) rfl _ vs r'.kc h0 k h1 (Hvs.out wq hq) rv Hrv.out
                          · intro hn; rw [hn] at hg; cases hg
                        · intro wq hq hd
                          obtain ⟨h0, h1, -⟩ := hd
                          change (true = true) → (TCells (RUnit.cells rv)).p (v 9) wq at h0
                          change v 5 = _ at h1
                          refine ob_guard 5 true (true) rfl (yields_of rfl h1) (fun hg => ?_) (fun hg => ?_)
                          · refine Yld.gd (p := true = true) (T := Ty.is (.agg (RUnit.cells rv).toArray)) ?_
                            replace h0 := h0 hg
                            exact yld_loadAgg 27 (.tmp 95) rfl Try.isAgg27 8 Try.sizeOf27 (RUnit.cells rv) rfl h0 rfl
                          · intro hn; rw [hn] at hg; cases hg
                        · intro wq hq hd
                          obtain ⟨h0, -⟩ := hd
                          change v 5 = _ at h0
                          refine ob_guard 5 true (true) rfl (yields_of rfl h0) (fun hg => ?_) (fun hg => ?_)
                          · refine Yld.gd (p := true = true) (T := TCells [.slice r.kA rs.length r.kc]) ?_
                            exact yld_field 27 5 (.tmp 2) rfl _ Try.underlying27 _ rfl 1 Try.sizeOf25 (by decide) [.int .i64 r.a, .int .i64 r.i, .int .i64 r.n, .int .i64 r.kind, .string r.label, .slice r.hA r.hn r.hc, .slice r.wA r.wn r.wc, .slice r.kA rs.length r.kc] (Hbr.out _ hq)
                          · intro hn; rw [hn] at hg; cases hg
                        · intro wq hq hd
                          obtain ⟨h0, h1, -⟩ := hd
                          change (true = true) → (TCells [.slice r.kA rs.length r.kc]).p (v 11) wq at h0
                          change v 5 = _ at h1
                          refine ob_guard 5 true (true) rfl (yields_of rfl h1) (fun hg => ?_) (fun hg => ?_)
                          · refine Yld.gd (p := true = true) (T := Ty.is (.slice r.kA rs.length r.kc)) ?_
                            replace h0 := h0 hg
                            exact yld_loadOne 25 (.tmp 97) rfl Try.isAgg25 (c := .slice r.kA rs.length r.kc) h0 rfl
                          · intro hn; rw [hn] at hg; cases hg
                        · intro wq hq hd
                          obtain ⟨h0, -⟩ := hd
                          change v 5 = _ at h0
                          refine ob_guard 5 true (true) rfl (yields_of rfl h0) (fun hg => ?_) (fun hg => ?_)
                          · refine Yld.gd (p := true = true) (T := Ty.is (.int .i64 (ii : Nat))) ?_
                            exact yld_move (.tmp 11) rfl rfl rfl
                          · intro hn; rw [hn] at hg; cases hg
                        · intro wq hq hd
                          obtain ⟨h0, h1, h2, -⟩ := hd
                          change (true = true) → v 12 = _ at h0
                          change (true = true) → v 13 = _ at h1
                          change v 5 = _ at h2
                          refine ob_guard 5 true (true) rfl (yields_of rfl h2) (fun hg => ?_) (fun hg => ?_)
                          · refine Yld.gd (p := true = true) (T := TCells (RUnit.cells ri)) ?_
                            replace h0 := h0 hg
                            replace h1 := h1 hg
                            exact yld_indexAt unitEl (.tmp 98) (.tmp 99) rfl _ rs r.kc h0 ii h1 (Hrs.out wq hq) ri Hri.out
                          · intro hn; rw [hn] at hg; cases hg
                        · intro wq hq hd
                          obtain ⟨h0, h1, -⟩ := hd
                          change (true = true) → (TCells (RUnit.cells ri)).p (v 14) wq at h0
                          change v 5 = _ at h1
                          refine ob_guard 5 true (true) rfl (yields_of rfl h1) (fun hg => ?_) (fun hg => ?_)
                          · refine Yld.gd (p := true = true) (T := Ty.is (.agg (RUnit.cells ri).toArray)) ?_
                            replace h0 := h0 hg
                            exact yld_loadAgg 27 (.tmp 100) rfl Try.isAgg27 8 Try.sizeOf27 (RUnit.cells ri) rfl h0 rfl
                          · intro hn; rw [hn] at hg; cases hg
                        · intro wq hq hd
                          obtain ⟨h0, h1, h2, h3, -⟩ := hd
                          change (true = true) → v 10 = _ at h0
                          change (true = true) → v 15 = _ at h1
                          change v 5 = _ at h2
                          refine ob_guard 5 true (true) rfl (yields_of rfl h2) (fun hg => ?_) (fun hg => ?_)
                          · refine Yld.gd (p := true = true) (T := Ty.is (.bool false)) ?_
                            replace h0 := h0 hg
                            replace h1 := h1 hg
                            refine yld_call 27 Try.call27 _ _ rfl rfl [_, _] ⟨h0, h1, trivial⟩ ?_
                            refine (Hsm2.out wq hq).mono ?_
                            rintro e w' ⟨rfl, hx'⟩
                            exact ⟨_, rfl, hx', by rw [Hb2.out]; rfl⟩
                          · intro hn; rw [hn] at hg; cases hg
                        · intro wq hq hd
                          obtain ⟨h0, h1, -⟩ := hd
                          change v 5 = _ at h0
                          change (true = true) → v 16 = _ at h1
                          refine ob_plain rfl ?_
                          exact yld_and (.tmp 91) (.tmp 102) rfl rfl _ _ h0 (fun hgd => h1 hgd) rfl
                        · intro wq hq hT
                          have k17 := hT 17 (by decide)
                          change v 17 = _ at k17
                          clear hT
                          simp only [List.drop_succ_cons, List.drop_zero, putE, setsE, List.set_cons_succ, List.set_cons_zero, Nat.reduceAdd]
                          rw [k17]
                          have Hz2 := Lib.hid (show z = (((KD.take (k + 1)).countP (fun x => sameG x KD[ii]) : Nat) : Int) - (((VK.take (k + 1)).countP (fun x => sameG x KD[ii]) : Nat) : Int) from (by simp; try omega : z = z + (if false = true then 1 else 0) - (if false = true then 1 else 0)).trans Hstep.out)
                          go_wp2
                          go_roundw
                          case rel => exact ⟨k + 1, z, by omega, by omega, by omega, by go_num, by go_num, Hz2, hext24.trans hq⟩
                          case measure => simp [intOf]; omega
                · have hke : k = rs.length := by omega
                  have hz0 : z = 0 := by
                    have h1 := Hz.out
                    rw [List.take_of_length_le (by have := Hrl.out; omega), List.take_of_length_le (by have := Hvl.out; have := Hvl2.out; omega), Hcnt.out] at h1
                    omega
                  have d2 : decide ((k : Int) < (rs.length : Int)) = false := decide_eq_false (by omega)
                  subst hz0
                  clear hke
                  go_wp2
                  go_roundw
                  case rel => exact ⟨ii + 1, by omega, by go_num, hexo.trans hext⟩
                  case measure => simp [intOf]; omega
            · have d1 : decide ((ii : Int) < (rs.length : Int)) = false := decide_eq_false (by omega)
              have hx4o := hx48.trans hexo
              have hx2o := hx28.trans hexo
              have Hbt5 := Lib.hid (show ∀ w', Ext wo w' → (TCells (RUnit.cells r')).p (.pointer (some ⟨w3.heap.size, 0, none⟩)) w' from fun w' he => Hbt'.out w' (hx4o.trans he))
              have Hbt2 := Lib.hid (show ∀ w', Ext wo w' → (TCells (RUnit.cells r)).p (.pointer (some ⟨w.heap.size, 0, none⟩)) w' from fun w' he => Hb.out w' (hx2o.trans he))
              have Hbt9 := Lib.hid (show ∀ w', Ext wo w' → (TCells (RUnit.cells rr)).p (.pointer (some ⟨w7.heap.size, 0, none⟩)) w' from fun w' he => Hbt9a.out w' (hexo.trans he))
              have HrV := Lib.hid (show ∀ w', Ext wo w' → Reads w' V r' from fun w' he => Hr'.out w' (hx34.trans (hx4o.trans he)))
              have HrV9 := Lib.hid (show ∀ w', Ext wo w' → Reads w' V rr from fun w' he => HrV9a.out w' (hx78.trans (hexo.trans he)))
              have Hrsort := Lib.hid (show ∀ w', Ext wo w' → _ from fun w' he => Hrs0.out w' (hx2o.trans he))
              go_wp2_with fail
              refine wp_drawn (by kernel_rfl) (fun i => match i with | 0 => Ty.is (.agg (RUnit.cells r').toArray) | 1 => Ty.is (.agg (RUnit.cells r).toArray) | 2 => Ty.is (.int .i64 (j : Nat)) | 3 => TRead V | 4 => Ty.is (.bool true) | 5 => Ty.is (.bool true) | 6 => TGd (true = true) (Ty.is (.bool true)) | 7 => Ty.is (.bool true) | 8 => Ty.is (.bool true) | 9 => TGd (true = true) (Ty.is (.agg (RUnit.cells rr).toArray)) | 10 => TGd (true = true) (Ty.is (.agg (RUnit.cells r').toArray)) | 11 => TGd (true = true) (Ty.is (.bool true)) | 12 => Ty.is (.bool true) | 13 => Ty.is (.bool true) | _ => Ty.any) (by kernel_rfl) rfl ?_
              intro v
              refine ⟨?_, ?_, ?_, ?_, ?_, ?_, ?_, ?_, ?_, ?_, ?_, ?_, ?_, ?_, ?_⟩
              · intro wq hq hd
                refine ob_plain rfl ?_
                exact yld_loadAgg 27 (.tmp 5) rfl Try.isAgg27 8 Try.sizeOf27 (RUnit.cells r') rfl (Hbt5.out _ hq) rfl
              · intro wq hq hd
                refine ob_plain rfl ?_
                exact yld_loadAgg 27 (.tmp 2) rfl Try.isAgg27 8 Try.sizeOf27 (RUnit.cells r) rfl (Hbt2.out _ hq) rfl
              · intro wq hq hd
                refine ob_plain rfl ?_
                exact yld_move (.tmp 1) rfl rfl rfl
              · intro wq hq hd
                obtain ⟨h0, h1, -⟩ := hd
                change v 1 = _ at h0
                change v 2 = _ at h1
                refine ob_plain rfl ?_
                refine yld_call 30 Try.call30 _ _ rfl rfl [_, _] ⟨h0, h1, trivial⟩ ?_
                refine (Hrsort.out wq hq).mono ?_
                rintro e w' ⟨r1, rfl, hx', hr1⟩
                exact ⟨_, rfl, hx', r1, rfl, hr1⟩
              · intro wq hq hd
                obtain ⟨h0, h1, h2, -⟩ := hd
                change v 0 = _ at h0
                change (TRead V).p (v 3) wq at h1
                refine ob_plain rfl ?_
                obtain ⟨r1, hv1, hr1⟩ := h1
                refine yld_call 27 Try.call27 _ _ rfl rfl [_, _] ⟨h0, hv1, trivial⟩ ?_
                refine (same9_eq _ V r' r1 wq (Nat.le_refl _) (HrV.out wq hq) hr1 HVl.out).mono ?_
                rintro e w' ⟨rfl, hx'⟩
                exact ⟨_, rfl, hx', rfl⟩
              · intro wq hq hd
                obtain ⟨h0, h1, -⟩ := hd
                change v 4 = _ at h0
                refine ob_plain rfl ?_
                exact yld_move (.tmp 112) rfl h0 rfl
              · intro wq hq hd
                obtain ⟨h0, -⟩ := hd
                change v 5 = _ at h0
                refine ob_guard 5 true (true) rfl (yields_of rfl h0) (fun hg => ?_) (fun hg => ?_)
                · refine Yld.gd (p := true = true) (T := Ty.is (.bool true)) ?_
                  exact yld_move (.tmp 10) rfl rfl rfl
                · intro hn; rw [hn] at hg; cases hg
              · intro wq hq hd
                obtain ⟨h0, h1, -⟩ := hd
                change v 5 = _ at h0
                change (true = true) → v 6 = _ at h1
                refine ob_plain rfl ?_
                exact yld_and (.tmp 113) (.tmp 114) rfl rfl _ _ h0 (fun hgd => h1 hgd) rfl
              · intro wq hq hd
                obtain ⟨h0, h1, -⟩ := hd
                change v 7 = _ at h0
                refine ob_plain rfl ?_
                exact yld_move (.tmp 115) rfl h0 rfl
              · intro wq hq hd
                obtain ⟨h0, -⟩ := hd
                change v 8 = _ at h0
                refine ob_guard 8 true (true) rfl (yields_of rfl h0) (fun hg => ?_) (fun hg => ?_)
                · refine Yld.gd (p := true = true) (T := Ty.is (.agg (RUnit.cells rr).toArray)) ?_
                  exact yld_loadAgg 27 (.tmp 9) rfl Try.isAgg27 8 Try.sizeOf27 (RUnit.cells rr) rfl (Hbt9.out _ hq) rfl
                · intro hn; rw [hn] at hg; cases hg
              · intro wq hq hd
                obtain ⟨h0, -⟩ := hd
                change v 8 = _ at h0
                refine ob_guard 8 true (true) rfl (yields_of rfl h0) (fun hg => ?_) (fun hg => ?_)
                · refine Yld.gd (p := true = true) (T := Ty.is (.agg (RUnit.cells r').toArray)) ?_
                  exact yld_loadAgg 27 (.tmp 5) rfl Try.isAgg27 8 Try.sizeOf27 (RUnit.cells r') rfl (Hbt5.out _ hq) rfl
                · intro hn; rw [hn] at hg; cases hg
              · intro wq hq hd
                obtain ⟨h0, h1, h2, h3, -⟩ := hd
                change (true = true) → v 9 = _ at h0
                change (true = true) → v 10 = _ at h1
                change v 8 = _ at h2
                refine ob_guard 8 true (true) rfl (yields_of rfl h2) (fun hg => ?_) (fun hg => ?_)
                · refine Yld.gd (p := true = true) (T := Ty.is (.bool true)) ?_
                  replace h0 := h0 hg
                  replace h1 := h1 hg
                  refine yld_call 27 Try.call27 _ _ rfl rfl [_, _] ⟨h0, h1, trivial⟩ ?_
                  refine (same9_eq _ V rr r' wq (Nat.le_refl _) (HrV9.out wq hq) (HrV.out wq hq) HVl.out).mono ?_
                  rintro e w' ⟨rfl, hx'⟩
                  exact ⟨_, rfl, hx', rfl⟩
                · intro hn; rw [hn] at hg; cases hg
              · intro wq hq hd
                obtain ⟨h0, h1, -⟩ := hd
                change v 8 = _ at h0
                change (true = true) → v 11 = _ at h1
                refine ob_plain rfl ?_
                exact yld_and (.tmp 116) (.tmp 119) rfl rfl _ _ h0 (fun hgd => h1 hgd) rfl
              · intro wq hq hd
                obtain ⟨h0, h1, h2, h3, h4, h5, h6, h7, h8, h9, h10, h11, h12, h13, h14, -⟩ := hd
                change v 12 = _ at h0
                refine ob_plain rfl ?_
                exact yld_assign (.tmp 120) rfl h0 rfl
              · intro wq hq hT
                have k13 := hT 13 (by decide)
                change v 13 = _ at k13
                clear hT
                simp only [List.drop_succ_cons, List.drop_zero, putE, setsE, List.set_cons_succ, List.set_cons_zero, Nat.reduceAdd]
                rw [k13]
                go_wp2
                go_ret
                exact ⟨rfl, hw0.trans (hx2o.trans hq)⟩

end Go.Proofs.Ythjlnpcanccmkaa
