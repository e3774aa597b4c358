/- The law on the lines of a table without bars and spaces in its words. -/
import Derived.Test.YthjlnpcanccmkaaTabFmt9
import Derived.Test.YthjlnpcanccmkaaLinesF9
namespace Go.Proofs.Ythjlnpcanccmkaa
open Go.RowKit

theorem thereB_of2 {u : GUnit} (hv : validB u = true) {i k : Nat} (hi : i < u.kids.length) (hk : k < ncols u) : thereB u (i : Nat) (k : Nat) = true := by
  have h := validB_parts hv
  unfold thereB withinB rowsF colsF
  rw [if_pos hv, if_pos hv]
  simp
  omega
theorem formatF_rows {u : GUnit} (hv : validB u = true) : rowsF u = (formatF u).length := by
  have h := (validB_parts hv).2.2.1
  unfold rowsF formatF colsF
  rw [if_pos hv, if_pos hv, if_neg (by omega), List.length_map]
theorem cellWords_in {u : GUnit} (i j : Nat) (h : AllU nodeOk u) : (cellWords i j u).length ≤ 300 ∧ ∀ x ∈ cellWords i j u, x.t.size ≤ 100 := by
  unfold cellWords
  split
  · rename_i x hx
    obtain ⟨hi, rfl⟩ := List.getElem?_eq_some_iff.1 hx
    split
    · rename_i c hc
      obtain ⟨hj, rfl⟩ := List.getElem?_eq_some_iff.1 hc
      exact nodeOk_words (nodeOk_kid (nodeOk_kid h i hi) j hj)
    · exact ⟨by simp, fun x hx => by simp at hx⟩
  · exact ⟨by simp, fun x hx => by simp at hx⟩
theorem cellWords_len {u : GUnit} (i j : Nat) (h : AllU nodeOk u) : (cellWords i j u).length ≤ 300 := (cellWords_in i j h).1
theorem cellWords_size {u : GUnit} (i j : Nat) (h : AllU nodeOk u) : ∀ x ∈ cellWords i j u, x.t.size ≤ 100 := (cellWords_in i j h).2
theorem formatF_size {u : GUnit} (h : AllU nodeOk u) (hv : validB u = true) : ∀ s ∈ formatF u, s.size ≤ 30303 * 64 := by
  intro s hs
  unfold formatF at hs
  split at hs
  · cases hs
  · obtain ⟨x, hx, rfl⟩ := List.mem_map.1 hs
    obtain ⟨i, hi, rfl⟩ := List.mem_iff_getElem.1 hx
    exact lineF_size h hv hi
theorem widthsF_bound {u : GUnit} (h : AllU nodeOk u) : ∀ d ∈ widthsF u, 0 ≤ d ∧ d ≤ 30300 := by
  intro d hd
  obtain ⟨k, hk, rfl⟩ := List.mem_map.1 hd
  have := widest_le (columnF_size h (k : Nat))
  omega

set_option maxRecDepth 100000 in
set_option maxHeartbeats 3200000 in
theorem tableLines_law (u : GUnit) (r : RUnit) (w : World) (hr : Reads w u r) (hbig : AllU (lensLe 9223372036854775807 9223372036854775807) u) :
    Calls Try.prog 4 #[.agg r.cells.toArray] w fun e w' => e = .returned (.bool true) ∧ Ext w w' := by
  have hx0 : Ext w (w.alloc (.cells r.cells.toArray 27)) := (Ext.refl w).alloc _
  have Hbu := Lib.hid (show ∀ w', Ext (w.alloc (.cells r.cells.toArray 27)) w' → _ from fun w' he => boxUnit (w' := w') r (w := w) he)
  have Hbt := Lib.hid (show ∀ w', Ext (w.alloc (.cells r.cells.toArray 27)) w' → _ from fun w' he => boxT (w' := w') r (w := w) he)
  have Hbigc := Lib.hid (show ∀ w', Ext w w' → _ from fun w' he => big_any u r w' (Reads.ext he _ _ hr) hbig)
  have Hru := Lib.hid (show ∀ w', Ext w w' → _ from fun w' he => Reads.ext he _ _ hr)
  obtain ⟨wz, hwz⟩ : ∃ wz, w.alloc (.cells r.cells.toArray 27) = wz := ⟨_, rfl⟩
  rw [hwz] at hx0 Hbu Hbt
  simp only [RUnit.cells] at hwz
  have Hwz := Lib.hid hwz
  simp only [RUnit.cells] at Hbigc Hbt ⊢
  clear hwz hbig hr
  go_enter Try.func4, Try.ntmps4
  go_wp2_with fail
  rw [Hwz.out]
  refine (awake9_any _).mono ?_
  rintro e w1 ⟨rfl, hx1⟩
  obtain ⟨-, u0, u1, u2, u3, u4, u5, u6, u7⟩ := Hbu.out w1 hx1
  go_wp2_with fail
  refine (Hbigc.out w1 (hx0.trans hx1)).mono ?_
  rintro e w2 ⟨b, rfl, hb, hx2⟩
  have hxz : Ext wz w2 := hx1.trans hx2
  have hw0 : Ext w w2 := hx0.trans hxz
  clear u0 u1 u2 u3 u4 u5 u6 u7 Hbigc hx0 hx1 hx2
  cases b
  case true =>
    clear hb
    go_wp2
    go_ret
    exact ⟨rfl, hw0⟩
  case false =>
    have hsm := hb rfl
    clear hb
    have Hb := Lib.hid (show ∀ w', Ext w2 w' → _ from fun w' he => Hbt.out w' (hxz.trans he))
    have Hbq := Lib.hid (show ∀ w', Ext w2 w' → _ from fun w' he => Hbu.out w' (hxz.trans he))
    have Hr := Lib.hid (show ∀ w', Ext w2 w' → _ from fun w' he => Hru.out w' (hw0.trans he))
    clear Hbt Hbu Hru
    have Hs1 := Lib.hid (show ∀ w', Ext w2 w' → _ from fun w' he => size_any u r w' (Hr.out w' he) (smallU_lens hsm))
    have Hv2 := Lib.hid (show ∀ w', Ext w2 w' → _ from fun w' he => may_any u r w' (Hr.out w' he) (smallU_lens hsm))
    have Hfm := Lib.hid (show ∀ w', Ext w2 w' → _ from fun w' he => format_any u r w' (Hr.out w' he) hsm)
    have Hwd := Lib.hid (show ∀ w', Ext w2 w' → _ from fun w' he => widths_any u r w' (Hr.out w' he) hsm)
    obtain ⟨-, u0, u1, u2, u3, u4, u5, u6, u7⟩ := Hbq.out w2 (Ext.refl w2)
    simp only [RUnit.cells] at Hs1 Hv2 Hfm Hwd
    cases hv : validB u
    case false =>
      rw [hv] at Hv2
      clear hsm hv
      go_wp2_with fail
      refine (Hv2.out w2 (Ext.refl _)).mono ?_
      rintro e w3 ⟨rfl, hx3⟩
      go_wp2
      go_ret
      exact ⟨rfl, hw0.trans hx3⟩
    case true =>
      have hk60 := kids_small hsm
      have hcols := (validB_parts hv).2.2.1
      have hrow : rowsF u = (formatF u).length := formatF_rows hv
      have hcol : colsF u = (widthsF u).length := (widthsF_length u).symm
      have hnc : ncols u = (widthsF u).length := by rw [widthsF_length]; exact (if_pos hv).symm
      have hkl : u.kids.length = (formatF u).length := by rw [← hrow]; exact (if_pos hv).symm
      have hpath : ∀ i j : Nat, i < (formatF u).length → j < (widthsF u).length → PathTo w2 r i j (cellWords i j u) := fun i j h1 h2 => cell_path (Hr.out w2 (Ext.refl _)) (thereB_of2 hv (by omega) (by omega))
      have hlaw : (∀ i j : Nat, i < (formatF u).length → j < (widthsF u).length → noBar (cellWords i j u)) → ∀ s ∈ formatF u, lineOk (widthsF u).length (widthsF u) s := fun h => by
        rw [← hnc]
        exact lines_law hv (fun i k h1 h2 => h i k (by omega) (by omega))
      have hws : ∀ i j : Nat, ∀ x ∈ cellWords i j u, x.t.size ≤ 100 := fun i j => cellWords_size i j hsm.2
      have hwn : ∀ i j : Nat, (cellWords i j u).length ≤ 300 := fun i j => cellWords_len i j hsm.2
      have hls : ∀ s ∈ formatF u, s.size ≤ 30303 * 64 := formatF_size hsm.2 hv
      have hds := widthsF_bound (u := u) hsm.2
      rw [hrow, hcol] at Hs1
      rw [hv] at Hv2
      rw [hkl] at hk60
      rw [hnc] at hcols
      obtain ⟨F, hF⟩ : ∃ F, formatF u = F := ⟨_, rfl⟩
      obtain ⟨D, hD⟩ : ∃ D, widthsF u = D := ⟨_, rfl⟩
      obtain ⟨cw, hcw⟩ : ∃ cw : Nat → Nat → List GWord, (fun i j => cellWords i j u) = cw := ⟨_, rfl⟩
      have hcw2 : ∀ i j, cellWords i j u = cw i j := fun i j => congrFun (congrFun hcw i) j
      simp only [hcw2] at hpath hlaw hws hwn
      rw [hF] at Hs1 Hfm hpath hlaw hls hk60
      rw [hD] at Hs1 Hwd hpath hlaw hcols hds
      have Hpath := Lib.hid hpath
      have Hlaw := Lib.hid hlaw
      have Hws := Lib.hid hws
      have Hwn := Lib.hid hwn
      have Hls := Lib.hid hls
      have Hds := Lib.hid hds
      obtain ⟨hD1, hD2⟩ := hcols
      clear hpath hlaw hws hwn hls hds hF hD hcw hcw2 hrow hcol hnc hkl hv hsm
      go_wp2_with fail
      refine (Hv2.out w2 (Ext.refl _)).mono ?_
      rintro e w3 ⟨rfl, hx3⟩
      clear u0 u1 u2 u3 u4 u5 u6 u7
      obtain ⟨-, u0, u1, u2, u3, u4, u5, u6, u7⟩ := Hbq.out w3 hx3
      go_wp2_with fail
      refine (Hs1.out w3 hx3).mono ?_
      rintro e w4 ⟨rfl, hx4⟩
      have hx24 := hx3.trans hx4
      clear u0 u1 u2 u3 u4 u5 u6 u7
      go_wp2
      go_loopw [5] (fun i wr => ∃ k : Nat, k ≤ F.length ∧ i = .int .i64 k ∧ Hid (∀ i' j', i' < k → j' < D.length → noBar (cw i' j')) ∧ Ext w4 wr) (fun i _ => F.length - (intOf i).toNat)
      case atStart => exact ⟨0, Nat.zero_le _, rfl, Lib.hid (fun i' j' h => absurd h (by omega)), Ext.refl _⟩
      case round =>
        obtain ⟨ki, hki, rfl, Hnb, hext⟩ := hrel
        by_cases hlt : ki < F.length
        · obtain ⟨wo, hwo⟩ : ∃ wo, wo = wr := ⟨_, rfl⟩
          subst hwo
          go_wp2
          go_loopw [6] (fun i wr => ∃ k : Nat, k ≤ D.length ∧ i = .int .i64 k ∧ Hid (∀ j', j' < k → noBar (cw ki j')) ∧ Ext wo wr) (fun i _ => D.length - (intOf i).toNat)
          case atStart => exact ⟨0, Nat.zero_le _, rfl, Lib.hid (fun j' h => absurd h (by omega)), Ext.refl _⟩
          case round =>
            obtain ⟨kj, hkj, rfl, Hnb2, hext2⟩ := hrel
            by_cases hlt2 : kj < D.length
            · obtain ⟨wp, hwp⟩ : ∃ wp, wp = wr := ⟨_, rfl⟩
              subst hwp
              have hx2p := hx24.trans (hext.trans hext2)
              obtain ⟨b, off, b2, off2, m, mc, A, c, p1, p2, p3, p4, p5, p6, p7, p8, p9⟩ := (Hpath.out ki kj hlt hlt2).ext hx2p
              obtain ⟨-, u0, u1, u2, u3, u4, u5, u6, f7⟩ := Hbq.out wp hx2p
              rw [p1] at f7
              have d1 : decide ((ki : Int) < (r.kn : Int)) = true := decide_eq_true (by omega)
              have d2 : decide ((kj : Int) < (m : Int)) = true := decide_eq_true (by omega)
              have Hsz := Lib.hid (Hws.out ki kj)
              have hln := Hwn.out ki kj
              obtain ⟨l, hl⟩ : ∃ l, cw ki kj = l := ⟨_, rfl⟩
              rw [hl] at p7 p8 p9 hln Hsz
              have Hl := Lib.hid hl
              clear u0 u1 u2 u3 u4 u5 u6 p1 hl
              go_wp2
              clear f7 p4 p7
              go_loopw [8] (fun i wr => ∃ k : Nat, k ≤ l.length ∧ i = .int .i64 k ∧ Hid (noBar (l.take k)) ∧ Ext wp wr) (fun i _ => l.length - (intOf i).toNat)
              case atStart => exact ⟨0, Nat.zero_le _, rfl, Lib.hid (fun x h => by simp at h), Ext.refl _⟩
              case round =>
                obtain ⟨kw, hkw, rfl, Hnb3, hext3⟩ := hrel
                by_cases hlt3 : kw < l.length
                · obtain ⟨wq, hwq⟩ : ∃ wq, wq = wr := ⟨_, rfl⟩
                  subst hwq
                  have hxs := Hsz.out _ (List.getElem_mem hlt3)
                  have hsl := p8.ext hext3
                  obtain ⟨b3, off3, rfl, hb3, hc3, -, -, -⟩ := wordAt hsl hlt3
                  obtain ⟨x, hx⟩ : ∃ x, l[kw].t = x := ⟨_, rfl⟩
                  rw [hx] at hc3 hxs
                  have Hx := Lib.hid hx
                  clear hx hsl
                  go_wp2
                  go_loopw [9] (fun i wr => ∃ k : Nat, k ≤ x.size ∧ i = .int .i64 k ∧ Hid ((124 : UInt8) ∉ x.data.toList.take k) ∧ Ext wq wr) (fun i _ => x.size - (intOf i).toNat)
                  case atStart => exact ⟨0, Nat.zero_le _, rfl, Lib.hid (by simp), Ext.refl _⟩
                  case round =>
                    obtain ⟨kc, hkc, rfl, Hnb4, hext4⟩ := hrel
                    have c3 := (hext4.cell (p := ⟨b3, off3 + kw * 4, none⟩) hb3).trans hc3
                    by_cases hlt4 : kc < x.size
                    · obtain ⟨y, hy⟩ : ∃ y : UInt8, x[kc] = y := ⟨_, rfl⟩
                      have hyl : x.data.toList.take (kc + 1) = x.data.toList.take kc ++ [y] := by
                        rw [← hy]
                        exact List.take_succ_eq_append_getElem (by rw [Array.length_toList]; exact hlt4)
                      by_cases h124 : y = 124
                      · have d3 : ((y.toNat : Int) == 124) = true := by rw [h124]; rfl
                        clear hyl h124
                        go_wp2
                        go_ret
                        exact ⟨rfl, hw0.trans (hx2p.trans (hext3.trans hext4))⟩
                      · have d3 : ((y.toNat : Int) == 124) = false := beq_eq_false_iff_ne.2 (fun h => h124 (UInt8.toNat.inj (by show y.toNat = 124; omega)))
                        have Hnew := Lib.hid (show (124 : UInt8) ∉ x.data.toList.take (kc + 1) by
                          rw [hyl]
                          intro h
                          rcases List.mem_append.1 h with h | h
                          · exact Hnb4.out h
                          · exact h124 (List.mem_singleton.1 h).symm)
                        by_cases h32 : y = 32
                        · have d4 : ((y.toNat : Int) == 32) = true := by rw [h32]; rfl
                          clear hyl h124 h32
                          go_wp2
                          go_ret
                          exact ⟨rfl, hw0.trans (hx2p.trans (hext3.trans hext4))⟩
                        · have d4 : ((y.toNat : Int) == 32) = false := beq_eq_false_iff_ne.2 (fun h => h32 (UInt8.toNat.inj (by show y.toNat = 32; omega)))
                          clear hyl h124 h32
                          go_wp2
                          go_roundw
                          case rel => exact ⟨kc + 1, by omega, by go_num, Hnew, hext4⟩
                          case measure => simp [intOf]; omega
                    · have hkx : kc = x.size := by omega
                      have hxb : (124 : UInt8) ∉ x.data.toList := by
                        have h := Hnb4.out
                        rwa [List.take_of_length_le (by rw [Array.length_toList]; exact Nat.le_of_not_lt hlt4)] at h
                      have Hnew := Lib.hid (show noBar (l.take (kw + 1)) by
                        rw [List.take_succ_eq_append_getElem hlt3]
                        intro z hz
                        rcases List.mem_append.1 hz with hz | hz
                        · exact Hnb3.out z hz
                        · rw [List.mem_singleton.1 hz, Hx.out]
                          exact hxb)
                      clear hkx hxb
                      go_wp2
                      go_roundw
                      case rel => exact ⟨kw + 1, by omega, by go_num, Hnew, hext3.trans hext4⟩
                      case measure => simp [intOf]; omega
                · have Hnew := Lib.hid (show ∀ j', j' < kj + 1 → noBar (cw ki j') from fun j' hj => by
                    rcases Nat.lt_or_eq_of_le (Nat.le_of_lt_succ hj) with h | h
                    · exact Hnb2.out j' h
                    · rw [h, Hl.out]
                      have h2 := Hnb3.out
                      rwa [List.take_of_length_le (Nat.le_of_not_lt hlt3)] at h2)
                  go_wp2
                  go_roundw
                  case rel => exact ⟨kj + 1, by omega, by go_num, Hnew, hext2.trans hext3⟩
                  case measure => simp [intOf]; omega
            · have Hnew := Lib.hid (show ∀ i' j', i' < ki + 1 → j' < D.length → noBar (cw i' j') from fun i' j' hi hj => by
                rcases Nat.lt_or_eq_of_le (Nat.le_of_lt_succ hi) with h | h
                · exact Hnb.out i' j' h hj
                · rw [h]; exact Hnb2.out j' (by omega))
              go_wp2
              go_roundw
              case rel => exact ⟨ki + 1, by omega, by go_num, Hnew, hext.trans hext2⟩
              case measure => simp [intOf]; omega
        · have Hlok := Lib.hid (Hlaw.out (fun i' j' h1 h2 => Hnb.out i' j' (by omega) h2))
          have hx2r := hx24.trans hext
          clear Hlaw Hnb Hpath Hws Hwn
          go_wp2
          refine wp_drawn (by kernel_rfl) (fun i => match i with | 0 => Ty.is (.agg #[.int .i64 r.a, .int .i64 r.i, .int .i64 r.n, .int .i64 r.kind, .string r.label, .slice r.hA r.hn r.hc, .slice r.wA r.wn r.wc, .slice r.kA r.kn r.kc]) | 1 => TSl strEl F | 2 => Ty.is (.agg #[.int .i64 r.a, .int .i64 r.i, .int .i64 r.n, .int .i64 r.kind, .string r.label, .slice r.hA r.hn r.hc, .slice r.wA r.wn r.wc, .slice r.kA r.kn r.kc]) | 3 => TSl intEl D | 4 => TSl strEl F | 5 => TSl intEl D | _ => Ty.any) (by kernel_rfl) rfl ?_
          intro v
          refine ⟨?_, ?_, ?_, ?_, ?_, ?_, ?_⟩
          · intro wq hq hd
            refine ob_plain rfl ?_
            exact yld_loadAgg 27 (.tmp 1) rfl Try.isAgg27 8 Try.sizeOf27 [.int .i64 r.a, .int .i64 r.i, .int .i64 r.n, .int .i64 r.kind, .string r.label, .slice r.hA r.hn r.hc, .slice r.wA r.wn r.wc, .slice r.kA r.kn r.kc] rfl (Hb.out _ (hx2r.trans hq)) rfl
          · intro wq hq hd
            obtain ⟨h0, -⟩ := hd
            change v 0 = _ at h0
            refine ob_plain rfl ?_
            refine yld_call 12 Try.call12 _ _ rfl rfl [_] ⟨h0, trivial⟩ ?_
            refine (Hfm.out _ (hx2r.trans hq)).mono ?_
            rintro e w' ⟨v', rfl, hown, hx'⟩
            obtain ⟨A3, c3, rfl, hc3, hs3⟩ := hown.form
            exact ⟨_, rfl, hx', A3, c3, rfl, hc3, hs3⟩
          · intro wq hq hd
            refine ob_plain rfl ?_
            exact yld_loadAgg 27 (.tmp 1) rfl Try.isAgg27 8 Try.sizeOf27 [.int .i64 r.a, .int .i64 r.i, .int .i64 r.n, .int .i64 r.kind, .string r.label, .slice r.hA r.hn r.hc, .slice r.wA r.wn r.wc, .slice r.kA r.kn r.kc] rfl (Hb.out _ (hx2r.trans hq)) rfl
          · intro wq hq hd
            obtain ⟨h0, h1, -⟩ := hd
            change v 2 = _ at h0
            refine ob_plain rfl ?_
            refine yld_call 15 Try.call15 _ _ rfl rfl [_] ⟨h0, trivial⟩ ?_
            refine (Hwd.out _ (hx2r.trans hq)).mono ?_
            rintro e w' ⟨v', rfl, hown, hx'⟩
            obtain ⟨A3, c3, rfl, hc3, hs3⟩ := hown.form
            exact ⟨_, rfl, hx', A3, c3, rfl, hc3, hs3⟩
          · intro wq hq hd
            obtain ⟨h0, h1, h2, h3, -⟩ := hd
            change (TSl strEl F).p (v 1) wq at h0
            refine ob_plain rfl ?_
            exact yld_assign (.tmp 86) rfl rfl h0
          · intro wq hq hd
            obtain ⟨h0, h1, h2, h3, h4, h5, h6, -⟩ := hd
            change (TSl intEl D).p (v 3) wq at h0
            refine ob_plain rfl ?_
            exact yld_assign (.tmp 88) rfl rfl h0
          · intro wq hq hT
            have k4 := hT 4 (by decide)
            change (TSl strEl F).p (v 4) wq at k4
            have k5 := hT 5 (by decide)
            change (TSl intEl D).p (v 5) wq at k5
            clear hT
            simp only [List.drop_succ_cons, List.drop_zero, putE, setsE, List.set_cons_succ, List.set_cons_zero, Nat.reduceAdd]
            generalize v 4 = x4 at k4 ⊢
            generalize v 5 = x5 at k5 ⊢
            obtain ⟨A4, c4, rfl, -, hs4⟩ := k4
            obtain ⟨A5, c5, rfl, -, hs5⟩ := k5
            have hx2s := hx2r.trans hq
            obtain ⟨ws, hws⟩ : ∃ ws, ws = wq := ⟨_, rfl⟩
            subst hws
            have hDl : 1 ≤ (D.length : Int) := by omega
            have hDl2 : (D.length : Int) ≤ 64 := by omega
            go_wp2
            go_loopw [12, 13] (fun z i wr => ∃ (k : Nat) (y : Int), k + 1 ≤ D.length ∧ z = .int .i64 y ∧ i = .int .i64 k ∧ Hid (y = 3 * ((D.length : Int) - 1) + (D.take k).sum) ∧ 0 ≤ y ∧ y ≤ 189 + 30300 * k ∧ Ext ws wr) (fun _ i _ => D.length - (intOf i).toNat)
            case atStart => exact ⟨0, _, by omega, rfl, rfl, Lib.hid (by simp), by omega, by omega, Ext.refl _⟩
            case round =>
              obtain ⟨k, y, hk, rfl, rfl, Hy, hy1, hy2, hext5⟩ := hrel
              by_cases hlt : k + 1 < D.length
              · have d5 : decide ((k : Int) < (D.length : Int) - 1) = true := decide_eq_true (by omega)
                have hkD : k < D.length := by omega
                obtain ⟨b, off, hA5, hb5, hc5⟩ := intAt (hs5.ext hext5) hkD
                have hbd := Hds.out _ (List.getElem_mem hkD)
                have hsm := List.take_succ_eq_append_getElem hkD
                obtain ⟨d, hd⟩ : ∃ d, D[k] = d := ⟨_, rfl⟩
                rw [hd] at hc5 hbd hsm
                obtain ⟨hbd1, hbd2⟩ := hbd
                have Hnew := Lib.hid (show y + d = 3 * ((D.length : Int) - 1) + (D.take (k + 1)).sum by rw [hsm, List.sum_append, Hy.out]; simp; omega)
                clear hd hsm
                cases hA5
                go_wp2
                go_roundw
                case rel => exact ⟨k + 1, y + d, by omega, rfl, by go_num, Hnew, by omega, by omega, hext5⟩
                case measure => simp [intOf]; omega
              · have d5 : decide ((k : Int) < (D.length : Int) - 1) = false := decide_eq_false (by omega)
                have hke : k = D.length - 1 := by omega
                have hy := Hy.out
                rw [hke] at hy
                have HY := Lib.hid hy
                have hyb : y ≤ 189 + 30300 * 64 := by omega
                have hx2t := hx2s.trans hext5
                obtain ⟨wt, hwt⟩ : ∃ wt, wt = wr := ⟨_, rfl⟩
                subst hwt
                clear hke hy Hy hy2
                go_wp2
                go_loopw [14] (fun i wr => ∃ k : Nat, k ≤ F.length ∧ i = .int .i64 k ∧ Ext wt wr) (fun i _ => F.length - (intOf i).toNat)
                case atStart => exact ⟨0, Nat.zero_le _, rfl, Ext.refl _⟩
                case round =>
                  obtain ⟨kl, hkl, rfl, hext6⟩ := hrel
                  by_cases hlt6 : kl < F.length
                  · obtain ⟨wl, hwl⟩ : ∃ wl, wl = wr := ⟨_, rfl⟩
                    subst hwl
                    have hlok := Hlok.out _ (List.getElem_mem hlt6)
                    have hsz := Hls.out _ (List.getElem_mem hlt6)
                    have hget := List.getElem?_eq_getElem hlt6
                    obtain ⟨b, off, hA4, hb4, hc4⟩ := strAt (hs4.ext (hext5.trans hext6)) hlt6
                    have hs4l := hs4.ext (hext5.trans hext6)
                    obtain ⟨s, hs⟩ : ∃ s, F[kl] = s := ⟨_, rfl⟩
                    rw [hs] at hlok hsz hget hc4
                    have Hlk := Lib.hid hlok
                    have Hget := Lib.hid hget
                    clear hs hlok hget
                    subst hA4
                    go_wp2
                    go_loopw [15, 16] (fun n i wr => ∃ (k c : Nat), k ≤ s.size ∧ n = .int .i64 c ∧ i = .int .i64 k ∧ Hid (c = (s.data.toList.take k).count 124) ∧ c ≤ k ∧ Ext wl wr) (fun _ i _ => s.size - (intOf i).toNat)
                    case atStart => exact ⟨0, 0, Nat.zero_le _, rfl, rfl, Lib.hid (by simp), Nat.le_refl _, Ext.refl _⟩
                    case round =>
                      obtain ⟨kc, c, hkc, rfl, rfl, Hc, hck, hext7⟩ := hrel
                      have c4' := (hext7.cell (p := ⟨b, off + kl, none⟩) hb4).trans hc4
                      by_cases hlt7 : kc < s.size
                      · obtain ⟨y7, hy7⟩ : ∃ y7 : UInt8, s[kc] = y7 := ⟨_, rfl⟩
                        have hyl : s.data.toList.take (kc + 1) = s.data.toList.take kc ++ [y7] := by
                          rw [← hy7]
                          exact List.take_succ_eq_append_getElem (by rw [Array.length_toList]; exact hlt7)
                        by_cases h124 : y7 = 124
                        · have d3 : ((y7.toNat : Int) == 124) = true := by rw [h124]; rfl
                          have Hnew := Lib.hid (show c + 1 = (s.data.toList.take (kc + 1)).count 124 by rw [hyl, List.count_append, ← Hc.out, h124]; rfl)
                          clear hyl h124
                          go_wp2
                          go_roundw
                          case rel => exact ⟨kc + 1, c + 1, by omega, by go_num, by go_num, Hnew, by omega, hext7⟩
                          case measure => simp [intOf]; omega
                        · have d3 : ((y7.toNat : Int) == 124) = false := beq_eq_false_iff_ne.2 (fun h => h124 (UInt8.toNat.inj (by show y7.toNat = 124; omega)))
                          have Hnew := Lib.hid (show c = (s.data.toList.take (kc + 1)).count 124 by rw [hyl, List.count_append, ← Hc.out, List.count_singleton, if_neg (by simpa using h124)]; rfl)
                          clear hyl h124
                          go_wp2
                          go_roundw
                          case rel => exact ⟨kc + 1, c, by omega, rfl, by go_num, Hnew, by omega, hext7⟩
                          case measure => simp [intOf]; omega
                      · have hbars : c = barsB s := by
                          have h := Hc.out
                          rwa [List.take_of_length_le (by rw [Array.length_toList]; exact Nat.le_of_not_lt hlt7)] at h
                        obtain ⟨hl1, d, hl2, hl3, hl4⟩ := Hlk.out
                        rw [← hbars] at hl1
                        rw [← HY.out] at hl3 hl4
                        have hcD : (c : Int) = (D.length : Int) - 1 := by omega
                        have hidx : (D.length : Int) - 1 = ((D.length - 1 : Nat) : Int) := by omega
                        have hdb := Hds.out d (List.mem_of_getElem? hl2)
                        have Hl2 := Lib.hid hl2
                        have Hidx := Lib.hid hidx
                        have HcD := Lib.hid hcD
                        have hs4r := hs4l.ext hext7
                        have hs5r := hs5.ext (hext5.trans (hext6.trans hext7))
                        obtain ⟨wv, hwv⟩ : ∃ wv, wv = wr := ⟨_, rfl⟩
                        subst hwv
                        clear hl1 hl2 hcD hidx hbars hc4 Hlk Hc
                        go_wp2
                        refine wp_drawn (by kernel_rfl) (fun i => match i with | 0 => Ty.is (.int .i64 (c : Nat)) | 1 => Ty.is (.int .i64 (D.length : Nat)) | 2 => Ty.is (.int .i64 ((D.length : Nat) - 1)) | 3 => Ty.is (.bool false) | 4 => Ty.is (.bool false) | 5 => TGd (false = false) (Ty.is (.slice (some ⟨b, off, none⟩) F.length c4)) | 6 => TGd (false = false) (Ty.is (.int .i64 (kl : Nat))) | 7 => TGd (false = false) (TCells [.string s]) | 8 => TGd (false = false) (Ty.is (.string s)) | 9 => TGd (false = false) (Ty.is (.int .i64 (s).size)) | 10 => TGd (false = false) (Ty.is (.int .i64 y)) | 11 => TGd (false = false) (Ty.is (.bool false)) | 12 => Ty.is (.bool false) | 13 => Ty.is (.bool false) | 14 => TGd (false = false) (Ty.is (.slice (some ⟨b, off, none⟩) F.length c4)) | 15 => TGd (false = false) (Ty.is (.int .i64 (kl : Nat))) | 16 => TGd (false = false) (TCells [.string s]) | 17 => TGd (false = false) (Ty.is (.string s)) | 18 => TGd (false = false) (Ty.is (.int .i64 (s).size)) | 19 => TGd (false = false) (Ty.is (.int .i64 y)) | 20 => TGd (false = false) (Ty.is (.slice A5 D.length c5)) | 21 => TGd (false = false) (Ty.is (.int .i64 (D.length : Nat))) | 22 => TGd (false = false) (Ty.is (.int .i64 ((D.length : Nat) - 1))) | 23 => TGd (false = false) (TCells [.int .i64 d]) | 24 => TGd (false = false) (Ty.is (.int .i64 d)) | 25 => TGd (false = false) (Ty.is (.int .i64 (y + d))) | 26 => TGd (false = false) (Ty.is (.bool false)) | 27 => Ty.is (.bool false) | _ => Ty.any) (by kernel_rfl) rfl ?_
                        intro v
                        refine ⟨?_, ?_, ?_, ?_, ?_, ?_, ?_, ?_, ?_, ?_, ?_, ?_, ?_, ?_, ?_, ?_, ?_, ?_, ?_, ?_, ?_, ?_, ?_, ?_, ?_, ?_, ?_, ?_, ?_⟩
                        · intro wq hq hd
                          refine ob_plain rfl ?_
                          exact yld_move (.tmp 15) rfl rfl rfl
                        · intro wq hq hd
                          refine ob_plain rfl ?_
                          exact yld_move (.tmp 4) rfl rfl rfl
                        · intro wq hq hd
                          obtain ⟨h0, -⟩ := hd
                          change v 1 = _ at h0
                          refine ob_plain rfl ?_
                          exact yld_binInt .sub 3 3 (.tmp 138) _ rfl _ _ h0 rfl (run_sub_i64 _ _ _ (by omega) (by omega)) rfl
                        · intro wq hq hd
                          obtain ⟨h0, h1, -⟩ := hd
                          change v 0 = _ at h0
                          change v 2 = _ at h1
                          refine ob_plain rfl ?_
                          have hcD := HcD.out
                          exact yld_binInt .neq 3 3 (.tmp 137) (.tmp 139) rfl _ _ h0 h1 (fun w => (run_neq_i64 _ _ _ w).trans (by rw [decide_eq_false (by omega)])) rfl
                        · intro wq hq hd
                          obtain ⟨h0, -⟩ := hd
                          change v 3 = _ at h0
                          refine ob_plain rfl ?_
                          exact yld_move (.tmp 140) rfl h0 rfl
                        · intro wq hq hd
                          obtain ⟨h0, -⟩ := hd
                          change v 4 = _ at h0
                          refine ob_guard 4 false (false) rfl (yields_of rfl h0) (fun hg => ?_) (fun hg => ?_)
                          · refine Yld.gd (p := false = false) (T := Ty.is (.slice (some ⟨b, off, none⟩) F.length c4)) ?_
                            exact yld_move (.tmp 10) rfl rfl rfl
                          · intro hn; rw [hn] at hg; cases hg
                        · intro wq hq hd
                          obtain ⟨h0, -⟩ := hd
                          change v 4 = _ at h0
                          refine ob_guard 4 false (false) rfl (yields_of rfl h0) (fun hg => ?_) (fun hg => ?_)
                          · refine Yld.gd (p := false = false) (T := Ty.is (.int .i64 (kl : Nat))) ?_
                            exact yld_move (.tmp 14) rfl rfl rfl
                          · intro hn; rw [hn] at hg; cases hg
                        · intro wq hq hd
                          obtain ⟨h0, h1, h2, -⟩ := hd
                          change (false = false) → v 5 = _ at h0
                          change (false = false) → v 6 = _ at h1
                          change v 4 = _ at h2
                          refine ob_guard 4 false (false) rfl (yields_of rfl h2) (fun hg => ?_) (fun hg => ?_)
                          · refine Yld.gd (p := false = false) (T := TCells [.string s]) ?_
                            replace h0 := h0 hg
                            replace h1 := h1 hg
                            exact yld_indexAt strEl (.tmp 142) _ rfl _ F c4 h0 kl h1 (hs4r.ext hq) s Hget.out
                          · intro hn; rw [hn] at hg; cases hg
                        · intro wq hq hd
                          obtain ⟨h0, h1, -⟩ := hd
                          change (false = false) → (TCells [.string s]).p (v 7) wq at h0
                          change v 4 = _ at h1
                          refine ob_guard 4 false (false) rfl (yields_of rfl h1) (fun hg => ?_) (fun hg => ?_)
                          · refine Yld.gd (p := false = false) (T := Ty.is (.string s)) ?_
                            replace h0 := h0 hg
                            exact yld_loadOne 9 (.tmp 144) rfl Try.isAgg9 (c := .string s) h0 rfl
                          · intro hn; rw [hn] at hg; cases hg
                        · intro wq hq hd
                          obtain ⟨h0, h1, -⟩ := hd
                          change (false = false) → v 8 = _ at h0
                          change v 4 = _ at h1
                          refine ob_guard 4 false (false) rfl (yields_of rfl h1) (fun hg => ?_) (fun hg => ?_)
                          · refine Yld.gd (p := false = false) (T := Ty.is (.int .i64 (s).size)) ?_
                            replace h0 := h0 hg
                            exact yld_lenStr (.tmp 145) 9 Try.underlying9 rfl _ h0 rfl
                          · intro hn; rw [hn] at hg; cases hg
                        · intro wq hq hd
                          obtain ⟨h0, -⟩ := hd
                          change v 4 = _ at h0
                          refine ob_guard 4 false (false) rfl (yields_of rfl h0) (fun hg => ?_) (fun hg => ?_)
                          · refine Yld.gd (p := false = false) (T := Ty.is (.int .i64 y)) ?_
                            exact yld_move (.tmp 12) rfl rfl rfl
                          · intro hn; rw [hn] at hg; cases hg
                        · intro wq hq hd
                          obtain ⟨h0, h1, h2, -⟩ := hd
                          change (false = false) → v 9 = _ at h0
                          change (false = false) → v 10 = _ at h1
                          change v 4 = _ at h2
                          refine ob_guard 4 false (false) rfl (yields_of rfl h2) (fun hg => ?_) (fun hg => ?_)
                          · refine Yld.gd (p := false = false) (T := Ty.is (.bool false)) ?_
                            replace h0 := h0 hg
                            replace h1 := h1 hg
                            exact yld_binInt .lss 3 3 (.tmp 146) (.tmp 147) rfl _ _ h0 h1 (fun w => (run_lss_i64 _ _ _ w).trans (by rw [decide_eq_false (by omega)])) rfl
                          · intro hn; rw [hn] at hg; cases hg
                        · intro wq hq hd
                          obtain ⟨h0, h1, -⟩ := hd
                          change v 4 = _ at h0
                          change (false = false) → v 11 = _ at h1
                          refine ob_plain rfl ?_
                          exact yld_or (.tmp 141) (.tmp 148) rfl rfl _ _ h0 (fun hgd => h1 hgd) rfl
                        · intro wq hq hd
                          obtain ⟨h0, h1, -⟩ := hd
                          change v 12 = _ at h0
                          refine ob_plain rfl ?_
                          exact yld_move (.tmp 149) rfl h0 rfl
                        · intro wq hq hd
                          obtain ⟨h0, -⟩ := hd
                          change v 13 = _ at h0
                          refine ob_guard 13 false (false) rfl (yields_of rfl h0) (fun hg => ?_) (fun hg => ?_)
                          · refine Yld.gd (p := false = false) (T := Ty.is (.slice (some ⟨b, off, none⟩) F.length c4)) ?_
                            exact yld_move (.tmp 10) rfl rfl rfl
                          · intro hn; rw [hn] at hg; cases hg
                        · intro wq hq hd
                          obtain ⟨h0, -⟩ := hd
                          change v 13 = _ at h0
                          refine ob_guard 13 false (false) rfl (yields_of rfl h0) (fun hg => ?_) (fun hg => ?_)
                          · refine Yld.gd (p := false = false) (T := Ty.is (.int .i64 (kl : Nat))) ?_
                            exact yld_move (.tmp 14) rfl rfl rfl
                          · intro hn; rw [hn] at hg; cases hg
                        · intro wq hq hd
                          obtain ⟨h0, h1, h2, -⟩ := hd
                          change (false = false) → v 14 = _ at h0
                          change (false = false) → v 15 = _ at h1
                          change v 13 = _ at h2
                          refine ob_guard 13 false (false) rfl (yields_of rfl h2) (fun hg => ?_) (fun hg => ?_)
                          · refine Yld.gd (p := false = false) (T := TCells [.string s]) ?_
                            replace h0 := h0 hg
                            replace h1 := h1 hg
                            exact yld_indexAt strEl (.tmp 151) _ rfl _ F c4 h0 kl h1 (hs4r.ext hq) s Hget.out
                          · intro hn; rw [hn] at hg; cases hg
                        · intro wq hq hd
                          obtain ⟨h0, h1, -⟩ := hd
                          change (false = false) → (TCells [.string s]).p (v 16) wq at h0
                          change v 13 = _ at h1
                          refine ob_guard 13 false (false) rfl (yields_of rfl h1) (fun hg => ?_) (fun hg => ?_)
                          · refine Yld.gd (p := false = false) (T := Ty.is (.string s)) ?_
                            replace h0 := h0 hg
                            exact yld_loadOne 9 (.tmp 153) rfl Try.isAgg9 (c := .string s) h0 rfl
                          · intro hn; rw [hn] at hg; cases hg
                        · intro wq hq hd
                          obtain ⟨h0, h1, -⟩ := hd
                          change (false = false) → v 17 = _ at h0
                          change v 13 = _ at h1
                          refine ob_guard 13 false (false) rfl (yields_of rfl h1) (fun hg => ?_) (fun hg => ?_)
                          · refine Yld.gd (p := false = false) (T := Ty.is (.int .i64 (s).size)) ?_
                            replace h0 := h0 hg
                            exact yld_lenStr (.tmp 154) 9 Try.underlying9 rfl _ h0 rfl
                          · intro hn; rw [hn] at hg; cases hg
                        · intro wq hq hd
                          obtain ⟨h0, -⟩ := hd
                          change v 13 = _ at h0
                          refine ob_guard 13 false (false) rfl (yields_of rfl h0) (fun hg => ?_) (fun hg => ?_)
                          · refine Yld.gd (p := false = false) (T := Ty.is (.int .i64 y)) ?_
                            exact yld_move (.tmp 12) rfl rfl rfl
                          · intro hn; rw [hn] at hg; cases hg
                        · intro wq hq hd
                          obtain ⟨h0, -⟩ := hd
                          change v 13 = _ at h0
                          refine ob_guard 13 false (false) rfl (yields_of rfl h0) (fun hg => ?_) (fun hg => ?_)
                          · refine Yld.gd (p := false = false) (T := Ty.is (.slice A5 D.length c5)) ?_
                            exact yld_move (.tmp 11) rfl rfl rfl
                          · intro hn; rw [hn] at hg; cases hg
                        · intro wq hq hd
                          obtain ⟨h0, -⟩ := hd
                          change v 13 = _ at h0
                          refine ob_guard 13 false (false) rfl (yields_of rfl h0) (fun hg => ?_) (fun hg => ?_)
                          · refine Yld.gd (p := false = false) (T := Ty.is (.int .i64 (D.length : Nat))) ?_
                            exact yld_move (.tmp 4) rfl rfl rfl
                          · intro hn; rw [hn] at hg; cases hg
                        · intro wq hq hd
                          obtain ⟨h0, h1, -⟩ := hd
                          change (false = false) → v 21 = _ at h0
                          change v 13 = _ at h1
                          refine ob_guard 13 false (false) rfl (yields_of rfl h1) (fun hg => ?_) (fun hg => ?_)
                          · refine Yld.gd (p := false = false) (T := Ty.is (.int .i64 ((D.length : Nat) - 1))) ?_
                            replace h0 := h0 hg
                            exact yld_binInt .sub 3 3 (.tmp 158) _ rfl _ _ h0 rfl (run_sub_i64 _ _ _ (by omega) (by omega)) rfl
                          · intro hn; rw [hn] at hg; cases hg
                        · intro wq hq hd
                          obtain ⟨h0, h1, h2, -⟩ := hd
                          change (false = false) → v 20 = _ at h0
                          change (false = false) → v 22 = _ at h1
                          change v 13 = _ at h2
                          refine ob_guard 13 false (false) rfl (yields_of rfl h2) (fun hg => ?_) (fun hg => ?_)
                          · refine Yld.gd (p := false = false) (T := TCells [.int .i64 d]) ?_
                            replace h0 := h0 hg
                            replace h1 := h1 hg
                            exact yld_indexAt intEl (.tmp 157) _ rfl A5 D c5 h0 (D.length - 1) (h1.trans (by rw [Hidx.out])) (hs5r.ext hq) d Hl2.out
                          · intro hn; rw [hn] at hg; cases hg
                        · intro wq hq hd
                          obtain ⟨h0, h1, -⟩ := hd
                          change (false = false) → (TCells [.int .i64 d]).p (v 23) wq at h0
                          change v 13 = _ at h1
                          refine ob_guard 13 false (false) rfl (yields_of rfl h1) (fun hg => ?_) (fun hg => ?_)
                          · refine Yld.gd (p := false = false) (T := Ty.is (.int .i64 d)) ?_
                            replace h0 := h0 hg
                            exact yld_loadOne 3 (.tmp 160) rfl Try.isAgg3 (c := .int .i64 d) h0 rfl
                          · intro hn; rw [hn] at hg; cases hg
                        · intro wq hq hd
                          obtain ⟨h0, h1, h2, -⟩ := hd
                          change (false = false) → v 19 = _ at h0
                          change (false = false) → v 24 = _ at h1
                          change v 13 = _ at h2
                          refine ob_guard 13 false (false) rfl (yields_of rfl h2) (fun hg => ?_) (fun hg => ?_)
                          · refine Yld.gd (p := false = false) (T := Ty.is (.int .i64 (y + d))) ?_
                            replace h0 := h0 hg
                            replace h1 := h1 hg
                            exact yld_binInt .add 3 3 (.tmp 156) (.tmp 161) rfl _ _ h0 h1 (run_add_i64 _ _ _ (by omega) (by omega)) rfl
                          · intro hn; rw [hn] at hg; cases hg
                        · intro wq hq hd
                          obtain ⟨h0, h1, h2, -⟩ := hd
                          change (false = false) → v 18 = _ at h0
                          change (false = false) → v 25 = _ at h1
                          change v 13 = _ at h2
                          refine ob_guard 13 false (false) rfl (yields_of rfl h2) (fun hg => ?_) (fun hg => ?_)
                          · refine Yld.gd (p := false = false) (T := Ty.is (.bool false)) ?_
                            replace h0 := h0 hg
                            replace h1 := h1 hg
                            exact yld_binInt .gtr 3 3 (.tmp 155) (.tmp 162) rfl _ _ h0 h1 (fun w => (run_gtr_i64 _ _ _ w).trans (by rw [decide_eq_false (by omega)])) rfl
                          · intro hn; rw [hn] at hg; cases hg
                        · intro wq hq hd
                          obtain ⟨h0, h1, -⟩ := hd
                          change v 13 = _ at h0
                          change (false = false) → v 26 = _ at h1
                          refine ob_plain rfl ?_
                          exact yld_or (.tmp 150) (.tmp 163) rfl rfl _ _ h0 (fun hgd => h1 hgd) rfl
                        · intro wq hq hT
                          have k27 := hT 27 (by decide)
                          change v 27 = _ at k27
                          clear hT
                          simp only [List.drop_succ_cons, List.drop_zero, putE, setsE, List.set_cons_succ, List.set_cons_zero, Nat.reduceAdd]
                          rw [k27]
                          go_wp2
                          go_roundw
                          case rel => exact ⟨kl + 1, by omega, by go_num, hext6.trans (hext7.trans hq)⟩
                          case measure => simp [intOf]; omega
                  · go_wp2
                    go_ret
                    exact ⟨rfl, hw0.trans (hx2t.trans hext6)⟩

end Go.Proofs.Ythjlnpcanccmkaa
