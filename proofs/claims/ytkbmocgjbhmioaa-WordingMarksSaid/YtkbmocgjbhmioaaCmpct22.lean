/- slices.Compact of a row of references: neighbours that are alike are struck, in place. -/
import Derived.Test.YtkbmocgjbhmioaaComp22
import Derived.Test.YtkbmocgjbhmioaaCmp
namespace Go.Proofs.Ytkbmocgjbhmioaa
open Go.RowKit

theorem bin_sub {P : Program} (t : TypeId) (a b c : Int) (h : a - b = c) (h1 : -9223372036854775808 ≤ c) (h2 : c ≤ 9223372036854775807) (w : World) : (binOp .sub t (.int .i64 a) (.int .i64 b)).run P w = .ok (.int .i64 c) w := by
  subst h; exact run_sub_i64 t a b h1 h2 w
theorem eqRef (w : World) (x y : Int × Int) : (Op.equalIn 10000 83 (.agg (refEl.E x).toArray) (.agg (refEl.E y).toArray)).run Try.prog w = .ok (decide (x.1 = y.1 ∧ x.2 = y.2)) w := by
  have u3 := Try.underlying3
  have hS : Try.prog.underlying 83 = some (.struct (Try.prog.fieldsOf 83)) := by kernel_rfl
  show (Op.equalIn 10000 83 (.agg #[.int .i64 x.1, .int .i64 x.2]) (.agg #[.int .i64 y.1, .int .i64 y.2])).run Try.prog w = _
  rw [show (10000 : Nat) = 9999 + 1 from rfl, run_equalIn_agg w 9999 83 _ _ hS (by kernel_rfl)]
  simp only [Program.fieldsOf, Try.underlying83]
  go_simp
  by_cases h1 : x.1 = y.1 <;> by_cases h2 : x.2 = y.2 <;> simp [h1, h2]
theorem pair_eq (x y : Int × Int) : decide (x.1 = y.1 ∧ x.2 = y.2) = decide (x = y) := by
  rw [Bool.eq_iff_iff]
  simp only [decide_eq_true_eq]
  exact ⟨fun h => Prod.ext h.1 h.2, fun h => by rw [h]; exact ⟨rfl, rfl⟩⟩
theorem refEql (w : World) (x y : Int × Int) : (binOp .eql 83 (.agg (refEl.E x).toArray) (.agg (refEl.E y).toArray)).run Try.prog w = .ok (.bool (decide (x = y))) w := by
  have h := eqRef w x y
  rw [pair_eq] at h
  simp only [binOp]
  simp [Op.equal, Op.maxDepth, h]
theorem refNeq (w : World) (x y : Int × Int) : (binOp .neq 83 (.agg (refEl.E x).toArray) (.agg (refEl.E y).toArray)).run Try.prog w = .ok (.bool (!decide (x = y))) w := by
  have h := eqRef w x y
  rw [pair_eq] at h
  simp only [binOp]
  simp [Op.equal, Op.maxDepth, h]

/-- where the striking stands: i elements kept of the first k + q -/
structure CmpSt (base g cap k : Nat) (xs : List (Int × Int)) (i q : Nat) (w : World) : Prop where
  ex : ∃ ys : List (Int × Int), ys.length = xs.length ∧ ys.take i = ddL (xs.take (k + q)) ∧ i = (ddL (xs.take (k + q))).length ∧ ys.drop (k + q - 1) = xs.drop (k + q - 1) ∧ Own refEl base w (.slice (some ⟨g, 0, none⟩) xs.length cap) ys

theorem own_from {base g cap n k : Nat} {w : World} {ys : List (Int × Int)} (h : Own refEl base w (.slice (some ⟨g, 0, none⟩) n cap) ys) (hl : ys.length = n) (hk : k < n) : Sl refEl w (some ⟨g, k * 2, none⟩) (ys.drop k) := by
  subst hl
  obtain ⟨A, c, hv, hc, hsl⟩ := h.form
  cases hv
  have := Sl.drop hsl k cap (by omega) hc
  rw [if_neg (by omega)] at this
  have ea : ((⟨g, 0, none⟩ : Addr).add (k * 2)) = ⟨g, k * 2, none⟩ := by
    unfold Addr.add
    split
    · rename_i h0; simp [h0]
    · simp
  simpa [refEl, ea] using this
theorem drop_more {α : Type} {l m : List α} {a : Nat} (h : l.drop a = m.drop a) : l.drop (a + 1) = m.drop (a + 1) := by
  rw [← List.drop_drop, ← List.drop_drop, h]
theorem drop_get {α : Type} {l m : List α} {a : Nat} (h : l.drop a = m.drop a) (j : Nat) : l[a + j]? = m[a + j]? := by
  rw [← List.getElem?_drop, ← List.getElem?_drop, h]
theorem take_set_succ {α : Type} {l : List α} {i : Nat} {x : α} (h : i < l.length) : (l.set i x).take (i + 1) = l.take i ++ [x] := by
  rw [List.take_succ_eq_append_getElem (by simpa using h), List.take_set_of_le (Nat.le_refl _)]
  simp

set_option maxRecDepth 100000 in
set_option maxHeartbeats 3200000 in
theorem compact_any (base g cap : Nat) (xs : List (Int × Int)) (w : World) (hown : Own refEl base w (.slice (some ⟨g, 0, none⟩) xs.length cap) xs) (hn : xs.length ≤ 1048576) :
    Calls Try.prog 59 #[.slice (some ⟨g, 0, none⟩) xs.length cap] w fun e w' => ∃ A c, e = .returned (.slice A (ddL xs).length c) ∧ (ddL xs).length ≤ c ∧ Sl refEl w' A (ddL xs) ∧ Kp g w w' := by
  obtain ⟨A0, c0, hv0, hcap, hsl0⟩ := hown.form
  cases hv0
  obtain ⟨R, hR⟩ : ∃ R, ddL xs = R := ⟨_, rfl⟩
  rw [hR]
  have HR := Lib.hid hR
  clear hR
  by_cases h2 : xs.length < 2
  · have d1 : decide ((xs.length : Int) < 2) = true := decide_eq_true (by omega)
    have hdd : ddL xs = xs := by
      match xs, h2 with
      | [], _ => rfl
      | [x], _ => rfl
    obtain rfl : R = xs := by rw [← HR.out]; exact hdd
    clear hdd hown
    go_enter Try.func59, Try.ntmps59
    go_wp2
    go_ret
    exact ⟨_, _, rfl, hcap, hsl0, Kp.refl _ _⟩
  · have d1 : decide ((xs.length : Int) < 2) = false := decide_eq_false (by omega)
    have h1 : ddL (xs.take 1) = xs.take 1 := by
      cases xs with
      | nil => simp at h2
      | cons x r => simp [ddL]
    have Hd := Lib.hid hown
    have Hsl0 := Lib.hid hsl0
    clear hown hsl0
    go_enter Try.func59, Try.ntmps59
    go_wp2
    go_loopw [3] (fun vk wr => ∃ k : Nat, 1 ≤ k ∧ k ≤ xs.length ∧ vk = .int .i64 (k : Nat) ∧ Ext w wr ∧ Hid (ddL (xs.take k) = xs.take k)) (fun vk _ => xs.length - (intOf vk).toNat)
    case atStart => exact ⟨1, by omega, by omega, rfl, Ext.refl _, Lib.hid h1⟩
    case round =>
      clear h1
      obtain ⟨k, hk1, hk2, rfl, hext, Hdk⟩ := hrel
      by_cases hlt : k < xs.length
      · have d2 : decide ((k : Int) < (xs.length : Int)) = true := decide_eq_true (by omega)
        have hk0 : k - 1 < xs.length := by omega
        obtain ⟨X, hX⟩ : ∃ X, xs[k] = X := ⟨_, rfl⟩
        obtain ⟨Y, hY⟩ : ∃ Y, xs[k - 1] = Y := ⟨_, rfl⟩
        have HX := Lib.hid (show xs[k]? = some X by rw [← hX]; exact List.getElem?_eq_getElem hlt)
        have HY := Lib.hid (show xs[k - 1]? = some Y by rw [← hY]; exact List.getElem?_eq_getElem hk0)
        have hnx := ddL_next (xs := xs) (k := k - 1) (by omega)
        have ek : k - 1 + 1 = k := by omega
        simp only [ek] at hnx
        rw [hX, hY, Hdk.out] at hnx
        have Hnx := Lib.hid hnx
        have Htk := Lib.hid (show xs.take (k + 1) = xs.take k ++ [X] by rw [List.take_succ_eq_append_getElem hlt, hX])
        have Hsl := Lib.hid (show ∀ w', Ext wr w' → Sl refEl w' (some ⟨g, 0, none⟩) xs from fun w' he => Hsl0.out.ext (hext.trans he))
        clear hX hY hnx ek
        obtain ⟨bb, hbb⟩ : ∃ bb, decide (X = Y) = bb := ⟨_, rfl⟩
        have Hbb := Lib.hid hbb
        clear hbb
        cases bb
        case false =>
          have hne : ¬ X = Y := of_decide_eq_false Hbb.out
          have Hd2 := Lib.hid (show ddL (xs.take (k + 1)) = xs.take (k + 1) by rw [Hnx.out, if_neg (fun e => hne e.symm), Htk.out])
          clear hne
          go_wp2_with fail
          refine wp_drawn (by kernel_rfl) (fun i => match i with | 0 => Ty.is (.slice (some ⟨g, 0, none⟩) xs.length cap) | 1 => Ty.is (.int .i64 (k : Nat)) | 2 => TCells (refEl.E X) | 3 => Ty.is (.agg (refEl.E X).toArray) | 4 => Ty.is (.slice (some ⟨g, 0, none⟩) xs.length cap) | 5 => Ty.is (.int .i64 (k : Nat)) | 6 => Ty.is (.int .i64 ((k - 1 : Nat) : Int)) | 7 => TCells (refEl.E Y) | 8 => Ty.is (.agg (refEl.E Y).toArray) | 9 => Ty.is (.bool false) | _ => Ty.any) (by kernel_rfl) rfl ?_
          intro v
          refine ⟨?_, ?_, ?_, ?_, ?_, ?_, ?_, ?_, ?_, ?_, ?_⟩
          · intro wq hq hd
            refine ob_plain rfl ?_
            exact yld_move (.tmp 0) rfl rfl rfl
          · intro wq hq hd
            refine ob_plain rfl ?_
            exact yld_move (.tmp 3) rfl rfl rfl
          · intro wq hq hd
            obtain ⟨h0, h1, -⟩ := hd
            change v 0 = _ at h0
            change v 1 = _ at h1
            refine ob_plain rfl ?_
            exact yld_indexAt refEl (.tmp 16) (.tmp 17) rfl _ xs cap h0 k h1 (Hsl.out wq hq) X HX.out
          · intro wq hq hd
            obtain ⟨h0, -⟩ := hd
            change (TCells (refEl.E X)).p (v 2) wq at h0
            refine ob_plain rfl ?_
            exact yld_loadAgg 83 (.tmp 18) rfl Try.isAgg83 2 Try.sizeOf83 (refEl.E X) rfl h0 rfl
          · intro wq hq hd
            refine ob_plain rfl ?_
            exact yld_move (.tmp 0) rfl rfl rfl
          · intro wq hq hd
            refine ob_plain rfl ?_
            exact yld_move (.tmp 3) rfl rfl rfl
          · intro wq hq hd
            obtain ⟨h0, -⟩ := hd
            change v 5 = _ at h0
            refine ob_plain rfl ?_
            exact yld_binInt .sub 3 3 (.tmp 21) _ rfl _ _ h0 rfl (bin_sub _ _ _ _ (by omega) (by omega) (by omega)) rfl
          · intro wq hq hd
            obtain ⟨h0, h1, -⟩ := hd
            change v 4 = _ at h0
            change v 6 = _ at h1
            refine ob_plain rfl ?_
            exact yld_indexAt refEl (.tmp 20) (.tmp 22) rfl _ xs cap h0 (k - 1) h1 (Hsl.out wq hq) Y HY.out
          · intro wq hq hd
            obtain ⟨h0, -⟩ := hd
            change (TCells (refEl.E Y)).p (v 7) wq at h0
            refine ob_plain rfl ?_
            exact yld_loadAgg 83 (.tmp 23) rfl Try.isAgg83 2 Try.sizeOf83 (refEl.E Y) rfl h0 rfl
          · intro wq hq hd
            obtain ⟨h0, h1, -⟩ := hd
            change v 3 = _ at h0
            change v 8 = _ at h1
            refine ob_plain rfl ?_
            exact yld_binAgg .eql 83 83 (.tmp 19) (.tmp 24) rfl _ _ h0 h1 (by kernel_rfl) (fun w => by rw [refEql, Hbb.out]) rfl
          · intro wq hq hT
            have k9 := hT 9 (by decide)
            change v 9 = _ at k9
            clear hT
            simp only [List.drop_succ_cons, List.drop_zero, putE, setsE, List.set_cons_succ, List.set_cons_zero, Nat.reduceAdd]
            rw [k9]
            go_wp2
            go_roundw
            case rel => exact ⟨k + 1, by omega, by omega, by go_num, hext.trans hq, Hd2⟩
            case measure => simp [intOf]; omega
        case true =>
          have heq : X = Y := of_decide_eq_true Hbb.out
          have Hd2 := Lib.hid (show ddL (xs.take (k + 1)) = xs.take k by rw [Hnx.out, if_pos heq.symm])
          clear heq
          go_wp2_with fail
          refine wp_drawn (by kernel_rfl) (fun i => match i with | 0 => Ty.is (.slice (some ⟨g, 0, none⟩) xs.length cap) | 1 => Ty.is (.int .i64 (k : Nat)) | 2 => TCells (refEl.E X) | 3 => Ty.is (.agg (refEl.E X).toArray) | 4 => Ty.is (.slice (some ⟨g, 0, none⟩) xs.length cap) | 5 => Ty.is (.int .i64 (k : Nat)) | 6 => Ty.is (.int .i64 ((k - 1 : Nat) : Int)) | 7 => TCells (refEl.E Y) | 8 => Ty.is (.agg (refEl.E Y).toArray) | 9 => Ty.is (.bool true) | _ => Ty.any) (by kernel_rfl) rfl ?_
          intro v
          refine ⟨?_, ?_, ?_, ?_, ?_, ?_, ?_, ?_, ?_, ?_, ?_⟩
          · intro wq hq hd
            refine ob_plain rfl ?_
            exact yld_move (.tmp 0) rfl rfl rfl
          · intro wq hq hd
            refine ob_plain rfl ?_
            exact yld_move (.tmp 3) rfl rfl rfl
          · intro wq hq hd
            obtain ⟨h0, h1, -⟩ := hd
            change v 0 = _ at h0
            change v 1 = _ at h1
            refine ob_plain rfl ?_
            exact yld_indexAt refEl (.tmp 16) (.tmp 17) rfl _ xs cap h0 k h1 (Hsl.out wq hq) X HX.out
          · intro wq hq hd
            obtain ⟨h0, -⟩ := hd
            change (TCells (refEl.E X)).p (v 2) wq at h0
            refine ob_plain rfl ?_
            exact yld_loadAgg 83 (.tmp 18) rfl Try.isAgg83 2 Try.sizeOf83 (refEl.E X) rfl h0 rfl
          · intro wq hq hd
            refine ob_plain rfl ?_
            exact yld_move (.tmp 0) rfl rfl rfl
          · intro wq hq hd
            refine ob_plain rfl ?_
            exact yld_move (.tmp 3) rfl rfl rfl
          · intro wq hq hd
            obtain ⟨h0, -⟩ := hd
            change v 5 = _ at h0
            refine ob_plain rfl ?_
            exact yld_binInt .sub 3 3 (.tmp 21) _ rfl _ _ h0 rfl (bin_sub _ _ _ _ (by omega) (by omega) (by omega)) rfl
          · intro wq hq hd
            obtain ⟨h0, h1, -⟩ := hd
            change v 4 = _ at h0
            change v 6 = _ at h1
            refine ob_plain rfl ?_
            exact yld_indexAt refEl (.tmp 20) (.tmp 22) rfl _ xs cap h0 (k - 1) h1 (Hsl.out wq hq) Y HY.out
          · intro wq hq hd
            obtain ⟨h0, -⟩ := hd
            change (TCells (refEl.E Y)).p (v 7) wq at h0
            refine ob_plain rfl ?_
            exact yld_loadAgg 83 (.tmp 23) rfl Try.isAgg83 2 Try.sizeOf83 (refEl.E Y) rfl h0 rfl
          · intro wq hq hd
            obtain ⟨h0, h1, -⟩ := hd
            change v 3 = _ at h0
            change v 8 = _ at h1
            refine ob_plain rfl ?_
            exact yld_binAgg .eql 83 83 (.tmp 19) (.tmp 24) rfl _ _ h0 h1 (by kernel_rfl) (fun w => by rw [refEql, Hbb.out]) rfl
          · intro wq hq hT
            have k9 := hT 9 (by decide)
            change v 9 = _ at k9
            clear hT
            simp only [List.drop_succ_cons, List.drop_zero, putE, setsE, List.set_cons_succ, List.set_cons_zero, Nat.reduceAdd]
            rw [k9]
            have hst0 : CmpSt base g cap k xs k 1 wq := ⟨xs, rfl, by rw [Hd2.out], by rw [Hd2.out, List.length_take]; omega, rfl, Hd.out.ext (hext.trans hq)⟩
            have hkp0 : Kp g w wq := Kp.of_ext (hext.trans hq)
            clear hext hq
            go_wp2_with (refine wpList_runs rfl (runs_slFrom refEl (.tmp 26) (.tmp 27) rfl xs.length rfl k rfl (by omega) hcap (by omega)) ?_)
            go_loopw [3, 5] (fun vi vq wr => ∃ i q : Nat, 1 ≤ q ∧ k + q ≤ xs.length ∧ i < k + q ∧ vi = .int .i64 (i : Nat) ∧ vq = .int .i64 (q : Nat) ∧ Kp g w wr ∧ CmpSt base g cap k xs i q wr) (fun _ vq _ => xs.length - (intOf vq).toNat)
            case atStart => exact ⟨k, 1, by omega, by omega, by omega, rfl, rfl, hkp0, hst0⟩
            case round =>
              clear hst0 hkp0
              obtain ⟨i, q, hq1, hq2, hiq, rfl, rfl, hkp, ys, y1, y2, y3, y4, y5⟩ := hrel
              by_cases hlt2 : k + q < xs.length
              · have d3 : decide ((q : Int) < ((xs.length - k : Nat) : Int)) = true := decide_eq_true (by omega)
                have hm1 : k + q - 1 < xs.length := by omega
                have em : k + q - 1 + 1 = k + q := by omega
                obtain ⟨X, hX⟩ : ∃ X, xs[k + q] = X := ⟨_, rfl⟩
                obtain ⟨Y, hY⟩ : ∃ Y, xs[k + q - 1] = Y := ⟨_, rfl⟩
                have gX : ys[k + q]? = some X := by
                  have := drop_get y4 1
                  rw [em] at this
                  rw [this, ← hX]; exact List.getElem?_eq_getElem hlt2
                have gY : ys[k + q - 1]? = some Y := by
                  have := drop_get y4 0
                  rw [Nat.add_zero] at this
                  rw [this, ← hY]; exact List.getElem?_eq_getElem hm1
                have hnx := ddL_next (xs := xs) (k := k + q - 1) (by omega)
                simp only [em] at hnx
                rw [hX, hY] at hnx
                have Hnx := Lib.hid hnx
                have HX := Lib.hid (show (ys.drop k)[q]? = some X by rw [List.getElem?_drop]; exact gX)
                have HY := Lib.hid (show (ys.drop k)[q - 1]? = some Y by rw [List.getElem?_drop, show k + (q - 1) = k + q - 1 from by omega]; exact gY)
                have HlD := Lib.hid (show xs.length - k = (ys.drop k).length by rw [List.length_drop, y1])
                have Hsl := Lib.hid (show ∀ w', Ext wr w' → Sl refEl w' (some ⟨g, k * 2, none⟩) (ys.drop k) from fun w' he => own_from (y5.ext he) y1 (by omega))
                have Hy := Lib.hid (And.intro y1 (And.intro y2 (And.intro y3 (And.intro y4 y5))))
                have HgX := Lib.hid gX
                clear hX hY hnx em gX gY y1 y2 y3 y4 y5
                obtain ⟨bb, hbb⟩ : ∃ bb, decide (X = Y) = bb := ⟨_, rfl⟩
                have Hbb := Lib.hid hbb
                clear hbb
                cases bb
                case false =>
                  have hne : ¬ X = Y := of_decide_eq_false Hbb.out
                  have Hd3 := Lib.hid (show ddL (xs.take (k + q + 1)) = ddL (xs.take (k + q)) ++ [X] by rw [Hnx.out, if_neg (fun e => hne e.symm)])
                  clear hne
                  go_wp2_with fail
                  refine wp_drawn (by kernel_rfl) (fun i => match i with | 0 => Ty.is (.slice (some ⟨g, k * 2, none⟩) (xs.length - k) (cap - k)) | 1 => Ty.is (.int .i64 (q : Nat)) | 2 => TCells (refEl.E X) | 3 => Ty.is (.agg (refEl.E X).toArray) | 4 => Ty.is (.slice (some ⟨g, k * 2, none⟩) (xs.length - k) (cap - k)) | 5 => Ty.is (.int .i64 (q : Nat)) | 6 => Ty.is (.int .i64 ((q - 1 : Nat) : Int)) | 7 => TCells (refEl.E Y) | 8 => Ty.is (.agg (refEl.E Y).toArray) | 9 => Ty.is (.bool true) | _ => Ty.any) (by kernel_rfl) rfl ?_
                  intro v
                  refine ⟨?_, ?_, ?_, ?_, ?_, ?_, ?_, ?_, ?_, ?_, ?_⟩
                  · intro wq hq hd
                    refine ob_plain rfl ?_
                    exact yld_move (.tmp 4) rfl rfl rfl
                  · intro wq hq hd
                    refine ob_plain rfl ?_
                    exact yld_move (.tmp 5) rfl rfl rfl
                  · intro wq hq hd
                    obtain ⟨h0, h1, -⟩ := hd
                    change v 0 = _ at h0
                    change v 1 = _ at h1
                    refine ob_plain rfl ?_
                    exact yld_indexAt refEl (.tmp 35) (.tmp 36) rfl _ (ys.drop k) (cap - k) (h0.trans (congrArg (fun z => Value.slice (some ⟨g, k * 2, none⟩) z (cap - k)) HlD.out)) q h1 (Hsl.out wq hq) X HX.out
                  · intro wq hq hd
                    obtain ⟨h0, -⟩ := hd
                    change (TCells (refEl.E X)).p (v 2) wq at h0
                    refine ob_plain rfl ?_
                    exact yld_loadAgg 83 (.tmp 37) rfl Try.isAgg83 2 Try.sizeOf83 (refEl.E X) rfl h0 rfl
                  · intro wq hq hd
                    refine ob_plain rfl ?_
                    exact yld_move (.tmp 4) rfl rfl rfl
                  · intro wq hq hd
                    refine ob_plain rfl ?_
                    exact yld_move (.tmp 5) rfl rfl rfl
                  · intro wq hq hd
                    obtain ⟨h0, -⟩ := hd
                    change v 5 = _ at h0
                    refine ob_plain rfl ?_
                    exact yld_binInt .sub 3 3 (.tmp 40) _ rfl _ _ h0 rfl (bin_sub _ _ _ _ (by omega) (by omega) (by omega)) rfl
                  · intro wq hq hd
                    obtain ⟨h0, h1, -⟩ := hd
                    change v 4 = _ at h0
                    change v 6 = _ at h1
                    refine ob_plain rfl ?_
                    exact yld_indexAt refEl (.tmp 39) (.tmp 41) rfl _ (ys.drop k) (cap - k) (h0.trans (congrArg (fun z => Value.slice (some ⟨g, k * 2, none⟩) z (cap - k)) HlD.out)) (q - 1) h1 (Hsl.out wq hq) Y HY.out
                  · intro wq hq hd
                    obtain ⟨h0, -⟩ := hd
                    change (TCells (refEl.E Y)).p (v 7) wq at h0
                    refine ob_plain rfl ?_
                    exact yld_loadAgg 83 (.tmp 42) rfl Try.isAgg83 2 Try.sizeOf83 (refEl.E Y) rfl h0 rfl
                  · intro wq hq hd
                    obtain ⟨h0, h1, -⟩ := hd
                    change v 3 = _ at h0
                    change v 8 = _ at h1
                    refine ob_plain rfl ?_
                    exact yld_binAgg .neq 83 83 (.tmp 38) (.tmp 43) rfl _ _ h0 h1 (by kernel_rfl) (fun w => by rw [refNeq, Hbb.out]; rfl) rfl
                  · intro wq hq hT
                    have k9 := hT 9 (by decide)
                    change v 9 = _ at k9
                    clear hT
                    simp only [List.drop_succ_cons, List.drop_zero, putE, setsE, List.set_cons_succ, List.set_cons_zero, Nat.reduceAdd]
                    rw [k9]
                    obtain ⟨y1, y2, y3, y4, y5⟩ := Hy.out
                    have hoq : Own refEl base wq (.slice (some ⟨g, 0, none⟩) ys.length cap) ys := by
                      have := y5.ext hq
                      rwa [← y1] at this
                    obtain ⟨W1, hk1, ho1, hst⟩ := runs_store refEl hoq i (by omega) X
                    have HoqX := Lib.hid (And.intro hoq HgX.out)
                    have hst2 : CmpSt base g cap k xs (i + 1) (q + 1) W1 := by
                      refine ⟨ys.set i X, by rw [List.length_set]; exact y1, ?_, ?_, ?_, ?_⟩
                      · rw [take_set_succ (by omega), y2, ← Nat.add_assoc, Hd3.out]
                      · rw [← Nat.add_assoc, Hd3.out, List.length_append, ← y3]; rfl
                      · rw [show k + (q + 1) - 1 = k + q from by omega, List.drop_set_of_lt (by omega)]
                        have := drop_more y4
                        rwa [show k + q - 1 + 1 = k + q from by omega] at this
                      · rw [y1] at ho1; exact ho1
                    have hkp2 : Kp g w W1 := hkp.trans ((Kp.of_ext hq).trans hk1)
                    clear y1 y2 y3 y4 y5 hoq ho1 hk1 hkp
                    go_wp2_with (first | (refine wpList_runs rfl (runs_loadAt refEl rfl (.tmp 49) rfl (k + q) _ (by show k * 2 + q * 2 = (k + q) * 2; omega) rfl HoqX.out.1 X HoqX.out.2) ?_) | (refine wpList_runs rfl (hst _ _ (.tmp 51) (.tmp 50) rfl rfl rfl) ?_))
                    go_roundw
                    case rel => exact ⟨i + 1, q + 1, by omega, by omega, by omega, by go_num, by go_num, hkp2, hst2⟩
                    case measure => simp [intOf]; omega
                case true =>
                  have heq : X = Y := of_decide_eq_true Hbb.out
                  have Hd3 := Lib.hid (show ddL (xs.take (k + q + 1)) = ddL (xs.take (k + q)) by rw [Hnx.out, if_pos heq.symm])
                  clear heq
                  go_wp2_with fail
                  refine wp_drawn (by kernel_rfl) (fun i => match i with | 0 => Ty.is (.slice (some ⟨g, k * 2, none⟩) (xs.length - k) (cap - k)) | 1 => Ty.is (.int .i64 (q : Nat)) | 2 => TCells (refEl.E X) | 3 => Ty.is (.agg (refEl.E X).toArray) | 4 => Ty.is (.slice (some ⟨g, k * 2, none⟩) (xs.length - k) (cap - k)) | 5 => Ty.is (.int .i64 (q : Nat)) | 6 => Ty.is (.int .i64 ((q - 1 : Nat) : Int)) | 7 => TCells (refEl.E Y) | 8 => Ty.is (.agg (refEl.E Y).toArray) | 9 => Ty.is (.bool false) | _ => Ty.any) (by kernel_rfl) rfl ?_
                  intro v
                  refine ⟨?_, ?_, ?_, ?_, ?_, ?_, ?_, ?_, ?_, ?_, ?_⟩
                  · intro wq hq hd
                    refine ob_plain rfl ?_
                    exact yld_move (.tmp 4) rfl rfl rfl
                  · intro wq hq hd
                    refine ob_plain rfl ?_
                    exact yld_move (.tmp 5) rfl rfl rfl
                  · intro wq hq hd
                    obtain ⟨h0, h1, -⟩ := hd
                    change v 0 = _ at h0
                    change v 1 = _ at h1
                    refine ob_plain rfl ?_
                    exact yld_indexAt refEl (.tmp 35) (.tmp 36) rfl _ (ys.drop k) (cap - k) (h0.trans (congrArg (fun z => Value.slice (some ⟨g, k * 2, none⟩) z (cap - k)) HlD.out)) q h1 (Hsl.out wq hq) X HX.out
                  · intro wq hq hd
                    obtain ⟨h0, -⟩ := hd
                    change (TCells (refEl.E X)).p (v 2) wq at h0
                    refine ob_plain rfl ?_
                    exact yld_loadAgg 83 (.tmp 37) rfl Try.isAgg83 2 Try.sizeOf83 (refEl.E X) rfl h0 rfl
                  · intro wq hq hd
                    refine ob_plain rfl ?_
                    exact yld_move (.tmp 4) rfl rfl rfl
                  · intro wq hq hd
                    refine ob_plain rfl ?_
                    exact yld_move (.tmp 5) rfl rfl rfl
                  · intro wq hq hd
                    obtain ⟨h0, -⟩ := hd
                    change v 5 = _ at h0
                    refine ob_plain rfl ?_
                    exact yld_binInt .sub 3 3 (.tmp 40) _ rfl _ _ h0 rfl (bin_sub _ _ _ _ (by omega) (by omega) (by omega)) rfl
                  · intro wq hq hd
                    obtain ⟨h0, h1, -⟩ := hd
                    change v 4 = _ at h0
                    change v 6 = _ at h1
                    refine ob_plain rfl ?_
                    exact yld_indexAt refEl (.tmp 39) (.tmp 41) rfl _ (ys.drop k) (cap - k) (h0.trans (congrArg (fun z => Value.slice (some ⟨g, k * 2, none⟩) z (cap - k)) HlD.out)) (q - 1) h1 (Hsl.out wq hq) Y HY.out
                  · intro wq hq hd
                    obtain ⟨h0, -⟩ := hd
                    change (TCells (refEl.E Y)).p (v 7) wq at h0
                    refine ob_plain rfl ?_
                    exact yld_loadAgg 83 (.tmp 42) rfl Try.isAgg83 2 Try.sizeOf83 (refEl.E Y) rfl h0 rfl
                  · intro wq hq hd
                    obtain ⟨h0, h1, -⟩ := hd
                    change v 3 = _ at h0
                    change v 8 = _ at h1
                    refine ob_plain rfl ?_
                    exact yld_binAgg .neq 83 83 (.tmp 38) (.tmp 43) rfl _ _ h0 h1 (by kernel_rfl) (fun w => by rw [refNeq, Hbb.out]; rfl) rfl
                  · intro wq hq hT
                    have k9 := hT 9 (by decide)
                    change v 9 = _ at k9
                    clear hT
                    simp only [List.drop_succ_cons, List.drop_zero, putE, setsE, List.set_cons_succ, List.set_cons_zero, Nat.reduceAdd]
                    rw [k9]
                    obtain ⟨y1, y2, y3, y4, y5⟩ := Hy.out
                    have hst2 : CmpSt base g cap k xs i (q + 1) wq := by
                      refine ⟨ys, y1, ?_, ?_, ?_, y5.ext hq⟩
                      · rw [y2, ← Nat.add_assoc, Hd3.out]
                      · rw [← Nat.add_assoc, Hd3.out]; exact y3
                      · rw [show k + (q + 1) - 1 = k + q from by omega]
                        have := drop_more y4
                        rwa [show k + q - 1 + 1 = k + q from by omega] at this
                    have hkp2 : Kp g w wq := hkp.trans (Kp.of_ext hq)
                    clear y1 y2 y3 y4 y5 hkp
                    go_wp2
                    go_roundw
                    case rel => exact ⟨i, q + 1, by omega, by omega, by omega, by go_num, by go_num, hkp2, hst2⟩
                    case measure => simp [intOf]; omega
              · have d3 : decide ((q : Int) < ((xs.length - k : Nat) : Int)) = false := decide_eq_false (by omega)
                have hkq : k + q = xs.length := by omega
                rw [hkq, List.take_of_length_le (Nat.le_refl _), HR.out] at y2 y3
                have hoq : Own refEl base wr (.slice (some ⟨g, 0, none⟩) ys.length cap) ys := by rw [y1]; exact y5
                obtain ⟨W1, hk1, ho1, hcl⟩ := runs_clear refEl Try.zeroValue83 (0, 0) rfl i (cap - i) (by omega) hoq
                rw [y1] at ho1 hcl
                have hll : (ys.take i ++ List.replicate (xs.length - i) ((0 : Int), (0 : Int))).length = xs.length := by simp; omega
                have hslz : Sl refEl W1 (some ⟨g, 0, none⟩) (ys.take i ++ List.replicate (xs.length - i) ((0 : Int), (0 : Int))) := by
                  have ho2 : Own refEl base W1 (.slice (some ⟨g, 0, none⟩) (ys.take i ++ List.replicate (xs.length - i) ((0 : Int), (0 : Int))).length cap) (ys.take i ++ List.replicate (xs.length - i) ((0 : Int), (0 : Int))) := by rw [hll]; exact ho1
                  obtain ⟨A9, c9, hv9, -, hs9⟩ := ho2.form
                  rw [Value.slice.injEq] at hv9
                  rw [hv9.1]
                  exact hs9
                have htk : (ys.take i ++ List.replicate (xs.length - i) ((0 : Int), (0 : Int))).take i = R := by
                  have hli : (ys.take i).length = i := by simp; omega
                  rw [← y2]
                  conv => lhs; arg 1; rw [← hli]
                  exact List.take_left
                obtain ⟨ZS, hZS⟩ : ∃ ZS, ys.take i ++ List.replicate (xs.length - i) ((0 : Int), (0 : Int)) = ZS := ⟨_, rfl⟩
                rw [hZS] at hll hslz htk
                have Hll := Lib.hid hll
                have Htk := Lib.hid htk
                have hkp2 : Kp g w W1 := hkp.trans hk1
                have hiR : i < xs.length := by omega
                clear y1 y2 y3 y4 y5 hkq hoq ho1 hk1 hkp hll htk hZS
                go_wp2_with (first | (refine wpList_runs rfl (runs_slFrom refEl (.tmp 54) (.tmp 55) rfl xs.length rfl i rfl (by omega) hcap (by omega)) ?_) | (refine wpList_runs rfl (hcl _ _ (.tmp 56) rfl rfl) ?_) |
                  (refine wpList_slTo refEl rfl (.tmp 57) (.tmp 58) rfl (congrArg (fun z => Value.slice (some ⟨g, 0, none⟩) z cap) Hll.out.symm) _ rfl hslz i rfl (by rw [Hll.out]; omega) (by rw [Hll.out]; exact hcap) ?_; intro Az lz cz hlz hcz hsz))
                have hlz2 : lz = R := by rw [hlz.out, Htk.out]
                subst hlz2
                go_ret
                exact ⟨_, _, rfl, hcz, hsz, hkp2⟩
      · have hke : k = xs.length := by omega
        have d2 : decide ((k : Int) < (xs.length : Int)) = false := decide_eq_false (by omega)
        have hdd := Hdk.out
        rw [hke, List.take_of_length_le (Nat.le_refl _)] at hdd
        have hRx : R = xs := by rw [← HR.out]; exact hdd
        subst hRx
        clear hke hdd
        go_wp2
        go_ret
        exact ⟨_, _, rfl, hcap, Hsl0.out.ext hext, Kp.of_ext hext⟩

end Go.Proofs.Ytkbmocgjbhmioaa
