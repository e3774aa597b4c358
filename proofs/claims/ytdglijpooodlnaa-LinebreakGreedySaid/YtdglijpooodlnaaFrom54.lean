/- The reference's from: the walk. -/
import Derived.Test.YtdglijpooodlnaaBrkW54
namespace Go.Proofs.Ytdglijpooodlnaa
open Go.RowKit

/-- the least cost so far, -1 before the first -/
def bestF (l : List ByteArray) (W : Int) (i q : Nat) : Int := if q = 0 then -1 else (sc l W (CF l W) i q).1
theorem sc_nonneg {l : List ByteArray} {W : Int} (hF : Fit W l) {i : Nat} (hi : i < l.length) : ∀ q, i + q ≤ gF l W i → 0 ≤ (sc l W (CF l W) i q).1
  | 0, _ => by show (0 : Int) ≤ 9223372036854775807; decide
  | q + 1, h => by
    have h1 := sc_nonneg hF hi q (by omega)
    have hg := (gF_is W (show i ≤ l.length by omega)).le
    have h2 := CF_le hF (i := i + q + 1) (by omega)
    have h3 := cand_bound hF (B := 2400000) (T := CF l W) (by omega) (show i < i + q + 1 by omega) (by omega) hi h2.1 h2.2
    simp only [sc]
    split
    · exact h3.1
    · exact h1
theorem bestF_step {l : List ByteArray} {W : Int} (hF : Fit W l) {i q : Nat} (hi : i < l.length) (hq : i + q + 1 ≤ gF l W i) :
    (bestF l W i q < 0 → bestF l W i (q + 1) = cand l W (CF l W) i (i + q + 1)) ∧ (¬ bestF l W i q < 0 → bestF l W i (q + 1) = if cand l W (CF l W) i (i + q + 1) < bestF l W i q then cand l W (CF l W) i (i + q + 1) else bestF l W i q) := by
  have hg := (gF_is W (show i ≤ l.length by omega)).le
  have h2 := CF_le hF (i := i + q + 1) (by omega)
  have h3 := cand_bound hF (B := 2400000) (T := CF l W) (by omega) (show i < i + q + 1 by omega) hq hi h2.1 h2.2
  have h4 := sc_nonneg hF hi q (by omega)
  have e1 : bestF l W i (q + 1) = (sc l W (CF l W) i (q + 1)).1 := by unfold bestF; rw [if_neg (by omega)]
  rcases Nat.eq_zero_or_pos q with rfl | hp
  · have e0 : bestF l W i 0 = -1 := rfl
    refine ⟨fun _ => ?_, fun h => absurd (by rw [e0]; decide) h⟩
    rw [e1]
    have h5 : cand l W (CF l W) i (i + 0 + 1) < 9223372036854775807 := by omega
    have e2 : sc l W (CF l W) i (0 + 1) = (cand l W (CF l W) i (i + 0 + 1), i + 0 + 1) := by
      show (if _ then _ else _) = _
      exact if_pos h5
    rw [e2]
  · have e0 : bestF l W i q = (sc l W (CF l W) i q).1 := by unfold bestF; rw [if_neg (by omega)]
    refine ⟨fun h => by rw [e0] at h; omega, fun _ => ?_⟩
    rw [e1, e0]
    simp only [sc]
    split <;> rfl

/-- the table of the least costs -/
def RetFrom (l : List ByteArray) (W : Int) (w : World) (e : Ending) (w' : World) : Prop :=
  ∃ B xs, e = .returned (.slice (some ⟨B, 0, none⟩) (l.length + 1) (l.length + 1)) ∧ HasL w' B xs ∧ xs.length = l.length + 1 ∧ (∀ e, e ≤ l.length → xs[e]? = some (CF l W e)) ∧ Ext w w'

set_option maxRecDepth 100000 in
set_option maxHeartbeats 3200000 in
theorem from_any (A : Option Addr) (c : Nat) (l : List ByteArray) (W : Int) (w : World) (hs : Sl strEl w A l) (hF : Fit W l) :
    Calls Try.prog 30 #[.int .i64 W, .slice A l.length c] w (RetFrom l W w) := by
  have hl := hF.brief.1
  have hmk := run_make_row' (P := Try.prog) 25 3 (.int .i64 0) 8 Try.underlying25 (by kernel_rfl) rfl .i64 .i64 (l.length + 1) (by omega) (by omega)
  have hmk2 : ∀ W : World, (Instr.makeSlice 25 (.int .i64 ((l.length : Int) + 1)) (.int .i64 ((l.length : Int) + 1))).run Try.prog W = .ok (.slice (some ⟨W.heap.size, 0, none⟩) (l.length + 1) (l.length + 1)) (W.alloc (.cells (madeCells #[.int .i64 0] (l.length + 1)) 3)) := fun W => hmk W
  have hW1 := hF.lo
  have hW2 := hF.hi
  have HF := Lib.hid hF
  have Hs := Lib.hid hs
  clear hmk hF hs
  go_enter Try.func30, Try.ntmps30
  go_wp2
  have hL0 : HasL (w.alloc (.cells (madeCells #[.int .i64 0] (l.length + 1)) 3)) w.heap.size (List.replicate (l.length + 1) 0) := hasL_of (heap_alloc_new w _)
  have HL0 := Lib.hid hL0
  clear hL0 hmk2
  go_loopw [6, 7, 8, 9] (fun v _ _ _ wr => ∃ (m : Nat) (z : Int) (xs : List Int), m ≤ l.length ∧ z = (l.length : Int) - m - 1 ∧ v = .int .i64 z ∧ Hid (HasL wr w.heap.size xs) ∧ xs.length = l.length + 1 ∧ Hid (∀ e, l.length - m ≤ e → e ≤ l.length → xs[e]? = some (CF l W e)) ∧ Ext w wr) (fun v _ _ _ _ => (intOf v + 1).toNat)
  case atStart =>
    refine ⟨0, (l.length : Int) - 1, _, by omega, by omega, by go_num, HL0, by simp, Lib.hid fun e h1 h2 => ?_, (Ext.refl w).alloc _⟩
    obtain rfl : e = l.length := by omega
    rw [CF_end, List.getElem?_replicate, if_pos (by omega)]
  case round =>
    obtain ⟨m, z, xs, hm, hz, rfl, HX, hXl, HXe, hext⟩ := hrel
    by_cases hlt : m < l.length
    · obtain ⟨i, hi⟩ : ∃ i, l.length = m + 1 + i := ⟨l.length - (m + 1), by omega⟩
      obtain rfl : z = (i : Int) := by omega
      have hil : i < l.length := by omega
      have Hi := Lib.hid hi
      clear hi hz
      have hG := gF_is W (show i ≤ l.length by omega)
      have hgl := HF.out.lt hil
      have hgn := hG.le
      have HG := Lib.hid hG
      clear hG
      go_wp2
      go_loopw [7, 8, 9] (fun v7 v8 _ wq => ∃ q : Nat, i + q ≤ gF l W i ∧ v8 = .int .i64 ((i + q + 1 : Nat) : Int) ∧ v7 = .int .i64 (bestF l W i q) ∧ Ext wr wq) (fun _ v _ _ => l.length + 2 - (intOf v).toNat)
      case atStart => exact ⟨0, by omega, by go_num, rfl, Ext.refl _⟩
      case round =>
        obtain ⟨q, hq, rfl, rfl, hxq⟩ := hrel
        obtain ⟨b, hb0⟩ : ∃ b, bestF l W i q = b := ⟨_, rfl⟩
        rw [hb0]
        have Hb0 := Lib.hid hb0
        by_cases hqg : i + q + 1 ≤ gF l W i
        · have hS := bestF_step HF.out hil hqg
          rw [hb0] at hS
          obtain ⟨k, hk⟩ : ∃ k, i + q + 1 = k := ⟨_, rfl⟩
          rw [hk] at hS hqg ⊢
          have hik : i < k := by omega
          have hkn : k ≤ l.length := by omega
          have hfit := HG.out.fit k hik hqg
          have hnn := lenF_nonneg (l := l) hik hkn
          have hC := CF_le HF.out hkn
          have Hlen : Hid (∀ wz, Ext w wz → Calls Try.prog 31 #[.slice A l.length c, .int .i64 (i : Nat), .int .i64 (k : Nat)] wz fun e w' => e = .returned (.int .i64 (lenF l i k)) ∧ Ext wz w') :=
            Lib.hid fun wz hz => length_any A c l i k 60 wz (Hs.out.ext hz) HF.out.brief (by omega) (by omega) hkn
          have hxk := HXe.out k (by have := Hi.out; omega) hkn
          have hcd : cand l W (CF l W) i k = if k = l.length then 0 else (W - lenF l i k) * (W - lenF l i k) + CF l W k := rfl
          have hce : k = l.length → CF l W k = 0 := fun h => by rw [h]; exact CF_end l W
          obtain ⟨L, hL⟩ : ∃ L, lenF l i k = L := ⟨_, rfl⟩
          obtain ⟨C, hC0⟩ : ∃ C, CF l W k = C := ⟨_, rfl⟩
          obtain ⟨K, hK0⟩ : ∃ K, cand l W (CF l W) i k = K := ⟨_, rfl⟩
          rw [hK0] at hS
          rw [hL, hC0, hK0] at hcd
          rw [hL] at hfit hnn Hlen
          rw [hC0] at hC hxk hce
          have hsq := sq_le (a := W - L) (by omega) (by omega)
          have HS := Lib.hid hS
          have Hcd := Lib.hid hcd
          have Hce := Lib.hid hce
          have Hxk := Lib.hid hxk
          have Hk := Lib.hid hk
          clear hS hcd hce hxk hk hL hC0 hK0 hb0
          have d1 : decide ((k : Int) ≤ (l.length : Int)) = true := decide_eq_true (by omega)
          have d2 : decide (L ≤ W) = true := decide_eq_true hfit
          have b1 : ((k : Int) < ((l.length : Int) + 1)) := by omega
          go_wp2_with fail
          refine (Hlen.out _ (hext.trans hxq)).mono ?_
          rintro r w2 ⟨rfl, hx2⟩
          have hxq2 := hxq.trans hx2
          have HX2 := Lib.hid (HX.out.keep (hxq2.block HX.out.lt))
          have c9 : w2.cell? ⟨w.heap.size, k, none⟩ = some (.int .i64 C) := HX2.out.cell Hxk.out
          by_cases hke : k = l.length
          · have d3 : decide ((k : Int) < (l.length : Int)) = false := decide_eq_false (by omega)
            have d3' : decide (k < l.length) = false := decide_eq_false (by omega)
            have d3n : l.length ≤ k := by omega
            have HK := Lib.hid (show K = C by rw [Hcd.out, if_pos hke, Hce.out hke])
            clear hke
            by_cases hb : b < 0
            · have d6 : decide (b < 0) = true := decide_eq_true hb
              have Hr := Lib.hid (show bestF l W i (q + 1) = C by rw [(HS.out.1 hb), HK.out])
              clear hb
              go_wp2
              go_roundw
              case rel => exact ⟨q + 1, by have := Hk.out; omega, by rw [← Hk.out]; go_num, int_eq_of Hr.out.symm, hxq2⟩
              case measure => simp [intOf]; omega
            · have d6 : decide (b < 0) = false := decide_eq_false hb
              have hs2 := HS.out.2 (by omega)
              rw [HK.out] at hs2
              by_cases hc : C < b
              · have d7 : decide (C < b) = true := decide_eq_true hc
                rw [if_pos hc] at hs2
                have Hr := Lib.hid hs2
                clear hc hs2 hb
                go_wp2
                go_roundw
                case rel => exact ⟨q + 1, by have := Hk.out; omega, by rw [← Hk.out]; go_num, int_eq_of Hr.out.symm, hxq2⟩
                case measure => simp [intOf]; omega
              · have d7 : decide (C < b) = false := decide_eq_false hc
                rw [if_neg hc] at hs2
                have Hr := Lib.hid hs2
                clear hc hs2 hb
                go_wp2
                go_roundw
                case rel => exact ⟨q + 1, by have := Hk.out; omega, by rw [← Hk.out]; go_num, int_eq_of Hr.out.symm, hxq2⟩
                case measure => simp [intOf]; omega
          · have d3 : decide ((k : Int) < (l.length : Int)) = true := decide_eq_true (by omega)
            have d3' : decide (k < l.length) = true := decide_eq_true (by omega)
            have d3n : k < l.length := by omega
            have HK := Lib.hid (show K = C + (W - L) * (W - L) by rw [Hcd.out, if_neg hke]; omega)
            clear hke
            go_wp2_with fail
            refine (Hlen.out _ (hext.trans hxq2)).mono ?_
            rintro r w3 ⟨rfl, hx3⟩
            go_wp2_with fail
            refine (Hlen.out _ (hext.trans (hxq2.trans hx3))).mono ?_
            rintro r w4 ⟨rfl, hx4⟩
            have hxq4 := hxq2.trans (hx3.trans hx4)
            by_cases hb : b < 0
            · have d6 : decide (b < 0) = true := decide_eq_true hb
              have Hr := Lib.hid (show bestF l W i (q + 1) = C + (W - L) * (W - L) by rw [(HS.out.1 hb), HK.out])
              clear hb
              go_wp2
              go_roundw
              case rel => exact ⟨q + 1, by have := Hk.out; omega, by rw [← Hk.out]; go_num, int_eq_of Hr.out.symm, hxq4⟩
              case measure => simp [intOf]; omega
            · have d6 : decide (b < 0) = false := decide_eq_false hb
              have hs2 := HS.out.2 (by omega)
              rw [HK.out] at hs2
              by_cases hc : C + (W - L) * (W - L) < b
              · have d7 : decide (C + (W - L) * (W - L) < b) = true := decide_eq_true hc
                rw [if_pos hc] at hs2
                have Hr := Lib.hid hs2
                clear hc hs2 hb
                go_wp2
                go_roundw
                case rel => exact ⟨q + 1, by have := Hk.out; omega, by rw [← Hk.out]; go_num, int_eq_of Hr.out.symm, hxq4⟩
                case measure => simp [intOf]; omega
              · have d7 : decide (C + (W - L) * (W - L) < b) = false := decide_eq_false hc
                rw [if_neg hc] at hs2
                have Hr := Lib.hid hs2
                clear hc hs2 hb
                go_wp2
                go_roundw
                case rel => exact ⟨q + 1, by have := Hk.out; omega, by rw [← Hk.out]; go_num, int_eq_of Hr.out.symm, hxq4⟩
                case measure => simp [intOf]; omega
        · have hqe : i + q = gF l W i := by omega
          have Hfin := Lib.hid (show CF l W i = b by
            unfold CF
            rw [CN_row hil, ← hb0]
            unfold bestF
            rw [if_neg (by omega), show gF l W i - i = q by omega])
          have b2 : ((i : Int) < ((l.length : Int) + 1)) := by omega
          clear hb0
          by_cases hkn : i + q + 1 ≤ l.length
          · have hbig : W < lenF l i (i + q + 1) := by
              rcases HG.out.stop with h | h
              · omega
              · rw [← hqe] at h
                exact h
            have Hlen : Hid (∀ wz, Ext w wz → Calls Try.prog 31 #[.slice A l.length c, .int .i64 (i : Nat), .int .i64 ((i + q + 1 : Nat) : Int)] wz fun e w' => e = .returned (.int .i64 (lenF l i (i + q + 1))) ∧ Ext wz w') :=
              Lib.hid fun wz hz => length_any A c l i (i + q + 1) 60 wz (Hs.out.ext hz) HF.out.brief (by omega) (by omega) hkn
            obtain ⟨k, hk⟩ : ∃ k, i + q + 1 = k := ⟨_, rfl⟩
            rw [hk] at hbig Hlen hkn ⊢
            obtain ⟨L, hL⟩ : ∃ L, lenF l i k = L := ⟨_, rfl⟩
            rw [hL] at hbig Hlen
            have d1 : decide ((k : Int) ≤ (l.length : Int)) = true := decide_eq_true (by omega)
            have d2 : decide (L ≤ W) = false := decide_eq_false (by omega)
            clear hk hL
            go_wp2_with fail
            refine (Hlen.out _ (hext.trans hxq)).mono ?_
            rintro r w3 ⟨rfl, hx2⟩
            have hx3 := hext.trans (hxq.trans hx2)
            have HX3 := Lib.hid (HX.out.keep ((hxq.trans hx2).block HX.out.lt))
            have f1 : w3.frozen? ⟨w.heap.size, i, none⟩ = false := HX3.out.free i
            obtain ⟨x0, hx0⟩ : ∃ x0, xs[i]? = some x0 := ⟨xs[i]'(by omega), List.getElem?_eq_getElem (by omega)⟩
            have f2 : w3.cell? ⟨w.heap.size, i, none⟩ = some (.int .i64 x0) := HX3.out.cell hx0
            clear hx0
            go_wp2
            go_roundw
            case rel =>
              exact ⟨m + 1, (i : Int) - 1, xs.set i b, by omega, by have := Hi.out; omega, by go_num, Lib.hid (HX3.out.set i b), by rw [List.length_set]; exact hXl, Lib.hid fun e h1 h2 => (by
                rcases Nat.lt_or_ge i e with h | h
                · rw [List.getElem?_set_ne (by omega)]
                  exact HXe.out e (by have := Hi.out; omega) h2
                · obtain rfl : i = e := by have := Hi.out; omega
                  rw [List.getElem?_set_self (by omega), Hfin.out]), hx3.put (Nat.le_refl _) (fun k hk => heap_setCell_other _ _ _ _ hk) rfl rfl rfl (by simp)⟩
            case measure => simp [intOf] <;> omega
          · obtain ⟨k, hk⟩ : ∃ k, i + q + 1 = k := ⟨_, rfl⟩
            rw [hk] at hkn ⊢
            have d1 : decide ((k : Int) ≤ (l.length : Int)) = false := decide_eq_false (by omega)
            clear hk
            have hx3 := hext.trans hxq
            have HX3 := Lib.hid (HX.out.keep (hxq.block HX.out.lt))
            have f1 := HX3.out.free i
            obtain ⟨x0, hx0⟩ : ∃ x0, xs[i]? = some x0 := ⟨xs[i]'(by omega), List.getElem?_eq_getElem (by omega)⟩
            have f2 := HX3.out.cell hx0
            clear hx0
            go_wp2
            go_roundw
            case rel =>
              exact ⟨m + 1, (i : Int) - 1, xs.set i b, by omega, by have := Hi.out; omega, by go_num, Lib.hid (HX3.out.set i b), by rw [List.length_set]; exact hXl, Lib.hid fun e h1 h2 => (by
                rcases Nat.lt_or_ge i e with h | h
                · rw [List.getElem?_set_ne (by omega)]
                  exact HXe.out e (by have := Hi.out; omega) h2
                · obtain rfl : i = e := by have := Hi.out; omega
                  rw [List.getElem?_set_self (by omega), Hfin.out]), hx3.put (Nat.le_refl _) (fun k hk => heap_setCell_other _ _ _ _ hk) rfl rfl rfl (by simp)⟩
            case measure => simp [intOf] <;> omega
    · obtain rfl : m = l.length := by omega
      have hz0 : z < 0 := by omega
      have d1 : decide (0 ≤ z) = false := decide_eq_false (by omega)
      clear hz
      go_wp2
      go_ret
      exact ⟨_, _, rfl, HX.out, hXl, fun e h => HXe.out e (by omega) h, hext⟩

end Go.Proofs.Ytdglijpooodlnaa
