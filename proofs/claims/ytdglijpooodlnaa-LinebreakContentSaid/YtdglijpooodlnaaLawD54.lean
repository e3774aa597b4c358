/- The law on what the lines contain: the walk. -/
import Derived.Test.YtdglijpooodlnaaLawC54
import Derived.Test.YtdglijpooodlnaaPress54
import Derived.BigQuiet
namespace Go.Proofs.Ytdglijpooodlnaa
open Go.RowKit

theorem run_neq_str (t : TypeId) (a b : ByteArray) (w : World) : (binOp .neq t (.string a) (.string b)).run Try.prog w = .ok (.bool (decide (a ≠ b))) w := by
  have h : (!(a.toList == b.toList)) = decide (a ≠ b) := by rw [beq_bytes]; simp
  rw [← h]
  go_simp
theorem lineW_cons {l : List ByteArray} {a g : Nat} (h : a < g) (hg : g ≤ l.length) : lineW l a g = l[a]'(by omega) :: lineW l (a + 1) g := by
  unfold lineW
  rw [List.drop_eq_getElem_cons (show a < l.length by omega), show g - a = (g - (a + 1)) + 1 by omega, List.take_succ_cons]
theorem joinB_cons (x y : ByteArray) (ys : List ByteArray) : joinB spaceB (x :: y :: ys) = x ++ (spaceB ++ joinB spaceB (y :: ys)) := by
  refine bytesList_inj ?_
  simp only [ByteArray.data_append, Array.toList_append, joinB_list, List.map_cons]
  rw [Lib.join_cons, Lib.join_cons]
  simp [Lib.joinTail, List.append_assoc]
/-- the first word of a line and what is behind it -/
theorem lineB_head {l : List ByteArray} {a g : Nat} (h : a < g) (hg : g ≤ l.length) : lineB l a g = (l[a]'(by omega)) ++ (if a + 1 < g then spaceB ++ lineB l (a + 1) g else ⟨#[]⟩) := by
  unfold lineB
  rw [lineW_cons h hg]
  split
  · rename_i h2
    rw [lineW_cons h2 hg, joinB_cons]
  · rw [show lineW l (a + 1) g = [] by unfold lineW; rw [show g - (a + 1) = 0 by omega, List.take_zero], joinB_one]
    exact bytesList_inj (by simp [ByteArray.data_append])
theorem cut_head (x r : ByteArray) : (x ++ r).extract 0 x.size = x := by
  refine bytesList_inj ?_
  have : x.data.toList.length = x.size := Array.length_toList
  simp only [ByteArray.data_extract, ByteArray.data_append, Array.toList_extract, Array.toList_append]
  rw [List.extract_eq_take_drop, List.drop_zero, Nat.sub_zero, ← this, Array.toList_append, List.take_left]
theorem cut_tail (x r : ByteArray) : (x ++ r).extract x.size (x ++ r).size = r := by
  refine bytesList_inj ?_
  have h1 : x.data.toList.length = x.size := Array.length_toList
  have h2 : r.data.toList.length = r.size := Array.length_toList
  simp only [ByteArray.data_extract, ByteArray.data_append, Array.toList_extract, Array.toList_append]
  rw [List.extract_eq_take_drop, ByteArray.size_append, Nat.add_sub_cancel_left, ← h1, Array.toList_append, List.drop_left, ← h2, List.take_length]

set_option maxRecDepth 100000 in
set_option maxHeartbeats 3200000 in
theorem content_law (W : Int) (A : Option Addr) (c : Nat) (l : List ByteArray) (w : World) (hs : Sl strEl w A l) (hc : l.length ≤ c) (hn : l.length ≤ 9223372036854775807) :
    Calls Try.prog 8 #[.int .i64 W, .slice A l.length c] w (RetTrue w) := by
  have Ha := Lib.hid (awake_any w)
  have Hs := Lib.hid hs
  have Hb := Lib.hid (fun w' (hx : Ext w w') => brief_any A c l 60 w' (hs.ext hx) hn)
  clear hs
  go_enter Try.func8, Try.ntmps8
  go_wp2_with fail
  refine (Ha.out).mono ?_
  rintro e w1 ⟨rfl, hx1⟩
  go_wp2_with fail
  refine (Hb.out _ hx1).mono ?_
  rintro e w2 ⟨b, rfl, hb, hx2⟩
  cases b with
  | false =>
    go_wp2
    go_ret
    exact ⟨rfl, hx1.trans hx2⟩
  | true =>
    have HB := Lib.hid (hb rfl)
    clear hb
    have hx12 := hx1.trans hx2
    by_cases hw : wrongF W l = 0
    · have hF := fit_of hw HB.out
      have hW1 := hF.lo
      have hW2 := hF.hi
      have hbr := HB.out.1
      have hv := (bLines_val hF l.length 0 (Nat.zero_le _) (by omega)).1
      have hv2 : Val l W 0 (bR l W) := by rw [bR_yes hw]; exact hv
      have hbl := bR_len (W := W) HB.out
      have hbc := fun w' (hx : Ext w w') => break_any A c l W w' (Hs.out.ext hx) HB.out
      rw [hw] at hbc
      obtain ⟨B, hB⟩ : ∃ B, bR l W = B := ⟨_, rfl⟩
      rw [hB] at hbc hv2 hbl
      have H1 := Lib.hid hbc
      have H2 : Hid (∀ w' D dc, Ext w w' → Sl intEl w' D B → Calls Try.prog 20 #[.slice D B.length dc, .slice A l.length c] w' (RetOwn strEl w' (linesF l 0 B))) := Lib.hid fun w' D dc hx h => by
        have := lines_any D A dc c l B w' (Hs.out.ext hx) hc h (by omega) HB.out
        rwa [show linesR l B = linesF l 0 B by unfold linesR; rw [if_pos (show endsB (l.length : Int) 0 B = true from hv2.ends)]] at this
      have hTl := linesF_length l B 0
      have HV := Lib.hid hv2
      clear hB hbc hv hv2 hF hw hx1 hx2
      go_wp2_with fail
      refine (H1.out _ hx12).mono ?_
      rintro e w3 ⟨v3, rfl, ho3, hx3⟩
      obtain ⟨D, dc, rfl, hdc, hs3⟩ := ho3.form
      go_wp2_with fail
      refine (H2.out _ _ _ (hx12.trans hx3) hs3).mono ?_
      rintro e w4 ⟨v4, rfl, ho4, hx4⟩
      obtain ⟨F, fc, rfl, hfc, hs4⟩ := ho4.form
      obtain ⟨T, hT⟩ : ∃ T, linesF l 0 B = T := ⟨_, rfl⟩
      rw [hT] at hs4 hTl hfc
      rw [hT]
      have HT := Lib.hid hT
      have Hs3 := Lib.hid (hs3.ext hx4)
      have Hs4 := Lib.hid hs4
      have Hx := Lib.hid ((hx12.trans hx3).trans hx4)
      have d1 : ((T.length : Int) != (B.length : Int)) = false := by simp [hTl]
      have HTl := Lib.hid hTl
      clear hT ho3 ho4 hs3 hs4 hx3 hx4 hx12 hdc hfc hTl
      go_wp2
      go_loopw [8, 9, 10, 11, 12] (fun va vk _ _ _ wr => ∃ k a : Nat, k ≤ T.length ∧ a ≤ l.length ∧ vk = .int .i64 (k : Nat) ∧ va = .int .i64 (a : Nat) ∧ Hid (Val l W a (B.drop k)) ∧ Hid (T.drop k = linesF l a (B.drop k)) ∧ Ext w4 wr) (fun _ vk _ _ _ _ => T.length - (intOf vk).toNat)
      case atStart => exact ⟨0, 0, Nat.zero_le _, Nat.zero_le _, rfl, rfl, HV, Lib.hid HT.out.symm, Ext.refl _⟩
      case round =>
        obtain ⟨k, a, hk, ha, rfl, rfl, Hv, Ht, hext⟩ := hrel
        have hTB := HTl.out
        by_cases hlt : k < T.length
        · have hltB : k < B.length := by omega
          have hv := Hv.out
          rw [List.drop_eq_getElem_cons hltB] at hv
          obtain ⟨g, hg, hag, hgn, hfit, hv3⟩ := hv.cons
          have ht := Ht.out
          rw [List.drop_eq_getElem_cons hlt, linesF_drop hltB, hg, Int.toNat_natCast] at ht
          obtain ⟨ht1, ht2⟩ := List.cons.inj ht
          obtain ⟨bT, oT, rfl, qT, uT⟩ := strAt (Hs4.out.ext hext) hlt
          obtain ⟨bB, oB, rfl, qB, uB⟩ := intAt (Hs3.out.ext hext) hltB
          rw [ht1] at uT
          rw [hg] at uB
          have hzs := lineB_size hag hgn
          have hzl := lineB_le HB.out hag hgn
          have e1 : decide ((k : Int) < (T.length : Int)) = true := decide_eq_true (by omega)
          have gT : ((k : Int) < (T.length : Int)) := by omega
          have gB : ((k : Int) < (B.length : Int)) := by omega
          clear hTB
          have HV3 := Lib.hid hv3
          have HT2 := Lib.hid ht2
          have hzW : ((lineB l a g).size : Int) ≤ W := by omega
          obtain ⟨z, hz⟩ : ∃ z, lineB l a g = z := ⟨_, rfl⟩
          rw [hz] at uT hzl hzW
          have Hz := Lib.hid hz
          have ht1z := Lib.hid (ht1.trans hz)
          have e2 : decide ((z.size : Int) > W) = false := decide_eq_false (by omega)
          clear hv hg ht ht1 ht2 hzs hz hv3
          go_wp2
          go_loopw [8, 10, 11] (fun vq vs _ wq => ∃ (q : Nat) (s : ByteArray), a ≤ q ∧ q ≤ g ∧ vq = .int .i64 (q : Nat) ∧ vs = .string s ∧ Hid (s = lineB l q g) ∧ wq = wr) (fun vq _ _ _ => g - (intOf vq).toNat)
          case atStart => exact ⟨a, z, Nat.le_refl _, by omega, rfl, rfl, Lib.hid Hz.out.symm, rfl⟩
          case round =>
            obtain ⟨q, s, hq1, hq2, rfl, rfl, Hsq, rfl⟩ := hrel
            by_cases hqg : q < g
            · have hqn : q < l.length := by omega
              obtain ⟨bL, oL, rfl, qL, uL⟩ := strAt (Hs.out.ext (Hx.out.trans hext)) hqn
              have hhd := lineB_head hqg hgn
              obtain ⟨x, hx⟩ : ∃ x, l[q] = x := ⟨_, rfl⟩
              rw [hx] at uL hhd
              obtain ⟨r, hr⟩ : ∃ r, (if q + 1 < g then spaceB ++ lineB l (q + 1) g else ⟨#[]⟩) = r := ⟨_, rfl⟩
              rw [hr] at hhd
              have hsl := lineB_le HB.out hqg hgn
              have hsx := Hsq.out.trans hhd
              have e3 : decide ((q : Int) < (g : Int)) = true := decide_eq_true (by omega)
              have hsz : s.size = x.size + r.size := by rw [hsx, ByteArray.size_append]
              have e4 : decide ((s.size : Int) < (x.size : Int)) = false := decide_eq_false (by omega)
              have e5 : s.extract 0 x.size = x := by rw [hsx]; exact cut_head x r
              have e6 : s.extract x.size s.size = r := by rw [hsx]; exact cut_tail x r
              have e7 : (x.toList != x.toList) = false := by simp
              have e8 : ((x.size : Int) ≤ (s.size : Int)) := by omega
              have hs3 : s.size ≤ 20000 := by rw [Hsq.out]; omega
              have Hsz := Lib.hid hsz
              clear hsz
              by_cases hq2g : q + 1 < g
              · rw [if_pos hq2g] at hr
                obtain ⟨y, hy⟩ : ∃ y, lineB l (q + 1) g = y := ⟨_, rfl⟩
                rw [hy] at hr
                have hrz : r.size = y.size + 1 := by rw [← hr, ByteArray.size_append, show spaceB.size = 1 from rfl]; omega
                have hr0 : r[0]'(by omega) = 32 := by
                  have hb : r.data.toList = 32 :: y.data.toList := by rw [← hr]; simp [spaceB, ByteArray.data_append]
                  rw [byte_at hb (by omega) (by simp)]
                  rfl
                have e9 : decide ((q : Int) + 1 < (g : Int)) = true := decide_eq_true (by omega)
                have hne : r ≠ ⟨#[]⟩ := by intro h; rw [h] at hrz; have : (⟨#[]⟩ : ByteArray).size = 0 := rfl; omega
                have e10 : (r.toList == (⟨#[]⟩ : ByteArray).toList) = false := by rw [beq_bytes]; simp [hne]
                have e13 : r.toList.isEmpty = false := by
                  rw [ByteArray.toList_eq]
                  have h1 : r.data.toList.length = r.size := Array.length_toList
                  cases h : r.data.toList with
                  | nil => rw [h] at h1; simp at h1; omega
                  | cons => rfl
                have e11 : r.extract 1 r.size = y := by rw [← hr]; exact cut_tail spaceB y
                have e12 : ((UInt8.toNat 32 : Int) != 32) = false := rfl
                have hrp : (0 : Nat) < r.size := by omega
                have hrp1 : ((1 : Int) ≤ (r.size : Int)) := by omega
                have Hy := Lib.hid hy.symm
                have Hrz := Lib.hid hrz
                have Hr0 : Hid (∀ h : 0 < r.size, r[0]'h = 32) := Lib.hid fun _ => hr0
                clear hhd hsx hr hy hne hr0 hrz
                have hr0 := Hr0.out hrp
                clear Hr0
                go_wp2
                go_roundw
                case rel => exact ⟨q + 1, y, by omega, by omega, by go_num, rfl, Hy, trivial⟩
                case measure => simp [intOf]; omega
              · rw [if_neg hq2g] at hr
                have e9 : decide ((q : Int) + 1 < (g : Int)) = false := decide_eq_false (by omega)
                have Hy := Lib.hid (show r = lineB l (q + 1) g by rw [← hr, show q + 1 = g by omega, lineB_same])
                clear hhd hsx hr
                go_wp2
                go_roundw
                case rel => exact ⟨q + 1, r, by omega, by omega, by go_num, rfl, Hy, trivial⟩
                case measure => simp [intOf]; omega
            · obtain rfl : q = g := by omega
              have hse := Hsq.out
              rw [lineB_same] at hse
              subst hse
              have hJp := justF_press W z
              have hgap := fun h => justF_gap (s := z) hW1 hW2 hzW h
              have hno := fun h => justF_nogap (W := W) (s := z) h
              obtain ⟨G, hG⟩ : ∃ G, gapB z = G := ⟨_, rfl⟩
              obtain ⟨K, hK⟩ : ∃ K, pressB z = K := ⟨_, rfl⟩
              obtain ⟨J, hJ⟩ : ∃ J, justF W z = J := ⟨_, rfl⟩
              rw [hG] at hgap hno
              rw [hJ, hK] at hJp
              rw [hJ] at hgap hno
              have hzs : z.size ≤ 1048576 := by omega
              have hJs : J.size ≤ 1048576 := by
                cases G with
                | true => have := hgap rfl; omega
                | false => rw [hno rfl]; exact hzs
              have HJ : Hid (∀ w', Calls Try.prog 22 #[.int .i64 W, .string z] w' fun e w'' => e = .returned (.string J) ∧ Ext w' w'') := Lib.hid fun w' => by
                have := justify_any z W w' hzs (by omega)
                rwa [hJ] at this
              have HpJ : Hid (∀ w', Calls Try.prog 24 #[.string J] w' fun e w'' => e = .returned (.string K) ∧ w'' = w') := Lib.hid fun w' => by
                have := pressed_any J w' hJs
                rwa [hJp] at this
              have Hpz : Hid (∀ w', Calls Try.prog 24 #[.string z] w' fun e w'' => e = .returned (.string K) ∧ w'' = w') := Lib.hid fun w' => by
                have := pressed_any z w' hzs
                rwa [hK] at this
              have Hgz : Hid (∀ w', Calls Try.prog 25 #[.string z] w' fun e w'' => e = .returned (.bool G) ∧ w'' = w') := Lib.hid fun w' => by
                have := gap_any z w' hzs
                rwa [hG] at this
              have e3 : (K.toList != K.toList) = false := by simp
              have e4 : decide ((q : Int) < (q : Int)) = false := decide_eq_false (by omega)
              clear hJp hG hK hJ
              go_wp2_with fail
              refine (HJ.out _).mono ?_
              rintro e w5 ⟨rfl, hx5⟩
              obtain ⟨bT2, oT2, hA2, qT2, uT2⟩ := strAt (Hs4.out.ext (hext.trans hx5)) hlt
              cases hA2
              rw [ht1z.out] at uT2
              have HsT := Lib.hid (Hs4.out.ext (hext.trans hx5))
              have Hzk := Lib.hid (show T[k]? = some z by rw [List.getElem?_eq_getElem hlt, ht1z.out])
              have Hg8 : decide (K ≠ K) = false := by simp
              have Hg21 : (decide (K ≠ K) || (G && decide ((J.size : Int) ≠ W))) = false := by
                cases G with
                | true => simp [hgap rfl]
                | false => simp
              have HG8 := Lib.hid Hg8
              have HG21 := Lib.hid Hg21
              clear Hg8 Hg21
              have Hfin : Hid (((decide (K ≠ K) || (G && decide ((J.size : Int) ≠ W))) || (!G && decide (J ≠ z))) = false) := by
                unfold Hid
                cases G with
                | true => simp [hgap rfl]
                | false => simp [hno rfl]
              clear hgap hno
              go_wp2
              refine wp_drawn (by kernel_rfl) (fun i => match i with | 0 => Ty.is (.string J) | 1 => Ty.is (.string K) | 2 => Ty.is (.slice (some ⟨bT, oT, none⟩) T.length fc) | 3 => Ty.is (.int .i64 (k : Nat)) | 4 => TCells [.string z] | 5 => Ty.is (.string z) | 6 => Ty.is (.string K) | 7 => Ty.is (.bool (decide (K ≠ K))) | 8 => Ty.is (.bool (decide (K ≠ K))) | 9 => TGd ((decide (K ≠ K)) = false) (Ty.is (.slice (some ⟨bT, oT, none⟩) T.length fc)) | 10 => TGd ((decide (K ≠ K)) = false) (Ty.is (.int .i64 (k : Nat))) | 11 => TGd ((decide (K ≠ K)) = false) (TCells [.string z]) | 12 => TGd ((decide (K ≠ K)) = false) (Ty.is (.string z)) | 13 => TGd ((decide (K ≠ K)) = false) (Ty.is (.bool G)) | 14 => TGd ((decide (K ≠ K)) = false) (Ty.is (.bool G)) | 15 => TGd (G = true) (Ty.is (.string J)) | 16 => TGd (G = true) (Ty.is (.int .i64 (J).size)) | 17 => TGd (G = true) (Ty.is (.int .i64 W)) | 18 => TGd (G = true) (Ty.is (.bool (decide (((J).size : Int) ≠ W)))) | 19 => TGd ((decide (K ≠ K)) = false) (Ty.is (.bool (G && (decide (((J).size : Int) ≠ W))))) | 20 => Ty.is (.bool ((decide (K ≠ K)) || (G && (decide (((J).size : Int) ≠ W))))) | 21 => Ty.is (.bool ((decide (K ≠ K)) || (G && (decide (((J).size : Int) ≠ W))))) | 22 => TGd (((decide (K ≠ K)) || (G && (decide (((J).size : Int) ≠ W)))) = false) (Ty.is (.slice (some ⟨bT, oT, none⟩) T.length fc)) | 23 => TGd (((decide (K ≠ K)) || (G && (decide (((J).size : Int) ≠ W)))) = false) (Ty.is (.int .i64 (k : Nat))) | 24 => TGd (((decide (K ≠ K)) || (G && (decide (((J).size : Int) ≠ W)))) = false) (TCells [.string z]) | 25 => TGd (((decide (K ≠ K)) || (G && (decide (((J).size : Int) ≠ W)))) = false) (Ty.is (.string z)) | 26 => TGd (((decide (K ≠ K)) || (G && (decide (((J).size : Int) ≠ W)))) = false) (Ty.is (.bool G)) | 27 => TGd (((decide (K ≠ K)) || (G && (decide (((J).size : Int) ≠ W)))) = false) (Ty.is (.bool (!(G)))) | 28 => TGd (((decide (K ≠ K)) || (G && (decide (((J).size : Int) ≠ W)))) = false) (Ty.is (.bool (!(G)))) | 29 => TGd ((!(G)) = true) (Ty.is (.string J)) | 30 => TGd ((!(G)) = true) (Ty.is (.slice (some ⟨bT, oT, none⟩) T.length fc)) | 31 => TGd ((!(G)) = true) (Ty.is (.int .i64 (k : Nat))) | 32 => TGd ((!(G)) = true) (TCells [.string z]) | 33 => TGd ((!(G)) = true) (Ty.is (.string z)) | 34 => TGd ((!(G)) = true) (Ty.is (.bool (decide (J ≠ z)))) | 35 => TGd (((decide (K ≠ K)) || (G && (decide (((J).size : Int) ≠ W)))) = false) (Ty.is (.bool ((!(G)) && (decide (J ≠ z))))) | 36 => Ty.is (.bool (((decide (K ≠ K)) || (G && (decide (((J).size : Int) ≠ W)))) || ((!(G)) && (decide (J ≠ z))))) | _ => Ty.any) (by kernel_rfl) rfl ?_
              intro v
              refine ⟨?_, ?_, ?_, ?_, ?_, ?_, ?_, ?_, ?_, ?_, ?_, ?_, ?_, ?_, ?_, ?_, ?_, ?_, ?_, ?_, ?_, ?_, ?_, ?_, ?_, ?_, ?_, ?_, ?_, ?_, ?_, ?_, ?_, ?_, ?_, ?_, ?_, ?_⟩
              · intro wq hq hd
                refine ob_plain rfl ?_
                exact yld_move (.tmp 12) rfl rfl rfl
              · intro wq hq hd
                obtain ⟨h0, -⟩ := hd
                change v 0 = _ at h0
                refine ob_plain rfl ?_
                refine yld_call 24 Try.call24 _ _ rfl rfl [_] ⟨h0, trivial⟩ ?_
                refine (HpJ.out _).mono ?_
                rintro e w' ⟨rfl, rfl⟩
                exact ⟨_, rfl, Ext.refl _, rfl⟩
              · intro wq hq hd
                refine ob_plain rfl ?_
                exact yld_move (.tmp 7) rfl rfl rfl
              · intro wq hq hd
                refine ob_plain rfl ?_
                exact yld_move (.tmp 9) rfl rfl rfl
              · intro wq hq hd
                obtain ⟨h0, h1, -⟩ := hd
                change v 2 = _ at h0
                change v 3 = _ at h1
                refine ob_plain rfl ?_
                exact yld_indexAt strEl (.tmp 108) (.tmp 109) rfl (some ⟨bT, oT, none⟩) T fc h0 k h1 (HsT.out.ext hq) z Hzk.out
              · intro wq hq hd
                obtain ⟨h0, -⟩ := hd
                change (TCells [.string z]).p (v 4) wq at h0
                refine ob_plain rfl ?_
                exact yld_loadOne 9 (.tmp 110) rfl Try.isAgg9 (c := .string z) h0 rfl
              · intro wq hq hd
                obtain ⟨h0, h1, -⟩ := hd
                change v 5 = _ at h0
                refine ob_plain rfl ?_
                refine yld_call 24 Try.call24 _ _ rfl rfl [_] ⟨h0, trivial⟩ ?_
                refine (Hpz.out _).mono ?_
                rintro e w' ⟨rfl, rfl⟩
                exact ⟨_, rfl, Ext.refl _, rfl⟩
              · intro wq hq hd
                obtain ⟨h0, h1, -⟩ := hd
                change v 1 = _ at h0
                change v 6 = _ at h1
                refine ob_plain rfl ?_
                exact yld_binStr .neq 9 9 (.tmp 107) (.tmp 112) rfl _ _ h0 h1 (run_neq_str _ _ _) rfl
              · intro wq hq hd
                obtain ⟨h0, h1, -⟩ := hd
                change v 7 = _ at h0
                refine ob_plain rfl ?_
                exact yld_move (.tmp 113) rfl h0 rfl
              · intro wq hq hd
                obtain ⟨h0, -⟩ := hd
                change v 8 = _ at h0
                refine ob_guard 8 false ((decide (K ≠ K))) rfl (yields_of rfl h0) (fun hg => ?_) (fun hg => ?_)
                · refine Yld.gd (p := (decide (K ≠ K)) = false) (T := Ty.is (.slice (some ⟨bT, oT, none⟩) T.length fc)) ?_
                  exact yld_move (.tmp 7) rfl rfl rfl
                · intro hn; rw [hn] at hg; cases hg
              · intro wq hq hd
                obtain ⟨h0, -⟩ := hd
                change v 8 = _ at h0
                refine ob_guard 8 false ((decide (K ≠ K))) rfl (yields_of rfl h0) (fun hg => ?_) (fun hg => ?_)
                · refine Yld.gd (p := (decide (K ≠ K)) = false) (T := Ty.is (.int .i64 (k : Nat))) ?_
                  exact yld_move (.tmp 9) rfl rfl rfl
                · intro hn; rw [hn] at hg; cases hg
              · intro wq hq hd
                obtain ⟨h0, h1, h2, -⟩ := hd
                change ((decide (K ≠ K)) = false) → v 9 = _ at h0
                change ((decide (K ≠ K)) = false) → v 10 = _ at h1
                change v 8 = _ at h2
                refine ob_guard 8 false ((decide (K ≠ K))) rfl (yields_of rfl h2) (fun hg => ?_) (fun hg => ?_)
                · refine Yld.gd (p := (decide (K ≠ K)) = false) (T := TCells [.string z]) ?_
                  replace h0 := h0 hg
                  replace h1 := h1 hg
                  exact yld_indexAt strEl (.tmp 115) (.tmp 116) rfl (some ⟨bT, oT, none⟩) T fc h0 k h1 (HsT.out.ext hq) z Hzk.out
                · intro hn; rw [hn] at hg; cases hg
              · intro wq hq hd
                obtain ⟨h0, h1, -⟩ := hd
                change ((decide (K ≠ K)) = false) → (TCells [.string z]).p (v 11) wq at h0
                change v 8 = _ at h1
                refine ob_guard 8 false ((decide (K ≠ K))) rfl (yields_of rfl h1) (fun hg => ?_) (fun hg => ?_)
                · refine Yld.gd (p := (decide (K ≠ K)) = false) (T := Ty.is (.string z)) ?_
                  replace h0 := h0 hg
                  exact yld_loadOne 9 (.tmp 117) rfl Try.isAgg9 (c := .string z) h0 rfl
                · intro hn; rw [hn] at hg; cases hg
              · intro wq hq hd
                obtain ⟨h0, h1, h2, -⟩ := hd
                change ((decide (K ≠ K)) = false) → v 12 = _ at h0
                change v 8 = _ at h1
                refine ob_guard 8 false ((decide (K ≠ K))) rfl (yields_of rfl h1) (fun hg => ?_) (fun hg => ?_)
                · refine Yld.gd (p := (decide (K ≠ K)) = false) (T := Ty.is (.bool G)) ?_
                  replace h0 := h0 hg
                  refine yld_call 25 Try.call25 _ _ rfl rfl [_] ⟨h0, trivial⟩ ?_
                  refine (Hgz.out _).mono ?_
                  rintro e w' ⟨rfl, rfl⟩
                  exact ⟨_, rfl, Ext.refl _, rfl⟩
                · intro hn; rw [hn] at hg; cases hg
              · intro wq hq hd
                obtain ⟨h0, h1, h2, -⟩ := hd
                change ((decide (K ≠ K)) = false) → v 13 = _ at h0
                change v 8 = _ at h2
                refine ob_guard 8 false ((decide (K ≠ K))) rfl (yields_of rfl h2) (fun hg => ?_) (fun hg => ?_)
                · refine Yld.gd (p := (decide (K ≠ K)) = false) (T := Ty.is (.bool G)) ?_
                  replace h0 := h0 hg
                  exact yld_move (.tmp 119) rfl h0 rfl
                · intro hn; rw [hn] at hg; cases hg
              · intro wq hq hd
                obtain ⟨h0, -⟩ := hd
                change ((decide (K ≠ K)) = false) → v 14 = _ at h0
                refine ob_guard 14 true (G) rfl (yields_of rfl (h0 HG8.out)) (fun hg => ?_) (fun hg => ?_)
                · refine Yld.gd (p := G = true) (T := Ty.is (.string J)) ?_
                  exact yld_move (.tmp 12) rfl rfl rfl
                · intro hn; rw [hn] at hg; cases hg
              · intro wq hq hd
                obtain ⟨h0, h1, -⟩ := hd
                change (G = true) → v 15 = _ at h0
                change ((decide (K ≠ K)) = false) → v 14 = _ at h1
                refine ob_guard 14 true (G) rfl (yields_of rfl (h1 HG8.out)) (fun hg => ?_) (fun hg => ?_)
                · refine Yld.gd (p := G = true) (T := Ty.is (.int .i64 (J).size)) ?_
                  replace h0 := h0 hg
                  exact yld_lenStr (.tmp 121) 9 Try.underlying9 rfl _ h0 rfl
                · intro hn; rw [hn] at hg; cases hg
              · intro wq hq hd
                obtain ⟨h0, -⟩ := hd
                change ((decide (K ≠ K)) = false) → v 14 = _ at h0
                refine ob_guard 14 true (G) rfl (yields_of rfl (h0 HG8.out)) (fun hg => ?_) (fun hg => ?_)
                · refine Yld.gd (p := G = true) (T := Ty.is (.int .i64 W)) ?_
                  exact yld_move (.tmp 0) rfl rfl rfl
                · intro hn; rw [hn] at hg; cases hg
              · intro wq hq hd
                obtain ⟨h0, h1, h2, -⟩ := hd
                change (G = true) → v 16 = _ at h0
                change (G = true) → v 17 = _ at h1
                change ((decide (K ≠ K)) = false) → v 14 = _ at h2
                refine ob_guard 14 true (G) rfl (yields_of rfl (h2 HG8.out)) (fun hg => ?_) (fun hg => ?_)
                · refine Yld.gd (p := G = true) (T := Ty.is (.bool (decide (((J).size : Int) ≠ W)))) ?_
                  replace h0 := h0 hg
                  replace h1 := h1 hg
                  exact yld_binInt .neq 3 3 (.tmp 122) (.tmp 123) rfl _ _ h0 h1 (run_neq_i64 _ _ _) rfl
                · intro hn; rw [hn] at hg; cases hg
              · intro wq hq hd
                obtain ⟨h0, h1, h2, -⟩ := hd
                change ((decide (K ≠ K)) = false) → v 14 = _ at h0
                change (G = true) → v 18 = _ at h1
                change v 8 = _ at h2
                refine ob_guard 8 false ((decide (K ≠ K))) rfl (yields_of rfl h2) (fun hg => ?_) (fun hg => ?_)
                · refine Yld.gd (p := (decide (K ≠ K)) = false) (T := Ty.is (.bool (G && (decide (((J).size : Int) ≠ W))))) ?_
                  replace h0 := h0 hg
                  exact yld_and (.tmp 120) (.tmp 124) rfl rfl _ _ h0 (fun hgd => h1 hgd) rfl
                · intro hn; rw [hn] at hg; cases hg
              · intro wq hq hd
                obtain ⟨h0, h1, -⟩ := hd
                change v 8 = _ at h0
                change ((decide (K ≠ K)) = false) → v 19 = _ at h1
                refine ob_plain rfl ?_
                exact yld_or (.tmp 114) (.tmp 125) rfl rfl _ _ h0 (fun hgd => h1 hgd) rfl
              · intro wq hq hd
                obtain ⟨h0, h1, -⟩ := hd
                change v 20 = _ at h0
                refine ob_plain rfl ?_
                exact yld_move (.tmp 126) rfl h0 rfl
              · intro wq hq hd
                obtain ⟨h0, -⟩ := hd
                change v 21 = _ at h0
                refine ob_guard 21 false (((decide (K ≠ K)) || (G && (decide (((J).size : Int) ≠ W))))) rfl (yields_of rfl h0) (fun hg => ?_) (fun hg => ?_)
                · refine Yld.gd (p := ((decide (K ≠ K)) || (G && (decide (((J).size : Int) ≠ W)))) = false) (T := Ty.is (.slice (some ⟨bT, oT, none⟩) T.length fc)) ?_
                  exact yld_move (.tmp 7) rfl rfl rfl
                · intro hn; rw [hn] at hg; cases hg
              · intro wq hq hd
                obtain ⟨h0, -⟩ := hd
                change v 21 = _ at h0
                refine ob_guard 21 false (((decide (K ≠ K)) || (G && (decide (((J).size : Int) ≠ W))))) rfl (yields_of rfl h0) (fun hg => ?_) (fun hg => ?_)
                · refine Yld.gd (p := ((decide (K ≠ K)) || (G && (decide (((J).size : Int) ≠ W)))) = false) (T := Ty.is (.int .i64 (k : Nat))) ?_
                  exact yld_move (.tmp 9) rfl rfl rfl
                · intro hn; rw [hn] at hg; cases hg
              · intro wq hq hd
                obtain ⟨h0, h1, h2, -⟩ := hd
                change (((decide (K ≠ K)) || (G && (decide (((J).size : Int) ≠ W)))) = false) → v 22 = _ at h0
                change (((decide (K ≠ K)) || (G && (decide (((J).size : Int) ≠ W)))) = false) → v 23 = _ at h1
                change v 21 = _ at h2
                refine ob_guard 21 false (((decide (K ≠ K)) || (G && (decide (((J).size : Int) ≠ W))))) rfl (yields_of rfl h2) (fun hg => ?_) (fun hg => ?_)
                · refine Yld.gd (p := ((decide (K ≠ K)) || (G && (decide (((J).size : Int) ≠ W)))) = false) (T := TCells [.string z]) ?_
                  replace h0 := h0 hg
                  replace h1 := h1 hg
                  exact yld_indexAt strEl (.tmp 128) (.tmp 129) rfl (some ⟨bT, oT, none⟩) T fc h0 k h1 (HsT.out.ext hq) z Hzk.out
                · intro hn; rw [hn] at hg; cases hg
              · intro wq hq hd
                obtain ⟨h0, h1, -⟩ := hd
                change (((decide (K ≠ K)) || (G && (decide (((J).size : Int) ≠ W)))) = false) → (TCells [.string z]).p (v 24) wq at h0
                change v 21 = _ at h1
                refine ob_guard 21 false (((decide (K ≠ K)) || (G && (decide (((J).size : Int) ≠ W))))) rfl (yields_of rfl h1) (fun hg => ?_) (fun hg => ?_)
                · refine Yld.gd (p := ((decide (K ≠ K)) || (G && (decide (((J).size : Int) ≠ W)))) = false) (T := Ty.is (.string z)) ?_
                  replace h0 := h0 hg
                  exact yld_loadOne 9 (.tmp 130) rfl Try.isAgg9 (c := .string z) h0 rfl
                · intro hn; rw [hn] at hg; cases hg
              · intro wq hq hd
                obtain ⟨h0, h1, h2, -⟩ := hd
                change (((decide (K ≠ K)) || (G && (decide (((J).size : Int) ≠ W)))) = false) → v 25 = _ at h0
                change v 21 = _ at h1
                refine ob_guard 21 false (((decide (K ≠ K)) || (G && (decide (((J).size : Int) ≠ W))))) rfl (yields_of rfl h1) (fun hg => ?_) (fun hg => ?_)
                · refine Yld.gd (p := ((decide (K ≠ K)) || (G && (decide (((J).size : Int) ≠ W)))) = false) (T := Ty.is (.bool G)) ?_
                  replace h0 := h0 hg
                  refine yld_call 25 Try.call25 _ _ rfl rfl [_] ⟨h0, trivial⟩ ?_
                  refine (Hgz.out _).mono ?_
                  rintro e w' ⟨rfl, rfl⟩
                  exact ⟨_, rfl, Ext.refl _, rfl⟩
                · intro hn; rw [hn] at hg; cases hg
              · intro wq hq hd
                obtain ⟨h0, h1, -⟩ := hd
                change (((decide (K ≠ K)) || (G && (decide (((J).size : Int) ≠ W)))) = false) → v 26 = _ at h0
                change v 21 = _ at h1
                refine ob_guard 21 false (((decide (K ≠ K)) || (G && (decide (((J).size : Int) ≠ W))))) rfl (yields_of rfl h1) (fun hg => ?_) (fun hg => ?_)
                · refine Yld.gd (p := ((decide (K ≠ K)) || (G && (decide (((J).size : Int) ≠ W)))) = false) (T := Ty.is (.bool (!(G)))) ?_
                  replace h0 := h0 hg
                  exact yld_not (.tmp 132) 4 rfl _ h0 rfl
                · intro hn; rw [hn] at hg; cases hg
              · intro wq hq hd
                obtain ⟨h0, h1, h2, -⟩ := hd
                change (((decide (K ≠ K)) || (G && (decide (((J).size : Int) ≠ W)))) = false) → v 27 = _ at h0
                change v 21 = _ at h2
                refine ob_guard 21 false (((decide (K ≠ K)) || (G && (decide (((J).size : Int) ≠ W))))) rfl (yields_of rfl h2) (fun hg => ?_) (fun hg => ?_)
                · refine Yld.gd (p := ((decide (K ≠ K)) || (G && (decide (((J).size : Int) ≠ W)))) = false) (T := Ty.is (.bool (!(G)))) ?_
                  replace h0 := h0 hg
                  exact yld_move (.tmp 133) rfl h0 rfl
                · intro hn; rw [hn] at hg; cases hg
              · intro wq hq hd
                obtain ⟨h0, -⟩ := hd
                change (((decide (K ≠ K)) || (G && (decide (((J).size : Int) ≠ W)))) = false) → v 28 = _ at h0
                refine ob_guard 28 true ((!(G))) rfl (yields_of rfl (h0 HG21.out)) (fun hg => ?_) (fun hg => ?_)
                · refine Yld.gd (p := (!(G)) = true) (T := Ty.is (.string J)) ?_
                  exact yld_move (.tmp 12) rfl rfl rfl
                · intro hn; rw [hn] at hg; cases hg
              · intro wq hq hd
                obtain ⟨h0, -⟩ := hd
                change (((decide (K ≠ K)) || (G && (decide (((J).size : Int) ≠ W)))) = false) → v 28 = _ at h0
                refine ob_guard 28 true ((!(G))) rfl (yields_of rfl (h0 HG21.out)) (fun hg => ?_) (fun hg => ?_)
                · refine Yld.gd (p := (!(G)) = true) (T := Ty.is (.slice (some ⟨bT, oT, none⟩) T.length fc)) ?_
                  exact yld_move (.tmp 7) rfl rfl rfl
                · intro hn; rw [hn] at hg; cases hg
              · intro wq hq hd
                obtain ⟨h0, -⟩ := hd
                change (((decide (K ≠ K)) || (G && (decide (((J).size : Int) ≠ W)))) = false) → v 28 = _ at h0
                refine ob_guard 28 true ((!(G))) rfl (yields_of rfl (h0 HG21.out)) (fun hg => ?_) (fun hg => ?_)
                · refine Yld.gd (p := (!(G)) = true) (T := Ty.is (.int .i64 (k : Nat))) ?_
                  exact yld_move (.tmp 9) rfl rfl rfl
                · intro hn; rw [hn] at hg; cases hg
              · intro wq hq hd
                obtain ⟨h0, h1, h2, -⟩ := hd
                change ((!(G)) = true) → v 30 = _ at h0
                change ((!(G)) = true) → v 31 = _ at h1
                change (((decide (K ≠ K)) || (G && (decide (((J).size : Int) ≠ W)))) = false) → v 28 = _ at h2
                refine ob_guard 28 true ((!(G))) rfl (yields_of rfl (h2 HG21.out)) (fun hg => ?_) (fun hg => ?_)
                · refine Yld.gd (p := (!(G)) = true) (T := TCells [.string z]) ?_
                  replace h0 := h0 hg
                  replace h1 := h1 hg
                  exact yld_indexAt strEl (.tmp 136) (.tmp 137) rfl (some ⟨bT, oT, none⟩) T fc h0 k h1 (HsT.out.ext hq) z Hzk.out
                · intro hn; rw [hn] at hg; cases hg
              · intro wq hq hd
                obtain ⟨h0, h1, -⟩ := hd
                change ((!(G)) = true) → (TCells [.string z]).p (v 32) wq at h0
                change (((decide (K ≠ K)) || (G && (decide (((J).size : Int) ≠ W)))) = false) → v 28 = _ at h1
                refine ob_guard 28 true ((!(G))) rfl (yields_of rfl (h1 HG21.out)) (fun hg => ?_) (fun hg => ?_)
                · refine Yld.gd (p := (!(G)) = true) (T := Ty.is (.string z)) ?_
                  replace h0 := h0 hg
                  exact yld_loadOne 9 (.tmp 138) rfl Try.isAgg9 (c := .string z) h0 rfl
                · intro hn; rw [hn] at hg; cases hg
              · intro wq hq hd
                obtain ⟨h0, h1, h2, -⟩ := hd
                change ((!(G)) = true) → v 29 = _ at h0
                change ((!(G)) = true) → v 33 = _ at h1
                change (((decide (K ≠ K)) || (G && (decide (((J).size : Int) ≠ W)))) = false) → v 28 = _ at h2
                refine ob_guard 28 true ((!(G))) rfl (yields_of rfl (h2 HG21.out)) (fun hg => ?_) (fun hg => ?_)
                · refine Yld.gd (p := (!(G)) = true) (T := Ty.is (.bool (decide (J ≠ z)))) ?_
                  replace h0 := h0 hg
                  replace h1 := h1 hg
                  exact yld_binStr .neq 9 9 (.tmp 135) (.tmp 139) rfl _ _ h0 h1 (run_neq_str _ _ _) rfl
                · intro hn; rw [hn] at hg; cases hg
              · intro wq hq hd
                obtain ⟨h0, h1, h2, -⟩ := hd
                change (((decide (K ≠ K)) || (G && (decide (((J).size : Int) ≠ W)))) = false) → v 28 = _ at h0
                change ((!(G)) = true) → v 34 = _ at h1
                change v 21 = _ at h2
                refine ob_guard 21 false (((decide (K ≠ K)) || (G && (decide (((J).size : Int) ≠ W))))) rfl (yields_of rfl h2) (fun hg => ?_) (fun hg => ?_)
                · refine Yld.gd (p := ((decide (K ≠ K)) || (G && (decide (((J).size : Int) ≠ W)))) = false) (T := Ty.is (.bool ((!(G)) && (decide (J ≠ z))))) ?_
                  replace h0 := h0 hg
                  exact yld_and (.tmp 134) (.tmp 140) rfl rfl _ _ h0 (fun hgd => h1 hgd) rfl
                · intro hn; rw [hn] at hg; cases hg
              · intro wq hq hd
                obtain ⟨h0, h1, -⟩ := hd
                change v 21 = _ at h0
                change (((decide (K ≠ K)) || (G && (decide (((J).size : Int) ≠ W)))) = false) → v 35 = _ at h1
                refine ob_plain rfl ?_
                exact yld_or (.tmp 127) (.tmp 141) rfl rfl _ _ h0 (fun hgd => h1 hgd) rfl
              · intro wq hq hT
                have k36 := hT 36 (by decide)
                change v 36 = _ at k36
                clear hT
                simp only [List.drop_succ_cons, List.drop_zero, putE, setsE, List.set_cons_succ, List.set_cons_zero, Nat.reduceAdd]
                rw [k36]
                rw [Hfin.out]
                go_wp2
                go_roundw
                case rel => exact ⟨k + 1, q, by omega, hgn, by go_num, rfl, HV3, HT2, (hext.trans hx5).trans hq⟩
                case measure => simp [intOf]; omega
        · obtain rfl : k = T.length := by omega
          have hv := Hv.out
          rw [List.drop_of_length_le (by omega)] at hv
          have han := hv.nil_of
          have e1 : decide ((T.length : Int) < (T.length : Int)) = false := decide_eq_false (by omega)
          have e2 : ((a : Int) == (l.length : Int)) = true := by simp [han]
          clear hv han
          go_wp2
          go_ret
          exact ⟨rfl, Hx.out.trans hext⟩
    · have hga := fun w' (hx : Ext w w') => break_any A c l W w' (Hs.out.ext hx) HB.out
      rw [show bR l W = [] by unfold bR; rw [if_neg hw]] at hga
      have hz : (wrongF W l != 0) = true := by simp [hw]
      obtain ⟨Z, hZ⟩ : ∃ Z, wrongF W l = Z := ⟨_, rfl⟩
      rw [hZ] at hga hz
      have H1 := Lib.hid hga
      clear hga hZ hw
      go_wp2_with fail
      refine (H1.out _ hx12).mono ?_
      rintro e w3 ⟨v3, rfl, ho3, hx3⟩
      obtain ⟨A3, c3, hv3, hc3, hs3⟩ := ho3.form
      simp only [List.length_nil] at hv3
      subst hv3
      go_wp2
      go_ret
      exact ⟨rfl, hx12.trans hx3⟩

end Go.Proofs.Ytdglijpooodlnaa
