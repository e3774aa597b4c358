/- The law on sorting twice. -/
import Derived.Test.YthjlnpcanccmkaaAwake9
import Derived.Test.YthjlnpcanccmkaaTabVal9
import Derived.Test.YthjlnpcanccmkaaSortL9
import Derived.Test.YthjlnpcanccmkaaTabSort9
namespace Go.Proofs.Ythjlnpcanccmkaa
open Go.RowKit

theorem run_eql_str {P : Program} (t : TypeId) (a b : ByteArray) (w : World) : (binOp .eql t (.string a) (.string b)).run P w = .ok (.bool (decide (a = b))) w := by
  have h : (a.toList == b.toList) = decide (a = b) := by rw [beq_bytes]
  rw [← h]
  simp [binOp, Op.stringOp]
theorem stable_law {ja jb : Nat} {u : GUnit} (ha : thereB u 0 (ja : Nat) = true) (hb : thereB u 0 (jb : Nat) = true) : ∀ i, 0 < i → i < (columnF (sortU jb (sortU ja u)) (jb : Nat)).length →
    ∃ xp xq yp yq, (columnF (sortU jb (sortU ja u)) (ja : Nat))[i - 1]? = some xp ∧ (columnF (sortU jb (sortU ja u)) (ja : Nat))[i]? = some xq ∧ (columnF (sortU jb (sortU ja u)) (jb : Nat))[i - 1]? = some yp ∧ (columnF (sortU jb (sortU ja u)) (jb : Nat))[i]? = some yq ∧ lessB yq yp = false ∧ (yp = yq → lessB xq xp = false) := by
  obtain ⟨hv, -⟩ := there_parts2 ha
  have hv1 := (sort_valid (j := ja) hv).1
  have ea : columnF (sortU jb (sortU ja u)) (ja : Nat) = (sortU jb (sortU ja u)).kids.map (cellText ja) := by
    unfold columnF; rw [sort_there hv1, sort_there hv, ha, if_pos rfl]; rfl
  have eb : columnF (sortU jb (sortU ja u)) (jb : Nat) = (sortU jb (sortU ja u)).kids.map (cellText jb) := by
    unfold columnF; rw [sort_there hv1, sort_there hv, hb, if_pos rfl]; rfl
  rw [ea, eb]
  intro i h1 h2
  rw [List.length_map] at h2
  obtain ⟨p, q, hp, hq, k1, k2⟩ := stable_cols (a := ja) (b := jb) (t := u) i h1 h2
  refine ⟨cellText ja p, cellText ja q, cellText jb p, cellText jb q, ?_, ?_, ?_, ?_, k1, k2⟩ <;> simp [List.getElem?_map, hp, hq]
theorem stable_len {ja jb : Nat} {u : GUnit} (ha : thereB u 0 (ja : Nat) = true) (hb : thereB u 0 (jb : Nat) = true) : (columnF (sortU jb (sortU ja u)) (ja : Nat)).length = u.kids.length ∧ (columnF (sortU jb (sortU ja u)) (jb : Nat)).length = u.kids.length := by
  obtain ⟨hv, -⟩ := there_parts2 ha
  obtain ⟨hv1, hl1, -⟩ := sort_valid (j := ja) hv
  obtain ⟨-, hl2, -⟩ := sort_valid (j := jb) hv1
  constructor
  · unfold columnF; rw [sort_there hv1, sort_there hv, ha, if_pos rfl, List.length_map]; omega
  · unfold columnF; rw [sort_there hv1, sort_there hv, hb, if_pos rfl, List.length_map]; omega

set_option maxRecDepth 100000 in
set_option maxHeartbeats 6400000 in
theorem tableSortStable_law (u : GUnit) (r : RUnit) (a b : Int) (w : World) (hr : Reads w u r) (hbig : AllU (lensLe 9223372036854775807 9223372036854775807) u) :
    Calls Try.prog 8 #[.agg r.cells.toArray, .int .i64 a, .int .i64 b] w fun e w' => e = .returned (.bool true) ∧ Ext w w' := by
  have hx0 : Ext w (w.alloc (.cells r.cells.toArray 27)) := (Ext.refl w).alloc _
  have Hbu := Lib.hid (show ∀ w', Ext (w.alloc (.cells r.cells.toArray 27)) w' → _ from fun w' he => boxUnit (w' := w') r (w := w) he)
  have Hbt := Lib.hid (show ∀ w', Ext (w.alloc (.cells r.cells.toArray 27)) w' → _ from fun w' he => boxT (w' := w') r (w := w) he)
  have Hbigc := Lib.hid (show ∀ w', Ext w w' → _ from fun w' he => big_any u r w' (Reads.ext he _ _ hr) hbig)
  have Hru := Lib.hid (show ∀ w', Ext w w' → _ from fun w' he => Reads.ext he _ _ hr)
  obtain ⟨wz, hwz⟩ : ∃ wz, w.alloc (.cells r.cells.toArray 27) = wz := ⟨_, rfl⟩
  rw [hwz] at hx0 Hbu Hbt
  simp only [RUnit.cells] at hwz
  have Hwz := Lib.hid hwz
  simp only [RUnit.cells] at Hbigc Hbt ⊢
  clear hwz hbig hr
  go_enter Try.func8, Try.ntmps8
  go_wp2_with fail
  rw [Hwz.out]
  refine (awake9_any _).mono ?_
  rintro e w1 ⟨rfl, hx1⟩
  obtain ⟨-, u0, u1, u2, u3, u4, u5, u6, u7⟩ := Hbu.out w1 hx1
  go_wp2_with fail
  refine (Hbigc.out w1 (hx0.trans hx1)).mono ?_
  rintro e w2 ⟨b, rfl, hb, hx2⟩
  have hxz : Ext wz w2 := hx1.trans hx2
  have hw0 : Ext w w2 := hx0.trans hxz
  clear u0 u1 u2 u3 u4 u5 u6 u7 Hbigc hx0 hx1 hx2
  cases b
  case true =>
    clear hb
    go_wp2
    go_ret
    exact ⟨rfl, hw0⟩
  case false =>
    have hsm := hb rfl
    clear hb
    have Hb := Lib.hid (show ∀ w', Ext w2 w' → _ from fun w' he => Hbt.out w' (hxz.trans he))
    have Hbq := Lib.hid (show ∀ w', Ext w2 w' → _ from fun w' he => Hbu.out w' (hxz.trans he))
    have Hr := Lib.hid (show ∀ w', Ext w2 w' → Reads w' u r from fun w' he => Hru.out w' (hw0.trans he))
    clear Hbt Hbu Hru
    have hA := fun w' he => has_any u r 0 a w' (Hr.out w' he) (smallU_lens hsm)
    have hB := fun w' he => has_any u r 0 b w' (Hr.out w' he) (smallU_lens hsm)
    have hS := fun w' he => sortBy_any u r a w' (Hr.out w' he) hsm
    obtain ⟨TA, hTA⟩ : ∃ TA, thereB u 0 a = TA := ⟨_, rfl⟩
    obtain ⟨TB, hTB⟩ : ∃ TB, thereB u 0 b = TB := ⟨_, rfl⟩
    rw [hTA] at hA hS
    rw [hTB] at hB
    have HTA := Lib.hid hTA
    have HTB := Lib.hid hTB
    have HA := Lib.hid (show ∀ w', Ext w2 w' → _ from hA)
    have HB := Lib.hid (show ∀ w', Ext w2 w' → _ from hB)
    have Hs := Lib.hid (show ∀ w', Ext w2 w' → _ from hS)
    have Hsm := Lib.hid hsm
    simp only [RUnit.cells] at HA HB Hs
    clear hTA hTB hA hB hS hsm
    obtain ⟨-, u0, u1, u2, u3, u4, u5, u6, u7⟩ := Hbq.out w2 (Ext.refl w2)
    go_wp2_with fail
    refine (HA.out w2 (Ext.refl _)).mono ?_
    rintro e w3 ⟨rfl, hx3⟩
    clear u0 u1 u2 u3 u4 u5 u6 u7
    cases TA
    case false =>
      go_wp2
      go_ret
      exact ⟨rfl, hw0.trans hx3⟩
    case true =>
    obtain ⟨-, u0, u1, u2, u3, u4, u5, u6, u7⟩ := Hbq.out w3 hx3
    go_wp2_with fail
    refine (HB.out w3 hx3).mono ?_
    rintro e w4 ⟨rfl, hx4⟩
    have hx24 := hx3.trans hx4
    clear u0 u1 u2 u3 u4 u5 u6 u7
    cases TB
    case false =>
      go_wp2
      go_ret
      exact ⟨rfl, hw0.trans hx24⟩
    case true =>
    obtain ⟨hvb, -, -, ha0, -⟩ := there_parts2 HTA.out
    obtain ⟨-, -, -, hb0, -⟩ := there_parts2 HTB.out
    obtain ⟨ja, rfl⟩ : ∃ j : Nat, a = j := ⟨a.toNat, by omega⟩
    obtain ⟨jb, rfl⟩ : ∃ j : Nat, b = j := ⟨b.toNat, by omega⟩
    have e1 : sortF u (ja : Nat) = sortU ja u := by unfold sortF; rw [HTA.out, if_pos rfl]; simp
    have hs1 := sort_small (j := ja) Hsm.out
    have e2 : sortF (sortU ja u) (jb : Nat) = sortU jb (sortU ja u) := by unfold sortF; rw [sort_there hvb, HTB.out, if_pos rfl]; simp
    have hs2 := sort_small (j := jb) hs1
    have htb1 : thereB (sortU ja u) 0 (jb : Nat) = true := by rw [sort_there hvb]; exact HTB.out
    have hst := stable_law HTA.out HTB.out
    have hln := stable_len HTA.out HTB.out
    obtain ⟨rs, hkn, hrl, hrsl, hrall⟩ := kids_of (Hr.out w2 (Ext.refl _))
    obtain ⟨-, hv2, -, -⟩ := validB_parts hvb
    rw [e1] at Hs
    have hS2 := fun (rx : RUnit) w' (h : Reads w' (sortU ja u) rx) => sortBy_any (sortU ja u) rx (jb : Nat) w' h hs1
    rw [e2, htb1] at hS2
    have hCA := fun (rx : RUnit) w' (h : Reads w' (sortU jb (sortU ja u)) rx) => column_any (sortU jb (sortU ja u)) rx (ja : Nat) w' h hs2
    have hCB := fun (rx : RUnit) w' (h : Reads w' (sortU jb (sortU ja u)) rx) => column_any (sortU jb (sortU ja u)) rx (jb : Nat) w' h hs2
    obtain ⟨LA, hLA⟩ : ∃ LA, columnF (sortU jb (sortU ja u)) (ja : Nat) = LA := ⟨_, rfl⟩
    obtain ⟨LB, hLB⟩ : ∃ LB, columnF (sortU jb (sortU ja u)) (jb : Nat) = LB := ⟨_, rfl⟩
    rw [hLA] at hst hln hCA
    rw [hLB] at hst hln hCB
    obtain ⟨U1, hU1⟩ : ∃ U1, sortU ja u = U1 := ⟨_, rfl⟩
    rw [hU1] at Hs hS2 hCA hCB
    obtain ⟨U2, hU2⟩ : ∃ U2, sortU jb U1 = U2 := ⟨_, rfl⟩
    rw [hU2] at hS2 hCA hCB
    have hll : LA.length = rs.length ∧ LB.length = rs.length := by omega
    have hlim : rs.length ≤ 64 := by omega
    have hne1 : ((LA.length : Int) != (rs.length : Int)) = false := by simp [hll.1]
    have hne2 : ((LB.length : Int) != (LA.length : Int)) = false := by simp [hll.1, hll.2]
    have hlimB : LB.length ≤ 64 := by omega
    have HS2 := Lib.hid hS2
    have HCA := Lib.hid hCA
    have HCB := Lib.hid hCB
    have Hst := Lib.hid hst
    have Hkn := Lib.hid hkn
    simp only [RUnit.cells] at HS2 HCA HCB
    clear hvb ha0 hb0 e1 hs1 e2 hs2 htb1 hst hln hrl hrall hv2 hS2 hCA hCB hLA hLB hU1 hU2 hll hkn hrsl HTA HTB HA HB Hsm
    obtain ⟨-, u0, u1, u2, u3, u4, u5, u6, u7⟩ := Hbq.out w4 hx24
    go_wp2_with fail
    refine (Hs.out w4 hx24).mono ?_
    rintro e w5 ⟨r', rfl, hx5, hr'⟩
    have hx25 := hx24.trans hx5
    have Hr' := Lib.hid (show ∀ w', Ext w5 w' → Reads w' U1 r' from fun w' he => Reads.ext he _ _ hr')
    have Hbu' := Lib.hid (show ∀ w', Ext (w5.alloc (.cells r'.cells.toArray 27)) w' → _ from fun w' he => boxUnit (w' := w') r' (w := w5) he)
    clear hr' u0 u1 u2 u3 u4 u5 u6 u7
    simp only [RUnit.cells] at Hbu' ⊢
    have hx56 : Ext w5 (w5.alloc (.cells #[.int .i64 r'.a, .int .i64 r'.i, .int .i64 r'.n, .int .i64 r'.kind, .string r'.label, .slice r'.hA r'.hn r'.hc, .slice r'.wA r'.wn r'.wc, .slice r'.kA r'.kn r'.kc] 27)) := (Ext.refl _).alloc _
    obtain ⟨-, b0, b1, b2, b3, b4, b5, b6, b7⟩ := Hbu'.out _ (Ext.refl _)
    go_wp2_with fail
    obtain ⟨w6, hw6⟩ : ∃ w6, w5.alloc (.cells #[.int .i64 r'.a, .int .i64 r'.i, .int .i64 r'.n, .int .i64 r'.kind, .string r'.label, .slice r'.hA r'.hn r'.hc, .slice r'.wA r'.wn r'.wc, .slice r'.kA r'.kn r'.kc] 27) = w6 := ⟨_, rfl⟩
    rw [hw6] at hx56 ⊢
    clear b0 b1 b2 b3 b4 b5 b6 b7 hw6 Hbu'
    refine (HS2.out r' w6 (Hr'.out w6 hx56)).mono ?_
    rintro e w7 ⟨r2, rfl, hx7, hr2⟩
    have hx27 := (hx25.trans hx56).trans hx7
    have HR2 := Lib.hid (show ∀ w', Ext w7 w' → Reads w' U2 r2 from fun w' he => Reads.ext he _ _ hr2)
    have Hbt8a := Lib.hid (show ∀ w', Ext (w7.alloc (.cells r2.cells.toArray 27)) w' → _ from fun w' he => boxT (w' := w') r2 (w := w7) he)
    clear hr2
    simp only [RUnit.cells] at Hbt8a ⊢
    have hx78 : Ext w7 (w7.alloc (.cells #[.int .i64 r2.a, .int .i64 r2.i, .int .i64 r2.n, .int .i64 r2.kind, .string r2.label, .slice r2.hA r2.hn r2.hc, .slice r2.wA r2.wn r2.wc, .slice r2.kA r2.kn r2.kc] 27)) := (Ext.refl _).alloc _
    go_wp2_with fail
    obtain ⟨w8, hw8⟩ : ∃ w8, w7.alloc (.cells #[.int .i64 r2.a, .int .i64 r2.i, .int .i64 r2.n, .int .i64 r2.kind, .string r2.label, .slice r2.hA r2.hn r2.hc, .slice r2.wA r2.wn r2.wc, .slice r2.kA r2.kn r2.kc] 27) = w8 := ⟨_, rfl⟩
    rw [hw8] at hx78 Hbt8a ⊢
    clear hw8
    have hx28 := hx27.trans hx78
    have Hbt8 := Lib.hid (show ∀ w', Ext w8 w' → (TCells (RUnit.cells r2)).p (.pointer (some ⟨w7.heap.size, 0, none⟩)) w' from fun w' he => Hbt8a.out w' he)
    have HcA := Lib.hid (show ∀ w', Ext w8 w' → _ from fun w' he => HCA.out r2 w' (HR2.out w' (hx78.trans he)))
    have HcB := Lib.hid (show ∀ w', Ext w8 w' → _ from fun w' he => HCB.out r2 w' (HR2.out w' (hx78.trans he)))
    refine wp_drawn (by kernel_rfl) (fun i => match i with | 0 => Ty.is (.agg (RUnit.cells r2).toArray) | 1 => Ty.is (.int .i64 (ja : Nat)) | 2 => TOwn strEl w8.heap.size LA | 3 => Ty.is (.agg (RUnit.cells r2).toArray) | 4 => Ty.is (.int .i64 (jb : Nat)) | 5 => TOwn strEl w8.heap.size LB | 6 => TOwn strEl w8.heap.size LA | 7 => TOwn strEl w8.heap.size LB | _ => Ty.any) (by kernel_rfl) rfl ?_
    intro v
    refine ⟨?_, ?_, ?_, ?_, ?_, ?_, ?_, ?_, ?_⟩
    · intro wq hq hd
      refine ob_plain rfl ?_
      exact yld_loadAgg 27 (.tmp 9) rfl Try.isAgg27 8 Try.sizeOf27 (RUnit.cells r2) rfl (Hbt8.out _ hq) rfl
    · intro wq hq hd
      refine ob_plain rfl ?_
      exact yld_move (.tmp 1) rfl rfl rfl
    · intro wq hq hd
      obtain ⟨h0, h1, -⟩ := hd
      change v 0 = _ at h0
      change v 1 = _ at h1
      refine ob_plain rfl ?_
      refine yld_call 17 Try.call17 _ _ rfl rfl [_, _] ⟨h0, h1, trivial⟩ ?_
      refine (HcA.out wq hq).mono ?_
      rintro e w' ⟨v', rfl, hown, hx'⟩
      exact ⟨_, rfl, hx', hown.mono hq.size⟩
    · intro wq hq hd
      refine ob_plain rfl ?_
      exact yld_loadAgg 27 (.tmp 9) rfl Try.isAgg27 8 Try.sizeOf27 (RUnit.cells r2) rfl (Hbt8.out _ hq) rfl
    · intro wq hq hd
      refine ob_plain rfl ?_
      exact yld_move (.tmp 2) rfl rfl rfl
    · intro wq hq hd
      obtain ⟨h0, h1, h2, -⟩ := hd
      change v 3 = _ at h0
      change v 4 = _ at h1
      refine ob_plain rfl ?_
      refine yld_call 17 Try.call17 _ _ rfl rfl [_, _] ⟨h0, h1, trivial⟩ ?_
      refine (HcB.out wq hq).mono ?_
      rintro e w' ⟨v', rfl, hown, hx'⟩
      exact ⟨_, rfl, hx', hown.mono hq.size⟩
    · intro wq hq hd
      obtain ⟨h0, h1, h2, h3, h4, -⟩ := hd
      change (TOwn strEl w8.heap.size LA).p (v 2) wq at h0
      refine ob_plain rfl ?_
      exact yld_assign (.tmp 44) rfl rfl h0
    · intro wq hq hd
      obtain ⟨h0, h1, h2, h3, h4, h5, h6, h7, h8, -⟩ := hd
      change (TOwn strEl w8.heap.size LB).p (v 5) wq at h0
      refine ob_plain rfl ?_
      exact yld_assign (.tmp 47) rfl rfl h0
    · intro wq hq hT
      have k6 := hT 6 (by decide)
      change (TOwn strEl w8.heap.size LA).p (v 6) wq at k6
      have k7 := hT 7 (by decide)
      change (TOwn strEl w8.heap.size LB).p (v 7) wq at k7
      clear hT
      simp only [List.drop_succ_cons, List.drop_zero, putE, setsE, List.set_cons_succ, List.set_cons_zero, Nat.reduceAdd]
      generalize v 6 = x6 at k6 ⊢
      generalize v 7 = x7 at k7 ⊢
      obtain ⟨A6, c6, hv6, hc6, hs6⟩ := k6.form
      obtain ⟨A7, c7, hv7, hc7, hs7⟩ := k7.form
      subst hv6 hv7
      have hx2q := hx28.trans hq
      have f7 := (Hbq.out wq hx2q).2.2.2.2.2.2.2.2
      rw [Hkn.out] at f7
      clear k6 k7
      go_wp2
      clear f7
      go_loopw [13] (fun vi wr => ∃ ii : Nat, 1 ≤ ii ∧ (ii ≤ LB.length ∨ ii = 1) ∧ vi = .int .i64 (ii : Nat) ∧ Ext wq wr) (fun vi _ => LB.length - (intOf vi).toNat)
      case atStart => exact ⟨1, Nat.le_refl _, .inr rfl, rfl, Ext.refl _⟩
      case round =>
        obtain ⟨ii, hi1, hi2, rfl, hext⟩ := hrel
        by_cases hlt : ii < LB.length
        · have d1 : decide ((ii : Int) < (LB.length : Int)) = true := decide_eq_true (by omega)
          obtain ⟨xp, xq, yp, yq, z1, z2, z3, z4, z5, z6⟩ := Hst.out ii (by omega) hlt
          have Hxp := Lib.hid z1
          have Hxq := Lib.hid z2
          have Hyp := Lib.hid z3
          have Hyq := Lib.hid z4
          have Hby := Lib.hid z5
          have Hbx := Lib.hid z6
          have Hsa := Lib.hid (show ∀ w', Ext wr w' → Sl strEl w' A6 LA from fun w' he => hs6.ext (hext.trans he))
          have Hsb := Lib.hid (show ∀ w', Ext wr w' → Sl strEl w' A7 LB from fun w' he => hs7.ext (hext.trans he))
          obtain ⟨wo, rfl⟩ : ∃ wo, wo = wr := ⟨_, rfl⟩
          clear z1 z2 z3 z4 z5 z6
          go_wp2_with fail
          refine wp_drawn (by kernel_rfl) (fun i => match i with | 0 => Ty.is (.slice A7 LB.length c7) | 1 => Ty.is (.int .i64 (ii : Nat)) | 2 => Ty.is (.int .i64 ((ii - 1 : Nat) : Int)) | 3 => TCells [.string yp] | 4 => Ty.is (.string yp) | 5 => Ty.is (.slice A7 LB.length c7) | 6 => Ty.is (.int .i64 (ii : Nat)) | 7 => TCells [.string yq] | 8 => Ty.is (.string yq) | 9 => Ty.is (.bool false) | 10 => Ty.is (.bool false) | 11 => TGd (false = false) (Ty.is (.slice A7 LB.length c7)) | 12 => TGd (false = false) (Ty.is (.int .i64 (ii : Nat))) | 13 => TGd (false = false) (Ty.is (.int .i64 ((ii - 1 : Nat) : Int))) | 14 => TGd (false = false) (TCells [.string yp]) | 15 => TGd (false = false) (Ty.is (.string yp)) | 16 => TGd (false = false) (Ty.is (.slice A7 LB.length c7)) | 17 => TGd (false = false) (Ty.is (.int .i64 (ii : Nat))) | 18 => TGd (false = false) (TCells [.string yq]) | 19 => TGd (false = false) (Ty.is (.string yq)) | 20 => TGd (false = false) (Ty.is (.bool (decide (yp = yq)))) | 21 => TGd (false = false) (Ty.is (.bool (decide (yp = yq)))) | 22 => TGd ((decide (yp = yq)) = true) (Ty.is (.slice A6 LA.length c6)) | 23 => TGd ((decide (yp = yq)) = true) (Ty.is (.int .i64 (ii : Nat))) | 24 => TGd ((decide (yp = yq)) = true) (Ty.is (.int .i64 ((ii - 1 : Nat) : Int))) | 25 => TGd ((decide (yp = yq)) = true) (TCells [.string xp]) | 26 => TGd ((decide (yp = yq)) = true) (Ty.is (.string xp)) | 27 => TGd ((decide (yp = yq)) = true) (Ty.is (.slice A6 LA.length c6)) | 28 => TGd ((decide (yp = yq)) = true) (Ty.is (.int .i64 (ii : Nat))) | 29 => TGd ((decide (yp = yq)) = true) (TCells [.string xq]) | 30 => TGd ((decide (yp = yq)) = true) (Ty.is (.string xq)) | 31 => TGd ((decide (yp = yq)) = true) (Ty.is (.bool false)) | 32 => TGd (false = false) (Ty.is (.bool false)) | 33 => Ty.is (.bool false) | _ => Ty.any) (by kernel_rfl) rfl ?_
          intro v
          refine ⟨?_, ?_, ?_, ?_, ?_, ?_, ?_, ?_, ?_, ?_, ?_, ?_, ?_, ?_, ?_, ?_, ?_, ?_, ?_, ?_, ?_, ?_, ?_, ?_, ?_, ?_, ?_, ?_, ?_, ?_, ?_, ?_, ?_, ?_, ?_⟩
          · intro wq2 hq2 hd
            refine ob_plain rfl ?_
            exact yld_move (.tmp 12) rfl rfl rfl
          · intro wq2 hq2 hd
            refine ob_plain rfl ?_
            exact yld_move (.tmp 13) rfl rfl rfl
          · intro wq2 hq2 hd
            obtain ⟨h0, -⟩ := hd
            change v 1 = _ at h0
            refine ob_plain rfl ?_
            exact yld_binInt .sub 3 3 (.tmp 72) _ rfl _ _ h0 rfl (bin_sub _ _ _ _ (by omega) (by omega) (by omega)) rfl
          · intro wq2 hq2 hd
            obtain ⟨h0, h1, -⟩ := hd
            change v 0 = _ at h0
            change v 2 = _ at h1
            refine ob_plain rfl ?_
            exact yld_indexAt strEl (.tmp 71) (.tmp 73) rfl _ LB c7 h0 (ii - 1) h1 (Hsb.out wq2 hq2) yp Hyp.out
          · intro wq2 hq2 hd
            obtain ⟨h0, -⟩ := hd
            change (TCells [.string yp]).p (v 3) wq2 at h0
            refine ob_plain rfl ?_
            exact yld_loadOne 9 (.tmp 74) rfl Try.isAgg9 (c := .string yp) h0 rfl
          · intro wq2 hq2 hd
            refine ob_plain rfl ?_
            exact yld_move (.tmp 12) rfl rfl rfl
          · intro wq2 hq2 hd
            refine ob_plain rfl ?_
            exact yld_move (.tmp 13) rfl rfl rfl
          · intro wq2 hq2 hd
            obtain ⟨h0, h1, -⟩ := hd
            change v 5 = _ at h0
            change v 6 = _ at h1
            refine ob_plain rfl ?_
            exact yld_indexAt strEl (.tmp 76) (.tmp 77) rfl _ LB c7 h0 ii h1 (Hsb.out wq2 hq2) yq Hyq.out
          · intro wq2 hq2 hd
            obtain ⟨h0, -⟩ := hd
            change (TCells [.string yq]).p (v 7) wq2 at h0
            refine ob_plain rfl ?_
            exact yld_loadOne 9 (.tmp 78) rfl Try.isAgg9 (c := .string yq) h0 rfl
          · intro wq2 hq2 hd
            obtain ⟨h0, h1, -⟩ := hd
            change v 4 = _ at h0
            change v 8 = _ at h1
            refine ob_plain rfl ?_
            exact yld_binStr .gtr 9 9 (.tmp 75) (.tmp 79) rfl _ _ h0 h1 (fun w => by rw [run_gtr_str, Hby.out]) rfl
          · intro wq2 hq2 hd
            obtain ⟨h0, -⟩ := hd
            change v 9 = _ at h0
            refine ob_plain rfl ?_
            exact yld_move (.tmp 80) rfl h0 rfl
          · intro wq2 hq2 hd
            obtain ⟨h0, -⟩ := hd
            change v 10 = _ at h0
            refine ob_guard 10 false (false) rfl (yields_of rfl h0) (fun hg => ?_) (fun hg => ?_)
            · refine Yld.gd (p := false = false) (T := Ty.is (.slice A7 LB.length c7)) ?_
              exact yld_move (.tmp 12) rfl rfl rfl
            · intro hn; rw [hn] at hg; cases hg
          · intro wq2 hq2 hd
            obtain ⟨h0, -⟩ := hd
            change v 10 = _ at h0
            refine ob_guard 10 false (false) rfl (yields_of rfl h0) (fun hg => ?_) (fun hg => ?_)
            · refine Yld.gd (p := false = false) (T := Ty.is (.int .i64 (ii : Nat))) ?_
              exact yld_move (.tmp 13) rfl rfl rfl
            · intro hn; rw [hn] at hg; cases hg
          · intro wq2 hq2 hd
            obtain ⟨h0, h1, -⟩ := hd
            change (false = false) → v 12 = _ at h0
            change v 10 = _ at h1
            refine ob_guard 10 false (false) rfl (yields_of rfl h1) (fun hg => ?_) (fun hg => ?_)
            · refine Yld.gd (p := false = false) (T := Ty.is (.int .i64 ((ii - 1 : Nat) : Int))) ?_
              replace h0 := h0 hg
              exact yld_binInt .sub 3 3 (.tmp 83) _ rfl _ _ h0 rfl (bin_sub _ _ _ _ (by omega) (by omega) (by omega)) rfl
            · intro hn; rw [hn] at hg; cases hg
          · intro wq2 hq2 hd
            obtain ⟨h0, h1, h2, -⟩ := hd
            change (false = false) → v 11 = _ at h0
            change (false = false) → v 13 = _ at h1
            change v 10 = _ at h2
            refine ob_guard 10 false (false) rfl (yields_of rfl h2) (fun hg => ?_) (fun hg => ?_)
            · refine Yld.gd (p := false = false) (T := TCells [.string yp]) ?_
              replace h0 := h0 hg
              replace h1 := h1 hg
              exact yld_indexAt strEl (.tmp 82) (.tmp 84) rfl _ LB c7 h0 (ii - 1) h1 (Hsb.out wq2 hq2) yp Hyp.out
            · intro hn; rw [hn] at hg; cases hg
          · intro wq2 hq2 hd
            obtain ⟨h0, h1, -⟩ := hd
            change (false = false) → (TCells [.string yp]).p (v 14) wq2 at h0
            change v 10 = _ at h1
            refine ob_guard 10 false (false) rfl (yields_of rfl h1) (fun hg => ?_) (fun hg => ?_)
            · refine Yld.gd (p := false = false) (T := Ty.is (.string yp)) ?_
              replace h0 := h0 hg
              exact yld_loadOne 9 (.tmp 85) rfl Try.isAgg9 (c := .string yp) h0 rfl
            · intro hn; rw [hn] at hg; cases hg
          · intro wq2 hq2 hd
            obtain ⟨h0, -⟩ := hd
            change v 10 = _ at h0
            refine ob_guard 10 false (false) rfl (yields_of rfl h0) (fun hg => ?_) (fun hg => ?_)
            · refine Yld.gd (p := false = false) (T := Ty.is (.slice A7 LB.length c7)) ?_
              exact yld_move (.tmp 12) rfl rfl rfl
            · intro hn; rw [hn] at hg; cases hg
          · intro wq2 hq2 hd
            obtain ⟨h0, -⟩ := hd
            change v 10 = _ at h0
            refine ob_guard 10 false (false) rfl (yields_of rfl h0) (fun hg => ?_) (fun hg => ?_)
            · refine Yld.gd (p := false = false) (T := Ty.is (.int .i64 (ii : Nat))) ?_
              exact yld_move (.tmp 13) rfl rfl rfl
            · intro hn; rw [hn] at hg; cases hg
          · intro wq2 hq2 hd
            obtain ⟨h0, h1, h2, -⟩ := hd
            change (false = false) → v 16 = _ at h0
            change (false = false) → v 17 = _ at h1
            change v 10 = _ at h2
            refine ob_guard 10 false (false) rfl (yields_of rfl h2) (fun hg => ?_) (fun hg => ?_)
            · refine Yld.gd (p := false = false) (T := TCells [.string yq]) ?_
              replace h0 := h0 hg
              replace h1 := h1 hg
              exact yld_indexAt strEl (.tmp 87) (.tmp 88) rfl _ LB c7 h0 ii h1 (Hsb.out wq2 hq2) yq Hyq.out
            · intro hn; rw [hn] at hg; cases hg
          · intro wq2 hq2 hd
            obtain ⟨h0, h1, -⟩ := hd
            change (false = false) → (TCells [.string yq]).p (v 18) wq2 at h0
            change v 10 = _ at h1
            refine ob_guard 10 false (false) rfl (yields_of rfl h1) (fun hg => ?_) (fun hg => ?_)
            · refine Yld.gd (p := false = false) (T := Ty.is (.string yq)) ?_
              replace h0 := h0 hg
              exact yld_loadOne 9 (.tmp 89) rfl Try.isAgg9 (c := .string yq) h0 rfl
            · intro hn; rw [hn] at hg; cases hg
          · intro wq2 hq2 hd
            obtain ⟨h0, h1, h2, -⟩ := hd
            change (false = false) → v 15 = _ at h0
            change (false = false) → v 19 = _ at h1
            change v 10 = _ at h2
            refine ob_guard 10 false (false) rfl (yields_of rfl h2) (fun hg => ?_) (fun hg => ?_)
            · refine Yld.gd (p := false = false) (T := Ty.is (.bool (decide (yp = yq)))) ?_
              replace h0 := h0 hg
              replace h1 := h1 hg
              exact yld_binStr .eql 9 9 (.tmp 86) (.tmp 90) rfl _ _ h0 h1 (run_eql_str _ _ _) rfl
            · intro hn; rw [hn] at hg; cases hg
          · intro wq2 hq2 hd
            obtain ⟨h0, h1, h2, -⟩ := hd
            change (false = false) → v 20 = _ at h0
            change v 10 = _ at h1
            refine ob_guard 10 false (false) rfl (yields_of rfl h1) (fun hg => ?_) (fun hg => ?_)
            · refine Yld.gd (p := false = false) (T := Ty.is (.bool (decide (yp = yq)))) ?_
              replace h0 := h0 hg
              exact yld_move (.tmp 91) rfl h0 rfl
            · intro hn; rw [hn] at hg; cases hg
          · intro wq2 hq2 hd
            obtain ⟨h0, -⟩ := hd
            change (false = false) → v 21 = _ at h0
            refine ob_guard 21 true ((decide (yp = yq))) rfl (yields_of rfl (h0 rfl)) (fun hg => ?_) (fun hg => ?_)
            · refine Yld.gd (p := (decide (yp = yq)) = true) (T := Ty.is (.slice A6 LA.length c6)) ?_
              exact yld_move (.tmp 11) rfl rfl rfl
            · intro hn; rw [hn] at hg; cases hg
          · intro wq2 hq2 hd
            obtain ⟨h0, -⟩ := hd
            change (false = false) → v 21 = _ at h0
            refine ob_guard 21 true ((decide (yp = yq))) rfl (yields_of rfl (h0 rfl)) (fun hg => ?_) (fun hg => ?_)
            · refine Yld.gd (p := (decide (yp = yq)) = true) (T := Ty.is (.int .i64 (ii : Nat))) ?_
              exact yld_move (.tmp 13) rfl rfl rfl
            · intro hn; rw [hn] at hg; cases hg
          · intro wq2 hq2 hd
            obtain ⟨h0, h1, -⟩ := hd
            change ((decide (yp = yq)) = true) → v 23 = _ at h0
            change (false = false) → v 21 = _ at h1
            refine ob_guard 21 true ((decide (yp = yq))) rfl (yields_of rfl (h1 rfl)) (fun hg => ?_) (fun hg => ?_)
            · refine Yld.gd (p := (decide (yp = yq)) = true) (T := Ty.is (.int .i64 ((ii - 1 : Nat) : Int))) ?_
              replace h0 := h0 hg
              exact yld_binInt .sub 3 3 (.tmp 94) _ rfl _ _ h0 rfl (bin_sub _ _ _ _ (by omega) (by omega) (by omega)) rfl
            · intro hn; rw [hn] at hg; cases hg
          · intro wq2 hq2 hd
            obtain ⟨h0, h1, h2, -⟩ := hd
            change ((decide (yp = yq)) = true) → v 22 = _ at h0
            change ((decide (yp = yq)) = true) → v 24 = _ at h1
            change (false = false) → v 21 = _ at h2
            refine ob_guard 21 true ((decide (yp = yq))) rfl (yields_of rfl (h2 rfl)) (fun hg => ?_) (fun hg => ?_)
            · refine Yld.gd (p := (decide (yp = yq)) = true) (T := TCells [.string xp]) ?_
              replace h0 := h0 hg
              replace h1 := h1 hg
              exact yld_indexAt strEl (.tmp 93) (.tmp 95) rfl _ LA c6 h0 (ii - 1) h1 (Hsa.out wq2 hq2) xp Hxp.out
            · intro hn; rw [hn] at hg; cases hg
          · intro wq2 hq2 hd
            obtain ⟨h0, h1, -⟩ := hd
            change ((decide (yp = yq)) = true) → (TCells [.string xp]).p (v 25) wq2 at h0
            change (false = false) → v 21 = _ at h1
            refine ob_guard 21 true ((decide (yp = yq))) rfl (yields_of rfl (h1 rfl)) (fun hg => ?_) (fun hg => ?_)
            · refine Yld.gd (p := (decide (yp = yq)) = true) (T := Ty.is (.string xp)) ?_
              replace h0 := h0 hg
              exact yld_loadOne 9 (.tmp 96) rfl Try.isAgg9 (c := .string xp) h0 rfl
            · intro hn; rw [hn] at hg; cases hg
          · intro wq2 hq2 hd
            obtain ⟨h0, -⟩ := hd
            change (false = false) → v 21 = _ at h0
            refine ob_guard 21 true ((decide (yp = yq))) rfl (yields_of rfl (h0 rfl)) (fun hg => ?_) (fun hg => ?_)
            · refine Yld.gd (p := (decide (yp = yq)) = true) (T := Ty.is (.slice A6 LA.length c6)) ?_
              exact yld_move (.tmp 11) rfl rfl rfl
            · intro hn; rw [hn] at hg; cases hg
          · intro wq2 hq2 hd
            obtain ⟨h0, -⟩ := hd
            change (false = false) → v 21 = _ at h0
            refine ob_guard 21 true ((decide (yp = yq))) rfl (yields_of rfl (h0 rfl)) (fun hg => ?_) (fun hg => ?_)
            · refine Yld.gd (p := (decide (yp = yq)) = true) (T := Ty.is (.int .i64 (ii : Nat))) ?_
              exact yld_move (.tmp 13) rfl rfl rfl
            · intro hn; rw [hn] at hg; cases hg
          · intro wq2 hq2 hd
            obtain ⟨h0, h1, h2, -⟩ := hd
            change ((decide (yp = yq)) = true) → v 27 = _ at h0
            change ((decide (yp = yq)) = true) → v 28 = _ at h1
            change (false = false) → v 21 = _ at h2
            refine ob_guard 21 true ((decide (yp = yq))) rfl (yields_of rfl (h2 rfl)) (fun hg => ?_) (fun hg => ?_)
            · refine Yld.gd (p := (decide (yp = yq)) = true) (T := TCells [.string xq]) ?_
              replace h0 := h0 hg
              replace h1 := h1 hg
              exact yld_indexAt strEl (.tmp 98) (.tmp 99) rfl _ LA c6 h0 ii h1 (Hsa.out wq2 hq2) xq Hxq.out
            · intro hn; rw [hn] at hg; cases hg
          · intro wq2 hq2 hd
            obtain ⟨h0, h1, -⟩ := hd
            change ((decide (yp = yq)) = true) → (TCells [.string xq]).p (v 29) wq2 at h0
            change (false = false) → v 21 = _ at h1
            refine ob_guard 21 true ((decide (yp = yq))) rfl (yields_of rfl (h1 rfl)) (fun hg => ?_) (fun hg => ?_)
            · refine Yld.gd (p := (decide (yp = yq)) = true) (T := Ty.is (.string xq)) ?_
              replace h0 := h0 hg
              exact yld_loadOne 9 (.tmp 100) rfl Try.isAgg9 (c := .string xq) h0 rfl
            · intro hn; rw [hn] at hg; cases hg
          · intro wq2 hq2 hd
            obtain ⟨h0, h1, h2, -⟩ := hd
            change ((decide (yp = yq)) = true) → v 26 = _ at h0
            change ((decide (yp = yq)) = true) → v 30 = _ at h1
            change (false = false) → v 21 = _ at h2
            refine ob_guard 21 true ((decide (yp = yq))) rfl (yields_of rfl (h2 rfl)) (fun hg => ?_) (fun hg => ?_)
            · refine Yld.gd (p := (decide (yp = yq)) = true) (T := Ty.is (.bool false)) ?_
              replace h0 := h0 hg
              replace h1 := h1 hg
              exact yld_binStr .gtr 9 9 (.tmp 97) (.tmp 101) rfl _ _ h0 h1 (fun w => by rw [run_gtr_str, Hbx.out (of_decide_eq_true hg)]) rfl
            · intro hn; rw [hn] at hg; cases hg
          · intro wq2 hq2 hd
            obtain ⟨h0, h1, h2, -⟩ := hd
            change (false = false) → v 21 = _ at h0
            change ((decide (yp = yq)) = true) → v 31 = _ at h1
            change v 10 = _ at h2
            refine ob_guard 10 false (false) rfl (yields_of rfl h2) (fun hg => ?_) (fun hg => ?_)
            · refine Yld.gd (p := false = false) (T := Ty.is (.bool false)) ?_
              replace h0 := h0 hg
              exact yld_and (.tmp 92) (.tmp 102) rfl rfl _ _ h0 (fun hgd => h1 hgd) (congrArg Value.bool (Bool.and_false _))
            · intro hn; rw [hn] at hg; cases hg
          · intro wq2 hq2 hd
            obtain ⟨h0, h1, -⟩ := hd
            change v 10 = _ at h0
            change (false = false) → v 32 = _ at h1
            refine ob_plain rfl ?_
            exact yld_or (.tmp 81) (.tmp 103) rfl rfl _ _ h0 (fun hgd => h1 hgd) rfl
          · intro wq2 hq2 hT
            have k33 := hT 33 (by decide)
            change v 33 = _ at k33
            clear hT
            simp only [List.drop_succ_cons, List.drop_zero, putE, setsE, List.set_cons_succ, List.set_cons_zero, Nat.reduceAdd]
            rw [k33]
            go_wp2
            go_roundw
            case rel => exact ⟨ii + 1, by omega, .inl (by omega), by go_num, hext.trans hq2⟩
            case measure => simp [intOf]; omega
        · have d1 : decide ((ii : Int) < (LB.length : Int)) = false := decide_eq_false (by omega)
          go_wp2
          go_ret
          exact ⟨rfl, hw0.trans (hx2q.trans hext)⟩

end Go.Proofs.Ythjlnpcanccmkaa
