/- The reference's May on trees; book: what is known of a tree that both find valid and small. How many fields a joined line has. ParseAnchor: the walk. -/
import Derived.Test.YtjhdamjbljafhaaGreatDoorP31
import Derived.Test.YtjhdamjbljafhaaGreatDoorP30
import Derived.Lib.FieldsP
import Derived.Test.YtjhdamjbljafhaaGreatDoorP13
import Derived.Test.YtjhdamjbljafhaaGreatDoorP06
namespace Go.Proofs.YtjhdamjbljafhaaGreatDoor
open Go.RowKit
def MayOk (u : GUnit) : Prop := AllU ValidP u ∧ idsOk u
set_option maxRecDepth 100000 in
set_option maxHeartbeats 1600000 in
theorem may6_any (u : GUnit) (r : RUnit) (w : World) (hr : Reads w u r) (hok : OkU u) : Calls Tryz.prog 11 #[.agg r.cells.toArray] w (RetIf (MayOk u) w) := by
  have H1 := Lib.hid (fun wq (he : Ext w wq) => right_any _ u r wq (Nat.le_refl _) (Reads.ext he u r hr) hok)
  have H2 := Lib.hid (fun wq (he : Ext w wq) => depth6_any _ u r wq (Nat.le_refl _) (Reads.ext he u r hr) hok)
  have H3 := Lib.hid (fun wq (he : Ext w wq) => count6_any _ u r wq (Nat.le_refl _) (Reads.ext he u r hr) hok)
  have H4 := Lib.hid (fun wq (he : Ext w wq) => ids6_any u r wq (Reads.ext he u r hr) hok)
  have hcn := hok.cnt
  have hb := BoxU.new r w
  have he1 : Ext w (w.alloc (.cells r.cells.toArray 27)) := (Ext.refl w).alloc _
  have Hfin := Lib.hid (show AllU ValidP u → idsOk u → MayOk u from fun h1 h2 => ⟨h1, h2⟩)
  obtain ⟨P, hP⟩ : ∃ P, MayOk u = P := ⟨_, rfl⟩
  obtain ⟨P1, hP1⟩ : ∃ P, AllU ValidP u = P := ⟨_, rfl⟩
  obtain ⟨P2, hP2⟩ : ∃ P, idsOk u = P := ⟨_, rfl⟩
  obtain ⟨cn, hcn2⟩ : ∃ n, cntF u = n := ⟨_, rfl⟩
  rw [hcn2] at H2 H3 hcn
  rw [hP1] at H1 Hfin
  rw [hP2] at H4 Hfin
  rw [hP] at Hfin ⊢
  obtain ⟨ra, ri, rn, rk, rl, hdA, hn, hc, wA, wn, wc, kA, kn, kc⟩ := r
  simp only [RUnit.cells] at hb he1 H1 H2 H3 H4 ⊢
  obtain ⟨wb, hwb⟩ : ∃ wb, w.alloc (.cells #[.int .i64 ra, .int .i64 ri, .int .i64 rn, .int .i64 rk, .string rl, .slice hdA hn hc, .slice wA wn wc, .slice kA kn kc] 27) = wb := ⟨_, rfl⟩
  rw [hwb] at hb he1
  have Hwb := Lib.hid hwb
  have Hbx := Lib.hid hb
  have H1b := Lib.hid (H1.out wb he1)
  clear hP hP1 hP2 hcn2 hwb hb H1 hr hok
  go_enter Tryz.func11, Tryz.ntmps11
  go_wp2_with fail
  rw [Hwb.out]
  refine (H1b.out).mono ?_
  rintro e w2 ⟨b, rfl, hb2, hx2⟩
  cases b with
  | false =>
    go_wp2
    go_ret
    exact ⟨false, rfl, by simp, he1.trans hx2⟩
  | true =>
  have HP1 := Lib.hid (hb2 rfl)
  obtain ⟨hb0, q0, q1, q2, q3, q4, q5, q6, q7⟩ := Hbx.out.ext hx2
  dsimp only at q0 q1 q2 q3 q4 q5 q6 q7
  have H2b := Lib.hid (H2.out w2 (he1.trans hx2))
  clear hb2 H1b
  go_wp2_with fail
  refine (H2b.out).mono ?_
  rintro e w3 ⟨d, rfl, -, hx3⟩
  by_cases hd : d ≤ 8
  case neg =>
    have d1 : decide ((d : Int) ≤ 8) = false := decide_eq_false (by omega)
    clear hd
    go_wp2
    go_ret
    exact ⟨false, rfl, by simp, he1.trans (hx2.trans hx3)⟩
  have d1 : decide ((d : Int) ≤ 8) = true := decide_eq_true (by omega)
  have hx03 := hx2.trans hx3
  clear q0 q1 q2 q3 q4 q5 q6 q7 hb0 H2b hd
  obtain ⟨hb0, q0, q1, q2, q3, q4, q5, q6, q7⟩ := Hbx.out.ext hx03
  dsimp only at q0 q1 q2 q3 q4 q5 q6 q7
  have H3b := Lib.hid (H3.out w3 (he1.trans hx03))
  go_wp2_with fail
  refine (H3b.out).mono ?_
  rintro e w4 ⟨rfl, hx4⟩
  have d2 : decide ((cn : Int) ≤ 1024) = true := decide_eq_true (by omega)
  have hx04 := hx03.trans hx4
  clear q0 q1 q2 q3 q4 q5 q6 q7 hb0 H3b
  obtain ⟨hb0, q0, q1, q2, q3, q4, q5, q6, q7⟩ := Hbx.out.ext hx04
  dsimp only at q0 q1 q2 q3 q4 q5 q6 q7
  have H4b := Lib.hid (H4.out w4 (he1.trans hx04))
  go_wp2_with fail
  refine (H4b.out).mono ?_
  rintro e w5 ⟨b, rfl, hb5, hx5⟩
  go_wp2
  go_ret
  exact ⟨b, rfl, fun h => Hfin.out HP1.out (hb5 h), he1.trans (hx04.trans hx5)⟩
structure BookOk (u : GUnit) (m : Int) : Prop where
  few : fewF u m = true
  kind : u.kind = 0
  may : MayOk u
set_option maxRecDepth 100000 in
set_option maxHeartbeats 1600000 in
theorem book_any (u : GUnit) (r : RUnit) (m : Int) (w : World) (hr : Reads w u r) (hA : AllU (lensLe 9223372036854775807 9223372036854775807) u) (h0 : 0 ≤ m) (h1 : m ≤ 1000) : Calls Tryz.prog 4 #[.agg r.cells.toArray, .int .i64 m] w (RetIf (BookOk u m) w) := by
  have hf := fun wq (he : Ext w wq) => few6_any u r m wq (Reads.ext he u r hr) hA h0 h1
  have hm := fun (h : fewF u m = true) wq (he : Ext w wq) => may6_any u r wq (Reads.ext he u r hr) (few_ok h0 h1 h)
  obtain ⟨hid, hkd, hlb, hhn, hhc, hhs, hwn, hwc, hws, hkn, hkc, rs, hrs, hall, hrl⟩ := hr.flds
  have hlen : u.kids.length ≤ 9223372036854775807 := by
    cases u
    exact (AllU.head hA).2.2
  have Hfin := Lib.hid (show fewF u m = true → r.kind = 0 → MayOk u → BookOk u m from fun h1 h2 h3 => ⟨h1, by rw [← hkd]; exact h2, h3⟩)
  obtain ⟨P, hP⟩ : ∃ P, BookOk u m = P := ⟨_, rfl⟩
  obtain ⟨M, hM⟩ : ∃ P, MayOk u = P := ⟨_, rfl⟩
  obtain ⟨F, hF⟩ : ∃ F, fewF u m = F := ⟨_, rfl⟩
  rw [hM] at hm Hfin
  rw [hF] at hf hm Hfin
  rw [hP] at Hfin ⊢
  have hb := BoxU.new r w
  have he1 : Ext w (w.alloc (.cells r.cells.toArray 27)) := (Ext.refl w).alloc _
  obtain ⟨ra, ri, rn, rk, rl, hdA, hn, hc, wA, wn, wc, kA, kn, kc⟩ := r
  dsimp only at hkn hkc hrs Hfin
  rw [← hrl] at hkn hkc hlen
  subst hkn
  simp only [RUnit.cells] at hb he1 hf hm ⊢
  obtain ⟨q, hq⟩ : ∃ q, rs.length ≠ 0 → rs[0]? = some q := by
    cases rs with
    | nil => exact ⟨unit0, fun h => absurd rfl h⟩
    | cons q r => exact ⟨q, fun _ => rfl⟩
  have Hq := Lib.hid hq
  obtain ⟨wb, hwb⟩ : ∃ wb, w.alloc (.cells #[.int .i64 ra, .int .i64 ri, .int .i64 rn, .int .i64 rk, .string rl, .slice hdA hn hc, .slice wA wn wc, .slice kA rs.length kc] 27) = wb := ⟨_, rfl⟩
  rw [hwb] at hb he1
  have Hwb := Lib.hid hwb
  have Hf := Lib.hid (fun wq (he : Ext wb wq) => hf wq (he1.trans he))
  have Hm := Lib.hid (fun h wq (he : Ext wb wq) => hm h wq (he1.trans he))
  have Hbt := Lib.hid (show ∀ w', Ext wb w' → (TCells [.int .i64 ra, .int .i64 ri, .int .i64 rn, .int .i64 rk, .string rl, .slice hdA hn hc, .slice wA wn wc, .slice kA rs.length kc]).p (.pointer (some ⟨w.heap.size, 0, none⟩)) w' from fun w' he => (hb.ext he).t)
  clear hP hM hF hf hm hq hwb hb hr hA hid hkd hlb hhn hhc hhs hwn hwc hws hall hrl
  go_enter Tryz.func4, Tryz.ntmps4
  go_wp2
  rw [Hwb.out]
  refine wp_drawn_gv [(4, 3, true), (5, 3, true), (6, 3, true), (9, 8, true), (10, 8, true), (13, 12, true), (14, 12, true), (15, 12, true), (16, 12, true), (17, 12, true), (18, 17, false), (19, 17, false), (20, 17, false), (21, 17, false), (22, 17, false), (23, 17, false), (24, 17, false), (25, 17, false), (26, 12, true)] (fun i => match i with | 0 => Ty.is (.agg #[.int .i64 ra, .int .i64 ri, .int .i64 rn, .int .i64 rk, .string rl, .slice hdA hn hc, .slice wA wn wc, .slice kA rs.length kc]) | 1 => Ty.is (.int .i64 m) | 2 => Ty.is (.bool F) | 3 => Ty.is (.bool F) | 4 => TCells [.int .i64 rk] | 5 => Ty.is (.int .i64 rk) | 6 => Ty.is (.bool (decide (rk = 0))) | 7 => TBoolIf (F = true ∧ rk = 0) | 8 => TBoolIf (F = true ∧ rk = 0) | 9 => Ty.is (.agg #[.int .i64 ra, .int .i64 ri, .int .i64 rn, .int .i64 rk, .string rl, .slice hdA hn hc, .slice wA wn wc, .slice kA rs.length kc]) | 10 => TBoolIf M | 11 => TBoolIf ((F = true ∧ rk = 0) ∧ M) | 12 => TBoolIf ((F = true ∧ rk = 0) ∧ M) | 13 => TCells [.slice kA rs.length kc] | 14 => Ty.is (.slice kA rs.length kc) | 15 => Ty.is (.int .i64 rs.length) | 16 => Ty.is (.bool (decide ((rs.length : Int) = 0))) | 17 => Ty.is (.bool (decide ((rs.length : Int) = 0))) | 18 => TCells [.slice kA rs.length kc] | 19 => Ty.is (.slice kA rs.length kc) | 20 => TCells (RUnit.cells q) | 21 => TCells [.int .i64 q.a, .int .i64 q.i, .int .i64 q.n] | 22 => Ty.is (.agg #[.int .i64 q.a, .int .i64 q.i, .int .i64 q.n]) | 23 => TCells [.int .i64 ra, .int .i64 ri, .int .i64 rn] | 24 => Ty.is (.agg #[.int .i64 ra, .int .i64 ri, .int .i64 rn]) | 25 => TBoolIf True | 26 => TBoolIf True | 27 => TBoolIf ((F = true ∧ rk = 0) ∧ M) | 28 => TBoolIf ((F = true ∧ rk = 0) ∧ M) | _ => Ty.any) (by kernel_rfl) (by kernel_rfl) (by kernel_rfl) (by kernel_rfl) 29 rfl (by kernel_rfl) ?_
  intro v
  refine ⟨?_, ?_, ?_, ?_, ?_, ?_, ?_, ?_, ?_, ?_, ?_, ?_, ?_, ?_, ?_, ?_, ?_, ?_, ?_, ?_, ?_, ?_, ?_, ?_, ?_, ?_, ?_, ?_, ?_, ?_⟩
  · intro wq hq hd
    refine ob_plain rfl ?_
    exact yld_loadAgg 27 (.tmp 2) rfl Tryz.isAgg27 8 Tryz.sizeOf27 [.int .i64 ra, .int .i64 ri, .int .i64 rn, .int .i64 rk, .string rl, .slice hdA hn hc, .slice wA wn wc, .slice kA rs.length kc] rfl (Hbt.out _ hq) rfl
  · intro wq hq hd
    refine ob_plain rfl ?_
    exact yld_move (.tmp 1) rfl rfl rfl
  · intro wq hq hd
    obtain ⟨h0, h1, -⟩ := hd
    change v 0 = _ at h0
    change v 1 = _ at h1
    refine ob_plain rfl ?_
    refine yld_call 10 Tryz.call10 _ _ rfl rfl [_, _] ⟨h0, h1, trivial⟩ ?_
    refine (Hf.out _ hq).mono ?_
    rintro e w' ⟨rfl, hx2⟩
    exact ⟨_, rfl, hx2, rfl⟩
  · intro wq hq hd
    obtain ⟨h0, h1, -⟩ := hd
    change v 2 = _ at h0
    refine ob_plain rfl ?_
    exact yld_move (.tmp 7) rfl h0 rfl
  · intro wq hq hd
    obtain ⟨h0, -⟩ := hd
    change v 3 = _ at h0
    refine ob_gv (T := TCells [.int .i64 rk]) 3 true rfl (yields_eq rfl rfl) (fun hg => ?_)
    exact yld_field 27 1 (.tmp 2) rfl _ Tryz.underlying27 _ rfl 1 Tryz.sizeOf3 (by decide) [.int .i64 ra, .int .i64 ri, .int .i64 rn, .int .i64 rk, .string rl, .slice hdA hn hc, .slice wA wn wc, .slice kA rs.length kc] ((Hbt.out _ hq))
  · intro wq hq hd
    obtain ⟨h0, h1, -⟩ := hd
    change (TGu (v 3 = .bool true) (TCells [.int .i64 rk])).p (v 4) wq at h0
    change v 3 = _ at h1
    refine ob_gv (T := Ty.is (.int .i64 rk)) 3 true rfl (yields_eq rfl rfl) (fun hg => ?_)
    replace h0 := TGu.of h0 hg
    exact yld_loadOne 3 (.tmp 9) rfl Tryz.isAgg3 (c := .int .i64 rk) h0 rfl
  · intro wq hq hd
    obtain ⟨h0, h1, -⟩ := hd
    change (TGu (v 3 = .bool true) (Ty.is (.int .i64 rk))).p (v 5) wq at h0
    change v 3 = _ at h1
    refine ob_gv (T := Ty.is (.bool (decide (rk = 0)))) 3 true rfl (yields_eq rfl rfl) (fun hg => ?_)
    replace h0 := TGu.of h0 hg
    change v 5 = _ at h0
    exact yld_binInt .eql 3 3 (.tmp 10) _ rfl _ _ h0 rfl (run_eql_i64 _ _ _) rfl
  · intro wq hq hd
    obtain ⟨h0, h1, -⟩ := hd
    change v 3 = _ at h0
    change (TGu (v 3 = .bool true) (Ty.is (.bool (decide (rk = 0))))).p (v 6) wq at h1
    refine ob_plain rfl ?_
    exact yld_andIf (.tmp 8) (.tmp 11) rfl rfl ⟨F, h0, id⟩ (fun e => ⟨_, TGu.of h1 e, fun e => of_decide_eq_true e⟩)
  · intro wq hq hd
    obtain ⟨h0, h1, -⟩ := hd
    change (TBoolIf (F = true ∧ rk = 0)).p (v 7) wq at h0
    refine ob_plain rfl ?_
    exact yld_move (.tmp 12) rfl rfl h0
  · intro wq hq hd
    obtain ⟨h0, -⟩ := hd
    change (TBoolIf (F = true ∧ rk = 0)).p (v 8) wq at h0
    refine ob_gv (T := Ty.is (.agg #[.int .i64 ra, .int .i64 ri, .int .i64 rn, .int .i64 rk, .string rl, .slice hdA hn hc, .slice wA wn wc, .slice kA rs.length kc])) 8 true rfl (yields_eq rfl rfl) (fun hg => ?_)
    exact yld_loadAgg 27 (.tmp 2) rfl Tryz.isAgg27 8 Tryz.sizeOf27 [.int .i64 ra, .int .i64 ri, .int .i64 rn, .int .i64 rk, .string rl, .slice hdA hn hc, .slice wA wn wc, .slice kA rs.length kc] rfl (Hbt.out _ hq) rfl
  · intro wq hq hd
    obtain ⟨h0, h1, h2, -⟩ := hd
    change (TGu (v 8 = .bool true) (Ty.is (.agg #[.int .i64 ra, .int .i64 ri, .int .i64 rn, .int .i64 rk, .string rl, .slice hdA hn hc, .slice wA wn wc, .slice kA rs.length kc]))).p (v 9) wq at h0
    change (TBoolIf (F = true ∧ rk = 0)).p (v 8) wq at h1
    refine ob_gv (T := TBoolIf M) 8 true rfl (yields_eq rfl rfl) (fun hg => ?_)
    replace h0 := TGu.of h0 hg
    change v 9 = _ at h0
    refine yld_call 11 Tryz.call11 _ _ rfl rfl [_] ⟨h0, trivial⟩ ?_
    refine (Hm.out (TBoolIf.yes h1 hg).1 _ hq).mono ?_
    rintro e w' ⟨b, rfl, hb, hx2⟩
    exact ⟨_, rfl, hx2, b, rfl, hb⟩
  · intro wq hq hd
    obtain ⟨h0, h1, -⟩ := hd
    change (TBoolIf (F = true ∧ rk = 0)).p (v 8) wq at h0
    change (TGu (v 8 = .bool true) (TBoolIf M)).p (v 10) wq at h1
    refine ob_plain rfl ?_
    exact yld_andIf (.tmp 13) (.tmp 15) rfl rfl h0 (fun e => TGu.of h1 e)
  · intro wq hq hd
    obtain ⟨h0, h1, -⟩ := hd
    change (TBoolIf ((F = true ∧ rk = 0) ∧ M)).p (v 11) wq at h0
    refine ob_plain rfl ?_
    exact yld_move (.tmp 16) rfl rfl h0
  · intro wq hq hd
    obtain ⟨h0, -⟩ := hd
    change (TBoolIf ((F = true ∧ rk = 0) ∧ M)).p (v 12) wq at h0
    refine ob_gv (T := TCells [.slice kA rs.length kc]) 12 true rfl (yields_eq rfl rfl) (fun hg => ?_)
    exact yld_field 27 5 (.tmp 2) rfl _ Tryz.underlying27 _ rfl 1 Tryz.sizeOf25 (by decide) [.int .i64 ra, .int .i64 ri, .int .i64 rn, .int .i64 rk, .string rl, .slice hdA hn hc, .slice wA wn wc, .slice kA rs.length kc] ((Hbt.out _ hq))
  · intro wq hq hd
    obtain ⟨h0, h1, -⟩ := hd
    change (TGu (v 12 = .bool true) (TCells [.slice kA rs.length kc])).p (v 13) wq at h0
    change (TBoolIf ((F = true ∧ rk = 0) ∧ M)).p (v 12) wq at h1
    refine ob_gv (T := Ty.is (.slice kA rs.length kc)) 12 true rfl (yields_eq rfl rfl) (fun hg => ?_)
    replace h0 := TGu.of h0 hg
    exact yld_loadOne 25 (.tmp 18) rfl Tryz.isAgg25 (c := .slice kA rs.length kc) h0 rfl
  · intro wq hq hd
    obtain ⟨h0, h1, -⟩ := hd
    change (TGu (v 12 = .bool true) (Ty.is (.slice kA rs.length kc))).p (v 14) wq at h0
    change (TBoolIf ((F = true ∧ rk = 0) ∧ M)).p (v 12) wq at h1
    refine ob_gv (T := Ty.is (.int .i64 rs.length)) 12 true rfl (yields_eq rfl rfl) (fun hg => ?_)
    replace h0 := TGu.of h0 hg
    change v 14 = _ at h0
    exact yld_len (.tmp 19) 25 _ Tryz.underlying25 rfl _ _ _ h0 rfl
  · intro wq hq hd
    obtain ⟨h0, h1, -⟩ := hd
    change (TGu (v 12 = .bool true) (Ty.is (.int .i64 rs.length))).p (v 15) wq at h0
    change (TBoolIf ((F = true ∧ rk = 0) ∧ M)).p (v 12) wq at h1
    refine ob_gv (T := Ty.is (.bool (decide ((rs.length : Int) = 0)))) 12 true rfl (yields_eq rfl rfl) (fun hg => ?_)
    replace h0 := TGu.of h0 hg
    change v 15 = _ at h0
    exact yld_binInt .eql 3 3 (.tmp 20) _ rfl _ _ h0 rfl (run_eql_i64 _ _ _) rfl
  · intro wq hq hd
    obtain ⟨h0, h1, h2, -⟩ := hd
    change (TGu (v 12 = .bool true) (Ty.is (.bool (decide ((rs.length : Int) = 0))))).p (v 16) wq at h0
    change (TBoolIf ((F = true ∧ rk = 0) ∧ M)).p (v 12) wq at h1
    refine ob_gv (T := Ty.is (.bool (decide ((rs.length : Int) = 0)))) 12 true rfl (yields_eq rfl rfl) (fun hg => ?_)
    replace h0 := TGu.of h0 hg
    change v 16 = _ at h0
    exact yld_move (.tmp 21) rfl h0 rfl
  · intro wq hq hd
    obtain ⟨h0, -⟩ := hd
    change (TGu (v 12 = .bool true) (Ty.is (.bool (decide ((rs.length : Int) = 0))))).p (v 17) wq at h0
    refine ob_gv (T := TCells [.slice kA rs.length kc]) 17 false rfl (yields_eq rfl rfl) (fun hg => ?_)
    exact yld_field 27 5 (.tmp 2) rfl _ Tryz.underlying27 _ rfl 1 Tryz.sizeOf25 (by decide) [.int .i64 ra, .int .i64 ri, .int .i64 rn, .int .i64 rk, .string rl, .slice hdA hn hc, .slice wA wn wc, .slice kA rs.length kc] ((Hbt.out _ hq))
  · intro wq hq hd
    obtain ⟨h0, h1, -⟩ := hd
    change (TGu (v 17 = .bool false) (TCells [.slice kA rs.length kc])).p (v 18) wq at h0
    change (TGu (v 12 = .bool true) (Ty.is (.bool (decide ((rs.length : Int) = 0))))).p (v 17) wq at h1
    refine ob_gv (T := Ty.is (.slice kA rs.length kc)) 17 false rfl (yields_eq rfl rfl) (fun hg => ?_)
    replace h0 := TGu.of h0 hg
    exact yld_loadOne 25 (.tmp 23) rfl Tryz.isAgg25 (c := .slice kA rs.length kc) h0 rfl
  · intro wq hq hd
    obtain ⟨h0, h1, -⟩ := hd
    change (TGu (v 17 = .bool false) (Ty.is (.slice kA rs.length kc))).p (v 19) wq at h0
    change (TGu (v 12 = .bool true) (Ty.is (.bool (decide ((rs.length : Int) = 0))))).p (v 17) wq at h1
    refine ob_gv (T := TCells (RUnit.cells q)) 17 false rfl (yields_eq rfl rfl) (fun hg => ?_)
    replace h0 := TGu.of h0 hg
    change v 19 = _ at h0
    obtain ⟨-, h2⟩ := TGu.bool h1 hg
    change v 17 = _ at h2
    exact yld_indexAt unitEl (.tmp 24) _ rfl kA rs kc h0 0 rfl (hrs.ext (he1.trans hq)) q (Hq.out (by rw [hg] at h2; simpa using h2))
  · intro wq hq hd
    obtain ⟨h0, h1, -⟩ := hd
    change (TGu (v 17 = .bool false) (TCells (RUnit.cells q))).p (v 20) wq at h0
    change (TGu (v 12 = .bool true) (Ty.is (.bool (decide ((rs.length : Int) = 0))))).p (v 17) wq at h1
    refine ob_gv (T := TCells [.int .i64 q.a, .int .i64 q.i, .int .i64 q.n]) 17 false rfl (yields_eq rfl rfl) (fun hg => ?_)
    replace h0 := TGu.of h0 hg
    exact yld_field 27 0 (.tmp 25) rfl _ Tryz.underlying27 _ rfl 3 Tryz.sizeOf23 (by decide) [.int .i64 q.a, .int .i64 q.i, .int .i64 q.n, .int .i64 q.kind, .string q.label, .slice q.hA q.hn q.hc, .slice q.wA q.wn q.wc, .slice q.kA q.kn q.kc] (h0)
  · intro wq hq hd
    obtain ⟨h0, h1, -⟩ := hd
    change (TGu (v 17 = .bool false) (TCells [.int .i64 q.a, .int .i64 q.i, .int .i64 q.n])).p (v 21) wq at h0
    change (TGu (v 12 = .bool true) (Ty.is (.bool (decide ((rs.length : Int) = 0))))).p (v 17) wq at h1
    refine ob_gv (T := Ty.is (.agg #[.int .i64 q.a, .int .i64 q.i, .int .i64 q.n])) 17 false rfl (yields_eq rfl rfl) (fun hg => ?_)
    replace h0 := TGu.of h0 hg
    exact yld_loadAgg 23 (.tmp 26) rfl Tryz.isAgg23 3 Tryz.sizeOf23 [.int .i64 q.a, .int .i64 q.i, .int .i64 q.n] rfl h0 rfl
  · intro wq hq hd
    obtain ⟨h0, -⟩ := hd
    change (TGu (v 12 = .bool true) (Ty.is (.bool (decide ((rs.length : Int) = 0))))).p (v 17) wq at h0
    refine ob_gv (T := TCells [.int .i64 ra, .int .i64 ri, .int .i64 rn]) 17 false rfl (yields_eq rfl rfl) (fun hg => ?_)
    exact yld_field 27 0 (.tmp 2) rfl _ Tryz.underlying27 _ rfl 3 Tryz.sizeOf23 (by decide) [.int .i64 ra, .int .i64 ri, .int .i64 rn, .int .i64 rk, .string rl, .slice hdA hn hc, .slice wA wn wc, .slice kA rs.length kc] ((Hbt.out _ hq))
  · intro wq hq hd
    obtain ⟨h0, h1, -⟩ := hd
    change (TGu (v 17 = .bool false) (TCells [.int .i64 ra, .int .i64 ri, .int .i64 rn])).p (v 23) wq at h0
    change (TGu (v 12 = .bool true) (Ty.is (.bool (decide ((rs.length : Int) = 0))))).p (v 17) wq at h1
    refine ob_gv (T := Ty.is (.agg #[.int .i64 ra, .int .i64 ri, .int .i64 rn])) 17 false rfl (yields_eq rfl rfl) (fun hg => ?_)
    replace h0 := TGu.of h0 hg
    exact yld_loadAgg 23 (.tmp 28) rfl Tryz.isAgg23 3 Tryz.sizeOf23 [.int .i64 ra, .int .i64 ri, .int .i64 rn] rfl h0 rfl
  · intro wq hq hd
    obtain ⟨h0, h1, h2, -⟩ := hd
    change (TGu (v 17 = .bool false) (Ty.is (.agg #[.int .i64 q.a, .int .i64 q.i, .int .i64 q.n]))).p (v 22) wq at h0
    change (TGu (v 17 = .bool false) (Ty.is (.agg #[.int .i64 ra, .int .i64 ri, .int .i64 rn]))).p (v 24) wq at h1
    change (TGu (v 12 = .bool true) (Ty.is (.bool (decide ((rs.length : Int) = 0))))).p (v 17) wq at h2
    refine ob_gv (T := TBoolIf True) 17 false rfl (yields_eq rfl rfl) (fun hg => ?_)
    replace h0 := TGu.of h0 hg
    change v 22 = _ at h0
    replace h1 := TGu.of h1 hg
    change v 24 = _ at h1
    exact yld_binAgg .neq 23 23 (.tmp 27) (.tmp 29) rfl _ _ h0 h1 (by kernel_rfl) (fun w => idNeq w _ _ _ _ _ _) ⟨_, rfl, fun _ => trivial⟩
  · intro wq hq hd
    obtain ⟨h0, h1, h2, -⟩ := hd
    change (TGu (v 12 = .bool true) (Ty.is (.bool (decide ((rs.length : Int) = 0))))).p (v 17) wq at h0
    change (TGu (v 17 = .bool false) (TBoolIf True)).p (v 25) wq at h1
    change (TBoolIf ((F = true ∧ rk = 0) ∧ M)).p (v 12) wq at h2
    refine ob_gv (T := TBoolIf True) 12 true rfl (yields_eq rfl rfl) (fun hg => ?_)
    replace h0 := TGu.of h0 hg
    change v 17 = _ at h0
    obtain ⟨D, hD⟩ : ∃ D, v 17 = .bool D := ⟨_, h0⟩
    cases D with
    | true => exact yld_pick (c := .bool true) (.tmp 22) _ (.tmp 30) rfl true hD (fun _ => rfl) (fun h => by cases h) ⟨true, rfl, fun _ => trivial⟩
    | false =>
      obtain ⟨c, hc, -⟩ := TGu.of h1 hD
      exact yld_pick (c := .bool c) (.tmp 22) _ (.tmp 30) rfl false hD (fun h => by cases h) (fun _ => hc) ⟨c, rfl, fun _ => trivial⟩
  · intro wq hq hd
    obtain ⟨h0, h1, -⟩ := hd
    change (TBoolIf ((F = true ∧ rk = 0) ∧ M)).p (v 12) wq at h0
    change (TGu (v 12 = .bool true) (TBoolIf True)).p (v 26) wq at h1
    refine ob_plain rfl ?_
    exact (yld_andIf (.tmp 17) (.tmp 31) rfl rfl h0 (fun e => TGu.of h1 e)).imp (fun _ _ ⟨b, hb, hf⟩ => ⟨b, hb, fun h => (hf h).1⟩)
  · intro wq hq hd
    obtain ⟨h0, h1, h2, h3, h4, h5, h6, h7, h8, h9, h10, h11, h12, h13, h14, h15, h16, h17, h18, h19, h20, h21, h22, h23, h24, h25, h26, h27, h28, h29, -⟩ := hd
    change (TBoolIf ((F = true ∧ rk = 0) ∧ M)).p (v 27) wq at h0
    refine ob_plain rfl ?_
    exact yld_assign (.tmp 32) rfl rfl h0
  · intro wq hq hT
    have k28 := hT 28 (by decide)
    change (TBoolIf ((F = true ∧ rk = 0) ∧ M)).p (v 28) wq at k28
    clear hT
    simp only [List.drop_succ_cons, List.drop_zero, putE, setsE, List.set_cons_succ, List.set_cons_zero, Nat.reduceAdd]
    generalize v 28 = x28 at k28 ⊢
    obtain ⟨b, rfl, hb2⟩ := k28
    go_wp2
    go_ret
    exact ⟨b, rfl, fun h => Hfin.out (hb2 h).1.1 (hb2 h).1.2 (hb2 h).2, he1.trans hq⟩
end Go.Proofs.YtjhdamjbljafhaaGreatDoor
namespace Go.Proofs.YtjhdamjbljafhaaGreatDoor
open Go.RowKit
def spP (x : Nat) : Bool := decide (x = 32)
def fieldsF (s : ByteArray) : List ByteArray := Lib.goFieldsP spP s
def nF (s : ByteArray) : Nat := (fieldsF s).length
def cntW : Bool → List UInt8 → Nat
  | b, [] => if b = true then 1 else 0
  | b, c :: r => if c.toNat = 32 then (if b = true then 1 else 0) + cntW false r else cntW true r
theorem decode_low (s : ByteArray) (pos : Nat) (h : pos < s.size) (ha : (s.data.toList[pos]'(by simpa using h)).toNat < 128) : Utf8.decode s pos = ((s.data.toList[pos]'(by simpa using h)).toNat, 1) := by
  have e : s.get! (pos + 0) = s.data.toList[pos]'(by simpa using h) := by
    show s.get! pos = _
    simp [ByteArray.get!, getElem!_pos, h]
  unfold Utf8.decode
  simp only [e]
  rw [if_pos ha]
theorem spans_cnt (s : ByteArray) (ha : ∀ x ∈ s.data.toList, x.toNat < 128) : ∀ (f pos : Nat) (st : Option Nat) (acc : List (Nat × Nat)), s.size ≤ pos + f → pos ≤ s.size →
    (Lib.closeSpans s (Lib.spansFromP spP s f pos st acc)).length = acc.length + cntW st.isSome (s.data.toList.drop pos)
  | 0, pos, st, acc, hf, hp => by
    have hl : s.data.toList.length = s.size := Array.length_toList
    rw [List.drop_of_length_le (by omega), Lib.spansFromP]
    cases st <;> simp [Lib.closeSpans, cntW]
  | f + 1, pos, st, acc, hf, hp => by
    have hl : s.data.toList.length = s.size := Array.length_toList
    unfold Lib.spansFromP
    by_cases h : pos < s.size
    · have hd := decode_low s pos h (ha _ (List.getElem_mem _))
      rw [if_pos h, hd, List.drop_eq_getElem_cons (show pos < s.data.toList.length by omega), cntW]
      by_cases h32 : (s.data.toList[pos]'(by omega)).toNat = 32
      · rw [if_pos (show spP ((s.data.toList[pos]'(by omega)).toNat, 1).fst = true from decide_eq_true h32), if_pos h32]
        cases st with
        | none =>
          simp only
          rw [spans_cnt s ha f (pos + 1) none acc (by omega) (by omega)]
          simp
        | some a =>
          simp only
          rw [spans_cnt s ha f (pos + 1) none _ (by omega) (by omega)]
          simp
          omega
      · rw [if_neg (show ¬ spP ((s.data.toList[pos]'(by omega)).toNat, 1).fst = true from fun e => h32 (of_decide_eq_true e)), if_neg h32]
        cases st with
        | none =>
          simp only
          rw [spans_cnt s ha f (pos + 1) (some pos) acc (by omega) (by omega)]
          simp
        | some a =>
          simp only
          rw [spans_cnt s ha f (pos + 1) (some a) acc (by omega) (by omega)]
          simp
    · rw [if_neg h, List.drop_of_length_le (by omega)]
      cases st <;> simp [Lib.closeSpans, cntW]
theorem nF_cnt (s : ByteArray) (ha : ∀ x ∈ s.data.toList, x.toNat < 128) : nF s = cntW false s.data.toList := by
  unfold nF fieldsF Lib.goFieldsP Lib.spansOfP
  rw [List.length_map, spans_cnt s ha s.size 0 none [] (by omega) (by omega)]
  simp
def wordB (s : ByteArray) : Prop := s.data.toList ≠ [] ∧ ∀ x ∈ s.data.toList, x.toNat < 128 ∧ x.toNat ≠ 32
theorem cntW_word : ∀ (l r : List UInt8) (b : Bool), l ≠ [] → (∀ x ∈ l, x.toNat ≠ 32) → cntW b (l ++ r) = cntW true r
  | [c], r, b, _, h => by rw [List.singleton_append, cntW, if_neg (h c (by simp))]
  | c :: d :: l, r, b, _, h => by
    rw [List.cons_append, cntW, if_neg (h c (by simp))]
    exact cntW_word (d :: l) r true (by simp) (fun x hx => h x (List.mem_cons_of_mem _ hx))
theorem joinB_cnt : ∀ (xs : List ByteArray), (∀ s ∈ xs, wordB s) → cntW false (joinB spaceB xs).data.toList = xs.length ∧ ∀ x ∈ (joinB spaceB xs).data.toList, x.toNat < 128
  | [], _ => ⟨rfl, fun x hx => by simp [joinB_nil] at hx⟩
  | [s], h => by
    obtain ⟨h1, h2⟩ := h s (by simp)
    rw [joinB_one]
    refine ⟨?_, fun x hx => (h2 x hx).1⟩
    have := cntW_word s.data.toList [] false h1 (fun x hx => (h2 x hx).2)
    rw [List.append_nil] at this
    rw [this]
    rfl
  | s :: t :: xs, h => by
    obtain ⟨h1, h2⟩ := h s (by simp)
    obtain ⟨i1, i2⟩ := joinB_cnt (t :: xs) (fun x hx => h x (List.mem_cons_of_mem _ hx))
    have e : (joinB spaceB (s :: t :: xs)).data.toList = s.data.toList ++ (32 : UInt8) :: (joinB spaceB (t :: xs)).data.toList := by
      rw [joinB_list, joinB_list]
      simp [Lib.join, spaceB]
    rw [e]
    refine ⟨?_, fun x hx => ?_⟩
    · rw [cntW_word _ _ _ h1 (fun x hx => (h2 x hx).2), cntW, if_pos (by decide), i1]
      simp
      omega
    · rcases List.mem_append.1 hx with hx | hx
      · exact (h2 x hx).1
      · rcases List.mem_cons.1 hx with rfl | hx
        · decide
        · exact i2 x hx
theorem nF_join {xs : List ByteArray} (h : ∀ s ∈ xs, wordB s) : nF (joinB spaceB xs) = xs.length := by
  obtain ⟨h1, h2⟩ := joinB_cnt xs h
  rw [nF_cnt _ h2, h1]
theorem linesF_sum {l : List ByteArray} {W : Int} (hl : ∀ s ∈ l, wordB s) : ∀ (es : List Int) (a : Nat), a ≤ l.length → Val l W a es → ((linesF l a es).map nF).sum = l.length - a ∧ ∀ s ∈ linesF l a es, (s.size : Int) ≤ W ∧ 1 ≤ nF s
  | [], a, ha, hv => by
    have := hv.nil_of
    rw [linesF]
    simp
    omega
  | e :: es, a, ha, hv => by
    obtain ⟨g, rfl, h1, h2, h3, h4⟩ := hv.cons
    obtain ⟨i1, i2⟩ := linesF_sum hl es g h2 h4
    have hn : nF (lineB l a g) = g - a := by
      unfold lineB
      have hw : ∀ s ∈ lineW l a g, wordB s := fun s hs => hl s (List.mem_of_mem_drop (List.mem_of_mem_take hs))
      rw [nF_join hw, lineW, List.length_take, List.length_drop]
      omega
    rw [linesF]
    simp only [Int.toNat_natCast, List.map_cons, List.sum_cons, List.mem_cons, forall_eq_or_imp]
    refine ⟨by rw [i1, hn]; omega, ⟨?_, by omega⟩, i2⟩
    rw [lineB_size h1 h2]
    exact h3
end Go.Proofs.YtjhdamjbljafhaaGreatDoor
namespace Go.Proofs.YtjhdamjbljafhaaGreatDoor
open Go.RowKit
theorem hasPrefix_one (l : List UInt8) (c : UInt8) : Lib.hasPrefix l [c] = (l.head? == some c) := by
  cases l with
  | nil => rfl
  | cons x r =>
    rw [Bool.eq_iff_iff]
    simp [Lib.hasPrefix, List.isPrefixOf]
    constructor <;> exact fun h => h.symm
theorem ancB_eq (s : ByteArray) : ancB s = (Lib.hasPrefix s.data.toList [94] && mayL (s.data.toList.drop 1)) := by rw [ancB, hasPrefix_one]
def RetAnc (s : ByteArray) (w : World) (e : Ending) (w' : World) : Prop := e = .returned (.tuple #[.string (ancT s), .bool (ancB s)]) ∧ Ext w w'
set_option maxRecDepth 100000 in
set_option maxHeartbeats 800000 in
theorem parseAnchor_any (s : ByteArray) (w : World) (hs : s.size ≤ 1048576) : Calls Tryz.prog 61 #[.string s] w (RetAnc s w) := by
  have Hc := Lib.hid (fun w => Tryz.strings_CutPrefix s ⟨#[94]⟩ w)
  have hb := ancB_eq s
  cases hp : Lib.hasPrefix s.data.toList [94] with
  | false =>
    rw [hp, Bool.false_and] at hb
    have ht : ancT s = ⟨#[]⟩ := by rw [ancT, if_neg (by simp [hb])]
    have hp2 : Lib.hasPrefix s.data.toList (ByteArray.data ⟨#[94]⟩).toList = false := hp
    unfold RetAnc
    rw [hb, ht]
    rw [hp2] at Hc
    obtain ⟨T, hT⟩ : ∃ T, (⟨(Lib.trimPrefix s.data.toList (ByteArray.data ⟨#[94]⟩).toList).toArray⟩ : ByteArray) = T := ⟨_, rfl⟩
    rw [hT] at Hc
    clear hb ht hp hp2 hT
    go_enter Tryz.func61, Tryz.ntmps61
    go_wp2_with fail
    refine (Hc.out _).mono ?_
    rintro e w1 ⟨rfl, rfl⟩
    go_wp2
    go_ret2
    exact ⟨rfl, Ext.refl _⟩
  | true =>
    rw [hp, Bool.true_and] at hb
    have hp2 : Lib.hasPrefix s.data.toList (ByteArray.data ⟨#[94]⟩).toList = true := hp
    have hT : (⟨(Lib.trimPrefix s.data.toList (ByteArray.data ⟨#[94]⟩).toList).toArray⟩ : ByteArray) = bstrF (s.data.toList.drop 1) := by
      unfold Lib.trimPrefix
      rw [if_pos hp2]
      rfl
    rw [hp2, hT] at Hc
    obtain ⟨T, hT2⟩ : ∃ T, bstrF (s.data.toList.drop 1) = T := ⟨_, rfl⟩
    have hl : s.data.toList.length = s.size := Array.length_toList
    have hTl : T.data.toList = s.data.toList.drop 1 := by rw [← hT2, bstrF_list]
    have hTs : T.size ≤ 1048576 := by rw [← hT2, bstrF_size, List.length_drop]; omega
    have Hv := Lib.hid (fun w => valid_any T w hTs)
    rw [hTl] at Hv
    rw [hT2] at Hc
    have ht : ancT s = if ancB s = true then T else ⟨#[]⟩ := by rw [ancT, hT2]
    unfold RetAnc
    rw [ht, hb]
    obtain ⟨M, hM⟩ : ∃ M, mayL (s.data.toList.drop 1) = M := ⟨_, rfl⟩
    rw [hM] at Hv ⊢
    clear hb ht hp hp2 hT hT2 hTl hTs hM hl
    cases M with
    | true =>
      go_enter Tryz.func61, Tryz.ntmps61
      go_wp2_with fail
      refine (Hc.out _).mono ?_
      rintro e w1 ⟨rfl, rfl⟩
      go_wp2_with fail
      refine (Hv.out _).mono ?_
      rintro e w2 ⟨rfl, hx2⟩
      go_wp2
      go_ret2
      exact ⟨rfl, hx2⟩
    | false =>
      go_enter Tryz.func61, Tryz.ntmps61
      go_wp2_with fail
      refine (Hc.out _).mono ?_
      rintro e w1 ⟨rfl, rfl⟩
      go_wp2_with fail
      refine (Hv.out _).mono ?_
      rintro e w2 ⟨rfl, hx2⟩
      go_wp2
      go_ret2
      exact ⟨rfl, hx2⟩
end Go.Proofs.YtjhdamjbljafhaaGreatDoor
