/- unit.ids: some answer. -/
import Derived.Test.YtjhdamjbljafhaaGreatDoorP08
import Derived.Test.YtjhdamjbljafhaaGreatDoorP10
namespace Go.Proofs.YtjhdamjbljafhaaGreatDoor
open Go.RowKit
def TNum : Ty := ⟨fun v _ => ∃ z : Int, v = .int .i64 z, fun _ _ _ _ h => h⟩
theorem yld_lenMap {P : Program} {ρ : Operand → Value} {o : Oper} {w : World} {κ : Type} {K : κ → Value} (x : Operand) (t : TypeId) {a b : TypeId} (ht : P.underlying t = some (.map a b)) (ho : o.op = .call { callee := .builtin .len, args := #[x], argTypes := #[t] }) (B : Nat) (hx : ρ x = .map (some B)) (h : MapB K B w) : Yld P ρ o w TNum.p := by
  obtain ⟨es, clock, h1, -⟩ := h
  exact yld_run (w' := w) (v := .int .i64 es.size) (by simp [execOp, ho, hx, resolve, invoke, builtin, Builtin.len_, goInt, run_underlying ht, MapKept.run_getObj_map h1]) (Ext.refl _) ⟨_, rfl⟩
theorem yld_binBool {P : Program} {ρ : Operand → Value} {o : Oper} {w : World} {T : Value → World → Prop} (t t' : TypeId) (x y : Operand) (ho : o.op = .binOp .eql t x y t') (a b : Bool) (hx : ρ x = .bool a) (hy : ρ y = .bool b) (h : T (.bool (a == b)) w) (ht : P.underlying t = some .bool := by kernel_rfl) : Yld P ρ o w T := by
  have hr : ∀ w, (binOp .eql t (.bool a) (.bool b)).run P w = .ok (.bool (a == b)) w := fun w => by
    have u := ht
    go_simp
  exact yld_run (w' := w) (v := .bool (a == b)) (by simp [execOp, ho, hx, hy, eqGuard, hr]) (Ext.refl _) h
set_option maxRecDepth 100000 in
set_option maxHeartbeats 3200000 in
theorem idsV_any (u : GUnit) (r : RUnit) (w : World) (hr : Reads w u r) (hok : OkU u) : Calls Tryz.prog 129 #[.agg r.cells.toArray] w (RetB w) := by
  have Hids := Lib.hid (fun wq (he : Ext w wq) => ids_any u r wq (Reads.ext he u r hr) hok)
  have hln : ((preF u).map GUnit.id).length ≤ 1000 := by rw [List.length_map, preF_len]; exact hok.cnt
  have hb := BoxU.new r w
  have hx0 : Ext w (w.alloc (.cells r.cells.toArray 27)) := (Ext.refl w).alloc _
  obtain ⟨l, hl⟩ : ∃ l, (preF u).map GUnit.id = l := ⟨_, rfl⟩
  rw [hl] at Hids hln
  obtain ⟨ra, ri, rn, rk, rl, hdA, hn, hc, wA, wn, wc, kA, kn, kc⟩ := r
  simp only [RUnit.cells] at hb hx0 Hids ⊢
  obtain ⟨wb, hwb⟩ : ∃ wb, w.alloc (.cells #[.int .i64 ra, .int .i64 ri, .int .i64 rn, .int .i64 rk, .string rl, .slice hdA hn hc, .slice wA wn wc, .slice kA kn kc] 27) = wb := ⟨_, rfl⟩
  rw [hwb] at hb hx0
  have hbx : ∀ w', Ext wb w' → (TCells [.int .i64 ra, .int .i64 ri, .int .i64 rn, .int .i64 rk, .string rl, .slice hdA hn hc, .slice wA wn wc, .slice kA kn kc]).p (.pointer (some ⟨w.heap.size, 0, none⟩)) w' := fun w' he => (hb.ext he).t
  have Hx0 := Lib.hid hx0
  have Hbx := Lib.hid hbx
  have Hwb := Lib.hid hwb
  have H1 := Lib.hid (Hids.out wb hx0)
  clear hr hok hl hbx hx0 hwb Hids
  go_enter Tryz.func129, Tryz.ntmps129
  go_wp2_with fail
  rw [Hwb.out]
  refine (H1.out).mono ?_
  rintro e w1 ⟨v1, rfl, hown, hx1⟩
  obtain ⟨A3, c3, rfl, -, hsl⟩ := hown.form
  have Hsl := Lib.hid hsl
  have Hx1 := Lib.hid (Hx0.out.trans hx1)
  have Hm := Lib.hid (MapB.made (K := fun x : GId => Value.agg x.cells.toArray) w1)
  have Hbx1 := Lib.hid (fun wq (he : Ext w1 wq) => Hbx.out wq (hx1.trans he))
  have Hem := Lib.hid ((Ext.refl w1).alloc (.map #[] 0))
  clear hown hsl hx1 hb H1
  have hmm := @run_makeMap Tryz.prog
  go_wp2
  clear hmm
  obtain ⟨B, hB⟩ : ∃ B, w1.heap.size = B := ⟨_, rfl⟩
  obtain ⟨wm, hwm⟩ : ∃ wm, w1.alloc (.map #[] 0) = wm := ⟨_, rfl⟩
  have HB0 := Lib.hid hB
  rw [hB] at Hm ⊢
  rw [hwm] at Hm Hem ⊢
  clear hB hwm
  go_loopw [13] (fun vk wr => ∃ k : Nat, k ≤ l.length ∧ vk = .int .i64 (k : Nat) ∧ Hid (Ext w1 wr) ∧ Hid (MapB (fun x : GId => Value.agg x.cells.toArray) B wr)) (fun vk _ => l.length - (intOf vk).toNat)
  case atStart => exact ⟨0, Nat.zero_le _, rfl, Hem, Hm⟩
  case round =>
    obtain ⟨k, hk, rfl, HX, HM⟩ := hrel
    by_cases hlt : k < l.length
    · obtain ⟨b, off, hAe, hb, u0, u1, u2⟩ := idAt (Hsl.out.ext HX.out) hlt
      obtain ⟨q, hq⟩ : ∃ q, l[k] = q := ⟨_, rfl⟩
      rw [hq] at u0 u1 u2
      obtain ⟨qa, qi, qn⟩ := q
      dsimp only at u0 u1 u2
      subst hAe
      have d1 : decide ((k : Int) < (l.length : Int)) = true := decide_eq_true (by omega)
      have hxa : Ext wr (wr.alloc (.cells #[.int .i64 qa, .int .i64 qi, .int .i64 qn] 23)) := (Ext.refl _).alloc _
      have HMa := Lib.hid (HM.out.ext hxa)
      have Hxa := Lib.hid hxa
      clear hq hxa
      go_wp2_with (refine wpList_setB kId rfl _ _ _ rfl HMa.out rfl (⟨qa, qi, qn⟩ : GId) rfl true rfl ?_; intro w3 hm3 hw3 hs3 hos3 htp3 hou3)
      go_roundw
      case rel =>
        exact ⟨k + 1, by omega, by go_num, Lib.hid (Ext.put (HX.out.trans Hxa.out) (Nat.le_of_eq HB0.out) hw3 hos3 htp3 hou3 hs3), Lib.hid hm3⟩
      case measure => simp [intOf]; omega
    · have d1 : decide ((k : Int) < (l.length : Int)) = false := decide_eq_false (by omega)
      obtain ⟨L, hL⟩ : ∃ L, l.length = L := ⟨_, rfl⟩
      rw [hL] at d1 ⊢
      have Hmap := HM
      have Hbx := Lib.hid (fun wq (he : Ext wr wq) => Hbx1.out wq (HX.out.trans he))
      go_wp2_with (refine wpList_lookB kId rfl _ _ rfl HM.out rfl (⟨0, 0, 0⟩ : GId) rfl ?_; intro z)
      refine wp_drawn_gv [(2, 1, true), (3, 1, true), (4, 1, true), (7, 6, false), (8, 6, false), (9, 6, false), (10, 6, false), (11, 6, false), (12, 6, false), (13, 12, true), (14, 12, true), (15, 12, true), (16, 12, true), (17, 12, true), (18, 12, true), (19, 12, true), (20, 12, true), (21, 6, false)] (fun i => match i with | 0 => Ty.is (.bool z) | 1 => Ty.is (.bool z) | 2 => Ty.is (.map (some B)) | 3 => TNum | 4 => TBoolIf True | 5 => TBoolIf True | 6 => TBoolIf True | 7 => Ty.is (.map (some B)) | 8 => TNum | 9 => Ty.is (.slice A3 L c3) | 10 => Ty.is (.int .i64 (L : Nat)) | 11 => TBoolIf True | 12 => TBoolIf True | 13 => TCells [.int .i64 rk] | 14 => Ty.is (.int .i64 rk) | 15 => TBoolIf True | 16 => TCells [.int .i64 ra, .int .i64 ri, .int .i64 rn] | 17 => Ty.is (.agg #[.int .i64 ra, .int .i64 ri, .int .i64 rn]) | 18 => Ty.is (.agg #[.int .i64 0, .int .i64 0, .int .i64 0]) | 19 => TBoolIf True | 20 => TBoolIf True | 21 => TBoolIf True | 22 => TBoolIf True | 23 => TBoolIf True | _ => Ty.any) (by kernel_rfl) (by first | assumption | kernel_rfl) (by kernel_rfl) (by kernel_rfl) 24 rfl (by kernel_rfl) ?_
      intro v
      refine ⟨?_, ?_, ?_, ?_, ?_, ?_, ?_, ?_, ?_, ?_, ?_, ?_, ?_, ?_, ?_, ?_, ?_, ?_, ?_, ?_, ?_, ?_, ?_, ?_, ?_⟩
      · intro wq hq hd
        refine ob_plain rfl ?_
        exact yld_move (.tmp 7) rfl rfl rfl
      · intro wq hq hd
        obtain ⟨h0, -⟩ := hd
        change v 0 = _ at h0
        refine ob_plain rfl ?_
        exact yld_move (.tmp 23) rfl h0 rfl
      · intro wq hq hd
        obtain ⟨h0, -⟩ := hd
        change v 1 = _ at h0
        refine ob_gv (T := Ty.is (.map (some B))) 1 true rfl (yields_eq rfl rfl) (fun hg => ?_)
        exact yld_move (.tmp 4) rfl rfl rfl
      · intro wq hq hd
        obtain ⟨h0, h1, h2, -⟩ := hd
        change (TGu (v 1 = .bool true) (Ty.is (.map (some B)))).p (v 2) wq at h0
        change v 1 = _ at h1
        refine ob_gv (T := TNum) 1 true rfl (yields_eq rfl rfl) (fun hg => ?_)
        replace h0 := TGu.of h0 hg
        exact yld_lenMap (.tmp 25) 198 Tryz.underlying198 rfl B h0 (Hmap.out.ext hq)
      · intro wq hq hd
        obtain ⟨h0, h1, -⟩ := hd
        change (TGu (v 1 = .bool true) (TNum)).p (v 3) wq at h0
        change v 1 = _ at h1
        refine ob_gv (T := TBoolIf True) 1 true rfl (yields_eq rfl rfl) (fun hg => ?_)
        replace h0 := TGu.of h0 hg
        obtain ⟨z0, hz0⟩ := h0
        exact yld_binInt (c := .bool (z0 == 1)) .eql 3 3 (.tmp 26) _ rfl _ _ hz0 rfl (fun w => by go_simp) ⟨_, rfl, fun _ => trivial⟩
      · intro wq hq hd
        obtain ⟨h0, h1, -⟩ := hd
        change v 1 = _ at h0
        change (TGu (v 1 = .bool true) (TBoolIf True)).p (v 4) wq at h1
        refine ob_plain rfl ?_
        obtain ⟨b0, hb0⟩ : ∃ b0, v 1 = .bool b0 := ⟨z, h0⟩
        cases b0 with
        | false => exact yld_pick (c := .bool false) (.tmp 24) (.tmp 27) _ rfl false hb0 (fun h => by cases h) (fun _ => rfl) ⟨false, rfl, fun _ => trivial⟩
        | true =>
          obtain ⟨c, hc, -⟩ := TGu.of h1 hb0
          exact yld_pick (c := .bool c) (.tmp 24) (.tmp 27) _ rfl true hb0 (fun _ => hc) (fun h => by cases h) ⟨c, rfl, fun _ => trivial⟩
      · intro wq hq hd
        obtain ⟨h0, h1, -⟩ := hd
        change (TBoolIf True).p (v 5) wq at h0
        refine ob_plain rfl ?_
        exact yld_move (.tmp 28) rfl rfl h0
      · intro wq hq hd
        obtain ⟨h0, -⟩ := hd
        change (TBoolIf True).p (v 6) wq at h0
        refine ob_gv (T := Ty.is (.map (some B))) 6 false rfl (yields_eq rfl rfl) (fun hg => ?_)
        exact yld_move (.tmp 4) rfl rfl rfl
      · intro wq hq hd
        obtain ⟨h0, h1, h2, -⟩ := hd
        change (TGu (v 6 = .bool false) (Ty.is (.map (some B)))).p (v 7) wq at h0
        change (TBoolIf True).p (v 6) wq at h1
        refine ob_gv (T := TNum) 6 false rfl (yields_eq rfl rfl) (fun hg => ?_)
        replace h0 := TGu.of h0 hg
        exact yld_lenMap (.tmp 30) 198 Tryz.underlying198 rfl B h0 (Hmap.out.ext hq)
      · intro wq hq hd
        obtain ⟨h0, -⟩ := hd
        change (TBoolIf True).p (v 6) wq at h0
        refine ob_gv (T := Ty.is (.slice A3 L c3)) 6 false rfl (yields_eq rfl rfl) (fun hg => ?_)
        exact yld_move (.tmp 3) rfl rfl rfl
      · intro wq hq hd
        obtain ⟨h0, h1, -⟩ := hd
        change (TGu (v 6 = .bool false) (Ty.is (.slice A3 L c3))).p (v 9) wq at h0
        change (TBoolIf True).p (v 6) wq at h1
        refine ob_gv (T := Ty.is (.int .i64 (L : Nat))) 6 false rfl (yields_eq rfl rfl) (fun hg => ?_)
        replace h0 := TGu.of h0 hg
        exact yld_len (.tmp 32) 90 _ Tryz.underlying90 rfl _ _ _ h0 rfl
      · intro wq hq hd
        obtain ⟨h0, h1, h2, -⟩ := hd
        change (TGu (v 6 = .bool false) (TNum)).p (v 8) wq at h0
        change (TGu (v 6 = .bool false) (Ty.is (.int .i64 (L : Nat)))).p (v 10) wq at h1
        change (TBoolIf True).p (v 6) wq at h2
        refine ob_gv (T := TBoolIf True) 6 false rfl (yields_eq rfl rfl) (fun hg => ?_)
        replace h0 := TGu.of h0 hg
        replace h1 := TGu.of h1 hg
        obtain ⟨z0, hz0⟩ := h0
        exact yld_binInt (c := .bool (z0 == (L : Int))) .eql 3 3 (.tmp 31) (.tmp 33) rfl _ _ hz0 h1 (fun w => by go_simp) ⟨_, rfl, fun _ => trivial⟩
      · intro wq hq hd
        obtain ⟨h0, h1, h2, -⟩ := hd
        change (TGu (v 6 = .bool false) (TBoolIf True)).p (v 11) wq at h0
        change (TBoolIf True).p (v 6) wq at h2
        refine ob_gv (T := TBoolIf True) 6 false rfl (yields_eq rfl rfl) (fun hg => ?_)
        replace h0 := TGu.of h0 hg
        exact yld_move (.tmp 34) rfl rfl h0
      · intro wq hq hd
        obtain ⟨h0, -⟩ := hd
        change (TGu (v 6 = .bool false) (TBoolIf True)).p (v 12) wq at h0
        refine ob_gv (T := TCells [.int .i64 rk]) 12 true rfl (yields_eq rfl rfl) (fun hg => ?_)
        exact yld_field 27 1 (.tmp 1) rfl _ Tryz.underlying27 _ rfl 1 Tryz.sizeOf3 (by decide) [.int .i64 ra, .int .i64 ri, .int .i64 rn, .int .i64 rk, .string rl, .slice hdA hn hc, .slice wA wn wc, .slice kA kn kc] ((Hbx.out _ hq))
      · intro wq hq hd
        obtain ⟨h0, h1, -⟩ := hd
        change (TGu (v 12 = .bool true) (TCells [.int .i64 rk])).p (v 13) wq at h0
        change (TGu (v 6 = .bool false) (TBoolIf True)).p (v 12) wq at h1
        refine ob_gv (T := Ty.is (.int .i64 rk)) 12 true rfl (yields_eq rfl rfl) (fun hg => ?_)
        replace h0 := TGu.of h0 hg
        exact yld_loadOne 3 (.tmp 36) rfl Tryz.isAgg3 (c := .int .i64 rk) h0 rfl
      · intro wq hq hd
        obtain ⟨h0, h1, -⟩ := hd
        change (TGu (v 12 = .bool true) (Ty.is (.int .i64 rk))).p (v 14) wq at h0
        change (TGu (v 6 = .bool false) (TBoolIf True)).p (v 12) wq at h1
        refine ob_gv (T := TBoolIf True) 12 true rfl (yields_eq rfl rfl) (fun hg => ?_)
        replace h0 := TGu.of h0 hg
        exact yld_binInt (c := .bool (rk == 0)) .eql 3 3 (.tmp 37) _ rfl _ _ h0 rfl (fun w => by go_simp) ⟨_, rfl, fun _ => trivial⟩
      · intro wq hq hd
        obtain ⟨h0, -⟩ := hd
        change (TGu (v 6 = .bool false) (TBoolIf True)).p (v 12) wq at h0
        refine ob_gv (T := TCells [.int .i64 ra, .int .i64 ri, .int .i64 rn]) 12 true rfl (yields_eq rfl rfl) (fun hg => ?_)
        exact yld_field 27 0 (.tmp 1) rfl _ Tryz.underlying27 _ rfl 3 Tryz.sizeOf23 (by decide) [.int .i64 ra, .int .i64 ri, .int .i64 rn, .int .i64 rk, .string rl, .slice hdA hn hc, .slice wA wn wc, .slice kA kn kc] ((Hbx.out _ hq))
      · intro wq hq hd
        obtain ⟨h0, h1, -⟩ := hd
        change (TGu (v 12 = .bool true) (TCells [.int .i64 ra, .int .i64 ri, .int .i64 rn])).p (v 16) wq at h0
        change (TGu (v 6 = .bool false) (TBoolIf True)).p (v 12) wq at h1
        refine ob_gv (T := Ty.is (.agg #[.int .i64 ra, .int .i64 ri, .int .i64 rn])) 12 true rfl (yields_eq rfl rfl) (fun hg => ?_)
        replace h0 := TGu.of h0 hg
        exact yld_loadAgg 23 (.tmp 39) rfl Tryz.isAgg23 3 Tryz.sizeOf23 [.int .i64 ra, .int .i64 ri, .int .i64 rn] rfl h0 rfl
      · intro wq hq hd
        obtain ⟨h0, -⟩ := hd
        change (TGu (v 6 = .bool false) (TBoolIf True)).p (v 12) wq at h0
        refine ob_gv (T := Ty.is (.agg #[.int .i64 0, .int .i64 0, .int .i64 0])) 12 true rfl (yields_eq rfl rfl) (fun hg => ?_)
        exact yld_build 23 [] rfl [] trivial (fun w => by go_simp) rfl
      · intro wq hq hd
        obtain ⟨h0, h1, h2, -⟩ := hd
        change (TGu (v 12 = .bool true) (Ty.is (.agg #[.int .i64 ra, .int .i64 ri, .int .i64 rn]))).p (v 17) wq at h0
        change (TGu (v 12 = .bool true) (Ty.is (.agg #[.int .i64 0, .int .i64 0, .int .i64 0]))).p (v 18) wq at h1
        change (TGu (v 6 = .bool false) (TBoolIf True)).p (v 12) wq at h2
        refine ob_gv (T := TBoolIf True) 12 true rfl (yields_eq rfl rfl) (fun hg => ?_)
        replace h0 := TGu.of h0 hg
        replace h1 := TGu.of h1 hg
        exact yld_binAgg .eql 23 23 (.tmp 40) (.tmp 41) rfl _ _ h0 h1 (by kernel_rfl) (fun w => idEql w _ _ _ _ _ _) ⟨_, rfl, fun _ => trivial⟩
      · intro wq hq hd
        obtain ⟨h0, h1, h2, -⟩ := hd
        change (TGu (v 12 = .bool true) (TBoolIf True)).p (v 15) wq at h0
        change (TGu (v 12 = .bool true) (TBoolIf True)).p (v 19) wq at h1
        change (TGu (v 6 = .bool false) (TBoolIf True)).p (v 12) wq at h2
        refine ob_gv (T := TBoolIf True) 12 true rfl (yields_eq rfl rfl) (fun hg => ?_)
        replace h0 := TGu.of h0 hg
        replace h1 := TGu.of h1 hg
        obtain ⟨z0, hz0, -⟩ := h0
        obtain ⟨z1, hz1, -⟩ := h1
        exact yld_binBool 4 4 (.tmp 38) (.tmp 42) rfl _ _ hz0 hz1 ⟨_, rfl, fun _ => trivial⟩
      · intro wq hq hd
        obtain ⟨h0, h1, h2, -⟩ := hd
        change (TGu (v 6 = .bool false) (TBoolIf True)).p (v 12) wq at h0
        change (TGu (v 12 = .bool true) (TBoolIf True)).p (v 20) wq at h1
        change (TBoolIf True).p (v 6) wq at h2
        refine ob_gv (T := TBoolIf True) 6 false rfl (yields_eq rfl rfl) (fun hg => ?_)
        replace h0 := TGu.of h0 hg
        obtain ⟨b0, hb0⟩ : ∃ b0, v 12 = .bool b0 := (by obtain ⟨b0, hb0, -⟩ := h0; exact ⟨b0, hb0⟩)
        cases b0 with
        | false => exact yld_pick (c := .bool false) (.tmp 35) (.tmp 43) _ rfl false hb0 (fun h => by cases h) (fun _ => rfl) ⟨false, rfl, fun _ => trivial⟩
        | true =>
          obtain ⟨c, hc, -⟩ := TGu.of h1 hb0
          exact yld_pick (c := .bool c) (.tmp 35) (.tmp 43) _ rfl true hb0 (fun _ => hc) (fun h => by cases h) ⟨c, rfl, fun _ => trivial⟩
      · intro wq hq hd
        obtain ⟨h0, h1, -⟩ := hd
        change (TBoolIf True).p (v 6) wq at h0
        change (TGu (v 6 = .bool false) (TBoolIf True)).p (v 21) wq at h1
        refine ob_plain rfl ?_
        obtain ⟨b0, hb0⟩ : ∃ b0, v 6 = .bool b0 := (by obtain ⟨b0, hb0, -⟩ := h0; exact ⟨b0, hb0⟩)
        cases b0 with
        | true => exact yld_pick (c := .bool true) (.tmp 29) _ (.tmp 44) rfl true hb0 (fun _ => rfl) (fun h => by cases h) ⟨true, rfl, fun _ => trivial⟩
        | false =>
          obtain ⟨c, hc, -⟩ := TGu.of h1 hb0
          exact yld_pick (c := .bool c) (.tmp 29) _ (.tmp 44) rfl false hb0 (fun h => by cases h) (fun _ => hc) ⟨c, rfl, fun _ => trivial⟩
      · intro wq hq hd
        obtain ⟨h0, h1, h2, h3, h4, h5, h6, h7, h8, h9, h10, h11, h12, h13, h14, h15, h16, h17, h18, h19, h20, h21, h22, h23, h24, -⟩ := hd
        change (TBoolIf True).p (v 22) wq at h0
        refine ob_plain rfl ?_
        exact yld_assign (.tmp 45) rfl rfl h0
      · intro wq hq hT
        have k23 := hT 23 (by decide)
        change (TBoolIf True).p (v 23) wq at k23
        clear hT
        simp only [List.drop_succ_cons, List.drop_zero, putE, setsE, List.set_cons_succ, List.set_cons_zero, Nat.reduceAdd]
        generalize v 23 = x23 at k23 ⊢
        obtain ⟨c, rfl, -⟩ := k23
        go_wp2
        go_ret
        exact ⟨_, rfl, (Hx1.out.trans HX.out).trans hq⟩
end Go.Proofs.YtjhdamjbljafhaaGreatDoor
