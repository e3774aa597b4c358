/- Same on trees: a tree is the same as itself, wherever the two lie. -/
import Derived.Test.YthjlnpcanccmkaaTreeLaws
import Derived.Test.YthjlnpcanccmkaaCmp9
namespace Go.Proofs.Ythjlnpcanccmkaa
open Go.RowKit

@[go_sem] theorem eqId (a b c a' b' c' : Int) (w : World) : (Op.equalIn 9999 23 (.agg #[.int .i64 a, .int .i64 b, .int .i64 c]) (.agg #[.int .i64 a', .int .i64 b', .int .i64 c'])).run Try.prog w = .ok (decide (a = a' ∧ b = b' ∧ c = c')) w := by
  have u3 := Try.underlying3
  have hS : Try.prog.underlying 23 = some (.struct (Try.prog.fieldsOf 23)) := by kernel_rfl
  rw [show (9999 : Nat) = 9998 + 1 from rfl, run_equalIn_agg w 9998 23 _ _ hS (by kernel_rfl)]
  simp only [Program.fieldsOf, Try.underlying23]
  go_simp
  by_cases h1 : a = a' <;> by_cases h2 : b = b' <;> by_cases h3 : c = c' <;> simp [h1, h2, h3]
@[go_sem] theorem eqId0 (a b c a' b' c' : Int) (w : World) : (Op.equalIn 10000 23 (.agg #[.int .i64 a, .int .i64 b, .int .i64 c]) (.agg #[.int .i64 a', .int .i64 b', .int .i64 c'])).run Try.prog w = .ok (decide (a = a' ∧ b = b' ∧ c = c')) w := by
  have u3 := Try.underlying3
  have hS : Try.prog.underlying 23 = some (.struct (Try.prog.fieldsOf 23)) := by kernel_rfl
  rw [show (10000 : Nat) = 9999 + 1 from rfl, run_equalIn_agg w 9999 23 _ _ hS (by kernel_rfl)]
  simp only [Program.fieldsOf, Try.underlying23]
  go_simp
  by_cases h1 : a = a' <;> by_cases h2 : b = b' <;> by_cases h3 : c = c' <;> simp [h1, h2, h3]
set_option maxRecDepth 100000 in
set_option maxHeartbeats 3200000 in
theorem same9_eq : ∀ (N : Nat) (u : GUnit) (r r' : RUnit) (w : World), SizeOf.sizeOf u ≤ N → Reads w u r → Reads w u r' → AllU (lensLe 9223372036854775807 9223372036854775807) u →
    Calls Try.prog 27 #[.agg r.cells.toArray, .agg r'.cells.toArray] w fun e w' => e = .returned (.bool true) ∧ Ext w w'
  | 0, .mk _ _ _ _ _ _ _ _, _, _, _, h, _, _, _ => by simp at h
  | N + 1, .mk a i n kd lb hl wl kids, r, r', w, hN, hr, hr', hA => by
    rw [Reads] at hr hr'
    rw [AllU] at hA
    obtain ⟨⟨hl1, hl2, hl3⟩, hA⟩ := hA
    obtain ⟨⟨ha1, ha2, ha3, ha4, ha5⟩, ⟨hhn, hhc, hhs⟩, ⟨hwn, hwc, hws⟩, hkn, hkc, us, hus, hall⟩ := hr
    obtain ⟨⟨hb1, hb2, hb3, hb4, hb5⟩, ⟨hhn', hhc', hhs'⟩, ⟨hwn', hwc', hws'⟩, hkn', hkc', vs, hvs, hall'⟩ := hr'
    have hbx := fun w' he => boxT (w' := w') r (w := w) he
    have hby := fun w' he => boxT (w' := w') r' (w := w.alloc (.cells r.cells.toArray 27)) he
    obtain ⟨ra, ri, rn, rk, rl, hdA, hn, hc, wA, wn, wc, kA, kn, kc⟩ := r
    obtain ⟨ra', ri', rn', rk', rl', hdB, hn', hb, wB, wn', wd, kB, kn', kd⟩ := r'
    dsimp only at ha1 ha2 ha3 ha4 ha5 hb1 hb2 hb3 hb4 hb5 hkn hkc hus hall hhn hhc hhs hwn hwc hws hkn' hkc' hvs hall' hhn' hhc' hhs' hwn' hwc' hws'
    simp only [RUnit.cells] at hbx hby ⊢
    subst hkn hhn hwn hkn' hhn' hwn'
    have e1 := ha1.trans hb1.symm
    have e2 := ha2.trans hb2.symm
    have e3 := ha3.trans hb3.symm
    have e4 := ha4.trans hb4.symm
    have e5 := ha5.trans hb5.symm
    subst e1 e2 e3 e4 e5
    subst ha1 ha2 ha3 ha4 ha5
    clear hb1 hb2 hb3 hb4 hb5
    have hul := (ReadsAll.length hall).symm
    have hvl := (ReadsAll.length hall').symm
    have Hall := Lib.hid hall
    have Hall' := Lib.hid hall'
    have HA := Lib.hid hA
    have HN := Lib.hid hN
    have Hul := Lib.hid hul
    have Hvl := Lib.hid hvl
    clear hall hall' hA hul hvl hN
    obtain ⟨wb, hwb⟩ : ∃ wb, (w.alloc (.cells #[.int .i64 ra, .int .i64 ri, .int .i64 rn, .int .i64 rk, .string rl, .slice hdA hl.length hc, .slice wA wl.length wc, .slice kA kids.length kc] 27)).alloc (.cells #[.int .i64 ra, .int .i64 ri, .int .i64 rn, .int .i64 rk, .string rl, .slice hdB hl.length hb, .slice wB wl.length wd, .slice kB kids.length kd] 27) = wb := ⟨_, rfl⟩
    have he1 : Ext w wb := by rw [← hwb]; exact ((Ext.refl w).alloc _).alloc _
    have Hba := Lib.hid (show ∀ w', Ext wb w' → _ from fun w' he => hbx w' (((Ext.refl _).alloc _).trans (hwb ▸ he)))
    have hbz : (w.alloc (.cells #[.int .i64 ra, .int .i64 ri, .int .i64 rn, .int .i64 rk, .string rl, .slice hdA hl.length hc, .slice wA wl.length wc, .slice kA kids.length kc] 27)).heap.size = w.heap.size + 1 := by simp
    rw [hbz] at hby
    have Hbb := Lib.hid (show ∀ w', Ext wb w' → _ from fun w' he => hby w' (hwb ▸ he))
    clear hbz
    clear hbx hby
    have HwB := Lib.hid hwb
    clear hwb
    have Hr1 := Lib.hid (show ∀ w', Ext wb w' → _ from fun w' he => words9_eq hdA hdB hc hb hl w' (hhs.ext (he1.trans he)) (hhs'.ext (he1.trans he)) hl1)
    have Hr2 := Lib.hid (show ∀ w', Ext wb w' → _ from fun w' he => words9_eq wA wB wc wd wl w' (hws.ext (he1.trans he)) (hws'.ext (he1.trans he)) hl2)
    clear hhs hhs' hws hws'
    go_enter Try.func27, Try.ntmps27
    go_wp2_with fail
    rw [HwB.out]
    refine (Hr1.out wb (Ext.refl _)).mono ?_
    rintro e w1 ⟨rfl, hx1⟩
    have t1 := TCells.cell (Hba.out w1 hx1) 6 _ rfl
    have t2 := TCells.cell (Hba.out w1 hx1) 7 _ rfl
    have t3 := TCells.cell (Hbb.out w1 hx1) 6 _ rfl
    have t4 := TCells.cell (Hbb.out w1 hx1) 7 _ rfl
    rw [Nat.zero_add] at t1 t2 t3 t4
    clear HwB
    go_wp2_with fail
    refine (Hr2.out w1 hx1).mono ?_
    rintro e w2 ⟨rfl, hx2⟩
    have hx : Ext wb w2 := hx1.trans hx2
    have t1' := TCells.cell (Hba.out w2 hx) 7 _ rfl
    have t2' := TCells.cell (Hbb.out w2 hx) 7 _ rfl
    rw [Nat.zero_add] at t1' t2'
    clear t1 t2 t3 t4 Hr1 Hr2 hx1 hx2
    go_wp2
    clear t1' t2'
    go_loopw [5] (fun i wr => ∃ (k : Nat), k ≤ kids.length ∧ i = .int .i64 k ∧ Ext wb wr) (fun i _ => kids.length - (intOf i).toNat)
    case atStart => exact ⟨0, Nat.zero_le _, rfl, hx⟩
    case round =>
      obtain ⟨k, hk, rfl, hext⟩ := hrel
      have hcell := TCells.cell (Hba.out wr hext) 7 _ rfl
      rw [Nat.zero_add] at hcell
      by_cases hlt : k < kids.length
      · have d1 : decide ((k : Int) < (kids.length : Int)) = true := decide_eq_true (by omega)
        have hltr : k < us.length := by rw [← Hul.out]; exact hlt
        have hlts : k < vs.length := by rw [← Hvl.out]; exact hlt
        have husr := (hus.ext he1).ext hext
        have hvsr := (hvs.ext he1).ext hext
        obtain ⟨q, hq⟩ : ∃ q, us[k]? = some q := ⟨_, List.getElem?_eq_getElem hltr⟩
        obtain ⟨q', hq'⟩ : ∃ q', vs[k]? = some q' := ⟨_, List.getElem?_eq_getElem hlts⟩
        have hqk : us[k] = q := (List.getElem?_eq_some_iff.1 hq).2
        have hqk' : vs[k] = q' := (List.getElem?_eq_some_iff.1 hq').2
        have Hq := Lib.hid hq
        have Hq' := Lib.hid hq'
        have hsub : SizeOf.sizeOf kids[k] ≤ N := by
          have a1 := List.sizeOf_lt_of_mem (List.getElem_mem hlt)
          have a2 := HN.out
          simp at a2
          omega
        have Hrec := Lib.hid (show ∀ wq, Ext wr wq → _ from fun wq he => same9_eq N kids[k] q q' wq hsub (Reads.ext ((he1.trans hext).trans he) _ _ (hqk ▸ ReadsAll.get Hall.out k hlt hltr)) (Reads.ext ((he1.trans hext).trans he) _ _ (hqk' ▸ ReadsAll.get Hall'.out k hlt hlts)) (HA.out.get k hlt))
        clear hq hqk hq' hqk' hsub
        go_wp2
        refine wp_drawn (by kernel_rfl) (fun i => match i with | 0 => TCells [.slice kA kids.length kc] | 1 => Ty.is (.slice kA kids.length kc) | 2 => Ty.is (.int .i64 k) | 3 => TCells [.int .i64 q.a, .int .i64 q.i, .int .i64 q.n, .int .i64 q.kind, .string q.label, .slice q.hA q.hn q.hc, .slice q.wA q.wn q.wc, .slice q.kA q.kn q.kc] | 4 => Ty.is (.agg #[.int .i64 q.a, .int .i64 q.i, .int .i64 q.n, .int .i64 q.kind, .string q.label, .slice q.hA q.hn q.hc, .slice q.wA q.wn q.wc, .slice q.kA q.kn q.kc]) | 5 => TCells [.slice kB kids.length kd] | 6 => Ty.is (.slice kB kids.length kd) | 7 => Ty.is (.int .i64 k) | 8 => TCells [.int .i64 q'.a, .int .i64 q'.i, .int .i64 q'.n, .int .i64 q'.kind, .string q'.label, .slice q'.hA q'.hn q'.hc, .slice q'.wA q'.wn q'.wc, .slice q'.kA q'.kn q'.kc] | 9 => Ty.is (.agg #[.int .i64 q'.a, .int .i64 q'.i, .int .i64 q'.n, .int .i64 q'.kind, .string q'.label, .slice q'.hA q'.hn q'.hc, .slice q'.wA q'.wn q'.wc, .slice q'.kA q'.kn q'.kc]) | 10 => Ty.is (.bool true) | 11 => Ty.is (.bool (!(true))) | _ => Ty.any) (by kernel_rfl) rfl ?_
        intro v
        refine ⟨?_, ?_, ?_, ?_, ?_, ?_, ?_, ?_, ?_, ?_, ?_, ?_, ?_⟩
        · intro wq hq hd
          refine ob_plain rfl ?_
          exact yld_field 27 5 (.tmp 2) rfl _ Try.underlying27 _ rfl 1 Try.sizeOf25 (by decide) [.int .i64 ra, .int .i64 ri, .int .i64 rn, .int .i64 rk, .string rl, .slice hdA hl.length hc, .slice wA wl.length wc, .slice kA kids.length kc] (Hba.out _ (hext.trans hq))
        · intro wq hq hd
          obtain ⟨h0, -⟩ := hd
          change (TCells [.slice kA kids.length kc]).p (v 0) wq at h0
          refine ob_plain rfl ?_
          exact yld_loadOne 25 (.tmp 57) rfl Try.isAgg25 (c := .slice kA kids.length kc) h0 rfl
        · intro wq hq hd
          refine ob_plain rfl ?_
          exact yld_move (.tmp 5) rfl rfl rfl
        · intro wq hq hd
          obtain ⟨h0, h1, -⟩ := hd
          change v 1 = _ at h0
          change v 2 = _ at h1
          refine ob_plain rfl ?_
          exact yld_indexAt unitEl (.tmp 58) (.tmp 59) rfl kA us _ (by rw [← Hul.out]; exact h0) k h1 (husr.ext hq) q Hq.out
        · intro wq hq hd
          obtain ⟨h0, -⟩ := hd
          change (TCells [.int .i64 q.a, .int .i64 q.i, .int .i64 q.n, .int .i64 q.kind, .string q.label, .slice q.hA q.hn q.hc, .slice q.wA q.wn q.wc, .slice q.kA q.kn q.kc]).p (v 3) wq at h0
          refine ob_plain rfl ?_
          exact yld_loadAgg 27 (.tmp 60) rfl Try.isAgg27 8 Try.sizeOf27 [.int .i64 q.a, .int .i64 q.i, .int .i64 q.n, .int .i64 q.kind, .string q.label, .slice q.hA q.hn q.hc, .slice q.wA q.wn q.wc, .slice q.kA q.kn q.kc] rfl h0 rfl
        · intro wq hq hd
          refine ob_plain rfl ?_
          exact yld_field 27 5 (.tmp 3) rfl _ Try.underlying27 _ rfl 1 Try.sizeOf25 (by decide) [.int .i64 ra, .int .i64 ri, .int .i64 rn, .int .i64 rk, .string rl, .slice hdB hl.length hb, .slice wB wl.length wd, .slice kB kids.length kd] (Hbb.out _ (hext.trans hq))
        · intro wq hq hd
          obtain ⟨h0, -⟩ := hd
          change (TCells [.slice kB kids.length kd]).p (v 5) wq at h0
          refine ob_plain rfl ?_
          exact yld_loadOne 25 (.tmp 62) rfl Try.isAgg25 (c := .slice kB kids.length kd) h0 rfl
        · intro wq hq hd
          refine ob_plain rfl ?_
          exact yld_move (.tmp 5) rfl rfl rfl
        · intro wq hq hd
          obtain ⟨h0, h1, -⟩ := hd
          change v 6 = _ at h0
          change v 7 = _ at h1
          refine ob_plain rfl ?_
          exact yld_indexAt unitEl (.tmp 63) (.tmp 64) rfl kB vs _ (by rw [← Hvl.out]; exact h0) k h1 (hvsr.ext hq) q' Hq'.out
        · intro wq hq hd
          obtain ⟨h0, -⟩ := hd
          change (TCells [.int .i64 q'.a, .int .i64 q'.i, .int .i64 q'.n, .int .i64 q'.kind, .string q'.label, .slice q'.hA q'.hn q'.hc, .slice q'.wA q'.wn q'.wc, .slice q'.kA q'.kn q'.kc]).p (v 8) wq at h0
          refine ob_plain rfl ?_
          exact yld_loadAgg 27 (.tmp 65) rfl Try.isAgg27 8 Try.sizeOf27 [.int .i64 q'.a, .int .i64 q'.i, .int .i64 q'.n, .int .i64 q'.kind, .string q'.label, .slice q'.hA q'.hn q'.hc, .slice q'.wA q'.wn q'.wc, .slice q'.kA q'.kn q'.kc] rfl h0 rfl
        · intro wq hq hd
          obtain ⟨h0, h1, -⟩ := hd
          change v 4 = _ at h0
          change v 9 = _ at h1
          refine ob_plain rfl ?_
          refine yld_call 27 Try.call27 _ _ rfl rfl [_, _] ⟨h0, h1, trivial⟩ ?_
          refine (Hrec.out _ hq).mono ?_
          rintro e w' ⟨rfl, hext'⟩
          exact ⟨_, rfl, hext', rfl⟩
        · intro wq hq hd
          obtain ⟨h0, -⟩ := hd
          change v 10 = _ at h0
          refine ob_plain rfl ?_
          exact yld_not (.tmp 67) 4 rfl _ h0 rfl
        · intro wq hq hT
          have k11 := hT 11 (by decide)
          change v 11 = _ at k11
          clear hT
          simp only [List.drop_succ_cons, List.drop_zero, putE, setsE, List.set_cons_succ, List.set_cons_zero, Nat.reduceAdd]
          rw [k11]
          go_wp2
          go_roundw
          case rel => exact ⟨k + 1, by omega, by go_num, hext.trans hq⟩
          case measure => simp [intOf]; omega
      · have d1 : decide ((k : Int) < (kids.length : Int)) = false := decide_eq_false (by omega)
        go_wp2
        go_ret
        exact ⟨rfl, he1.trans hext⟩

end Go.Proofs.Ythjlnpcanccmkaa
