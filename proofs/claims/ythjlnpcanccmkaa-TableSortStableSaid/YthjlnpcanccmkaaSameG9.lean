/- Same of any two trees: an answer that hangs on the trees alone. -/
import Derived.Test.YthjlnpcanccmkaaSame9
namespace Go.Proofs.Ythjlnpcanccmkaa
open Go.RowKit

mutual
def sameG : GUnit → GUnit → Bool
  | .mk a i n k l h w ks, .mk a' i' n' k' l' h' w' ks' => (decide (a = a' ∧ i = i' ∧ n = n') && (decide (k = k') && (decide (l = l') && (decide (h = h') && decide (w = w'))))) && (decide (ks.length = ks'.length) && sameL ks ks')
def sameL : List GUnit → List GUnit → Bool
  | u :: us, v :: vs => sameG u v && sameL us vs
  | [], _ => true
  | _ :: _, [] => true
end
theorem sameL_all : ∀ {us vs : List GUnit}, us.length = vs.length → (∀ k (h : k < us.length) (h' : k < vs.length), sameG us[k] vs[k] = true) → sameL us vs = true
  | [], _, _, _ => by simp [sameL]
  | _ :: _, [], h, _ => by simp at h
  | u :: us, v :: vs, h, hk => by
    rw [sameL, show sameG u v = true from hk 0 (by simp) (by simp), Bool.true_and]
    exact sameL_all (by simpa using h) fun k h1 h2 => hk (k + 1) (by simpa using h1) (by simpa using h2)
theorem sameL_not : ∀ {us vs : List GUnit} {k : Nat} (h : k < us.length) (h' : k < vs.length), sameG us[k] vs[k] = false → sameL us vs = false
  | [], _, _, h, _, _ => by simp at h
  | _ :: _, [], _, _, h', _ => by simp at h'
  | u :: us, v :: vs, 0, _, _, hk => by
    rw [sameL, show sameG u v = false from hk, Bool.false_and]
  | u :: us, v :: vs, k + 1, h, h', hk => by
    rw [sameL, sameL_not (k := k) (by simpa using h) (by simpa using h') hk, Bool.and_false]

theorem words9_ext (A B : Option Addr) (c d : Nat) (xs ys : List GWord) (w : World) (hx : Sl wordEl w A xs) (hy : Sl wordEl w B ys) (hn : xs.length ≤ 9223372036854775807) :
    Calls Try.prog 25 #[.slice A xs.length c, .slice B ys.length d] w fun e w' => e = .returned (.bool (decide (xs = ys))) ∧ Ext w w' :=
  (words9_any A B c d xs ys w hx hy hn).mono fun e w' ⟨h1, m, h2⟩ => ⟨h1, h2 ▸ (Ext.refl w).drewN m⟩
theorem bne_str {a b : ByteArray} (h : a ≠ b) : (a.toList == b.toList) = false := by
  rw [beq_eq_false_iff_ne, ByteArray.toList_eq, ByteArray.toList_eq]
  exact fun e => h (ByteArray.ext (Array.ext' e))
theorem upto_succ {kids kids' : List GUnit} {k : Nat} (h : ∀ m (h : m < kids.length) (h' : m < kids'.length), m < k → sameG kids[m] kids'[m] = true) {h1 : k < kids.length} {h2 : k < kids'.length} (hk : sameG kids[k] kids'[k] = true) : ∀ m (h : m < kids.length) (h' : m < kids'.length), m < k + 1 → sameG kids[m] kids'[m] = true := fun m a b hm => by
  rcases Nat.lt_or_ge m k with h3 | h3
  · exact h m a b h3
  · have e : m = k := by omega
    subst e
    exact hk
theorem bne_nat {a b : Nat} (h : a ≠ b) : ((a : Int) != (b : Int)) = true := by simp; omega

set_option maxRecDepth 100000 in
set_option maxHeartbeats 6400000 in
theorem same9_any : ∀ (N : Nat) (u v : GUnit) (r r' : RUnit) (w : World), SizeOf.sizeOf u ≤ N → Reads w u r → Reads w v r' → AllU (lensLe 9223372036854775807 9223372036854775807) u → AllU (lensLe 9223372036854775807 9223372036854775807) v →
    Calls Try.prog 27 #[.agg r.cells.toArray, .agg r'.cells.toArray] w fun e w' => e = .returned (.bool (sameG u v)) ∧ Ext w w'
  | 0, .mk _ _ _ _ _ _ _ _, _, _, _, _, h, _, _, _, _ => by simp at h
  | N + 1, .mk ra ri rn rk rl hl wl kids, .mk ra' ri' rn' rk' rl' hl' wl' kids', r, r', w, hN, hr, hr', hA, hA' => by
    rw [Reads] at hr hr'
    rw [AllU] at hA hA'
    obtain ⟨⟨hl1, hl2, hl3⟩, hA⟩ := hA
    obtain ⟨⟨hl1', hl2', hl3'⟩, hA'⟩ := hA'
    obtain ⟨⟨ha1, ha2, ha3, ha4, ha5⟩, ⟨hhn, hhc, hhs⟩, ⟨hwn, hwc, hws⟩, hkn, hkc, us, hus, hall⟩ := hr
    obtain ⟨⟨hb1, hb2, hb3, hb4, hb5⟩, ⟨hhn', hhc', hhs'⟩, ⟨hwn', hwc', hws'⟩, hkn', hkc', vs, hvs, hall'⟩ := hr'
    have hbx := fun w' he => boxT (w' := w') r (w := w) he
    have hby := fun w' he => boxT (w' := w') r' (w := w.alloc (.cells r.cells.toArray 27)) he
    obtain ⟨_, _, _, _, _, hdA, hn, hc, wA, wn, wc, kA, kn, kc⟩ := r
    obtain ⟨_, _, _, _, _, hdB, hn', hb, wB, wn', wd, kB, kn', kd⟩ := r'
    dsimp only at ha1 ha2 ha3 ha4 ha5 hb1 hb2 hb3 hb4 hb5 hkn hkc hus hall hhn hhc hhs hwn hwc hws hkn' hkc' hvs hall' hhn' hhc' hhs' hwn' hwc' hws'
    subst hkn hhn hwn hkn' hhn' hwn' ha1 ha2 ha3 ha4 ha5 hb1 hb2 hb3 hb4 hb5
    simp only [RUnit.cells] at hbx hby ⊢
    have hul := (ReadsAll.length hall).symm
    have hvl := (ReadsAll.length hall').symm
    have Hall := Lib.hid hall
    have Hall' := Lib.hid hall'
    have HA := Lib.hid hA
    have HA' := Lib.hid hA'
    have HN := Lib.hid hN
    have Hul := Lib.hid hul
    have Hvl := Lib.hid hvl
    clear hall hall' hA hA' hul hvl hN
    rename_i ra ri rn rk rl ra' ri' rn' rk' rl'
    obtain ⟨wb, hwb⟩ : ∃ wb, (w.alloc (.cells #[.int .i64 ra, .int .i64 ri, .int .i64 rn, .int .i64 rk, .string rl, .slice hdA hl.length hc, .slice wA wl.length wc, .slice kA kids.length kc] 27)).alloc (.cells #[.int .i64 ra', .int .i64 ri', .int .i64 rn', .int .i64 rk', .string rl', .slice hdB hl'.length hb, .slice wB wl'.length wd, .slice kB kids'.length kd] 27) = wb := ⟨_, rfl⟩
    have he1 : Ext w wb := by rw [← hwb]; exact ((Ext.refl w).alloc _).alloc _
    have Hba := Lib.hid (show ∀ w', Ext wb w' → _ from fun w' he => hbx w' (((Ext.refl _).alloc _).trans (hwb ▸ he)))
    have hbz : (w.alloc (.cells #[.int .i64 ra, .int .i64 ri, .int .i64 rn, .int .i64 rk, .string rl, .slice hdA hl.length hc, .slice wA wl.length wc, .slice kA kids.length kc] 27)).heap.size = w.heap.size + 1 := by simp
    rw [hbz] at hby
    have Hbb := Lib.hid (show ∀ w', Ext wb w' → _ from fun w' he => hby w' (hwb ▸ he))
    clear hbz hbx hby
    have HwB := Lib.hid hwb
    clear hwb
    have hr1 := (show ∀ w', Ext wb w' → _ from fun w' he => words9_ext hdA hdB hc hb hl hl' w' (hhs.ext (he1.trans he)) (hhs'.ext (he1.trans he)) hl1)
    have hr2 := (show ∀ w', Ext wb w' → _ from fun w' he => words9_ext wA wB wc wd wl wl' w' (hws.ext (he1.trans he)) (hws'.ext (he1.trans he)) hl2)
    clear hhs hhs' hws hws'
    by_cases c11 : ra = ra'
    · subst c11
      by_cases c12 : ri = ri'
      · subst c12
        by_cases c13 : rn = rn'
        · subst c13
          by_cases c2 : rk = rk'
          · subst c2
            by_cases c3 : rl = rl'
            · subst c3
              by_cases c4 : hl = hl'
              · subst c4
                by_cases c5 : wl = wl'
                · subst c5
                  by_cases c6 : kids.length = kids'.length
                  · skip
                    have ec : sameG (.mk ra ri rn rk rl hl wl kids) (.mk ra ri rn rk rl hl wl kids') = sameL kids kids' := by simp [sameG, c6]
                    rw [ec]
                    have C6 := Lib.hid c6
                    have Hall6 := Lib.hid (show (∀ k (h : k < kids.length) (h' : k < kids'.length), sameG kids[k] kids'[k] = true) → sameL kids kids' = true from sameL_all c6)
                    have Hnot6 := Lib.hid (show ∀ k (h : k < kids.length) (h' : k < kids'.length), sameG kids[k] kids'[k] = false → sameL kids kids' = false from fun k h h' hk => sameL_not h h' hk)
                    have hne : ((kids.length : Int) != (kids'.length : Int)) = false := by simp [c6]
                    obtain ⟨RB, hRB⟩ : ∃ RB, sameL kids kids' = RB := ⟨_, rfl⟩
                    rw [hRB] at Hall6 Hnot6 ⊢
                    rw [decide_eq_true rfl] at hr1 hr2
                    clear ec c6 hRB
                    have Hr1 := Lib.hid hr1
                    have Hr2 := Lib.hid hr2
                    clear hr1 hr2
                    go_enter Try.func27, Try.ntmps27
                    go_wp2_with fail
                    rw [HwB.out]
                    refine (Hr1.out wb (Ext.refl _)).mono ?_
                    rintro e w1 ⟨rfl, hx1⟩
                    have t1 := TCells.cell (Hba.out w1 hx1) 6 _ rfl
                    have t2 := TCells.cell (Hba.out w1 hx1) 7 _ rfl
                    have t3 := TCells.cell (Hbb.out w1 hx1) 6 _ rfl
                    have t4 := TCells.cell (Hbb.out w1 hx1) 7 _ rfl
                    rw [Nat.zero_add] at t1 t2 t3 t4
                    clear HwB
                    go_wp2_with fail
                    refine (Hr2.out w1 hx1).mono ?_
                    rintro e w2 ⟨rfl, hx2⟩
                    have hx : Ext wb w2 := hx1.trans hx2
                    have t1' := TCells.cell (Hba.out w2 hx) 7 _ rfl
                    have t2' := TCells.cell (Hbb.out w2 hx) 7 _ rfl
                    rw [Nat.zero_add] at t1' t2'
                    clear t1 t2 t3 t4 Hr1 Hr2 hx1 hx2
                    go_wp2
                    clear t1' t2'
                    go_loopw [5] (fun i wr => ∃ (k : Nat), k ≤ kids.length ∧ i = .int .i64 k ∧ Hid (∀ m (h : m < kids.length) (h' : m < kids'.length), m < k → sameG kids[m] kids'[m] = true) ∧ Ext wb wr) (fun i _ => kids.length - (intOf i).toNat)
                    case atStart => exact ⟨0, Nat.zero_le _, rfl, Lib.hid (fun m _ _ h => by omega), hx⟩
                    case round =>
                      obtain ⟨k, hk, rfl, Hk, hext⟩ := hrel
                      have hcell := TCells.cell (Hba.out wr hext) 7 _ rfl
                      rw [Nat.zero_add] at hcell
                      by_cases hlt : k < kids.length
                      · have d1 : decide ((k : Int) < (kids.length : Int)) = true := decide_eq_true (by omega)
                        have hlt' : k < kids'.length := by rw [← C6.out]; exact hlt
                        have hltr : k < us.length := by rw [← Hul.out]; exact hlt
                        have hlts : k < vs.length := by rw [← Hvl.out]; exact hlt'
                        have husr := (hus.ext he1).ext hext
                        have hvsr := (hvs.ext he1).ext hext
                        obtain ⟨q, hq⟩ : ∃ q, us[k]? = some q := ⟨_, List.getElem?_eq_getElem hltr⟩
                        obtain ⟨q', hq'⟩ : ∃ q', vs[k]? = some q' := ⟨_, List.getElem?_eq_getElem hlts⟩
                        have hqk : us[k] = q := (List.getElem?_eq_some_iff.1 hq).2
                        have hqk' : vs[k] = q' := (List.getElem?_eq_some_iff.1 hq').2
                        have Hq := Lib.hid hq
                        have Hq' := Lib.hid hq'
                        have hsub : SizeOf.sizeOf kids[k] ≤ N := by
                          have a1 := List.sizeOf_lt_of_mem (List.getElem_mem hlt)
                          have a2 := HN.out
                          simp at a2
                          omega
                        have Hrec := Lib.hid (show ∀ wq, Ext wr wq → _ from fun wq he => same9_any N kids[k] kids'[k] q q' wq hsub (Reads.ext ((he1.trans hext).trans he) _ _ (hqk ▸ ReadsAll.get Hall.out k hlt hltr)) (Reads.ext ((he1.trans hext).trans he) _ _ (hqk' ▸ ReadsAll.get Hall'.out k hlt' hlts)) (HA.out.get k hlt) (HA'.out.get k hlt'))
                        obtain ⟨bb, hbb⟩ : ∃ bb, sameG kids[k] kids'[k] = bb := ⟨_, rfl⟩
                        have Hbb2 := Lib.hid hbb
                        have Hn6 := Lib.hid (Hnot6.out k hlt hlt')
                        rw [hbb] at Hn6
                        clear hq hqk hq' hqk' hsub hbb
                        cases bb
                        case true =>
                          go_wp2_with fail
                          refine wp_drawn (by kernel_rfl) (fun i => match i with | 0 => TCells [.slice kA kids.length kc] | 1 => Ty.is (.slice kA kids.length kc) | 2 => Ty.is (.int .i64 k) | 3 => TCells (RUnit.cells q) | 4 => Ty.is (.agg (RUnit.cells q).toArray) | 5 => TCells [.slice kB kids'.length kd] | 6 => Ty.is (.slice kB kids'.length kd) | 7 => Ty.is (.int .i64 k) | 8 => TCells (RUnit.cells q') | 9 => Ty.is (.agg (RUnit.cells q').toArray) | 10 => Ty.is (.bool true) | 11 => Ty.is (.bool false) | _ => Ty.any) (by kernel_rfl) rfl ?_
                          intro v
                          refine ⟨?_, ?_, ?_, ?_, ?_, ?_, ?_, ?_, ?_, ?_, ?_, ?_, ?_⟩
                          · intro wq hq hd
                            refine ob_plain rfl ?_
                            exact yld_field 27 5 (.tmp 2) rfl _ Try.underlying27 _ rfl 1 Try.sizeOf25 (by decide) [.int .i64 ra, .int .i64 ri, .int .i64 rn, .int .i64 rk, .string rl, .slice hdA hl.length hc, .slice wA wl.length wc, .slice kA kids.length kc] (Hba.out _ (hext.trans hq))
                          · intro wq hq hd
                            obtain ⟨h0, -⟩ := hd
                            change (TCells [.slice kA kids.length kc]).p (v 0) wq at h0
                            refine ob_plain rfl ?_
                            exact yld_loadOne 25 (.tmp 57) rfl Try.isAgg25 (c := .slice kA kids.length kc) h0 rfl
                          · intro wq hq hd
                            refine ob_plain rfl ?_
                            exact yld_move (.tmp 5) rfl rfl rfl
                          · intro wq hq hd
                            obtain ⟨h0, h1, -⟩ := hd
                            change v 1 = _ at h0
                            change v 2 = _ at h1
                            refine ob_plain rfl ?_
                            exact yld_indexAt unitEl (.tmp 58) (.tmp 59) rfl kA us _ (by rw [← Hul.out]; exact h0) k h1 (husr.ext hq) q Hq.out
                          · intro wq hq hd
                            obtain ⟨h0, -⟩ := hd
                            change (TCells (RUnit.cells q)).p (v 3) wq at h0
                            refine ob_plain rfl ?_
                            exact yld_loadAgg 27 (.tmp 60) rfl Try.isAgg27 8 Try.sizeOf27 (RUnit.cells q) rfl h0 rfl
                          · intro wq hq hd
                            refine ob_plain rfl ?_
                            exact yld_field 27 5 (.tmp 3) rfl _ Try.underlying27 _ rfl 1 Try.sizeOf25 (by decide) [.int .i64 ra, .int .i64 ri, .int .i64 rn, .int .i64 rk, .string rl, .slice hdB hl.length hb, .slice wB wl.length wd, .slice kB kids'.length kd] (Hbb.out _ (hext.trans hq))
                          · intro wq hq hd
                            obtain ⟨h0, -⟩ := hd
                            change (TCells [.slice kB kids'.length kd]).p (v 5) wq at h0
                            refine ob_plain rfl ?_
                            exact yld_loadOne 25 (.tmp 62) rfl Try.isAgg25 (c := .slice kB kids'.length kd) h0 rfl
                          · intro wq hq hd
                            refine ob_plain rfl ?_
                            exact yld_move (.tmp 5) rfl rfl rfl
                          · intro wq hq hd
                            obtain ⟨h0, h1, -⟩ := hd
                            change v 6 = _ at h0
                            change v 7 = _ at h1
                            refine ob_plain rfl ?_
                            exact yld_indexAt unitEl (.tmp 63) (.tmp 64) rfl kB vs _ (by rw [← Hvl.out]; exact h0) k h1 (hvsr.ext hq) q' Hq'.out
                          · intro wq hq hd
                            obtain ⟨h0, -⟩ := hd
                            change (TCells (RUnit.cells q')).p (v 8) wq at h0
                            refine ob_plain rfl ?_
                            exact yld_loadAgg 27 (.tmp 65) rfl Try.isAgg27 8 Try.sizeOf27 (RUnit.cells q') rfl h0 rfl
                          · intro wq hq hd
                            obtain ⟨h0, h1, -⟩ := hd
                            change v 4 = _ at h0
                            change v 9 = _ at h1
                            refine ob_plain rfl ?_
                            refine yld_call 27 Try.call27 _ _ rfl rfl [_, _] ⟨h0, h1, trivial⟩ ?_
                            refine (Hrec.out _ hq).mono ?_
                            rintro e w' ⟨rfl, hext'⟩
                            exact ⟨_, rfl, hext', by rw [Hbb2.out]; rfl⟩
                          · intro wq hq hd
                            obtain ⟨h0, -⟩ := hd
                            change v 10 = _ at h0
                            refine ob_plain rfl ?_
                            exact yld_not (.tmp 67) 4 rfl _ h0 rfl
                          · intro wq hq hT
                            have k11 := hT 11 (by decide)
                            change v 11 = _ at k11
                            clear hT
                            simp only [List.drop_succ_cons, List.drop_zero, putE, setsE, List.set_cons_succ, List.set_cons_zero, Nat.reduceAdd]
                            rw [k11]
                            go_wp2
                            go_roundw
                            case rel => exact ⟨k + 1, by omega, by go_num, Lib.hid (upto_succ Hk.out Hbb2.out), hext.trans hq⟩
                            case measure => simp [intOf]; omega
                        case false =>
                          have Hf := Lib.hid (Hn6.out rfl)
                          go_wp2_with fail
                          refine wp_drawn (by kernel_rfl) (fun i => match i with | 0 => TCells [.slice kA kids.length kc] | 1 => Ty.is (.slice kA kids.length kc) | 2 => Ty.is (.int .i64 k) | 3 => TCells (RUnit.cells q) | 4 => Ty.is (.agg (RUnit.cells q).toArray) | 5 => TCells [.slice kB kids'.length kd] | 6 => Ty.is (.slice kB kids'.length kd) | 7 => Ty.is (.int .i64 k) | 8 => TCells (RUnit.cells q') | 9 => Ty.is (.agg (RUnit.cells q').toArray) | 10 => Ty.is (.bool false) | 11 => Ty.is (.bool true) | _ => Ty.any) (by kernel_rfl) rfl ?_
                          intro v
                          refine ⟨?_, ?_, ?_, ?_, ?_, ?_, ?_, ?_, ?_, ?_, ?_, ?_, ?_⟩
                          · intro wq hq hd
                            refine ob_plain rfl ?_
                            exact yld_field 27 5 (.tmp 2) rfl _ Try.underlying27 _ rfl 1 Try.sizeOf25 (by decide) [.int .i64 ra, .int .i64 ri, .int .i64 rn, .int .i64 rk, .string rl, .slice hdA hl.length hc, .slice wA wl.length wc, .slice kA kids.length kc] (Hba.out _ (hext.trans hq))
                          · intro wq hq hd
                            obtain ⟨h0, -⟩ := hd
                            change (TCells [.slice kA kids.length kc]).p (v 0) wq at h0
                            refine ob_plain rfl ?_
                            exact yld_loadOne 25 (.tmp 57) rfl Try.isAgg25 (c := .slice kA kids.length kc) h0 rfl
                          · intro wq hq hd
                            refine ob_plain rfl ?_
                            exact yld_move (.tmp 5) rfl rfl rfl
                          · intro wq hq hd
                            obtain ⟨h0, h1, -⟩ := hd
                            change v 1 = _ at h0
                            change v 2 = _ at h1
                            refine ob_plain rfl ?_
                            exact yld_indexAt unitEl (.tmp 58) (.tmp 59) rfl kA us _ (by rw [← Hul.out]; exact h0) k h1 (husr.ext hq) q Hq.out
                          · intro wq hq hd
                            obtain ⟨h0, -⟩ := hd
                            change (TCells (RUnit.cells q)).p (v 3) wq at h0
                            refine ob_plain rfl ?_
                            exact yld_loadAgg 27 (.tmp 60) rfl Try.isAgg27 8 Try.sizeOf27 (RUnit.cells q) rfl h0 rfl
                          · intro wq hq hd
                            refine ob_plain rfl ?_
                            exact yld_field 27 5 (.tmp 3) rfl _ Try.underlying27 _ rfl 1 Try.sizeOf25 (by decide) [.int .i64 ra, .int .i64 ri, .int .i64 rn, .int .i64 rk, .string rl, .slice hdB hl.length hb, .slice wB wl.length wd, .slice kB kids'.length kd] (Hbb.out _ (hext.trans hq))
                          · intro wq hq hd
                            obtain ⟨h0, -⟩ := hd
                            change (TCells [.slice kB kids'.length kd]).p (v 5) wq at h0
                            refine ob_plain rfl ?_
                            exact yld_loadOne 25 (.tmp 62) rfl Try.isAgg25 (c := .slice kB kids'.length kd) h0 rfl
                          · intro wq hq hd
                            refine ob_plain rfl ?_
                            exact yld_move (.tmp 5) rfl rfl rfl
                          · intro wq hq hd
                            obtain ⟨h0, h1, -⟩ := hd
                            change v 6 = _ at h0
                            change v 7 = _ at h1
                            refine ob_plain rfl ?_
                            exact yld_indexAt unitEl (.tmp 63) (.tmp 64) rfl kB vs _ (by rw [← Hvl.out]; exact h0) k h1 (hvsr.ext hq) q' Hq'.out
                          · intro wq hq hd
                            obtain ⟨h0, -⟩ := hd
                            change (TCells (RUnit.cells q')).p (v 8) wq at h0
                            refine ob_plain rfl ?_
                            exact yld_loadAgg 27 (.tmp 65) rfl Try.isAgg27 8 Try.sizeOf27 (RUnit.cells q') rfl h0 rfl
                          · intro wq hq hd
                            obtain ⟨h0, h1, -⟩ := hd
                            change v 4 = _ at h0
                            change v 9 = _ at h1
                            refine ob_plain rfl ?_
                            refine yld_call 27 Try.call27 _ _ rfl rfl [_, _] ⟨h0, h1, trivial⟩ ?_
                            refine (Hrec.out _ hq).mono ?_
                            rintro e w' ⟨rfl, hext'⟩
                            exact ⟨_, rfl, hext', by rw [Hbb2.out]; rfl⟩
                          · intro wq hq hd
                            obtain ⟨h0, -⟩ := hd
                            change v 10 = _ at h0
                            refine ob_plain rfl ?_
                            exact yld_not (.tmp 67) 4 rfl _ h0 rfl
                          · intro wq hq hT
                            have k11 := hT 11 (by decide)
                            change v 11 = _ at k11
                            clear hT
                            simp only [List.drop_succ_cons, List.drop_zero, putE, setsE, List.set_cons_succ, List.set_cons_zero, Nat.reduceAdd]
                            rw [k11]
                            go_wp2
                            go_ret
                            exact ⟨by rw [Hf.out]; rfl, he1.trans (hext.trans hq)⟩
                      · have d1 : decide ((k : Int) < (kids.length : Int)) = false := decide_eq_false (by omega)
                        have Hf := Lib.hid (Hall6.out fun m h h' => Hk.out m h h' (by omega))
                        go_wp2
                        go_ret
                        exact ⟨by rw [Hf.out]; rfl, he1.trans hext⟩
                  · skip
                    have ef : sameG (.mk ra ri rn rk rl hl wl kids) (.mk ra ri rn rk rl hl wl kids') = false := by simp [sameG, c6]
                    rw [ef]
                    clear ef
                    have hne := bne_nat c6
                    clear c6
                    rw [decide_eq_true rfl] at hr1 hr2
                    have Hr1 := Lib.hid hr1
                    have Hr2 := Lib.hid hr2
                    clear hr1 hr2
                    go_enter Try.func27, Try.ntmps27
                    go_wp2_with fail
                    rw [HwB.out]
                    refine (Hr1.out wb (Ext.refl _)).mono ?_
                    rintro e w1 ⟨rfl, hx1⟩
                    have t1 := TCells.cell (Hba.out w1 hx1) 6 _ rfl
                    have t2 := TCells.cell (Hba.out w1 hx1) 7 _ rfl
                    have t3 := TCells.cell (Hbb.out w1 hx1) 6 _ rfl
                    have t4 := TCells.cell (Hbb.out w1 hx1) 7 _ rfl
                    rw [Nat.zero_add] at t1 t2 t3 t4
                    go_wp2_with fail
                    refine (Hr2.out w1 hx1).mono ?_
                    rintro e w2 ⟨rfl, hx2⟩
                    have hx : Ext wb w2 := hx1.trans hx2
                    have t1' := TCells.cell (Hba.out w2 hx) 7 _ rfl
                    have t2' := TCells.cell (Hbb.out w2 hx) 7 _ rfl
                    rw [Nat.zero_add] at t1' t2'
                    clear t1 t2 t3 t4 Hr1 Hr2 hx1 hx2
                    go_wp2
                    go_ret
                    exact ⟨rfl, he1.trans hx⟩
                · skip
                  have ef : sameG (.mk ra ri rn rk rl hl wl kids) (.mk ra ri rn rk rl hl wl' kids') = false := by simp [sameG, c5]
                  rw [ef]
                  clear ef
                  rw [decide_eq_true rfl] at hr1
                  rw [decide_eq_false c5] at hr2
                  clear c5
                  have Hr1 := Lib.hid hr1
                  have Hr2 := Lib.hid hr2
                  clear hr1 hr2
                  go_enter Try.func27, Try.ntmps27
                  go_wp2_with fail
                  rw [HwB.out]
                  refine (Hr1.out wb (Ext.refl _)).mono ?_
                  rintro e w1 ⟨rfl, hx1⟩
                  have t1 := TCells.cell (Hba.out w1 hx1) 6 _ rfl
                  have t2 := TCells.cell (Hba.out w1 hx1) 7 _ rfl
                  have t3 := TCells.cell (Hbb.out w1 hx1) 6 _ rfl
                  have t4 := TCells.cell (Hbb.out w1 hx1) 7 _ rfl
                  rw [Nat.zero_add] at t1 t2 t3 t4
                  go_wp2_with fail
                  refine (Hr2.out w1 hx1).mono ?_
                  rintro e w2 ⟨rfl, hx2⟩
                  have hx : Ext wb w2 := hx1.trans hx2
                  have t1' := TCells.cell (Hba.out w2 hx) 7 _ rfl
                  have t2' := TCells.cell (Hbb.out w2 hx) 7 _ rfl
                  rw [Nat.zero_add] at t1' t2'
                  clear t1 t2 t3 t4 Hr1 Hr2 hx1 hx2
                  go_wp2
                  go_ret
                  exact ⟨rfl, he1.trans hx⟩
              · skip
                have ef : sameG (.mk ra ri rn rk rl hl wl kids) (.mk ra ri rn rk rl hl' wl' kids') = false := by simp [sameG, c4]
                rw [ef]
                clear ef
                rw [decide_eq_false c4] at hr1
                clear c4
                have Hr1 := Lib.hid hr1
                have Hr2 := Lib.hid hr2
                clear hr1 hr2
                go_enter Try.func27, Try.ntmps27
                go_wp2_with fail
                rw [HwB.out]
                refine (Hr1.out wb (Ext.refl _)).mono ?_
                rintro e w1 ⟨rfl, hx1⟩
                have t1 := TCells.cell (Hba.out w1 hx1) 6 _ rfl
                have t2 := TCells.cell (Hba.out w1 hx1) 7 _ rfl
                have t3 := TCells.cell (Hbb.out w1 hx1) 6 _ rfl
                have t4 := TCells.cell (Hbb.out w1 hx1) 7 _ rfl
                rw [Nat.zero_add] at t1 t2 t3 t4
                go_wp2
                go_ret
                exact ⟨rfl, he1.trans hx1⟩
            · skip
              have ef : sameG (.mk ra ri rn rk rl hl wl kids) (.mk ra ri rn rk rl' hl' wl' kids') = false := by simp [sameG, c3]
              rw [ef]
              clear ef
              have d3 := bne_str c3
              clear c3 hr1 hr2
              go_enter Try.func27, Try.ntmps27
              go_wp2
              go_ret
              exact ⟨rfl, ((Ext.refl w).alloc _).alloc _⟩
          · skip
            have ef : sameG (.mk ra ri rn rk rl hl wl kids) (.mk ra ri rn rk' rl' hl' wl' kids') = false := by simp [sameG, c2]
            rw [ef]
            clear ef
            have d2 : (rk != rk') = true := by simp [c2]
            clear c2 hr1 hr2
            go_enter Try.func27, Try.ntmps27
            go_wp2
            go_ret
            exact ⟨rfl, ((Ext.refl w).alloc _).alloc _⟩
        · skip
          have ef : sameG (.mk ra ri rn rk rl hl wl kids) (.mk ra ri rn' rk' rl' hl' wl' kids') = false := by simp [sameG, c13]
          rw [ef]
          clear ef
          clear hr1 hr2
          go_enter Try.func27, Try.ntmps27
          go_wp2
          go_ret
          exact ⟨rfl, ((Ext.refl w).alloc _).alloc _⟩
      · skip
        have ef : sameG (.mk ra ri rn rk rl hl wl kids) (.mk ra ri' rn' rk' rl' hl' wl' kids') = false := by simp [sameG, c12]
        rw [ef]
        clear ef
        clear hr1 hr2
        go_enter Try.func27, Try.ntmps27
        go_wp2
        go_ret
        exact ⟨rfl, ((Ext.refl w).alloc _).alloc _⟩
    · skip
      have ef : sameG (.mk ra ri rn rk rl hl wl kids) (.mk ra' ri' rn' rk' rl' hl' wl' kids') = false := by simp [sameG, c11]
      rw [ef]
      clear ef
      clear hr1 hr2
      go_enter Try.func27, Try.ntmps27
      go_wp2
      go_ret
      exact ⟨rfl, ((Ext.refl w).alloc _).alloc _⟩

end Go.Proofs.Ythjlnpcanccmkaa
