/- kept: the law's own test that two trees differ only in anchors and in labels of notes: plain part and walk. -/
import Derived.Test.YtiacmahfjcolaaaDoorPlainB10
import Derived.Test.YtiacmahfjcolaaaDoorNumber10
import Derived.Test.YtiacmahfjcolaaaDoorSame610
namespace Go.Proofs.YtiacmahfjcolaaaDoor
open Go.RowKit

def KeptW (x y : GWord) : Prop := ancB x.t = ancB y.t ∧ (x.a = y.a ∧ x.i = y.i ∧ x.k = y.k) ∧ (ancB x.t = false → x.t = y.t)
mutual
def KeptU : GUnit → GUnit → Prop
  | .mk a i n k l hd wd ks, .mk a' i' n' k' l' hd' wd' ks' => (a = a' ∧ i = i' ∧ n = n' ∧ k = k' ∧ (l = l' ∨ k = 7) ∧ hd = hd') ∧ (wd.length = wd'.length ∧ ∀ j (h : j < wd.length) (h' : j < wd'.length), KeptW wd[j] wd'[j]) ∧ KeptUs ks ks'
def KeptUs : List GUnit → List GUnit → Prop
  | [], [] => True
  | u :: us, v :: vs => KeptU u v ∧ KeptUs us vs
  | [], _ :: _ => False
  | _ :: _, [] => False
end
theorem KeptUs.length : ∀ {us vs : List GUnit}, KeptUs us vs → us.length = vs.length
  | [], [], _ => rfl
  | u :: us, v :: vs, h => by
    rw [KeptUs] at h
    simp [KeptUs.length h.2]
  | [], _ :: _, h => by rw [KeptUs] at h; exact h.elim
  | _ :: _, [], h => by rw [KeptUs] at h; exact h.elim
theorem KeptUs.get : ∀ {us vs : List GUnit}, KeptUs us vs → ∀ (k : Nat) (h1 : k < us.length) (h2 : k < vs.length), KeptU us[k] vs[k]
  | u :: us, v :: vs, h, 0, _, _ => by rw [KeptUs] at h; exact h.1
  | u :: us, v :: vs, h, k + 1, h1, h2 => by
    rw [KeptUs] at h
    exact KeptUs.get h.2 k (by simpa using h1) (by simpa using h2)
theorem kept_relab (L : List ByteArray) {u v : GUnit} (h : KeptU u v) : KeptU u (relab L v) := by
  obtain ⟨a, i, n, k, l, hd, wd, ks⟩ := u
  obtain ⟨a', i', n', k', l', hd', wd', ks'⟩ := v
  rw [relab]
  rw [KeptU] at h ⊢
  obtain ⟨⟨h1, h2, h3, h4, h5, h6⟩, h7⟩ := h
  refine ⟨⟨h1, h2, h3, h4, ?_, h6⟩, h7⟩
  by_cases h : k' = 7
  · exact .inr (h4.trans h)
  · rw [if_neg h]; exact h5
mutual
theorem kept_num : ∀ u, checkF u = [] → AllU fewA u → KeptU u (numF u)
  | .mk a i n k l hd wd ks, h, hA => by
    rw [check_iff] at h
    rw [AllU] at hA
    have hl := fewA_len hA.1
    rw [numF, KeptU]
    refine ⟨⟨rfl, rfl, rfl, rfl, .inl rfl, rfl⟩, ⟨by simp, fun j h1 h2 => ?_⟩, keptL_num _ ks h.2 hA.2⟩
    rw [List.getElem_map]
    have hm := anchL_mem (List.getElem_mem h1)
    generalize wd[j] = x at hm
    unfold KeptW
    by_cases hb : ancB x.t = true
    · have := renW_anc h.1.a1 hl hb (hm hb)
      refine ⟨by rw [hb, this.1], ?_, fun h => by rw [hb] at h; cases h⟩
      unfold renW
      rw [if_pos hb]
      exact ⟨rfl, rfl, rfl⟩
    · rw [renW_other hb]
      exact ⟨rfl, ⟨rfl, rfl, rfl⟩, fun _ => rfl⟩
theorem keptL_num (L : List ByteArray) : ∀ us, checkL us = [] → AllUs fewA us → KeptUs us (numL L us)
  | [], _, _ => by rw [numL, KeptUs]; trivial
  | u :: r, h, hA => by
    rw [checkL, List.append_eq_nil_iff] at h
    rw [AllUs] at hA
    rw [numL, KeptUs]
    exact ⟨kept_relab L (kept_num u h.1 hA.1), keptL_num L r h.2 hA.2⟩
end
theorem wordAt' {w : World} {b off : Nat} {xs : List GWord} (h : Sl wordEl w (some ⟨b, off, none⟩) xs) {k : Nat} (hk : k < xs.length) :
    w.cell? ⟨b, off + k * 4, none⟩ = some (.string xs[k].t) ∧ w.cell? ⟨b, off + k * 4 + 1, none⟩ = some (.int .i64 xs[k].a) ∧ w.cell? ⟨b, off + k * 4 + 2, none⟩ = some (.int .i64 xs[k].i) ∧ w.cell? ⟨b, off + k * 4 + 3, none⟩ = some (.int .i64 xs[k].k) := by
  obtain ⟨b', off', hA, hb, h⟩ := wordAt h hk
  cases hA
  exact h
/-- words short, few -/
def okW (u : GUnit) : Prop := (∀ x ∈ u.words, x.t.size ≤ 1048576) ∧ u.head.length ≤ 9223372036854775807 ∧ u.words.length ≤ 9223372036854775807 ∧ u.kids.length ≤ 9223372036854775807

def KeptAt (N : Nat) : Prop := ∀ (u v : GUnit) (r r' : RUnit) (w : World), SizeOf.sizeOf u ≤ N → Reads w u r → Reads w v r' → KeptU u v → AllU okW u → AllU okW v →
    Calls Tryd.prog 28 #[.agg r.cells.toArray, .agg r'.cells.toArray] w fun e w' => e = .returned (.bool true) ∧ Ext w w'
set_option maxRecDepth 100000 in
set_option maxHeartbeats 6400000 in
theorem kept_step (N : Nat) (ih : KeptAt N) : KeptAt (N + 1) := by
    intro u v r r' w hN hr hr' hK hA hB
    obtain ⟨a, i, n, kd0, lb, hl, wl, kids⟩ := u
    obtain ⟨a', i', n', kd', lb', hl', wl', kids'⟩ := v
    rw [Reads] at hr hr'
    rw [AllU] at hA hB
    rw [KeptU] at hK
    obtain ⟨⟨q1, q2, q3, q4, q5, q6⟩, ⟨hwl, hwk⟩, hks⟩ := hK
    subst q1 q2 q3 q4 q6
    obtain ⟨⟨hsA, hl1, hl2, hl3⟩, hA⟩ := hA
    obtain ⟨⟨hsB, -, hm2, hm3⟩, hB⟩ := hB
    simp only [GUnit.words, GUnit.head, GUnit.kids] at hsA hl1 hl2 hl3 hsB hm2 hm3
    obtain ⟨⟨ha1, ha2, ha3, ha4, ha5⟩, ⟨hhn, hhc, hhs⟩, ⟨hwn, hwc, hws⟩, hkn, hkc, us, hus, hall⟩ := hr
    obtain ⟨⟨hb1, hb2, hb3, hb4, hb5⟩, ⟨hhn', hhc', hhs'⟩, ⟨hwn', hwc', hws'⟩, hkn', hkc', vs, hvs, hall'⟩ := hr'
    have hbx := fun w' he => boxT (w' := w') r (w := w) he
    have hby := fun w' he => boxT (w' := w') r' (w := w.alloc (.cells r.cells.toArray 27)) he
    obtain ⟨ra, ri, rn, rk, rl, hdA, hn, hc, wA, wn, wc, kA, kn, kc⟩ := r
    obtain ⟨ra', ri', rn', rk', rl', hdB, hn', hb, wB, wn', wd, kB, kn', kd⟩ := r'
    dsimp only at ha1 ha2 ha3 ha4 ha5 hb1 hb2 hb3 hb4 hb5 hkn hkc hus hall hhn hhc hhs hwn hwc hws hkn' hkc' hvs hall' hhn' hhc' hhs' hwn' hwc' hws'
    simp only [RUnit.cells] at hbx hby ⊢
    subst hkn hhn hwn hkn' hhn' hwn'
    subst ha1 ha2 ha3 ha4 ha5
    subst hb1 hb2 hb3 hb4 hb5
    have hkl0 := hks.length
    rw [← hwl, ← hkl0] at hby
    rw [← hwl, ← hkl0]
    clear hkl0
    have hul := (ReadsAll.length hall).symm
    have hvl := (ReadsAll.length hall').symm
    have Hall := Lib.hid hall
    have Hall' := Lib.hid hall'
    have HA := Lib.hid hA
    have HB := Lib.hid hB
    have HN := Lib.hid hN
    have Hul := Lib.hid hul
    have Hvl := Lib.hid hvl
    have Hks := Lib.hid hks
    have Hwk := Lib.hid hwk
    have Hwl := Lib.hid hwl
    have Hkl := Lib.hid hks.length
    have HsA := Lib.hid hsA
    have HsB := Lib.hid hsB
    obtain ⟨wb, hwb⟩ : ∃ wb, (w.alloc (.cells #[.int .i64 ra', .int .i64 ri', .int .i64 rn', .int .i64 rk', .string rl, .slice hdA hl.length hc, .slice wA wl.length wc, .slice kA kids.length kc] 27)).alloc (.cells #[.int .i64 ra', .int .i64 ri', .int .i64 rn', .int .i64 rk', .string rl', .slice hdB hl.length hb, .slice wB wl.length wd, .slice kB kids.length kd] 27) = wb := ⟨_, rfl⟩
    have he1 : Ext w wb := by rw [← hwb]; exact ((Ext.refl w).alloc _).alloc _
    have Hba := Lib.hid (show ∀ w', Ext wb w' → (TCells [.int .i64 ra', .int .i64 ri', .int .i64 rn', .int .i64 rk', .string rl, .slice hdA hl.length hc, .slice wA wl.length wc, .slice kA kids.length kc]).p (.pointer (some ⟨w.heap.size, 0, none⟩)) w' from fun w' he => hbx w' (((Ext.refl _).alloc _).trans (hwb ▸ he)))
    have hbz : (w.alloc (.cells #[.int .i64 ra', .int .i64 ri', .int .i64 rn', .int .i64 rk', .string rl, .slice hdA hl.length hc, .slice wA wl.length wc, .slice kA kids.length kc] 27)).heap.size = w.heap.size + 1 := by simp
    rw [hbz] at hby
    have Hbb := Lib.hid (show ∀ w', Ext wb w' → (TCells [.int .i64 ra', .int .i64 ri', .int .i64 rn', .int .i64 rk', .string rl', .slice hdB hl.length hb, .slice wB wl.length wd, .slice kB kids.length kd]).p (.pointer (some ⟨w.heap.size + 1, 0, none⟩)) w' from fun w' he => hby w' (hwb ▸ he))
    clear hbz hbx hby
    have HwB := Lib.hid hwb
    clear hwb
    have Hr1 := Lib.hid (show ∀ w', Ext wb w' → _ from fun w' he => rows_eq hdA hdB hc hb hl w' (hhs.ext (he1.trans he)) (hhs'.ext (he1.trans he)) hl1)
    clear hhs hhs' hall hall' hA hB hul hvl hN hks hwk hwl hsA hsB
    have d5 : rl = rl' ∨ rk' = 7 := q5
    clear q5
    have main : ∀ w2, Ext wb w2 → Ext w w2 → True := fun _ _ _ => trivial
    clear main
    have d6 : rl.toList = rl'.toList ∨ (¬ rl.toList = rl'.toList ∧ rk' = 7) := by
      by_cases h : rl.toList = rl'.toList
      · exact .inl h
      · refine .inr ⟨h, ?_⟩
        rcases d5 with h5 | h5
        · exact absurd (by rw [h5]) h
        · exact h5
    clear d5
    have d7 : (rl.toList = rl'.toList) ∨ (¬ rl.toList = rl'.toList ∧ (rk' == 7) = true ∧ (rk' != 7) = false) := d6.imp id fun h => ⟨h.1, by simp [h.2], by simp [h.2]⟩
    clear d6
    rcases d7 with d6 | ⟨d6, d7, d8⟩
    all_goals
      go_enter Tryd.func28, Tryd.ntmps28
      go_wp2_with fail
      rw [HwB.out]
      have g0 := TCells.cell (Hba.out wb (Ext.refl _)) 0 _ rfl
      have g1 := TCells.cell (Hba.out wb (Ext.refl _)) 1 _ rfl
      have g2 := TCells.cell (Hba.out wb (Ext.refl _)) 2 _ rfl
      have g3 := TCells.cell (Hba.out wb (Ext.refl _)) 3 _ rfl
      have g4 := TCells.cell (Hba.out wb (Ext.refl _)) 4 _ rfl
      have g5 := TCells.cell (Hba.out wb (Ext.refl _)) 5 _ rfl
      have j0 := TCells.cell (Hbb.out wb (Ext.refl _)) 0 _ rfl
      have j1 := TCells.cell (Hbb.out wb (Ext.refl _)) 1 _ rfl
      have j2 := TCells.cell (Hbb.out wb (Ext.refl _)) 2 _ rfl
      have j3 := TCells.cell (Hbb.out wb (Ext.refl _)) 3 _ rfl
      have j4 := TCells.cell (Hbb.out wb (Ext.refl _)) 4 _ rfl
      have j5 := TCells.cell (Hbb.out wb (Ext.refl _)) 5 _ rfl
      rw [Nat.zero_add] at g0 g1 g2 g3 g4 g5 j0 j1 j2 j3 j4 j5
      go_wp2_with fail
      refine (Hr1.out _ (Ext.refl _)).mono ?_
      rintro e w1 ⟨rfl, hx1⟩
      clear g0 g1 g2 g3 g4 g5 j0 j1 j2 j3 j4 j5 HwB Hr1
      have t1 := TCells.cell (Hba.out w1 hx1) 6 _ rfl
      have t2 := TCells.cell (Hba.out w1 hx1) 7 _ rfl
      have t3 := TCells.cell (Hbb.out w1 hx1) 6 _ rfl
      have t4 := TCells.cell (Hbb.out w1 hx1) 7 _ rfl
      rw [Nat.zero_add] at t1 t2 t3 t4
      go_wp2
      clear t1 t2 t3 t4 d6
      go_loopw [5] (fun i wr => ∃ (k : Nat), k ≤ wl.length ∧ i = .int .i64 k ∧ Ext wb wr) (fun i _ => wl.length - (intOf i).toNat)
      case atStart => exact ⟨0, Nat.zero_le _, rfl, hx1⟩
      case round =>
        obtain ⟨k, hk, rfl, hext⟩ := hrel
        have t1 := TCells.cell (Hba.out wr hext) 6 _ rfl
        rw [Nat.zero_add] at t1
        by_cases hlt : k < wl.length
        · have d1 : decide ((k : Int) < (wl.length : Int)) = true := decide_eq_true (by omega)
          have hlt' : k < wl'.length := by rw [← Hwl.out]; exact hlt
          have hxw := he1.trans hext
          obtain ⟨bA, oA, rfl, hbA, -⟩ := wordAt (hws.ext hxw) hlt
          obtain ⟨bB, oB, rfl, hbB, -⟩ := wordAt (hws'.ext hxw) hlt'
          have hcA := fun w' (he : Ext wr w') => wordAt' (hws.ext (hxw.trans he)) hlt
          have hcB := fun w' (he : Ext wr w') => wordAt' (hws'.ext (hxw.trans he)) hlt'
          have hkw := Hwk.out k hlt hlt'
          have hs1 := HsA.out wl[k] (List.getElem_mem hlt)
          have hs2 := HsB.out wl'[k] (List.getElem_mem hlt')
          obtain ⟨x, hx⟩ : ∃ x, wl[k] = x := ⟨_, rfl⟩
          obtain ⟨y, hy⟩ : ∃ y, wl'[k] = y := ⟨_, rfl⟩
          rw [hx] at hcA hkw hs1
          rw [hy] at hcB hkw hs2
          clear hx hy
          obtain ⟨xt, xa, xi, xk⟩ := x
          obtain ⟨yt, ya, yi, yk⟩ := y
          obtain ⟨hkb, ⟨hk1, hk2, hk3⟩, hkt⟩ := hkw
          dsimp only at hkb hk1 hk2 hk3 hkt hs1 hs2 hcA hcB
          subst hk1 hk2 hk3
          have HcA := Lib.hid hcA
          have HcB := Lib.hid hcB
          have Hp1 := Lib.hid (fun w => anchor_any xt w hs1)
          have Hp2 := Lib.hid (fun w => anchor_any yt w hs2)
          simp only [show RetAnc xt = fun w e w' => e = .returned (.tuple #[.string (ancT xt), .bool (ancB xt)]) ∧ Ext w w' from rfl] at Hp1
          simp only [show RetAnc yt = fun w e w' => e = .returned (.tuple #[.string (ancT yt), .bool (ancB yt)]) ∧ Ext w w' from rfl] at Hp2
          rw [← hkb] at Hp2
          obtain ⟨T1, hT1⟩ : ∃ T, ancT xt = T := ⟨_, rfl⟩
          obtain ⟨T2, hT2⟩ : ∃ T, ancT yt = T := ⟨_, rfl⟩
          obtain ⟨B, hB⟩ : ∃ B, ancB xt = B := ⟨_, rfl⟩
          rw [hT1, hB] at Hp1
          rw [hT2, hB] at Hp2
          rw [hB] at hkt
          clear hT1 hT2 hB hkb hcA hcB hs1 hs2
          obtain ⟨c0, c1, c2, c3⟩ := HcA.out wr (Ext.refl _)
          cases B
          case false =>
            obtain rfl := hkt rfl
            clear hkt
            go_wp2_with fail
            refine (Hp1.out _).mono ?_
            rintro e w2 ⟨rfl, hx2⟩
            obtain ⟨e0, e1, e2, e3⟩ := HcB.out w2 hx2
            have t3 := TCells.cell (Hbb.out w2 (hext.trans hx2)) 6 _ rfl
            rw [Nat.zero_add] at t3
            clear c0 c1 c2 c3 t1
            go_wp2_with fail
            refine (Hp2.out _).mono ?_
            rintro e w3 ⟨rfl, hx3⟩
            clear e0 e1 e2 e3 t3
            have t1 := TCells.cell (Hba.out w3 ((hext.trans hx2).trans hx3)) 6 _ rfl
            have t3 := TCells.cell (Hbb.out w3 ((hext.trans hx2).trans hx3)) 6 _ rfl
            rw [Nat.zero_add] at t1 t3
            obtain ⟨c0, c1, c2, c3⟩ := HcA.out w3 (hx2.trans hx3)
            obtain ⟨e0, e1, e2, e3⟩ := HcB.out w3 (hx2.trans hx3)
            have d2 := d1
            go_wp2
            go_quiet (fail)
            go_wp2
            go_roundw
            case rel => exact ⟨k + 1, by omega, by go_num, ((hext.trans hx2).trans hx3).drewN _⟩
            case measure => simp [intOf]; omega
          case true =>
            clear hkt
            go_wp2_with fail
            refine (Hp1.out _).mono ?_
            rintro e w2 ⟨rfl, hx2⟩
            obtain ⟨e0, e1, e2, e3⟩ := HcB.out w2 hx2
            have t3 := TCells.cell (Hbb.out w2 (hext.trans hx2)) 6 _ rfl
            rw [Nat.zero_add] at t3
            clear c0 c1 c2 c3 t1
            go_wp2_with fail
            refine (Hp2.out _).mono ?_
            rintro e w3 ⟨rfl, hx3⟩
            clear e0 e1 e2 e3 t3
            have t1 := TCells.cell (Hba.out w3 ((hext.trans hx2).trans hx3)) 6 _ rfl
            have t3 := TCells.cell (Hbb.out w3 ((hext.trans hx2).trans hx3)) 6 _ rfl
            rw [Nat.zero_add] at t1 t3
            obtain ⟨c0, c1, c2, c3⟩ := HcA.out w3 (hx2.trans hx3)
            obtain ⟨e0, e1, e2, e3⟩ := HcB.out w3 (hx2.trans hx3)
            have d2 := d1
            go_wp2
            go_quiet (fail)
            go_wp2
            go_roundw
            case rel => exact ⟨k + 1, by omega, by go_num, ((hext.trans hx2).trans hx3).drewN _⟩
            case measure => simp [intOf]; omega
        · have d1 : decide ((k : Int) < (wl.length : Int)) = false := decide_eq_false (by omega)
          obtain ⟨wcc, rfl⟩ : ∃ wcc, wcc = wr := ⟨_, rfl⟩
          have Hxd := Lib.hid hext
          go_wp2
          clear t1 d1 hlt hext
          go_loopw [10] (fun i wr => ∃ (k : Nat), k ≤ kids.length ∧ i = .int .i64 k ∧ Ext wb wr) (fun i _ => kids.length - (intOf i).toNat)
          case atStart => exact ⟨0, Nat.zero_le _, rfl, Hxd.out⟩
          case round =>
            obtain ⟨k, hk, rfl, hext⟩ := hrel
            have hcell := TCells.cell (Hba.out wr hext) 7 _ rfl
            rw [Nat.zero_add] at hcell
            by_cases hlt : k < kids.length
            · have d1 : decide ((k : Int) < (kids.length : Int)) = true := decide_eq_true (by omega)
              have hlt2 : k < kids'.length := by rw [← Hkl.out]; exact hlt
              have hltr : k < us.length := by rw [← Hul.out]; exact hlt
              have hlts : k < vs.length := by rw [← Hvl.out]; exact hlt2
              have husr := (hus.ext he1).ext hext
              have hvsr := (hvs.ext he1).ext hext
              obtain ⟨q, hq⟩ : ∃ q, us[k]? = some q := ⟨_, List.getElem?_eq_getElem hltr⟩
              obtain ⟨q', hq'⟩ : ∃ q', vs[k]? = some q' := ⟨_, List.getElem?_eq_getElem hlts⟩
              have hqk : us[k] = q := (List.getElem?_eq_some_iff.1 hq).2
              have hqk' : vs[k] = q' := (List.getElem?_eq_some_iff.1 hq').2
              have Hq := Lib.hid hq
              have Hq' := Lib.hid hq'
              have hsub : SizeOf.sizeOf kids[k] ≤ N := by
                have a1 := List.sizeOf_lt_of_mem (List.getElem_mem hlt)
                have a2 := HN.out
                simp at a2
                omega
              have Hrec := Lib.hid (show ∀ wq, Ext wr wq → _ from fun wq he => ih kids[k] kids'[k] q q' wq hsub (Reads.ext ((he1.trans hext).trans he) _ _ (hqk ▸ ReadsAll.get Hall.out k hlt hltr)) (Reads.ext ((he1.trans hext).trans he) _ _ (hqk' ▸ ReadsAll.get Hall'.out k hlt2 hlts)) (Hks.out.get k hlt hlt2) (HA.out.get k hlt) (HB.out.get k hlt2))
              clear hq hqk hq' hqk' hsub
              go_wp2
              refine wp_drawn (by kernel_rfl) (fun i => match i with | 0 => TCells [.slice kA kids.length kc] | 1 => Ty.is (.slice kA kids.length kc) | 2 => Ty.is (.int .i64 k) | 3 => TCells [.int .i64 q.a, .int .i64 q.i, .int .i64 q.n, .int .i64 q.kind, .string q.label, .slice q.hA q.hn q.hc, .slice q.wA q.wn q.wc, .slice q.kA q.kn q.kc] | 4 => Ty.is (.agg #[.int .i64 q.a, .int .i64 q.i, .int .i64 q.n, .int .i64 q.kind, .string q.label, .slice q.hA q.hn q.hc, .slice q.wA q.wn q.wc, .slice q.kA q.kn q.kc]) | 5 => TCells [.slice kB kids.length kd] | 6 => Ty.is (.slice kB kids.length kd) | 7 => Ty.is (.int .i64 k) | 8 => TCells [.int .i64 q'.a, .int .i64 q'.i, .int .i64 q'.n, .int .i64 q'.kind, .string q'.label, .slice q'.hA q'.hn q'.hc, .slice q'.wA q'.wn q'.wc, .slice q'.kA q'.kn q'.kc] | 9 => Ty.is (.agg #[.int .i64 q'.a, .int .i64 q'.i, .int .i64 q'.n, .int .i64 q'.kind, .string q'.label, .slice q'.hA q'.hn q'.hc, .slice q'.wA q'.wn q'.wc, .slice q'.kA q'.kn q'.kc]) | 10 => Ty.is (.bool true) | 11 => Ty.is (.bool (!(true))) | _ => Ty.any) (by kernel_rfl) rfl ?_
              intro v
              refine ⟨?_, ?_, ?_, ?_, ?_, ?_, ?_, ?_, ?_, ?_, ?_, ?_, ?_⟩
              · intro wq hq hd
                refine ob_plain rfl ?_
                exact yld_field 27 5 (.tmp 2) rfl _ Tryd.underlying27 _ rfl 1 Tryd.sizeOf25 (by decide) [.int .i64 ra', .int .i64 ri', .int .i64 rn', .int .i64 rk', .string rl, .slice hdA hl.length hc, .slice wA wl.length wc, .slice kA kids.length kc] (Hba.out _ (hext.trans hq))
              · intro wq hq hd
                obtain ⟨h0, -⟩ := hd
                change (TCells [.slice kA kids.length kc]).p (v 0) wq at h0
                refine ob_plain rfl ?_
                exact yld_loadOne 25 (.tmp 130) rfl Tryd.isAgg25 (c := .slice kA kids.length kc) h0 rfl
              · intro wq hq hd
                refine ob_plain rfl ?_
                exact yld_move (.tmp 10) rfl rfl rfl
              · intro wq hq hd
                obtain ⟨h0, h1, -⟩ := hd
                change v 1 = _ at h0
                change v 2 = _ at h1
                refine ob_plain rfl ?_
                exact yld_indexAt unitEl (.tmp 131) (.tmp 132) rfl kA us _ (by rw [← Hul.out]; exact h0) k h1 (husr.ext hq) q Hq.out
              · intro wq hq hd
                obtain ⟨h0, -⟩ := hd
                change (TCells [.int .i64 q.a, .int .i64 q.i, .int .i64 q.n, .int .i64 q.kind, .string q.label, .slice q.hA q.hn q.hc, .slice q.wA q.wn q.wc, .slice q.kA q.kn q.kc]).p (v 3) wq at h0
                refine ob_plain rfl ?_
                exact yld_loadAgg 27 (.tmp 133) rfl Tryd.isAgg27 8 Tryd.sizeOf27 [.int .i64 q.a, .int .i64 q.i, .int .i64 q.n, .int .i64 q.kind, .string q.label, .slice q.hA q.hn q.hc, .slice q.wA q.wn q.wc, .slice q.kA q.kn q.kc] rfl h0 rfl
              · intro wq hq hd
                refine ob_plain rfl ?_
                exact yld_field 27 5 (.tmp 3) rfl _ Tryd.underlying27 _ rfl 1 Tryd.sizeOf25 (by decide) [.int .i64 ra', .int .i64 ri', .int .i64 rn', .int .i64 rk', .string rl', .slice hdB hl.length hb, .slice wB wl.length wd, .slice kB kids.length kd] (Hbb.out _ (hext.trans hq))
              · intro wq hq hd
                obtain ⟨h0, -⟩ := hd
                change (TCells [.slice kB kids.length kd]).p (v 5) wq at h0
                refine ob_plain rfl ?_
                exact yld_loadOne 25 (.tmp 135) rfl Tryd.isAgg25 (c := .slice kB kids.length kd) h0 rfl
              · intro wq hq hd
                refine ob_plain rfl ?_
                exact yld_move (.tmp 10) rfl rfl rfl
              · intro wq hq hd
                obtain ⟨h0, h1, -⟩ := hd
                change v 6 = _ at h0
                change v 7 = _ at h1
                refine ob_plain rfl ?_
                exact yld_indexAt unitEl (.tmp 136) (.tmp 137) rfl kB vs _ (by rw [← Hvl.out, ← Hkl.out]; exact h0) k h1 (hvsr.ext hq) q' Hq'.out
              · intro wq hq hd
                obtain ⟨h0, -⟩ := hd
                change (TCells [.int .i64 q'.a, .int .i64 q'.i, .int .i64 q'.n, .int .i64 q'.kind, .string q'.label, .slice q'.hA q'.hn q'.hc, .slice q'.wA q'.wn q'.wc, .slice q'.kA q'.kn q'.kc]).p (v 8) wq at h0
                refine ob_plain rfl ?_
                exact yld_loadAgg 27 (.tmp 138) rfl Tryd.isAgg27 8 Tryd.sizeOf27 [.int .i64 q'.a, .int .i64 q'.i, .int .i64 q'.n, .int .i64 q'.kind, .string q'.label, .slice q'.hA q'.hn q'.hc, .slice q'.wA q'.wn q'.wc, .slice q'.kA q'.kn q'.kc] rfl h0 rfl
              · intro wq hq hd
                obtain ⟨h0, h1, -⟩ := hd
                change v 4 = _ at h0
                change v 9 = _ at h1
                refine ob_plain rfl ?_
                refine yld_call 28 Tryd.call28 _ _ rfl rfl [_, _] ⟨h0, h1, trivial⟩ ?_
                refine (Hrec.out _ hq).mono ?_
                rintro e w' ⟨rfl, hext'⟩
                exact ⟨_, rfl, hext', rfl⟩
              · intro wq hq hd
                obtain ⟨h0, -⟩ := hd
                change v 10 = _ at h0
                refine ob_plain rfl ?_
                exact yld_not (.tmp 140) 4 rfl _ h0 rfl
              · intro wq hq hT
                have k11 := hT 11 (by decide)
                change v 11 = _ at k11
                clear hT
                simp only [List.drop_succ_cons, List.drop_zero, putE, setsE, List.set_cons_succ, List.set_cons_zero, Nat.reduceAdd]
                rw [k11]
                go_wp2
                go_roundw
                case rel => exact ⟨k + 1, by omega, by go_num, hext.trans hq⟩
                case measure => simp [intOf]; omega
            · have d1 : decide ((k : Int) < (kids.length : Int)) = false := decide_eq_false (by omega)
              go_wp2
              go_ret
              exact ⟨rfl, he1.trans hext⟩
theorem kept_all : ∀ N, KeptAt N
  | 0 => by
    intro u v r r' w h
    cases u
    simp at h
  | N + 1 => kept_step N (kept_all N)

end Go.Proofs.YtiacmahfjcolaaaDoor
