/- treeedit.copied: a deep copy of a unit, each part in blocks of its own. -/
import Derived.Test.YtjhdamjbljafhaaGreatDoorP15
namespace Go.Proofs.YtjhdamjbljafhaaGreatDoor
open Go.RowKit
def CopyTAt (N : Nat) : Prop := ∀ (u : GUnit) (r : RUnit) (w : World), SizeOf.sizeOf u ≤ N → Reads w u r → AllU (lensLe 1048576 1048576) u →
    Calls Tryz.prog 58 #[.agg r.cells.toArray] w fun e w' => ∃ r' : RUnit, e = .returned (.agg r'.cells.toArray) ∧ Ext w w' ∧ Sep w' u r' w.heap.size w'.heap.size
set_option maxRecDepth 100000 in
set_option maxHeartbeats 3200000 in
theorem copyT_step (N : Nat) (ih : CopyTAt N) : CopyTAt (N + 1) := by
    intro u0 r w hN hr hA
    obtain ⟨a, i, n, kd, lb, hl, wl, kids⟩ := u0
    rw [Reads] at hr
    rw [AllU] at hA
    obtain ⟨⟨hl1, hl2, hl3⟩, hA⟩ := hA
    obtain ⟨⟨ha, hi, hnn, hkd, hlb⟩, ⟨hhn, hhc, hhs⟩, ⟨hwn, hwc, hws⟩, hkn, hkc, us, hus, hall⟩ := hr
    obtain ⟨ra, ri, rn, rk, rl, hdA, hn, hc, wA, wn, wc, kA, kn, kc⟩ := r
    dsimp only at ha hi hnn hkn hkc hus hall hkd hlb hhn hhc hhs hwn hwc hws hl3
    have hul := ReadsAll.length hall
    rw [← hul] at hkn hkc hl3
    subst ha hi hnn hkn hlb hhn hwn hkd
    simp only [RUnit.cells]
    have hx0 : Ext w ((w.alloc (.cells #[.int .i64 ra, .int .i64 ri, .int .i64 rn, .int .i64 rk, .string rl, .slice hdA hl.length hc, .slice wA wl.length wc, .slice kA us.length kc] 27)).alloc (.cells #[.int .i64 0, .int .i64 0, .int .i64 0, .int .i64 0, .string ⟨#[]⟩, .slice none 0 0, .slice none 0 0, .slice none 0 0] 27)) := ((Ext.refl w).alloc _).alloc _
    have hbx : ((w.alloc (.cells #[.int .i64 ra, .int .i64 ri, .int .i64 rn, .int .i64 rk, .string rl, .slice hdA hl.length hc, .slice wA wl.length wc, .slice kA us.length kc] 27)).alloc (.cells #[.int .i64 0, .int .i64 0, .int .i64 0, .int .i64 0, .string ⟨#[]⟩, .slice none 0 0, .slice none 0 0, .slice none 0 0] 27)).heap[w.heap.size]? = some (.cells (RUnit.cells ⟨ra, ri, rn, rk, rl, hdA, hl.length, hc, wA, wl.length, wc, kA, us.length, kc⟩).toArray 27 (0, 0)) := by
      have e := ((Ext.refl (w.alloc (.cells #[.int .i64 ra, .int .i64 ri, .int .i64 rn, .int .i64 rk, .string rl, .slice hdA hl.length hc, .slice wA wl.length wc, .slice kA us.length kc] 27))).alloc (.cells #[.int .i64 0, .int .i64 0, .int .i64 0, .int .i64 0, .string ⟨#[]⟩, .slice none 0 0, .slice none 0 0, .slice none 0 0] 27)).block (k := w.heap.size) (by simp)
      exact e.trans (heap_alloc_new w _)
    have hres : ((w.alloc (.cells #[.int .i64 ra, .int .i64 ri, .int .i64 rn, .int .i64 rk, .string rl, .slice hdA hl.length hc, .slice wA wl.length wc, .slice kA us.length kc] 27)).alloc (.cells #[.int .i64 0, .int .i64 0, .int .i64 0, .int .i64 0, .string ⟨#[]⟩, .slice none 0 0, .slice none 0 0, .slice none 0 0] 27)).heap[w.heap.size + 1]? = some (.cells unit0.cells.toArray 27 (0, 0)) := by
      have e := heap_alloc_new (w.alloc (.cells #[.int .i64 ra, .int .i64 ri, .int .i64 rn, .int .i64 rk, .string rl, .slice hdA hl.length hc, .slice wA wl.length wc, .slice kA us.length kc] 27)) (.cells unit0.cells.toArray 27)
      rw [show (w.alloc (.cells #[.int .i64 ra, .int .i64 ri, .int .i64 rn, .int .i64 rk, .string rl, .slice hdA hl.length hc, .slice wA wl.length wc, .slice kA us.length kc] 27)).heap.size = w.heap.size + 1 from by simp] at e
      exact e
    have hsz : ((w.alloc (.cells #[.int .i64 ra, .int .i64 ri, .int .i64 rn, .int .i64 rk, .string rl, .slice hdA hl.length hc, .slice wA wl.length wc, .slice kA us.length kc] 27)).alloc (.cells #[.int .i64 0, .int .i64 0, .int .i64 0, .int .i64 0, .string ⟨#[]⟩, .slice none 0 0, .slice none 0 0, .slice none 0 0] 27)).heap.size = w.heap.size + 2 := by simp
    obtain ⟨wz, hwz⟩ : ∃ wz, ((w.alloc (.cells #[.int .i64 ra, .int .i64 ri, .int .i64 rn, .int .i64 rk, .string rl, .slice hdA hl.length hc, .slice wA wl.length wc, .slice kA us.length kc] 27)).alloc (.cells #[.int .i64 0, .int .i64 0, .int .i64 0, .int .i64 0, .string ⟨#[]⟩, .slice none 0 0, .slice none 0 0, .slice none 0 0] 27)) = wz := ⟨_, rfl⟩
    rw [hwz] at hx0 hbx hres hsz
    have Hwz := Lib.hid hwz
    have hz1 : w.heap.size + 2 ≤ wz.heap.size := by omega
    have Hb := Lib.hid (show ∀ w', Ext wz w' → _ from fun w' he => blockT hbx (by omega) he)
    have Hres := Lib.hid hres
    have Hbx := Lib.hid hbx
    have Hall := Lib.hid hall
    have HA := Lib.hid hA
    have HN := Lib.hid hN
    have Hul := Lib.hid hul
    simp only [RUnit.cells] at Hb
    clear hwz hsz hres hbx hall hA hN hul hkc hhc hwc
    go_enter Tryz.func58, Tryz.ntmps58
    go_wp2
    rw [Hwz.out]
    refine wp_drawn_tail 10 (fun i => match i with | 0 => TCells [.slice hdA hl.length hc] | 1 => Ty.is (.slice hdA hl.length hc) | 2 => TOwn wordEl wz.heap.size hl | 3 => TCells [.slice wA wl.length wc] | 4 => Ty.is (.slice wA wl.length wc) | 5 => TOwn wordEl wz.heap.size wl | 6 => TCells [.slice kA us.length kc] | 7 => Ty.is (.slice kA us.length kc) | 8 => TOwn unitEl wz.heap.size us | 9 => Ty.is (.pointer (some ⟨w.heap.size, 5, none⟩)) | _ => Ty.any) (by kernel_rfl) (by kernel_rfl) (by kernel_rfl) (by decide) rfl ?_
    intro v
    refine ⟨?_, ?_, ?_, ?_, ?_, ?_, ?_, ?_, ?_, ?_, ?_⟩
    · intro wq hq hd
      refine ob_plain rfl ?_
      exact yld_field 27 3 (.tmp 1) rfl _ Tryz.underlying27 _ rfl 1 Tryz.sizeOf24 (by decide) [.int .i64 ra, .int .i64 ri, .int .i64 rn, .int .i64 rk, .string rl, .slice hdA hl.length hc, .slice wA wl.length wc, .slice kA us.length kc] ((Hb.out _ hq))
    · intro wq hq hd
      obtain ⟨h0, -⟩ := hd
      change (TCells [.slice hdA hl.length hc]).p (v 0) wq at h0
      refine ob_plain rfl ?_
      exact yld_loadOne 24 (.tmp 5) rfl Tryz.isAgg24 (c := .slice hdA hl.length hc) h0 rfl
    · intro wq hq hd
      obtain ⟨h0, -⟩ := hd
      change v 1 = _ at h0
      refine ob_plain rfl ?_
      refine yld_call 96 Tryz.call96 _ _ rfl rfl [_] ⟨h0, trivial⟩ ?_
      refine (cloneW_any _ _ hl _ (hhs.ext (hx0.trans hq)) hl1).mono ?_
      rintro e w' ⟨v', rfl, hown, hx'⟩
      exact ⟨_, rfl, hx', hown.mono hq.size⟩
    · intro wq hq hd
      refine ob_plain rfl ?_
      exact yld_field 27 4 (.tmp 1) rfl _ Tryz.underlying27 _ rfl 1 Tryz.sizeOf24 (by decide) [.int .i64 ra, .int .i64 ri, .int .i64 rn, .int .i64 rk, .string rl, .slice hdA hl.length hc, .slice wA wl.length wc, .slice kA us.length kc] ((Hb.out _ hq))
    · intro wq hq hd
      obtain ⟨h0, -⟩ := hd
      change (TCells [.slice wA wl.length wc]).p (v 3) wq at h0
      refine ob_plain rfl ?_
      exact yld_loadOne 24 (.tmp 8) rfl Tryz.isAgg24 (c := .slice wA wl.length wc) h0 rfl
    · intro wq hq hd
      obtain ⟨h0, h1, -⟩ := hd
      change v 4 = _ at h0
      refine ob_plain rfl ?_
      refine yld_call 96 Tryz.call96 _ _ rfl rfl [_] ⟨h0, trivial⟩ ?_
      refine (cloneW_any _ _ wl _ (hws.ext (hx0.trans hq)) hl2).mono ?_
      rintro e w' ⟨v', rfl, hown, hx'⟩
      exact ⟨_, rfl, hx', hown.mono hq.size⟩
    · intro wq hq hd
      refine ob_plain rfl ?_
      exact yld_field 27 5 (.tmp 1) rfl _ Tryz.underlying27 _ rfl 1 Tryz.sizeOf25 (by decide) [.int .i64 ra, .int .i64 ri, .int .i64 rn, .int .i64 rk, .string rl, .slice hdA hl.length hc, .slice wA wl.length wc, .slice kA us.length kc] ((Hb.out _ hq))
    · intro wq hq hd
      obtain ⟨h0, -⟩ := hd
      change (TCells [.slice kA us.length kc]).p (v 6) wq at h0
      refine ob_plain rfl ?_
      exact yld_loadOne 25 (.tmp 11) rfl Tryz.isAgg25 (c := .slice kA us.length kc) h0 rfl
    · intro wq hq hd
      obtain ⟨h0, h1, -⟩ := hd
      change v 7 = _ at h0
      refine ob_plain rfl ?_
      refine yld_call 63 Tryz.call63 _ _ rfl rfl [_] ⟨h0, trivial⟩ ?_
      refine (cloneU_any _ _ us _ (hus.ext (hx0.trans hq)) hl3).mono ?_
      rintro e w' ⟨v', rfl, hown, hx'⟩
      exact ⟨_, rfl, hx', hown.mono hq.size⟩
    · intro wq hq hd
      obtain ⟨h0, h1, h2, h3, h4, h5, h6, -⟩ := hd
      refine ob_plain rfl ?_
      exact yld_fld 27 3 (.tmp 1) rfl _ Tryz.underlying27 _ rfl 1 Tryz.sizeOf24 (by decide) w.heap.size 0 rfl rfl
    · intro wq hq hT
      have k2 := hT 2 (by decide)
      change (TOwn wordEl wz.heap.size hl).p (v 2) wq at k2
      have k5 := hT 5 (by decide)
      change (TOwn wordEl wz.heap.size wl).p (v 5) wq at k5
      have k8 := hT 8 (by decide)
      change (TOwn unitEl wz.heap.size us).p (v 8) wq at k8
      have k9 := hT 9 (by decide)
      change v 9 = _ at k9
      clear hT
      simp only [List.drop_succ_cons, List.drop_zero, putE, setsE, List.set_cons_succ, List.set_cons_zero, Nat.reduceAdd]
      generalize v 2 = x2 at k2 ⊢
      generalize v 5 = x5 at k5 ⊢
      generalize v 8 = x8 at k8 ⊢
      rw [k9]
      obtain ⟨A1, c1, rfl, hc1, -⟩ := Own.form k2
      obtain ⟨A2, c2, rfl, hc2, -⟩ := Own.form k5
      have g1 : Own wordEl wz.heap.size wq (.slice A1 hl.length c1) hl := k2
      have g2 : Own wordEl wz.heap.size wq (.slice A2 wl.length c2) wl := k5
      have hbq := (hq.block (k := w.heap.size) (by omega)).trans Hbx.out
      have hx0q := hx0.trans hq
      have hzq := hq.size
      clear k2 k5
      obtain ⟨A3, c3, rfl, hc3, -⟩ := Own.form k8
      have g3 : Own unitEl wz.heap.size wq (.slice A3 us.length c3) us := k8
      clear k8
      go_wp2_with (first | (refine wpList_fld rfl 27 4 (.tmp 1) rfl _ Tryz.underlying27 _ rfl 1 Tryz.sizeOf24 (by decide) w.heap.size 0 rfl ?_) | (refine wpList_fld rfl 27 5 (.tmp 1) rfl _ Tryz.underlying27 _ rfl 1 Tryz.sizeOf25 (by decide) w.heap.size 0 rfl ?_) |
        (refine wpList_put rfl 24 (.tmp 14) (.tmp 7) rfl w.heap.size 5 (.slice A1 hl.length c1) rfl rfl [.slice A1 hl.length c1] rfl Tryz.sizeOf24 (by simp [Value.oneCell']) 27 _ hbq (by simp [RUnit.cells]) ?_; intro w1 hw1 hos1 htp1 hou1 hs1 hbk1; have hb1 : w1.heap[w.heap.size]? = some (.cells (RUnit.cells ⟨ra, ri, rn, rk, rl, A1, hl.length, c1, wA, wl.length, wc, kA, us.length, kc⟩).toArray 27 (0, 0)) := (hbk1.trans (by simp [RUnit.cells])); have hx1 : Ext w w1 := hx0q.put (Nat.le_refl _) hw1 hos1 htp1 hou1 hs1; have Hs1 := Lib.hid hs1; clear hs1) |
        (refine wpList_put rfl 24 (.tmp 15) (.tmp 10) rfl w.heap.size 6 (.slice A2 wl.length c2) rfl rfl [.slice A2 wl.length c2] rfl Tryz.sizeOf24 (by simp [Value.oneCell']) 27 _ hb1 (by simp [RUnit.cells]) ?_; intro w2 hw2 hos2 htp2 hou2 hs2 hbk2; have hb2 : w2.heap[w.heap.size]? = some (.cells (RUnit.cells ⟨ra, ri, rn, rk, rl, A1, hl.length, c1, A2, wl.length, c2, kA, us.length, kc⟩).toArray 27 (0, 0)) := (hbk2.trans (by simp [RUnit.cells])); have hx2 : Ext w w2 := hx1.put (Nat.le_refl _) hw2 hos2 htp2 hou2 hs2; have Hs2 := Lib.hid hs2; clear hs2) |
        (refine wpList_put rfl 25 (.tmp 16) (.tmp 13) rfl w.heap.size 7 (.slice A3 us.length c3) rfl rfl [.slice A3 us.length c3] rfl Tryz.sizeOf25 (by simp [Value.oneCell']) 27 _ hb2 (by simp [RUnit.cells]) ?_; intro w4 hw4 hos4 htp4 hou4 hs4 hbk4; have hb4 : w4.heap[w.heap.size]? = some (.cells (RUnit.cells ⟨ra, ri, rn, rk, rl, A1, hl.length, c1, A2, wl.length, c2, A3, us.length, c3⟩).toArray 27 (0, 0)) := (hbk4.trans (by simp [RUnit.cells])); have hx4 : Ext w w4 := hx2.put (Nat.le_refl _) hw4 hos4 htp4 hou4 hs4; have Hs4 := Lib.hid hs4; clear hs4; have f7 := (unitBlock hb4).2.2.2.2.2.2.2; dsimp only at f7))
      have hz4 : wz.heap.size ≤ w4.heap.size := by rw [Hs4.out, Hs2.out, Hs1.out]; exact hzq
      have e4 : ∀ k, k ≠ w.heap.size → w4.heap[k]? = wq.heap[k]? := fun k hk => (hw4 k hk).trans ((hw2 k hk).trans (hw1 k hk))
      have g1' : Own wordEl wz.heap.size w4 (.slice A1 hl.length c1) hl := g1.keep fun k hk => e4 k (by have := (g1.lt k hk).1; omega)
      have g2' : Own wordEl wz.heap.size w4 (.slice A2 wl.length c2) wl := g2.keep fun k hk => e4 k (by have := (g2.lt k hk).1; omega)
      have g3' : Own unitEl wz.heap.size w4 (.slice A3 us.length c3) us := g3.keep fun k hk => e4 k (by have := (g3.lt k hk).1; omega)
      have hr4 : w4.heap[w.heap.size + 1]? = some (.cells unit0.cells.toArray 27 (0, 0)) := (e4 _ (by omega)).trans ((hq.block (by omega)).trans Hres.out)
      have o1 := (g1'.inNew).mono (show w.heap.size ≤ wz.heap.size by omega) (Nat.le_refl _)
      have o2 := (g2'.inNew).mono (show w.heap.size ≤ wz.heap.size by omega) (Nat.le_refl _)
      have o3 := (g3'.inNew).mono (show w.heap.size ≤ wz.heap.size by omega) (Nat.le_refl _)
      have Hlt1 := Lib.hid (fun g hg => (g1'.lt g hg).1)
      have Hlt2 := Lib.hid (fun g hg => (g2'.lt g hg).1)
      have Hlt3 := Lib.hid (fun g hg => (g3'.lt g hg).1)
      obtain ⟨m, hm⟩ : ∃ m, m = w4.heap.size := ⟨_, rfl⟩
      rw [← hm] at o1 o2 o3
      have hm1 : w.heap.size + 2 ≤ m := by omega
      have hm2 : m ≤ w4.heap.size := by omega
      clear hm e4 g1 g2 g3 g1' g2' g3' hb1 hb2 hbq hbk1 hbk2 hbk4 hw1 hw2 hw4 hos1 hos2 hos4 htp1 htp2 htp4 hou1 hou2 hou4 hx1 hx2 hx0q hzq hq Hs1 Hs2 Hs4 hz4 w1 w2
      go_wp2
      clear f7
      go_loopw [3, 4, 20] (fun _ _ i wr => ∃ (k : Nat) (rs : List RUnit), k ≤ us.length ∧ i = .int .i64 k ∧ Hid (rs.length = k) ∧ wr.heap[w.heap.size]? = some (.cells (RUnit.cells ⟨ra, ri, rn, rk, rl, A1, hl.length, c1, A2, wl.length, c2, A3, us.length, c3⟩).toArray 27 (0, 0)) ∧ wr.heap[w.heap.size + 1]? = some (.cells unit0.cells.toArray 27 (0, 0)) ∧ OwnIn unitEl wr (.slice A3 us.length c3) (rs ++ us.drop k) w.heap.size m ∧
        OwnIn wordEl wr (.slice A1 hl.length c1) hl w.heap.size m ∧ OwnIn wordEl wr (.slice A2 wl.length c2) wl w.heap.size m ∧ Hid (SepL wr (kids.take k) rs m wr.heap.size) ∧ Ext w wr ∧ m ≤ wr.heap.size) (fun _ _ i _ => us.length - (intOf i).toNat)
      case atStart => exact ⟨0, [], Nat.zero_le _, rfl, Lib.hid rfl, hb4, hr4, o3, o1, o2, Lib.hid (by rw [List.take_zero, SepL]; exact hm2), hx4, hm2⟩
      case round =>
        obtain ⟨k, rs, hk, rfl, Hrl, hbk, hrk, o3, o1, o2, Hsep, hext, hmr⟩ := hrel
        by_cases hlt : k < us.length
        · have hltk : k < kids.length := by have := Hul.out; omega
          obtain ⟨xs, hxs⟩ : ∃ xs, rs ++ us.drop k = xs := ⟨_, rfl⟩
          have hxl : xs.length = us.length := by rw [← hxs, List.length_append, List.length_drop, Hrl.out]; omega
          rw [hxs] at o3
          have hltx : k < xs.length := by omega
          obtain ⟨q, hq⟩ : ∃ q, us[k] = q := ⟨_, rfl⟩
          have hxk : xs[k] = q := by
            subst hxs
            rw [List.getElem_append_right (by rw [Hrl.out]; exact Nat.le_refl _)]
            simp [Hrl.out, hq]
          have ho : Own unitEl w.heap.size wr (.slice A3 xs.length c3) xs := by rw [hxl]; exact o3.1
          obtain ⟨gb, cc, hv, hgb1, hgb2, -⟩ := ho.head (by intro h; rw [h] at hltx; simp at hltx)
          rw [Value.slice.injEq] at hv
          obtain ⟨rfl, -, rfl⟩ := hv
          have hgb3 := o3.2 gb rfl
          have hgb4 := Hlt3.out gb rfl
          have hslx := (Own.form ho)
          obtain ⟨_, _, hvx, -, hslx⟩ := hslx
          cases hvx
          obtain ⟨cur, hcur⟩ := ho.blk
          have Hcur := Lib.hid hcur
          have Ho := Lib.hid ho
          have Hq := Lib.hid (show xs[k]? = some q by rw [List.getElem?_eq_getElem hltx, hxk])
          have Hsl := Lib.hid (fun w' (he : Ext wr w') => hslx.ext he)
          have Hxl := Lib.hid hxl
          have Hxs := Lib.hid hxs
          have hsub : SizeOf.sizeOf kids[k] ≤ N := by
            have a1 := List.sizeOf_lt_of_mem (List.getElem_mem hltk)
            have a2 := HN.out
            simp at a2
            omega
          have hwk : Ext wr (wr.alloc (.cells #[.int .i64 q.a, .int .i64 q.i, .int .i64 q.n, .int .i64 q.kind, .string q.label, .slice q.hA q.hn q.hc, .slice q.wA q.wn q.wc, .slice q.kA q.kn q.kc] 27)) := (Ext.refl _).alloc _
          have Hrec := Lib.hid (fun w' (he : Ext (wr.alloc (.cells #[.int .i64 q.a, .int .i64 q.i, .int .i64 q.n, .int .i64 q.kind, .string q.label, .slice q.hA q.hn q.hc, .slice q.wA q.wn q.wc, .slice q.kA q.kn q.kc] 27)) w') => ih kids[k] q w' hsub (Reads.ext (hext.trans (hwk.trans he)) _ _ (hq ▸ ReadsAll.get Hall.out k hltk hlt)) (HA.out.get k hltk))
          have hbrl := block_lt hbk
          have Hbr := Lib.hid (show ∀ w', Ext (wr.alloc (.cells #[.int .i64 q.a, .int .i64 q.i, .int .i64 q.n, .int .i64 q.kind, .string q.label, .slice q.hA q.hn q.hc, .slice q.wA q.wn q.wc, .slice q.kA q.kn q.kc] 27)) w' → _ from fun w' he => blockT hbk hbrl (hwk.trans he))
          have Hqb := Lib.hid (show ∀ w', Ext (wr.alloc (.cells #[.int .i64 q.a, .int .i64 q.i, .int .i64 q.n, .int .i64 q.kind, .string q.label, .slice q.hA q.hn q.hc, .slice q.wA q.wn q.wc, .slice q.kA q.kn q.kc] 27)) w' → (TCells [.int .i64 q.a, .int .i64 q.i, .int .i64 q.n, .int .i64 q.kind, .string q.label, .slice q.hA q.hn q.hc, .slice q.wA q.wn q.wc, .slice q.kA q.kn q.kc]).p (.pointer (some ⟨wr.heap.size, 0, none⟩)) w' from fun w' he => boxT q he)
          obtain ⟨_, _, hAe, hbq2, u0, u1, u2, u3, u4, u5, u6, u7⟩ := unitAtK hslx hltx hxk
          cases hAe
          rw [Nat.zero_add] at u0 u1 u2 u3 u4 u5 u6 u7
          simp only [RUnit.cells] at Hbr Hrec
          have f7 := (unitBlock hbk).2.2.2.2.2.2.2
          dsimp only at f7
          have d1 : decide ((k : Int) < (us.length : Int)) = true := decide_eq_true (by omega)
          clear hxl hxs hxk hq hsub ho hslx hcur
          go_wp2
          refine wp_drawn_tail 5 (fun i => match i with | 0 => TCells [.slice (some ⟨gb, 0, none⟩) us.length c3] | 1 => Ty.is (.slice (some ⟨gb, 0, none⟩) us.length c3) | 2 => Ty.is (.int .i64 k) | 3 => Ty.is (.agg #[.int .i64 q.a, .int .i64 q.i, .int .i64 q.n, .int .i64 q.kind, .string q.label, .slice q.hA q.hn q.hc, .slice q.wA q.wn q.wc, .slice q.kA q.kn q.kc]) | 4 => TSep wr.heap.size kids[k] | _ => Ty.any) (by kernel_rfl) (by kernel_rfl) (by kernel_rfl) (by decide) rfl ?_
          intro v
          refine ⟨?_, ?_, ?_, ?_, ?_, ?_⟩
          · intro wq hq hd
            refine ob_plain rfl ?_
            exact yld_field 27 5 (.tmp 1) rfl _ Tryz.underlying27 _ rfl 1 Tryz.sizeOf25 (by decide) [.int .i64 ra, .int .i64 ri, .int .i64 rn, .int .i64 rk, .string rl, .slice A1 hl.length c1, .slice A2 wl.length c2, .slice (some ⟨gb, 0, none⟩) us.length c3] ((Hbr.out _ hq))
          · intro wq hq hd
            obtain ⟨h0, -⟩ := hd
            change (TCells [.slice (some ⟨gb, 0, none⟩) us.length c3]).p (v 0) wq at h0
            refine ob_plain rfl ?_
            exact yld_loadOne 25 (.tmp 25) rfl Tryz.isAgg25 (c := .slice (some ⟨gb, 0, none⟩) us.length c3) h0 rfl
          · intro wq hq hd
            refine ob_plain rfl ?_
            exact yld_move (.tmp 3) rfl rfl rfl
          · intro wq hq hd
            refine ob_plain rfl ?_
            exact yld_loadAgg 27 (.tmp 4) rfl Tryz.isAgg27 8 Tryz.sizeOf27 [.int .i64 q.a, .int .i64 q.i, .int .i64 q.n, .int .i64 q.kind, .string q.label, .slice q.hA q.hn q.hc, .slice q.wA q.wn q.wc, .slice q.kA q.kn q.kc] rfl (Hqb.out _ hq) rfl
          · intro wq hq hd
            obtain ⟨h0, -⟩ := hd
            change v 3 = _ at h0
            refine ob_plain rfl ?_
            refine yld_call 58 Tryz.call58 _ _ rfl rfl [_] ⟨h0, trivial⟩ ?_
            refine (Hrec.out _ hq).mono ?_
            rintro e w' ⟨r', rfl, hx', hsep⟩
            exact ⟨_, rfl, hx', r', _, rfl, Sep.mono_lo (Nat.le_trans hwk.size hq.size) _ _ _ hsep, Nat.le_refl _⟩
          · intro wq hq hT
            have k1 := hT 1 (by decide)
            change v 1 = _ at k1
            have k2 := hT 2 (by decide)
            change v 2 = _ at k2
            have k4 := hT 4 (by decide)
            change (TSep wr.heap.size kids[k]).p (v 4) wq at k4
            clear hT
            simp only [List.drop_succ_cons, List.drop_zero, putE, setsE, List.set_cons_succ, List.set_cons_zero, Nat.reduceAdd]
            rw [k1]
            rw [k2]
            generalize v 4 = x4 at k4 ⊢
            obtain ⟨r', hi8, rfl, hsep8, hhi⟩ := k4
            replace hq := hwk.trans hq
            have hownq := (Ho.out).ext hq
            have hqs := hq.size
            clear Hbr Hsl Hrec Hqb
            go_wp2_with (refine wpList_putOwn unitEl rfl (.tmp 30) (.tmp 29) rfl gb c3 k (k * 8) r' (.agg r'.cells.toArray) rfl rfl rfl rfl hownq hltx ?_; intro w3 hw3 hos3 htp3 hou3 hs3 hown3)
            have hrow3 : OwnIn unitEl w3 (.slice (some ⟨gb, 0, none⟩) us.length c3) ((rs ++ [r']) ++ us.drop (k + 1)) w.heap.size m := by
              have e1 : us.drop k = us[k] :: us.drop (k + 1) := List.drop_eq_getElem_cons hlt
              have e2 : xs.set k r' = (rs ++ [r']) ++ us.drop (k + 1) := by
                rw [← Hxs.out, e1, List.set_append_right _ _ (by rw [Hrl.out]; exact Nat.le_refl _), Hrl.out, Nat.sub_self, List.set_cons_zero, List.append_assoc]
                rfl
              rw [← e2]
              have e3 := hown3
              rw [Hxl.out] at e3
              exact ⟨e3, fun g hg => by cases hg; exact hgb3⟩
            have hsepn : SepL w3 (kids.take (k + 1)) (rs ++ [r']) m w3.heap.size := by
              rw [List.take_succ_eq_append_getElem hltk]
              have s1 : SepL w3 (kids.take k) rs m wr.heap.size := SepL.keep _ _ _ _ Hsep.out fun j hj hj2 => (hw3 j (by omega)).trans (hq.block hj2)
              have s2 : Sep w3 kids[k] r' wr.heap.size hi8 := Sep.keep _ _ _ _ hsep8 fun j hj hj2 => hw3 j (by omega)
              exact SepL.mono_hi (by rw [hs3]; exact hhi) (SepL.snoc s1 s2)
            have hne : ∀ {v : Value} {zs : List GWord}, OwnIn wordEl wr v zs w.heap.size m → OwnIn wordEl w3 v zs w.heap.size m := fun {v zs} o => by
              have hn := o.1.ne Hcur.out (by decide)
              exact ⟨o.1.keep fun g hg => (hw3 g (hn g hg)).trans (hq.block (by have := o.2 g hg; omega)), o.2⟩
            have o1n := hne o1
            have o2n := hne o2
            have hb3 := (hw3 w.heap.size (by omega)).trans ((hq.block (by omega)).trans hbk)
            have hr3 := (hw3 (w.heap.size + 1) (by omega)).trans ((hq.block (by omega)).trans hrk)
            have hx3 : Ext w w3 := (hext.trans hq).put hgb1 hw3 hos3 htp3 hou3 hs3
            have hm3 : m ≤ w3.heap.size := by omega
            have Hsn := Lib.hid hsepn
            have Hrn := Lib.hid (show (rs ++ [r']).length = k + 1 by rw [List.length_append, Hrl.out]; rfl)
            clear hne hsepn hw3 hos3 htp3 hou3 hs3 hown3 hownq
            go_wp2
            go_roundw
            case rel => exact ⟨k + 1, rs ++ [r'], by omega, by go_num, Hrn, hb3, hr3, hrow3, o1n, o2n, Hsn, hx3, hm3⟩
            case measure => simp [intOf]; omega
        · have hkl : k = us.length := by omega
          have hsep := Hsep.out
          have hrl := Hrl.out
          rw [hkl, Hul.out, List.take_length] at hsep
          rw [hkl, List.drop_length, List.append_nil] at o3
          rw [hkl] at hrl
          have Hsp := Lib.hid hsep
          have HRl := Lib.hid hrl
          obtain ⟨f0, f1, f2, f3, f4, f5, f6, f7⟩ := unitBlock hbk
          dsimp only at f0 f1 f2 f3 f4 f5 f6 f7
          clear hsep hrl hkl Hrl Hsep
          go_wp2_with (refine wpList_put rfl 27 (.tmp 2) (.tmp 32) rfl (w.heap.size + 1) 0 (.agg (RUnit.cells ⟨ra, ri, rn, rk, rl, A1, hl.length, c1, A2, wl.length, c2, A3, us.length, c3⟩).toArray) rfl rfl (RUnit.cells ⟨ra, ri, rn, rk, rl, A1, hl.length, c1, A2, wl.length, c2, A3, us.length, c3⟩) rfl Tryz.sizeOf27 (by simp [RUnit.cells, Value.oneCell']) 27 _ hrk (by simp [unit0, RUnit.cells]) ?_; intro w3 hw3 hos3 htp3 hou3 hs3 hbk3)
          have hfin : w3.heap[w.heap.size + 1]? = some (.cells (RUnit.cells ⟨ra, ri, rn, rk, rl, A1, hl.length, c1, A2, wl.length, c2, A3, us.length, c3⟩).toArray 27 (0, 0)) := by
            rw [hbk3]
            simp [RUnit.cells, unit0]
          have hn1 : ∀ g, (Value.slice A1 hl.length c1).ownBlock = some g → g ≠ w.heap.size + 1 := fun g hg => by have := Hlt1.out g hg; omega
          have hn2 : ∀ g, (Value.slice A2 wl.length c2).ownBlock = some g → g ≠ w.heap.size + 1 := fun g hg => by have := Hlt2.out g hg; omega
          have hn3 : ∀ g, (Value.slice A3 us.length c3).ownBlock = some g → g ≠ w.heap.size + 1 := fun g hg => by have := Hlt3.out g hg; omega
          (try simp only [Exit.inBlock, Exit.then])
          refine bodyPost_ret (results_cell1 rfl _ _ (w.heap.size + 1) _ rfl hfin) rfl ?_
          refine ⟨_, rfl, hext.put (Nat.le_succ _) hw3 hos3 htp3 hou3 hs3, ?_⟩
          rw [Sep]
          exact ⟨⟨rfl, rfl, rfl, rfl, rfl⟩, m, rs, by omega, by omega, ⟨rfl, o1.1.keep fun g hg => hw3 g (hn1 g hg), o1.2⟩, ⟨rfl, o2.1.keep fun g hg => hw3 g (hn2 g hg), o2.2⟩, ⟨Hul.out, o3.1.keep fun g hg => hw3 g (hn3 g hg), o3.2⟩,
            SepL.mono_hi (by omega) (SepL.keep _ _ _ _ Hsp.out fun j hj hj2 => hw3 j (by omega))⟩
theorem copyT_rec : ∀ N, CopyTAt N
  | 0 => fun u _ _ h => by obtain ⟨a, i, n, kd, lb, hl, wl, kids⟩ := u; simp at h
  | N + 1 => copyT_step N (copyT_rec N)
theorem copiedT_any (u : GUnit) (r : RUnit) (w : World) (hr : Reads w u r) (hA : AllU (lensLe 1048576 1048576) u) :
    Calls Tryz.prog 58 #[.agg r.cells.toArray] w fun e w' => ∃ r' : RUnit, e = .returned (.agg r'.cells.toArray) ∧ Ext w w' ∧ Sep w' u r' w.heap.size w'.heap.size := copyT_rec _ u r w (Nat.le_refl _) hr hA
end Go.Proofs.YtjhdamjbljafhaaGreatDoor
