/- The reference's Set: the rows and the cells of the row are copied, the cell's words are new. -/
import Derived.Test.YthjlnpcanccmkaaSet9
namespace Go.Proofs.Ythjlnpcanccmkaa
open Go.RowKit

/-- what an append to an empty row hands back -/
def TNew {P : Program} {α : Type} (D : El P α) (base : Nat) (ys : List α) : Ty := ⟨fun v w => ∃ A c, v = .slice A ys.length c ∧ ys.length ≤ c ∧ (ys ≠ [] → Own D base w v ys), fun _ _ _ he ⟨A, c, h1, h2, h3⟩ => ⟨A, c, h1, h2, fun h => (h3 h).ext he⟩⟩
section
variable {P : Program} {ρ : Operand → Value} {o : Oper} {w : World} {α : Type} {A B : Option Addr} {ys : List α}
theorem yld_empty (D : El P α) (ho : o.op = .buildSlice D.t 0 #[]) (hr : ∀ w, (Instr.buildSlice D.t 0 #[]).run P w = .ok (.slice (some ⟨w.heap.size, 0, none⟩) 0 0) (w.alloc (.cells #[] D.e))) : Yld P ρ o w (TFull D []).p := by
  refine yld_run (w' := w.alloc (.cells #[] D.e)) (v := .slice (some ⟨w.heap.size, 0, none⟩) 0 0) ?_ ((Ext.refl _).alloc _) ⟨_, rfl, Sl.nil⟩
  simp [execOp, ho, hr]
theorem yld_new (D : El P α) (s x : Operand) (ho : o.op = .call { callee := .builtin .append, args := #[s, x], argTypes := #[D.t, D.t] }) (c : Nat) {base : Nat} (hs : ρ s = .slice A 0 0) (hx : ρ x = .slice B ys.length c) (h2 : Sl D w B ys) (hn : ys.length ≤ 68719476736) (hbase : base ≤ w.heap.size) :
    Yld P ρ o w (TNew D base ys).p := by
  refine (yld_appFull (xs := []) D s x ho c base hs hx Sl.nil h2 (by simpa using hn) hbase).imp ?_
  rintro v w' (⟨h, hown⟩ | ⟨h, A', rfl, hs'⟩)
  · rw [List.nil_append] at hown
    obtain ⟨A', c', e, hc, -⟩ := hown.form
    exact ⟨A', c', e, hc, fun _ => hown⟩
  · subst h
    exact ⟨A', 0, rfl, Nat.le_refl _, fun h => absurd rfl h⟩
end

set_option maxRecDepth 100000 in
set_option maxHeartbeats 3200000 in
theorem refSet_any (u : GUnit) (r : RUnit) (ki kj : Nat) (lA : Option Addr) (lc : Nat) (l : List GWord) (w : World) (hr : Reads w u r) (hsl : Sl wordEl w lA l) (ht : thereB u ki kj = true) (hll : l.length ≤ 256) :
    Calls Try.prog 28 #[.agg r.cells.toArray, .int .i64 (ki : Nat), .int .i64 (kj : Nat), .slice lA l.length lc] w fun e w' => ∃ r' : RUnit, e = .returned (.agg r'.cells.toArray) ∧ Ext w w' ∧ Reads w' (setU u ki kj l) r' := by
  obtain ⟨hvb, h1, h2, h3, h4⟩ := there_parts2 ht
  obtain ⟨-, hv2, hv3, hv4⟩ := validB_parts hvb
  obtain ⟨nc, hnc⟩ : ∃ nc, ncols u = nc := ⟨_, rfl⟩
  rw [hnc] at h4 hv3 hv4
  obtain ⟨ua, ui, un, ukd, ulb, uh, uw, kids⟩ := u
  obtain ⟨ra, ri, rn, rk, rl, rhA, rhn, rhc, rwA, rwn, rwc, rkA, rkn, rkc⟩ := r
  simp only [GUnit.kids] at h2 hv4 hv2
  rw [Reads] at hr
  obtain ⟨hsc, ⟨hh1, hh2, hh3⟩, ⟨hw1, hw2, hw3⟩, hkn, hkc, us, hus, hall⟩ := hr
  dsimp only at hsc hh1 hh2 hh3 hw1 hw2 hw3 hkn hkc hus
  have hul := ReadsAll.length hall
  have hi1 : ki < kids.length := by omega
  have hi2 : ki < us.length := by omega
  obtain ⟨-, hrl, -⟩ := rowOk_parts (all_get hv4 ki hi1)
  obtain ⟨q, hq0⟩ : ∃ q, us[ki] = q := ⟨_, rfl⟩
  obtain ⟨v, hv0⟩ : ∃ v, kids[ki] = v := ⟨_, rfl⟩
  have hrq := ReadsAll.get hall ki hi1 hi2
  rw [hq0, hv0] at hrq
  rw [hv0] at hrl
  obtain ⟨va, vi, vn, vk, vl, vh, vw, cells⟩ := v
  obtain ⟨qa, qi, qn, qk, ql, qhA, qhn, qhc, qwA, qwn, qwc, qkA, qkn, qkc⟩ := q
  rw [Reads] at hrq
  obtain ⟨qsc, ⟨qh1, qh2, qh3⟩, ⟨qw1, qw2, qw3⟩, qkn', qkc', cs, hcs, hcall⟩ := hrq
  dsimp only at qsc qh1 qh2 qh3 qw1 qw2 qw3 qkn' qkc' hcs
  simp only [GUnit.kids] at hrl
  have hcl := ReadsAll.length hcall
  have hj1 : kj < cells.length := by omega
  have hj2 : kj < cs.length := by omega
  obtain rfl : rkn = us.length := by omega
  obtain rfl : qkn = cs.length := by omega
  have hcb : cs.length ≤ 64 := by omega
  have hub : us.length ≤ 64 := by omega
  have hne : us ≠ [] := by intro h; rw [h] at hi2; simp at hi2
  have hne2 : cs ≠ [] := by intro h; rw [h] at hj2; simp at hj2
  have hat : us[ki]? = some ⟨qa, qi, qn, qk, ql, qhA, qhn, qhc, qwA, qwn, qwc, qkA, cs.length, qkc⟩ := by rw [List.getElem?_eq_getElem hi2, hq0]
  have hreads : ∀ (w' : World) (g kc g1 cc : _) (A : Option Addr) (c : Nat), Ext w w' → us.length ≤ kc → cs.length ≤ cc → Sl wordEl w' A l → l.length ≤ c → Sl unitEl w' (some ⟨g, 0, none⟩) (us.set ki ⟨qa, qi, qn, qk, ql, qhA, qhn, qhc, qwA, qwn, qwc, some ⟨g1, 0, none⟩, cs.length, cc⟩) → Sl unitEl w' (some ⟨g1, 0, none⟩) (cs.set kj (cs[kj].withWords A l.length c)) →
      Reads w' (setU (.mk ua ui un ukd ulb uh uw kids) ki kj l) ⟨ra, ri, rn, rk, rl, rhA, rhn, rhc, rwA, rwn, rwc, some ⟨g, 0, none⟩, us.length, kc⟩ := by
    intro w' g kc g1 cc A c he hc1 hc2 hs3 hc3 hs1 hs2
    unfold setU
    rw [modKid_eq hi1, Reads]
    refine ⟨hsc, ⟨hh1, hh2, hh3.ext he⟩, ⟨hw1, hw2, hw3.ext he⟩, by rw [List.length_set]; exact hul, by rw [List.length_set, ← hul]; exact hc1, _, hs1, ?_⟩
    refine ReadsAll.of_get (by rw [List.length_set, List.length_set]; exact hul) fun k g1' g2' => ?_
    rw [List.length_set] at g1' g2'
    rw [List.getElem_set, List.getElem_set]
    by_cases hki : ki = k
    · rw [if_pos hki, if_pos hki]
      subst hki
      rw [hv0, modKid_eq hj1, Reads]
      refine ⟨qsc, ⟨qh1, qh2, qh3.ext he⟩, ⟨qw1, qw2, qw3.ext he⟩, by rw [List.length_set]; exact hcl, by rw [List.length_set, ← hcl]; exact hc2, _, hs2, ?_⟩
      refine ReadsAll.of_get (by rw [List.length_set, List.length_set]; exact hcl) fun k' g3' g4' => ?_
      rw [List.length_set] at g3' g4'
      have hk' := Reads.ext he _ _ (ReadsAll.get hcall k' g3' g4')
      rw [List.getElem_set, List.getElem_set]
      by_cases hkj : kj = k'
      · rw [if_pos hkj, if_pos hkj]
        subst hkj
        obtain ⟨cu, hcu⟩ : ∃ cu, cells[kj] = cu := ⟨_, rfl⟩
        rw [hcu] at hk' ⊢
        obtain ⟨_, _, _, _, _, _, _, _⟩ := cu
        rw [Reads] at hk'
        unfold setWords RUnit.withWords
        rw [Reads]
        exact ⟨hk'.1, hk'.2.1, ⟨rfl, hc3, hs3⟩, hk'.2.2.2⟩
      · rw [if_neg hkj, if_neg hkj]
        exact hk'
    · rw [if_neg hki, if_neg hki]
      exact Reads.ext he _ _ (ReadsAll.get hall k g1' g2')
  obtain ⟨wz, hwz⟩ : ∃ wz, ((w.alloc (.cells (RUnit.cells ⟨ra, ri, rn, rk, rl, rhA, rhn, rhc, rwA, rwn, rwc, rkA, us.length, rkc⟩).toArray 27)).alloc (.cells unit0.cells.toArray 27)) = wz := ⟨_, rfl⟩
  have hx0 : Ext w wz := by rw [← hwz]; exact ((Ext.refl w).alloc _).alloc _
  have hbe : wz.heap[w.heap.size]? = some (.cells (RUnit.cells ⟨ra, ri, rn, rk, rl, rhA, rhn, rhc, rwA, rwn, rwc, rkA, us.length, rkc⟩).toArray 27 (0, 0)) := by
    rw [← hwz]
    have e := ((Ext.refl (w.alloc (.cells (RUnit.cells ⟨ra, ri, rn, rk, rl, rhA, rhn, rhc, rwA, rwn, rwc, rkA, us.length, rkc⟩).toArray 27))).alloc (.cells unit0.cells.toArray 27)).block (k := w.heap.size) (by simp)
    exact e.trans (heap_alloc_new w _)
  have hres : wz.heap[w.heap.size + 1]? = some (.cells unit0.cells.toArray 27 (0, 0)) := by
    rw [← hwz]
    have e := heap_alloc_new (w.alloc (.cells (RUnit.cells ⟨ra, ri, rn, rk, rl, rhA, rhn, rhc, rwA, rwn, rwc, rkA, us.length, rkc⟩).toArray 27)) (.cells unit0.cells.toArray 27)
    rw [show (w.alloc (.cells (RUnit.cells ⟨ra, ri, rn, rk, rl, rhA, rhn, rhc, rwA, rwn, rwc, rkA, us.length, rkc⟩).toArray 27)).heap.size = w.heap.size + 1 from by simp] at e
    exact e
  have hz1 : w.heap.size + 2 ≤ wz.heap.size := by
    rw [← hwz]; simp
  have hzz : wz.heap.size = w.heap.size + 1 + 1 := by
    rw [← hwz]; simp
  have hmade : Own unitEl wz.heap.size (wz.alloc (.cells #[] 27)) (.slice (some ⟨w.heap.size + 1 + 1, 0, none⟩) 0 0) [] := by
    have := Own.made unitEl (w := wz) (Nat.le_refl _)
    rw [hzz] at this ⊢
    exact this
  clear hzz
  have Hmade := Lib.hid hmade
  clear hmade
  have hus0 : Sl unitEl wz rkA us := hus.ext hx0
  have hfz := fun w' (he : Ext wz w') => unitBlock ((he.block (k := w.heap.size) (by omega)).trans hbe)
  simp only [RUnit.cells, unit0] at hwz
  simp only [RUnit.cells]
  have Hwz := Lib.hid hwz
  have Hres := Lib.hid hres
  have Hbe := Lib.hid hbe
  have Hreads := Lib.hid hreads
  have Hat := Lib.hid hat
  obtain ⟨-, -, -, -, -, -, -, f7⟩ := hfz (wz.alloc (.cells #[] 27)) ((Ext.refl wz).alloc _)
  dsimp only at f7
  clear hfz hwz hres hbe hreads hat hall hcall hq0 hv0 hrl hkn hkc qkn' qkc' hh1 hh2 hh3 hw1 hw2 hw3 qh1 qh2 qh3 qw1 qw2 qw3 hsc qsc hvb hv2 hv3 hv4 h4 h3 h2 h1 hnc ht hul hcl hus
  go_enter Try.func28, Try.ntmps28
  go_wp2_with (first | (at_builtin; rw [Hwz.out]; refine wpList_app unitEl rfl _ _ rfl rkc rfl Hmade.out rfl (hus0.ext ((Ext.refl _).alloc _)) (by simp; omega) (by simp) ?_; intro v1 wa hown1 hba hga; simp only [List.nil_append] at hown1; obtain ⟨g, kc, rfl, hg1, hg2, hg3⟩ := hown1.head hne; have hxa : Ext wz wa := ((Ext.refl wz).alloc _).trans' hba; have hbx := (hxa.block (k := w.heap.size) (by omega)).trans Hbe.out; have hrx := (hxa.block (k := w.heap.size + 1) (by omega)).trans Hres.out) |
    (refine wpList_put rfl 25 (.tmp 13) (.tmp 12) rfl w.heap.size 7 (.slice (some ⟨g, 0, none⟩) us.length kc) rfl rfl [.slice (some ⟨g, 0, none⟩) us.length kc] rfl Try.sizeOf25 (by simp [Value.oneCell']) 27 _ hbx (by simp [RUnit.cells]) ?_; intro w1 hw1 hos1 htp1 hou1 hs1 hbk1; have Hs1 := Lib.hid hs1; clear hs1))
  have hb1 : w1.heap[w.heap.size]? = some (.cells (RUnit.cells ⟨ra, ri, rn, rk, rl, rhA, rhn, rhc, rwA, rwn, rwc, some ⟨g, 0, none⟩, us.length, kc⟩).toArray 27 (0, 0)) := by rw [hbk1]; simp [RUnit.cells]
  have hr1 := (hw1 (w.heap.size + 1) (by omega)).trans hrx
  have hx1 : Ext w w1 := (hx0.trans hxa).put (Nat.le_refl _) hw1 hos1 htp1 hou1 Hs1.out
  have hus1 : Own unitEl wz.heap.size w1 (.slice (some ⟨g, 0, none⟩) us.length kc) us := hown1.keep fun k hk => hw1 k (by cases hk; show g ≠ _; omega)
  have hlt1 : w.heap.size + 1 < w1.heap.size := block_lt hr1
  have hgl : g < w1.heap.size := (hus1.lt g rfl).2
  obtain ⟨_, _, hvv, -, hsl1⟩ := hus1.form
  cases hvv
  have Hb1 := Lib.hid (show ∀ w', Ext w1 w' → _ from fun w' he => blockT hb1 (by omega) he)
  simp only [RUnit.cells] at Hb1
  have Hus := Lib.hid (fun w' (he : Ext w1 w') => hsl1.ext he)
  have Hbb1 := Lib.hid hb1
  have Hrr1 := Lib.hid hr1
  have Hus1 := Lib.hid hus1
  clear hw1 hos1 htp1 hou1 hbk1 hb1 hr1 hus1 hsl1 hown1 hbx hrx f7 Hbe Hres Hwz Hmade hus0 hba hga
  refine wp_drawn_tail 11 (fun i => match i with | 0 => TCells [.slice (some ⟨g, 0, none⟩) us.length kc] | 1 => Ty.is (.slice (some ⟨g, 0, none⟩) us.length kc) | 2 => Ty.is (.int .i64 (ki : Nat)) | 3 => TFull unitEl [] | 4 => TCells [.slice (some ⟨g, 0, none⟩) us.length kc] | 5 => Ty.is (.slice (some ⟨g, 0, none⟩) us.length kc) | 6 => Ty.is (.int .i64 (ki : Nat)) | 7 => TCells [.int .i64 qa, .int .i64 qi, .int .i64 qn, .int .i64 qk, .string ql, .slice qhA qhn qhc, .slice qwA qwn qwc, .slice qkA cs.length qkc] | 8 => TCells [.slice qkA cs.length qkc] | 9 => Ty.is (.slice qkA cs.length qkc) | 10 => TNew unitEl w1.heap.size cs | _ => Ty.any) (by kernel_rfl) (by kernel_rfl) (by kernel_rfl) (by decide) rfl ?_
  intro v
  refine ⟨?_, ?_, ?_, ?_, ?_, ?_, ?_, ?_, ?_, ?_, ?_, ?_⟩
  · intro wq hq hd
    refine ob_plain rfl ?_
    exact yld_field 27 5 (.tmp 4) rfl _ Try.underlying27 _ rfl 1 Try.sizeOf25 (by decide) [.int .i64 ra, .int .i64 ri, .int .i64 rn, .int .i64 rk, .string rl, .slice rhA rhn rhc, .slice rwA rwn rwc, .slice (some ⟨g, 0, none⟩) us.length kc] (Hb1.out _ hq)
  · intro wq hq hd
    obtain ⟨h0, -⟩ := hd
    change (TCells [.slice (some ⟨g, 0, none⟩) us.length kc]).p (v 0) wq at h0
    refine ob_plain rfl ?_
    exact yld_loadOne 25 (.tmp 14) rfl Try.isAgg25 (c := .slice (some ⟨g, 0, none⟩) us.length kc) h0 rfl
  · intro wq hq hd
    refine ob_plain rfl ?_
    exact yld_move (.tmp 1) rfl rfl rfl
  · intro wq hq hd
    refine ob_plain rfl ?_
    exact yld_empty unitEl rfl (fun w => by change (Instr.buildSlice 25 0 _).run _ w = _; go_simp; rfl)
  · intro wq hq hd
    refine ob_plain rfl ?_
    exact yld_field 27 5 (.tmp 4) rfl _ Try.underlying27 _ rfl 1 Try.sizeOf25 (by decide) [.int .i64 ra, .int .i64 ri, .int .i64 rn, .int .i64 rk, .string rl, .slice rhA rhn rhc, .slice rwA rwn rwc, .slice (some ⟨g, 0, none⟩) us.length kc] (Hb1.out _ hq)
  · intro wq hq hd
    obtain ⟨h0, -⟩ := hd
    change (TCells [.slice (some ⟨g, 0, none⟩) us.length kc]).p (v 4) wq at h0
    refine ob_plain rfl ?_
    exact yld_loadOne 25 (.tmp 18) rfl Try.isAgg25 (c := .slice (some ⟨g, 0, none⟩) us.length kc) h0 rfl
  · intro wq hq hd
    refine ob_plain rfl ?_
    exact yld_move (.tmp 1) rfl rfl rfl
  · intro wq hq hd
    obtain ⟨h0, h1, -⟩ := hd
    change v 5 = _ at h0
    change v 6 = _ at h1
    refine ob_plain rfl ?_
    exact yld_indexAt unitEl (.tmp 19) _ rfl _ us kc h0 ki h1 (Hus.out _ hq) _ Hat.out
  · intro wq hq hd
    obtain ⟨h0, -⟩ := hd
    change (TCells [.int .i64 qa, .int .i64 qi, .int .i64 qn, .int .i64 qk, .string ql, .slice qhA qhn qhc, .slice qwA qwn qwc, .slice qkA cs.length qkc]).p (v 7) wq at h0
    refine ob_plain rfl ?_
    exact yld_field 27 5 (.tmp 21) rfl _ Try.underlying27 _ rfl 1 Try.sizeOf25 (by decide) [.int .i64 qa, .int .i64 qi, .int .i64 qn, .int .i64 qk, .string ql, .slice qhA qhn qhc, .slice qwA qwn qwc, .slice qkA cs.length qkc] (h0)
  · intro wq hq hd
    obtain ⟨h0, -⟩ := hd
    change (TCells [.slice qkA cs.length qkc]).p (v 8) wq at h0
    refine ob_plain rfl ?_
    exact yld_loadOne 25 (.tmp 22) rfl Try.isAgg25 (c := .slice qkA cs.length qkc) h0 rfl
  · intro wq hq hd
    obtain ⟨h0, h1, -⟩ := hd
    change (TFull unitEl []).p (v 3) wq at h0
    change v 9 = _ at h1
    refine ob_plain rfl ?_
    obtain ⟨A0, e0, -⟩ := h0
    exact yld_new unitEl (.tmp 17) (.tmp 23) rfl qkc e0 h1 (hcs.ext (hx1.trans hq)) (by omega) hq.size
  · intro wb hb hT
    have k1 := hT 1 (by decide)
    change v 1 = _ at k1
    have k2 := hT 2 (by decide)
    change v 2 = _ at k2
    have k10 := hT 10 (by decide)
    change (TNew unitEl w1.heap.size cs).p (v 10) wb at k10
    clear hT
    simp only [List.drop_succ_cons, List.drop_zero, putE, setsE, List.set_cons_succ, List.set_cons_zero, Nat.reduceAdd]
    rw [k1]
    rw [k2]
    generalize v 10 = x10 at k10 ⊢
    obtain ⟨A1, cc, rfl, hcc, hown2⟩ := k10
    replace hown2 := hown2 hne2
    obtain ⟨g1, _, e, hg1a, hg1b, -⟩ := hown2.head hne2
    cases e
    have hous := (Hus1.out).ext hb
    have hq1 : us[ki] = ⟨qa, qi, qn, qk, ql, qhA, qhn, qhc, qwA, qwn, qwc, qkA, cs.length, qkc⟩ := by
      have := Hat.out
      rw [List.getElem?_eq_getElem hi2] at this
      exact Option.some.inj this
    obtain ⟨cur, hcur, hcs', hpat⟩ := Own.patch (k := ki) (f := 7) (vs := [.slice (some ⟨g1, 0, none⟩) cs.length cc]) (r' := ⟨qa, qi, qn, qk, ql, qhA, qhn, qhc, qwA, qwn, qwc, some ⟨g1, 0, none⟩, cs.length, cc⟩) hous hi2 (by rw [hq1]; simp [RUnit.cells, unitEl]) (by simp [unitEl])
    have Hpat := Lib.hid hpat
    have hbb := (hb.block (k := w.heap.size) (by omega)).trans Hbb1.out
    have hbr := (hb.block (k := w.heap.size + 1) (by omega)).trans Hrr1.out
    have hbs := hb.size
    have d1 : decide ((ki : Int) < (us.length : Int)) = true := decide_eq_true (by omega)
    have HQ1 := Lib.hid hq1
    clear hpat hq1 hous
    go_wp2_with (first | (refine wpList_fld rfl 27 5 (.tmp 25) rfl _ Try.underlying27 _ rfl 1 Try.sizeOf25 (by decide) g (ki * 8) rfl ?_) |
      (refine wpList_put rfl 25 (.tmp 26) (.tmp 24) rfl g (ki * 8 + 7) (.slice (some ⟨g1, 0, none⟩) cs.length cc) rfl rfl [.slice (some ⟨g1, 0, none⟩) cs.length cc] rfl Try.sizeOf25 (by simp [Value.oneCell']) 27 cur hcur hcs' ?_; intro w2 hw2 hos2 htp2 hou2 hs2 hbk2; have Hs2 := Lib.hid hs2; clear hs2))
    have hs2 := Hs2.out
    have hx2 : Ext w w2 := (hx1.trans hb).put (by omega) hw2 hos2 htp2 hou2 hs2
    have hbb2 := (hw2 w.heap.size (by omega)).trans hbb
    have hbr2 := (hw2 (w.heap.size + 1) (by omega)).trans hbr
    have hon2 := Hpat.out w2 hbk2
    have hocs : Own unitEl w1.heap.size w2 (.slice (some ⟨g1, 0, none⟩) cs.length cc) cs := hown2.keep fun k hk => hw2 k (by cases hk; show g1 ≠ g; omega)
    obtain ⟨us2, hus2⟩ : ∃ us2, us.set ki ⟨qa, qi, qn, qk, ql, qhA, qhn, qhc, qwA, qwn, qwc, some ⟨g1, 0, none⟩, cs.length, cc⟩ = us2 := ⟨_, rfl⟩
    have hul2 : us2.length = us.length := by rw [← hus2, List.length_set]
    have hat2 : us2[ki]? = some ⟨qa, qi, qn, qk, ql, qhA, qhn, qhc, qwA, qwn, qwc, some ⟨g1, 0, none⟩, cs.length, cc⟩ := by rw [← hus2, List.getElem?_set_self hi2]
    have hon3 : Own unitEl wz.heap.size w2 (.slice (some ⟨g, 0, none⟩) us2.length kc) us2 := by
      rw [hul2, ← hus2]
      exact hon2
    obtain ⟨_, _, hvv, -, hslu⟩ := hon3.form
    cases hvv
    obtain ⟨_, _, hvv, -, hslc⟩ := hocs.form
    cases hvv
    have hlt2 : w.heap.size + 1 < w2.heap.size := block_lt hbr2
    have hgl2 : g < w2.heap.size := by omega
    have hg1l : g1 < w2.heap.size := by omega
    have Hb2 := Lib.hid (show ∀ w', Ext w2 w' → _ from fun w' he => blockT hbb2 (by omega) he)
    simp only [RUnit.cells] at Hb2
    have Hus2 := Lib.hid (fun w' (he : Ext w2 w') => hslu.ext he)
    have HUl := Lib.hid hul2
    have Hat2 := Lib.hid hat2
    have HUs := Lib.hid hus2
    have Hbb2 := Lib.hid hbb2
    have Hbr2 := Lib.hid hbr2
    have Hon3 := Lib.hid hon3
    have Hocs := Lib.hid hocs
    clear hw2 hos2 htp2 hou2 hbk2 hbb hbr hbb2 hbr2 hon2 hon3 hocs hslu hslc hul2 hat2 hus2 hs2 hown2 hcur hcs' Hpat Hs2 Hs1 d1
    refine wp_drawn_tail 10 (fun i => match i with | 0 => TCells [.slice (some ⟨g, 0, none⟩) us.length kc] | 1 => Ty.is (.slice (some ⟨g, 0, none⟩) us.length kc) | 2 => Ty.is (.int .i64 (ki : Nat)) | 3 => TCells [.int .i64 qa, .int .i64 qi, .int .i64 qn, .int .i64 qk, .string ql, .slice qhA qhn qhc, .slice qwA qwn qwc, .slice (some ⟨g1, 0, none⟩) cs.length cc] | 4 => TCells [.slice (some ⟨g1, 0, none⟩) cs.length cc] | 5 => Ty.is (.slice (some ⟨g1, 0, none⟩) cs.length cc) | 6 => Ty.is (.int .i64 (kj : Nat)) | 7 => TFull wordEl [] | 8 => Ty.is (.slice lA l.length lc) | 9 => TNew wordEl w2.heap.size l | _ => Ty.any) (by kernel_rfl) (by kernel_rfl) (by kernel_rfl) (by decide) rfl ?_
    intro v
    refine ⟨?_, ?_, ?_, ?_, ?_, ?_, ?_, ?_, ?_, ?_, ?_⟩
    · intro wq hq hd
      refine ob_plain rfl ?_
      exact yld_field 27 5 (.tmp 4) rfl _ Try.underlying27 _ rfl 1 Try.sizeOf25 (by decide) [.int .i64 ra, .int .i64 ri, .int .i64 rn, .int .i64 rk, .string rl, .slice rhA rhn rhc, .slice rwA rwn rwc, .slice (some ⟨g, 0, none⟩) us.length kc] (Hb2.out _ hq)
    · intro wq hq hd
      obtain ⟨h0, -⟩ := hd
      change (TCells [.slice (some ⟨g, 0, none⟩) us.length kc]).p (v 0) wq at h0
      refine ob_plain rfl ?_
      exact yld_loadOne 25 (.tmp 27) rfl Try.isAgg25 (c := .slice (some ⟨g, 0, none⟩) us.length kc) h0 rfl
    · intro wq hq hd
      refine ob_plain rfl ?_
      exact yld_move (.tmp 1) rfl rfl rfl
    · intro wq hq hd
      obtain ⟨h0, h1, -⟩ := hd
      change v 1 = _ at h0
      change v 2 = _ at h1
      refine ob_plain rfl ?_
      exact yld_indexAt unitEl (.tmp 28) _ rfl _ us2 kc (h0.trans (by rw [HUl.out])) ki h1 (Hus2.out _ hq) _ Hat2.out
    · intro wq hq hd
      obtain ⟨h0, -⟩ := hd
      change (TCells [.int .i64 qa, .int .i64 qi, .int .i64 qn, .int .i64 qk, .string ql, .slice qhA qhn qhc, .slice qwA qwn qwc, .slice (some ⟨g1, 0, none⟩) cs.length cc]).p (v 3) wq at h0
      refine ob_plain rfl ?_
      exact yld_field 27 5 (.tmp 30) rfl _ Try.underlying27 _ rfl 1 Try.sizeOf25 (by decide) [.int .i64 qa, .int .i64 qi, .int .i64 qn, .int .i64 qk, .string ql, .slice qhA qhn qhc, .slice qwA qwn qwc, .slice (some ⟨g1, 0, none⟩) cs.length cc] (h0)
    · intro wq hq hd
      obtain ⟨h0, -⟩ := hd
      change (TCells [.slice (some ⟨g1, 0, none⟩) cs.length cc]).p (v 4) wq at h0
      refine ob_plain rfl ?_
      exact yld_loadOne 25 (.tmp 31) rfl Try.isAgg25 (c := .slice (some ⟨g1, 0, none⟩) cs.length cc) h0 rfl
    · intro wq hq hd
      refine ob_plain rfl ?_
      exact yld_move (.tmp 2) rfl rfl rfl
    · intro wq hq hd
      refine ob_plain rfl ?_
      exact yld_empty wordEl rfl (fun w => by change (Instr.buildSlice 24 0 _).run _ w = _; go_simp; rfl)
    · intro wq hq hd
      refine ob_plain rfl ?_
      exact yld_move (.tmp 3) rfl rfl rfl
    · intro wq hq hd
      obtain ⟨h0, h1, -⟩ := hd
      change (TFull wordEl []).p (v 7) wq at h0
      change v 8 = _ at h1
      refine ob_plain rfl ?_
      obtain ⟨A0, e0, -⟩ := h0
      exact yld_new wordEl (.tmp 34) (.tmp 35) rfl lc e0 h1 (hsl.ext (hx2.trans hq)) (by omega) hq.size
    · intro wr hr hT
      have k5 := hT 5 (by decide)
      change v 5 = _ at k5
      have k6 := hT 6 (by decide)
      change v 6 = _ at k6
      have k9 := hT 9 (by decide)
      change (TNew wordEl w2.heap.size l).p (v 9) wr at k9
      clear hT
      simp only [List.drop_succ_cons, List.drop_zero, putE, setsE, List.set_cons_succ, List.set_cons_zero, Nat.reduceAdd]
      rw [k5]
      rw [k6]
      generalize v 9 = x9 at k9 ⊢
      obtain ⟨Al, cl, rfl, hcl, hol⟩ := k9
      have hoc := (Hocs.out).ext hr
      obtain ⟨cur, hcur, hcs', hpat⟩ := Own.patch (k := kj) (f := 6) (vs := [.slice Al l.length cl]) (r' := cs[kj].withWords Al l.length cl) hoc hj2 (by simp [RUnit.cells, RUnit.withWords, unitEl]) (by simp [unitEl])
      have Hpat := Lib.hid hpat
      have hrb := (hr.block (k := w.heap.size) (by omega)).trans Hbb2.out
      have hrr := (hr.block (k := w.heap.size + 1) (by omega)).trans Hbr2.out
      have hrs := hr.size
      have d2 : decide ((kj : Int) < (cs.length : Int)) = true := decide_eq_true (by omega)
      clear hpat hoc
      go_wp2_with (first | (refine wpList_fld rfl 27 4 (.tmp 37) rfl _ Try.underlying27 _ rfl 1 Try.sizeOf24 (by decide) g1 (kj * 8) rfl ?_) |
        (refine wpList_put rfl 24 (.tmp 38) (.tmp 36) rfl g1 (kj * 8 + 6) (.slice Al l.length cl) rfl rfl [.slice Al l.length cl] rfl Try.sizeOf24 (by simp [Value.oneCell']) 27 cur hcur hcs' ?_; intro w3 hw3 hos3 htp3 hou3 hs3 hbk3; have Hs3 := Lib.hid hs3; clear hs3; have hb3 := (hw3 w.heap.size (by omega)).trans hrb; have hr3 := (hw3 (w.heap.size + 1) (by omega)).trans hrr; obtain ⟨f0, f1, f2, f3, f4, f5, f6, f7⟩ := unitBlock hb3; dsimp only at f0 f1 f2 f3 f4 f5 f6 f7) |
        (refine wpList_put rfl 27 (.tmp 8) (.tmp 39) rfl (w.heap.size + 1) 0 (.agg (RUnit.cells ⟨ra, ri, rn, rk, rl, rhA, rhn, rhc, rwA, rwn, rwc, some ⟨g, 0, none⟩, us.length, kc⟩).toArray) rfl rfl (RUnit.cells ⟨ra, ri, rn, rk, rl, rhA, rhn, rhc, rwA, rwn, rwc, some ⟨g, 0, none⟩, us.length, kc⟩) rfl Try.sizeOf27 (unitEl.h1 ⟨ra, ri, rn, rk, rl, rhA, rhn, rhc, rwA, rwn, rwc, some ⟨g, 0, none⟩, us.length, kc⟩) 27 _ hr3 (by simp [RUnit.cells, unit0]) ?_; intro w4 hw4 hos4 htp4 hou4 hs4 hbk4))
      have hfin4 : w4.heap[w.heap.size + 1]? = some (.cells (RUnit.cells ⟨ra, ri, rn, rk, rl, rhA, rhn, rhc, rwA, rwn, rwc, some ⟨g, 0, none⟩, us.length, kc⟩).toArray 27 (0, 0)) := by
        rw [hbk4]
        simp [RUnit.cells, unit0]
      have hs3 := Hs3.out
      have hx3 : Ext w w3 := (hx2.trans hr).put (by omega) hw3 hos3 htp3 hou3 hs3
      have hx4 : Ext w w4 := hx3.put (by omega) hw4 hos4 htp4 hou4 hs4
      have ho1 : Own unitEl w1.heap.size w4 (.slice (some ⟨g1, 0, none⟩) cs.length cc) (cs.set kj (cs[kj].withWords Al l.length cl)) := (Hpat.out w3 hbk3).keep (w' := w4) fun k hk => hw4 k (by cases hk; show g1 ≠ _; omega)
      have ho2 : Own unitEl wz.heap.size w4 (.slice (some ⟨g, 0, none⟩) us2.length kc) us2 := ((Hon3.out).ext hr).keep (w' := w4) fun k hk => by
        cases hk
        exact (hw4 g (by omega)).trans (hw3 g (by omega))
      rw [← HUs.out] at ho2
      have hslw : Sl wordEl w4 Al l := by
        by_cases hl0 : l = []
        · rw [hl0]; exact Sl.nil
        · have ho3 := (hol hl0).keep (w' := w4) fun k hk => by
            have := ((hol hl0).lt k hk).1
            exact (hw4 k (by omega)).trans (hw3 k (by omega))
          obtain ⟨_, _, hvv, -, h⟩ := ho3.form
          cases hvv
          exact h
      obtain ⟨_, _, hvv, -, hs1⟩ := ho1.form
      rw [Value.slice.injEq] at hvv
      obtain ⟨rfl, -, -⟩ := hvv
      obtain ⟨_, _, hvv, -, hs2⟩ := ho2.form
      rw [Value.slice.injEq] at hvv
      obtain ⟨rfl, -, -⟩ := hvv
      (try simp only [Exit.inBlock, Exit.then])
      refine bodyPost_ret (results_cell1 rfl _ _ (w.heap.size + 1) _ rfl hfin4) rfl ?_
      exact ⟨_, rfl, hx4, Hreads.out w4 g kc g1 cc Al cl hx4 hg3 hcc hslw hcl hs2 hs1⟩

end Go.Proofs.Ythjlnpcanccmkaa
