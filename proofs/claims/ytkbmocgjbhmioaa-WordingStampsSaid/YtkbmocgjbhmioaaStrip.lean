/- Strip: a tree without IDs and marks, built in new memory. -/
import Derived.Test.YtkbmocgjbhmioaaTreeLaws
namespace Go.Proofs.Ytkbmocgjbhmioaa
open Go.RowKit

def bareL (l : List GWord) : List GWord := l.map fun x => ⟨x.t, 0, 0, 0⟩
theorem bareL_length (l : List GWord) : (bareL l).length = l.length := by simp [bareL]

set_option maxRecDepth 100000 in
set_option maxHeartbeats 400000 in
theorem bared_any (A : Option Addr) (c : Nat) (l : List GWord) (w : World) (hs : Sl wordEl w A l) (hn : l.length ≤ 1048576) :
    Calls Try.prog 48 #[.slice A l.length c] w fun e w' => ∃ v, e = .returned v ∧ Own wordEl w.heap.size w' v (bareL l) ∧ Ext w w' := by
  go_enter Try.func48, Try.ntmps48
  go_wp2
  go_loopw [3, 4] (fun out i wr => ∃ k : Nat, k ≤ l.length ∧ i = .int .i64 k ∧ Own wordEl w.heap.size wr out (bareL (l.take k)) ∧ Ext w wr) (fun _ i _ => l.length - (intOf i).toNat)
  case atStart => exact ⟨0, Nat.zero_le _, rfl, Own.made wordEl (Nat.le_refl _), (Ext.refl _).alloc _⟩
  case round =>
    obtain ⟨k, hk, rfl, hown, hext⟩ := hrel
    by_cases hlt : k < l.length
    · obtain ⟨b, off, rfl, hb, hc, _, _, _⟩ := wordAt hs hlt
      have hcr := (hext.cell (p := ⟨b, off + k * 4, none⟩) hb).trans hc
      have hsz := hext.size
      obtain ⟨s, hsk⟩ : ∃ s, l[k].t = s := ⟨_, rfl⟩
      rw [hsk] at hcr
      have Hs := Lib.hid hsk
      clear hc hsk
      have hc1 : (bareL (l.take k)).length + 1 ≤ 68719476736 := by rw [bareL_length, List.length_take]; omega
      go_wp2_with (at_builtin; refine wpList_app wordEl rfl _ _ rfl 1 rfl (hown.ext (Ext.alloc (Ext.refl _) _)) (ys := [⟨s, 0, 0, 0⟩]) rfl (Sl.new wordEl rfl) hc1 (by simp; omega) ?_; intro v' w1 hown' hb1 hg1)
      have hext' : Ext w w1 := (hext.alloc _).trans' hb1
      go_wp2
      go_roundw
      case rel => exact ⟨k + 1, by omega, by go_num, by unfold bareL; rw [map_take_succ _ _ _ hlt, Hs.out]; exact hown', hext'⟩
      case measure => simp [intOf]; omega
    · obtain rfl : k = l.length := by omega
      rw [List.take_length] at hown
      go_wp2
      go_ret
      exact ⟨_, rfl, hown, hext⟩

mutual
def stripF : GUnit → GUnit
  | .mk _ _ _ k l hd wd kids => .mk 0 0 0 k l (bareL hd) (bareL wd) (stripL kids)
def stripL : List GUnit → List GUnit
  | [] => []
  | u :: us => stripF u :: stripL us
end
theorem stripL_eq : ∀ us : List GUnit, stripL us = us.map stripF
  | [] => by rw [stripL]; rfl
  | u :: us => by rw [stripL, List.map_cons, stripL_eq us]

set_option maxRecDepth 100000 in
set_option maxHeartbeats 3200000 in
theorem strip_any : ∀ (N : Nat) (u : GUnit) (r : RUnit) (w : World), SizeOf.sizeOf u ≤ N → Reads w u r → AllU (lensLe 1048576 1048576) u →
    Calls Try.prog 26 #[.agg r.cells.toArray] w fun e w' => ∃ r' : RUnit, e = .returned (.agg r'.cells.toArray) ∧ Ext w w' ∧ Reads (mask (fresh w.heap.size) w') (stripF u) r'
  | 0, .mk _ _ _ _ _ _ _ _, _, _, h, _, _ => by simp at h
  | N + 1, .mk a i n kd lb hl wl kids, r, w, hN, hr, hA => by
    rw [Reads] at hr
    rw [AllU] at hA
    obtain ⟨⟨hl1, hl2, hl3⟩, hA⟩ := hA
    obtain ⟨⟨-, -, -, hkd, hlb⟩, ⟨hhn, hhc, hhs⟩, ⟨hwn, hwc, hws⟩, hkn, hkc, us, hus, hall⟩ := hr
    have hbx := fun w' he => boxT (w' := w') r (w := w) he
    obtain ⟨ra, ri, rn, rk, rl, hdA, hn, hc, wA, wn, wc, kA, kn, kc⟩ := r
    dsimp only at hkn hkc hus hall hkd hlb hhn hhc hhs hwn hwc hws
    simp only [RUnit.cells] at hbx ⊢
    subst hkn hlb hhn hwn hkd
    have hul := (ReadsAll.length hall).symm
    have Hall := Lib.hid hall
    have HA := Lib.hid hA
    have Hul := Lib.hid hul
    clear hall hA hul
    go_enter Try.func26, Try.ntmps26
    go_wp2
    obtain ⟨wb, hwb⟩ : ∃ wb, (w.alloc (.cells #[.int .i64 ra, .int .i64 ri, .int .i64 rn, .int .i64 rk, .string rl, .slice hdA hl.length hc, .slice wA wl.length wc, .slice kA kids.length kc] 41)).alloc (.cells unit0.cells.toArray 41) = wb := ⟨_, rfl⟩
    have he1 : Ext w wb := by rw [← hwb]; exact ((Ext.refl w).alloc _).alloc _
    have hsb : wb.heap.size = w.heap.size + 2 := by rw [← hwb]; simp
    have hres : wb.heap[w.heap.size + 1]? = some (.cells unit0.cells.toArray 41 (0, 0)) := by
      have e := heap_alloc_new (w.alloc (.cells #[.int .i64 ra, .int .i64 ri, .int .i64 rn, .int .i64 rk, .string rl, .slice hdA hl.length hc, .slice wA wl.length wc, .slice kA kids.length kc] 41)) (.cells unit0.cells.toArray 41)
      rw [hwb, show (w.alloc (.cells #[.int .i64 ra, .int .i64 ri, .int .i64 rn, .int .i64 rk, .string rl, .slice hdA hl.length hc, .slice wA wl.length wc, .slice kA kids.length kc] 41)).heap.size = w.heap.size + 1 from by simp] at e
      exact e
    have Hbx := Lib.hid (show ∀ w', Ext wb w' → _ from fun w' he => hbx w' (((Ext.refl _).alloc _).trans (hwb ▸ he)))
    clear hbx
    simp only [unit0, RUnit.cells] at hwb
    rw [hwb]
    clear hwb
    refine wp_drawn_tail 12 (fun i => match i with | 0 => TCells [.int .i64 rk] | 1 => Ty.is (.int .i64 rk) | 2 => TCells [.string rl] | 3 => Ty.is (.string rl) | 4 => TCells [.slice hdA hl.length hc] | 5 => Ty.is (.slice hdA hl.length hc) | 6 => TOwn wordEl wb.heap.size (bareL hl) | 7 => TCells [.slice wA wl.length wc] | 8 => Ty.is (.slice wA wl.length wc) | 9 => TOwn wordEl wb.heap.size (bareL wl) | 10 => TBare wb.heap.size rk rl (bareL hl) (bareL wl) | 11 => TUnit0 wb.heap.size | _ => Ty.any) (by kernel_rfl) (by kernel_rfl) (by kernel_rfl) (by decide) rfl ?_
    intro v
    refine ⟨?_, ?_, ?_, ?_, ?_, ?_, ?_, ?_, ?_, ?_, ?_, ?_, ?_⟩
    · intro wq hq hd
      refine ob_plain rfl ?_
      exact yld_field 41 1 (.tmp 1) rfl _ Try.underlying41 _ rfl 1 Try.sizeOf3 (by decide) [.int .i64 ra, .int .i64 ri, .int .i64 rn, .int .i64 rk, .string rl, .slice hdA hl.length hc, .slice wA wl.length wc, .slice kA kids.length kc] (Hbx.out _ hq)
    · intro wq hq hd
      obtain ⟨h0, -⟩ := hd
      change (TCells [.int .i64 rk]).p (v 0) wq at h0
      refine ob_plain rfl ?_
      exact yld_loadOne 3 (.tmp 5) rfl Try.isAgg3 (c := .int .i64 rk) h0 rfl
    · intro wq hq hd
      refine ob_plain rfl ?_
      exact yld_field 41 2 (.tmp 1) rfl _ Try.underlying41 _ rfl 1 Try.sizeOf9 (by decide) [.int .i64 ra, .int .i64 ri, .int .i64 rn, .int .i64 rk, .string rl, .slice hdA hl.length hc, .slice wA wl.length wc, .slice kA kids.length kc] (Hbx.out _ hq)
    · intro wq hq hd
      obtain ⟨h0, -⟩ := hd
      change (TCells [.string rl]).p (v 2) wq at h0
      refine ob_plain rfl ?_
      exact yld_loadOne 9 (.tmp 7) rfl Try.isAgg9 (c := .string rl) h0 rfl
    · intro wq hq hd
      refine ob_plain rfl ?_
      exact yld_field 41 3 (.tmp 1) rfl _ Try.underlying41 _ rfl 1 Try.sizeOf22 (by decide) [.int .i64 ra, .int .i64 ri, .int .i64 rn, .int .i64 rk, .string rl, .slice hdA hl.length hc, .slice wA wl.length wc, .slice kA kids.length kc] (Hbx.out _ hq)
    · intro wq hq hd
      obtain ⟨h0, -⟩ := hd
      change (TCells [.slice hdA hl.length hc]).p (v 4) wq at h0
      refine ob_plain rfl ?_
      exact yld_loadOne 22 (.tmp 9) rfl Try.isAgg22 (c := .slice hdA hl.length hc) h0 rfl
    · intro wq hq hd
      obtain ⟨h0, -⟩ := hd
      change v 5 = _ at h0
      refine ob_plain rfl ?_
      refine yld_call 48 Try.call48 _ _ rfl rfl [_] ⟨h0, trivial⟩ ?_
      refine (bared_any _ _ hl _ ((hhs.ext he1).ext hq) (by omega)).mono ?_
      rintro e w' ⟨v', rfl, hown, hext'⟩
      exact ⟨v', rfl, hext', hown.mono hq.size⟩
    · intro wq hq hd
      refine ob_plain rfl ?_
      exact yld_field 41 4 (.tmp 1) rfl _ Try.underlying41 _ rfl 1 Try.sizeOf22 (by decide) [.int .i64 ra, .int .i64 ri, .int .i64 rn, .int .i64 rk, .string rl, .slice hdA hl.length hc, .slice wA wl.length wc, .slice kA kids.length kc] (Hbx.out _ hq)
    · intro wq hq hd
      obtain ⟨h0, -⟩ := hd
      change (TCells [.slice wA wl.length wc]).p (v 7) wq at h0
      refine ob_plain rfl ?_
      exact yld_loadOne 22 (.tmp 12) rfl Try.isAgg22 (c := .slice wA wl.length wc) h0 rfl
    · intro wq hq hd
      obtain ⟨h0, h1, -⟩ := hd
      change v 8 = _ at h0
      refine ob_plain rfl ?_
      refine yld_call 48 Try.call48 _ _ rfl rfl [_] ⟨h0, trivial⟩ ?_
      refine (bared_any _ _ wl _ ((hws.ext he1).ext hq) (by omega)).mono ?_
      rintro e w' ⟨v', rfl, hown, hext'⟩
      exact ⟨v', rfl, hext', hown.mono hq.size⟩
    · intro wq hq hd
      obtain ⟨h0, h1, h2, h3, -⟩ := hd
      change v 1 = _ at h0
      change v 3 = _ at h1
      change (TOwn wordEl wb.heap.size (bareL hl)).p (v 6) wq at h2
      change (TOwn wordEl wb.heap.size (bareL wl)).p (v 9) wq at h3
      refine ob_plain rfl ?_
      obtain ⟨A1, c1, g1, gc1, -⟩ := Own.form h2
      obtain ⟨A2, c2, g2, gc2, -⟩ := Own.form h3
      rw [g1] at h2
      rw [g2] at h3
      exact yld_build (c := .agg #[.int .i64 0, .int .i64 0, .int .i64 0, .int .i64 rk, .string rl, .slice A1 (bareL hl).length c1, .slice A2 (bareL wl).length c2, .slice none 0 0]) 41 [(1, _), (2, _), (3, _), (4, _)] rfl [(1, .int .i64 rk), (2, .string rl), (3, .slice A1 (bareL hl).length c1), (4, .slice A2 (bareL wl).length c2)] ⟨⟨rfl, h0⟩, ⟨rfl, h1⟩, ⟨rfl, g1⟩, ⟨rfl, g2⟩, trivial⟩ (fun w => by go_simp) ⟨A1, c1, A2, c2, rfl, gc1, gc2, h2, h3⟩
    · intro wq hq hd
      refine ob_plain rfl ?_
      exact yld_alloc0 hq.size rfl
    · intro wq hq hT
      have k10 := hT 10 (by decide)
      change (TBare wb.heap.size rk rl (bareL hl) (bareL wl)).p (v 10) wq at k10
      have k11 := hT 11 (by decide)
      change (TUnit0 wb.heap.size).p (v 11) wq at k11
      clear hT
      simp only [List.drop_succ_cons, List.drop_zero, putE, setsE, List.set_cons_succ, List.set_cons_zero, Nat.reduceAdd]
      generalize v 10 = x10 at k10 ⊢
      generalize v 11 = x11 at k11 ⊢
      obtain ⟨A1, c1, A2, c2, rfl, gc1, gc2, go1, go2⟩ := k10
      obtain ⟨bo, rfl, hbo1, hbo2, hbo3⟩ := k11
      have hsq := hq.size
      go_wp2_with (refine wpList_put rfl 41 (.tmp 3) (.tmp 15) rfl bo 0 (.agg #[.int .i64 0, .int .i64 0, .int .i64 0, .int .i64 rk, .string rl, .slice A1 (bareL hl).length c1, .slice A2 (bareL wl).length c2, .slice none 0 0]) rfl rfl [.int .i64 0, .int .i64 0, .int .i64 0, .int .i64 rk, .string rl, .slice A1 (bareL hl).length c1, .slice A2 (bareL wl).length c2, .slice none 0 0] rfl Try.sizeOf41 (by simp [Value.oneCell']) 41 _ hbo3 (by simp [unit0, RUnit.cells]) ?_; intro w1 hw1 hos1 htp1 hou1 hs1 hbk1)
      have hext1 : Ext wb w1 := ⟨hos1.trans hq.os, htp1.trans hq.tape, hou1.trans hq.output, by rw [hs1]; exact hsq, fun k hk => (hw1 k (by omega)).trans (hq.block hk)⟩
      have hO1 := go1.keep (w' := w1) fun k hk => hw1 k (go1.ne hbo3 (by decide) k hk)
      have hO2 := go2.keep (w' := w1) fun k hk => hw1 k (go2.ne hbo3 (by decide) k hk)
      obtain ⟨p, hp⟩ : ∃ p : Nat → Bool, p = fun k => decide (k < wb.heap.size) || decide (k = bo) := ⟨_, rfl⟩
      have hbk : w1.heap[bo]? = some (.cells (RUnit.cells ⟨0, 0, 0, rk, rl, A1, (bareL hl).length, c1, A2, (bareL wl).length, c2, none, ([] : List RUnit).length, 0⟩).toArray 41 (0, 0)) := by simpa [unit0, RUnit.cells] using hbk1
      obtain ⟨_, _, hv1, -, -, hsl1⟩ := hO1.formMask (p := p) (fun k hk hk2 => by
        have e1 := go1.ne hbo3 (by decide) k hk2
        rw [hp]
        simp [e1]
        omega)
      cases hv1
      obtain ⟨_, _, hv2, -, -, hsl2⟩ := hO2.formMask (p := p) (fun k hk hk2 => by
        have e1 := go2.ne hbo3 (by decide) k hk2
        rw [hp]
        simp [e1]
        omega)
      cases hv2
      have hp1 : ∀ k, k < wb.heap.size → p k = true := fun k hk => by rw [hp]; simp [hk]
      have hp2 : p bo = true := by rw [hp]; simp
      have hp3 : ∀ k, p k = true → k < w1.heap.size := fun k hk => by
        rw [hp] at hk
        simp only [Bool.or_eq_true, decide_eq_true_eq] at hk
        omega
      have hbow : bo < w1.heap.size := by omega
      have Hp1 := Lib.hid hp1
      have Hp2 := Lib.hid hp2
      have Hp3 := Lib.hid hp3
      have hbl1 : (bareL hl).length = hl.length := bareL_length hl
      have HN := Lib.hid hN
      clear hO1 hO2 go1 go2 hbk1 hbo3 hw1 hos1 htp1 hou1 hq hsq hp hp1 hp2 hp3 hN
      have Hres := Lib.hid hres
      clear hbl1 hres
      go_loopw [4] (fun i wr => ∃ (k : Nat) (rs : List RUnit) (oA : Option Addr) (oc : Nat) (p : Nat → Bool), k ≤ kids.length ∧ i = .int .i64 k ∧ wr.heap[bo]? = some (.cells (RUnit.cells ⟨0, 0, 0, rk, rl, A1, (bareL hl).length, c1, A2, (bareL wl).length, c2, oA, rs.length, oc⟩).toArray 41 (0, 0)) ∧ Own unitEl wb.heap.size wr (.slice oA rs.length oc) rs ∧
        Hid (∀ j, j < wb.heap.size → p j = true) ∧ Hid (p bo = true) ∧ Hid (∀ j, p j = true → j < wr.heap.size) ∧ Hid (∀ g, (Value.slice oA rs.length oc).ownBlock = some g → p g = true ∧ g ≠ bo) ∧ Sl wordEl (mask p wr) A1 (bareL hl) ∧ Sl wordEl (mask p wr) A2 (bareL wl) ∧
        Hid (ReadsAll (mask p wr) (stripL (kids.take k)) rs) ∧ Ext wb wr) (fun i _ => kids.length - (intOf i).toNat)
      case atStart => exact ⟨0, [], none, 0, p, Nat.zero_le _, rfl, hbk, Own.nil _, Hp1, Hp2, Hp3, Lib.hid (fun g hg => by cases hg), hsl1, hsl2, Lib.hid (by rw [List.take_zero, stripL, ReadsAll]; trivial), hext1⟩
      case round =>
        obtain ⟨k, rs, oA, oc, p, hk, rfl, hbk, hown, Hp1, Hp2, Hp3, Hpo, hs1, hs2, Hrs, hext⟩ := hrel
        have hsz := hext.size
        have hcell := TCells.cell (Hbx.out wr hext) 7 _ rfl
        rw [Nat.zero_add] at hcell
        have hbo : bo < wr.heap.size := Hp3.out _ Hp2.out
        have hrl : rs.length = k := by rw [ReadsAll.length Hrs.out, stripL_eq, List.length_map, List.length_take]; omega
        have Hrl := Lib.hid hrl
        clear hrl
        by_cases hlt : k < kids.length
        · have d1 : decide ((k : Int) < (kids.length : Int)) = true := decide_eq_true (by omega)
          have hltr : k < us.length := by rw [← Hul.out]; exact hlt
          have husr := (hus.ext he1).ext hext
          obtain ⟨q, hq⟩ : ∃ q, us[k]? = some q := ⟨_, List.getElem?_eq_getElem hltr⟩
          have hqk : us[k] = q := (List.getElem?_eq_some_iff.1 hq).2
          have Hq := Lib.hid hq
          have hsub : SizeOf.sizeOf kids[k] ≤ N := by
            have a1 := List.sizeOf_lt_of_mem (List.getElem_mem hlt)
            have a2 := HN.out
            simp at a2
            omega
          have Hrec := Lib.hid (show ∀ wq, Ext wr wq → _ from fun wq he => strip_any N kids[k] q wq hsub (Reads.ext ((he1.trans hext).trans he) _ _ (hqk ▸ ReadsAll.get Hall.out k hlt hltr)) (HA.out.get k hlt))
          have Hbo := Lib.hid (show ∀ wq, Ext wr wq → _ from fun wq he => blockT hbk hbo he)
          clear hq hqk hsub
          go_wp2
          refine wp_drawn_tail 9 (fun i => match i with | 0 => TCells [.slice oA rs.length oc] | 1 => Ty.is (.slice oA rs.length oc) | 2 => TCells [.slice kA kids.length kc] | 3 => Ty.is (.slice kA kids.length kc) | 4 => Ty.is (.int .i64 k) | 5 => TCells [.int .i64 q.a, .int .i64 q.i, .int .i64 q.n, .int .i64 q.kind, .string q.label, .slice q.hA q.hn q.hc, .slice q.wA q.wn q.wc, .slice q.kA q.kn q.kc] | 6 => Ty.is (.agg #[.int .i64 q.a, .int .i64 q.i, .int .i64 q.n, .int .i64 q.kind, .string q.label, .slice q.hA q.hn q.hc, .slice q.wA q.wn q.wc, .slice q.kA q.kn q.kc]) | 7 => TFreshU wr.heap.size (stripF kids[k]) | 8 => TOneU wr.heap.size (stripF kids[k]) | _ => Ty.any) (by kernel_rfl) (by kernel_rfl) (by kernel_rfl) (by decide) rfl ?_
          intro v
          refine ⟨?_, ?_, ?_, ?_, ?_, ?_, ?_, ?_, ?_, ?_⟩
          · intro wq hq hd
            refine ob_plain rfl ?_
            exact yld_field 41 5 (.tmp 3) rfl _ Try.underlying41 _ rfl 1 Try.sizeOf39 (by decide) [.int .i64 0, .int .i64 0, .int .i64 0, .int .i64 rk, .string rl, .slice A1 (bareL hl).length c1, .slice A2 (bareL wl).length c2, .slice oA rs.length oc] (Hbo.out _ hq)
          · intro wq hq hd
            obtain ⟨h0, -⟩ := hd
            change (TCells [.slice oA rs.length oc]).p (v 0) wq at h0
            refine ob_plain rfl ?_
            exact yld_loadOne 39 (.tmp 23) rfl Try.isAgg39 (c := .slice oA rs.length oc) h0 rfl
          · intro wq hq hd
            refine ob_plain rfl ?_
            exact yld_field 41 5 (.tmp 1) rfl _ Try.underlying41 _ rfl 1 Try.sizeOf39 (by decide) [.int .i64 ra, .int .i64 ri, .int .i64 rn, .int .i64 rk, .string rl, .slice hdA hl.length hc, .slice wA wl.length wc, .slice kA kids.length kc] (Hbx.out _ (hext.trans hq))
          · intro wq hq hd
            obtain ⟨h0, -⟩ := hd
            change (TCells [.slice kA kids.length kc]).p (v 2) wq at h0
            refine ob_plain rfl ?_
            exact yld_loadOne 39 (.tmp 25) rfl Try.isAgg39 (c := .slice kA kids.length kc) h0 rfl
          · intro wq hq hd
            refine ob_plain rfl ?_
            exact yld_move (.tmp 4) rfl rfl rfl
          · intro wq hq hd
            obtain ⟨h0, h1, -⟩ := hd
            change v 3 = _ at h0
            change v 4 = _ at h1
            refine ob_plain rfl ?_
            exact yld_indexAt unitEl (.tmp 26) (.tmp 27) rfl kA us _ (by rw [← Hul.out]; exact h0) k h1 (husr.ext hq) q Hq.out
          · intro wq hq hd
            obtain ⟨h0, -⟩ := hd
            change (TCells [.int .i64 q.a, .int .i64 q.i, .int .i64 q.n, .int .i64 q.kind, .string q.label, .slice q.hA q.hn q.hc, .slice q.wA q.wn q.wc, .slice q.kA q.kn q.kc]).p (v 5) wq at h0
            refine ob_plain rfl ?_
            exact yld_loadAgg 41 (.tmp 28) rfl Try.isAgg41 8 Try.sizeOf41 [.int .i64 q.a, .int .i64 q.i, .int .i64 q.n, .int .i64 q.kind, .string q.label, .slice q.hA q.hn q.hc, .slice q.wA q.wn q.wc, .slice q.kA q.kn q.kc] rfl h0 rfl
          · intro wq hq hd
            obtain ⟨h0, -⟩ := hd
            change v 6 = _ at h0
            refine ob_plain rfl ?_
            refine yld_call 26 Try.call26 _ _ rfl rfl [_] ⟨h0, trivial⟩ ?_
            refine (Hrec.out _ hq).mono ?_
            rintro e w' ⟨r', rfl, hext', hr'⟩
            exact ⟨_, rfl, hext', r', rfl, Reads.cin (CIn.weaken _ (fresh_le hq.size)) _ _ hr'⟩
          · intro wq hq hd
            obtain ⟨h0, -⟩ := hd
            change (TFreshU wr.heap.size (stripF kids[k])).p (v 7) wq at h0
            refine ob_plain rfl ?_
            obtain ⟨r', g1, g2⟩ := h0
            exact yld_oneU rfl g1 hq.size g2
          · intro wq hq hT
            have k1 := hT 1 (by decide)
            change v 1 = _ at k1
            have k8 := hT 8 (by decide)
            change (TOneU wr.heap.size (stripF kids[k])).p (v 8) wq at k8
            clear hT
            simp only [List.drop_succ_cons, List.drop_zero, putE, setsE, List.set_cons_succ, List.set_cons_zero, Nat.reduceAdd]
            rw [k1]
            generalize v 8 = x8 at k8 ⊢
            obtain ⟨r', g1, g2⟩ := k8
            obtain ⟨A8, c8, rfl, hc8, hs8⟩ := g1.form
            have hsq := hq.size
            have hbkq := (hq.block hbo).trans hbk
            refine wpList_appAt unitEl rfl (.tmp 24) (.tmp 31) rfl c8 rfl (hown.ext hq) rfl hs8 (by rw [Hrl.out]; simp; omega) (by omega) ?_
            intro v' w2 hown2 hg2 hloc
            obtain ⟨A', c', rfl, -, -⟩ := hown2.form
            have hbk2 := (hg2.block bo (by omega) (fun h => (Hpo.out bo h.symm).2 rfl)).trans hbkq
            refine wpList_fld rfl 41 5 (.tmp 3) rfl _ Try.underlying41 _ rfl 1 Try.sizeOf39 (by decide) bo 0 rfl ?_
            refine wpList_put rfl 39 (.tmp 33) (.tmp 32) rfl bo 7 (.slice A' (rs ++ [r']).length c') rfl rfl [.slice A' (rs ++ [r']).length c'] rfl Try.sizeOf39 (by simp [Value.oneCell']) 41 _ hbk2 (by simp [RUnit.cells]) ?_
            intro w3 hw3 hos3 htp3 hou3 hs3 hbk3
            obtain ⟨p', hp'1, hp'2, hp'3, hci1, hci2, hown3, hbel⟩ := Own.step (B := wb.heap.size) hq hown Hp2.out Hp3.out Hpo.out hg2 hloc hown2 hw3 hos3 htp3 hou3 hs3 hbo1 (Nat.le_refl _) hsz
            have hbk3' : w3.heap[bo]? = some (.cells (RUnit.cells ⟨0, 0, 0, rk, rl, A1, (bareL hl).length, c1, A2, (bareL wl).length, c2, A', (rs ++ [r']).length, c'⟩).toArray 41 (0, 0)) := by
              rw [hbk3]
              simp [RUnit.cells]
            have hadd : ReadsAll (mask p' w3) (stripL (kids.take (k + 1))) (rs ++ [r']) := by
              have e := ReadsAll.snoc (ReadsAll.cin hci1 _ _ Hrs.out) (Reads.cin hci2 _ _ g2)
              rw [stripL_eq] at e ⊢
              rw [map_take_succ _ _ _ hlt]
              exact e
            have Hadd := Lib.hid hadd
            have Hp1' := Lib.hid (fun j (hj : j < wb.heap.size) => hp'1 j (Hp1.out j hj))
            have Hp2' := Lib.hid (hp'1 bo Hp2.out)
            have Hp3' := Lib.hid hp'2
            have Hp4' := Lib.hid hp'3
            clear hadd hp'1 hp'2 hp'3 hbk3 hw3 hloc hg2 hbk2
            go_wp2
            go_roundw
            case rel => exact ⟨k + 1, rs ++ [r'], A', c', p', by omega, by go_num, hbk3', hown3, Hp1', Hp2', Hp3', Hp4', hs1.cin hci1, hs2.cin hci1, Hadd, hext.trans' hbel⟩
            case measure => simp [intOf]; omega
        · have d1 : decide ((k : Int) < (kids.length : Int)) = false := decide_eq_false (by omega)
          have hkl : k = kids.length := by omega
          have HR := Hrs.out
          rw [hkl, List.take_length] at HR
          have HR := Lib.hid HR
          obtain ⟨f0, f1, f2, f3, f4, f5, f6, f7⟩ := unitBlock hbk
          have hresr : wr.heap[w.heap.size + 1]? = some (.cells unit0.cells.toArray 41 (0, 0)) := (hext.block (by omega)).trans Hres.out
          clear hkl
          dsimp only at f0 f1 f2 f3 f4 f5 f6 f7
          go_wp2_with (refine wpList_put rfl 41 (.tmp 2) (.tmp 34) rfl (w.heap.size + 1) 0 (.agg (RUnit.cells ⟨0, 0, 0, rk, rl, A1, (bareL hl).length, c1, A2, (bareL wl).length, c2, oA, rs.length, oc⟩).toArray) rfl rfl (RUnit.cells ⟨0, 0, 0, rk, rl, A1, (bareL hl).length, c1, A2, (bareL wl).length, c2, oA, rs.length, oc⟩) rfl Try.sizeOf41 (by simp [RUnit.cells, Value.oneCell']) 41 _ hresr (by simp [unit0, RUnit.cells]) ?_; intro w3 hw3 hos3 htp3 hou3 hs3 hbk3)
          have hfin : w3.heap[w.heap.size + 1]? = some (.cells (RUnit.cells ⟨0, 0, 0, rk, rl, A1, (bareL hl).length, c1, A2, (bareL wl).length, c2, oA, rs.length, oc⟩).toArray 41 (0, 0)) := by
            rw [hbk3]
            simp [RUnit.cells, unit0]
          have hew : Ext w wr := he1.trans hext
          have hci : CIn (mask p wr) (mask (fresh w.heap.size) w3) := CIn.keep (by omega) fun k hk hpk => by
            have hnk : ¬ k < wb.heap.size := fun h => by rw [Hp1.out k h] at hpk; cases hpk
            exact ⟨hw3 k (by omega), by simp [fresh]; omega⟩
          have hown3 : Own unitEl wb.heap.size w3 (.slice oA rs.length oc) rs := hown.keep fun g hg => hw3 g (by have := (hown.lt g hg).1; omega)
          obtain ⟨_, _, hv3, hoc, -, hsl3⟩ := hown3.formMask (p := fresh w.heap.size) (fun g hg _ => by simp [fresh]; omega)
          cases hv3
          have hkl3 : rs.length = (stripL kids).length := ReadsAll.length HR.out
          (try simp only [Exit.inBlock, Exit.then])
          refine bodyPost_ret (results_cell1 rfl _ _ (w.heap.size + 1) _ rfl hfin) rfl ?_
          refine ⟨_, rfl, ⟨hos3.trans hew.os, htp3.trans hew.tape, hou3.trans hew.output, by rw [hs3]; exact hew.size, fun k hk => (hw3 k (by omega)).trans (hew.block hk)⟩, ?_⟩
          rw [stripF, Reads]
          exact ⟨⟨rfl, rfl, rfl, rfl, rfl⟩, ⟨rfl, gc1, hs1.cin hci⟩, ⟨rfl, gc2, hs2.cin hci⟩, hkl3, by rw [← hkl3]; exact hoc, rs, hsl3, ReadsAll.cin hci _ _ HR.out⟩

end Go.Proofs.Ytkbmocgjbhmioaa
