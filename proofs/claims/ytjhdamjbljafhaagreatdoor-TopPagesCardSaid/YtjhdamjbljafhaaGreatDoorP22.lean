/- treeedit.at, done, without: a tree without one unit. treeedit.at: a function is applied to the first unit with an ID. A region whose order is drawn, with types, one of whose head's operations turns memory of the call's own: what stands ahead of it by the edges may lose its type, what does not look at memory may come before or after it. -/
import Derived.Test.YtjhdamjbljafhaaGreatDoorP20
import Derived.Test.YtjhdamjbljafhaaGreatDoorP21
import Derived.Test.YtjhdamjbljafhaaGreatDoorP04
namespace Go.Proofs.YtjhdamjbljafhaaGreatDoor
open Go.RowKit
def RetU (w : World) (e : Ending) (w' : World) : Prop := ∃ r' : RUnit, e = .returned (.agg r'.cells.toArray) ∧ Ext w w'
set_option maxRecDepth 100000 in
set_option maxHeartbeats 1600000 in
theorem without1_any (u : GUnit) (r : RUnit) (B j : Nat) (w : World) (hr : Reads w u r) (hok : OkU u) (hB : B < w.heap.size) (hc : w.cell? ⟨B, 0, none⟩ = some (.int .i64 (j : Nat))) (hj : j < u.kids.length) :
    Calls Tryz.prog 94 #[.agg r.cells.toArray, .pointer (some ⟨B, 0, none⟩)] w (RetU w) := by
  obtain ⟨hid, hkd, hlb, hhn, hhc, hhs, hwn, hwc, hws, hkn, hkc, rs, hrs, hall, hrl⟩ := hr.flds
  have hkb := hok.all.head.2.2.2.1
  have hb := (BoxU.new r w).ext ((Ext.refl _).alloc (.cells unit0.cells.toArray 27))
  have hbk := ((Ext.refl (w.alloc (.cells r.cells.toArray 27))).alloc (.cells unit0.cells.toArray 27)).block (k := w.heap.size) (by simp)
  replace hbk := hbk.trans (heap_alloc_new w _)
  have hrk := heap_alloc_new (w.alloc (.cells r.cells.toArray 27)) (.cells unit0.cells.toArray 27)
  rw [show (w.alloc (.cells r.cells.toArray 27)).heap.size = w.heap.size + 1 by simp] at hrk
  have hx0 : Ext w ((w.alloc (.cells r.cells.toArray 27)).alloc (.cells unit0.cells.toArray 27)) := ((Ext.refl w).alloc _).alloc _
  obtain ⟨ra, ri, rn, rk, rl, hdA, hn, hcc, wA, wn, wc, kA, kn, kc⟩ := r
  dsimp only at hkn hkc hrs
  rw [← hrl] at hkn hkc hkb hj
  subst hkn
  simp only [RUnit.cells, unit0] at hb hbk hrk hx0 ⊢
  obtain ⟨wb, hwb⟩ : ∃ wb, (w.alloc (.cells #[.int .i64 ra, .int .i64 ri, .int .i64 rn, .int .i64 rk, .string rl, .slice hdA hn hcc, .slice wA wn wc, .slice kA rs.length kc] 27)).alloc (.cells #[.int .i64 0, .int .i64 0, .int .i64 0, .int .i64 0, .string ⟨#[]⟩, .slice none 0 0, .slice none 0 0, .slice none 0 0] 27) = wb := ⟨_, rfl⟩
  rw [hwb] at hb hbk hrk hx0
  have Hws := Lib.hid (show w.heap.size + 2 = wb.heap.size by rw [← hwb]; simp)
  have Hwb := Lib.hid hwb
  have Hx0 := Lib.hid hx0
  have Hbk := Lib.hid hbk
  have Hrk := Lib.hid hrk
  have Hbt := Lib.hid (show ∀ w', Ext wb w' → (TCells [.int .i64 ra, .int .i64 ri, .int .i64 rn, .int .i64 rk, .string rl, .slice hdA hn hcc, .slice wA wn wc, .slice kA rs.length kc]).p (.pointer (some ⟨w.heap.size, 0, none⟩)) w' from fun w' he => (hb.ext he).t)
  have HB := Lib.hid (show ∀ w', Ext wb w' → (TCells [.int .i64 (j : Nat)]).p (.pointer (some ⟨B, 0, none⟩)) w' from fun w' he => ⟨B, 0, rfl, Nat.lt_of_lt_of_le hB (hx0.trans he).size, fun t u ht => by
    cases t with
    | zero =>
      simp at ht
      rw [← ht]
      exact ((hx0.trans he).cell (p := ⟨B, 0, none⟩) hB).trans hc
    | succ t => simp at ht⟩)
  have hz2 : w.heap.size + 2 ≤ wb.heap.size := by rw [← Hws.out]; exact Nat.le_refl _
  clear hwb hb hbk hrk hx0 hr hok hid hkd hlb hhn hhc hhs hwn hwc hws hall hrl hc
  go_enter Tryz.func94, Tryz.ntmps94
  go_wp2
  rw [Hwb.out]
  refine wp_drawn_tail 6 (fun i => match i with | 0 => TCells [.slice kA rs.length kc] | 1 => Ty.is (.slice kA rs.length kc) | 2 => TOwn unitEl wb.heap.size rs | 3 => Ty.is (.int .i64 (j : Nat)) | 4 => Ty.is (.int .i64 (j : Nat)) | 5 => Ty.is (.int .i64 ((j : Int) + 1)) | _ => Ty.any) (by kernel_rfl) (by kernel_rfl) (by kernel_rfl) (by decide) rfl ?_
  intro v
  refine ⟨?_, ?_, ?_, ?_, ?_, ?_, ?_⟩
  · intro wq hq hd
    refine ob_plain rfl ?_
    exact yld_field 27 5 (.tmp 2) rfl _ Tryz.underlying27 _ rfl 1 Tryz.sizeOf25 (by decide) [.int .i64 ra, .int .i64 ri, .int .i64 rn, .int .i64 rk, .string rl, .slice hdA hn hcc, .slice wA wn wc, .slice kA rs.length kc] ((Hbt.out _ hq))
  · intro wq hq hd
    obtain ⟨h0, -⟩ := hd
    change (TCells [.slice kA rs.length kc]).p (v 0) wq at h0
    refine ob_plain rfl ?_
    exact yld_loadOne 25 (.tmp 4) rfl Tryz.isAgg25 (c := .slice kA rs.length kc) h0 rfl
  · intro wq hq hd
    obtain ⟨h0, -⟩ := hd
    change v 1 = _ at h0
    refine ob_plain rfl ?_
    refine yld_call 63 Tryz.call63 _ _ rfl rfl [_] ⟨h0, trivial⟩ ?_
    refine (cloneU_any _ _ rs _ (hrs.ext (Hx0.out.trans hq)) (by omega)).mono ?_
    rintro e w' ⟨v', rfl, hown, hx'⟩
    exact ⟨_, rfl, hx', hown.mono hq.size⟩
  · intro wq hq hd
    refine ob_plain rfl ?_
    exact yld_loadOne 3 (.tmp 1) rfl Tryz.isAgg3 (c := .int .i64 (j : Nat)) (HB.out _ hq) rfl
  · intro wq hq hd
    refine ob_plain rfl ?_
    exact yld_loadOne 3 (.tmp 1) rfl Tryz.isAgg3 (c := .int .i64 (j : Nat)) (HB.out _ hq) rfl
  · intro wq hq hd
    obtain ⟨h0, -⟩ := hd
    change v 4 = _ at h0
    refine ob_plain rfl ?_
    exact yld_binInt .add 3 3 (.tmp 8) _ rfl _ _ h0 rfl (run_add_i64 _ _ _ (by omega) (by omega)) rfl
  · intro wq hq hT
    have k2 := hT 2 (by decide)
    change (TOwn unitEl wb.heap.size rs).p (v 2) wq at k2
    have k3 := hT 3 (by decide)
    change v 3 = _ at k3
    have k5 := hT 5 (by decide)
    change v 5 = _ at k5
    clear hT
    simp only [List.drop_succ_cons, List.drop_zero, putE, setsE, List.set_cons_succ, List.set_cons_zero, Nat.reduceAdd]
    generalize v 2 = x2 at k2 ⊢
    rw [k3]
    rw [k5]
    obtain ⟨A1, c1, rfl, hc1, -⟩ := Own.form k2
    have hown : Own unitEl wb.heap.size wq (.slice A1 rs.length c1) rs := k2
    obtain ⟨g, c2, hv⟩ := hown.someOf (by intro e; rw [e] at hj; simp at hj)
    cases hv
    have hgb := (hown.lt g rfl)
    have Hdel := Lib.hid (delete_any g c1 j wb.heap.size rs wq hown hj (by omega))
    have hbq := (hq.block (k := w.heap.size) (by omega)).trans Hbk.out
    have hrq := (hq.block (k := w.heap.size + 1) (by omega)).trans Hrk.out
    have hxq := Hx0.out.trans hq
    have hzq := hq.size
    clear k2 hown
    go_wp2_with fail
    refine (Hdel.out).mono ?_
    rintro e w2 ⟨c', n', rfl, hkp⟩
    have hb2 := (hkp.block w.heap.size (by omega) (by omega)).trans hbq
    have hr2 := (hkp.block (w.heap.size + 1) (by omega) (by omega)).trans hrq
    have hx2 : Ext w w2 := hkp.toExt hxq (by omega)
    have hz := hkp.size
    clear hkp hbq hrq hxq Hdel
    go_wp2_with (first | (refine wpList_fld rfl 27 5 (.tmp 2) rfl _ Tryz.underlying27 _ rfl 1 Tryz.sizeOf25 (by decide) w.heap.size 0 rfl ?_) |
      (refine wpList_put rfl 25 (.tmp 11) (.tmp 10) rfl w.heap.size 7 (.slice (some ⟨g, 0, none⟩) n' c') rfl rfl [.slice (some ⟨g, 0, none⟩) n' c'] rfl Tryz.sizeOf25 (by simp [Value.oneCell']) 27 _ hb2 (by simp) ?_; intro w3 hw3 hos3 htp3 hou3 hs3 hbk3; have hb3 : w3.heap[w.heap.size]? = some (.cells (RUnit.cells ⟨ra, ri, rn, rk, rl, hdA, hn, hcc, wA, wn, wc, some ⟨g, 0, none⟩, n', c'⟩).toArray 27 (0, 0)) := (hbk3.trans (by simp [RUnit.cells])); have hr3 := (hw3 (w.heap.size + 1) (by omega)).trans hr2; have hx3 : Ext w w3 := hx2.put (Nat.le_refl _) hw3 hos3 htp3 hou3 hs3; clear hw3 hos3 htp3 hou3 hs3 hbk3; obtain ⟨f0, f1, f2, f3, f4, f5, f6, f7⟩ := unitBlock hb3; dsimp only at f0 f1 f2 f3 f4 f5 f6 f7) |
      (refine wpList_put rfl 27 (.tmp 3) (.tmp 12) rfl (w.heap.size + 1) 0 (.agg (RUnit.cells ⟨ra, ri, rn, rk, rl, hdA, hn, hcc, wA, wn, wc, some ⟨g, 0, none⟩, n', c'⟩).toArray) rfl rfl (RUnit.cells ⟨ra, ri, rn, rk, rl, hdA, hn, hcc, wA, wn, wc, some ⟨g, 0, none⟩, n', c'⟩) rfl Tryz.sizeOf27 (by simp [RUnit.cells, Value.oneCell']) 27 _ hr3 (by simp [RUnit.cells]) ?_; intro w4 hw4 hos4 htp4 hou4 hs4 hbk4))
    have hfin : w4.heap[w.heap.size + 1]? = some (.cells (RUnit.cells ⟨ra, ri, rn, rk, rl, hdA, hn, hcc, wA, wn, wc, some ⟨g, 0, none⟩, n', c'⟩).toArray 27 (0, 0)) := by
      rw [hbk4]
      simp [RUnit.cells]
    refine bodyPost_ret (results_cell1 rfl _ _ (w.heap.size + 1) _ rfl hfin) rfl ?_
    exact ⟨_, rfl, hx3.put (by omega) hw4 hos4 htp4 hou4 hs4⟩
end Go.Proofs.YtjhdamjbljafhaaGreatDoor
namespace Go.Proofs.YtjhdamjbljafhaaGreatDoor
open Go.RowKit
def RetAt (w : World) (e : Ending) (w' : World) : Prop := ∃ (r' : RUnit) (b : Bool), e = .returned (.tuple #[.agg r'.cells.toArray, .bool b]) ∧ Ext w w'
def AtAt (N : Nat) : Prop := ∀ (u : GUnit) (r : RUnit) (id : GId) (B j : Nat) (w : World), SizeOf.sizeOf u ≤ N → Reads w u r → OkU u → B < w.heap.size → w.cell? ⟨B, 0, none⟩ = some (.int .i64 (j : Nat)) → (∀ x ∈ preF u, x.id = id → j < x.kids.length) →
    Calls Tryz.prog 133 #[.agg r.cells.toArray, .agg id.cells.toArray, .func (.func 94) #[] #[.pointer (some ⟨B, 0, none⟩)]] w (RetAt w)
set_option maxRecDepth 100000 in
set_option maxHeartbeats 3200000 in
theorem at_step (N : Nat) (ih : AtAt N) : AtAt (N + 1) := by
  intro u r id B j w hN hr hok hB hc hpl
  obtain ⟨hid, hkd, hlb, hhn, hhc, hhs, hwn, hwc, hws, hkn, hkc, rs, hrs, hall, hrl⟩ := hr.flds
  have hcu := hok.all.head.2.2.2.1
  have Hrec := Lib.hid (show ∀ (k : Nat) (h : k < u.kids.length) (h2 : k < rs.length) (wq : World), Ext w wq → Calls Tryz.prog 133 #[.agg rs[k].cells.toArray, .agg id.cells.toArray, .func (.func 94) #[] #[.pointer (some ⟨B, 0, none⟩)]] wq (RetAt wq) from fun k h h2 wq hq => ih u.kids[k] rs[k] id B j wq (sizeKid hN h) (Reads.ext hq _ _ (ReadsAll.get hall k h h2)) (hok.kid (List.getElem_mem h)) (Nat.lt_of_lt_of_le hB hq.size) ((hq.cell (p := ⟨B, 0, none⟩) hB).trans hc) (fun x hx hxi => hpl x (by
    rw [preF_cons]
    refine List.mem_cons_of_mem _ ?_
    rw [← List.take_append_drop k u.kids, preL_append, preL_drop h]
    exact List.mem_append_right _ (List.mem_append_left _ hx)) hxi))
  have Hdo := Lib.hid (fun (h : u.id = id) wq (he : Ext w wq) => without1_any u r B j wq (Reads.ext he u r hr) hok (Nat.lt_of_lt_of_le hB he.size) ((he.cell (p := ⟨B, 0, none⟩) hB).trans hc) (hpl u (by rw [preF_cons]; simp) h))
  rw [← hid] at Hdo
  rw [← hrl] at hkn hkc hcu
  have hrl2 : rs.length = u.kids.length := hrl
  obtain ⟨kids, hkk⟩ : ∃ kids, u.kids = kids := ⟨_, rfl⟩
  rw [hkk] at Hrec hrl2
  have Hrl := Lib.hid hrl2
  have hui := UI.new r id w
  have hx0 : Ext w ((w.alloc (.cells r.cells.toArray 27)).alloc (.cells id.cells.toArray 23)) := ((Ext.refl w).alloc _).alloc _
  have hx3 : Ext ((w.alloc (.cells r.cells.toArray 27)).alloc (.cells id.cells.toArray 23)) (((w.alloc (.cells r.cells.toArray 27)).alloc (.cells id.cells.toArray 23)).alloc (.cells unit0.cells.toArray 27)) := (Ext.refl _).alloc _
  have hrs0 := heap_alloc_new ((w.alloc (.cells r.cells.toArray 27)).alloc (.cells id.cells.toArray 23)) (.cells unit0.cells.toArray 27)
  replace hui := hui.ext hx3
  replace hx0 := hx0.trans hx3
  clear hx3
  rw [show ((w.alloc (.cells r.cells.toArray 27)).alloc (.cells id.cells.toArray 23)).heap.size = w.heap.size + 2 by simp] at hrs0
  clear hid hkd hlb hhn hhc hhs hwn hwc hws hkk hrl2 hrl ih hN hpl hc hall hr hok
  obtain ⟨ra, ri, rn, rk, rl, hdA, hn, hc, wA, wn, wc, kA, kn, kc⟩ := r
  obtain ⟨ia, ii, iN⟩ := id
  dsimp only at hkn hkc hrs
  subst hkn
  simp only [RUnit.cells, GId.cells, unit0, RUnit.id] at *
  obtain ⟨wb, hwb⟩ : ∃ wb, ((w.alloc (.cells #[.int .i64 ra, .int .i64 ri, .int .i64 rn, .int .i64 rk, .string rl, .slice hdA hn hc, .slice wA wn wc, .slice kA rs.length kc] 27)).alloc (.cells #[.int .i64 ia, .int .i64 ii, .int .i64 iN] 23)).alloc (.cells #[.int .i64 0, .int .i64 0, .int .i64 0, .int .i64 0, .string ⟨#[]⟩, .slice none 0 0, .slice none 0 0, .slice none 0 0] 27) = wb := ⟨_, rfl⟩
  rw [hwb] at hui hx0 hrs0
  have Hws := Lib.hid (show w.heap.size + 3 = wb.heap.size by rw [← hwb]; simp)
  have Hwb := Lib.hid hwb
  have Hui := Lib.hid hui
  have Hx0 := Lib.hid hx0
  have Hres := Lib.hid hrs0
  clear hrs0
  clear hwb
  have hq := fun W => idEql W ra ri rn ia ii iN
  have hz3 : w.heap.size + 3 ≤ wb.heap.size := by rw [← Hws.out]; exact Nat.le_refl _
  have hbk : wb.heap[w.heap.size]? = some (.cells (RUnit.cells ⟨ra, ri, rn, rk, rl, hdA, hn, hc, wA, wn, wc, kA, rs.length, kc⟩).toArray 27 (0, 0)) := by
    have h1 := heap_alloc_new w (.cells #[.int .i64 ra, .int .i64 ri, .int .i64 rn, .int .i64 rk, .string rl, .slice hdA hn hc, .slice wA wn wc, .slice kA rs.length kc] 27)
    rw [← Hwb.out]
    have h2 := (((Ext.refl (w.alloc (.cells #[.int .i64 ra, .int .i64 ri, .int .i64 rn, .int .i64 rk, .string rl, .slice hdA hn hc, .slice wA wn wc, .slice kA rs.length kc] 27))).alloc (.cells #[.int .i64 ia, .int .i64 ii, .int .i64 iN] 23)).alloc (.cells #[.int .i64 0, .int .i64 0, .int .i64 0, .int .i64 0, .string ⟨#[]⟩, .slice none 0 0, .slice none 0 0, .slice none 0 0] 27)).block (k := w.heap.size) (by simp)
    exact h2.trans h1
  have Hbk := Lib.hid hbk
  obtain ⟨c0, c1, c2, c3, c4, c5, c6, c7, i0, i1, i2⟩ := hui.cells
  dsimp only at c0 c1 c2 c3 c4 c5 c6 c7 i0 i1 i2
  clear hui hx0 hbk
  by_cases hE : (⟨ra, ri, rn⟩ : GId) = ⟨ia, ii, iN⟩
  · have Hd2 := Lib.hid (Hdo.out hE wb Hx0.out)
    simp only [decide_eq_true hE] at hq
    clear Hdo Hrec hE
    go_enter Tryz.func133, Tryz.ntmps133
    go_wp2_with fail
    rw [Hwb.out]
    go_wp2_with fail
    refine (Hd2.out).mono ?_
    rintro e w2 ⟨r', rfl, hx2⟩
    have hr2 := (hx2.block (k := w.heap.size + 2) (by omega)).trans Hres.out
    have hsz2 := hx2.size
    clear c0 c1 c2 c3 c4 c5 c6 c7 i0 i1 i2 Hd2
    go_wp2_with (refine wpList_put rfl 27 (.tmp 6) (.tmp 18) rfl (w.heap.size + 2) 0 (.agg r'.cells.toArray) rfl rfl (RUnit.cells r') rfl Tryz.sizeOf27 (by simp [RUnit.cells, Value.oneCell']) 27 _ hr2 (by simp [unit0, RUnit.cells]) ?_; intro w4 hw4 hos4 htp4 hou4 hs4 hbk4)
    have hfin : w4.heap[w.heap.size + 2]? = some (.cells r'.cells.toArray 27 (0, 0)) := by
      rw [hbk4]
      simp [RUnit.cells, unit0]
    refine bodyPost_ret (results_cell2 rfl _ _ (w.heap.size + 2) _ rfl hfin) rfl ?_
    exact ⟨r', true, rfl, (Hx0.out.trans hx2).put (by omega) hw4 hos4 htp4 hou4 hs4⟩
  · simp only [decide_eq_false hE] at hq
    clear Hdo hE
    go_enter Tryz.func133, Tryz.ntmps133
    go_wp2_with fail
    rw [Hwb.out]
    go_wp2
    clear c0 c1 c2 c3 c4 c5 c6 c7 i0 i1 i2
    go_loopw [22] (fun vi wr => ∃ k : Nat, k ≤ rs.length ∧ vi = .int .i64 (k : Nat) ∧ Ext wb wr) (fun vi _ => rs.length - (intOf vi).toNat)
    case atStart => exact ⟨0, Nat.zero_le _, rfl, Ext.refl _⟩
    case round =>
      obtain ⟨k, hk, rfl, hext⟩ := hrel
      by_cases hlt : k < rs.length
      · have hltk : k < kids.length := by rw [← Hrl.out]; exact hlt
        have d1 : decide ((k : Int) < (rs.length : Int)) = true := decide_eq_true (by omega)
        obtain ⟨q, hq2⟩ : ∃ q, rs[k] = q := ⟨_, rfl⟩
        obtain ⟨b, off, hAe, hb, u0, u1, u2, u3, u4, u5, u6, u7⟩ := unitAtK (hrs.ext (Hx0.out.trans hext)) hlt hq2
        subst hAe
        have hwk : Ext wr (wr.alloc (.cells #[.int .i64 q.a, .int .i64 q.i, .int .i64 q.n, .int .i64 q.kind, .string q.label, .slice q.hA q.hn q.hc, .slice q.wA q.wn q.wc, .slice q.kA q.kn q.kc] 27)) := (Ext.refl _).alloc _
        have hrec := Hrec.out k hltk hlt _ (Hx0.out.trans (hext.trans hwk))
        rw [hq2] at hrec
        have Hrc := Lib.hid hrec
        have hui2 := (Hui.out.ext (hext.trans hwk)).cells
        obtain ⟨-, -, -, -, -, -, -, -, i0, i1, i2⟩ := hui2
        dsimp only at i0 i1 i2
        clear hrec hq2
        go_wp2_with fail
        refine (Hrc.out).mono ?_
        rintro e w2 ⟨r', bb, rfl, hx2⟩
        have hxq := hext.trans (hwk.trans hx2)
        obtain ⟨xa, xi, xn, xk, xl, xhA, xhn, xhc, xwA, xwn, xwc, xkA, xkn, xkc⟩ := r'
        simp only [RUnit.cells]
        clear i0 i1 i2 u0 u1 u2 u3 u4 u5 u6 u7 Hrc
        have hwk2 : Ext w2 (w2.alloc (.cells #[.int .i64 xa, .int .i64 xi, .int .i64 xn, .int .i64 xk, .string xl, .slice xhA xhn xhc, .slice xwA xwn xwc, .slice xkA xkn xkc] 27)) := (Ext.refl _).alloc _
        cases bb with
        | false =>
          go_wp2
          go_roundw
          case rel => exact ⟨k + 1, by omega, by go_num, hxq.trans hwk2⟩
          case measure => simp [intOf]; omega
        | true =>
          have hxq2 := hxq.trans hwk2
          obtain ⟨f0, f1, f2, f3, f4, f5, f6, f7, -, -, -⟩ := (Hui.out.ext hxq2).cells
          dsimp only at f0 f1 f2 f3 f4 f5 f6 f7
          have Hcl := Lib.hid (cloneU_any (some ⟨b, off, none⟩) kc rs _ (hrs.ext (Hx0.out.trans hxq2)) (by omega))
          have hbk2 := (hxq2.block (k := w.heap.size) (by omega)).trans Hbk.out
          have hrk2 := (hxq2.block (k := w.heap.size + 2) (by omega)).trans Hres.out
          obtain ⟨-, x0, x1, x2, x3, x4, x5, x6, x7⟩ := BoxU.new ⟨xa, xi, xn, xk, xl, xhA, xhn, xhc, xwA, xwn, xwc, xkA, xkn, xkc⟩ w2
          have Hbx2 := Lib.hid (BoxU.new ⟨xa, xi, xn, xk, xl, xhA, xhn, xhc, xwA, xwn, xwc, xkA, xkn, xkc⟩ w2)
          have hsz1 := hxq.size
          simp only [RUnit.cells] at x0 x1 x2 x3 x4 x5 x6 x7 Hbx2
          go_wp2_with fail
          refine (Hcl.out).mono ?_
          rintro e w3 ⟨v3, rfl, hown, hx3⟩
          obtain ⟨g, c2, rfl⟩ := hown.someOf (by intro e; rw [e] at hlt; simp at hlt)
          have hg := hown.lt g rfl
          have hbk3 := (hx3.block (by simp; omega)).trans hbk2
          have hrk3 := (hx3.block (by simp; omega)).trans hrk2
          have Hb3 := Lib.hid (Hbx2.out.ext hx3)
          have hxw3 : Ext w w3 := (Hx0.out.trans hxq2).trans hx3
          simp only [World.size_alloc] at hg
          have hsz3 := hx3.size
          simp only [World.size_alloc] at hsz3
          have hne1 : g ≠ w.heap.size := by omega
          have hne2 : w2.heap.size ≠ w.heap.size := by omega
          clear f0 f1 f2 f3 f4 f5 f6 f7 x0 x1 x2 x3 x4 x5 x6 x7 hbk2 hrk2 Hcl
          go_wp2_with (first | (refine wpList_fld rfl 27 5 (.tmp 3) rfl _ Tryz.underlying27 _ rfl 1 Tryz.sizeOf25 (by decide) w.heap.size 0 rfl ?_) |
            (go_loud (refine wpList_put rfl 25 (.tmp 38) (.tmp 37) rfl w.heap.size 7 (.slice (some ⟨g, 0, none⟩) rs.length c2) rfl rfl [.slice (some ⟨g, 0, none⟩) rs.length c2] rfl Tryz.sizeOf25 (by simp [Value.oneCell']) 27 _ hbk3 (by simp [RUnit.cells]) ?_; intro w4 hw4 hos4 htp4 hou4 hs4 hbk4; have hb4 : w4.heap[w.heap.size]? = some (.cells (RUnit.cells ⟨ra, ri, rn, rk, rl, hdA, hn, hc, wA, wn, wc, some ⟨g, 0, none⟩, rs.length, c2⟩).toArray 27 (0, 0)) := (hbk4.trans (by simp [RUnit.cells])); have hr4 := (hw4 (w.heap.size + 2) (by omega)).trans hrk3; have hx4 : Ext w w4 := hxw3.put (Nat.le_refl _) hw4 hos4 htp4 hou4 hs4; have hown4 : Own unitEl (w2.heap.size + 1) w4 (.slice (some ⟨g, 0, none⟩) rs.length c2) rs := (by have h := hown.keep (w' := w4) (fun gg hgg => hw4 gg (by cases hgg; exact hne1)); simp only [World.size_alloc] at h; exact h); have hx4b : ∀ q cc, q.block = w2.heap.size → w3.cell? q = some cc → w4.cell? q = some cc := (fun q cc hqb hcc => (World.cell?_of_block (hw4 q.block (by rw [hqb]; exact hne2))).trans hcc); have Hs4 := Lib.hid hs4; clear hw4 hos4 htp4 hou4 hbk4 hs4; obtain ⟨f0, f1, f2, f3, f4, f5, f6, f7⟩ := unitBlock hb4; dsimp only at f0 f1 f2 f3 f4 f5 f6 f7; obtain ⟨-, y0, y1, y2, y3, y4, y5, y6, y7⟩ := Hb3.out; dsimp only at y0 y1 y2 y3 y4 y5 y6 y7; replace y0 := hx4b _ _ rfl y0; replace y1 := hx4b _ _ rfl y1; replace y2 := hx4b _ _ rfl y2; replace y3 := hx4b _ _ rfl y3; replace y4 := hx4b _ _ rfl y4; replace y5 := hx4b _ _ rfl y5; replace y6 := hx4b _ _ rfl y6; replace y7 := hx4b _ _ rfl y7; clear hx4b)) |
            (refine wpList_putOwn unitEl rfl (.tmp 43) (.tmp 42) rfl g c2 k (k * 8) ⟨xa, xi, xn, xk, xl, xhA, xhn, xhc, xwA, xwn, xwc, xkA, xkn, xkc⟩ _ rfl rfl rfl rfl hown4 hlt ?_; intro w5 hw5 hos5 htp5 hou5 hs5 hown5; have hb5 := (hw5 w.heap.size (by omega)).trans hb4; have hr5 := (hw5 (w.heap.size + 2) (by omega)).trans hr4; have hx5 : Ext w w5 := hx4.put (by omega) hw5 hos5 htp5 hou5 hs5; clear hw5 hos5 htp5 hou5 hown5 hs5; obtain ⟨f0, f1, f2, f3, f4, f5, f6, f7⟩ := unitBlock hb5; dsimp only at f0 f1 f2 f3 f4 f5 f6 f7) |
            (refine wpList_put rfl 27 (.tmp 6) (.tmp 44) rfl (w.heap.size + 2) 0 (.agg (RUnit.cells ⟨ra, ri, rn, rk, rl, hdA, hn, hc, wA, wn, wc, some ⟨g, 0, none⟩, rs.length, c2⟩).toArray) rfl rfl (RUnit.cells ⟨ra, ri, rn, rk, rl, hdA, hn, hc, wA, wn, wc, some ⟨g, 0, none⟩, rs.length, c2⟩) rfl Tryz.sizeOf27 (by simp [RUnit.cells, Value.oneCell']) 27 _ hr5 (by simp [RUnit.cells]) ?_; intro w6 hw6 hos6 htp6 hou6 hs6 hbk6))
          have hfin : w6.heap[w.heap.size + 2]? = some (.cells (RUnit.cells ⟨ra, ri, rn, rk, rl, hdA, hn, hc, wA, wn, wc, some ⟨g, 0, none⟩, rs.length, c2⟩).toArray 27 (0, 0)) := by
            rw [hbk6]
            simp [RUnit.cells]
          refine bodyPost_ret (results_cell2 rfl _ _ (w.heap.size + 2) _ rfl hfin) rfl ?_
          exact ⟨_, true, rfl, hx5.put (by omega) hw6 hos6 htp6 hou6 hs6⟩
      · have d1 : decide ((k : Int) < (rs.length : Int)) = false := decide_eq_false (by omega)
        obtain ⟨f0, f1, f2, f3, f4, f5, f6, f7, -, -, -⟩ := (Hui.out.ext hext).cells
        dsimp only at f0 f1 f2 f3 f4 f5 f6 f7
        have hrk2 := (hext.block (k := w.heap.size + 2) (by omega)).trans Hres.out
        have hsz1 := hext.size
        go_wp2_with (refine wpList_put rfl 27 (.tmp 6) (.tmp 46) rfl (w.heap.size + 2) 0 (.agg (RUnit.cells ⟨ra, ri, rn, rk, rl, hdA, hn, hc, wA, wn, wc, kA, rs.length, kc⟩).toArray) rfl rfl (RUnit.cells ⟨ra, ri, rn, rk, rl, hdA, hn, hc, wA, wn, wc, kA, rs.length, kc⟩) rfl Tryz.sizeOf27 (by simp [RUnit.cells, Value.oneCell']) 27 _ hrk2 (by simp [RUnit.cells]) ?_; intro w4 hw4 hos4 htp4 hou4 hs4 hbk4)
        have hfin : w4.heap[w.heap.size + 2]? = some (.cells (RUnit.cells ⟨ra, ri, rn, rk, rl, hdA, hn, hc, wA, wn, wc, kA, rs.length, kc⟩).toArray 27 (0, 0)) := by
          rw [hbk4]
          simp [RUnit.cells]
        refine bodyPost_ret (results_cell2 rfl _ _ (w.heap.size + 2) _ rfl hfin) rfl ?_
        exact ⟨_, false, rfl, (Hx0.out.trans hext).put (by omega) hw4 hos4 htp4 hou4 hs4⟩
theorem at_any : ∀ N, AtAt N
  | 0 => fun _ _ _ _ _ _ h => (size0 h).elim
  | N + 1 => at_step N (at_any N)
end Go.Proofs.YtjhdamjbljafhaaGreatDoor
namespace Go.Proofs.YtjhdamjbljafhaaGreatDoor
open Go.RowKit
def YldW (P : Program) (ρ : Operand → Value) (o : Oper) (w0 w : World) (T : Value → World → Prop) : Prop :=
  match (execOp ρ o).run P w with
  | .ok (.value v) w' => Ext w0 w' ∧ T v w'
  | .ok .skip w' => Ext w0 w' ∧ T undef w'
  | .ok (.enter f args) w' => Calls P f args w' fun e w'' => ∃ v, e = .returned v ∧ Ext w0 w'' ∧ T v w''
  | _ => False
section
variable {P : Program} {ops : List Oper} {T T2 : Nat → Ty} {w0 : World} {a0 : Act}
end
def OblsT (P : Program) (T T2 : Nat → Ty) (w0 : World) (s : Nat) (early : List Nat) (Q : Act → World → Prop) (v : Nat → Value) : Nat → List Oper → Act → Prop
  | i, [], a => ∀ w, Ext w0 w → (∀ j, j < i → (T2 j).p (v j) w) → Q a w
  | i, o :: rest, a => o.guard = none ∧ (if i = s then (∀ w, Ext w0 w → (∀ j, early.contains j = true → (T j).p (v j) w) → YldW P a.eval o w0 w (T2 i).p) else
      ((∀ w, Ext w0 w → DepsHold T v w (aft o) → Yld P a.eval o w (T i).p) ∧ (early.contains i = false → ∀ w, Ext w0 w → DepsHold T2 v w (aft o) → Yld P a.eval o w (T2 i).p))) ∧
      OblsT P T T2 w0 s early Q v (i + 1) rest (a.put o.dst (v i))
section
variable {P : Program} {T T2 : Nat → Ty} {w0 : World} {s : Nat} {early : List Nat}
end
section
variable {P : Program} {l1 l2 : List Oper} {T T2 : Nat → Ty} {w0 : World} {a0 : Act} {Q : Exit → Act → World → Prop} {s : Nat} {early : List Nat}
end
def OblsTE (P : Program) (T T2 : Nat → Ty) (w0 : World) (s : Nat) (early : List Nat) (a0 : List Value) (Q : List Value → World → Prop) (v : Nat → Value) : Nat → List Oper → List (Nat × Value) → Prop
  | i, [], env => ∀ w, Ext w0 w → (∀ j, j < i → (T2 j).p (v j) w) → Q (setsE env a0) w
  | i, o :: rest, env => o.guard = none ∧ (if i = s then (∀ w, Ext w0 w → (∀ j, early.contains j = true → (T j).p (v j) w) → YldW P (evalE env a0) o w0 w (T2 i).p) else
      ((∀ w, Ext w0 w → DepsHold T v w (aft o) → Yld P (evalE env a0) o w (T i).p) ∧ (early.contains i = false → ∀ w, Ext w0 w → DepsHold T2 v w (aft o) → Yld P (evalE env a0) o w (T2 i).p))) ∧
      OblsTE P T T2 w0 s early a0 Q v (i + 1) rest (putE env o.dst (v i))
theorem OblsTE.obls {P : Program} {T T2 : Nat → Ty} {w0 : World} {s : Nat} {early : List Nat} {a0 : List Value} {Q : Act → World → Prop} {v : Nat → Value} {ds : List Deferred} : ∀ (rest : List Oper) (i : Nat) (env : List (Nat × Value)),
    (∀ p ∈ env, p.1 < a0.length) → dstsIn a0.length rest = true → OblsTE P T T2 w0 s early a0 (fun l w => Q ⟨l.toArray, ds⟩ w) v i rest env → OblsT P T T2 w0 s early Q v i rest ⟨(setsE env a0).toArray, ds⟩
  | [], _, _, _, _, h => h
  | o :: rest, i, env, henv, hr, h => by
    simp only [dstsIn, Bool.and_eq_true] at hr
    have hev : evalL (setsE env a0) = evalE env a0 := by
      funext x
      cases x with
      | tmp t => exact (lookE_eq env a0 t henv).symm
      | _ => rfl
    refine ⟨h.1, ?_, ?_⟩
    · rw [eval_toArray, hev]
      exact h.2.1
    · rw [put_toArray]
      have e : putL (setsE env a0) o.dst (v i) = setsE (putE env o.dst (v i)) a0 := by
        cases hd : o.dst <;> rfl
      rw [e]
      refine OblsTE.obls rest (i + 1) _ ?_ hr.2 h.2.2
      intro p hp
      unfold putE at hp
      cases hd : o.dst with
      | none => rw [hd] at hp; exact henv p hp
      | some d =>
        rw [hd] at hp
        simp only [List.mem_cons] at hp
        rcases hp with rfl | hp
        · rw [hd] at hr
          simpa [Nat.blt_eq] using hr.1
        · exact henv p hp
end Go.Proofs.YtjhdamjbljafhaaGreatDoor
