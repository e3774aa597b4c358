/- Set: the table with other words in a cell. -/
import Derived.Test.YthjlnpcanccmkaaSetF9
namespace Go.Proofs.Ythjlnpcanccmkaa
open Go.RowKit

theorem results_cell2 {fn : Func} {t u : Tmp} (h : fn.results = #[.cell t 27, .tmp u]) (tmps : Array Value) (w : World) (b : Nat) (r : RUnit) (hp : tmps.getD t undef = .pointer (some ⟨b, 0, none⟩)) (hc : w.heap[b]? = some (.cells r.cells.toArray 27 (0, 0))) :
    (results fn tmps).run Try.prog w = .ok (.tuple #[.agg r.cells.toArray, tmps.getD u undef]) w := by
  have hl := run_loadCells_list (P := Try.prog) w ⟨b, 0, none⟩ r.cells (fun j u hu => by
    have hadd : (⟨b, 0, none⟩ : Addr).add j = ⟨b, j, none⟩ := by unfold Addr.add; split <;> simp_all
    rw [hadd]
    simp only [World.cell?, hc]
    simpa using hu)
  have hp' : tmps[t]?.getD undef = .pointer (some ⟨b, 0, none⟩) := by simpa using hp
  have hn : ∀ w, (sizeOf 27).run Try.prog w = .ok r.cells.length w := Try.sizeOf27
  simp [results, h, hp', asAddr, loadVar, Try.isAgg27, hn, hl]
theorem zero_reads (w : World) : Reads w zeroU unit0 := by
  unfold zeroU
  rw [Reads]
  exact ⟨⟨rfl, rfl, rfl, rfl, rfl⟩, ⟨rfl, Nat.le_refl _, Sl.nil⟩, ⟨rfl, Nat.le_refl _, Sl.nil⟩, rfl, Nat.le_refl _, [], Sl.nil, by rw [ReadsAll]; trivial⟩
def RetSet (w : World) (u : GUnit) (b : Bool) (e : Ending) (w' : World) : Prop := ∃ r' : RUnit, e = .returned (.tuple #[.agg r'.cells.toArray, .bool b]) ∧ Ext w w' ∧ Reads w' u r'

set_option maxRecDepth 100000 in
set_option maxHeartbeats 3200000 in
theorem set_any (u : GUnit) (r : RUnit) (row col : Int) (lA : Option Addr) (lc : Nat) (l : List GWord) (w : World) (hr : Reads w u r) (hsl : Sl wordEl w lA l) (hA : AllU (lensLe 1048576 1048576) u) (hll : l.length ≤ 9223372036854775807) :
    Calls Try.prog 26 #[.agg r.cells.toArray, .int .i64 row, .int .i64 col, .slice lA l.length lc] w (RetSet w (setF u row col l) (okB u row col l)) := by
  have hA9 : AllU (lensLe 9223372036854775807 9223372036854775807) u := AllU.mono (lens_up (by omega) (by omega)) _ hA
  have hx0 : Ext w ((w.alloc (.cells r.cells.toArray 27)).alloc (.cells unit0.cells.toArray 27)) := ((Ext.refl w).alloc _).alloc _
  have hbx : ((w.alloc (.cells r.cells.toArray 27)).alloc (.cells unit0.cells.toArray 27)).heap[w.heap.size]? = some (.cells r.cells.toArray 27 (0, 0)) := by
    have e := ((Ext.refl (w.alloc (.cells r.cells.toArray 27))).alloc (.cells unit0.cells.toArray 27)).block (k := w.heap.size) (by simp)
    exact e.trans (heap_alloc_new w _)
  have hres : ((w.alloc (.cells r.cells.toArray 27)).alloc (.cells unit0.cells.toArray 27)).heap[w.heap.size + 1]? = some (.cells unit0.cells.toArray 27 (0, 0)) := by
    have e := heap_alloc_new (w.alloc (.cells r.cells.toArray 27)) (.cells unit0.cells.toArray 27)
    rw [show (w.alloc (.cells r.cells.toArray 27)).heap.size = w.heap.size + 1 from by simp] at e
    exact e
  have hsz : ((w.alloc (.cells r.cells.toArray 27)).alloc (.cells unit0.cells.toArray 27)).heap.size = w.heap.size + 2 := by simp
  obtain ⟨wz, hwz⟩ : ∃ wz, ((w.alloc (.cells r.cells.toArray 27)).alloc (.cells unit0.cells.toArray 27)) = wz := ⟨_, rfl⟩
  rw [hwz] at hx0 hbx hres hsz
  have hz1 : w.heap.size + 2 ≤ wz.heap.size := by omega
  have hbu := fun w' (he : Ext wz w') => unitBlock ((he.block (k := w.heap.size) (by omega)).trans hbx)
  have hv := there_any u r row col wz (Reads.ext hx0 _ _ hr) hA9
  simp only [RUnit.cells, unit0] at hwz
  simp only [RUnit.cells] at hv ⊢
  have Hwz := Lib.hid hwz
  have Hres := Lib.hid hres
  have Hbx := Lib.hid hbx
  have Hbu := Lib.hid hbu
  clear hwz hsz hres hbx hbu
  cases hth : thereB u row col with
  | false =>
    have e1 : okB u row col l = false := by simp [okB, hth]
    have e2 : setF u row col l = zeroU := by simp [setF, e1]
    rw [e1, e2]
    rw [hth] at hv
    have Hv := Lib.hid hv
    clear hv hth e1 e2 hr hA hA9 hsl
    go_enter Try.func26, Try.ntmps26
    go_wp2_with fail
    rw [Hwz.out]
    refine (Hv.out).mono ?_
    rintro e w2 ⟨rfl, hx2⟩
    have hres2 := (hx2.block (k := w.heap.size + 1) (by omega)).trans Hres.out
    go_wp2_with (refine wpList_put rfl 27 (.tmp 8) (.tmp 20) rfl (w.heap.size + 1) 0 (.agg unit0.cells.toArray) rfl rfl unit0.cells rfl Try.sizeOf27 (unitEl.h1 unit0) 27 _ hres2 (by simp [RUnit.cells]) ?_; intro w3 hw3 hos3 htp3 hou3 hs3 hbk3)
    have hfin : w3.heap[w.heap.size + 1]? = some (.cells unit0.cells.toArray 27 (0, 0)) := by
      rw [hbk3]
      simp [RUnit.cells]
    (try simp only [Exit.inBlock, Exit.then])
    refine bodyPost_ret (results_cell2 rfl _ _ (w.heap.size + 1) _ rfl hfin) rfl ?_
    exact ⟨unit0, rfl, (hx0.trans hx2).put (by omega) hw3 hos3 htp3 hou3 hs3, zero_reads _⟩
  | true =>
    rw [hth] at hv
    have Hv := Lib.hid hv
    by_cases h256 : l.length ≤ 256
    case neg =>
      have e1 : okB u row col l = false := by simp [okB, h256]
      have e2 : setF u row col l = zeroU := by simp [setF, e1]
      rw [e1, e2]
      have d1 : decide ((l.length : Int) > 256) = true := decide_eq_true (by omega)
      clear hv hth e1 e2 hr hA hA9 hsl
      go_enter Try.func26, Try.ntmps26
      go_wp2_with fail
      rw [Hwz.out]
      refine (Hv.out).mono ?_
      rintro e w2 ⟨rfl, hx2⟩
      have hres2 := (hx2.block (k := w.heap.size + 1) (by omega)).trans Hres.out
      go_wp2_with (refine wpList_put rfl 27 (.tmp 8) (.tmp 20) rfl (w.heap.size + 1) 0 (.agg unit0.cells.toArray) rfl rfl unit0.cells rfl Try.sizeOf27 (unitEl.h1 unit0) 27 _ hres2 (by simp [RUnit.cells]) ?_; intro w3 hw3 hos3 htp3 hou3 hs3 hbk3)
      have hfin : w3.heap[w.heap.size + 1]? = some (.cells unit0.cells.toArray 27 (0, 0)) := by
        rw [hbk3]
        simp [RUnit.cells]
      (try simp only [Exit.inBlock, Exit.then])
      refine bodyPost_ret (results_cell2 rfl _ _ (w.heap.size + 1) _ rfl hfin) rfl ?_
      exact ⟨unit0, rfl, (hx0.trans hx2).put (by omega) hw3 hos3 htp3 hou3 hs3, zero_reads _⟩
    case pos =>
      obtain ⟨-, h1, -, h3, -⟩ := there_parts2 hth
      obtain ⟨ki, rfl⟩ : ∃ i : Nat, row = i := ⟨row.toNat, by omega⟩
      obtain ⟨kj, rfl⟩ : ∃ i : Nat, col = i := ⟨col.toNat, by omega⟩
      have e1 : okB u ki kj l = true := by simp [okB, hth, h256]
      have e2 : setF u ki kj l = setU u ki kj l := by simp [setF, e1]
      rw [e1, e2]
      have d1 : decide ((l.length : Int) > 256) = false := decide_eq_false (by omega)
      have hl5 : l.length ≤ 1048576 := by omega
      have Hth := Lib.hid hth
      have Hcp := Lib.hid (fun w' (he : Ext wz w') => copied_any u r w' (Reads.ext (hx0.trans he) _ _ hr) hA)
      simp only [RUnit.cells] at Hcp
      clear hv hth e1 e2 hr hA hA9 h1 h3
      go_enter Try.func26, Try.ntmps26
      go_wp2_with fail
      rw [Hwz.out]
      refine (Hv.out).mono ?_
      rintro e w2 ⟨rfl, hx2⟩
      obtain ⟨f0, f1, f2, f3, f4, f5, f6, f7⟩ := Hbu.out w2 hx2
      go_wp2_with fail
      refine (Hcp.out w2 hx2).mono ?_
      rintro e w3 ⟨r', rfl, hx3, hsep⟩
      have hb3 := ((hx2.trans hx3).block (k := w.heap.size) (by omega)).trans Hbx.out
      have hr3 := ((hx2.trans hx3).block (k := w.heap.size + 1) (by omega)).trans Hres.out
      have hz2 := hx2.size
      have hz3 := hx3.size
      clear f0 f1 f2 f3 f4 f5 f6 f7
      go_wp2_with (refine wpList_put rfl 27 (.tmp 4) (.tmp 22) rfl w.heap.size 0 (.agg r'.cells.toArray) rfl rfl r'.cells rfl Try.sizeOf27 (unitEl.h1 r') 27 _ hb3 (by simp [RUnit.cells]) ?_; intro w4 hw4 hos4 htp4 hou4 hs4 hbk4; have Hs4 := Lib.hid hs4; clear hs4)
      have hb4 : w4.heap[w.heap.size]? = some (.cells r'.cells.toArray 27 (0, 0)) := by rw [hbk4]; simp [RUnit.cells]
      have hr4 := (hw4 (w.heap.size + 1) (by omega)).trans hr3
      have hw4x : Ext w w4 := (hx0.trans (hx2.trans hx3)).put (Nat.le_refl _) hw4 hos4 htp4 hou4 Hs4.out
      have hsep4 : Sep w4 u r' w2.heap.size w3.heap.size := Sep.keep _ _ _ _ hsep fun k hk hk2 => hw4 k (by omega)
      obtain ⟨us, q, cs, g1, cc, hca, hfin⟩ := set_reads (l := l) hsep4 Hth.out
      obtain ⟨qa, qi, qn, qk, ql, qhA, qhn, qhc, qwA, qwn, qwc, qkA, qkn, qkc⟩ := q
      obtain ⟨c1, c2, c3, c4, c5, c6, c7, c8, c9, c10⟩ := hca
      dsimp only at c4 c5 c6
      subst c4 c5 c6
      obtain ⟨_, _, hv4, -, hus⟩ := c1.form
      cases hv4
      have hsz4 : w4.heap.size = w3.heap.size := Hs4.out
      have hb4l : w.heap.size < w4.heap.size := block_lt hb4
      have Hb4 := Lib.hid (show ∀ w', Ext w4 w' → _ from fun w' he => blockT hb4 hb4l he)
      simp only [RUnit.cells, c2] at Hb4
      have Hus := Lib.hid (fun w' (he : Ext w4 w') => hus.ext he)
      have Hat := Lib.hid c3
      have Hfin := Lib.hid hfin
      have f7 := (unitBlock hb4).2.2.2.2.2.2.2
      have hw4 : Ext w w4 := hw4x
      have hz4 : wz.heap.size ≤ w4.heap.size := by omega
      have hlo : wz.heap.size ≤ w2.heap.size := hz2
      have hg4 : g1 < w4.heap.size := by omega
      have C2 := Lib.hid c2
      have Hsz4 := Lib.hid hsz4
      have d2 : decide ((kj : Int) < (cs.length : Int)) = true := decide_eq_true (by omega)
      clear c1 c3 hus hsz4 hfin hbk4 hb3 hr3 hsep hsep4
      go_wp2
      clear f7
      refine wp_drawn_tail 9 (fun i => match i with | 0 => TCells [.slice r'.kA us.length r'.kc] | 1 => Ty.is (.slice r'.kA us.length r'.kc) | 2 => Ty.is (.int .i64 (ki : Nat)) | 3 => TCells [.int .i64 qa, .int .i64 qi, .int .i64 qn, .int .i64 qk, .string ql, .slice qhA qhn qhc, .slice qwA qwn qwc, .slice (some ⟨g1, 0, none⟩) cs.length qkc] | 4 => TCells [.slice (some ⟨g1, 0, none⟩) cs.length qkc] | 5 => Ty.is (.slice (some ⟨g1, 0, none⟩) cs.length qkc) | 6 => Ty.is (.int .i64 (kj : Nat)) | 7 => Ty.is (.slice lA l.length lc) | 8 => TOwn wordEl w4.heap.size l | _ => Ty.any) (by kernel_rfl) (by kernel_rfl) (by kernel_rfl) (by decide) rfl ?_
      intro v
      refine ⟨?_, ?_, ?_, ?_, ?_, ?_, ?_, ?_, ?_, ?_⟩
      · intro wq hq hd
        refine ob_plain rfl ?_
        exact yld_field 27 5 (.tmp 4) rfl _ Try.underlying27 _ rfl 1 Try.sizeOf25 (by decide) [.int .i64 r'.a, .int .i64 r'.i, .int .i64 r'.n, .int .i64 r'.kind, .string r'.label, .slice r'.hA r'.hn r'.hc, .slice r'.wA r'.wn r'.wc, .slice r'.kA us.length r'.kc] (Hb4.out _ hq)
      · intro wq hq hd
        obtain ⟨h0, -⟩ := hd
        change (TCells [.slice r'.kA us.length r'.kc]).p (v 0) wq at h0
        refine ob_plain rfl ?_
        exact yld_loadOne 25 (.tmp 23) rfl Try.isAgg25 (c := .slice r'.kA us.length r'.kc) h0 rfl
      · intro wq hq hd
        refine ob_plain rfl ?_
        exact yld_move (.tmp 1) rfl rfl rfl
      · intro wq hq hd
        obtain ⟨h0, h1, -⟩ := hd
        change v 1 = _ at h0
        change v 2 = _ at h1
        refine ob_plain rfl ?_
        exact yld_indexAt unitEl (.tmp 24) _ rfl _ us r'.kc h0 ki h1 (Hus.out _ hq) _ Hat.out
      · intro wq hq hd
        obtain ⟨h0, -⟩ := hd
        change (TCells [.int .i64 qa, .int .i64 qi, .int .i64 qn, .int .i64 qk, .string ql, .slice qhA qhn qhc, .slice qwA qwn qwc, .slice (some ⟨g1, 0, none⟩) cs.length qkc]).p (v 3) wq at h0
        refine ob_plain rfl ?_
        exact yld_field 27 5 (.tmp 26) rfl _ Try.underlying27 _ rfl 1 Try.sizeOf25 (by decide) [.int .i64 qa, .int .i64 qi, .int .i64 qn, .int .i64 qk, .string ql, .slice qhA qhn qhc, .slice qwA qwn qwc, .slice (some ⟨g1, 0, none⟩) cs.length qkc] (h0)
      · intro wq hq hd
        obtain ⟨h0, -⟩ := hd
        change (TCells [.slice (some ⟨g1, 0, none⟩) cs.length qkc]).p (v 4) wq at h0
        refine ob_plain rfl ?_
        exact yld_loadOne 25 (.tmp 27) rfl Try.isAgg25 (c := .slice (some ⟨g1, 0, none⟩) cs.length qkc) h0 rfl
      · intro wq hq hd
        refine ob_plain rfl ?_
        exact yld_move (.tmp 2) rfl rfl rfl
      · intro wq hq hd
        refine ob_plain rfl ?_
        exact yld_move (.tmp 3) rfl rfl rfl
      · intro wq hq hd
        obtain ⟨h0, -⟩ := hd
        change v 7 = _ at h0
        refine ob_plain rfl ?_
        refine yld_call 39 Try.call39 _ _ rfl rfl [_] ⟨h0, trivial⟩ ?_
        refine (cloneW_any _ _ l _ (hsl.ext (hw4.trans hq)) hl5).mono ?_
        rintro e w' ⟨v', rfl, hown, hx'⟩
        exact ⟨_, rfl, hx', hown.mono hq.size⟩
      · intro wq hq hT
        have k5 := hT 5 (by decide)
        change v 5 = _ at k5
        have k6 := hT 6 (by decide)
        change v 6 = _ at k6
        have k8 := hT 8 (by decide)
        change (TOwn wordEl w4.heap.size l).p (v 8) wq at k8
        clear hT
        simp only [List.drop_succ_cons, List.drop_zero, putE, setsE, List.set_cons_succ, List.set_cons_zero, Nat.reduceAdd]
        rw [k5]
        rw [k6]
        generalize v 8 = x8 at k8 ⊢
        obtain ⟨Al, cl, rfl, hcl, -⟩ := Own.form k8
        have hol : Own wordEl w4.heap.size wq (.slice Al l.length cl) l := k8
        have hoq := c7.ext hq
        obtain ⟨cur, hcur, hcs, hpat⟩ := Own.patch (k := kj) (f := 6) (vs := [.slice Al l.length cl]) (r' := cs[kj].withWords Al l.length cl) hoq c8 (by simp [RUnit.cells, RUnit.withWords, unitEl]) (by simp [unitEl])
        have Hpat := Lib.hid hpat
        have hbq := (hq.block hb4l).trans hb4
        have hrq := (hq.block (by omega)).trans hr4
        have hqs := hq.size
        clear hpat k8
        go_wp2_with (first | (refine wpList_fld rfl 27 4 (.tmp 32) rfl _ Try.underlying27 _ rfl 1 Try.sizeOf24 (by decide) g1 (kj * 8) rfl ?_) |
          ((refine wpList_put rfl 24 (.tmp 33) (.tmp 31) rfl g1 (kj * 8 + 6) (.slice Al l.length cl) rfl rfl [.slice Al l.length cl] rfl Try.sizeOf24 (by simp [Value.oneCell']) 27 cur hcur hcs ?_); intro w5 hw5 hos5 htp5 hou5 hs5 hbk5; have Hs5 := Lib.hid hs5; clear hs5; have hb5 := (hw5 w.heap.size (by omega)).trans hbq; have hr5 := (hw5 (w.heap.size + 1) (by omega)).trans hrq; obtain ⟨f0, f1, f2, f3, f4, f5, f6, f7⟩ := unitBlock hb5) |
          ((refine wpList_put rfl 27 (.tmp 8) (.tmp 34) rfl (w.heap.size + 1) 0 (.agg r'.cells.toArray) rfl (by simp only [RUnit.cells, C2.out]; rfl) r'.cells rfl Try.sizeOf27 (unitEl.h1 r') 27 _ hr5 (by simp [RUnit.cells, unit0]) ?_); intro w6 hw6 hos6 htp6 hou6 hs6 hbk6))
        have hfin6 : w6.heap[w.heap.size + 1]? = some (.cells r'.cells.toArray 27 (0, 0)) := by
          rw [hbk6]
          simp [RUnit.cells, unit0]
        have hs5 := Hs5.out
        have hs4 := Hsz4.out
        have hx5 : Ext w w5 := (hw4.trans hq).put (by omega) hw5 hos5 htp5 hou5 hs5
        have hx6 : Ext w w6 := hx5.put (by omega) hw6 hos6 htp6 hou6 hs6
        have ho5 := (Hpat.out w5 hbk5).keep (w' := w6) fun k hk => hw6 k (by cases hk; show g1 ≠ _; omega)
        have hol6 : Own wordEl w4.heap.size w6 (.slice Al l.length cl) l := hol.keep fun k hk => by
          have := (hol.lt k hk).1
          exact (hw6 k (by omega)).trans (hw5 k (by omega))
        obtain ⟨_, _, hv6, hcl6, hsl6⟩ := hol6.form
        cases hv6
        (try simp only [Exit.inBlock, Exit.then])
        refine bodyPost_ret (results_cell2 rfl _ _ (w.heap.size + 1) _ rfl hfin6) rfl ?_
        exact ⟨r', rfl, hx6, Hfin.out w6 Al cl c8 (by omega) ho5 (fun k hk hk2 hk3 => (hw6 k (by omega)).trans ((hw5 k hk3).trans (hq.block hk2))) hsl6 hcl6⟩

end Go.Proofs.Ythjlnpcanccmkaa
