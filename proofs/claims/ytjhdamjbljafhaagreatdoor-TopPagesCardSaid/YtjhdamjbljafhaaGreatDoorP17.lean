/- treeedit.has, unit.Ancestors, unit.Parent. unit.Parent: where a unit that is not the root hangs. -/
import Derived.Test.YtjhdamjbljafhaaGreatDoorP16
namespace Go.Proofs.YtjhdamjbljafhaaGreatDoor
open Go.RowKit
theorem ret_intU {k : IntKind} {a b : Int} (h : a = b) : Ending.returned (.int k a) = .returned (.int k b) := by rw [h]
set_option maxRecDepth 100000 in
set_option maxHeartbeats 1600000 in
theorem has_any (u : GUnit) (r : RUnit) (id : GId) (w : World) (hr : Reads w u r) (hok : OkU u) : Calls Tryz.prog 54 #[.agg r.cells.toArray, .agg id.cells.toArray] w fun e w' => e = .returned (.bool (findF id u).isSome) ∧ Ext w w' := by
  have Hf := Lib.hid (fun wq (he : Ext w wq) => find_any u r id wq (Reads.ext he u r hr) hok)
  obtain ⟨X, hX⟩ : ∃ X, findF id u = X := ⟨_, rfl⟩
  rw [hX] at Hf ⊢
  have hui := UI.new r id w
  have hx0 : Ext w ((w.alloc (.cells r.cells.toArray 27)).alloc (.cells id.cells.toArray 23)) := ((Ext.refl w).alloc _).alloc _
  obtain ⟨ra, ri, rn, rk, rl, hdA, hn, hc, wA, wn, wc, kA, kn, kc⟩ := r
  obtain ⟨ia, ii, iN⟩ := id
  simp only [RUnit.cells, GId.cells] at *
  obtain ⟨wb, hwb⟩ : ∃ wb, (w.alloc (.cells #[.int .i64 ra, .int .i64 ri, .int .i64 rn, .int .i64 rk, .string rl, .slice hdA hn hc, .slice wA wn wc, .slice kA kn kc] 27)).alloc (.cells #[.int .i64 ia, .int .i64 ii, .int .i64 iN] 23) = wb := ⟨_, rfl⟩
  rw [hwb] at hui hx0
  have Hws := Lib.hid (show w.heap.size + 2 = wb.heap.size by rw [← hwb]; simp)
  have Hwb := Lib.hid hwb
  have Hui := Lib.hid hui
  have Hx0 := Lib.hid hx0
  clear hwb hui hx0 hr hok hX
  have Hf2 := Lib.hid (Hf.out wb Hx0.out)
  obtain ⟨c0, c1, c2, c3, c4, c5, c6, c7, i0, i1, i2⟩ := Hui.out.cells
  dsimp only at c0 c1 c2 c3 c4 c5 c6 c7 i0 i1 i2
  cases X with
  | none =>
    go_enter Tryz.func54, Tryz.ntmps54
    go_wp2_with fail
    rw [Hwb.out]
    go_wp2_with fail
    refine (Hf2.out).mono ?_
    rintro e w2 ⟨hx2, rfl⟩
    simp only [unit0, RUnit.cells]
    clear c0 c1 c2 c3 c4 c5 c6 c7 i0 i1 i2 Hf Hf2
    go_wp2
    go_ret
    exact ⟨rfl, Hx0.out.trans (hx2.trans ((Ext.refl _).alloc _))⟩
  | some x =>
    go_enter Tryz.func54, Tryz.ntmps54
    go_wp2_with fail
    rw [Hwb.out]
    go_wp2_with fail
    refine (Hf2.out).mono ?_
    rintro e w2 ⟨hx2, r', rfl, -⟩
    obtain ⟨xa, xi, xn, xk, xl, xhA, xhn, xhc, xwA, xwn, xwc, xkA, xkn, xkc⟩ := r'
    simp only [RUnit.cells]
    clear c0 c1 c2 c3 c4 c5 c6 c7 i0 i1 i2 Hf Hf2
    go_wp2
    go_ret
    exact ⟨rfl, Hx0.out.trans (hx2.trans ((Ext.refl _).alloc _))⟩
set_option maxRecDepth 100000 in
set_option maxHeartbeats 1600000 in
theorem ancestors_any (u : GUnit) (r : RUnit) (id : GId) (w : World) (hr : Reads w u r) (hok : OkU u) : Calls Tryz.prog 103 #[.agg r.cells.toArray, .agg id.cells.toArray] w fun e w' => ∃ v xs, e = .returned v ∧ xs.length ≤ 1000 ∧ Own idEl w.heap.size w' v xs ∧ Ext w w' := by
  have Hway := Lib.hid (fun wq (he : Ext w wq) => way_any _ u r id wq (Nat.le_refl _) (Reads.ext he u r hr) hok)
  have hln := Nat.le_trans (wayF_len id u) hok.cnt
  obtain ⟨W, hW⟩ : ∃ W, wayF id u = W := ⟨_, rfl⟩
  rw [hW] at Hway hln
  have hui := UI.new r id w
  have hx0 : Ext w ((w.alloc (.cells r.cells.toArray 27)).alloc (.cells id.cells.toArray 23)) := ((Ext.refl w).alloc _).alloc _
  obtain ⟨ra, ri, rn, rk, rl, hdA, hn, hc, wA, wn, wc, kA, kn, kc⟩ := r
  obtain ⟨ia, ii, iN⟩ := id
  simp only [RUnit.cells, GId.cells] at *
  obtain ⟨wb, hwb⟩ : ∃ wb, (w.alloc (.cells #[.int .i64 ra, .int .i64 ri, .int .i64 rn, .int .i64 rk, .string rl, .slice hdA hn hc, .slice wA wn wc, .slice kA kn kc] 27)).alloc (.cells #[.int .i64 ia, .int .i64 ii, .int .i64 iN] 23) = wb := ⟨_, rfl⟩
  rw [hwb] at hui hx0
  have Hws := Lib.hid (show w.heap.size + 2 = wb.heap.size by rw [← hwb]; simp)
  have Hwb := Lib.hid hwb
  have Hui := Lib.hid hui
  have Hx0 := Lib.hid hx0
  clear hwb hui hx0 hr hok hW
  have Hway2 := Lib.hid (Hway.out wb Hx0.out)
  obtain ⟨c0, c1, c2, c3, c4, c5, c6, c7, i0, i1, i2⟩ := Hui.out.cells
  dsimp only at c0 c1 c2 c3 c4 c5 c6 c7 i0 i1 i2
  go_enter Tryz.func103, Tryz.ntmps103
  go_wp2_with fail
  rw [Hwb.out]
  go_wp2_with fail
  refine (Hway2.out).mono ?_
  rintro e w2 ⟨hx2, hres⟩
  have hres2 : ∃ A c rs, e = .returned (.slice A rs.length c) ∧ rs.length ≤ 1000 ∧ Sl unitEl w2 A rs := by
    rcases hres with ⟨-, rfl⟩ | ⟨hne, b2, c2, rs2, rfl, hl2, hown2, -⟩
    · exact ⟨none, 0, [], rfl, by simp, Sl.nil⟩
    · obtain ⟨A', c', hv, -, hs⟩ := hown2.form
      cases hv
      exact ⟨_, _, rs2, rfl, by omega, hs⟩
  obtain ⟨A, c, rs, rfl, hrl, hsl⟩ := hres2
  clear c0 c1 c2 c3 c4 c5 c6 c7 i0 i1 i2 Hway Hway2 hres
  have hx02 := Hx0.out.trans hx2
  have hsz2 := hx02.size
  go_wp2
  go_loopw [5, 7] (fun vo vi wr => ∃ (z : Int) (xs : List GId), vi = .int .i64 z ∧ (xs.length : Int) + z = (rs.length : Int) - 2 ∧ -2 ≤ z ∧ Own idEl w2.heap.size wr vo xs ∧ Ext w2 wr) (fun _ vi _ => (intOf vi + 2).toNat)
  case atStart => exact ⟨(rs.length : Int) - 2, [], by go_num, by simp, by omega, Own.nil _, Ext.refl _⟩
  case round =>
    obtain ⟨z, xs, rfl, hz1, hz2, hown, hext⟩ := hrel
    by_cases hz : 0 ≤ z
    · obtain ⟨k, rfl⟩ : ∃ k : Nat, z = (k : Int) := ⟨z.toNat, by omega⟩
      have hlt : k < rs.length := by omega
      have d1 : decide ((k : Int) ≥ 0) = true := decide_eq_true (by omega)
      obtain ⟨q, hq⟩ : ∃ q, rs[k] = q := ⟨_, rfl⟩
      obtain ⟨b, off, rfl, hb, u0, u1, u2, u3, u4, u5, u6, u7⟩ := unitAtK (hsl.ext hext) hlt hq
      have hsz := hext.size
      go_wp2_with (at_builtin; refine wpList_app idEl rfl _ _ rfl 1 rfl (hown.ext (Ext.alloc (Ext.refl _) _)) (ys := [⟨q.a, q.i, q.n⟩]) rfl (Sl.new idEl rfl) (by simp; omega) (by simp; omega) ?_; intro v' w3 hown' hb1 hg1)
      have hext' : Ext w2 w3 := (hext.alloc _).trans' hb1
      go_wp2
      go_roundw
      case rel => exact ⟨(k : Int) - 1, xs ++ [⟨q.a, q.i, q.n⟩], by go_num, by simp; omega, by omega, hown', hext'⟩
      case measure => simp [intOf] <;> omega
    · have d1 : decide (z ≥ 0) = false := decide_eq_false (by omega)
      go_wp2
      go_ret
      exact ⟨_, rfl, xs, by omega, hown.mono hsz2, hx02.trans hext⟩
mutual
theorem wayF_last2 (id : GId) : ∀ u, 2 ≤ (wayF id u).length → ∀ p, (wayF id u)[(wayF id u).length - 2]? = some p → wayL id p.kids ≠ []
  | .mk a i n k l hd wd kids, h2, p, hp => by
    rw [wayF] at h2 hp
    split at h2
    · simp at h2
    · rename_i hne
      rw [if_neg hne] at hp
      split at h2
      · simp at h2
      · rename_i hwl
        rw [if_neg hwl] at hp
        have hlen : 1 ≤ (wayL id kids).length := List.length_pos_iff.2 hwl
        rcases Nat.lt_or_ge 1 (wayL id kids).length with h | h
        · rw [List.length_cons, show (wayL id kids).length + 1 - 2 = ((wayL id kids).length - 2) + 1 by omega, List.getElem?_cons_succ] at hp
          exact wayL_last2 id kids (by omega) p hp
        · rw [List.length_cons, show (wayL id kids).length + 1 - 2 = 0 by omega, List.getElem?_cons_zero] at hp
          cases hp
          exact hwl
theorem wayL_last2 (id : GId) : ∀ us, 2 ≤ (wayL id us).length → ∀ p, (wayL id us)[(wayL id us).length - 2]? = some p → wayL id p.kids ≠ []
  | [], h2, p, hp => by rw [wayL] at h2; simp at h2
  | u :: us, h2, p, hp => by
    rw [wayL] at h2 hp
    split at h2
    · rename_i h
      rw [if_pos h] at hp
      exact wayL_last2 id us h2 p hp
    · rename_i h
      rw [if_neg h] at hp
      exact wayF_last2 id u h2 p hp
end
def onWay (id : GId) (x : GUnit) : Bool := !(wayF id x).isEmpty
theorem onWay_iff {id : GId} {x : GUnit} : onWay id x = true ↔ wayF id x ≠ [] := by simp [onWay]
theorem wayL_any (id : GId) : ∀ us, wayL id us ≠ [] → ∃ x ∈ us, wayF id x ≠ []
  | [], h => by rw [wayL] at h; exact absurd rfl h
  | u :: us, h => by
    rw [wayL] at h
    split at h
    · obtain ⟨x, hx, h2⟩ := wayL_any id us h
      exact ⟨x, List.mem_cons_of_mem _ hx, h2⟩
    · rename_i h2
      exact ⟨u, List.mem_cons_self, h2⟩
set_option maxRecDepth 100000 in
set_option maxHeartbeats 800000 in
theorem parent1_any (u : GUnit) (r : RUnit) (id : GId) (B : Nat) (w : World) (hr : Reads w u r) (hok : OkU u) (hB : B < w.heap.size) (h0 : w.cell? ⟨B, 0, none⟩ = some (.int .i64 id.a)) (h1 : w.cell? ⟨B, 1, none⟩ = some (.int .i64 id.i)) (h2 : w.cell? ⟨B, 2, none⟩ = some (.int .i64 id.n)) :
    Calls Tryz.prog 132 #[.agg r.cells.toArray, .pointer (some ⟨B, 0, none⟩)] w fun e w' => e = .returned (.bool (onWay id u)) ∧ Ext w w' := by
  have Hw := Lib.hid (fun wq (he : Ext w wq) => way_any _ u r id wq (Nat.le_refl _) (Reads.ext he u r hr) hok)
  have hb := BoxU.new r w
  have he1 : Ext w (w.alloc (.cells r.cells.toArray 27)) := (Ext.refl w).alloc _
  have i0 := (he1.cell (p := ⟨B, 0, none⟩) hB).trans h0
  have i1 := (he1.cell (p := ⟨B, 1, none⟩) hB).trans h1
  have i2 := (he1.cell (p := ⟨B, 2, none⟩) hB).trans h2
  have Hon := Lib.hid (show onWay id u = !(wayF id u).isEmpty from rfl)
  obtain ⟨W, hW⟩ : ∃ W, wayF id u = W := ⟨_, rfl⟩
  rw [hW] at Hw Hon
  obtain ⟨b, hbb⟩ : ∃ b, onWay id u = b := ⟨_, rfl⟩
  rw [hbb] at Hon ⊢
  obtain ⟨ra, ri, rn, rk, rl, hdA, hn, hc, wA, wn, wc, kA, kn, kc⟩ := r
  obtain ⟨ia, ii, iN⟩ := id
  simp only [RUnit.cells, GId.cells] at hb he1 i0 i1 i2 Hw ⊢
  have Hw2 := Lib.hid (Hw.out _ he1)
  have He1 := Lib.hid he1
  obtain ⟨hlt, c0, c1, c2, c3, c4, c5, c6, c7⟩ := hb
  dsimp only at c0 c1 c2 c3 c4 c5 c6 c7
  clear hr hok h0 h1 h2 hW hbb he1
  go_enter Tryz.func132, Tryz.ntmps132
  go_wp2_with fail
  refine (Hw2.out).mono ?_
  rintro e w2 ⟨hx2, hres⟩
  rcases hres with ⟨rfl, rfl⟩ | ⟨hne, b2, c2', rs2, rfl, -, -, -⟩
  · have hqn := fun W => run_neq_slice_nil_any (P := Tryz.prog) W 25 27 none 0 0 0 0 Tryz.underlying25
    go_wp2
    go_ret
    exact ⟨ret_bool (by rw [Hon.out]; rfl), He1.out.trans hx2⟩
  · have hqn := fun W => run_neq_slice_nil_any (P := Tryz.prog) W 25 27 (some ⟨b2, 0, none⟩) rs2.length c2' 0 0 Tryz.underlying25
    have Hne := Lib.hid (show W.isEmpty = false by simpa using hne)
    clear hne
    go_wp2
    go_ret
    exact ⟨ret_bool (by rw [Hon.out, Hne.out]; rfl), He1.out.trans hx2⟩
set_option maxRecDepth 100000 in
set_option maxHeartbeats 1600000 in
theorem indexParent_any (us : List GUnit) (A : Option Addr) (c : Nat) (rs : List RUnit) (id : GId) (B : Nat) (w : World) (hs : Sl unitEl w A rs) (hall : ReadsAll w us rs) (hok : ∀ x ∈ us, OkU x) (hn : rs.length ≤ 1000) (hB : B < w.heap.size) (h0 : w.cell? ⟨B, 0, none⟩ = some (.int .i64 id.a)) (h1 : w.cell? ⟨B, 1, none⟩ = some (.int .i64 id.i)) (h2 : w.cell? ⟨B, 2, none⟩ = some (.int .i64 id.n)) :
    Calls Tryz.prog 131 #[.slice A rs.length c, .func (.func 132) #[] #[.pointer (some ⟨B, 0, none⟩)]] w fun e w' => e = .returned (.int .i64 (idxI (onWay id) us 0)) ∧ Ext w w' := by
  have hl := ReadsAll.length hall
  have Hcl := Lib.hid (fun k (h : k < us.length) (h3 : k < rs.length) wq (he : Ext w wq) => parent1_any us[k] rs[k] id B wq (Reads.ext he _ _ (ReadsAll.get hall k h h3)) (hok _ (List.getElem_mem h)) (Nat.lt_of_lt_of_le hB he.size) ((he.cell (p := ⟨B, 0, none⟩) hB).trans h0) ((he.cell (p := ⟨B, 1, none⟩) hB).trans h1) ((he.cell (p := ⟨B, 2, none⟩) hB).trans h2))
  simp only [RUnit.cells] at Hcl
  obtain ⟨R, hR⟩ : ∃ R, idxI (onWay id) us 0 = R := ⟨_, rfl⟩
  have HR : Hid (idxI (onWay id) (us.drop 0) 0 = R) := Lib.hid hR
  rw [hR]
  have Hl := Lib.hid hl
  clear hR hall hok h0 h1 h2 hl
  go_enter Tryz.func131, Tryz.ntmps131
  go_wp2
  go_loopw [5, 8] (fun _ vk wr => ∃ k : Nat, k ≤ rs.length ∧ vk = .int .i64 (k : Nat) ∧ Hid (idxI (onWay id) (us.drop k) k = R) ∧ Ext w wr) (fun _ vk _ => rs.length - (intOf vk).toNat)
  case atStart => exact ⟨0, Nat.zero_le _, rfl, HR, Ext.refl _⟩
  case round =>
    obtain ⟨k, hk, rfl, Hk, hext⟩ := hrel
    by_cases hlt : k < rs.length
    · have hltu : k < us.length := by rw [← Hl.out]; exact hlt
      have hk2 := Hk.out
      rw [idxI_drop hltu] at hk2
      have hc2 := Hcl.out k hltu hlt wr hext
      obtain ⟨q, hq⟩ : ∃ q, rs[k] = q := ⟨_, rfl⟩
      obtain ⟨b, off, rfl, hb, u0, u1, u2, u3, u4, u5, u6, u7⟩ := unitAtK (hs.ext hext) hlt hq
      rw [hq] at hc2
      obtain ⟨N, hN⟩ : ∃ N, onWay id us[k] = N := ⟨_, rfl⟩
      rw [hN] at hc2 hk2
      have Hc2 := Lib.hid hc2
      have d1 : decide ((k : Int) < (rs.length : Int)) = true := decide_eq_true (by omega)
      clear hq hN hc2
      cases N with
      | true =>
        have HK2 := Lib.hid (show (k : Int) = R from hk2)
        clear hk2
        go_wp2_with fail
        refine (Hc2.out).mono ?_
        rintro e w2 ⟨rfl, hx2⟩
        go_wp2
        go_ret
        exact ⟨ret_intU HK2.out, hext.trans hx2⟩
      | false =>
        have HK2 := Lib.hid (show idxI (onWay id) (us.drop (k + 1)) (k + 1) = R from hk2)
        clear hk2
        go_wp2_with fail
        refine (Hc2.out).mono ?_
        rintro e w2 ⟨rfl, hx2⟩
        go_wp2
        go_roundw
        case rel => exact ⟨k + 1, by omega, by go_num, HK2, hext.trans hx2⟩
        case measure => simp [intOf]; omega
    · have hk2 := Hk.out
      rw [idxI_end (by rw [← Hl.out]; omega)] at hk2
      have HK2 := Lib.hid hk2
      have d1 : decide ((k : Int) < (rs.length : Int)) = false := decide_eq_false (by omega)
      clear hk2
      go_wp2
      go_ret
      exact ⟨ret_intU HK2.out, hext⟩
end Go.Proofs.YtjhdamjbljafhaaGreatDoor
namespace Go.Proofs.YtjhdamjbljafhaaGreatDoor
open Go.RowKit
theorem results_cellId3 {fn : Func} {t u x : Tmp} (h : fn.results = #[.cell t 23, .tmp u, .tmp x]) (tmps : Array Value) (w : World) (b : Nat) (r : GId) (hp : tmps.getD t undef = .pointer (some ⟨b, 0, none⟩)) (hc : w.heap[b]? = some (.cells r.cells.toArray 23 (0, 0))) :
    (results fn tmps).run Tryz.prog w = .ok (.tuple #[.agg r.cells.toArray, tmps.getD u undef, tmps.getD x undef]) w := by
  have hl := run_loadCells_list (P := Tryz.prog) w ⟨b, 0, none⟩ r.cells (fun j u hu => by
    have hadd : (⟨b, 0, none⟩ : Addr).add j = ⟨b, j, none⟩ := by unfold Addr.add; split <;> simp_all
    rw [hadd]
    simp only [World.cell?, hc]
    simpa using hu)
  have hp' : tmps[t]?.getD undef = .pointer (some ⟨b, 0, none⟩) := by simpa using hp
  have hn : ∀ w, (sizeOf 23).run Tryz.prog w = .ok r.cells.length w := Tryz.sizeOf23
  simp [results, h, hp', asAddr, loadVar, Tryz.isAgg23, hn, hl]
theorem onWay_idx {id : GId} {us : List GUnit} (h : wayL id us ≠ []) : ∃ j : Nat, idxI (onWay id) us 0 = (j : Int) ∧ j < us.length := by
  obtain ⟨x, hx, hw⟩ := wayL_any id us h
  rcases idxI_range (onWay id) us 0 with h2 | ⟨j, h2, h3, -⟩
  · have := (idxI_neg (onWay id) us 0).1 (by rw [h2]; decide) x hx
    rw [onWay_iff.2 hw] at this
    cases this
  · exact ⟨j, by rw [h2]; simp, h3⟩
set_option maxRecDepth 100000 in
set_option maxHeartbeats 1600000 in
theorem parent_any (u : GUnit) (r : RUnit) (id : GId) (w : World) (hr : Reads w u r) (hok : OkU u) (h2 : 2 ≤ (wayF id u).length) : Calls Tryz.prog 92 #[.agg r.cells.toArray, .agg id.cells.toArray] w fun e w' => ∃ (p : GUnit) (j : Nat), e = .returned (.tuple #[.agg p.id.cells.toArray, .int .i64 j, .bool true]) ∧ p ∈ preF u ∧ j < p.kids.length ∧ Ext w w' := by
  have Hway := Lib.hid (fun wq (he : Ext w wq) => way_any _ u r id wq (Nat.le_refl _) (Reads.ext he u r hr) hok)
  have Hok := Lib.hid (fun x (hx : x ∈ wayF id u) => hok.pre (wayF_sub id u x hx))
  have Hsub := Lib.hid (wayF_sub id u)
  have Hl2 := Lib.hid (wayF_last2 id u h2)
  have hln := Nat.le_trans (wayF_len id u) hok.cnt
  obtain ⟨W, hW⟩ : ∃ W, wayF id u = W := ⟨_, rfl⟩
  rw [hW] at Hway Hok hln Hsub Hl2 h2
  have hui := UI.new r id w
  have hx0 : Ext w ((w.alloc (.cells r.cells.toArray 27)).alloc (.cells id.cells.toArray 23)) := ((Ext.refl w).alloc _).alloc _
  have hx3 : Ext ((w.alloc (.cells r.cells.toArray 27)).alloc (.cells id.cells.toArray 23)) (((w.alloc (.cells r.cells.toArray 27)).alloc (.cells id.cells.toArray 23)).alloc (.cells #[.int .i64 0, .int .i64 0, .int .i64 0] 23)) := (Ext.refl _).alloc _
  have hrs0 := heap_alloc_new ((w.alloc (.cells r.cells.toArray 27)).alloc (.cells id.cells.toArray 23)) (.cells #[.int .i64 0, .int .i64 0, .int .i64 0] 23)
  replace hui := hui.ext hx3
  replace hx0 := hx0.trans hx3
  clear hx3
  rw [show ((w.alloc (.cells r.cells.toArray 27)).alloc (.cells id.cells.toArray 23)).heap.size = w.heap.size + 2 by simp] at hrs0
  obtain ⟨ra, ri, rn, rk, rl, hdA, hn, hc, wA, wn, wc, kA, kn, kc⟩ := r
  obtain ⟨ia, ii, iN⟩ := id
  simp only [RUnit.cells, GId.cells] at *
  obtain ⟨wb, hwb⟩ : ∃ wb, ((w.alloc (.cells #[.int .i64 ra, .int .i64 ri, .int .i64 rn, .int .i64 rk, .string rl, .slice hdA hn hc, .slice wA wn wc, .slice kA kn kc] 27)).alloc (.cells #[.int .i64 ia, .int .i64 ii, .int .i64 iN] 23)).alloc (.cells #[.int .i64 0, .int .i64 0, .int .i64 0] 23) = wb := ⟨_, rfl⟩
  rw [hwb] at hui hx0 hrs0
  have Hws := Lib.hid (show w.heap.size + 3 = wb.heap.size by rw [← hwb]; simp)
  have Hwb := Lib.hid hwb
  have Hui := Lib.hid hui
  have Hx0 := Lib.hid hx0
  have Hres := Lib.hid hrs0
  have Hway2 := Lib.hid (Hway.out wb hx0)
  obtain ⟨c0, c1, c2, c3, c4, c5, c6, c7, i0, i1, i2⟩ := hui.cells
  dsimp only at c0 c1 c2 c3 c4 c5 c6 c7 i0 i1 i2
  clear hwb hui hx0 hrs0 hr hok hW
  go_enter Tryz.func92, Tryz.ntmps92
  go_wp2_with fail
  rw [Hwb.out]
  go_wp2_with fail
  refine (Hway2.out).mono ?_
  rintro e w2 ⟨hx2, hres⟩
  have hrk := (hx2.block (k := w.heap.size + 2) (by rw [← Hws.out]; omega)).trans Hres.out
  have hlt2 : w.heap.size + 2 < w2.heap.size := by have := hx2.size; have := block_lt Hres.out; omega
  clear c0 c1 c2 c3 c4 c5 c6 c7 i0 i1 i2 Hway Hway2
  rcases hres with ⟨rfl, rfl⟩ | ⟨hne, b2, c2, rs2, rfl, hl2, hown2, hrd2⟩
  · simp at h2
  have hsl2 : Sl unitEl w2 (some ⟨b2, 0, none⟩) rs2 := by
    obtain ⟨A', c', hv, -, hs⟩ := hown2.form
    cases hv
    exact hs
  obtain ⟨j, hj⟩ : ∃ j, rs2.length = j + 2 := ⟨rs2.length - 2, by omega⟩
  have hlt : j < rs2.length := by omega
  have hltW : j < W.length := by omega
  obtain ⟨q, hq⟩ : ∃ q, rs2[j] = q := ⟨_, rfl⟩
  obtain ⟨_, _, hAe, hb2, u0, u1, u2, u3, u4, u5, u6, u7⟩ := unitAtK hsl2 hlt hq
  cases hAe
  obtain ⟨x, hx⟩ : ∃ x, W[j] = x := ⟨_, rfl⟩
  have hrdx : Reads w2 x q := by rw [← hx, ← hq]; exact ReadsAll.get hrd2 _ hltW hlt
  have hmem : x ∈ W := by rw [← hx]; exact List.getElem_mem hltW
  have hokx : OkU x := Hok.out x hmem
  have hwl := Hl2.out x (by rw [show W.length - 2 = j by omega, List.getElem?_eq_getElem hltW, hx])
  obtain ⟨jj, hjj, hjl⟩ := onWay_idx hwl
  obtain ⟨hqid, hqk, -, -, -, -, -, -, -, hkn, hkc, ks, hks, hkall, hkl⟩ := hrdx.flds
  have hkb := hokx.all.head.2.2.2.1
  have hids := (Hui.out.ext hx2).cells
  obtain ⟨-, -, -, -, -, -, -, -, i0, i1, i2⟩ := hids
  dsimp only at i0 i1 i2
  have Hix := Lib.hid (fun wq (he : Ext w2 wq) => indexParent_any x.kids q.kA q.kc ks ⟨ia, ii, iN⟩ (w.heap.size + 1) wq (hks.ext he) (ReadsAll.ext he _ _ hkall) (fun y hy => hokx.kid hy) (by omega) (Nat.lt_of_lt_of_le (by omega) he.size) ((he.cell (p := ⟨w.heap.size + 1, 0, none⟩) (by show w.heap.size + 1 < _; omega)).trans i0) ((he.cell (p := ⟨w.heap.size + 1, 1, none⟩) (by show w.heap.size + 1 < _; omega)).trans i1) ((he.cell (p := ⟨w.heap.size + 1, 2, none⟩) (by show w.heap.size + 1 < _; omega)).trans i2))
  simp only [hjj, hkl, ← hkn] at Hix
  have Hq := Lib.hid (show (⟨q.a, q.i, q.n⟩ : GId) = x.id from hqid)
  have Hx := Lib.hid (And.intro (Hsub.out x hmem) hjl)
  rw [Nat.zero_add] at u0 u1 u2 u3 u4 u5 u6 u7
  have hjb : j ≤ 1000 := by omega
  rw [hj]
  clear hq hx hrdx hokx hrd2 hown2 hsl2 Hok hlt hltW hl2 hne hj hmem hwl hjj hjl hqid hqk hkn hkc hks hkall hkl hkb i0 i1 i2 h2 Hsub Hl2
  have hwk : Ext w2 (w2.alloc (.cells #[.int .i64 q.a, .int .i64 q.i, .int .i64 q.n, .int .i64 q.kind, .string q.label, .slice q.hA q.hn q.hc, .slice q.wA q.wn q.wc, .slice q.kA q.kn q.kc] 27)) := (Ext.refl _).alloc _
  have Hbq := Lib.hid (BoxU.new q w2)
  simp only [RUnit.cells] at Hbq
  have Hix2 := Lib.hid (Hix.out _ hwk)
  have Hwk := Lib.hid hwk
  clear Hix hwk
  go_wp2_with fail
  refine (Hix2.out).mono ?_
  rintro e w3 ⟨rfl, hx3⟩
  have hrk3 := ((Hwk.out.trans hx3).block hlt2).trans hrk
  obtain ⟨-, f0, f1, f2, f3, f4, f5, f6, f7⟩ := Hbq.out.ext hx3
  have hsz3 := (Hwk.out.trans hx3).size
  clear u0 u1 u2 u3 u4 u5 u6 u7 hrk Hix2
  go_wp2_with (refine wpList_put rfl 23 (.tmp 4) (.tmp 28) rfl (w.heap.size + 2) 0 (.agg #[.int .i64 q.a, .int .i64 q.i, .int .i64 q.n]) rfl rfl [.int .i64 q.a, .int .i64 q.i, .int .i64 q.n] rfl Tryz.sizeOf23 (by simp [Value.oneCell']) 23 _ hrk3 (by simp) ?_; intro w4 hw4 hos4 htp4 hou4 hs4 hbk4)
  have hfin : w4.heap[w.heap.size + 2]? = some (.cells (GId.cells ⟨q.a, q.i, q.n⟩).toArray 23 (0, 0)) := by
    rw [hbk4]
    simp [GId.cells]
  refine bodyPost_ret (results_cellId3 rfl _ _ (w.heap.size + 2) _ rfl hfin) rfl ?_
  refine ⟨x, jj, ?_, Hx.out.1, Hx.out.2, (((Hx0.out.trans hx2).trans Hwk.out).trans hx3).put (by omega) hw4 hos4 htp4 hou4 hs4⟩
  rw [← Hq.out]
  rfl
end Go.Proofs.YtjhdamjbljafhaaGreatDoor
