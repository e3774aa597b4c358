/- treeedit.Remove: some trees, some error; no fault. -/
import Derived.Test.YtjhdamjbljafhaaGreatDoorP24
namespace Go.Proofs.YtjhdamjbljafhaaGreatDoor
open Go.RowKit
theorem cellB {w : World} {b k : Nat} {cs : Array Value} {t : TypeId} {fr : Nat × Nat} {v : Value} (h : w.heap[b]? = some (.cells cs t fr)) (hk : cs[k]? = some v := by rfl) : w.cell? ⟨b, k, none⟩ = some v := by
  unfold World.cell?
  rw [h]
  exact hk
theorem UI.t {b : Nat} {r : RUnit} {id : GId} {w : World} (h : UI b r id w) : (TCells id.cells).p (.pointer (some ⟨b + 1, 0, none⟩)) w := by
  refine ⟨b + 1, 0, rfl, h.lt, fun j u hj => ?_⟩
  obtain ⟨-, -, i0, i1, i2⟩ := h
  rw [Nat.zero_add]
  simp only [GId.cells] at hj
  match j with
  | 0 => simp at hj; rw [← hj]; exact i0
  | 1 => simp at hj; rw [← hj]; exact i1
  | 2 => simp at hj; rw [← hj]; exact i2
  | j + 3 => simp at hj
mutual
theorem wayF_none (id : GId) : ∀ u : GUnit, (∀ x ∈ preF u, x.id ≠ id) → wayF id u = []
  | .mk a i n k l hd wd kids, h => by
    have h0 := h (.mk a i n k l hd wd kids) (by rw [preF]; exact List.mem_cons_self)
    have hk := wayL_none id kids (fun x hx => h x (by rw [preF]; exact List.mem_cons_of_mem _ hx))
    rw [wayF, if_neg (show ¬ (⟨a, i, n⟩ : GId) = id from h0), if_pos hk]
theorem wayL_none (id : GId) : ∀ us : List GUnit, (∀ x ∈ preL us, x.id ≠ id) → wayL id us = []
  | [], _ => by rw [wayL]
  | u :: us, h => by
    rw [preL] at h
    rw [wayL, if_pos (wayF_none id u (fun x hx => h x (List.mem_append_left _ hx))), wayL_none id us (fun x hx => h x (List.mem_append_right _ hx))]
end
set_option maxHeartbeats 800000 in
theorem rem1_any (u : GUnit) (r : RUnit) (b : Nat) (w : World) (hr : Reads w u r) (hok : OkU u) (hT : Tabs w) (hb : BoxU b r w) : Calls Tryz.prog 51 #[.pointer (some ⟨b, 0, none⟩)] w (RetB w) := by
  have Hs := Lib.hid (stands_any u r w hr hok hT)
  obtain ⟨ra, ri, rn, rk, rl, hdA, hn, hc, wA, wn, wc, kA, kn, kc⟩ := r
  obtain ⟨hb0, c0, c1, c2, c3, c4, c5, c6, c7⟩ := hb
  dsimp only at c0 c1 c2 c3 c4 c5 c6 c7
  simp only [RUnit.cells] at Hs
  clear hr hok hT
  go_enter Tryz.func51, Tryz.ntmps51
  go_wp2_with fail
  refine (Hs.out).mono ?_
  rintro e w2 ⟨bb, rfl, hx2⟩
  go_wp2
  go_ret
  exact ⟨_, rfl, hx2⟩
set_option maxHeartbeats 800000 in
theorem rem2_any (u : GUnit) (r : RUnit) (id : GId) (b : Nat) (w : World) (hr : Reads w u r) (hok : OkU u) (hui : UI b r id w) : Calls Tryz.prog 53 #[.pointer (some ⟨b, 0, none⟩), .pointer (some ⟨b + 1, 0, none⟩)] w fun e w' => e = .returned (.bool (!(findF id u).isSome)) ∧ Ext w w' := by
  have Hs := Lib.hid (has_any u r id w hr hok)
  obtain ⟨F, hF⟩ : ∃ F, (findF id u).isSome = F := ⟨_, rfl⟩
  rw [hF] at Hs ⊢
  obtain ⟨ra, ri, rn, rk, rl, hdA, hn, hc, wA, wn, wc, kA, kn, kc⟩ := r
  obtain ⟨ia, ii, iN⟩ := id
  obtain ⟨c0, c1, c2, c3, c4, c5, c6, c7, i0, i1, i2⟩ := hui.cells
  dsimp only at c0 c1 c2 c3 c4 c5 c6 c7 i0 i1 i2
  simp only [RUnit.cells, GId.cells] at Hs
  clear hr hok hui hF
  go_enter Tryz.func53, Tryz.ntmps53
  go_wp2_with fail
  refine (Hs.out).mono ?_
  rintro e w2 ⟨rfl, hx2⟩
  go_wp2
  go_ret
  exact ⟨rfl, hx2⟩
set_option maxHeartbeats 800000 in
theorem rem3_any (r : RUnit) (id : GId) (b : Nat) (w : World) (hui : UI b r id w) : Calls Tryz.prog 55 #[.pointer (some ⟨b, 0, none⟩), .pointer (some ⟨b + 1, 0, none⟩)] w fun e w' => e = .returned (.bool (decide (r.id = id))) ∧ Ext w w' := by
  obtain ⟨ra, ri, rn, rk, rl, hdA, hn, hc, wA, wn, wc, kA, kn, kc⟩ := r
  obtain ⟨ia, ii, iN⟩ := id
  obtain ⟨c0, c1, c2, c3, c4, c5, c6, c7, i0, i1, i2⟩ := hui.cells
  dsimp only at c0 c1 c2 c3 c4 c5 c6 c7 i0 i1 i2
  have hq := fun W => idEql W ra ri rn ia ii iN
  simp only [RUnit.id]
  clear hui
  go_enter Tryz.func55, Tryz.ntmps55
  go_wp2
  go_ret
  exact ⟨by simp [GId.mk.injEq, Bool.decide_and], Ext.refl _⟩
structure Chk3 (b g : Nat) (w : World) : Prop where
  lt : g < w.heap.size
  a0 : w.cell? ⟨g, 0, none⟩ = some (.func (.func 51) #[] #[.pointer (some ⟨b, 0, none⟩)])
  a1 : w.cell? ⟨g, 1, none⟩ = some (.int .i64 1)
  a2 : w.cell? ⟨g, 2, none⟩ = some (.func (.func 53) #[] #[.pointer (some ⟨b, 0, none⟩), .pointer (some ⟨b + 1, 0, none⟩)])
  a3 : w.cell? ⟨g, 3, none⟩ = some (.int .i64 4)
  a4 : w.cell? ⟨g, 4, none⟩ = some (.func (.func 55) #[] #[.pointer (some ⟨b, 0, none⟩), .pointer (some ⟨b + 1, 0, none⟩)])
  a5 : w.cell? ⟨g, 5, none⟩ = some (.int .i64 9)
theorem Chk3.ext {b g : Nat} {w w' : World} (h : Chk3 b g w) (he : Ext w w') : Chk3 b g w' :=
  ⟨Nat.lt_of_lt_of_le h.lt he.size, (he.cell (p := ⟨g, 0, none⟩) h.lt).trans h.a0, (he.cell (p := ⟨g, 1, none⟩) h.lt).trans h.a1, (he.cell (p := ⟨g, 2, none⟩) h.lt).trans h.a2, (he.cell (p := ⟨g, 3, none⟩) h.lt).trans h.a3, (he.cell (p := ⟨g, 4, none⟩) h.lt).trans h.a4, (he.cell (p := ⟨g, 5, none⟩) h.lt).trans h.a5⟩
set_option maxRecDepth 100000 in
set_option maxHeartbeats 3200000 in
theorem first_any (u : GUnit) (r : RUnit) (id : GId) (b g : Nat) (w : World) (hr : Reads w u r) (hok : OkU u) (hT : Tabs w) (hui : UI b r id w) (hg : Chk3 b g w) :
    Calls Tryz.prog 50 #[.slice (some ⟨g, 0, none⟩) 3 3] w fun e w' => ∃ z : Int, e = .returned (.int .i64 z) ∧ Ext w w' ∧ (z = 0 → (findF id u).isSome = true ∧ u.id ≠ id) := by
  have H1 := Lib.hid (fun wq (he : Ext w wq) => rem1_any u r b wq (Reads.ext he u r hr) hok (hT.ext he) (hui.box.ext he))
  have H2 := Lib.hid (fun wq (he : Ext w wq) => rem2_any u r id b wq (Reads.ext he u r hr) hok (hui.ext he))
  have H3 := Lib.hid (fun wq (he : Ext w wq) => rem3_any r id b wq (hui.ext he))
  rw [show r.id = u.id from hr.flds.1] at H3
  have Hg := Lib.hid hg
  obtain ⟨F, hF⟩ : ∃ F, (findF id u).isSome = F := ⟨_, rfl⟩
  rw [hF] at H2 ⊢
  obtain ⟨E, hE⟩ : ∃ E, decide (u.id = id) = E := ⟨_, rfl⟩
  rw [hE] at H3
  have HE := Lib.hid (show E = false → u.id ≠ id from fun h => by rw [h] at hE; exact of_decide_eq_false hE)
  obtain ⟨P, hP⟩ : ∃ P : Prop, (u.id ≠ id) = P := ⟨_, rfl⟩
  rw [hP] at HE ⊢
  clear hr hok hT hui hg hF hE hP
  go_enter Tryz.func50, Tryz.ntmps50
  go_wp2
  go_loopw [7] (fun vk wr => ∃ k : Nat, k ≤ 3 ∧ vk = .int .i64 (k : Nat) ∧ Ext w wr ∧ Hid (2 ≤ k → F = true) ∧ Hid (3 ≤ k → E = false)) (fun vk _ => 3 - (intOf vk).toNat)
  case atStart => exact ⟨0, by omega, rfl, Ext.refl _, Lib.hid (fun h => by omega), Lib.hid (fun h => by omega)⟩
  case round =>
    obtain ⟨k, hk, rfl, hext, HF, HEk⟩ := hrel
    obtain ⟨g0, a0, a1, a2, a3, a4, a5⟩ := Hg.out.ext hext
    have hk4 : k = 0 ∨ k = 1 ∨ k = 2 ∨ k = 3 := by omega
    rcases hk4 with rfl | rfl | rfl | rfl
    · have hblk := heap_alloc_new wr (.cells #[.nilFunc, .int .i64 0] 95)
      have H1b := Lib.hid (fun wq (he : Ext wr wq) => H1.out wq (hext.trans he))
      go_wp2_with (refine wpList_put rfl 95 (.tmp 4) (.tmp 10) rfl wr.heap.size 0 (.agg #[(.func (.func 51) #[] #[.pointer (some ⟨b, 0, none⟩)]), .int .i64 1]) rfl rfl [(.func (.func 51) #[] #[.pointer (some ⟨b, 0, none⟩)]), .int .i64 1] rfl Tryz.sizeOf95 (by simp [Value.oneCell']) 95 _ hblk (by simp) ?_; intro w3 hw3 hos3 htp3 hou3 hs3 hbk3; have hx3 : Ext wr w3 := Ext.put ((Ext.refl wr).alloc _) (Nat.le_refl _) hw3 hos3 htp3 hou3 hs3; have hc0 : w3.cell? ⟨wr.heap.size, 0, none⟩ = some (.func (.func 51) #[] #[.pointer (some ⟨b, 0, none⟩)]) := (by simp [World.cell?, hbk3]); have hc1 : w3.cell? ⟨wr.heap.size, 1, none⟩ = some (.int .i64 1) := (by simp [World.cell?, hbk3]); have hlt3 := block_lt hbk3; have H1c := Lib.hid (H1b.out w3 hx3); clear hw3 hos3 htp3 hou3 hs3 hbk3 hblk)
      refine (H1c.out).mono ?_
      rintro e w2 ⟨bb, rfl, hx2⟩
      have hd1 : w2.cell? ⟨wr.heap.size, 1, none⟩ = some (.int .i64 1) := (hx2.cell (p := ⟨wr.heap.size, 1, none⟩) hlt3).trans hc1
      clear hc0 hc1
      cases bb with
      | true =>
        go_wp2
        go_ret
        exact ⟨_, rfl, (hext.trans hx3).trans hx2, fun h => by cases h⟩
      | false =>
        go_wp2
        go_roundw
        case rel => exact ⟨1, by omega, by go_num, (hext.trans hx3).trans hx2, Lib.hid (fun h => by omega), Lib.hid (fun h => by omega)⟩
        case measure => simp [intOf]
    · have hblk := heap_alloc_new wr (.cells #[.nilFunc, .int .i64 0] 95)
      have H1b := Lib.hid (fun wq (he : Ext wr wq) => H2.out wq (hext.trans he))
      go_wp2_with (refine wpList_put rfl 95 (.tmp 4) (.tmp 10) rfl wr.heap.size 0 (.agg #[(.func (.func 53) #[] #[.pointer (some ⟨b, 0, none⟩), .pointer (some ⟨b + 1, 0, none⟩)]), .int .i64 4]) rfl rfl [(.func (.func 53) #[] #[.pointer (some ⟨b, 0, none⟩), .pointer (some ⟨b + 1, 0, none⟩)]), .int .i64 4] rfl Tryz.sizeOf95 (by simp [Value.oneCell']) 95 _ hblk (by simp) ?_; intro w3 hw3 hos3 htp3 hou3 hs3 hbk3; have hx3 : Ext wr w3 := Ext.put ((Ext.refl wr).alloc _) (Nat.le_refl _) hw3 hos3 htp3 hou3 hs3; have hc0 : w3.cell? ⟨wr.heap.size, 0, none⟩ = some (.func (.func 53) #[] #[.pointer (some ⟨b, 0, none⟩), .pointer (some ⟨b + 1, 0, none⟩)]) := (by simp [World.cell?, hbk3]); have hc1 : w3.cell? ⟨wr.heap.size, 1, none⟩ = some (.int .i64 4) := (by simp [World.cell?, hbk3]); have hlt3 := block_lt hbk3; have H1c := Lib.hid (H1b.out w3 hx3); clear hw3 hos3 htp3 hou3 hs3 hbk3 hblk)
      refine (H1c.out).mono ?_
      rintro e w2 ⟨rfl, hx2⟩
      have hd1 : w2.cell? ⟨wr.heap.size, 1, none⟩ = some (.int .i64 4) := (hx2.cell (p := ⟨wr.heap.size, 1, none⟩) hlt3).trans hc1
      clear hc0 hc1
      cases F with
      | false =>
        go_wp2
        go_ret
        exact ⟨_, rfl, (hext.trans hx3).trans hx2, fun h => by cases h⟩
      | true =>
        go_wp2
        go_roundw
        case rel => exact ⟨2, by omega, by go_num, (hext.trans hx3).trans hx2, Lib.hid (by simp), Lib.hid (fun h => by omega)⟩
        case measure => simp [intOf]
    · have hblk := heap_alloc_new wr (.cells #[.nilFunc, .int .i64 0] 95)
      have H1b := Lib.hid (fun wq (he : Ext wr wq) => H3.out wq (hext.trans he))
      go_wp2_with (refine wpList_put rfl 95 (.tmp 4) (.tmp 10) rfl wr.heap.size 0 (.agg #[(.func (.func 55) #[] #[.pointer (some ⟨b, 0, none⟩), .pointer (some ⟨b + 1, 0, none⟩)]), .int .i64 9]) rfl rfl [(.func (.func 55) #[] #[.pointer (some ⟨b, 0, none⟩), .pointer (some ⟨b + 1, 0, none⟩)]), .int .i64 9] rfl Tryz.sizeOf95 (by simp [Value.oneCell']) 95 _ hblk (by simp) ?_; intro w3 hw3 hos3 htp3 hou3 hs3 hbk3; have hx3 : Ext wr w3 := Ext.put ((Ext.refl wr).alloc _) (Nat.le_refl _) hw3 hos3 htp3 hou3 hs3; have hc0 : w3.cell? ⟨wr.heap.size, 0, none⟩ = some (.func (.func 55) #[] #[.pointer (some ⟨b, 0, none⟩), .pointer (some ⟨b + 1, 0, none⟩)]) := (by simp [World.cell?, hbk3]); have hc1 : w3.cell? ⟨wr.heap.size, 1, none⟩ = some (.int .i64 9) := (by simp [World.cell?, hbk3]); have hlt3 := block_lt hbk3; have H1c := Lib.hid (H1b.out w3 hx3); clear hw3 hos3 htp3 hou3 hs3 hbk3 hblk)
      refine (H1c.out).mono ?_
      rintro e w2 ⟨rfl, hx2⟩
      have hd1 : w2.cell? ⟨wr.heap.size, 1, none⟩ = some (.int .i64 9) := (hx2.cell (p := ⟨wr.heap.size, 1, none⟩) hlt3).trans hc1
      clear hc0 hc1
      have HF2 := Lib.hid (HF.out (by omega))
      cases E with
      | true =>
        go_wp2
        go_ret
        exact ⟨_, rfl, (hext.trans hx3).trans hx2, fun h => by cases h⟩
      | false =>
        go_wp2
        go_roundw
        case rel => exact ⟨3, by omega, by go_num, (hext.trans hx3).trans hx2, Lib.hid (fun _ => HF2.out), Lib.hid (by simp)⟩
        case measure => simp [intOf]
    · have HF2 := Lib.hid (HF.out (by omega))
      have HE2 := Lib.hid (HE.out (HEk.out (by omega)))
      clear a0 a1 a2 a3 a4 a5
      go_wp2
      go_ret
      exact ⟨_, rfl, hext, fun _ => ⟨HF2.out, HE2.out⟩⟩
theorem results_cells2 {fn : Func} {t t2 u : Tmp} (h : fn.results = #[.cell t 27, .cell t2 27, .tmp u]) (tmps : Array Value) (w : World) (b b2 : Nat) (r r2 : RUnit) (hp : tmps.getD t undef = .pointer (some ⟨b, 0, none⟩)) (hp2 : tmps.getD t2 undef = .pointer (some ⟨b2, 0, none⟩)) (hc : w.heap[b]? = some (.cells r.cells.toArray 27 (0, 0))) (hc2 : w.heap[b2]? = some (.cells r2.cells.toArray 27 (0, 0))) :
    (results fn tmps).run Tryz.prog w = .ok (.tuple #[.agg r.cells.toArray, .agg r2.cells.toArray, tmps.getD u undef]) w := by
  have hl := fun (b : Nat) (r : RUnit) (hc : w.heap[b]? = some (.cells r.cells.toArray 27 (0, 0))) => run_loadCells_list (P := Tryz.prog) w ⟨b, 0, none⟩ r.cells (fun j u hu => by
    have hadd : (⟨b, 0, none⟩ : Addr).add j = ⟨b, j, none⟩ := by unfold Addr.add; split <;> simp_all
    rw [hadd]
    simp only [World.cell?, hc]
    simpa using hu)
  have hp' : tmps[t]?.getD undef = .pointer (some ⟨b, 0, none⟩) := by simpa using hp
  have hp2' : tmps[t2]?.getD undef = .pointer (some ⟨b2, 0, none⟩) := by simpa using hp2
  have hn : ∀ (r : RUnit) w, (sizeOf 27).run Tryz.prog w = .ok r.cells.length w := fun _ => Tryz.sizeOf27
  have h1 := hl b r hc
  have h2 := hl b2 r2 hc2
  have hn1 := hn r
  have hrl : r.cells.length = r2.cells.length := rfl
  rw [← hrl] at h2
  simp [results, h, hp', hp2', asAddr, loadVar, Tryz.isAgg27, hn1, h1, h2]
def TUnitV : Ty := ⟨fun v _ => ∃ r' : RUnit, v = .agg r'.cells.toArray, fun _ _ _ _ h => h⟩
def RetRem (w : World) (e : Ending) (w' : World) : Prop := ∃ (r1 r2 : RUnit) (z : Int), e = .returned (.tuple #[.agg r1.cells.toArray, .agg r2.cells.toArray, .int .i64 z]) ∧ Ext w w'
set_option maxRecDepth 100000 in
set_option maxHeartbeats 3200000 in
theorem remove_any (u : GUnit) (r : RUnit) (id : GId) (w : World) (hr : Reads w u r) (hok : OkU u) (hT : Tabs w) (hnd : wayF id u ≠ [] → ((preF u).map GUnit.id).Nodup) : Calls Tryz.prog 31 #[.agg r.cells.toArray, .agg id.cells.toArray] w (RetRem w) := by
  have Hfi := Lib.hid (fun b g wq (he : Ext w wq) (hui : UI b r id wq) (hg : Chk3 b g wq) => first_any u r id b g wq (Reads.ext he u r hr) hok (hT.ext he) hui hg)
  have Hfind := Lib.hid (fun wq (he : Ext w wq) => find_any u r id wq (Reads.ext he u r hr) hok)
  have Hwo := Lib.hid (fun (h2 : 2 ≤ (wayF id u).length) (hn : ((preF u).map GUnit.id).Nodup) wq (he : Ext w wq) => without_any u r id wq (Reads.ext he u r hr) hok h2 hn)
  have hokAll : ∀ {x}, x ∈ wayF id u → OkU x := fun hx => hok.pre (wayF_sub id u _ hx)
  have Hnd := Lib.hid hnd
  have Hfn := Lib.hid (show (findF id u).isSome = true → u.id ≠ id → 2 ≤ (wayF id u).length ∧ wayF id u ≠ [] from fun h1 h2 => by
    have hne : wayF id u ≠ [] := fun h => by rw [findF, h] at h1; cases h1
    refine ⟨?_, hne⟩
    rw [wayF_eq, if_neg h2] at hne ⊢
    by_cases h3 : wayL id u.kids = []
    · rw [if_pos h3] at hne; exact absurd rfl hne
    · rw [if_neg h3]
      have := List.length_pos_iff.2 h3
      simp only [List.length_cons]
      omega)
  have hui := UI.new r id w
  have hx2 : Ext w ((w.alloc (.cells r.cells.toArray 27)).alloc (.cells id.cells.toArray 23)) := ((Ext.refl w).alloc _).alloc _
  obtain ⟨w2, hw2⟩ : ∃ w2, (w.alloc (.cells r.cells.toArray 27)).alloc (.cells id.cells.toArray 23) = w2 := ⟨_, rfl⟩
  have hs2 : w2.heap.size = w.heap.size + 2 := by rw [← hw2]; simp
  rw [hw2] at hui hx2
  have hx4 : Ext w2 ((w2.alloc (.cells unit0.cells.toArray 27)).alloc (.cells unit0.cells.toArray 27)) := ((Ext.refl w2).alloc _).alloc _
  have hr1 := heap_alloc_new w2 (.cells unit0.cells.toArray 27)
  have hr2 := heap_alloc_new (w2.alloc (.cells unit0.cells.toArray 27)) (.cells unit0.cells.toArray 27)
  replace hr1 := (((Ext.refl _).alloc (.cells unit0.cells.toArray 27)).block (block_lt hr1)).trans hr1
  have hs3 : (w2.alloc (.cells unit0.cells.toArray 27)).heap.size = w.heap.size + 3 := by simp; omega
  rw [hs2] at hr1
  rw [hs3] at hr2
  replace hui := hui.ext hx4
  obtain ⟨ra, ri, rn, rk, rl, hdA, hn, hc, wA, wn, wc, kA, kn, kc⟩ := r
  obtain ⟨ia, ii, iN⟩ := id
  simp only [RUnit.cells, GId.cells, unit0] at *
  obtain ⟨wb, hwb⟩ : ∃ wb, (w2.alloc (.cells #[.int .i64 0, .int .i64 0, .int .i64 0, .int .i64 0, .string ⟨#[]⟩, .slice none 0 0, .slice none 0 0, .slice none 0 0] 27)).alloc (.cells #[.int .i64 0, .int .i64 0, .int .i64 0, .int .i64 0, .string ⟨#[]⟩, .slice none 0 0, .slice none 0 0, .slice none 0 0] 27) = wb := ⟨_, rfl⟩
  rw [hwb] at hui hx4 hr1 hr2
  rw [← hw2] at hwb
  replace hx2 := hx2.trans hx4
  have Hws := Lib.hid (show w.heap.size + 4 = wb.heap.size by rw [← hwb]; simp)
  have Hwb := Lib.hid hwb
  have Hui := Lib.hid hui
  have Hx0 := Lib.hid hx2
  have Hr1 := Lib.hid hr1
  have Hr2 := Lib.hid hr2
  clear hr1 hr2 hwb hw2 hs2 hs3 hui hx2 hx4 hr hok hT hnd
  go_enter Tryz.func31, Tryz.ntmps31
  go_wp2_with fail
  rw [Hwb.out]
  have hxa : Ext wb (wb.alloc (.cells #[.func (.func 51) #[] #[.pointer (some ⟨w.heap.size, 0, none⟩)], .int .i64 1, .func (.func 53) #[] #[.pointer (some ⟨w.heap.size, 0, none⟩), .pointer (some ⟨w.heap.size + 1, 0, none⟩)], .int .i64 4, .func (.func 55) #[] #[.pointer (some ⟨w.heap.size, 0, none⟩), .pointer (some ⟨w.heap.size + 1, 0, none⟩)], .int .i64 9] 95)) := (Ext.refl _).alloc _
  have hng := heap_alloc_new wb (.cells #[.func (.func 51) #[] #[.pointer (some ⟨w.heap.size, 0, none⟩)], .int .i64 1, .func (.func 53) #[] #[.pointer (some ⟨w.heap.size, 0, none⟩), .pointer (some ⟨w.heap.size + 1, 0, none⟩)], .int .i64 4, .func (.func 55) #[] #[.pointer (some ⟨w.heap.size, 0, none⟩), .pointer (some ⟨w.heap.size + 1, 0, none⟩)], .int .i64 9] 95)
  refine (Hfi.out w.heap.size (w.heap.size + 1 + 1 + 1 + 1) _ (Hx0.out.trans hxa) (Hui.out.ext hxa) ?_).mono ?_
  · rw [show w.heap.size + 1 + 1 + 1 + 1 = wb.heap.size from Hws.out]
    exact ⟨block_lt hng, cellB hng, cellB hng, cellB hng, cellB hng, cellB hng, cellB hng⟩
  clear hng
  rintro e w3 ⟨z, rfl, hx3, hz⟩
  replace hx3 := hxa.trans hx3
  have hb2 := (hx3.block (block_lt Hr1.out)).trans Hr1.out
  have hb3 := (hx3.block (block_lt Hr2.out)).trans Hr2.out
  have Hx3 := Lib.hid (Hx0.out.trans hx3)
  have Hui3 := Lib.hid (Hui.out.ext hx3)
  have hsz := Hws.out
  clear hxa
  by_cases hz0 : z = 0
  case neg =>
    have e0 : (z != 0) = true := by simpa using hz0
    have e1 : (z == 0) = false := by simpa using hz0
    clear hz hz0
    go_wp2_with (first | (refine wpList_put rfl 27 (.tmp 4) (.tmp 20) rfl (w.heap.size + 2) 0 (.agg #[.int .i64 0, .int .i64 0, .int .i64 0, .int .i64 0, .string ⟨#[]⟩, .slice none 0 0, .slice none 0 0, .slice none 0 0]) rfl rfl (RUnit.cells unit0) rfl Tryz.sizeOf27 (by simp [RUnit.cells, unit0, Value.oneCell']) 27 _ hb2 (by simp [unit0, RUnit.cells]) ?_; intro w4 hw4 hos4 htp4 hou4 hs4 hbk4; have hb3' := (hw4 (w.heap.size + 3) (by omega)).trans hb3) | (refine wpList_put rfl 27 (.tmp 5) (.tmp 21) rfl (w.heap.size + 3) 0 (.agg #[.int .i64 0, .int .i64 0, .int .i64 0, .int .i64 0, .string ⟨#[]⟩, .slice none 0 0, .slice none 0 0, .slice none 0 0]) rfl rfl (RUnit.cells unit0) rfl Tryz.sizeOf27 (by simp [RUnit.cells, unit0, Value.oneCell']) 27 _ hb3' (by simp [unit0, RUnit.cells]) ?_; intro w5 hw5 hos5 htp5 hou5 hs5 hbk5))
    have hf1 : w5.heap[w.heap.size + 2]? = some (.cells unit0.cells.toArray 27 (0, 0)) := (hw5 _ (by omega)).trans (by rw [hbk4]; simp [RUnit.cells, unit0])
    have hf2 : w5.heap[w.heap.size + 3]? = some (.cells unit0.cells.toArray 27 (0, 0)) := by rw [hbk5]; simp [RUnit.cells, unit0]
    refine bodyPost_ret (results_cells2 rfl _ _ (w.heap.size + 2) (w.heap.size + 3) _ _ rfl rfl hf1 hf2) rfl ?_
    exact ⟨_, _, z, rfl, (Hx3.out.put (by omega) hw4 hos4 htp4 hou4 hs4).put (by omega) hw5 hos5 htp5 hou5 hs5⟩
  subst hz0
  obtain ⟨hF, hne⟩ := hz rfl
  obtain ⟨h2, h2e⟩ := Hfn.out hF hne
  have Hnd2 := Lib.hid (Hnd.out h2e)
  have Hwo2 := Lib.hid (fun wq he => Hwo.out h2 Hnd2.out wq he)
  have Hfind2 := Lib.hid (Hfind.out w3 Hx3.out)
  obtain ⟨xf, hxf⟩ : ∃ xf, findF ⟨ia, ii, iN⟩ u = some xf := Option.isSome_iff_exists.1 hF
  rw [hxf] at Hfind2
  have Hokx := Lib.hid (show OkU xf from hokAll (by rw [findF] at hxf; exact List.mem_of_getLast? hxf))
  clear hz hF hne h2 h2e hxf Hfi Hfn Hnd Hnd2 Hwo Hfind
  obtain ⟨c0, c1, c2, c3, c4, c5, c6, c7, i0, i1, i2⟩ := Hui3.out.cells
  dsimp only at c0 c1 c2 c3 c4 c5 c6 c7 i0 i1 i2
  go_wp2_with fail
  refine (Hfind2.out).mono ?_
  rintro e w4 ⟨hx4, q, rfl, hrd4⟩
  have Hxq := Lib.hid ((Ext.refl w4).alloc (.cells q.cells.toArray 27))
  have Hqb := Lib.hid (BoxU.new q w4)
  have Hcp := Lib.hid (fun wq (he : Ext w4 wq) => copiedT_any xf q wq (Reads.ext he xf q hrd4) Hokx.out.lens20)
  have hb2' := (hx4.block (block_lt hb2)).trans hb2
  have hb3' := (hx4.block (block_lt hb3)).trans hb3
  have Hx4 := Lib.hid hx4
  have hsz4 := hx4.size
  clear c0 c1 c2 c3 c4 c5 c6 c7 i0 i1 i2 hb2 hb3 hrd4 hx4 Hfind2
  simp only [RUnit.cells] at Hxq Hqb Hcp ⊢
  go_wp2
  obtain ⟨w5, hw5⟩ : ∃ w5, w4.alloc (.cells #[.int .i64 q.a, .int .i64 q.i, .int .i64 q.n, .int .i64 q.kind, .string q.label, .slice q.hA q.hn q.hc, .slice q.wA q.wn q.wc, .slice q.kA q.kn q.kc] 27) = w5 := ⟨_, rfl⟩
  rw [hw5] at Hxq Hqb ⊢
  clear hw5
  have Hx35 := Lib.hid (Hx4.out.trans Hxq.out)
  have hb2 := (Hxq.out.block (block_lt hb2')).trans hb2'
  have hb3 := (Hxq.out.block (block_lt hb3')).trans hb3'
  replace Hwo2 := Lib.hid (fun wq (he : Ext w5 wq) => Hwo2.out wq ((Hx3.out.trans Hx35.out).trans he))
  replace Hcp := Lib.hid (fun wq (he : Ext w5 wq) => Hcp.out wq (Hxq.out.trans he))
  have hui5 := Hui3.out.ext Hx35.out
  have Hbt := Lib.hid (fun wq (he : Ext w5 wq) => (hui5.box.ext he).t)
  have Hit := Lib.hid (fun wq (he : Ext w5 wq) => (hui5.ext he).t)
  have Hqt := Lib.hid (fun wq (he : Ext w5 wq) => (Hqb.out.ext he).t)
  have hsz5 := Hxq.out.size
  clear hui5 hb2' hb3'
  refine wp_drawn_tail 5 (fun i => match i with | 0 => Ty.is (.agg #[.int .i64 ra, .int .i64 ri, .int .i64 rn, .int .i64 rk, .string rl, .slice hdA hn hc, .slice wA wn wc, .slice kA kn kc]) | 1 => Ty.is (.agg #[.int .i64 ia, .int .i64 ii, .int .i64 iN]) | 2 => TUnitV | 3 => Ty.is (.agg (RUnit.cells q).toArray) | 4 => TUnitV | _ => Ty.any) (by kernel_rfl) (by kernel_rfl) (by kernel_rfl) (by decide) rfl ?_
  intro v
  refine ⟨?_, ?_, ?_, ?_, ?_, ?_⟩
  · intro wq hq hd
    refine ob_plain rfl ?_
    exact yld_loadAgg 27 (.tmp 2) rfl Tryz.isAgg27 8 Tryz.sizeOf27 [.int .i64 ra, .int .i64 ri, .int .i64 rn, .int .i64 rk, .string rl, .slice hdA hn hc, .slice wA wn wc, .slice kA kn kc] rfl (Hbt.out _ hq) rfl
  · intro wq hq hd
    refine ob_plain rfl ?_
    exact yld_loadAgg 23 (.tmp 3) rfl Tryz.isAgg23 3 Tryz.sizeOf23 [.int .i64 ia, .int .i64 ii, .int .i64 iN] rfl (Hit.out _ hq) rfl
  · intro wq hq hd
    obtain ⟨h0, h1, -⟩ := hd
    change v 0 = _ at h0
    change v 1 = _ at h1
    refine ob_plain rfl ?_
    refine yld_call 57 Tryz.call57 _ _ rfl rfl [_, _] ⟨h0, h1, trivial⟩ ?_
    refine (Hwo2.out _ hq).mono ?_
    rintro e w' ⟨r', rfl, hx2⟩
    exact ⟨_, rfl, hx2, r', rfl⟩
  · intro wq hq hd
    refine ob_plain rfl ?_
    exact yld_loadAgg 27 (.tmp 8) rfl Tryz.isAgg27 8 Tryz.sizeOf27 (RUnit.cells q) rfl (Hqt.out _ hq) rfl
  · intro wq hq hd
    obtain ⟨h0, h1, -⟩ := hd
    change v 3 = _ at h0
    refine ob_plain rfl ?_
    refine yld_call 58 Tryz.call58 _ _ rfl rfl [_] ⟨h0, trivial⟩ ?_
    refine (Hcp.out _ hq).mono ?_
    rintro e w' ⟨r', rfl, hx2, -⟩
    exact ⟨_, rfl, hx2, r', rfl⟩
  · intro wq hq hT
    have k2 := hT 2 (by decide)
    change (TUnitV).p (v 2) wq at k2
    have k4 := hT 4 (by decide)
    change (TUnitV).p (v 4) wq at k4
    clear hT
    simp only [List.drop_succ_cons, List.drop_zero, putE, setsE, List.set_cons_succ, List.set_cons_zero, Nat.reduceAdd]
    generalize v 2 = x2 at k2 ⊢
    generalize v 4 = x4 at k4 ⊢
    obtain ⟨r1, rfl⟩ := k2
    obtain ⟨r2, rfl⟩ := k4
    have hb2x := (hq.block (block_lt hb2)).trans hb2
    have hb3x := (hq.block (block_lt hb3)).trans hb3
    have hszq := hq.size
    go_wp2_with (first | (refine wpList_put rfl 27 (.tmp 4) (.tmp 31) rfl (w.heap.size + 2) 0 (.agg r1.cells.toArray) rfl rfl (RUnit.cells r1) rfl Tryz.sizeOf27 (by simp [RUnit.cells, Value.oneCell']) 27 _ hb2x (by simp [unit0, RUnit.cells]) ?_; intro w6 hw6 hos6 htp6 hou6 hs6 hbk6; have hb3y := (hw6 (w.heap.size + 3) (by omega)).trans hb3x) | (refine wpList_put rfl 27 (.tmp 5) (.tmp 33) rfl (w.heap.size + 3) 0 (.agg r2.cells.toArray) rfl rfl (RUnit.cells r2) rfl Tryz.sizeOf27 (by simp [RUnit.cells, Value.oneCell']) 27 _ hb3y (by simp [unit0, RUnit.cells]) ?_; intro w7 hw7 hos7 htp7 hou7 hs7 hbk7))
    have hf1 : w7.heap[w.heap.size + 2]? = some (.cells r1.cells.toArray 27 (0, 0)) := (hw7 _ (by omega)).trans (by rw [hbk6]; simp [RUnit.cells, unit0])
    have hf2 : w7.heap[w.heap.size + 3]? = some (.cells r2.cells.toArray 27 (0, 0)) := by rw [hbk7]; simp [RUnit.cells, unit0]
    refine bodyPost_ret (results_cells2 rfl _ _ (w.heap.size + 2) (w.heap.size + 3) _ _ rfl rfl hf1 hf2) rfl ?_
    exact ⟨_, _, 0, rfl, (((Hx3.out.trans Hx35.out).trans hq).put (by omega) hw6 hos6 htp6 hou6 hs6).put (by omega) hw7 hos7 htp7 hou7 hs7⟩
set_option maxRecDepth 100000 in
set_option maxHeartbeats 1600000 in
theorem wrongP_any (u : GUnit) (r : RUnit) (W : Int) (w : World) (hr : Reads w u r) (hok : OkU u) (hT : Tabs w) (hid : idsOk u) : Calls Tryz.prog 12 #[.agg r.cells.toArray, .int .i64 W] w fun e w' => ∃ z : Int, e = .returned (.int .i64 z) ∧ Ext w w' ∧ (z = 0 → 24 ≤ W ∧ W ≤ 200) := by
  have Hrem := Lib.hid (fun wq (he : Ext w wq) => remove_any u r ⟨-1, 0, 0⟩ wq (Reads.ext he u r hr) hok (hT.ext he) (fun h => by
    rcases hid with h0 | h0
    · exact absurd (wayF_none ⟨-1, 0, 0⟩ u (fun x hx => by rw [h0 x hx]; decide)) h
    · exact h0))
  have hb := BoxU.new r w
  have hx0 : Ext w (w.alloc (.cells r.cells.toArray 27)) := (Ext.refl w).alloc _
  obtain ⟨ra, ri, rn, rk, rl, hdA, hn, hc, wA, wn, wc, kA, kn, kc⟩ := r
  simp only [RUnit.cells, GId.cells] at hb hx0 Hrem ⊢
  obtain ⟨wb, hwb⟩ : ∃ wb, w.alloc (.cells #[.int .i64 ra, .int .i64 ri, .int .i64 rn, .int .i64 rk, .string rl, .slice hdA hn hc, .slice wA wn wc, .slice kA kn kc] 27) = wb := ⟨_, rfl⟩
  rw [hwb] at hb hx0
  have Hwb := Lib.hid hwb
  have H1 := Lib.hid (Hrem.out wb hx0)
  clear hwb hb hr hok hT hid Hrem
  go_enter Tryz.func12, Tryz.ntmps12
  go_wp2_with fail
  rw [Hwb.out]
  refine (H1.out).mono ?_
  rintro e w2 ⟨r1, r2, z, rfl, hx2⟩
  simp only [RUnit.cells]
  have hx4 : Ext w2 ((w2.alloc (.cells #[.int .i64 r1.a, .int .i64 r1.i, .int .i64 r1.n, .int .i64 r1.kind, .string r1.label, .slice r1.hA r1.hn r1.hc, .slice r1.wA r1.wn r1.wc, .slice r1.kA r1.kn r1.kc] 27)).alloc (.cells #[.int .i64 r2.a, .int .i64 r2.i, .int .i64 r2.n, .int .i64 r2.kind, .string r2.label, .slice r2.hA r2.hn r2.hc, .slice r2.wA r2.wn r2.wc, .slice r2.kA r2.kn r2.kc] 27)) := ((Ext.refl w2).alloc _).alloc _
  have Hx4 := Lib.hid ((hx0.trans hx2).trans hx4)
  clear hx4 hx2 H1
  by_cases hz1 : z = 1
  · subst hz1
    go_wp2
    go_ret
    first | exact ⟨_, rfl, Hx4.out, fun h => by cases h⟩ | exact Hx4.out
  have e1 : (z == 1) = false := by simpa using hz1
  clear hz1
  by_cases hW1 : W < 24
  · have d1 : decide (W < 24) = true := decide_eq_true hW1
    go_wp2
    go_ret
    first | exact ⟨_, rfl, Hx4.out, fun h => by cases h⟩ | exact Hx4.out
  have d1 : decide (W < 24) = false := decide_eq_false hW1
  by_cases hW2 : 200 < W
  · have d2 : decide (200 < W) = true := decide_eq_true hW2
    have d3 : decide (W > 200) = true := decide_eq_true hW2
    go_wp2
    go_ret
    first | exact ⟨_, rfl, Hx4.out, fun h => by cases h⟩ | exact Hx4.out
  · have d2 : decide (200 < W) = false := decide_eq_false hW2
    have d3 : decide (W > 200) = false := decide_eq_false hW2
    go_wp2
    go_ret
    first | exact ⟨_, rfl, Hx4.out, fun h => ⟨by omega, by omega⟩⟩ | exact ⟨⟨_, rfl⟩, Hx4.out⟩
end Go.Proofs.YtjhdamjbljafhaaGreatDoor
