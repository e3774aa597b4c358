/- treeedit.done, without. unit.Valid, treeedit.stands: some answer. -/
import Derived.Test.YtjhdamjbljafhaaGreatDoorP22
import Derived.Test.YtjhdamjbljafhaaGreatDoorP23
import Derived.Test.YtjhdamjbljafhaaGreatDoorP14
namespace Go.Proofs.YtjhdamjbljafhaaGreatDoor
open Go.RowKit
def TReadU (u : GUnit) : Ty := ⟨fun v w => ∃ r : RUnit, v = .agg r.cells.toArray ∧ Reads w u r, fun _ _ _ he ⟨r, h1, h2⟩ => ⟨r, h1, Reads.ext he _ _ h2⟩⟩
def TSomeU : Ty := ⟨fun v _ => ∃ r : RUnit, v = .agg r.cells.toArray, fun _ _ _ _ h => h⟩
def TSomeB : Ty := ⟨fun v _ => ∃ b : Bool, v = .bool b, fun _ _ _ _ h => h⟩
def TPairU : Ty := ⟨fun v _ => ∃ (r : RUnit) (b : Bool), v = .tuple #[.agg r.cells.toArray, .bool b], fun _ _ _ _ h => h⟩
def TBoxU (n : Nat) : Ty := ⟨fun v w => ∃ (b : Nat) (r : RUnit), v = .pointer (some ⟨b, 0, none⟩) ∧ n ≤ b ∧ b < w.heap.size ∧ w.heap[b]? = some (.cells r.cells.toArray 27 (0, 0)),
  fun _ _ _ he ⟨b, r, h1, h2, h3, h4⟩ => ⟨b, r, h1, h2, Nat.lt_of_lt_of_le h3 he.size, (he.block h3).trans h4⟩⟩
theorem obt_early {i s : Nat} {early : List Nat} {X Y Z : Prop} (his : i ≠ s) (he : early.contains i = true) (h : Y) : if i = s then X else (Y ∧ (early.contains i = false → Z)) := by
  rw [if_neg his]; exact ⟨h, fun e => by rw [he] at e; cases e⟩
theorem obt_turn {i s : Nat} {X Y : Prop} (his : i = s) (h : X) : if i = s then X else Y := by rw [if_pos his]; exact h
theorem obt_free {i s : Nat} {X Y Z : Prop} (his : i ≠ s) (h : Y) (h2 : Z) : if i = s then X else (Y ∧ Z) := by rw [if_neg his]; exact ⟨h, h2⟩
theorem yldW_unit {ρ : Operand → Value} {o : Oper} {w0 w : World} {T : Value → World → Prop} (x y : Operand) (ho : o.op = .store 27 x y) (b : Nat) (r0 r : RUnit) (hx : ρ x = .pointer (some ⟨b, 0, none⟩)) (hy : ρ y = .agg r.cells.toArray) (hb : w.heap[b]? = some (.cells r0.cells.toArray 27 (0, 0))) (hw : Ext w0 w) (hn : w0.heap.size ≤ b)
    (h : ∀ w', w'.heap.size = w.heap.size → w'.heap[b]? = some (.cells r.cells.toArray 27 (0, 0)) → T undef w') : YldW Tryz.prog ρ o w0 w T := by
  have hrun := run_storeCells_at (P := Tryz.prog) b 0 27 r.cells 0 r0.cells.toArray w hb (by simp [RUnit.cells]) (by simp [RUnit.cells, Value.oneCell'])
  have hr : (storeVar 27 ⟨b, 0, none⟩ (.agg r.cells.toArray)).run Tryz.prog w = .ok () (w.setRow b (r0.cells.toArray.toList.take (0 + 0) ++ r.cells ++ r0.cells.toArray.toList.drop (0 + 0 + r.cells.length)).toArray) := by
    have hsz : ∀ w, (sizeOf 27).run Tryz.prog w = .ok r.cells.length w := Tryz.sizeOf27
    have hl : (Value.agg r.cells.toArray).cells.size = r.cells.length := by simp [Value.cells]
    have hv : (Value.agg r.cells.toArray).cells.toList = r.cells := by simp [Value.cells]
    simp [storeVar, hsz, hl, hv, hrun]
  unfold YldW execOp
  simp only [ho, hx, hy, Instr.storeAt, Instr.sureAddr, Sem.run_bind, Sem.run_pure, Result.andThen_ok, hr]
  refine ⟨hw.put hn (fun k hk => setRow_other w b k _ hk) rfl rfl rfl (by simp), h _ (by simp) ?_⟩
  have := setRow_heap w b r0.cells.toArray (r0.cells.toArray.toList.take (0 + 0) ++ r.cells ++ r0.cells.toArray.toList.drop (0 + 0 + r.cells.length)).toArray 27 _ hb
  rw [this]
  simp [RUnit.cells]
set_option maxRecDepth 100000 in
set_option maxHeartbeats 1600000 in
theorem done_any (u : GUnit) (r : RUnit) (id : GId) (B j : Nat) (w : World) (hr : Reads w u r) (hok : OkU u) (hB : B < w.heap.size) (hBc : w.cell? ⟨B, 0, none⟩ = some (.int .i64 (j : Nat))) (hpl : ∀ x ∈ preF u, x.id = id → j < x.kids.length) :
    Calls Tryz.prog 93 #[.agg r.cells.toArray, .agg id.cells.toArray, .func (.func 94) #[] #[.pointer (some ⟨B, 0, none⟩)]] w (RetU w) := by
  have Hcp := Lib.hid (fun wq (he : Ext w wq) => copiedT_any u r wq (Reads.ext he u r hr) hok.lens20)
  have Hat := Lib.hid (fun wq (he : Ext w wq) rx (hx : Reads wq u rx) => at_any _ u rx id B j wq (Nat.le_refl _) hx hok (Nat.lt_of_lt_of_le hB he.size) ((he.cell (p := ⟨B, 0, none⟩) hB).trans hBc) hpl)
  have hui := UI.new r id w
  have hx0 : Ext w ((w.alloc (.cells r.cells.toArray 27)).alloc (.cells id.cells.toArray 23)) := ((Ext.refl w).alloc _).alloc _
  have hx3 : Ext ((w.alloc (.cells r.cells.toArray 27)).alloc (.cells id.cells.toArray 23)) (((w.alloc (.cells r.cells.toArray 27)).alloc (.cells id.cells.toArray 23)).alloc (.cells unit0.cells.toArray 27)) := (Ext.refl _).alloc _
  have hrs0 := heap_alloc_new ((w.alloc (.cells r.cells.toArray 27)).alloc (.cells id.cells.toArray 23)) (.cells unit0.cells.toArray 27)
  replace hui := hui.ext hx3
  replace hx0 := hx0.trans hx3
  clear hx3
  rw [show ((w.alloc (.cells r.cells.toArray 27)).alloc (.cells id.cells.toArray 23)).heap.size = w.heap.size + 2 by simp] at hrs0
  obtain ⟨ra, ri, rn, rk, rl, hdA, hn, hc, wA, wn, wc, kA, kn, kc⟩ := r
  obtain ⟨ia, ii, iN⟩ := id
  simp only [RUnit.cells, GId.cells, unit0] at *
  obtain ⟨wb, hwb⟩ : ∃ wb, ((w.alloc (.cells #[.int .i64 ra, .int .i64 ri, .int .i64 rn, .int .i64 rk, .string rl, .slice hdA hn hc, .slice wA wn wc, .slice kA kn kc] 27)).alloc (.cells #[.int .i64 ia, .int .i64 ii, .int .i64 iN] 23)).alloc (.cells #[.int .i64 0, .int .i64 0, .int .i64 0, .int .i64 0, .string ⟨#[]⟩, .slice none 0 0, .slice none 0 0, .slice none 0 0] 27) = wb := ⟨_, rfl⟩
  rw [hwb] at hui hx0 hrs0
  have Hws := Lib.hid (show w.heap.size + 3 = wb.heap.size by rw [← hwb]; simp)
  have Hwb := Lib.hid hwb
  have Hui := Lib.hid hui
  have Hx0 := Lib.hid hx0
  have Hres := Lib.hid hrs0
  clear hrs0
  clear hwb hui hx0 hr hok hpl hBc
  have hz3 : w.heap.size + 3 ≤ wb.heap.size := by rw [← Hws.out]; exact Nat.le_refl _
  have Hbt := Lib.hid (show ∀ w', Ext wb w' → (TCells [.int .i64 ra, .int .i64 ri, .int .i64 rn, .int .i64 rk, .string rl, .slice hdA hn hc, .slice wA wn wc, .slice kA kn kc]).p (.pointer (some ⟨w.heap.size, 0, none⟩)) w' from fun w' he => (Hui.out.ext he).box.t)
  have Hit := Lib.hid (show ∀ w', Ext wb w' → (TCells [.int .i64 ia, .int .i64 ii, .int .i64 iN]).p (.pointer (some ⟨w.heap.size + 1, 0, none⟩)) w' from fun w' he => by
    obtain ⟨-, hlt, i0, i1, i2⟩ := Hui.out.ext he
    refine ⟨w.heap.size + 1, 0, rfl, hlt, fun t v ht => ?_⟩
    rw [Nat.zero_add]
    match t with
    | 0 => simp at ht; rw [← ht]; exact i0
    | 1 => simp at ht; rw [← ht]; exact i1
    | 2 => simp at ht; rw [← ht]; exact i2
    | t + 3 => simp at ht)
  go_enter Tryz.func93, Tryz.ntmps93
  go_wp2
  rw [Hwb.out]
  refine wp_drawn_turnU 11 9 [0, 1, 2, 3, 4, 5, 6, 8] (fun i => match i with | 0 => Ty.is (.agg #[.int .i64 ra, .int .i64 ri, .int .i64 rn, .int .i64 rk, .string rl, .slice hdA hn hc, .slice wA wn wc, .slice kA kn kc]) | 1 => TReadU u | 2 => Ty.is (.agg #[.int .i64 ia, .int .i64 ii, .int .i64 iN]) | 3 => Ty.is (.func (.func 94) #[] #[.pointer (some ⟨B, 0, none⟩)]) | 4 => TPairU | 5 => TPairU | 6 => TSomeU | 7 => TSomeB | 8 => TUnit0 wb.heap.size | 10 => TSomeB | _ => Ty.any)
    (fun i => match i with | 5 => TPairU | 7 => TSomeB | 8 => TBoxU wb.heap.size | 10 => TSomeB | _ => Ty.any) (by kernel_rfl) (by kernel_rfl) (by kernel_rfl) (by kernel_rfl) (by decide) (by decide) rfl ?_ ?_
  · intro j hj he x w1 w2 hx
    match j, hj, he, hx with
    | 7, _, _, hx => exact hx
    | 10, _, _, hx => exact hx
    | 9, hj, _, _ => exact absurd rfl hj
    | 0, _, he, _ => exact absurd he (by decide)
    | 1, _, he, _ => exact absurd he (by decide)
    | 2, _, he, _ => exact absurd he (by decide)
    | 3, _, he, _ => exact absurd he (by decide)
    | 4, _, he, _ => exact absurd he (by decide)
    | 5, _, he, _ => exact absurd he (by decide)
    | 6, _, he, _ => exact absurd he (by decide)
    | 8, _, he, _ => exact absurd he (by decide)
    | _ + 11, _, _, _ => trivial
  intro v
  refine ⟨rfl, obt_early (by decide) rfl ?_, rfl, obt_early (by decide) rfl ?_, rfl, obt_early (by decide) rfl ?_, rfl, obt_early (by decide) rfl ?_, rfl, obt_early (by decide) rfl ?_, rfl, obt_early (by decide) rfl ?_, rfl, obt_early (by decide) rfl ?_, rfl, obt_free (by decide) ?_ ?_, rfl, obt_early (by decide) rfl ?_, rfl, obt_turn rfl ?_, rfl, obt_free (by decide) ?_ ?_, ?_⟩
  · intro wq hq hd
    exact yld_loadAgg 27 (.tmp 3) rfl Tryz.isAgg27 8 Tryz.sizeOf27 [.int .i64 ra, .int .i64 ri, .int .i64 rn, .int .i64 rk, .string rl, .slice hdA hn hc, .slice wA wn wc, .slice kA kn kc] rfl (Hbt.out wq hq) rfl
  · intro wq hq hd
    obtain ⟨h0, -⟩ := hd
    change v 0 = _ at h0
    refine yld_call 58 Tryz.call58 _ _ rfl rfl [_] ⟨h0, trivial⟩ ?_
    refine (Hcp.out _ (Hx0.out.trans hq)).mono ?_
    rintro e w' ⟨r', rfl, hx', hsep⟩
    exact ⟨_, rfl, hx', r', rfl, Reads.cin (CIn.unmask (fun _ => false) _) _ _ (Sep.reads _ _ _ _ hsep (fun _ _ _ => rfl))⟩
  · intro wq hq hd
    exact yld_loadAgg 23 (.tmp 4) rfl Tryz.isAgg23 3 Tryz.sizeOf23 [.int .i64 ia, .int .i64 ii, .int .i64 iN] rfl (Hit.out wq hq) rfl
  · intro wq hq hd
    exact yld_move (.tmp 2) rfl rfl rfl
  · intro wq hq hd
    obtain ⟨h0, h1, h2, -⟩ := hd
    change (TReadU u).p (v 1) wq at h0
    change v 2 = _ at h1
    change v 3 = _ at h2
    obtain ⟨rx, h0, hrx⟩ := h0
    refine yld_call 133 Tryz.call133 _ _ rfl rfl [_, _, _] ⟨h0, h1, h2, trivial⟩ ?_
    refine (Hat.out _ (Hx0.out.trans hq) rx hrx).mono ?_
    rintro e w' ⟨r', b, rfl, hx'⟩
    exact ⟨_, rfl, hx', r', b, rfl⟩
  · intro wq hq hd
    obtain ⟨h0, -⟩ := hd
    exact yld_move (.tmp 14) rfl rfl h0
  · intro wq hq hd
    obtain ⟨⟨rx, b, h0⟩, -⟩ := hd
    exact yld_extract (.tmp 9) 0 rfl _ h0 rfl ⟨rx, rfl⟩
  · intro wq hq hd
    obtain ⟨⟨rx, b, h0⟩, -⟩ := hd
    exact yld_extract (.tmp 9) 1 rfl _ h0 rfl ⟨b, rfl⟩
  · intro _ wq hq hd
    obtain ⟨⟨rx, b, h0⟩, -⟩ := hd
    exact yld_extract (.tmp 9) 1 rfl _ h0 rfl ⟨b, rfl⟩
  · intro wq hq hd
    exact yld_alloc0 hq.size rfl
  · intro wq hq hd
    obtain ⟨b, h8, hb1, hb2, hb3⟩ := (show (TUnit0 wb.heap.size).p (v 8) wq from hd 8 rfl)
    obtain ⟨rx, h6⟩ := (show TSomeU.p (v 6) wq from hd 6 rfl)
    refine yldW_unit (.tmp 7) (.tmp 15) rfl b unit0 rx h8 h6 hb3 hq hb1 fun w' hs' hb' => ⟨trivial, fun j hj => ?_⟩
    match j, hj with
    | 8, _ => exact ⟨b, rx, h8, hb1, by omega, hb'⟩
    | 0, _ => trivial
    | 1, _ => trivial
    | 2, _ => trivial
    | 3, _ => trivial
    | 4, _ => trivial
    | 5, _ => exact hd 5 rfl
    | 6, _ => trivial
    | 7, hj => cases hj
    | 9, hj => cases hj
    | 10, hj => cases hj
    | _ + 11, _ => trivial
  · intro wq hq hd
    obtain ⟨h0, -⟩ := hd
    exact yld_assign (.tmp 16) rfl rfl h0
  · intro _ wq hq hd
    obtain ⟨h0, -⟩ := hd
    exact yld_assign (.tmp 16) rfl rfl h0
  · intro wq hq hT
    obtain ⟨b, rx, h8, hb1, hb2, hb3⟩ := (show (TBoxU wb.heap.size).p (v 8) wq from hT 8 (by decide))
    simp only [List.drop_succ_cons, List.drop_zero, putE, setsE, List.set_cons_succ, List.set_cons_zero, Nat.reduceAdd]
    rw [h8]
    obtain ⟨f0, f1, f2, f3, f4, f5, f6, f7⟩ := unitBlock hb3
    have hrk := (hq.block (k := w.heap.size + 2) (by omega)).trans Hres.out
    have hzq := hq.size
    have hxq := Hx0.out.trans hq
    clear hT hb3
    go_wp2_with (refine wpList_put rfl 27 (.tmp 6) (.tmp 17) rfl (w.heap.size + 2) 0 (.agg rx.cells.toArray) rfl rfl (RUnit.cells rx) rfl Tryz.sizeOf27 (by simp [RUnit.cells, Value.oneCell']) 27 _ hrk (by simp [RUnit.cells]) ?_; intro w4 hw4 hos4 htp4 hou4 hs4 hbk4)
    have hfin : w4.heap[w.heap.size + 2]? = some (.cells rx.cells.toArray 27 (0, 0)) := by
      rw [hbk4]
      simp [RUnit.cells]
    refine bodyPost_ret (results_cell1 rfl _ _ (w.heap.size + 2) _ rfl hfin) rfl ?_
    exact ⟨rx, rfl, hxq.put (by omega) hw4 hos4 htp4 hou4 hs4⟩
theorem nodup_map_inj {α β : Type} (f : α → β) : ∀ (l : List α), (l.map f).Nodup → ∀ x ∈ l, ∀ y ∈ l, f x = f y → x = y
  | [], _, x, hx, _, _, _ => by simp at hx
  | a :: l, h, x, hx, y, hy, e => by
    rw [List.map_cons, List.nodup_cons] at h
    rcases List.mem_cons.1 hx with hx1 | hx1
    · rcases List.mem_cons.1 hy with hy1 | hy1
      · rw [hx1, hy1]
      · refine absurd ?_ h.1
        rw [← hx1, e]
        exact List.mem_map.2 ⟨y, hy1, rfl⟩
    · rcases List.mem_cons.1 hy with hy1 | hy1
      · refine absurd ?_ h.1
        rw [← hy1, ← e]
        exact List.mem_map.2 ⟨x, hx1, rfl⟩
      · exact nodup_map_inj f l h.2 x hx1 y hy1 e
set_option maxRecDepth 100000 in
set_option maxHeartbeats 1600000 in
theorem without_any (u : GUnit) (r : RUnit) (id : GId) (w : World) (hr : Reads w u r) (hok : OkU u) (h2 : 2 ≤ (wayF id u).length) (hnd : ((preF u).map GUnit.id).Nodup) :
    Calls Tryz.prog 57 #[.agg r.cells.toArray, .agg id.cells.toArray] w (RetU w) := by
  have Hpar := Lib.hid (fun wq (he : Ext w wq) => parent_any u r id wq (Reads.ext he u r hr) hok h2)
  have Hdone := Lib.hid (fun wq (he : Ext w wq) (p : GUnit) (B j : Nat) (hp : p ∈ preF u) (hj : j < p.kids.length) (hB : B < wq.heap.size) (hc : wq.cell? ⟨B, 0, none⟩ = some (.int .i64 (j : Nat))) => done_any u r p.id B j wq (Reads.ext he u r hr) hok hB hc (fun x hx hxi => by
    have : x = p := nodup_map_inj _ _ hnd x hx p hp hxi
    rw [this]
    exact hj))
  have hui := UI.new r id w
  have hx0 : Ext w ((w.alloc (.cells r.cells.toArray 27)).alloc (.cells id.cells.toArray 23)) := ((Ext.refl w).alloc _).alloc _
  have hx3 : Ext ((w.alloc (.cells r.cells.toArray 27)).alloc (.cells id.cells.toArray 23)) (((w.alloc (.cells r.cells.toArray 27)).alloc (.cells id.cells.toArray 23)).alloc (.cells unit0.cells.toArray 27)) := (Ext.refl _).alloc _
  have hrs0 := heap_alloc_new ((w.alloc (.cells r.cells.toArray 27)).alloc (.cells id.cells.toArray 23)) (.cells unit0.cells.toArray 27)
  replace hui := hui.ext hx3
  replace hx0 := hx0.trans hx3
  clear hx3
  rw [show ((w.alloc (.cells r.cells.toArray 27)).alloc (.cells id.cells.toArray 23)).heap.size = w.heap.size + 2 by simp] at hrs0
  obtain ⟨ra, ri, rn, rk, rl, hdA, hn, hc, wA, wn, wc, kA, kn, kc⟩ := r
  obtain ⟨ia, ii, iN⟩ := id
  simp only [RUnit.cells, GId.cells, unit0] at *
  obtain ⟨wb, hwb⟩ : ∃ wb, ((w.alloc (.cells #[.int .i64 ra, .int .i64 ri, .int .i64 rn, .int .i64 rk, .string rl, .slice hdA hn hc, .slice wA wn wc, .slice kA kn kc] 27)).alloc (.cells #[.int .i64 ia, .int .i64 ii, .int .i64 iN] 23)).alloc (.cells #[.int .i64 0, .int .i64 0, .int .i64 0, .int .i64 0, .string ⟨#[]⟩, .slice none 0 0, .slice none 0 0, .slice none 0 0] 27) = wb := ⟨_, rfl⟩
  rw [hwb] at hui hx0 hrs0
  have Hws := Lib.hid (show w.heap.size + 3 = wb.heap.size by rw [← hwb]; simp)
  have Hwb := Lib.hid hwb
  have Hui := Lib.hid hui
  have Hx0 := Lib.hid hx0
  have Hres := Lib.hid hrs0
  clear hrs0
  clear hwb hui hx0 hr hok hnd h2
  have hz3 : w.heap.size + 3 ≤ wb.heap.size := by rw [← Hws.out]; exact Nat.le_refl _
  have Hpar2 := Lib.hid (Hpar.out wb Hx0.out)
  obtain ⟨c0, c1, c2, c3, c4, c5, c6, c7, i0, i1, i2⟩ := Hui.out.cells
  dsimp only at c0 c1 c2 c3 c4 c5 c6 c7 i0 i1 i2
  go_enter Tryz.func57, Tryz.ntmps57
  go_wp2_with fail
  rw [Hwb.out]
  go_wp2_with fail
  refine (Hpar2.out).mono ?_
  rintro e w2 ⟨p, j, rfl, hp, hj, hx2⟩
  have hrk := (hx2.block (k := w.heap.size + 2) (by omega)).trans Hres.out
  have hsz2 := hx2.size
  have hxa : Ext w2 ((w2.alloc (.cells #[.int .i64 p.id.a, .int .i64 p.id.i, .int .i64 p.id.n] 23)).alloc (.cells #[.int .i64 (j : Nat)] 3)) := ((Ext.refl _).alloc _).alloc _
  have Hd2 := Lib.hid (Hdone.out _ ((Hx0.out.trans hx2).trans hxa) p (w2.heap.size + 1) j hp hj (by simp) (by rw [show w2.heap.size + 1 = (w2.alloc (.cells #[.int .i64 p.id.a, .int .i64 p.id.i, .int .i64 p.id.n] 23)).heap.size by simp, World.cell?_alloc_new]; rfl))
  obtain ⟨pid, hpid⟩ : ∃ pid, p.id = pid := ⟨_, rfl⟩
  rw [hpid] at Hd2 hxa
  simp only [GId.cells, hpid]
  obtain ⟨f0, f1, f2, f3, f4, f5, f6, f7, -, -, -⟩ := (Hui.out.ext (hx2.trans hxa)).cells
  dsimp only at f0 f1 f2 f3 f4 f5 f6 f7
  have Hxa := Lib.hid hxa
  clear c0 c1 c2 c3 c4 c5 c6 c7 i0 i1 i2 Hpar Hpar2 Hdone hp hj hxa hpid
  go_wp2_with fail
  refine (Hd2.out).mono ?_
  rintro e w3 ⟨rx, rfl, hx3⟩
  have hx23 := Hxa.out.trans hx3
  have hrk3 := (hx23.block (by omega)).trans hrk
  have hsz3 := hx23.size
  have hxw := (Hx0.out.trans hx2).trans hx23
  clear f0 f1 f2 f3 f4 f5 f6 f7 hrk Hd2
  go_wp2_with (refine wpList_put rfl 27 (.tmp 4) (.tmp 18) rfl (w.heap.size + 2) 0 (.agg rx.cells.toArray) rfl rfl (RUnit.cells rx) rfl Tryz.sizeOf27 (by simp [RUnit.cells, Value.oneCell']) 27 _ hrk3 (by simp [RUnit.cells]) ?_; intro w4 hw4 hos4 htp4 hou4 hs4 hbk4)
  have hfin : w4.heap[w.heap.size + 2]? = some (.cells rx.cells.toArray 27 (0, 0)) := by
    rw [hbk4]
    simp [RUnit.cells]
  refine bodyPost_ret (results_cell1 rfl _ _ (w.heap.size + 2) _ rfl hfin) rfl ?_
  exact ⟨rx, rfl, hxw.put (by omega) hw4 hos4 htp4 hou4 hs4⟩
end Go.Proofs.YtjhdamjbljafhaaGreatDoor
namespace Go.Proofs.YtjhdamjbljafhaaGreatDoor
open Go.RowKit
set_option maxRecDepth 100000 in
set_option maxHeartbeats 1600000 in
theorem validU_any (u : GUnit) (r : RUnit) (w : World) (hr : Reads w u r) (hok : OkU u) (hT : Tabs w) : Calls Tryz.prog 88 #[.agg r.cells.toArray] w (RetB w) := by
  have H1 := Lib.hid (fun wq (he : Ext w wq) => everyAlone (W0 := wq) (S := false) (Inv := fun p _ wr => p = (fun _ => false) ∧ Ext wq wr) (all := preF u) (fun _ _ _ h => h.2) (fun _ _ _ _ h he => ⟨h.1, h.2.trans he⟩) (fun p _ _ h j hj => by rw [h.1] at hj; cases hj)
    (fun p acc x rx w' hox hrx _ hI => (alone_any x rx w' (Reads.ext hI.2 x rx hrx) hox (hT.ext (he.trans hI.2))).mono fun e w2 ⟨b, he, hx2⟩ => ⟨b, p, he, CIn.ext hx2, hI.2.trans hx2, fun _ => ⟨hI.1, hI.2.trans hx2⟩, fun h => by cases h⟩)
    _ u r (fun _ => false) [] wq (Nat.le_refl _) (Reads.ext he u r hr) hok ⟨[], by simp⟩ ⟨rfl, Ext.refl _⟩)
  have H2 := Lib.hid (fun wq (he : Ext w wq) => depth_any u r wq (Reads.ext he u r hr) hok)
  have H3 := Lib.hid (fun wq (he : Ext w wq) => count_any u r wq (Reads.ext he u r hr) hok)
  have H4 := Lib.hid (fun wq (he : Ext w wq) => idsV_any u r wq (Reads.ext he u r hr) hok)
  have hcn := hok.cnt
  have hb := BoxU.new r w
  have he1 : Ext w (w.alloc (.cells r.cells.toArray 27)) := (Ext.refl w).alloc _
  obtain ⟨cn, hcn2⟩ : ∃ n, cntF u = n := ⟨_, rfl⟩
  rw [hcn2] at H2 H3 hcn
  obtain ⟨ra, ri, rn, rk, rl, hdA, hn, hc, wA, wn, wc, kA, kn, kc⟩ := r
  simp only [RUnit.cells] at hb he1 H1 H2 H3 H4 ⊢
  obtain ⟨wb, hwb⟩ : ∃ wb, w.alloc (.cells #[.int .i64 ra, .int .i64 ri, .int .i64 rn, .int .i64 rk, .string rl, .slice hdA hn hc, .slice wA wn wc, .slice kA kn kc] 27) = wb := ⟨_, rfl⟩
  rw [hwb] at hb he1
  have Hwb := Lib.hid hwb
  have Hbx := Lib.hid hb
  have H1b := Lib.hid (H1.out wb he1)
  clear hcn2 hwb hb H1 hr hok hT
  go_enter Tryz.func88, Tryz.ntmps88
  go_wp2_with fail
  rw [Hwb.out]
  refine (H1b.out).mono ?_
  rintro e w2 ⟨b, p2, rfl, -, hx2, -, -⟩
  cases b with
  | false =>
    go_wp2
    go_ret
    exact ⟨_, rfl, he1.trans hx2⟩
  | true =>
  obtain ⟨hb0, q0, q1, q2, q3, q4, q5, q6, q7⟩ := Hbx.out.ext hx2
  dsimp only at q0 q1 q2 q3 q4 q5 q6 q7
  have H2b := Lib.hid (H2.out w2 (he1.trans hx2))
  clear H1b
  go_wp2_with fail
  refine (H2b.out).mono ?_
  rintro e w3 ⟨d, rfl, -, hx3⟩
  by_cases hd : d ≤ 8
  case neg =>
    have d1 : decide ((d : Int) ≤ 8) = false := decide_eq_false (by omega)
    clear hd
    go_wp2
    go_ret
    exact ⟨_, rfl, he1.trans (hx2.trans hx3)⟩
  have d1 : decide ((d : Int) ≤ 8) = true := decide_eq_true (by omega)
  have hx03 := hx2.trans hx3
  clear q0 q1 q2 q3 q4 q5 q6 q7 hb0 H2b hd
  obtain ⟨hb0, q0, q1, q2, q3, q4, q5, q6, q7⟩ := Hbx.out.ext hx03
  dsimp only at q0 q1 q2 q3 q4 q5 q6 q7
  have H3b := Lib.hid (H3.out w3 (he1.trans hx03))
  go_wp2_with fail
  refine (H3b.out).mono ?_
  rintro e w4 ⟨rfl, hx4⟩
  have d2 : decide ((cn : Int) ≤ 1024) = true := decide_eq_true (by omega)
  have hx04 := hx03.trans hx4
  clear q0 q1 q2 q3 q4 q5 q6 q7 hb0 H3b
  obtain ⟨hb0, q0, q1, q2, q3, q4, q5, q6, q7⟩ := Hbx.out.ext hx04
  dsimp only at q0 q1 q2 q3 q4 q5 q6 q7
  have H4b := Lib.hid (H4.out w4 (he1.trans hx04))
  go_wp2_with fail
  refine (H4b.out).mono ?_
  rintro e w5 ⟨b, rfl, hx5⟩
  go_wp2
  go_ret
  exact ⟨b, rfl, he1.trans (hx04.trans hx5)⟩
set_option maxHeartbeats 400000 in
theorem stands1_any (x : GId) (w : World) : Calls Tryz.prog 86 #[.agg x.cells.toArray] w (RetB w) := by
  obtain ⟨a, i, n⟩ := x
  have hq := fun W => idEql W a i n 0 0 0
  simp only [GId.cells]
  go_enter Tryz.func86, Tryz.ntmps86
  go_wp2
  go_ret
  exact ⟨_, rfl, (Ext.refl _).alloc _⟩
set_option maxRecDepth 100000 in
set_option maxHeartbeats 1600000 in
theorem idxId_any (A : Option Addr) (c : Nat) (l : List GId) (w : World) (hs : Sl idEl w A l) (hn : l.length ≤ 1000000) :
    Calls Tryz.prog 130 #[.slice A l.length c, .func (.func 86) #[] #[]] w fun e w' => ∃ z : Int, e = .returned (.int .i64 z) ∧ Ext w w' := by
  go_enter Tryz.func130, Tryz.ntmps130
  go_wp2
  go_loopw [5, 8] (fun _ vk wr => ∃ k : Nat, k ≤ l.length ∧ vk = .int .i64 (k : Nat) ∧ Ext w wr) (fun _ vk _ => l.length - (intOf vk).toNat)
  case atStart => exact ⟨0, Nat.zero_le _, rfl, Ext.refl _⟩
  case round =>
    obtain ⟨k, hk, rfl, hext⟩ := hrel
    by_cases hlt : k < l.length
    · obtain ⟨b, off, hAe, hb, u0, u1, u2⟩ := idAt (hs.ext hext) hlt
      subst hAe
      obtain ⟨x, hx⟩ : ∃ x, l[k] = x := ⟨_, rfl⟩
      rw [hx] at u0 u1 u2
      have Hc2 := Lib.hid (stands1_any x wr)
      obtain ⟨xa, xi, xn⟩ := x
      simp only [GId.cells] at Hc2
      dsimp only at u0 u1 u2
      have d1 : decide ((k : Int) < (l.length : Int)) = true := decide_eq_true (by omega)
      clear hx
      go_wp2_with fail
      refine (Hc2.out).mono ?_
      rintro e w2 ⟨bb, rfl, hx2⟩
      cases bb with
      | true =>
        go_wp2
        go_ret
        exact ⟨_, rfl, hext.trans hx2⟩
      | false =>
        go_wp2
        go_roundw
        case rel => exact ⟨k + 1, by omega, by go_num, hext.trans hx2⟩
        case measure => simp [intOf]; omega
    · have d1 : decide ((k : Int) < (l.length : Int)) = false := decide_eq_false (by omega)
      go_wp2
      go_ret
      exact ⟨_, rfl, hext⟩
set_option maxRecDepth 100000 in
set_option maxHeartbeats 800000 in
theorem hasId_any (A : Option Addr) (c : Nat) (l : List GId) (w : World) (hs : Sl idEl w A l) (hn : l.length ≤ 1000000) :
    Calls Tryz.prog 89 #[.slice A l.length c, .func (.func 86) #[] #[]] w (RetB w) := by
  have Hi := Lib.hid (idxId_any A c l w hs hn)
  clear hs
  go_enter Tryz.func89, Tryz.ntmps89
  go_wp2_with fail
  refine (Hi.out).mono ?_
  rintro e w2 ⟨z, rfl, hx2⟩
  go_wp2
  go_ret
  exact ⟨_, rfl, hx2⟩
set_option maxRecDepth 100000 in
set_option maxHeartbeats 1600000 in
theorem stands_any (u : GUnit) (r : RUnit) (w : World) (hr : Reads w u r) (hok : OkU u) (hT : Tabs w) : Calls Tryz.prog 52 #[.agg r.cells.toArray] w (RetB w) := by
  have H1 := Lib.hid (fun wq (he : Ext w wq) => ids_any u r wq (Reads.ext he u r hr) hok)
  have H2 := Lib.hid (fun wq (he : Ext w wq) => validU_any u r wq (Reads.ext he u r hr) hok (hT.ext he))
  have H3 := Lib.hid (fun A c l wq (hs : Sl idEl wq A l) (hl : List.length l ≤ 1000) => hasId_any A c l wq hs (by omega))
  have hln : ((preF u).map GUnit.id).length = cntF u := by rw [List.length_map, preF_len]
  have hcn := hok.cnt
  have hpos : 0 < cntF u := by rw [cntF_kids]; omega
  obtain ⟨l, hl⟩ : ∃ l, (preF u).map GUnit.id = l := ⟨_, rfl⟩
  rw [hl] at H1 hln
  have hl1 : 1 ≤ l.length := by omega
  have hl2 : l.length ≤ 1000 := by omega
  have hb := BoxU.new r w
  have he1 : Ext w (w.alloc (.cells r.cells.toArray 27)) := (Ext.refl w).alloc _
  obtain ⟨ra, ri, rn, rk, rl, hdA, hn, hc, wA, wn, wc, kA, kn, kc⟩ := r
  simp only [RUnit.cells] at hb he1 H1 H2 ⊢
  obtain ⟨wb, hwb⟩ : ∃ wb, w.alloc (.cells #[.int .i64 ra, .int .i64 ri, .int .i64 rn, .int .i64 rk, .string rl, .slice hdA hn hc, .slice wA wn wc, .slice kA kn kc] 27) = wb := ⟨_, rfl⟩
  rw [hwb] at hb he1
  have Hwb := Lib.hid hwb
  have Hbx := Lib.hid hb
  have H1b := Lib.hid (H1.out wb he1)
  clear hln hcn hpos hl hwb hb H1 hr hok hT
  go_enter Tryz.func52, Tryz.ntmps52
  go_wp2_with fail
  rw [Hwb.out]
  refine (H1b.out).mono ?_
  rintro e w2 ⟨v2, rfl, hown, hx2⟩
  obtain ⟨A2, c2, rfl, hc2, hsl⟩ := hown.form
  have Hsl := Lib.hid hsl
  obtain ⟨hb0, q0, q1, q2, q3, q4, q5, q6, q7⟩ := Hbx.out.ext hx2
  dsimp only at q0 q1 q2 q3 q4 q5 q6 q7
  have H2b := Lib.hid (H2.out w2 (he1.trans hx2))
  clear hown hsl
  by_cases hk0 : rk = 0
  · subst hk0
    have hdr := Sl.drop Hsl.out 1 c2 hl1 hc2
    have hdl : (l.drop 1).length = l.length - 1 := by simp
    obtain ⟨l1, hl1'⟩ : ∃ l1, l.drop 1 = l1 := ⟨_, rfl⟩
    rw [hl1'] at hdr hdl
    clear hl1'
    by_cases hc1 : c2 = 1
    · subst hc1
      rw [if_pos rfl] at hdr
      replace hdl : l1.length = 0 := by omega
      have H3b := Lib.hid (fun wq (he : Ext w2 wq) => H3.out A2 0 l1 wq (hdr.ext he) (by omega))
      rw [hdl] at H3b
      clear hdr hdl H3 Hsl
      go_wp2_with fail
      refine (H2b.out).mono ?_
      rintro e w3 ⟨b3, rfl, hx3⟩
      have H3c := Lib.hid (H3b.out w3 hx3)
      cases b3 with
      | false =>
        go_wp2
        go_ret
        exact ⟨_, rfl, he1.trans (hx2.trans hx3)⟩
      | true =>
        go_wp2_with fail
        refine (H3c.out).mono ?_
        rintro e w4 ⟨b4, rfl, hx4⟩
        go_wp2
        go_ret
        exact ⟨_, rfl, he1.trans (hx2.trans (hx3.trans hx4))⟩
    · rw [if_neg hc1] at hdr
      rw [show (fun x : Addr => x.add (1 * idEl.m)) = (fun x => (⟨x.block, x.off + 3, none⟩ : Addr)) from funext fun x => by simp [Addr.add, idEl]] at hdr
      have H3b := Lib.hid (fun wq (he : Ext w2 wq) => H3.out _ (c2 - 1) l1 wq (hdr.ext he) (by omega))
      rw [hdl] at H3b
      clear hdr hdl H3 Hsl
      go_wp2_with fail
      refine (H2b.out).mono ?_
      rintro e w3 ⟨b3, rfl, hx3⟩
      have H3c := Lib.hid (H3b.out w3 hx3)
      cases b3 with
      | false =>
        go_wp2
        go_ret
        exact ⟨_, rfl, he1.trans (hx2.trans hx3)⟩
      | true =>
        go_wp2_with fail
        refine (H3c.out).mono ?_
        rintro e w4 ⟨b4, rfl, hx4⟩
        go_wp2
        go_ret
        exact ⟨_, rfl, he1.trans (hx2.trans (hx3.trans hx4))⟩
  · have e0 : (rk == 0) = false := by simpa using hk0
    have H3b := Lib.hid (fun wq (he : Ext w2 wq) => H3.out A2 c2 l wq (Hsl.out.ext he) hl2)
    go_wp2_with fail
    refine (H2b.out).mono ?_
    rintro e w3 ⟨b3, rfl, hx3⟩
    have H3c := Lib.hid (H3b.out w3 hx3)
    cases b3 with
    | false =>
      go_wp2
      go_ret
      exact ⟨_, rfl, he1.trans (hx2.trans hx3)⟩
    | true =>
      go_wp2_with fail
      refine (H3c.out).mono ?_
      rintro e w4 ⟨b4, rfl, hx4⟩
      go_wp2
      go_ret
      exact ⟨_, rfl, he1.trans (hx2.trans (hx3.trans hx4))⟩
end Go.Proofs.YtjhdamjbljafhaaGreatDoor
