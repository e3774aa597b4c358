/- The running head: some text. -/
import Derived.Test.YtjhdamjbljafhaaGreatDoorP25
import Derived.Test.YtjhdamjbljafhaaGreatDoorP26
namespace Go.Proofs.YtjhdamjbljafhaaGreatDoor
open Go.RowKit
theorem yld_catStr {P : Program} {ρ : Operand → Value} {o : Oper} {w : World} {T : Value → World → Prop} (t t' : TypeId) (x y : Operand) (ho : o.op = .binOp .add t x y t') (a b : ByteArray) (hx : ρ x = .string a) (hy : ρ y = .string b) (ht : P.underlying t = some .string) (hs : a.size + b.size ≤ 9223372036854775807) (h : T (.string (a ++ b)) w) : Yld P ρ o w T := by
  refine yld_binStr (c := .string (a ++ b)) .add t t' x y ho a b hx hy (fun w => ?_) h
  have u := ht
  go_simp
def RetStr (n : Nat) (w : World) (e : Ending) (w' : World) : Prop := ∃ s : ByteArray, e = .returned (.string s) ∧ s.size ≤ n ∧ Ext w w'
set_option maxRecDepth 100000 in
set_option maxHeartbeats 1600000 in
theorem rh1_any (r : RUnit) (w : World) (hl : r.label.size ≤ 30) (hT : Tabs w) : Calls Tryz.prog 69 #[.agg r.cells.toArray] w (RetStr 40 w) := by
  have hb := BoxU.new r w
  have hx0 : Ext w (w.alloc (.cells r.cells.toArray 27)) := (Ext.refl w).alloc _
  obtain ⟨ra, ri, rn, rk, rl, hdA, hn, hc, wA, wn, wc', kA, kn, kc⟩ := r
  dsimp only at hl
  simp only [RUnit.cells] at hb hx0 ⊢
  obtain ⟨wb, hwb⟩ : ∃ wb, w.alloc (.cells #[.int .i64 ra, .int .i64 ri, .int .i64 rn, .int .i64 rk, .string rl, .slice hdA hn hc, .slice wA wn wc', .slice kA kn kc] 27) = wb := ⟨_, rfl⟩
  rw [hwb] at hb hx0
  have Hkn := Lib.hid (fun wq (he : Ext wb wq) => kindName_any rk wq ((hT.ext hx0).ext he))
  have Hbt := Lib.hid (fun wq (he : Ext wb wq) => (hb.ext he).t)
  have hS9 := kindS_size rk
  obtain ⟨S, hS⟩ : ∃ S, kindS rk = S := ⟨_, rfl⟩
  rw [hS] at Hkn hS9
  have Hx0 := Lib.hid hx0
  have Hwb := Lib.hid hwb
  have h32 : (⟨#[32]⟩ : ByteArray).size = 1 := rfl
  clear hS hb hT hwb hx0
  go_enter Tryz.func69, Tryz.ntmps69
  go_wp2
  rw [Hwb.out]
  refine wp_drawn (by kernel_rfl) (fun i => match i with | 0 => TCells [.int .i64 rk] | 1 => Ty.is (.int .i64 rk) | 2 => Ty.is (.string S) | 3 => Ty.is (.string (S ++ ⟨#[32]⟩)) | 4 => TCells [.string rl] | 5 => Ty.is (.string rl) | 6 => Ty.is (.string (S ++ ⟨#[32]⟩ ++ rl)) | 7 => Ty.is (.string (S ++ ⟨#[32]⟩ ++ rl)) | _ => Ty.any) (by kernel_rfl) rfl ?_
  intro v
  refine ⟨?_, ?_, ?_, ?_, ?_, ?_, ?_, ?_, ?_⟩
  · intro wq hq hd
    refine ob_plain rfl ?_
    exact yld_field 27 1 (.tmp 1) rfl _ Tryz.underlying27 _ rfl 1 Tryz.sizeOf3 (by decide) [.int .i64 ra, .int .i64 ri, .int .i64 rn, .int .i64 rk, .string rl, .slice hdA hn hc, .slice wA wn wc', .slice kA kn kc] ((Hbt.out _ hq))
  · intro wq hq hd
    obtain ⟨h0, -⟩ := hd
    change (TCells [.int .i64 rk]).p (v 0) wq at h0
    refine ob_plain rfl ?_
    exact yld_loadOne 3 (.tmp 3) rfl Tryz.isAgg3 (c := .int .i64 rk) h0 rfl
  · intro wq hq hd
    obtain ⟨h0, -⟩ := hd
    change v 1 = _ at h0
    refine ob_plain rfl ?_
    refine yld_call 70 Tryz.call70 _ _ rfl rfl [_] ⟨h0, trivial⟩ ?_
    refine (Hkn.out _ hq).mono ?_
    rintro e w' ⟨rfl, rfl⟩
    exact ⟨_, rfl, Ext.refl _, rfl⟩
  · intro wq hq hd
    obtain ⟨h0, -⟩ := hd
    change v 2 = _ at h0
    refine ob_plain rfl ?_
    exact yld_catStr 9 9 (.tmp 5) _ rfl _ _ h0 rfl Tryz.underlying9 (by first | omega | (rw [ByteArray.size_append]; omega)) rfl
  · intro wq hq hd
    refine ob_plain rfl ?_
    exact yld_field 27 2 (.tmp 1) rfl _ Tryz.underlying27 _ rfl 1 Tryz.sizeOf9 (by decide) [.int .i64 ra, .int .i64 ri, .int .i64 rn, .int .i64 rk, .string rl, .slice hdA hn hc, .slice wA wn wc', .slice kA kn kc] ((Hbt.out _ hq))
  · intro wq hq hd
    obtain ⟨h0, -⟩ := hd
    change (TCells [.string rl]).p (v 4) wq at h0
    refine ob_plain rfl ?_
    exact yld_loadOne 9 (.tmp 7) rfl Tryz.isAgg9 (c := .string rl) h0 rfl
  · intro wq hq hd
    obtain ⟨h0, h1, -⟩ := hd
    change v 3 = _ at h0
    change v 5 = _ at h1
    refine ob_plain rfl ?_
    exact yld_catStr 9 9 (.tmp 6) (.tmp 8) rfl _ _ h0 h1 Tryz.underlying9 (by first | omega | (rw [ByteArray.size_append]; omega)) rfl
  · intro wq hq hd
    obtain ⟨h0, h1, h2, h3, h4, h5, h6, h7, h8, -⟩ := hd
    change v 6 = _ at h0
    refine ob_plain rfl ?_
    exact yld_assign (.tmp 9) rfl rfl h0
  · intro wq hq hT
    have k7 := hT 7 (by decide)
    change v 7 = _ at k7
    clear hT
    simp only [List.drop_succ_cons, List.drop_zero, putE, setsE, List.set_cons_succ, List.set_cons_zero, Nat.reduceAdd]
    rw [k7]
    go_wp2
    go_ret
    exact ⟨_, rfl, by rw [ByteArray.size_append, ByteArray.size_append]; omega, Hx0.out.trans hq⟩
theorem yld_callV {P : Program} {ρ : Operand → Value} {o : Oper} {w : World} {T : Value → World → Prop} (g : FuncId) (hf : ∀ args w, (callFunc g args).run P w = .ok (.enter g args) w) (f : Operand) (xs : List Operand) (ts : Array TypeId) (ho : o.op = .call { callee := .value f, args := xs.toArray, argTypes := ts }) (hfn : ρ f = .func (.func g) #[] #[])
    (vs : List Value) (hv : OpVals ρ xs vs) (h : Calls P g vs.toArray w fun e w'' => ∃ v, e = .returned v ∧ Ext w w'' ∧ T v w'') : Yld P ρ o w T := by
  have hr : (execOp ρ o).run P w = .ok (.enter g vs.toArray) w := by
    have := hv.map
    simp [execOp, ho, resolve, Deferred.ofValue, hfn, invoke, this, hf]
  unfold Yld
  rw [hr]
  exact h
def TStr (n : Nat) : Ty := ⟨fun v _ => ∃ s : ByteArray, v = .string s ∧ s.size ≤ n, fun _ _ _ _ h => h⟩
def TLenOf (x : Value) : Ty := ⟨fun v _ => ∃ A n c, x = .slice A n c ∧ v = .int .i64 (n : Int), fun _ _ _ _ h => h⟩
def TAnc : Ty := ⟨fun v w => ∃ xs : List GId, xs.length ≤ 1000 ∧ Own idEl 0 w v xs, fun _ _ _ he ⟨xs, h1, h2⟩ => ⟨xs, h1, h2.ext he⟩⟩
def TAncs : Ty := ⟨fun v w => ∃ A c, ∃ xs : List GId, v = .slice A xs.length c ∧ xs.length ≤ 1001 ∧ Sl idEl w A xs, fun _ _ _ he ⟨A, c, xs, h1, h2, h3⟩ => ⟨A, c, xs, h1, h2, h3.ext he⟩⟩
theorem anc_of {x : GId} {xs : List GId} {v : Value} {w : World} (h : (TGrown idEl 0 [x] xs).p v w) (hl : xs.length ≤ 1000) : TAncs.p v w := by
  rcases h with ⟨_, h⟩ | ⟨rfl, A, rfl, h⟩
  · obtain ⟨A, c, rfl, -, hs⟩ := h.form
    exact ⟨A, c, _, rfl, by simp; omega, hs⟩
  · exact ⟨A, 1, [x], rfl, by simp, h⟩
theorem yld_oneId {ρ : Operand → Value} {o : Oper} {w : World} (t : Operand) (ho : o.op = .buildSlice 90 1 #[(0, t)]) (x : GId) (hx : ρ t = .agg x.cells.toArray) : Yld Tryz.prog ρ o w (TFull idEl [x]).p := by
  have hr : (Instr.buildSlice 90 1 #[(0, .agg x.cells.toArray)]).run Tryz.prog w = .ok (.slice (some ⟨w.heap.size, 0, none⟩) 1 1) (w.alloc (.cells x.cells.toArray 23)) := by
    obtain ⟨a, i, n⟩ := x
    simp only [GId.cells]
    go_simp
  exact yld_run (w' := w.alloc (.cells x.cells.toArray 23)) (v := .slice (some ⟨w.heap.size, 0, none⟩) 1 1) (by simp [execOp, ho, hx, hr]) ((Ext.refl _).alloc _) ⟨_, rfl, Sl.new idEl (by simp [El.flat, idEl])⟩
def RetPl (w : World) (e : Ending) (w' : World) : Prop := ∃ (r' : RUnit) (b : Bool), e = .returned (.tuple #[.agg r'.cells.toArray, .bool b]) ∧ r'.label.size ≤ 30 ∧ Ext w w'
theorem RetFind.some' {u : GUnit} {id : GId} {w w' : World} {e : Ending} (hok : OkU u) (h : RetFind (findF id u) w e w') : ∃ (r' : RUnit) (b : Bool), e = .returned (.tuple #[.agg r'.cells.toArray, .bool b]) ∧ r'.label.size ≤ 30 ∧ Ext w w' := by
  unfold RetFind at h
  cases hf : findF id u with
  | none => rw [hf] at h; exact ⟨unit0, false, h.2, by decide, h.1⟩
  | some x =>
    rw [hf] at h
    obtain ⟨h1, r', h2, h3⟩ := h
    refine ⟨r', true, h2, ?_, h1⟩
    have hx : x ∈ wayF id u := by rw [findF] at hf; exact List.mem_of_getLast? hf
    have := (hok.pre (wayF_sub id u x hx)).all.head.1
    rw [h3.flds.2.2.1]
    exact this
set_option maxRecDepth 100000 in
set_option maxHeartbeats 3200000 in
theorem place_any (u : GUnit) (r : RUnit) (id : GId) (w : World) (hr : Reads w u r) (hok : OkU u) : Calls Tryz.prog 68 #[.agg r.cells.toArray, .agg id.cells.toArray] w (RetPl w) := by
  have Hfind := Lib.hid (fun id wq (he : Ext w wq) => (find_any u r id wq (Reads.ext he u r hr) hok).mono fun e w' h => RetFind.some' hok h)
  have Hanc0 := Lib.hid (fun wq (he : Ext w wq) => ancestors_any u r id wq (Reads.ext he u r hr) hok)
  have hui := UI.new r id w
  have hx0 : Ext w ((w.alloc (.cells r.cells.toArray 27)).alloc (.cells id.cells.toArray 23)) := ((Ext.refl w).alloc _).alloc _
  have hx3 : Ext ((w.alloc (.cells r.cells.toArray 27)).alloc (.cells id.cells.toArray 23)) (((w.alloc (.cells r.cells.toArray 27)).alloc (.cells id.cells.toArray 23)).alloc (.cells unit0.cells.toArray 27)) := (Ext.refl _).alloc _
  have hrs0 := heap_alloc_new ((w.alloc (.cells r.cells.toArray 27)).alloc (.cells id.cells.toArray 23)) (.cells unit0.cells.toArray 27)
  replace hui := hui.ext hx3
  replace hx0 := hx0.trans hx3
  clear hx3
  rw [show ((w.alloc (.cells r.cells.toArray 27)).alloc (.cells id.cells.toArray 23)).heap.size = w.heap.size + 2 by simp] at hrs0
  obtain ⟨ra, ri, rn, rk, rl, hdA, hn, hc, wA, wn, wc', kA, kn, kc⟩ := r
  obtain ⟨ia, ii, iN⟩ := id
  simp only [RUnit.cells, GId.cells, unit0] at *
  obtain ⟨wb, hwb⟩ : ∃ wb, ((w.alloc (.cells #[.int .i64 ra, .int .i64 ri, .int .i64 rn, .int .i64 rk, .string rl, .slice hdA hn hc, .slice wA wn wc', .slice kA kn kc] 27)).alloc (.cells #[.int .i64 ia, .int .i64 ii, .int .i64 iN] 23)).alloc (.cells #[.int .i64 0, .int .i64 0, .int .i64 0, .int .i64 0, .string ⟨#[]⟩, .slice none 0 0, .slice none 0 0, .slice none 0 0] 27) = wb := ⟨_, rfl⟩
  rw [hwb] at hui hx0 hrs0
  have Hws := Lib.hid (show w.heap.size + 3 = wb.heap.size by rw [← hwb]; simp)
  have Hwb := Lib.hid hwb
  have Hui := Lib.hid hui
  have Hx0 := Lib.hid hx0
  have Hres := Lib.hid hrs0
  clear hrs0 hwb hui hx0 hr hok
  have Hf2 := Lib.hid (Hfind.out ⟨ia, ii, iN⟩ wb Hx0.out)
  obtain ⟨c0, c1, c2, c3, c4, c5, c6, c7, i0, i1, i2⟩ := Hui.out.cells
  dsimp only at c0 c1 c2 c3 c4 c5 c6 c7 i0 i1 i2
  go_enter Tryz.func68, Tryz.ntmps68
  go_wp2_with fail
  rw [Hwb.out]
  go_wp2_with fail
  refine (Hf2.out).mono ?_
  rintro e w2 ⟨q, ok, rfl, hql, hx2⟩
  simp only [RUnit.cells]
  obtain ⟨w4, hw4⟩ : ∃ w4, w2.alloc (.cells #[.int .i64 q.a, .int .i64 q.i, .int .i64 q.n, .int .i64 q.kind, .string q.label, .slice q.hA q.hn q.hc, .slice q.wA q.wn q.wc, .slice q.kA q.kn q.kc] 27) = w4 := ⟨_, rfl⟩
  have hx4 : Ext w2 w4 := hw4 ▸ ((Ext.refl w2).alloc _)
  have hqb : BoxU w2.heap.size q w4 := hw4 ▸ BoxU.new q w2
  have Hqb := Lib.hid hqb
  have Hx4 := Lib.hid (hx2.trans hx4)
  have Hui4 := Lib.hid (Hui.out.ext (hx2.trans hx4))
  have Hres4 := Lib.hid (((hx2.trans hx4).block (block_lt Hres.out)).trans Hres.out)
  have hsz4 := (hx2.trans hx4).size
  have hwsz := Hws.out
  clear c0 c1 c2 c3 c4 c5 c6 c7 i0 i1 i2 hx2 hx4 hqb Hf2
  obtain ⟨c0, c1, c2, c3, c4, c5, c6, c7, i0, i1, i2⟩ := Hui4.out.cells
  dsimp only at c0 c1 c2 c3 c4 c5 c6 c7 i0 i1 i2
  obtain ⟨hq0, f0, f1, f2, f3, f4, f5, f6, f7⟩ := Hqb.out
  cases ok with
  | false =>
    have hres4 := Hres4.out
    go_wp2_with (refine wpList_put rfl 27 (.tmp 4) (.tmp 26) rfl (w.heap.size + 2) 0 (.agg q.cells.toArray) rfl rfl (RUnit.cells q) rfl Tryz.sizeOf27 (by simp [RUnit.cells, Value.oneCell']) 27 _ hres4 (by simp [unit0, RUnit.cells]) ?_; intro w5 hw5 hos5 htp5 hou5 hs5 hbk5)
    have hfin : w5.heap[w.heap.size + 2]? = some (.cells q.cells.toArray 27 (0, 0)) := by
      rw [hbk5]
      simp [RUnit.cells, unit0]
    refine bodyPost_ret (results_cell2 rfl _ _ (w.heap.size + 2) _ rfl hfin) rfl ?_
    exact ⟨q, false, rfl, hql, (Hx0.out.trans Hx4.out).put (by omega) hw5 hos5 htp5 hou5 hs5⟩
  | true =>
    have hqe := fun W => idEql W ia ii iN ra ri rn
    obtain ⟨D, hD⟩ : ∃ D, decide ((⟨ia, ii, iN⟩ : GId) = ⟨ra, ri, rn⟩) = D := ⟨_, rfl⟩
    simp only [hD] at hqe
    clear hD
    cases D with
    | true =>
      have hres4 := Hres4.out
      go_wp2_with (refine wpList_put rfl 27 (.tmp 4) (.tmp 26) rfl (w.heap.size + 2) 0 (.agg q.cells.toArray) rfl rfl (RUnit.cells q) rfl Tryz.sizeOf27 (by simp [RUnit.cells, Value.oneCell']) 27 _ hres4 (by simp [unit0, RUnit.cells]) ?_; intro w5 hw5 hos5 htp5 hou5 hs5 hbk5)
      have hfin : w5.heap[w.heap.size + 2]? = some (.cells q.cells.toArray 27 (0, 0)) := by
        rw [hbk5]
        simp [RUnit.cells, unit0]
      refine bodyPost_ret (results_cell2 rfl _ _ (w.heap.size + 2) _ rfl hfin) rfl ?_
      exact ⟨q, false, rfl, hql, (Hx0.out.trans Hx4.out).put (by omega) hw5 hos5 htp5 hou5 hs5⟩
    | false =>
    have Hanc := Lib.hid (fun wq (he : Ext w4 wq) => Hanc0.out wq ((Hx0.out.trans Hx4.out).trans he))
    go_wp2
    refine wp_drawn_tailV 8 (fun v j => bif Nat.beq j 6 then (TLenOf) (v 5) else (fun i => match i with | 0 => Ty.is (.agg #[.int .i64 ia, .int .i64 ii, .int .i64 iN]) | 1 => TFull idEl [⟨ia, ii, iN⟩] | 2 => Ty.is (.agg #[.int .i64 ra, .int .i64 ri, .int .i64 rn, .int .i64 rk, .string rl, .slice hdA hn hc, .slice wA wn wc', .slice kA kn kc]) | 3 => Ty.is (.agg #[.int .i64 ia, .int .i64 ii, .int .i64 iN]) | 4 => TAnc | 5 => TAncs | 7 => Ty.is (.int .i64 0) | _ => Ty.any) j) (looks_one _ _ _ _ (by kernel_rfl)) (by kernel_rfl) (by kernel_rfl) (by kernel_rfl) (by decide) rfl ?_
    intro v
    refine ⟨?_, ?_, ?_, ?_, ?_, ?_, ?_, ?_, ?_⟩
    · intro wq hq hd
      refine ob_plain rfl ?_
      exact yld_loadAgg 23 (.tmp 3) rfl Tryz.isAgg23 3 Tryz.sizeOf23 [.int .i64 ia, .int .i64 ii, .int .i64 iN] rfl ((Hui4.out.ext hq).t) rfl
    · intro wq hq hd
      obtain ⟨h0, -⟩ := hd
      change v 0 = _ at h0
      refine ob_plain rfl ?_
      exact yld_oneId (.tmp 27) rfl ⟨ia, ii, iN⟩ h0
    · intro wq hq hd
      refine ob_plain rfl ?_
      exact yld_loadAgg 27 (.tmp 2) rfl Tryz.isAgg27 8 Tryz.sizeOf27 [.int .i64 ra, .int .i64 ri, .int .i64 rn, .int .i64 rk, .string rl, .slice hdA hn hc, .slice wA wn wc', .slice kA kn kc] rfl ((Hui4.out.ext hq).box.t) rfl
    · intro wq hq hd
      refine ob_plain rfl ?_
      exact yld_loadAgg 23 (.tmp 3) rfl Tryz.isAgg23 3 Tryz.sizeOf23 [.int .i64 ia, .int .i64 ii, .int .i64 iN] rfl ((Hui4.out.ext hq).t) rfl
    · intro wq hq hd
      obtain ⟨h0, h1, -⟩ := hd
      change v 2 = _ at h0
      change v 3 = _ at h1
      refine ob_plain rfl ?_
      refine yld_call 103 Tryz.call103 _ _ rfl rfl [_, _] ⟨h0, h1, trivial⟩ ?_
      refine (Hanc.out _ hq).mono ?_
      rintro e w' ⟨v', xs, rfl, hl, hown, hx2⟩
      exact ⟨_, rfl, hx2, xs, hl, hown.mono (Nat.zero_le _)⟩
    · intro wq hq hd
      obtain ⟨h0, h1, h2, -⟩ := hd
      change (TFull idEl [⟨ia, ii, iN⟩]).p (v 1) wq at h0
      change (TAnc).p (v 4) wq at h1
      refine ob_plain rfl ?_
      obtain ⟨A0, h0, hs0⟩ := h0
      obtain ⟨xs, hl, hown⟩ := h1
      obtain ⟨A1, c1, h1, -, hs1⟩ := hown.form
      exact (yld_appFull idEl (.tmp 28) (.tmp 31) rfl c1 0 h0 h1 hs0 hs1 (by simp; omega) (Nat.zero_le _)).imp fun v' w' h => anc_of h hl
    · intro wq hq hd
      obtain ⟨h0, -⟩ := hd
      change (TAncs).p (v 5) wq at h0
      refine ob_plain rfl ?_
      obtain ⟨A0, c0, xs, h0, hl, hs0⟩ := h0
      exact yld_len (.tmp 32) 90 _ Tryz.underlying90 rfl _ _ _ h0 ⟨A0, xs.length, c0, h0, rfl⟩
    · intro wq hq hd
      refine ob_plain rfl ?_
      exact yld_move _ rfl rfl rfl
    · intro wq hq hT
      have k5 := hT 5 (by decide)
      change (TAncs).p (v 5) wq at k5
      have k6 := hT 6 (by decide)
      change (TLenOf (v 5)).p (v 6) wq at k6
      have k7 := hT 7 (by decide)
      change v 7 = _ at k7
      clear hT
      simp only [List.drop_succ_cons, List.drop_zero, putE, setsE, List.set_cons_succ, List.set_cons_zero, Nat.reduceAdd]
      generalize v 5 = x5 at k5 k6 ⊢
      generalize v 6 = x6 at k6 ⊢
      rw [k7]
      obtain ⟨Aq5, cq5, idl, rfl, hal, has⟩ := k5
      obtain ⟨Aq6, nq6, cq6, he6, rfl⟩ := k6
      rw [Value.slice.injEq] at he6
      obtain ⟨rfl, rfl, rfl⟩ := he6
      have Has := Lib.hid has
      have Hq := Lib.hid hq
      have hszq := hq.size
      clear has hq c0 c1 c2 c3 c4 c5 c6 c7 i0 i1 i2 f0 f1 f2 f3 f4 f5 f6 f7 hq0 hw4 hqe
      go_wp2
      go_loopw [34] (fun vk wr => ∃ k : Nat, k ≤ idl.length ∧ vk = .int .i64 (k : Nat) ∧ Ext wq wr) (fun vk _ => idl.length - (intOf vk).toNat)
      case atStart => exact ⟨0, Nat.zero_le _, rfl, Ext.refl _⟩
      case round =>
        obtain ⟨k, hk, rfl, hext⟩ := hrel
        have hx4r := Hq.out.trans hext
        obtain ⟨c0, c1, c2, c3, c4, c5, c6, c7, i0, i1, i2⟩ := (Hui4.out.ext hx4r).cells
        dsimp only at c0 c1 c2 c3 c4 c5 c6 c7 i0 i1 i2
        have hrr := (hx4r.block (block_lt Hres4.out)).trans Hres4.out
        have hszr := hx4r.size
        have hlt0 : w.heap.size < wr.heap.size := by omega
        have hlt1 : w.heap.size + 1 < wr.heap.size := by omega
        by_cases hlt : k < idl.length
        · obtain ⟨b, off, hAe, hbl, j0, j1, j2⟩ := idAt (Has.out.ext hext) hlt
          obtain ⟨ab, hab⟩ : ∃ ab, idl[k] = ab := ⟨_, rfl⟩
          rw [hab] at j0 j1 j2
          subst hAe
          have hxa : Ext wr (wr.alloc (.cells #[.int .i64 ab.a, .int .i64 ab.i, .int .i64 ab.n] 23)) := (Ext.refl wr).alloc _
          have Hf3 := Lib.hid (Hfind.out ab _ ((Hx0.out.trans Hx4.out).trans (hx4r.trans hxa)))
          have e1 : decide ((k : Int) < (idl.length : Int)) = true := decide_eq_true (by omega)
          have Hext := Lib.hid (hext.trans hxa)
          clear hab hxa hext hx4r
          go_wp2_with fail
          refine (Hf3.out).mono ?_
          rintro e w5 ⟨y, ok2, rfl, hyl, hx5⟩
          simp only [RUnit.cells]
          obtain ⟨w6, hw6⟩ : ∃ w6, w5.alloc (.cells #[.int .i64 y.a, .int .i64 y.i, .int .i64 y.n, .int .i64 y.kind, .string y.label, .slice y.hA y.hn y.hc, .slice y.wA y.wn y.wc, .slice y.kA y.kn y.kc] 27) = w6 := ⟨_, rfl⟩
          have hx6 : Ext w5 w6 := hw6 ▸ ((Ext.refl w5).alloc _)
          obtain ⟨hq0, g0, g1, g2, g3, g4, g5, g6, g7⟩ := (show BoxU w5.heap.size y w6 from hw6 ▸ BoxU.new y w5)
          have Hx6 := Lib.hid (Hext.out.trans (hx5.trans hx6))
          have hszf := (Hext.out.trans (hx5.trans hx6)).size
          clear c0 c1 c2 c3 c4 c5 c6 c7 i0 i1 i2 j0 j1 j2 hx5 hx6 Hf3
          by_cases hk2 : y.kind = 2
          · have e2 : (y.kind == 2) = true := by simpa using hk2
            have hr6 := ((Hq.out.trans Hx6.out).block (block_lt Hres4.out)).trans Hres4.out
            clear hk2
            go_wp2_with (refine wpList_put rfl 27 (.tmp 4) (.tmp 47) rfl (w.heap.size + 2) 0 (.agg y.cells.toArray) rfl rfl (RUnit.cells y) rfl Tryz.sizeOf27 (by simp [RUnit.cells, Value.oneCell']) 27 _ hr6 (by simp [unit0, RUnit.cells]) ?_; intro w7 hw7 hos7 htp7 hou7 hs7 hbk7)
            have hfin : w7.heap[w.heap.size + 2]? = some (.cells y.cells.toArray 27 (0, 0)) := by
              rw [hbk7]
              simp [RUnit.cells, unit0]
            refine bodyPost_ret (results_cell2 rfl _ _ (w.heap.size + 2) _ rfl hfin) rfl ?_
            exact ⟨y, true, rfl, hyl, ((Hx0.out.trans Hx4.out).trans (Hq.out.trans Hx6.out)).put (by omega) hw7 hos7 htp7 hou7 hs7⟩
          · have e2 : (y.kind == 2) = false := by simpa using hk2
            clear hk2
            go_wp2
            go_roundw
            case rel => exact ⟨k + 1, by omega, by go_num, Hx6.out⟩
            case measure => simp [intOf]; omega
        · have e1 : decide ((k : Int) < (idl.length : Int)) = false := decide_eq_false (by omega)
          obtain ⟨hq0, g0, g1, g2, g3, g4, g5, g6, g7⟩ := Hqb.out.ext hx4r
          clear c0 c1 c2 c3 c4 c5 c6 c7 i0 i1 i2
          go_wp2_with (refine wpList_put rfl 27 (.tmp 4) (.tmp 49) rfl (w.heap.size + 2) 0 (.agg q.cells.toArray) rfl rfl (RUnit.cells q) rfl Tryz.sizeOf27 (by simp [RUnit.cells, Value.oneCell']) 27 _ hrr (by simp [unit0, RUnit.cells]) ?_; intro w7 hw7 hos7 htp7 hou7 hs7 hbk7)
          have hfin : w7.heap[w.heap.size + 2]? = some (.cells q.cells.toArray 27 (0, 0)) := by
            rw [hbk7]
            simp [RUnit.cells, unit0]
          refine bodyPost_ret (results_cell2 rfl _ _ (w.heap.size + 2) _ rfl hfin) rfl ?_
          exact ⟨q, true, rfl, hql, ((Hx0.out.trans Hx4.out).trans hx4r).put (by omega) hw7 hos7 htp7 hou7 hs7⟩
set_option maxRecDepth 100000 in
set_option maxHeartbeats 3200000 in
theorem runHead_any (u : GUnit) (r : RUnit) (ida idb : GId) (w : World) (hr : Reads w u r) (hok : OkU u) (hT : Tabs w) : Calls Tryz.prog 36 #[.agg r.cells.toArray, .agg ida.cells.toArray, .agg idb.cells.toArray] w (RetStr 84 w) := by
  have Hpl := Lib.hid (fun id wq (he : Ext w wq) => place_any u r id wq (Reads.ext he u r hr) hok)
  have Hnm := Lib.hid (fun (q : RUnit) (hq : q.label.size ≤ 30) wq (he : Ext w wq) => rh1_any q wq hq (hT.ext he))
  have hui := UI.new r ida w
  have hx2 : Ext w ((w.alloc (.cells r.cells.toArray 27)).alloc (.cells ida.cells.toArray 23)) := ((Ext.refl w).alloc _).alloc _
  obtain ⟨w2, hw2⟩ : ∃ w2, (w.alloc (.cells r.cells.toArray 27)).alloc (.cells ida.cells.toArray 23) = w2 := ⟨_, rfl⟩
  have hs2 : w2.heap.size = w.heap.size + 2 := by rw [← hw2]; simp
  rw [hw2] at hui hx2
  have hx3 : Ext w2 (w2.alloc (.cells idb.cells.toArray 23)) := (Ext.refl _).alloc _
  have hnb := heap_alloc_new w2 (.cells idb.cells.toArray 23)
  rw [hs2] at hnb
  replace hui := hui.ext hx3
  replace hx2 := hx2.trans hx3
  obtain ⟨ra, ri, rn, rk, rl, hdA, hn, hc, wA, wn, wc', kA, kn, kc⟩ := r
  obtain ⟨ia, ii, iN⟩ := ida
  obtain ⟨ja, ji, jN⟩ := idb
  simp only [RUnit.cells, GId.cells] at *
  obtain ⟨wb, hwb⟩ : ∃ wb, w2.alloc (.cells #[.int .i64 ja, .int .i64 ji, .int .i64 jN] 23) = wb := ⟨_, rfl⟩
  rw [hwb] at hui hx2 hnb
  rw [← hw2] at hwb
  have Hx0 := Lib.hid hx2
  have Hui := Lib.hid hui
  have Hnb := Lib.hid hnb
  have Hpa := Lib.hid (Hpl.out ⟨ia, ii, iN⟩ wb Hx0.out)
  have Hwb := Lib.hid hwb
  obtain ⟨c0, c1, c2, c3, c4, c5, c6, c7, i0, i1, i2⟩ := Hui.out.cells
  dsimp only at c0 c1 c2 c3 c4 c5 c6 c7 i0 i1 i2
  clear hx2 hx3 hui hnb hw2 hs2 hwb hr hok hT
  go_enter Tryz.func36, Tryz.ntmps36
  go_wp2_with fail
  rw [Hwb.out]
  refine (Hpa.out).mono ?_
  rintro e w3 ⟨qa, ba, rfl, hla, hx3⟩
  simp only [RUnit.cells]
  obtain ⟨w4, hw4⟩ : ∃ w4, w3.alloc (.cells #[.int .i64 qa.a, .int .i64 qa.i, .int .i64 qa.n, .int .i64 qa.kind, .string qa.label, .slice qa.hA qa.hn qa.hc, .slice qa.wA qa.wn qa.wc, .slice qa.kA qa.kn qa.kc] 27) = w4 := ⟨_, rfl⟩
  have hx4 : Ext wb w4 := hx3.trans (hw4 ▸ ((Ext.refl w3).alloc _))
  have Hqa4 := Lib.hid (show BoxU w3.heap.size qa w4 from hw4 ▸ BoxU.new qa w3)
  have Hx4 := Lib.hid hx4
  have hlt := block_lt Hnb.out
  have Hpb := Lib.hid (Hpl.out ⟨ja, ji, jN⟩ w4 (Hx0.out.trans hx4))
  have nb4 := (hx4.block hlt).trans Hnb.out
  have i0 : w4.cell? ⟨w.heap.size + 2, 0, none⟩ = some (.int .i64 ja) := cellB nb4
  have i1 : w4.cell? ⟨w.heap.size + 2, 1, none⟩ = some (.int .i64 ji) := cellB nb4
  have i2 : w4.cell? ⟨w.heap.size + 2, 2, none⟩ = some (.int .i64 jN) := cellB nb4
  clear c0 c1 c2 c3 c4 c5 c6 c7 hx3 hx4 Hpa nb4
  obtain ⟨c0, c1, c2, c3, c4, c5, c6, c7, -, -, -⟩ := (Hui.out.ext Hx4.out).cells
  dsimp only at c0 c1 c2 c3 c4 c5 c6 c7
  go_wp2_with fail
  refine (Hpb.out).mono ?_
  rintro e w5 ⟨qb, bb, rfl, hlb, hx5⟩
  simp only [RUnit.cells]
  obtain ⟨w6, hw6⟩ : ∃ w6, w5.alloc (.cells #[.int .i64 qb.a, .int .i64 qb.i, .int .i64 qb.n, .int .i64 qb.kind, .string qb.label, .slice qb.hA qb.hn qb.hc, .slice qb.wA qb.wn qb.wc, .slice qb.kA qb.kn qb.kc] 27) = w6 := ⟨_, rfl⟩
  have hx6 : Ext w4 w6 := hx5.trans (hw6 ▸ ((Ext.refl w5).alloc _))
  have Hqb6 := Lib.hid (show BoxU w5.heap.size qb w6 from hw6 ▸ BoxU.new qb w5)
  have Hqa6 := Lib.hid (Hqa4.out.ext hx6)
  have Hx6 := Lib.hid ((Hx0.out.trans Hx4.out).trans hx6)
  clear c0 c1 c2 c3 c4 c5 c6 c7 i0 i1 i2 hx5 hx6 Hpb hw4
  obtain ⟨_, f0, f1, f2, f3, f4, f5, f6, f7⟩ := Hqa6.out
  obtain ⟨_, g0, g1, g2, g3, g4, g5, g6, g7⟩ := Hqb6.out
  cases ba with
  | false =>
    go_wp2
    go_ret
    exact ⟨_, rfl, by decide, Hx6.out⟩
  | true =>
  cases bb with
  | false =>
    go_wp2
    go_ret
    exact ⟨_, rfl, by decide, Hx6.out⟩
  | true =>
  have Hna := Lib.hid (fun wq (he : Ext w6 wq) => Hnm.out qa hla wq (Hx6.out.trans he))
  have Hnb2 := Lib.hid (fun wq (he : Ext w6 wq) => Hnm.out qb hlb wq (Hx6.out.trans he))
  have hqe := fun W => idEql W qa.a qa.i qa.n qb.a qb.i qb.n
  obtain ⟨D, hD⟩ : ∃ D, decide ((⟨qa.a, qa.i, qa.n⟩ : GId) = ⟨qb.a, qb.i, qb.n⟩) = D := ⟨_, rfl⟩
  simp only [hD] at hqe
  clear hD
  cases D with
  | true =>
    have Hna2 := Lib.hid (Hna.out w6 (Ext.refl _))
    try simp only [RUnit.cells] at Hna2
    go_wp2_with fail
    refine (Hna2.out).mono ?_
    rintro e w7 ⟨s, rfl, hs, hx7⟩
    clear f0 f1 f2 f3 f4 f5 f6 f7 g0 g1 g2 g3 g4 g5 g6 g7
    go_wp2
    go_ret
    exact ⟨_, rfl, by omega, Hx6.out.trans hx7⟩
  | false =>
    have Hqa := Lib.hid (fun wq (he : Ext w6 wq) => (Hqa6.out.ext he).t)
    have Hqb := Lib.hid (fun wq (he : Ext w6 wq) => (Hqb6.out.ext he).t)
    have Hnb := Hnb2
    have h4s : (⟨#[32, 116, 111, 32]⟩ : ByteArray).size = 4 := rfl
    go_wp2
    refine wp_drawn (by kernel_rfl) (fun i => match i with | 0 => Ty.is (.func (.func 69) #[] #[]) | 1 => Ty.is (.agg (RUnit.cells qa).toArray) | 2 => TStr 40 | 3 => TStr 44 | 4 => Ty.is (.func (.func 69) #[] #[]) | 5 => Ty.is (.agg (RUnit.cells qb).toArray) | 6 => TStr 40 | 7 => TStr 84 | 8 => TStr 84 | _ => Ty.any) (by kernel_rfl) rfl ?_
    intro v
    refine ⟨?_, ?_, ?_, ?_, ?_, ?_, ?_, ?_, ?_, ?_⟩
    · intro wq hq hd
      refine ob_plain rfl ?_
      exact yld_move (.tmp 11) rfl rfl rfl
    · intro wq hq hd
      refine ob_plain rfl ?_
      exact yld_loadAgg 27 (.tmp 7) rfl Tryz.isAgg27 8 Tryz.sizeOf27 (RUnit.cells qa) rfl (Hqa.out _ hq) rfl
    · intro wq hq hd
      obtain ⟨h0, h1, -⟩ := hd
      change v 0 = _ at h0
      change v 1 = _ at h1
      refine ob_plain rfl ?_
      refine yld_callV 69 Tryz.call69 _ _ _ rfl h0 [_] ⟨h1, trivial⟩ ?_
      refine (Hna.out _ hq).mono ?_
      rintro e w' ⟨s, rfl, hs, hx2⟩
      exact ⟨_, rfl, hx2, s, rfl, hs⟩
    · intro wq hq hd
      obtain ⟨h0, -⟩ := hd
      change (TStr 40).p (v 2) wq at h0
      refine ob_plain rfl ?_
      obtain ⟨s, h0, hs⟩ := h0
      exact yld_catStr 9 9 (.tmp 40) _ rfl s ⟨#[32, 116, 111, 32]⟩ h0 rfl Tryz.underlying9 (by rw [h4s]; omega) ⟨_, rfl, by rw [ByteArray.size_append, h4s]; omega⟩
    · intro wq hq hd
      refine ob_plain rfl ?_
      exact yld_move (.tmp 11) rfl rfl rfl
    · intro wq hq hd
      refine ob_plain rfl ?_
      exact yld_loadAgg 27 (.tmp 9) rfl Tryz.isAgg27 8 Tryz.sizeOf27 (RUnit.cells qb) rfl (Hqb.out _ hq) rfl
    · intro wq hq hd
      obtain ⟨h0, h1, h2, -⟩ := hd
      change v 4 = _ at h0
      change v 5 = _ at h1
      refine ob_plain rfl ?_
      refine yld_callV 69 Tryz.call69 _ _ _ rfl h0 [_] ⟨h1, trivial⟩ ?_
      refine (Hnb.out _ hq).mono ?_
      rintro e w' ⟨s, rfl, hs, hx2⟩
      exact ⟨_, rfl, hx2, s, rfl, hs⟩
    · intro wq hq hd
      obtain ⟨h0, h1, -⟩ := hd
      change (TStr 44).p (v 3) wq at h0
      change (TStr 40).p (v 6) wq at h1
      refine ob_plain rfl ?_
      obtain ⟨s, h0, hs⟩ := h0
      obtain ⟨s2, h1, hs2⟩ := h1
      exact yld_catStr 9 9 (.tmp 41) (.tmp 44) rfl s s2 h0 h1 Tryz.underlying9 (by omega) ⟨_, rfl, by rw [ByteArray.size_append]; omega⟩
    · intro wq hq hd
      obtain ⟨h0, h1, h2, h3, h4, h5, h6, h7, h8, h9, -⟩ := hd
      change (TStr 84).p (v 7) wq at h0
      refine ob_plain rfl ?_
      obtain ⟨s, h0, hs⟩ := h0
      exact yld_assign (.tmp 45) rfl h0 ⟨s, rfl, hs⟩
    · intro wq hq hT
      have k8 := hT 8 (by decide)
      change (TStr 84).p (v 8) wq at k8
      clear hT
      simp only [List.drop_succ_cons, List.drop_zero, putE, setsE, List.set_cons_succ, List.set_cons_zero, Nat.reduceAdd]
      generalize v 8 = x8 at k8 ⊢
      obtain ⟨s, rfl, hs⟩ := k8
      clear f0 f1 f2 f3 f4 f5 f6 f7 g0 g1 g2 g3 g4 g5 g6 g7
      go_wp2
      go_ret
      exact ⟨_, rfl, hs, Hx6.out.trans hq⟩
end Go.Proofs.YtjhdamjbljafhaaGreatDoor
