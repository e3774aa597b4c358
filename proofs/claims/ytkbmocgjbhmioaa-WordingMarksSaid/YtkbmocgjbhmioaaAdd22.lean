/- The reference's Less, Places and Add. -/
import Derived.Test.YtkbmocgjbhmioaaCmpct22
import Derived.Test.YtkbmocgjbhmioaaEngT
namespace Go.Proofs.Ytkbmocgjbhmioaa
open Go.RowKit

section
variable {P : Program} {α : Type} (D : El P α) {w : World} {A B : Option Addr} {xs ys : List α} {ρ : Operand → Value} {o : Oper}
theorem Own.made' {base n : Nat} (hn : n = w.heap.size) (hb : base ≤ w.heap.size) : Own D base (w.alloc (.cells #[] D.e)) (.slice (some ⟨n, 0, none⟩) 0 0) [] := by
  subst hn
  exact Own.made D hb
/-- an empty row of the call's own, without room -/
def TEmptyO (base : Nat) : Ty := ⟨fun v w => ∃ A, v = .slice A 0 0 ∧ Own D base w v ([] : List α), fun _ _ _ he ⟨A, h1, h2⟩ => ⟨A, h1, h2.ext he⟩⟩
theorem yld_emptyO {base : Nat} (ho : o.op = .buildSlice D.t 0 #[]) (hbase : base ≤ w.heap.size) (hr : ∀ w, (Instr.buildSlice D.t 0 #[]).run P w = .ok (.slice (some ⟨w.heap.size, 0, none⟩) 0 0) (w.alloc (.cells #[] D.e)) := by intro w; first | (go_simp; rfl) | (change (Instr.buildSlice _ _ _).run _ w = _; go_simp; rfl)) : Yld P ρ o w (TEmptyO D base).p := by
  refine yld_run (w' := w.alloc (.cells #[] D.e)) (v := .slice (some ⟨w.heap.size, 0, none⟩) 0 0) ?_ ((Ext.refl _).alloc _) ⟨_, rfl, Own.made' D rfl hbase⟩
  simp [execOp, ho, hr]
theorem yld_appOwnO (s x : Operand) (ho : o.op = .call { callee := .builtin .append, args := #[s, x], argTypes := #[D.t, D.t] }) (c base : Nat) (A : Option Addr) (hs : ρ s = .slice A 0 0) (hown : Own D base w (.slice A 0 0) ([] : List α)) (hx : ρ x = .slice B ys.length c)
    (h2 : Sl D w B ys) (hn : ys.length ≤ 68719476736) (hbase : base ≤ w.heap.size) : Yld P ρ o w (TOwn D base ys).p := by
  have hr := run_appFull D (xs := ([] : List α)) (A := A) o.type c Sl.nil h2 (by simpa using hn)
  unfold Yld execOp
  simp only [ho, resolve, invoke, builtin, Sem.run_bind, Sem.run_pure, Result.andThen_ok, List.map_toArray, List.map_cons, List.map_nil, hs, hx]
  rcases hr with ⟨h0, hr⟩ | ⟨h0, v', w', hr, hown', hext⟩
  · subst h0
    have hr2 : (Builtin.append_ #[D.t, D.t] o.type #[.slice A 0 0, .slice B ([] : List α).length c]).run P w = .ok (.slice A 0 0) w := hr
    simp only [hr2, Result.andThen_ok]
    exact ⟨Ext.refl _, hown⟩
  · have hr2 : (Builtin.append_ #[D.t, D.t] o.type #[.slice A 0 0, .slice B ys.length c]).run P w = .ok v' w' := hr
    simp only [hr2, Result.andThen_ok]
    refine ⟨hext, ?_⟩
    show Own D base w' v' ys
    simpa using hown'.mono hbase
theorem yldW_app {w0 : World} {v : Value} (s x : Operand) (ho : o.op = .call { callee := .builtin .append, args := #[s, x], argTypes := #[D.t, D.t] }) (c base : Nat) (hs : ρ s = v) (hown : Own D base w v xs) (hx : ρ x = .slice B ys.length c)
    (h2 : Sl D w B ys) (hn : xs.length + ys.length ≤ 68719476736) (hw : Ext w0 w) (hb : w0.heap.size ≤ base) (hbase : base ≤ w.heap.size) : YldW P ρ o w0 w (TOwn D base (xs ++ ys)).p := by
  obtain ⟨v', w', hr, h3, h4, -⟩ := run_app D o.type hown c h2 hn hbase
  unfold YldW execOp
  simp only [ho, resolve, invoke, builtin, Sem.run_bind, Sem.run_pure, Result.andThen_ok, List.map_toArray, List.map_cons, List.map_nil, hs, hx, hr]
  exact ⟨hw.trans' h4 hb, h3⟩
theorem yld_slToO (x hi : Operand) (ho : o.op = .slice D.t x none (some hi) none) (c : Nat) (hx : ρ x = .slice A xs.length c) (h : Nat) (hhi : ρ hi = .int .i64 h)
    (hsl : Sl D w A xs) (h2 : h ≤ xs.length) (h3 : xs.length ≤ c) : Yld P ρ o w (TSl D (xs.take h)).p := by
  have hr := run_slice_any D (w := w) (A := A) (c := c) xs.length 0 h c none (some (.int .i64 h)) none rfl rfl rfl (Nat.zero_le _) (by omega) (Nat.le_refl _) h3
  unfold Yld execOp
  simp only [ho, hx, hhi, Option.map_some, Option.map_none, Sem.run_bind, Sem.run_pure, hr, Result.andThen_ok]
  refine ⟨Ext.refl _, ?_⟩
  have hs := Sl.cut D hsl 0 h (Nat.zero_le _) h2 h3
  simp only [List.drop_zero, Nat.sub_zero] at hs ⊢
  have e : h = (xs.take h).length := by simp; omega
  have e2 : (Value.slice (if c = 0 then A else A.map (·.add (0 * D.m))) h c) = .slice (if c = 0 then A else A.map (·.add (0 * D.m))) (xs.take h).length c := by rw [← e]
  rw [e2]
  exact ⟨_, _, rfl, by rw [← e]; omega, hs⟩
/-- a slice that reads so in one given world -/
def TSlAt (w0 : World) (xs : List α) : Ty := ⟨fun v _ => ∃ A c, v = .slice A xs.length c ∧ xs.length ≤ c ∧ Sl D w0 A xs, fun _ _ _ _ h => h⟩
theorem yld_slFromAt {w0 : World} (x lo : Operand) (ho : o.op = .slice D.t x (some lo) none none) (c : Nat) (hx : ρ x = .slice A xs.length c) (l : Nat) (hlo : ρ lo = .int .i64 l)
    (hsl : Sl D w0 A xs) (h2 : l ≤ xs.length) (h3 : xs.length ≤ c) : Yld P ρ o w (TSlAt D w0 (xs.drop l)).p := by
  have hr := run_slice_any D (w := w) (A := A) (c := c) xs.length l xs.length c (some (.int .i64 l)) none none rfl rfl rfl h2 h3 (Nat.le_refl _) h3
  unfold Yld execOp
  simp only [ho, hx, hlo, Option.map_some, Option.map_none, Sem.run_bind, Sem.run_pure, hr, Result.andThen_ok]
  refine ⟨Ext.refl _, ?_⟩
  have hs := Sl.drop hsl l c h2 h3
  show ∃ A' c', _ = Value.slice A' (xs.drop l).length c' ∧ (xs.drop l).length ≤ c' ∧ Sl D w0 A' (xs.drop l)
  exact ⟨_, c - l, by rw [List.length_drop], by rw [List.length_drop]; omega, hs⟩
theorem obt_early {i s : Nat} {early : List Nat} {X Y Z : Prop} (his : i ≠ s) (he : early.contains i = true) (h : Y) : if i = s then X else (Y ∧ (early.contains i = false → Z)) := by
  rw [if_neg his]; exact ⟨h, fun e => by rw [he] at e; cases e⟩
theorem obt_turn {i s : Nat} {X Y : Prop} (his : i = s) (h : X) : if i = s then X else Y := by rw [if_pos his]; exact h
theorem obt_free {i s : Nat} {X Y Z : Prop} (his : i ≠ s) (h : Y) (h2 : Z) : if i = s then X else (Y ∧ Z) := by rw [if_neg his]; exact ⟨h, h2⟩
end

theorem yld_oneRef {ρ : Operand → Value} {o : Oper} {w : World} {x : Int × Int} (t : Operand) (ho : o.op = .buildSlice 52 1 #[(0, t)]) (hx : ρ t = .agg (refEl.E x).toArray) : Yld Try.prog ρ o w (TSl refEl [x]).p := by
  have hr : (execOp ρ o).run Try.prog w = .ok (.value (.slice (some ⟨w.heap.size, 0, none⟩) 1 1)) (w.alloc (.cells (refEl.E x).toArray 83)) := by
    have hE : (refEl.E x).toArray = #[.int .i64 x.1, .int .i64 x.2] := rfl
    rw [hE] at hx ⊢
    simp only [execOp, ho, List.map_toArray, List.map_cons, List.map_nil, hx]
    go_simp
  refine yld_run hr ((Ext.refl _).alloc _) ⟨_, _, rfl, Nat.le_refl _, ?_⟩
  exact Sl.new refEl (w := w) (xs := [x]) (by simp [El.flat])

/-! ### Less -/
set_option maxRecDepth 100000 in
set_option maxHeartbeats 1600000 in
theorem less_any (x y : Int × Int) (w : World) : Calls Try.prog 69 #[.agg (refEl.E x).toArray, .agg (refEl.E y).toArray] w fun e w' => e = .returned (.bool (lessR x y)) ∧ Ext w w' := by
  show Calls Try.prog 69 #[.agg #[.int .i64 x.1, .int .i64 x.2], .agg #[.int .i64 y.1, .int .i64 y.2]] w _
  obtain ⟨x1, x2⟩ := x
  obtain ⟨y1, y2⟩ := y
  have hx0 : Ext w ((w.alloc (.cells #[.int .i64 x1, .int .i64 x2] 83)).alloc (.cells #[.int .i64 y1, .int .i64 y2] 83)) := ((Ext.refl w).alloc _).alloc _
  by_cases h : x1 = y1
  · have hne : (x1 != y1) = false := by simp [h]
    have hl : lessR (x1, x2) (y1, y2) = decide (x2 < y2) := by simp [lessR, h]
    rw [hl]
    clear h hl
    go_enter Try.func69, Try.ntmps69
    go_wp2
    go_ret
    exact ⟨rfl, hx0⟩
  · have hne : (x1 != y1) = true := by simpa using h
    have hl : lessR (x1, x2) (y1, y2) = decide (x1 < y1) := by simp [lessR, h]
    rw [hl]
    clear h hl
    go_enter Try.func69, Try.ntmps69
    go_wp2
    go_ret
    exact ⟨rfl, hx0⟩

/-! ### Places -/
set_option maxRecDepth 100000 in
set_option maxHeartbeats 1600000 in
theorem places2_any (A B : Option Addr) (c d : Nat) (xs ys : List (Int × Int)) (w : World) (hx : Sl refEl w A xs) (hy : Sl refEl w B ys) (hn : xs.length ≤ 1048576) :
    Calls Try.prog 31 #[.slice A xs.length c, .slice B ys.length d] w fun e w' => e = .returned (.bool (decide (xs = ys))) ∧ Ext w w' := by
  by_cases hl : xs.length = ys.length
  · have hle : ((xs.length : Int) != (ys.length : Int)) = false := by simp [hl]
    have Hl := Lib.hid hl
    have Hx := Lib.hid hx
    have Hy := Lib.hid hy
    clear hl hx hy
    go_enter Try.func31, Try.ntmps31
    go_wp2
    go_loopw [5] (fun ii wr => ∃ k : Nat, k ≤ xs.length ∧ ii = .int .i64 k ∧ Hid (xs.take k = ys.take k) ∧ Ext w wr) (fun ii _ => xs.length - (intOf ii).toNat)
    case atStart => exact ⟨0, Nat.zero_le _, rfl, Lib.hid (by simp), Ext.refl _⟩
    case round =>
      obtain ⟨k, hk, rfl, Heq, hext⟩ := hrel
      by_cases hlt : k < xs.length
      · have d2 : decide ((k : Int) < (xs.length : Int)) = true := decide_eq_true (by omega)
        have hlt' : k < ys.length := by rw [← Hl.out]; exact hlt
        obtain ⟨X, hX⟩ : ∃ X, xs[k] = X := ⟨_, rfl⟩
        obtain ⟨Y, hY⟩ : ∃ Y, ys[k] = Y := ⟨_, rfl⟩
        have HX := Lib.hid (show xs[k]? = some X by rw [← hX]; exact List.getElem?_eq_getElem hlt)
        have HY := Lib.hid (show ys[k]? = some Y by rw [← hY]; exact List.getElem?_eq_getElem hlt')
        have Htx := Lib.hid (show xs.take (k + 1) = xs.take k ++ [X] by rw [List.take_succ_eq_append_getElem hlt, hX])
        have Hty := Lib.hid (show ys.take (k + 1) = ys.take k ++ [Y] by rw [List.take_succ_eq_append_getElem hlt', hY])
        have Hsx := Lib.hid (show ∀ w', Ext wr w' → Sl refEl w' A xs from fun w' he => Hx.out.ext (hext.trans he))
        have Hsy := Lib.hid (show ∀ w', Ext wr w' → Sl refEl w' B ys from fun w' he => Hy.out.ext (hext.trans he))
        clear hX hY hlt'
        obtain ⟨bb, hbb⟩ : ∃ bb, decide (X = Y) = bb := ⟨_, rfl⟩
        have Hbb := Lib.hid hbb
        clear hbb
        cases bb
        case false =>
          have hne : ¬ xs = ys := by
            rintro rfl
            have h1 := HX.out
            rw [HY.out] at h1
            exact of_decide_eq_false Hbb.out (Option.some.inj h1).symm
          go_wp2_with fail
          refine wp_drawn (by kernel_rfl) (fun i => match i with | 0 => Ty.is (.slice A xs.length c) | 1 => Ty.is (.int .i64 (k : Nat)) | 2 => TCells (refEl.E X) | 3 => Ty.is (.agg (refEl.E X).toArray) | 4 => Ty.is (.slice B ys.length d) | 5 => Ty.is (.int .i64 (k : Nat)) | 6 => TCells (refEl.E Y) | 7 => Ty.is (.agg (refEl.E Y).toArray) | 8 => Ty.is (.bool true) | _ => Ty.any) (by kernel_rfl) rfl ?_
          intro v
          refine ⟨?_, ?_, ?_, ?_, ?_, ?_, ?_, ?_, ?_, ?_⟩
          · intro wq hq hd
            refine ob_plain rfl ?_
            exact yld_move (.tmp 0) rfl rfl rfl
          · intro wq hq hd
            refine ob_plain rfl ?_
            exact yld_move (.tmp 5) rfl rfl rfl
          · intro wq hq hd
            obtain ⟨h0, h1, -⟩ := hd
            change v 0 = _ at h0
            change v 1 = _ at h1
            refine ob_plain rfl ?_
            exact yld_indexAt refEl (.tmp 17) (.tmp 18) rfl _ xs c h0 k h1 (Hsx.out wq hq) X HX.out
          · intro wq hq hd
            obtain ⟨h0, -⟩ := hd
            change (TCells (refEl.E X)).p (v 2) wq at h0
            refine ob_plain rfl ?_
            exact yld_loadAgg 83 (.tmp 19) rfl Try.isAgg83 2 Try.sizeOf83 (refEl.E X) rfl h0 rfl
          · intro wq hq hd
            refine ob_plain rfl ?_
            exact yld_move (.tmp 1) rfl rfl rfl
          · intro wq hq hd
            refine ob_plain rfl ?_
            exact yld_move (.tmp 5) rfl rfl rfl
          · intro wq hq hd
            obtain ⟨h0, h1, -⟩ := hd
            change v 4 = _ at h0
            change v 5 = _ at h1
            refine ob_plain rfl ?_
            exact yld_indexAt refEl (.tmp 21) (.tmp 22) rfl _ ys d h0 k h1 (Hsy.out wq hq) Y HY.out
          · intro wq hq hd
            obtain ⟨h0, -⟩ := hd
            change (TCells (refEl.E Y)).p (v 6) wq at h0
            refine ob_plain rfl ?_
            exact yld_loadAgg 83 (.tmp 23) rfl Try.isAgg83 2 Try.sizeOf83 (refEl.E Y) rfl h0 rfl
          · intro wq hq hd
            obtain ⟨h0, h1, -⟩ := hd
            change v 3 = _ at h0
            change v 7 = _ at h1
            refine ob_plain rfl ?_
            exact yld_binAgg .neq 83 83 (.tmp 20) (.tmp 24) rfl _ _ h0 h1 (by kernel_rfl) (fun w => by rw [refNeq, Hbb.out]; rfl) rfl
          · intro wq hq hT
            have k8 := hT 8 (by decide)
            change v 8 = _ at k8
            clear hT
            simp only [List.drop_succ_cons, List.drop_zero, putE, setsE, List.set_cons_succ, List.set_cons_zero, Nat.reduceAdd]
            rw [k8]
            go_wp2
            go_ret
            exact ⟨ret_bool (decide_eq_false hne).symm, hext.trans hq⟩
        case true =>
          have hXY : X = Y := of_decide_eq_true Hbb.out
          have Heq2 := Lib.hid (show xs.take (k + 1) = ys.take (k + 1) by rw [Htx.out, Hty.out, Heq.out, hXY])
          clear hXY
          go_wp2_with fail
          refine wp_drawn (by kernel_rfl) (fun i => match i with | 0 => Ty.is (.slice A xs.length c) | 1 => Ty.is (.int .i64 (k : Nat)) | 2 => TCells (refEl.E X) | 3 => Ty.is (.agg (refEl.E X).toArray) | 4 => Ty.is (.slice B ys.length d) | 5 => Ty.is (.int .i64 (k : Nat)) | 6 => TCells (refEl.E Y) | 7 => Ty.is (.agg (refEl.E Y).toArray) | 8 => Ty.is (.bool false) | _ => Ty.any) (by kernel_rfl) rfl ?_
          intro v
          refine ⟨?_, ?_, ?_, ?_, ?_, ?_, ?_, ?_, ?_, ?_⟩
          · intro wq hq hd
            refine ob_plain rfl ?_
            exact yld_move (.tmp 0) rfl rfl rfl
          · intro wq hq hd
            refine ob_plain rfl ?_
            exact yld_move (.tmp 5) rfl rfl rfl
          · intro wq hq hd
            obtain ⟨h0, h1, -⟩ := hd
            change v 0 = _ at h0
            change v 1 = _ at h1
            refine ob_plain rfl ?_
            exact yld_indexAt refEl (.tmp 17) (.tmp 18) rfl _ xs c h0 k h1 (Hsx.out wq hq) X HX.out
          · intro wq hq hd
            obtain ⟨h0, -⟩ := hd
            change (TCells (refEl.E X)).p (v 2) wq at h0
            refine ob_plain rfl ?_
            exact yld_loadAgg 83 (.tmp 19) rfl Try.isAgg83 2 Try.sizeOf83 (refEl.E X) rfl h0 rfl
          · intro wq hq hd
            refine ob_plain rfl ?_
            exact yld_move (.tmp 1) rfl rfl rfl
          · intro wq hq hd
            refine ob_plain rfl ?_
            exact yld_move (.tmp 5) rfl rfl rfl
          · intro wq hq hd
            obtain ⟨h0, h1, -⟩ := hd
            change v 4 = _ at h0
            change v 5 = _ at h1
            refine ob_plain rfl ?_
            exact yld_indexAt refEl (.tmp 21) (.tmp 22) rfl _ ys d h0 k h1 (Hsy.out wq hq) Y HY.out
          · intro wq hq hd
            obtain ⟨h0, -⟩ := hd
            change (TCells (refEl.E Y)).p (v 6) wq at h0
            refine ob_plain rfl ?_
            exact yld_loadAgg 83 (.tmp 23) rfl Try.isAgg83 2 Try.sizeOf83 (refEl.E Y) rfl h0 rfl
          · intro wq hq hd
            obtain ⟨h0, h1, -⟩ := hd
            change v 3 = _ at h0
            change v 7 = _ at h1
            refine ob_plain rfl ?_
            exact yld_binAgg .neq 83 83 (.tmp 20) (.tmp 24) rfl _ _ h0 h1 (by kernel_rfl) (fun w => by rw [refNeq, Hbb.out]; rfl) rfl
          · intro wq hq hT
            have k8 := hT 8 (by decide)
            change v 8 = _ at k8
            clear hT
            simp only [List.drop_succ_cons, List.drop_zero, putE, setsE, List.set_cons_succ, List.set_cons_zero, Nat.reduceAdd]
            rw [k8]
            go_wp2
            go_roundw
            case rel => exact ⟨k + 1, by omega, by go_num, Heq2, hext.trans hq⟩
            case measure => simp [intOf]; omega
      · obtain rfl : k = xs.length := by omega
        have d2 : decide ((xs.length : Int) < (xs.length : Int)) = false := decide_eq_false (by omega)
        have heq : xs = ys := by
          have := Heq.out
          rwa [List.take_length, Hl.out, List.take_length] at this
        have Heq2 := Lib.hid heq
        clear heq
        go_wp2
        go_ret
        exact ⟨ret_bool (decide_eq_true Heq2.out).symm, hext⟩
  · have hle : ((xs.length : Int) != (ys.length : Int)) = true := by simp; omega
    go_enter Try.func31, Try.ntmps31
    go_wp2
    go_ret
    refine ⟨ret_bool (decide_eq_false ?_).symm, Ext.refl _⟩
    rintro rfl
    exact hl rfl

/-! ### Add -/
def addR (p : Int × Int) : List (Int × Int) → List (Int × Int)
  | [] => [p]
  | x :: r => if lessR x p then x :: addR p r else if x = p then x :: r else p :: x :: r
theorem addR_at (p : Int × Int) : ∀ (a : List (Int × Int)) (k : Nat), k ≤ a.length → (∀ x ∈ a.take k, lessR x p = true) → (∀ x, a[k]? = some x → lessR x p = false) → addR p a = if a[k]? = some p then a else a.take k ++ [p] ++ a.drop k
  | [], k, hk, _, _ => by obtain rfl : k = 0 := by simpa using hk
                          simp [addR]
  | y :: r, 0, _, _, h2 => by
    have := h2 y rfl
    simp only [addR, this, Bool.false_eq_true, if_false]
    by_cases e : y = p
    · simp [e]
    · simp [e]
  | y :: r, k + 1, hk, h1, h2 => by
    have hy := h1 y (by simp)
    have ih := addR_at p r k (by simpa using hk) (fun x hx => h1 x (by simp [hx])) (fun x hx => h2 x (by simpa using hx))
    simp only [addR, hy, if_true, ih, List.getElem?_cons_succ, List.take_succ_cons, List.drop_succ_cons, List.cons_append]
    split <;> rfl

def RetR (w : World) (xs : List (Int × Int)) (e : Ending) (w' : World) : Prop := ∃ A c, e = .returned (.slice A xs.length c) ∧ xs.length ≤ c ∧ Sl refEl w' A xs ∧ Ext w w'

set_option maxRecDepth 100000 in
set_option maxHeartbeats 3200000 in
theorem add_any (A : Option Addr) (c : Nat) (a : List (Int × Int)) (p : Int × Int) (w : World) (hs : Sl refEl w A a) (hc : a.length ≤ c) (hn : a.length ≤ 1048576) :
    Calls Try.prog 60 #[.slice A a.length c, .agg (refEl.E p).toArray] w (RetR w (addR p a)) := by
  obtain ⟨R, hR⟩ : ∃ R, addR p a = R := ⟨_, rfl⟩
  rw [hR]
  have HR := Lib.hid hR
  have Hs := Lib.hid hs
  clear hR hs
  show Calls Try.prog 60 #[.slice A a.length c, .agg #[.int .i64 p.1, .int .i64 p.2]] w _
  obtain ⟨wz, hwz⟩ : ∃ wz, w.alloc (.cells #[.int .i64 p.1, .int .i64 p.2] 83) = wz := ⟨_, rfl⟩
  have hxz : Ext w wz := by rw [← hwz]; exact (Ext.refl w).alloc _
  have hbz : wz.heap[w.heap.size]? = some (.cells #[.int .i64 p.1, .int .i64 p.2] 83 (0, 0)) := by rw [← hwz]; exact heap_alloc_new w _
  have hlz : w.heap.size < wz.heap.size := by rw [← hwz]; simp
  have Hbt := Lib.hid (show ∀ w', Ext wz w' → (TCells (refEl.E p)).p (.pointer (some ⟨w.heap.size, 0, none⟩)) w' from fun w' he => by
    refine ⟨w.heap.size, 0, rfl, Nat.lt_of_lt_of_le hlz he.size, fun j u hu => ?_⟩
    rw [he.cell (p := ⟨w.heap.size, 0 + j, none⟩) hlz]
    simp only [World.cell?, hbz, Nat.zero_add]
    simpa [refEl] using hu)
  have Hwz := Lib.hid hwz
  clear hwz hbz hlz
  go_enter Try.func60, Try.ntmps60
  go_wp2
  rw [Hwz.out]
  go_loopw [5] (fun ii wr => ∃ k : Nat, k ≤ a.length ∧ ii = .int .i64 k ∧ Hid (∀ x ∈ a.take k, lessR x p = true) ∧ Ext wz wr) (fun ii _ => a.length - (intOf ii).toNat)
  case atStart => exact ⟨0, Nat.zero_le _, rfl, Lib.hid (by simp), Ext.refl _⟩
  case round =>
    obtain ⟨k, hk, rfl, Hbel, hext⟩ := hrel
    obtain ⟨wo, rfl⟩ : ∃ wo, wo = wr := ⟨_, rfl⟩
    have hwv0 : Ext w wo := hxz.trans hext
    have Hsl := Lib.hid (show ∀ w', Ext wo w' → Sl refEl w' A a from fun w' he => Hs.out.ext (hwv0.trans he))
    have Hbx := Lib.hid (show ∀ w', Ext wo w' → (TCells (refEl.E p)).p (.pointer (some ⟨w.heap.size, 0, none⟩)) w' from fun w' he => Hbt.out w' (hext.trans he))
    by_cases hlt : k < a.length
    · obtain ⟨X, hX⟩ : ∃ X, a[k] = X := ⟨_, rfl⟩
      have HX := Lib.hid (show a[k]? = some X by rw [← hX]; exact List.getElem?_eq_getElem hlt)
      have Htx := Lib.hid (show a.take (k + 1) = a.take k ++ [X] by rw [List.take_succ_eq_append_getElem hlt, hX])
      clear hX
      obtain ⟨bb, hbb⟩ : ∃ bb, lessR X p = bb := ⟨_, rfl⟩
      have HB := Lib.hid hbb
      clear hbb
      cases bb
      case true =>
        have Hb2 := Lib.hid (show ∀ x ∈ a.take (k + 1), lessR x p = true by
          rw [Htx.out]
          intro x hx
          rcases List.mem_append.1 hx with hx | hx
          · exact Hbel.out x hx
          · simp at hx; subst hx; exact HB.out)
        go_wp2_with fail
        refine wp_drawn (by kernel_rfl) (fun i => match i with | 0 => Ty.is (.int .i64 (k : Nat)) | 1 => Ty.is (.slice A a.length c) | 2 => Ty.is (.int .i64 a.length) | 3 => Ty.is (.bool true) | 4 => Ty.is (.bool true) | 5 => TGd (true = true) (Ty.is (.slice A a.length c)) | 6 => TGd (true = true) (Ty.is (.int .i64 (k : Nat))) | 7 => TGd (true = true) (TCells (refEl.E X)) | 8 => TGd (true = true) (Ty.is (.agg (refEl.E X).toArray)) | 9 => TGd (true = true) (Ty.is (.agg (refEl.E p).toArray)) | 10 => TGd (true = true) (Ty.is (.bool true)) | 11 => Ty.is (.bool true) | _ => Ty.any) (by kernel_rfl) rfl ?_
        intro v
        refine ⟨?_, ?_, ?_, ?_, ?_, ?_, ?_, ?_, ?_, ?_, ?_, ?_, ?_⟩
        · intro wq hq hd
          refine ob_plain rfl ?_
          exact yld_move (.tmp 5) rfl rfl rfl
        · intro wq hq hd
          refine ob_plain rfl ?_
          exact yld_move (.tmp 0) rfl rfl rfl
        · intro wq hq hd
          obtain ⟨h0, -⟩ := hd
          change v 1 = _ at h0
          refine ob_plain rfl ?_
          exact yld_len (.tmp 7) 52 _ Try.underlying52 rfl _ _ _ h0 rfl
        · intro wq hq hd
          obtain ⟨h0, h1, -⟩ := hd
          change v 0 = _ at h0
          change v 2 = _ at h1
          refine ob_plain rfl ?_
          exact yld_binInt .lss 3 3 (.tmp 6) (.tmp 8) rfl _ _ h0 h1 (fun w => by rw [run_lss_i64, decide_eq_true (by omega)]) rfl
        · intro wq hq hd
          obtain ⟨h0, -⟩ := hd
          change v 3 = _ at h0
          refine ob_plain rfl ?_
          exact yld_move (.tmp 9) rfl h0 rfl
        · intro wq hq hd
          obtain ⟨h0, -⟩ := hd
          change v 4 = _ at h0
          refine ob_guard 4 true (true) rfl (yields_of rfl h0) (fun hg => ?_) (fun hg => ?_)
          · refine Yld.gd (p := true = true) (T := Ty.is (.slice A a.length c)) ?_
            exact yld_move (.tmp 0) rfl rfl rfl
          · intro hn; rw [hn] at hg; cases hg
        · intro wq hq hd
          obtain ⟨h0, -⟩ := hd
          change v 4 = _ at h0
          refine ob_guard 4 true (true) rfl (yields_of rfl h0) (fun hg => ?_) (fun hg => ?_)
          · refine Yld.gd (p := true = true) (T := Ty.is (.int .i64 (k : Nat))) ?_
            exact yld_move (.tmp 5) rfl rfl rfl
          · intro hn; rw [hn] at hg; cases hg
        · intro wq hq hd
          obtain ⟨h0, h1, h2, -⟩ := hd
          change (true = true) → v 5 = _ at h0
          change (true = true) → v 6 = _ at h1
          change v 4 = _ at h2
          refine ob_guard 4 true (true) rfl (yields_of rfl h2) (fun hg => ?_) (fun hg => ?_)
          · refine Yld.gd (p := true = true) (T := TCells (refEl.E X)) ?_
            replace h0 := h0 hg
            replace h1 := h1 hg
            exact yld_indexAt refEl (.tmp 11) (.tmp 12) rfl _ a c h0 k h1 (Hsl.out wq hq) X HX.out
          · intro hn; rw [hn] at hg; cases hg
        · intro wq hq hd
          obtain ⟨h0, h1, -⟩ := hd
          change (true = true) → (TCells (refEl.E X)).p (v 7) wq at h0
          change v 4 = _ at h1
          refine ob_guard 4 true (true) rfl (yields_of rfl h1) (fun hg => ?_) (fun hg => ?_)
          · refine Yld.gd (p := true = true) (T := Ty.is (.agg (refEl.E X).toArray)) ?_
            replace h0 := h0 hg
            exact yld_loadAgg 83 (.tmp 13) rfl Try.isAgg83 2 Try.sizeOf83 (refEl.E X) rfl h0 rfl
          · intro hn; rw [hn] at hg; cases hg
        · intro wq hq hd
          obtain ⟨h0, -⟩ := hd
          change v 4 = _ at h0
          refine ob_guard 4 true (true) rfl (yields_of rfl h0) (fun hg => ?_) (fun hg => ?_)
          · refine Yld.gd (p := true = true) (T := Ty.is (.agg (refEl.E p).toArray)) ?_
            exact yld_loadAgg 83 (.tmp 3) rfl Try.isAgg83 2 Try.sizeOf83 (refEl.E p) rfl (Hbx.out wq hq) rfl
          · intro hn; rw [hn] at hg; cases hg
        · intro wq hq hd
          obtain ⟨h0, h1, h2, h3, -⟩ := hd
          change (true = true) → v 8 = _ at h0
          change (true = true) → v 9 = _ at h1
          change v 4 = _ at h2
          refine ob_guard 4 true (true) rfl (yields_of rfl h2) (fun hg => ?_) (fun hg => ?_)
          · refine Yld.gd (p := true = true) (T := Ty.is (.bool true)) ?_
            replace h0 := h0 hg
            replace h1 := h1 hg
            refine yld_call 69 Try.call69 _ _ rfl rfl [_, _] ⟨h0, h1, trivial⟩ ?_
            refine (less_any X p wq).mono ?_
            rintro e w' ⟨rfl, hx'⟩
            rw [HB.out]
            exact ⟨_, rfl, hx', rfl⟩
          · intro hn; rw [hn] at hg; cases hg
        · intro wq hq hd
          obtain ⟨h0, h1, -⟩ := hd
          change v 4 = _ at h0
          change (true = true) → v 10 = _ at h1
          refine ob_plain rfl ?_
          exact yld_and (.tmp 10) (.tmp 16) rfl rfl true true h0 (fun _ => h1 rfl) rfl
        · intro wq hq hT
          have k11 := hT 11 (by decide)
          change v 11 = _ at k11
          clear hT
          simp only [List.drop_succ_cons, List.drop_zero, putE, setsE, List.set_cons_succ, List.set_cons_zero, Nat.reduceAdd]
          rw [k11]
          go_wp2
          go_roundw
          case rel => exact ⟨k + 1, by omega, by go_num, Hb2, hext.trans hq⟩
          case measure => simp [intOf]; omega
      case false =>
        have hat := addR_at p a k hk Hbel.out (fun x hx => by rw [HX.out] at hx; cases hx; exact HB.out)
        rw [HR.out, HX.out] at hat
        have Hat := Lib.hid hat
        clear hat
        go_wp2_with fail
        refine wp_drawn (by kernel_rfl) (fun i => match i with | 0 => Ty.is (.int .i64 (k : Nat)) | 1 => Ty.is (.slice A a.length c) | 2 => Ty.is (.int .i64 a.length) | 3 => Ty.is (.bool true) | 4 => Ty.is (.bool true) | 5 => TGd (true = true) (Ty.is (.slice A a.length c)) | 6 => TGd (true = true) (Ty.is (.int .i64 (k : Nat))) | 7 => TGd (true = true) (TCells (refEl.E X)) | 8 => TGd (true = true) (Ty.is (.agg (refEl.E X).toArray)) | 9 => TGd (true = true) (Ty.is (.agg (refEl.E p).toArray)) | 10 => TGd (true = true) (Ty.is (.bool false)) | 11 => Ty.is (.bool false) | _ => Ty.any) (by kernel_rfl) rfl ?_
        intro v
        refine ⟨?_, ?_, ?_, ?_, ?_, ?_, ?_, ?_, ?_, ?_, ?_, ?_, ?_⟩
        · intro wq hq hd
          refine ob_plain rfl ?_
          exact yld_move (.tmp 5) rfl rfl rfl
        · intro wq hq hd
          refine ob_plain rfl ?_
          exact yld_move (.tmp 0) rfl rfl rfl
        · intro wq hq hd
          obtain ⟨h0, -⟩ := hd
          change v 1 = _ at h0
          refine ob_plain rfl ?_
          exact yld_len (.tmp 7) 52 _ Try.underlying52 rfl _ _ _ h0 rfl
        · intro wq hq hd
          obtain ⟨h0, h1, -⟩ := hd
          change v 0 = _ at h0
          change v 2 = _ at h1
          refine ob_plain rfl ?_
          exact yld_binInt .lss 3 3 (.tmp 6) (.tmp 8) rfl _ _ h0 h1 (fun w => by rw [run_lss_i64, decide_eq_true (by omega)]) rfl
        · intro wq hq hd
          obtain ⟨h0, -⟩ := hd
          change v 3 = _ at h0
          refine ob_plain rfl ?_
          exact yld_move (.tmp 9) rfl h0 rfl
        · intro wq hq hd
          obtain ⟨h0, -⟩ := hd
          change v 4 = _ at h0
          refine ob_guard 4 true (true) rfl (yields_of rfl h0) (fun hg => ?_) (fun hg => ?_)
          · refine Yld.gd (p := true = true) (T := Ty.is (.slice A a.length c)) ?_
            exact yld_move (.tmp 0) rfl rfl rfl
          · intro hn; rw [hn] at hg; cases hg
        · intro wq hq hd
          obtain ⟨h0, -⟩ := hd
          change v 4 = _ at h0
          refine ob_guard 4 true (true) rfl (yields_of rfl h0) (fun hg => ?_) (fun hg => ?_)
          · refine Yld.gd (p := true = true) (T := Ty.is (.int .i64 (k : Nat))) ?_
            exact yld_move (.tmp 5) rfl rfl rfl
          · intro hn; rw [hn] at hg; cases hg
        · intro wq hq hd
          obtain ⟨h0, h1, h2, -⟩ := hd
          change (true = true) → v 5 = _ at h0
          change (true = true) → v 6 = _ at h1
          change v 4 = _ at h2
          refine ob_guard 4 true (true) rfl (yields_of rfl h2) (fun hg => ?_) (fun hg => ?_)
          · refine Yld.gd (p := true = true) (T := TCells (refEl.E X)) ?_
            replace h0 := h0 hg
            replace h1 := h1 hg
            exact yld_indexAt refEl (.tmp 11) (.tmp 12) rfl _ a c h0 k h1 (Hsl.out wq hq) X HX.out
          · intro hn; rw [hn] at hg; cases hg
        · intro wq hq hd
          obtain ⟨h0, h1, -⟩ := hd
          change (true = true) → (TCells (refEl.E X)).p (v 7) wq at h0
          change v 4 = _ at h1
          refine ob_guard 4 true (true) rfl (yields_of rfl h1) (fun hg => ?_) (fun hg => ?_)
          · refine Yld.gd (p := true = true) (T := Ty.is (.agg (refEl.E X).toArray)) ?_
            replace h0 := h0 hg
            exact yld_loadAgg 83 (.tmp 13) rfl Try.isAgg83 2 Try.sizeOf83 (refEl.E X) rfl h0 rfl
          · intro hn; rw [hn] at hg; cases hg
        · intro wq hq hd
          obtain ⟨h0, -⟩ := hd
          change v 4 = _ at h0
          refine ob_guard 4 true (true) rfl (yields_of rfl h0) (fun hg => ?_) (fun hg => ?_)
          · refine Yld.gd (p := true = true) (T := Ty.is (.agg (refEl.E p).toArray)) ?_
            exact yld_loadAgg 83 (.tmp 3) rfl Try.isAgg83 2 Try.sizeOf83 (refEl.E p) rfl (Hbx.out wq hq) rfl
          · intro hn; rw [hn] at hg; cases hg
        · intro wq hq hd
          obtain ⟨h0, h1, h2, h3, -⟩ := hd
          change (true = true) → v 8 = _ at h0
          change (true = true) → v 9 = _ at h1
          change v 4 = _ at h2
          refine ob_guard 4 true (true) rfl (yields_of rfl h2) (fun hg => ?_) (fun hg => ?_)
          · refine Yld.gd (p := true = true) (T := Ty.is (.bool false)) ?_
            replace h0 := h0 hg
            replace h1 := h1 hg
            refine yld_call 69 Try.call69 _ _ rfl rfl [_, _] ⟨h0, h1, trivial⟩ ?_
            refine (less_any X p wq).mono ?_
            rintro e w' ⟨rfl, hx'⟩
            rw [HB.out]
            exact ⟨_, rfl, hx', rfl⟩
          · intro hn; rw [hn] at hg; cases hg
        · intro wq hq hd
          obtain ⟨h0, h1, -⟩ := hd
          change v 4 = _ at h0
          change (true = true) → v 10 = _ at h1
          refine ob_plain rfl ?_
          exact yld_and (.tmp 10) (.tmp 16) rfl rfl true false h0 (fun _ => h1 rfl) rfl
        · intro wq hq hT
          have k11 := hT 11 (by decide)
          change v 11 = _ at k11
          clear hT
          simp only [List.drop_succ_cons, List.drop_zero, putE, setsE, List.set_cons_succ, List.set_cons_zero, Nat.reduceAdd]
          rw [k11]
          go_wp2_with fail
          have hqo := hq
          have Hsl := Lib.hid (show ∀ w', Ext wq w' → Sl refEl w' A a from fun w' he => Hsl.out w' (hqo.trans he))
          have Hbx := Lib.hid (show ∀ w', Ext wq w' → (TCells (refEl.E p)).p (.pointer (some ⟨w.heap.size, 0, none⟩)) w' from fun w' he => Hbx.out w' (hqo.trans he))
          have hwv1 : Ext w wq := hwv0.trans hqo
          obtain ⟨we, rfl⟩ : ∃ we, we = wq := ⟨_, rfl⟩
          clear hq hqo hwv0
          obtain ⟨b2, hb2⟩ : ∃ b2, decide (X = p) = b2 := ⟨_, rfl⟩
          have Hbb := Lib.hid hb2
          clear hb2
          cases b2
          case true =>
            have hRa : R = a := by
              have e := Hat.out
              rwa [if_pos (by rw [of_decide_eq_true Hbb.out])] at e
            have HRa := Lib.hid hRa
            clear hRa
            refine wp_drawn (by kernel_rfl) (fun i => match i with | 0 => Ty.is (.int .i64 (k : Nat)) | 1 => Ty.is (.slice A a.length c) | 2 => Ty.is (.int .i64 a.length) | 3 => Ty.is (.bool true) | 4 => Ty.is (.bool true) | 5 => TGd (true = true) (Ty.is (.slice A a.length c)) | 6 => TGd (true = true) (Ty.is (.int .i64 (k : Nat))) | 7 => TGd (true = true) (TCells (refEl.E X)) | 8 => TGd (true = true) (Ty.is (.agg (refEl.E X).toArray)) | 9 => TGd (true = true) (Ty.is (.agg (refEl.E p).toArray)) | 10 => TGd (true = true) (Ty.is (.bool true)) | 11 => Ty.is (.bool true) | _ => Ty.any) (by kernel_rfl) rfl ?_
            intro v
            refine ⟨?_, ?_, ?_, ?_, ?_, ?_, ?_, ?_, ?_, ?_, ?_, ?_, ?_⟩
            · intro wq hq hd
              refine ob_plain rfl ?_
              exact yld_move (.tmp 5) rfl rfl rfl
            · intro wq hq hd
              refine ob_plain rfl ?_
              exact yld_move (.tmp 0) rfl rfl rfl
            · intro wq hq hd
              obtain ⟨h0, -⟩ := hd
              change v 1 = _ at h0
              refine ob_plain rfl ?_
              exact yld_len (.tmp 21) 52 _ Try.underlying52 rfl _ _ _ h0 rfl
            · intro wq hq hd
              obtain ⟨h0, h1, -⟩ := hd
              change v 0 = _ at h0
              change v 2 = _ at h1
              refine ob_plain rfl ?_
              exact yld_binInt .lss 3 3 (.tmp 20) (.tmp 22) rfl _ _ h0 h1 (fun w => by rw [run_lss_i64, decide_eq_true (by omega)]) rfl
            · intro wq hq hd
              obtain ⟨h0, -⟩ := hd
              change v 3 = _ at h0
              refine ob_plain rfl ?_
              exact yld_move (.tmp 23) rfl h0 rfl
            · intro wq hq hd
              obtain ⟨h0, -⟩ := hd
              change v 4 = _ at h0
              refine ob_guard 4 true (true) rfl (yields_of rfl h0) (fun hg => ?_) (fun hg => ?_)
              · refine Yld.gd (p := true = true) (T := Ty.is (.slice A a.length c)) ?_
                exact yld_move (.tmp 0) rfl rfl rfl
              · intro hn; rw [hn] at hg; cases hg
            · intro wq hq hd
              obtain ⟨h0, -⟩ := hd
              change v 4 = _ at h0
              refine ob_guard 4 true (true) rfl (yields_of rfl h0) (fun hg => ?_) (fun hg => ?_)
              · refine Yld.gd (p := true = true) (T := Ty.is (.int .i64 (k : Nat))) ?_
                exact yld_move (.tmp 5) rfl rfl rfl
              · intro hn; rw [hn] at hg; cases hg
            · intro wq hq hd
              obtain ⟨h0, h1, h2, -⟩ := hd
              change (true = true) → v 5 = _ at h0
              change (true = true) → v 6 = _ at h1
              change v 4 = _ at h2
              refine ob_guard 4 true (true) rfl (yields_of rfl h2) (fun hg => ?_) (fun hg => ?_)
              · refine Yld.gd (p := true = true) (T := TCells (refEl.E X)) ?_
                replace h0 := h0 hg
                replace h1 := h1 hg
                exact yld_indexAt refEl (.tmp 25) (.tmp 26) rfl _ a c h0 k h1 (Hsl.out wq hq) X HX.out
              · intro hn; rw [hn] at hg; cases hg
            · intro wq hq hd
              obtain ⟨h0, h1, -⟩ := hd
              change (true = true) → (TCells (refEl.E X)).p (v 7) wq at h0
              change v 4 = _ at h1
              refine ob_guard 4 true (true) rfl (yields_of rfl h1) (fun hg => ?_) (fun hg => ?_)
              · refine Yld.gd (p := true = true) (T := Ty.is (.agg (refEl.E X).toArray)) ?_
                replace h0 := h0 hg
                exact yld_loadAgg 83 (.tmp 27) rfl Try.isAgg83 2 Try.sizeOf83 (refEl.E X) rfl h0 rfl
              · intro hn; rw [hn] at hg; cases hg
            · intro wq hq hd
              obtain ⟨h0, -⟩ := hd
              change v 4 = _ at h0
              refine ob_guard 4 true (true) rfl (yields_of rfl h0) (fun hg => ?_) (fun hg => ?_)
              · refine Yld.gd (p := true = true) (T := Ty.is (.agg (refEl.E p).toArray)) ?_
                exact yld_loadAgg 83 (.tmp 3) rfl Try.isAgg83 2 Try.sizeOf83 (refEl.E p) rfl (Hbx.out wq hq) rfl
              · intro hn; rw [hn] at hg; cases hg
            · intro wq hq hd
              obtain ⟨h0, h1, h2, -⟩ := hd
              change (true = true) → v 8 = _ at h0
              change (true = true) → v 9 = _ at h1
              change v 4 = _ at h2
              refine ob_guard 4 true (true) rfl (yields_of rfl h2) (fun hg => ?_) (fun hg => ?_)
              · refine Yld.gd (p := true = true) (T := Ty.is (.bool true)) ?_
                replace h0 := h0 hg
                replace h1 := h1 hg
                exact yld_binAgg .eql 83 83 (.tmp 28) (.tmp 29) rfl _ _ h0 h1 (by kernel_rfl) (fun w => by rw [refEql, Hbb.out]) rfl
              · intro hn; rw [hn] at hg; cases hg
            · intro wq hq hd
              obtain ⟨h0, h1, -⟩ := hd
              change v 4 = _ at h0
              change (true = true) → v 10 = _ at h1
              refine ob_plain rfl ?_
              exact yld_and (.tmp 24) (.tmp 30) rfl rfl true true h0 (fun _ => h1 rfl) rfl
            · intro wq hq hT
              have k11 := hT 11 (by decide)
              change v 11 = _ at k11
              clear hT
              simp only [List.drop_succ_cons, List.drop_zero, putE, setsE, List.set_cons_succ, List.set_cons_zero, Nat.reduceAdd]
              rw [k11]
              go_wp2
              go_ret
              rw [HRa.out]
              exact ⟨_, _, rfl, hc, Hsl.out _ hq, hwv1.trans hq⟩
          case false =>
            have Hadd := Lib.hid (show R = a.take k ++ [p] ++ a.drop k by
              have e := Hat.out
              rwa [if_neg (fun e => of_decide_eq_false Hbb.out (Option.some.inj e))] at e)
            refine wp_drawn (by kernel_rfl) (fun i => match i with | 0 => Ty.is (.int .i64 (k : Nat)) | 1 => Ty.is (.slice A a.length c) | 2 => Ty.is (.int .i64 a.length) | 3 => Ty.is (.bool true) | 4 => Ty.is (.bool true) | 5 => TGd (true = true) (Ty.is (.slice A a.length c)) | 6 => TGd (true = true) (Ty.is (.int .i64 (k : Nat))) | 7 => TGd (true = true) (TCells (refEl.E X)) | 8 => TGd (true = true) (Ty.is (.agg (refEl.E X).toArray)) | 9 => TGd (true = true) (Ty.is (.agg (refEl.E p).toArray)) | 10 => TGd (true = true) (Ty.is (.bool false)) | 11 => Ty.is (.bool false) | _ => Ty.any) (by kernel_rfl) rfl ?_
            intro v
            refine ⟨?_, ?_, ?_, ?_, ?_, ?_, ?_, ?_, ?_, ?_, ?_, ?_, ?_⟩
            · intro wq hq hd
              refine ob_plain rfl ?_
              exact yld_move (.tmp 5) rfl rfl rfl
            · intro wq hq hd
              refine ob_plain rfl ?_
              exact yld_move (.tmp 0) rfl rfl rfl
            · intro wq hq hd
              obtain ⟨h0, -⟩ := hd
              change v 1 = _ at h0
              refine ob_plain rfl ?_
              exact yld_len (.tmp 21) 52 _ Try.underlying52 rfl _ _ _ h0 rfl
            · intro wq hq hd
              obtain ⟨h0, h1, -⟩ := hd
              change v 0 = _ at h0
              change v 2 = _ at h1
              refine ob_plain rfl ?_
              exact yld_binInt .lss 3 3 (.tmp 20) (.tmp 22) rfl _ _ h0 h1 (fun w => by rw [run_lss_i64, decide_eq_true (by omega)]) rfl
            · intro wq hq hd
              obtain ⟨h0, -⟩ := hd
              change v 3 = _ at h0
              refine ob_plain rfl ?_
              exact yld_move (.tmp 23) rfl h0 rfl
            · intro wq hq hd
              obtain ⟨h0, -⟩ := hd
              change v 4 = _ at h0
              refine ob_guard 4 true (true) rfl (yields_of rfl h0) (fun hg => ?_) (fun hg => ?_)
              · refine Yld.gd (p := true = true) (T := Ty.is (.slice A a.length c)) ?_
                exact yld_move (.tmp 0) rfl rfl rfl
              · intro hn; rw [hn] at hg; cases hg
            · intro wq hq hd
              obtain ⟨h0, -⟩ := hd
              change v 4 = _ at h0
              refine ob_guard 4 true (true) rfl (yields_of rfl h0) (fun hg => ?_) (fun hg => ?_)
              · refine Yld.gd (p := true = true) (T := Ty.is (.int .i64 (k : Nat))) ?_
                exact yld_move (.tmp 5) rfl rfl rfl
              · intro hn; rw [hn] at hg; cases hg
            · intro wq hq hd
              obtain ⟨h0, h1, h2, -⟩ := hd
              change (true = true) → v 5 = _ at h0
              change (true = true) → v 6 = _ at h1
              change v 4 = _ at h2
              refine ob_guard 4 true (true) rfl (yields_of rfl h2) (fun hg => ?_) (fun hg => ?_)
              · refine Yld.gd (p := true = true) (T := TCells (refEl.E X)) ?_
                replace h0 := h0 hg
                replace h1 := h1 hg
                exact yld_indexAt refEl (.tmp 25) (.tmp 26) rfl _ a c h0 k h1 (Hsl.out wq hq) X HX.out
              · intro hn; rw [hn] at hg; cases hg
            · intro wq hq hd
              obtain ⟨h0, h1, -⟩ := hd
              change (true = true) → (TCells (refEl.E X)).p (v 7) wq at h0
              change v 4 = _ at h1
              refine ob_guard 4 true (true) rfl (yields_of rfl h1) (fun hg => ?_) (fun hg => ?_)
              · refine Yld.gd (p := true = true) (T := Ty.is (.agg (refEl.E X).toArray)) ?_
                replace h0 := h0 hg
                exact yld_loadAgg 83 (.tmp 27) rfl Try.isAgg83 2 Try.sizeOf83 (refEl.E X) rfl h0 rfl
              · intro hn; rw [hn] at hg; cases hg
            · intro wq hq hd
              obtain ⟨h0, -⟩ := hd
              change v 4 = _ at h0
              refine ob_guard 4 true (true) rfl (yields_of rfl h0) (fun hg => ?_) (fun hg => ?_)
              · refine Yld.gd (p := true = true) (T := Ty.is (.agg (refEl.E p).toArray)) ?_
                exact yld_loadAgg 83 (.tmp 3) rfl Try.isAgg83 2 Try.sizeOf83 (refEl.E p) rfl (Hbx.out wq hq) rfl
              · intro hn; rw [hn] at hg; cases hg
            · intro wq hq hd
              obtain ⟨h0, h1, h2, -⟩ := hd
              change (true = true) → v 8 = _ at h0
              change (true = true) → v 9 = _ at h1
              change v 4 = _ at h2
              refine ob_guard 4 true (true) rfl (yields_of rfl h2) (fun hg => ?_) (fun hg => ?_)
              · refine Yld.gd (p := true = true) (T := Ty.is (.bool false)) ?_
                replace h0 := h0 hg
                replace h1 := h1 hg
                exact yld_binAgg .eql 83 83 (.tmp 28) (.tmp 29) rfl _ _ h0 h1 (by kernel_rfl) (fun w => by rw [refEql, Hbb.out]) rfl
              · intro hn; rw [hn] at hg; cases hg
            · intro wq hq hd
              obtain ⟨h0, h1, -⟩ := hd
              change v 4 = _ at h0
              change (true = true) → v 10 = _ at h1
              refine ob_plain rfl ?_
              exact yld_and (.tmp 24) (.tmp 30) rfl rfl true false h0 (fun _ => h1 rfl) rfl
            · intro wq hq hT
              have k11 := hT 11 (by decide)
              change v 11 = _ at k11
              clear hT
              simp only [List.drop_succ_cons, List.drop_zero, putE, setsE, List.set_cons_succ, List.set_cons_zero, Nat.reduceAdd]
              rw [k11]
              go_wp2_with fail
              have hqo := hq
              have Hsl := Lib.hid (show ∀ w', Ext wq w' → Sl refEl w' A a from fun w' he => Hsl.out w' (hqo.trans he))
              have Hbx := Lib.hid (show ∀ w', Ext wq w' → (TCells (refEl.E p)).p (.pointer (some ⟨w.heap.size, 0, none⟩)) w' from fun w' he => Hbx.out w' (hqo.trans he))
              have hwv : Ext w wq := hwv1.trans hqo
              obtain ⟨wv, hwvq⟩ : ∃ wv, wv = wq := ⟨_, rfl⟩
              rw [← hwvq] at hwv ⊢
              rw [← hwvq] at Hsl Hbx
              clear hq hqo hwv1 hwvq
              refine wp_drawn_turn 11 7 [0, 1, 2, 3, 4, 5, 6] (fun i => match i with | 0 => TEmptyO refEl wv.heap.size | 1 => Ty.is (.slice A a.length c) | 2 => Ty.is (.int .i64 (k : Nat)) | 3 => TSl refEl (a.take k) | 4 => TOwn refEl wv.heap.size (a.take k) | 5 => Ty.is (.agg (refEl.E p).toArray) | 6 => TSl refEl [p] | 8 => Ty.is (.slice A a.length c) | 9 => Ty.is (.int .i64 (k : Nat)) | 10 => TSlAt refEl wv (a.drop k) | _ => Ty.any)
                (fun i => match i with | 7 => TOwn refEl wv.heap.size (a.take k ++ [p]) | 8 => Ty.is (.slice A a.length c) | 9 => Ty.is (.int .i64 (k : Nat)) | 10 => TSlAt refEl wv (a.drop k) | _ => Ty.any) (by kernel_rfl) (by kernel_rfl) (by kernel_rfl) (by kernel_rfl) (by decide) (by decide) rfl ?_ ?_
              · intro j hj x w1 w2 hx
                match j, hj, hx with
                | 8, _, hx => exact hx
                | 9, _, hx => exact hx
                | 10, _, hx => exact hx
                | 7, hj, _ => exact absurd rfl hj
                | 0, _, _ => trivial
                | 1, _, _ => trivial
                | 2, _, _ => trivial
                | 3, _, _ => trivial
                | 4, _, _ => trivial
                | 5, _, _ => trivial
                | 6, _, _ => trivial
                | _ + 11, _, _ => trivial
              intro v
              refine ⟨rfl, obt_early (by decide) rfl ?_, rfl, obt_early (by decide) rfl ?_, rfl, obt_early (by decide) rfl ?_, rfl, obt_early (by decide) rfl ?_, rfl, obt_early (by decide) rfl ?_, rfl, obt_early (by decide) rfl ?_, rfl, obt_early (by decide) rfl ?_, rfl, obt_turn rfl ?_, rfl, obt_free (by decide) ?_ ?_, rfl, obt_free (by decide) ?_ ?_, rfl, obt_free (by decide) ?_ ?_, ?_⟩
              · intro wq hq hd
                exact yld_emptyO refEl rfl hq.size
              · intro wq hq hd
                exact yld_move (.tmp 0) rfl rfl rfl
              · intro wq hq hd
                exact yld_move (.tmp 5) rfl rfl rfl
              · intro wq hq hd
                obtain ⟨h0, h1, -⟩ := hd
                change v 1 = _ at h0
                change v 2 = _ at h1
                exact yld_slToO refEl (.tmp 34) (.tmp 35) rfl c h0 k h1 (Hsl.out wq hq) (by omega) hc
              · intro wq hq hd
                obtain ⟨h0, h1, -⟩ := hd
                change (TEmptyO refEl wv.heap.size).p (v 0) wq at h0
                change (TSl refEl (a.take k)).p (v 3) wq at h1
                obtain ⟨Ae, he1, he2⟩ := h0
                obtain ⟨A3, c3, h31, h32, h33⟩ := h1
                exact yld_appOwnO refEl (.tmp 33) (.tmp 36) rfl c3 wv.heap.size Ae he1 (he1 ▸ he2) h31 h33 (by simp; omega) hq.size
              · intro wq hq hd
                exact yld_loadAgg 83 (.tmp 3) rfl Try.isAgg83 2 Try.sizeOf83 (refEl.E p) rfl (Hbx.out wq hq) rfl
              · intro wq hq hd
                obtain ⟨h0, -⟩ := hd
                change v 5 = _ at h0
                exact yld_oneRef (.tmp 38) rfl h0
              · intro wq hq hd
                have h4 := hd 4 rfl
                have h6 := hd 6 rfl
                change (TOwn refEl wv.heap.size (a.take k)).p (v 4) wq at h4
                change (TSl refEl [p]).p (v 6) wq at h6
                obtain ⟨A6, c6, h61, h62, h63⟩ := h6
                exact yldW_app refEl (.tmp 37) (.tmp 39) rfl c6 wv.heap.size rfl h4 h61 h63 (by simp; omega) hq (Nat.le_refl _) hq.size
              · intro wq hq hd
                exact yld_move (.tmp 0) rfl rfl rfl
              · intro _ wq hq hd
                exact yld_move (.tmp 0) rfl rfl rfl
              · intro wq hq hd
                exact yld_move (.tmp 5) rfl rfl rfl
              · intro _ wq hq hd
                exact yld_move (.tmp 5) rfl rfl rfl
              · intro wq hq hd
                obtain ⟨h0, h1, -⟩ := hd
                change v 8 = _ at h0
                change v 9 = _ at h1
                exact yld_slFromAt refEl (.tmp 41) (.tmp 42) rfl c h0 k h1 (Hsl.out wv (Ext.refl _)) (by omega) hc
              · intro _ wq hq hd
                obtain ⟨h0, h1, -⟩ := hd
                change v 8 = _ at h0
                change v 9 = _ at h1
                exact yld_slFromAt refEl (.tmp 41) (.tmp 42) rfl c h0 k h1 (Hsl.out wv (Ext.refl _)) (by omega) hc
              · intro wq hq hT
                have k7 := hT 7 (by decide)
                change (TOwn refEl wv.heap.size (a.take k ++ [p])).p (v 7) wq at k7
                have k10 := hT 10 (by decide)
                change (TSlAt refEl wv (a.drop k)).p (v 10) wq at k10
                clear hT
                simp only [List.drop_succ_cons, List.drop_zero, putE, setsE, List.set_cons_succ, List.set_cons_zero, Nat.reduceAdd]
                generalize v 7 = x7 at k7 ⊢
                generalize v 10 = x10 at k10 ⊢
                obtain ⟨A1, c1, hv1, hc1, hs1⟩ := k10
                subst hv1
                have hqs := hq.size
                go_wp2_with (refine wpList_app refEl rfl (.tmp 40) (.tmp 43) rfl c1 rfl k7 rfl (hs1.ext hq) (by simp; omega) hqs ?_; intro v8 w8 ho8 hb8 hg8; have hx8 := hq.trans' hb8)
                obtain ⟨A9, c9, rfl, hc9, hs9⟩ := ho8.form
                go_ret
                rw [Hadd.out]
                exact ⟨_, _, rfl, hc9, hs9, hwv.trans hx8⟩
    · obtain rfl : k = a.length := by omega
      have Hadd := Lib.hid (show R = a.take a.length ++ [p] ++ a.drop a.length by
        have hat := addR_at p a a.length hk Hbel.out (fun x hx => by simp at hx)
        rw [HR.out] at hat
        rwa [if_neg (by simp)] at hat)
      go_wp2_with fail
      refine wp_drawn (by kernel_rfl) (fun i => match i with | 0 => Ty.is (.int .i64 (a.length : Nat)) | 1 => Ty.is (.slice A a.length c) | 2 => Ty.is (.int .i64 a.length) | 3 => Ty.is (.bool false) | 4 => Ty.is (.bool false) | 5 => TGd (false = true) (Ty.any) | 6 => TGd (false = true) (Ty.any) | 7 => TGd (false = true) (Ty.any) | 8 => TGd (false = true) (Ty.any) | 9 => TGd (false = true) (Ty.any) | 10 => TGd (false = true) (Ty.any) | 11 => Ty.is (.bool false) | _ => Ty.any) (by kernel_rfl) rfl ?_
      intro v
      refine ⟨?_, ?_, ?_, ?_, ?_, ?_, ?_, ?_, ?_, ?_, ?_, ?_, ?_⟩
      · intro wq hq hd
        refine ob_plain rfl ?_
        exact yld_move (.tmp 5) rfl rfl rfl
      · intro wq hq hd
        refine ob_plain rfl ?_
        exact yld_move (.tmp 0) rfl rfl rfl
      · intro wq hq hd
        obtain ⟨h0, -⟩ := hd
        change v 1 = _ at h0
        refine ob_plain rfl ?_
        exact yld_len (.tmp 7) 52 _ Try.underlying52 rfl _ _ _ h0 rfl
      · intro wq hq hd
        obtain ⟨h0, h1, -⟩ := hd
        change v 0 = _ at h0
        change v 2 = _ at h1
        refine ob_plain rfl ?_
        exact yld_binInt .lss 3 3 (.tmp 6) (.tmp 8) rfl _ _ h0 h1 (fun w => by rw [run_lss_i64, decide_eq_false (by omega)]) rfl
      · intro wq hq hd
        obtain ⟨h0, -⟩ := hd
        change v 3 = _ at h0
        refine ob_plain rfl ?_
        exact yld_move (.tmp 9) rfl h0 rfl
      · intro wq hq hd
        obtain ⟨h0, -⟩ := hd
        change v 4 = _ at h0
        refine ob_guard 4 true (false) rfl (yields_of rfl h0) (fun hg => ?_) (fun hg => ?_)
        · refine Yld.gd (p := false = true) (T := Ty.any) ?_
          cases hg
        · intro hn; rw [hn] at hg; cases hg
      · intro wq hq hd
        obtain ⟨h0, -⟩ := hd
        change v 4 = _ at h0
        refine ob_guard 4 true (false) rfl (yields_of rfl h0) (fun hg => ?_) (fun hg => ?_)
        · refine Yld.gd (p := false = true) (T := Ty.any) ?_
          cases hg
        · intro hn; rw [hn] at hg; cases hg
      · intro wq hq hd
        obtain ⟨h0, h1, h2, -⟩ := hd
        change v 4 = _ at h2
        refine ob_guard 4 true (false) rfl (yields_of rfl h2) (fun hg => ?_) (fun hg => ?_)
        · refine Yld.gd (p := false = true) (T := Ty.any) ?_
          cases hg
        · intro hn; rw [hn] at hg; cases hg
      · intro wq hq hd
        obtain ⟨h0, h1, -⟩ := hd
        change v 4 = _ at h1
        refine ob_guard 4 true (false) rfl (yields_of rfl h1) (fun hg => ?_) (fun hg => ?_)
        · refine Yld.gd (p := false = true) (T := Ty.any) ?_
          cases hg
        · intro hn; rw [hn] at hg; cases hg
      · intro wq hq hd
        obtain ⟨h0, -⟩ := hd
        change v 4 = _ at h0
        refine ob_guard 4 true (false) rfl (yields_of rfl h0) (fun hg => ?_) (fun hg => ?_)
        · refine Yld.gd (p := false = true) (T := Ty.any) ?_
          cases hg
        · intro hn; rw [hn] at hg; cases hg
      · intro wq hq hd
        obtain ⟨h0, h1, h2, h3, -⟩ := hd
        change v 4 = _ at h2
        refine ob_guard 4 true (false) rfl (yields_of rfl h2) (fun hg => ?_) (fun hg => ?_)
        · refine Yld.gd (p := false = true) (T := Ty.any) ?_
          cases hg
        · intro hn; rw [hn] at hg; cases hg
      · intro wq hq hd
        obtain ⟨h0, h1, -⟩ := hd
        change v 4 = _ at h0
        refine ob_plain rfl ?_
        exact yld_and (.tmp 10) (.tmp 16) rfl rfl false true h0 (fun hgd => by cases hgd) rfl
      · intro wq hq hT
        have k11 := hT 11 (by decide)
        change v 11 = _ at k11
        clear hT
        simp only [List.drop_succ_cons, List.drop_zero, putE, setsE, List.set_cons_succ, List.set_cons_zero, Nat.reduceAdd]
        rw [k11]
        go_wp2_with fail
        have hqo := hq
        have Hsl := Lib.hid (show ∀ w', Ext wq w' → Sl refEl w' A a from fun w' he => Hsl.out w' (hqo.trans he))
        have Hbx := Lib.hid (show ∀ w', Ext wq w' → (TCells (refEl.E p)).p (.pointer (some ⟨w.heap.size, 0, none⟩)) w' from fun w' he => Hbx.out w' (hqo.trans he))
        have hwv1 : Ext w wq := hwv0.trans hqo
        obtain ⟨we, rfl⟩ : ∃ we, we = wq := ⟨_, rfl⟩
        clear hq hqo hwv0
        refine wp_drawn (by kernel_rfl) (fun i => match i with | 0 => Ty.is (.int .i64 (a.length : Nat)) | 1 => Ty.is (.slice A a.length c) | 2 => Ty.is (.int .i64 a.length) | 3 => Ty.is (.bool false) | 4 => Ty.is (.bool false) | 5 => TGd (false = true) (Ty.any) | 6 => TGd (false = true) (Ty.any) | 7 => TGd (false = true) (Ty.any) | 8 => TGd (false = true) (Ty.any) | 9 => TGd (false = true) (Ty.any) | 10 => TGd (false = true) (Ty.any) | 11 => Ty.is (.bool false) | _ => Ty.any) (by kernel_rfl) rfl ?_
        intro v
        refine ⟨?_, ?_, ?_, ?_, ?_, ?_, ?_, ?_, ?_, ?_, ?_, ?_, ?_⟩
        · intro wq hq hd
          refine ob_plain rfl ?_
          exact yld_move (.tmp 5) rfl rfl rfl
        · intro wq hq hd
          refine ob_plain rfl ?_
          exact yld_move (.tmp 0) rfl rfl rfl
        · intro wq hq hd
          obtain ⟨h0, -⟩ := hd
          change v 1 = _ at h0
          refine ob_plain rfl ?_
          exact yld_len (.tmp 21) 52 _ Try.underlying52 rfl _ _ _ h0 rfl
        · intro wq hq hd
          obtain ⟨h0, h1, -⟩ := hd
          change v 0 = _ at h0
          change v 2 = _ at h1
          refine ob_plain rfl ?_
          exact yld_binInt .lss 3 3 (.tmp 20) (.tmp 22) rfl _ _ h0 h1 (fun w => by rw [run_lss_i64, decide_eq_false (by omega)]) rfl
        · intro wq hq hd
          obtain ⟨h0, -⟩ := hd
          change v 3 = _ at h0
          refine ob_plain rfl ?_
          exact yld_move (.tmp 23) rfl h0 rfl
        · intro wq hq hd
          obtain ⟨h0, -⟩ := hd
          change v 4 = _ at h0
          refine ob_guard 4 true (false) rfl (yields_of rfl h0) (fun hg => ?_) (fun hg => ?_)
          · refine Yld.gd (p := false = true) (T := Ty.any) ?_
            cases hg
          · intro hn; rw [hn] at hg; cases hg
        · intro wq hq hd
          obtain ⟨h0, -⟩ := hd
          change v 4 = _ at h0
          refine ob_guard 4 true (false) rfl (yields_of rfl h0) (fun hg => ?_) (fun hg => ?_)
          · refine Yld.gd (p := false = true) (T := Ty.any) ?_
            cases hg
          · intro hn; rw [hn] at hg; cases hg
        · intro wq hq hd
          obtain ⟨h0, h1, h2, -⟩ := hd
          change v 4 = _ at h2
          refine ob_guard 4 true (false) rfl (yields_of rfl h2) (fun hg => ?_) (fun hg => ?_)
          · refine Yld.gd (p := false = true) (T := Ty.any) ?_
            cases hg
          · intro hn; rw [hn] at hg; cases hg
        · intro wq hq hd
          obtain ⟨h0, h1, -⟩ := hd
          change v 4 = _ at h1
          refine ob_guard 4 true (false) rfl (yields_of rfl h1) (fun hg => ?_) (fun hg => ?_)
          · refine Yld.gd (p := false = true) (T := Ty.any) ?_
            cases hg
          · intro hn; rw [hn] at hg; cases hg
        · intro wq hq hd
          obtain ⟨h0, -⟩ := hd
          change v 4 = _ at h0
          refine ob_guard 4 true (false) rfl (yields_of rfl h0) (fun hg => ?_) (fun hg => ?_)
          · refine Yld.gd (p := false = true) (T := Ty.any) ?_
            cases hg
          · intro hn; rw [hn] at hg; cases hg
        · intro wq hq hd
          obtain ⟨h0, h1, h2, -⟩ := hd
          change v 4 = _ at h2
          refine ob_guard 4 true (false) rfl (yields_of rfl h2) (fun hg => ?_) (fun hg => ?_)
          · refine Yld.gd (p := false = true) (T := Ty.any) ?_
            cases hg
          · intro hn; rw [hn] at hg; cases hg
        · intro wq hq hd
          obtain ⟨h0, h1, -⟩ := hd
          change v 4 = _ at h0
          refine ob_plain rfl ?_
          exact yld_and (.tmp 24) (.tmp 30) rfl rfl false true h0 (fun hgd => by cases hgd) rfl
        · intro wq hq hT
          have k11 := hT 11 (by decide)
          change v 11 = _ at k11
          clear hT
          simp only [List.drop_succ_cons, List.drop_zero, putE, setsE, List.set_cons_succ, List.set_cons_zero, Nat.reduceAdd]
          rw [k11]
          go_wp2_with fail
          have hqo := hq
          have Hsl := Lib.hid (show ∀ w', Ext wq w' → Sl refEl w' A a from fun w' he => Hsl.out w' (hqo.trans he))
          have Hbx := Lib.hid (show ∀ w', Ext wq w' → (TCells (refEl.E p)).p (.pointer (some ⟨w.heap.size, 0, none⟩)) w' from fun w' he => Hbx.out w' (hqo.trans he))
          have hwv : Ext w wq := hwv1.trans hqo
          obtain ⟨wv, hwvq⟩ : ∃ wv, wv = wq := ⟨_, rfl⟩
          rw [← hwvq] at hwv ⊢
          rw [← hwvq] at Hsl Hbx
          clear hq hqo hwv1 hwvq
          refine wp_drawn_turn 11 7 [0, 1, 2, 3, 4, 5, 6] (fun i => match i with | 0 => TEmptyO refEl wv.heap.size | 1 => Ty.is (.slice A a.length c) | 2 => Ty.is (.int .i64 (a.length : Nat)) | 3 => TSl refEl (a.take a.length) | 4 => TOwn refEl wv.heap.size (a.take a.length) | 5 => Ty.is (.agg (refEl.E p).toArray) | 6 => TSl refEl [p] | 8 => Ty.is (.slice A a.length c) | 9 => Ty.is (.int .i64 (a.length : Nat)) | 10 => TSlAt refEl wv (a.drop a.length) | _ => Ty.any)
            (fun i => match i with | 7 => TOwn refEl wv.heap.size (a.take a.length ++ [p]) | 8 => Ty.is (.slice A a.length c) | 9 => Ty.is (.int .i64 (a.length : Nat)) | 10 => TSlAt refEl wv (a.drop a.length) | _ => Ty.any) (by kernel_rfl) (by kernel_rfl) (by kernel_rfl) (by kernel_rfl) (by decide) (by decide) rfl ?_ ?_
          · intro j hj x w1 w2 hx
            match j, hj, hx with
            | 8, _, hx => exact hx
            | 9, _, hx => exact hx
            | 10, _, hx => exact hx
            | 7, hj, _ => exact absurd rfl hj
            | 0, _, _ => trivial
            | 1, _, _ => trivial
            | 2, _, _ => trivial
            | 3, _, _ => trivial
            | 4, _, _ => trivial
            | 5, _, _ => trivial
            | 6, _, _ => trivial
            | _ + 11, _, _ => trivial
          intro v
          refine ⟨rfl, obt_early (by decide) rfl ?_, rfl, obt_early (by decide) rfl ?_, rfl, obt_early (by decide) rfl ?_, rfl, obt_early (by decide) rfl ?_, rfl, obt_early (by decide) rfl ?_, rfl, obt_early (by decide) rfl ?_, rfl, obt_early (by decide) rfl ?_, rfl, obt_turn rfl ?_, rfl, obt_free (by decide) ?_ ?_, rfl, obt_free (by decide) ?_ ?_, rfl, obt_free (by decide) ?_ ?_, ?_⟩
          · intro wq hq hd
            exact yld_emptyO refEl rfl hq.size
          · intro wq hq hd
            exact yld_move (.tmp 0) rfl rfl rfl
          · intro wq hq hd
            exact yld_move (.tmp 5) rfl rfl rfl
          · intro wq hq hd
            obtain ⟨h0, h1, -⟩ := hd
            change v 1 = _ at h0
            change v 2 = _ at h1
            exact yld_slToO refEl (.tmp 34) (.tmp 35) rfl c h0 a.length h1 (Hsl.out wq hq) (by omega) hc
          · intro wq hq hd
            obtain ⟨h0, h1, -⟩ := hd
            change (TEmptyO refEl wv.heap.size).p (v 0) wq at h0
            change (TSl refEl (a.take a.length)).p (v 3) wq at h1
            obtain ⟨Ae, he1, he2⟩ := h0
            obtain ⟨A3, c3, h31, h32, h33⟩ := h1
            exact yld_appOwnO refEl (.tmp 33) (.tmp 36) rfl c3 wv.heap.size Ae he1 (he1 ▸ he2) h31 h33 (by simp; omega) hq.size
          · intro wq hq hd
            exact yld_loadAgg 83 (.tmp 3) rfl Try.isAgg83 2 Try.sizeOf83 (refEl.E p) rfl (Hbx.out wq hq) rfl
          · intro wq hq hd
            obtain ⟨h0, -⟩ := hd
            change v 5 = _ at h0
            exact yld_oneRef (.tmp 38) rfl h0
          · intro wq hq hd
            have h4 := hd 4 rfl
            have h6 := hd 6 rfl
            change (TOwn refEl wv.heap.size (a.take a.length)).p (v 4) wq at h4
            change (TSl refEl [p]).p (v 6) wq at h6
            obtain ⟨A6, c6, h61, h62, h63⟩ := h6
            exact yldW_app refEl (.tmp 37) (.tmp 39) rfl c6 wv.heap.size rfl h4 h61 h63 (by simp; omega) hq (Nat.le_refl _) hq.size
          · intro wq hq hd
            exact yld_move (.tmp 0) rfl rfl rfl
          · intro _ wq hq hd
            exact yld_move (.tmp 0) rfl rfl rfl
          · intro wq hq hd
            exact yld_move (.tmp 5) rfl rfl rfl
          · intro _ wq hq hd
            exact yld_move (.tmp 5) rfl rfl rfl
          · intro wq hq hd
            obtain ⟨h0, h1, -⟩ := hd
            change v 8 = _ at h0
            change v 9 = _ at h1
            exact yld_slFromAt refEl (.tmp 41) (.tmp 42) rfl c h0 a.length h1 (Hsl.out wv (Ext.refl _)) (by omega) hc
          · intro _ wq hq hd
            obtain ⟨h0, h1, -⟩ := hd
            change v 8 = _ at h0
            change v 9 = _ at h1
            exact yld_slFromAt refEl (.tmp 41) (.tmp 42) rfl c h0 a.length h1 (Hsl.out wv (Ext.refl _)) (by omega) hc
          · intro wq hq hT
            have k7 := hT 7 (by decide)
            change (TOwn refEl wv.heap.size (a.take a.length ++ [p])).p (v 7) wq at k7
            have k10 := hT 10 (by decide)
            change (TSlAt refEl wv (a.drop a.length)).p (v 10) wq at k10
            clear hT
            simp only [List.drop_succ_cons, List.drop_zero, putE, setsE, List.set_cons_succ, List.set_cons_zero, Nat.reduceAdd]
            generalize v 7 = x7 at k7 ⊢
            generalize v 10 = x10 at k10 ⊢
            obtain ⟨A1, c1, hv1, hc1, hs1⟩ := k10
            subst hv1
            have hqs := hq.size
            go_wp2_with (refine wpList_app refEl rfl (.tmp 40) (.tmp 43) rfl c1 rfl k7 rfl (hs1.ext hq) (by simp; omega) hqs ?_; intro v8 w8 ho8 hb8 hg8; have hx8 := hq.trans' hb8)
            obtain ⟨A9, c9, rfl, hc9, hs9⟩ := ho8.form
            go_ret
            rw [Hadd.out]
            exact ⟨_, _, rfl, hc9, hs9, hwv.trans hx8⟩

end Go.Proofs.Ytkbmocgjbhmioaa

