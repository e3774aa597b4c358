/- References to items: their rows, cmp.Or, the comparing function of Authors. -/
import Derived.Test.YtkbmocgjbhmioaaEngC
import Derived.Test.YtkbmocgjbhmioaaSortLay
import Derived.Test.YtkbmocgjbhmioaaShelf
namespace Go.Proofs.Ytkbmocgjbhmioaa
open Go.RowKit

def refEl : El Try.prog (Int × Int) := { t := 52, e := 83, m := 2, bytes := 16, z := .agg #[.int .i64 0, .int .i64 0], E := fun x => [.int .i64 x.1, .int .i64 x.2], hE := fun _ => rfl, h1 := by simp [Value.oneCell'], ht := by kernel_rfl, hi := by kernel_rfl, hz := rfl, hm := by decide, hb := by decide, agg := true, hagg := Try.isAgg83 }

section
variable {P : Program} {ρ : Operand → Value} {o : Oper} {w : World} {c : Value}
theorem runs_field (s f : Nat) (x : Operand) (ho : o.op = .fieldAddr s x f) (fs : Array Field) (hs : P.underlying s = some (.struct fs)) (fld : Field) (hf : fs[f]? = some fld) (m : Nat) (hm : ∀ w, (sizeOf fld.type).run P w = .ok m w) (hm0 : m ≠ 0) (b off : Nat) (hx : ρ x = .pointer (some ⟨b, off, none⟩)) :
    RunsTo P ρ o w (.pointer (some ⟨b, off + fld.offset, none⟩)) w := by
  have ea : ((⟨b, off, none⟩ : Addr).add fld.offset) = ⟨b, off + fld.offset, none⟩ := by
    unfold Addr.add
    split
    · rename_i h0; simp [h0]
    · rfl
  have hr : (execOp ρ o).run P w = .ok (.value (.pointer (some ((⟨b, off, none⟩ : Addr).add fld.offset)))) w := by
    simp [execOp, ho, hx, Instr.fieldAt, run_underlying hs, hf, Instr.sureAddr, fieldPlace, hm, hm0]
  rw [ea] at hr
  exact .inl hr
theorem runs_load1 (t : TypeId) (x : Operand) (ho : o.op = .load t x) (ha : ∀ w, (isAgg t).run P w = .ok false w) (q : Addr) (hx : ρ x = .pointer (some q)) (hc : w.cell? q = some c) : RunsTo P ρ o w c w := by
  refine .inl ?_
  simp [execOp, ho, hx, Instr.loadAt, Instr.sureAddr, loadVar, ha, load, Sem.run, hc]
theorem runs_call (f : FuncId) (hf : ∀ args w, (callFunc f args).run P w = .ok (.enter f args) w) (xs : List Operand) (ts : Array TypeId) (ho : o.op = .call { callee := .value (.func f), args := xs.toArray, argTypes := ts }) (hfn : ρ (.func f) = .func (.func f) #[] #[])
    (vs : List Value) (hv : OpVals ρ xs vs) {w' : World} (h : Calls P f vs.toArray w fun e w'' => e = .returned c ∧ w'' = w') : RunsTo P ρ o w c w' := by
  have hr : (execOp ρ o).run P w = .ok (.enter f vs.toArray) w := by
    have := hv.map
    simp [execOp, ho, resolve, Deferred.ofValue, hfn, invoke, this, hf]
  exact .inr (.inr ⟨f, _, hr, h⟩)
end
section
variable {P : Program} {x : Value} {s i : Nat} {early : List Nat} {W W1 : World} {ρ : Operand → Value} {o : Oper}
theorem obl_same (his : i ≠ s) (h : RunsTo P ρ o W x W) : if i = s then RunsTo P ρ o W x W else RunsTo P ρ o W x W ∧ (early.contains i = false → RunsTo P ρ o W x W) := by
  rw [if_neg his]; exact ⟨h, fun _ => h⟩
theorem obl_store (his : i = s) (h : RunsTo P ρ o W x W1) : if i = s then RunsTo P ρ o W x W1 else RunsTo P ρ o W x W ∧ (early.contains i = false → RunsTo P ρ o W1 x W1) := by
  rw [if_pos his]; exact h
end

def orZ (a b : Int) : Int := if a ≠ 0 then a else b
set_option maxRecDepth 100000 in
set_option maxHeartbeats 1600000 in
theorem cmpOr_any (A : Option Addr) (c : Nat) (a b : Int) (w : World) (hs : Sl intEl w A [a, b]) : Calls Try.prog 57 #[.slice A 2 c] w fun e w' => e = .returned (.int .i64 (orZ a b)) ∧ w' = w := by
  obtain ⟨blk, off, rfl, hb, h0⟩ := intAt hs (k := 0) (by simp)
  obtain ⟨blk', off', he, -, h1⟩ := intAt hs (k := 1) (by simp)
  simp only [Option.some.injEq, Addr.mk.injEq] at he
  obtain ⟨rfl, rfl, -⟩ := he
  simp only [List.getElem_cons_zero, List.getElem_cons_succ, Nat.add_zero] at h0 h1
  obtain ⟨z, hz⟩ : ∃ z, orZ a b = z := ⟨_, rfl⟩
  rw [hz]
  unfold orZ at hz
  by_cases ha : a = 0
  · rw [if_neg (by simp [ha])] at hz
    subst hz
    have d1 : (a != 0) = false := by simp [ha]
    by_cases hb0 : b = 0
    · have d2 : (b != 0) = false := by simp [hb0]
      clear ha
      have Hb0 := Lib.hid hb0
      clear hb0
      go_enter Try.func57, Try.ntmps57
      go_wp2
      go_loopw [8] (fun vk wr => ∃ k : Nat, k ≤ 2 ∧ vk = .int .i64 (k : Nat) ∧ Hid (wr = w)) (fun vk _ => 2 - (intOf vk).toNat)
      case atStart => exact ⟨0, by omega, rfl, Lib.hid rfl⟩
      case round =>
        obtain ⟨k, hk, rfl, HW⟩ := hrel
        have hwe := HW.out
        subst hwe
        by_cases hlt : k < 2
        · have d3 : decide ((k : Int) < 2) = true := decide_eq_true (by omega)
          have hck : wr.cell? ⟨blk, off + k, none⟩ = some (.int .i64 (if k = 0 then a else b)) := by
            rcases Nat.lt_or_ge k 1 with h | h
            · obtain rfl : k = 0 := by omega
              simpa using h0
            · obtain rfl : k = 1 := by omega
              simpa using h1
          have d4 : ((if k = 0 then a else b) != 0) = false := by split <;> assumption
          generalize (if k = 0 then a else b) = cv at hck d4
          clear h0 h1
          go_wp2
          go_roundw
          case rel => exact ⟨k + 1, by omega, by go_num, Lib.hid (by simp)⟩
          case measure => simp [intOf]; omega
        · have d3 : decide ((k : Int) < 2) = false := decide_eq_false (by omega)
          go_wp2
          go_ret
          exact ⟨by rw [Hb0.out]; rfl, rfl⟩
    · have d2 : (b != 0) = true := by simp [hb0]
      clear ha hb0
      go_enter Try.func57, Try.ntmps57
      go_wp2
      go_loopw [8] (fun vk wr => ∃ k : Nat, k ≤ 1 ∧ vk = .int .i64 (k : Nat) ∧ Hid (wr = w)) (fun vk _ => 2 - (intOf vk).toNat)
      case atStart => exact ⟨0, by omega, rfl, Lib.hid rfl⟩
      case round =>
        obtain ⟨k, hk, rfl, HW⟩ := hrel
        have hwe := HW.out
        subst hwe
        have d3 : decide ((k : Int) < 2) = true := decide_eq_true (by omega)
        by_cases hlt : k < 1
        · obtain rfl : k = 0 := by omega
          go_wp2
          go_roundw
          case rel => exact ⟨1, by omega, by go_num, Lib.hid (by simp)⟩
          case measure => simp [intOf]
        · obtain rfl : k = 1 := by omega
          go_wp2
          go_ret
          exact ⟨rfl, rfl⟩
  · rw [if_pos ha] at hz
    subst hz
    have d1 : (a != 0) = true := by simp [ha]
    clear ha
    go_enter Try.func57, Try.ntmps57
    go_wp2
    go_loopw [8] (fun vk wr => vk = .int .i64 0 ∧ Hid (wr = w)) (fun vk _ => 2 - (intOf vk).toNat)
    case atStart => exact ⟨rfl, Lib.hid rfl⟩
    case round =>
      obtain ⟨rfl, HW⟩ := hrel
      have hwe := HW.out
      subst hwe
      go_wp2
      go_ret
      exact ⟨rfl, rfl⟩

open Go.Sort in
set_option maxRecDepth 100000 in
set_option maxHeartbeats 1600000 in
theorem refCmp_any (x y : Int × Int) (w : World) : Calls Try.prog 56 #[.agg (refEl.E x).toArray, .agg (refEl.E y).toArray] w fun e w' => e = .returned (.int .i64 (orZ (Lib.compareInt x.1 y.1) (Lib.compareInt x.2 y.2))) ∧ ∃ q os', w' = grow (w.drewN q) os' := by
  have hc1 := fun w => Try.cmp_Compare_int x.1 y.1 w
  have hc2 := fun w => Try.cmp_Compare_int x.2 y.2 w
  generalize Lib.compareInt x.1 y.1 = ca at hc1 ⊢
  generalize Lib.compareInt x.2 y.2 = cb at hc2 ⊢
  have HC1 := Lib.hid hc1
  have HC2 := Lib.hid hc2
  clear hc1 hc2
  obtain ⟨ww, hww⟩ : ∃ ww, ((w.alloc (.cells #[.int .i64 x.1, .int .i64 x.2] 83)).alloc (.cells #[.int .i64 y.1, .int .i64 y.2] 83)) = ww := ⟨_, rfl⟩
  have hcl : ∀ W : World, W = ww.drew → W.cell? ⟨w.heap.size, 0, none⟩ = some (.int .i64 x.1) ∧ W.cell? ⟨w.heap.size, 1, none⟩ = some (.int .i64 x.2) ∧ W.cell? ⟨w.heap.size + 1, 0, none⟩ = some (.int .i64 y.1) ∧ W.cell? ⟨w.heap.size + 1, 1, none⟩ = some (.int .i64 y.2) := fun W hW => by
    subst hW
    have e1 : ww.heap[w.heap.size]? = some (.cells #[.int .i64 x.1, .int .i64 x.2] 83 (0, 0)) := by
      rw [← hww]
      exact (((Ext.refl (w.alloc (.cells #[.int .i64 x.1, .int .i64 x.2] 83))).alloc (.cells #[.int .i64 y.1, .int .i64 y.2] 83)).block (k := w.heap.size) (by simp)).trans (heap_alloc_new w _)
    have e2 : ww.heap[w.heap.size + 1]? = some (.cells #[.int .i64 y.1, .int .i64 y.2] 83 (0, 0)) := by
      have := heap_alloc_new (w.alloc (.cells #[.int .i64 x.1, .int .i64 x.2] 83)) (.cells #[.int .i64 y.1, .int .i64 y.2] 83)
      rw [show (w.alloc (.cells #[.int .i64 x.1, .int .i64 x.2] 83)).heap.size = w.heap.size + 1 from by simp, hww] at this
      exact this
    show ww.cell? _ = _ ∧ ww.cell? _ = _ ∧ ww.cell? _ = _ ∧ ww.cell? _ = _
    simp [World.cell?, e1, e2]
  have Hww := Lib.hid hww
  show Calls Try.prog 56 #[.agg #[.int .i64 x.1, .int .i64 x.2], .agg #[.int .i64 y.1, .int .i64 y.2]] w _
  clear hww
  go_enter Try.func56, Try.ntmps56
  go_wp2_with fail
  rw [Hww.out]
  obtain ⟨hx1, hx2, hy1, hy2⟩ := hcl ww.drew rfl
  refine wp_drawn_store 10 9 [] (fun i => match i with | 0 => .pointer (some ⟨w.heap.size, 0, none⟩) | 1 => .int .i64 x.1 | 2 => .pointer (some ⟨w.heap.size + 1, 0, none⟩) | 3 => .int .i64 y.1 | 4 => .int .i64 ca | 5 => .pointer (some ⟨w.heap.size, 1, none⟩) | 6 => .int .i64 x.2 | 7 => .pointer (some ⟨w.heap.size + 1, 1, none⟩) | 8 => .int .i64 y.2 | 9 => .int .i64 cb | _ => undef) (by kernel_rfl) (by kernel_rfl) (by kernel_rfl) (by kernel_rfl) (by decide) (by decide) rfl ?_
  refine ⟨ww.drew, ?_⟩
  refine ⟨rfl, obl_same (by decide) (runs_field 83 0 (.tmp 2) rfl _ Try.underlying83 _ rfl 1 Try.sizeOf3 (by decide) w.heap.size 0 rfl), ?_⟩
  refine ⟨rfl, obl_same (by decide) (runs_load1 3 (.tmp 5) rfl Try.isAgg3 _ rfl hx1), ?_⟩
  refine ⟨rfl, obl_same (by decide) (runs_field 83 0 (.tmp 3) rfl _ Try.underlying83 _ rfl 1 Try.sizeOf3 (by decide) (w.heap.size + 1) 0 rfl), ?_⟩
  refine ⟨rfl, obl_same (by decide) (runs_load1 3 (.tmp 7) rfl Try.isAgg3 _ rfl hy1), ?_⟩
  refine ⟨rfl, obl_same (by decide) (runs_call 58 Try.call58 [.tmp 6, .tmp 8] _ rfl rfl [.int .i64 x.1, .int .i64 y.1] ⟨rfl, rfl, trivial⟩ (w' := ww.drew) (HC1.out ww.drew)), ?_⟩
  refine ⟨rfl, obl_same (by decide) (runs_field 83 1 (.tmp 2) rfl _ Try.underlying83 _ rfl 1 Try.sizeOf3 (by decide) w.heap.size 0 rfl), ?_⟩
  refine ⟨rfl, obl_same (by decide) (runs_load1 3 (.tmp 10) rfl Try.isAgg3 _ rfl hx2), ?_⟩
  refine ⟨rfl, obl_same (by decide) (runs_field 83 1 (.tmp 3) rfl _ Try.underlying83 _ rfl 1 Try.sizeOf3 (by decide) (w.heap.size + 1) 0 rfl), ?_⟩
  refine ⟨rfl, obl_same (by decide) (runs_load1 3 (.tmp 12) rfl Try.isAgg3 _ rfl hy2), ?_⟩
  refine ⟨rfl, obl_store rfl (runs_call 58 Try.call58 [.tmp 11, .tmp 13] _ rfl rfl [.int .i64 x.2, .int .i64 y.2] ⟨rfl, rfl, trivial⟩ (w' := ww.drew) (HC2.out ww.drew)), ?_⟩
  refine OblsSE.nil ?_
  simp only [List.drop_succ_cons, List.drop_zero, putE, setsE, List.set_cons_succ, List.set_cons_zero, Nat.reduceAdd]
  have hor := fun W A c h => cmpOr_any A c ca cb W h
  go_wp2_with fail
  have hsl : Sl intEl ((ww.alloc (.cells #[.int .i64 ca, .int .i64 cb] 3)).drew) (some ⟨ww.heap.size, 0, none⟩) [ca, cb] := (Sl.new intEl (w := ww) (xs := [ca, cb]) rfl).ext (Ext.drew (Ext.refl _))
  refine (hor _ (some ⟨ww.heap.size, 0, none⟩) 2 hsl).mono ?_
  rintro e w' ⟨rfl, rfl⟩
  go_wp2
  go_ret
  refine ⟨rfl, 1, #[.cells #[.int .i64 x.1, .int .i64 x.2] 83, .cells #[.int .i64 y.1, .int .i64 y.2] 83, .cells #[.int .i64 ca, .int .i64 cb] 3], ?_⟩
  rw [← Hww.out, alloc_eq_grow, alloc_eq_grow, alloc_eq_grow, grow_grow, grow_grow]
  rfl

def lessR (x y : Int × Int) : Bool := decide (x.1 < y.1) || (decide (x.1 = y.1) && decide (x.2 < y.2))
theorem lessR_iff (x y : Int × Int) : lessR x y = true ↔ x.1 < y.1 ∨ (x.1 = y.1 ∧ x.2 < y.2) := by simp [lessR]
theorem lessR_not (x y : Int × Int) : lessR x y = false ↔ ¬ (x.1 < y.1 ∨ (x.1 = y.1 ∧ x.2 < y.2)) := by
  rw [← lessR_iff]; simp
def cfR (x y : Int × Int) : Int := orZ (Lib.compareInt x.1 y.1) (Lib.compareInt x.2 y.2)
theorem ltR (x y : Int × Int) : ltOf cfR x y = lessR x y := by
  unfold ltOf cfR orZ Lib.compareInt
  rw [Bool.eq_iff_iff, lessR_iff]
  by_cases h1 : x.1 < y.1
  · simp [h1]
  · by_cases h2 : y.1 < x.1
    · simp [h1, h2]; omega
    · have h3 : x.1 = y.1 := by omega
      by_cases h4 : x.2 < y.2
      · simp [h3, h4]
      · by_cases h5 : y.2 < x.2 <;> simp [h3, h4, h5]
open Go.Sort in
theorem swoR : SWO (ltOf cfR) where
  irrefl x := by rw [ltR, lessR_not]; omega
  trans x y z h1 h2 := by rw [ltR, lessR_iff] at *; omega
  ntrans x y z h1 h2 := by rw [ltR, lessR_not] at *; omega
theorem lessR_tot {x y : Int × Int} (h1 : lessR x y = false) (h2 : lessR y x = false) : x = y := by
  rw [lessR_not] at h1 h2
  exact Prod.ext (by omega) (by omega)

end Go.Proofs.Ytkbmocgjbhmioaa
