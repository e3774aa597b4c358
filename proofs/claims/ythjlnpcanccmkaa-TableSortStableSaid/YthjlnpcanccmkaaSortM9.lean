/- Sorting a row of units in place: what stays while the row turns, and the exact outcomes of the operations that exchange two of its places. -/
import Derived.Test.YthjlnpcanccmkaaEngS
import Derived.Test.YthjlnpcanccmkaaTree
import Derived.Test.YthjlnpcanccmkaaSortP
namespace Go.Proofs.Ythjlnpcanccmkaa
open Go.RowKit

/-- a unit's cells beside the tree that they read as -/
def pairEl : El Try.prog (RUnit × GUnit) := { unitEl with E := fun p => p.1.cells, hE := fun _ => rfl, h1 := fun p => unitEl.h1 p.1 }

/-- everything but the block g stays -/
structure Kp (g : Nat) (w w' : World) : Prop where
  os : w'.os = w.os
  tape : w'.tape = w.tape
  output : w'.output = w.output
  size : w.heap.size ≤ w'.heap.size
  block : ∀ k, k < w.heap.size → k ≠ g → w'.heap[k]? = w.heap[k]?
theorem Kp.refl (g : Nat) (w : World) : Kp g w w := ⟨rfl, rfl, rfl, Nat.le_refl _, fun _ _ _ => rfl⟩
theorem Kp.trans {g : Nat} {a b c : World} (h : Kp g a b) (k : Kp g b c) : Kp g a c := ⟨k.os.trans h.os, k.tape.trans h.tape, k.output.trans h.output, Nat.le_trans h.size k.size, fun j hj hg => (k.block j (by have := h.size; omega) hg).trans (h.block j hj hg)⟩
theorem Kp.of_ext {g : Nat} {w w' : World} (h : Ext w w') : Kp g w w' := ⟨h.os, h.tape, h.output, h.size, fun k hk _ => h.block hk⟩
theorem Kp.put {g : Nat} {w w' : World} (h1 : ∀ k, k ≠ g → w'.heap[k]? = w.heap[k]?) (h2 : w'.os = w.os) (h3 : w'.tape = w.tape) (h4 : w'.output = w.output) (h5 : w'.heap.size = w.heap.size) : Kp g w w' := ⟨h2, h3, h4, by omega, fun k _ hg => h1 k hg⟩
theorem Kp.toExt {g : Nat} {w0 w w' : World} (h : Kp g w w') (he : Ext w0 w) (hg : w0.heap.size ≤ g) : Ext w0 w' :=
  ⟨h.os.trans he.os, h.tape.trans he.tape, h.output.trans he.output, Nat.le_trans he.size h.size, fun k hk => (h.block k (Nat.lt_of_lt_of_le hk he.size) (by omega)).trans (he.block hk)⟩
theorem Kp.cin {g : Nat} {w w' : World} (h : Kp g w w') : CIn (mask (fun k => k == g) w) (mask (fun k => k == g) w') :=
  CIn.keep h.size fun k hk hp => ⟨h.block k hk (by simpa using hp), hp⟩

section
variable {P : Program} {ρ : Operand → Value} {o : Oper} {w : World} {c : Value}
theorem runs_move (x : Operand) (ho : o.op = .move x) (hx : ρ x = c) : RunsTo P ρ o w c w := .inl (by simp [execOp, ho, hx])
theorem runs_bin (op : BinOp) (t t' : TypeId) (x y : Operand) (ho : o.op = .binOp op t x y t') (a b : Int) (hx : ρ x = .int .i64 a) (hy : ρ y = .int .i64 b) (hr : ∀ w, (binOp op t (.int .i64 a) (.int .i64 b)).run P w = .ok c w) : RunsTo P ρ o w c w :=
  .inl (by cases op <;> simp [execOp, ho, hx, hy, eqGuard, hr])
theorem bin_sub (t : TypeId) (a b c : Int) (h : a - b = c) (h1 : -9223372036854775808 ≤ c) (h2 : c ≤ 9223372036854775807) (w : World) : (binOp .sub t (.int .i64 a) (.int .i64 b)).run P w = .ok (.int .i64 c) w := by
  subst h; exact run_sub_i64 t a b h1 h2 w
theorem bin_add (t : TypeId) (a b c : Int) (h : a + b = c) (h1 : -9223372036854775808 ≤ c) (h2 : c ≤ 9223372036854775807) (w : World) : (binOp .add t (.int .i64 a) (.int .i64 b)).run P w = .ok (.int .i64 c) w := by
  subst h; exact run_add_i64 t a b h1 h2 w
variable {α : Type} (D : El P α) {xs : List α} {g cap base : Nat}
theorem runs_index (x i : Operand) (ho : o.op = .indexAddr D.t x i) (n : Nat) (hx : ρ x = .slice (some ⟨g, 0, none⟩) n cap) (k : Nat) (hi : ρ i = .int .i64 k) (hk : k < n) : RunsTo P ρ o w (.pointer (some ⟨g, k * D.m, none⟩)) w := by
  obtain ⟨i', hi', _, hsz, _⟩ := info_parts D.hi
  have hs : ∀ w, (sizeOf D.e).run P w = .ok D.m w := fun w => by simp [sizeOf, typeInfo, hi', hsz]
  have hr : (execOp ρ o).run P w = .ok (.value (.pointer (some ((⟨g, 0, none⟩ : Addr).add (k * D.m))))) w := by
    simp [execOp, ho, hx, hi, Instr.indexAt, asIntOf, run_underlying D.ht, hs, hk]
  have ea : ((⟨g, 0, none⟩ : Addr).add (k * D.m)) = ⟨g, k * D.m, none⟩ := by
    unfold Addr.add
    split
    · rename_i h0; simp [h0]
    · simp
  rw [ea] at hr
  exact .inl hr
theorem runs_load (hag : D.agg = true) (x : Operand) (ho : o.op = .load D.e x) (k : Nat) (hx : ρ x = .pointer (some ⟨g, k * D.m, none⟩)) (hown : Own D base w (.slice (some ⟨g, 0, none⟩) xs.length cap) xs) (y : α) (hk : xs[k]? = some y) : RunsTo P ρ o w (.agg (D.E y).toArray) w := by
  obtain ⟨i', hi', _, hsz, _⟩ := info_parts D.hi
  have hs : ∀ w, (sizeOf D.e).run P w = .ok (D.E y).length w := fun w => by simp [sizeOf, typeInfo, hi', hsz, D.hE]
  have ha : ∀ w, (isAgg D.e).run P w = .ok true w := fun w => by rw [D.hagg w, hag]
  obtain ⟨hlt, hky⟩ := List.getElem?_eq_some_iff.1 hk
  obtain ⟨A, c', hv, hc, hsl⟩ := hown.form
  cases hv
  obtain ⟨b, off, hA, hb, hcell⟩ := hsl.at_ hlt
  cases hA
  rw [hky] at hcell
  have hl := run_loadCells_list (P := P) w ⟨g, k * D.m, none⟩ (D.E y) (fun j u hu => by
    have := hcell j u hu
    rw [Nat.zero_add] at this
    unfold Addr.add
    split
    · rename_i h0; subst h0; simpa using this
    · exact this)
  refine .inl ?_
  simp [execOp, ho, hx, Instr.loadAt, Instr.sureAddr, loadVar, ha, hs, hl]
/-- an element of the call's own row is set: one world for every reader -/
theorem runs_store (hown : Own D base w (.slice (some ⟨g, 0, none⟩) xs.length cap) xs) (k : Nat) (hk : k < xs.length) (r : α) :
    ∃ w', Kp g w w' ∧ Own D base w' (.slice (some ⟨g, 0, none⟩) xs.length cap) (xs.set k r) ∧
      ∀ (ρ : Operand → Value) (o : Oper) (x y : Operand), o.op = .store D.e x y → ρ x = .pointer (some ⟨g, k * D.m, none⟩) → ρ y = .agg (D.E r).toArray → RunsTo P ρ o w undef w' := by
  obtain ⟨i, hi, _, hsz, _⟩ := info_parts D.hi
  have hs : ∀ w, (sizeOf D.e).run P w = .ok D.m w := fun w => by simp [sizeOf, typeInfo, hi, hsz]
  rcases hown.2 with ⟨hv, h0⟩ | ⟨g', cap, cur, hv, hg, hh, hn, hc, hcs, ht⟩
  · cases hv
  · cases hv
    have hkm : k * D.m + D.m ≤ xs.length * D.m := by rw [← Nat.succ_mul]; exact Nat.mul_le_mul_right _ hk
    have hcm : xs.length * D.m ≤ cur.size := by rw [hcs]; exact Nat.mul_le_mul_right _ hn
    have hrun := run_storeCells_at (P := P) g (k * D.m) D.e (D.E r) 0 cur w hh (by rw [D.hE]; omega) (fun v hv => D.h1 r v hv)
    refine ⟨w.setRow g (cur.toList.take (k * D.m + 0) ++ D.E r ++ cur.toList.drop (k * D.m + 0 + (D.E r).length)).toArray, Kp.put (fun j hj => setRow_other w g j _ hj) rfl rfl rfl (by simp), ?_, ?_⟩
    · have hbk := setRow_heap w g cur (cur.toList.take (k * D.m + 0) ++ D.E r ++ cur.toList.drop (k * D.m + 0 + (D.E r).length)).toArray D.e _ hh
      rw [Nat.add_zero] at hbk ⊢
      have hl : (D.flat (xs.set k r)).length = xs.length * D.m := by rw [D.flat_length, List.length_set]
      have hdec : xs.set k r = xs.take k ++ r :: xs.drop (k + 1) := by rw [List.set_eq_take_append_cons_drop, if_pos hk]
      have hdec0 : xs = xs.take k ++ xs[k] :: xs.drop (k + 1) := by rw [← List.drop_eq_getElem_cons hk, List.take_append_drop]
      have hlk : (D.flat (xs.take k)).length = k * D.m := by rw [D.flat_length, List.length_take, Nat.min_eq_left (by omega)]
      have hlr : (D.flat (xs.drop (k + 1))).length = xs.length * D.m - (k * D.m + D.m) := by
        rw [D.flat_length, List.length_drop, Nat.sub_mul, Nat.succ_mul]
      have hcurr : cur.toList = D.flat (xs.take k) ++ (D.E xs[k] ++ (D.flat (xs.drop (k + 1)) ++ cur.toList.drop (xs.length * D.m))) := by
        have e0 : cur.toList = D.flat xs ++ cur.toList.drop (xs.length * D.m) := by
          conv => lhs; rw [← List.take_append_drop (xs.length * D.m) cur.toList, ht]
        have e1 : D.flat xs = D.flat (xs.take k) ++ (D.E xs[k] ++ D.flat (xs.drop (k + 1))) := by
          conv => lhs; rw [hdec0, D.flat_append]
          simp only [El.flat, List.flatMap_cons]
        rw [e1] at e0
        conv => lhs; rw [e0]
        simp only [List.append_assoc]
      have e2 : cur.toList.take (k * D.m) = D.flat (xs.take k) := by
        rw [hcurr, ← hlk]; exact List.take_left
      have e3 : cur.toList.drop (k * D.m + (D.E r).length) = D.flat (xs.drop (k + 1)) ++ cur.toList.drop (xs.length * D.m) := by
        rw [D.hE]
        conv => lhs; rw [hcurr]
        rw [← List.append_assoc, List.drop_left' (by rw [List.length_append, hlk, D.hE])]
      unfold Own World.ownsRow
      rw [List.length_set]
      refine ⟨hl, .inr ⟨g, _, _, rfl, hg, hbk, hn, hc, ?_, ?_⟩⟩
      · simp only [List.size_toArray, List.length_append, List.length_take, List.length_drop, Array.length_toList, D.hE]
        omega
      · rw [List.toList_toArray, e2, e3]
        have e4 : D.flat (xs.set k r) = D.flat (xs.take k) ++ D.E r ++ D.flat (xs.drop (k + 1)) := by
          rw [hdec, D.flat_append]
          simp [El.flat]
        rw [← List.append_assoc, ← e4, ← hl]
        exact List.take_left
    · intro ρ o x y ho hx hy
      have hr : (storeVar D.e ⟨g, k * D.m, none⟩ (.agg (D.E r).toArray)).run P w = .ok () (w.setRow g (cur.toList.take (k * D.m + 0) ++ D.E r ++ cur.toList.drop (k * D.m + 0 + (D.E r).length)).toArray) := by
        have hl : (D.E r).length = D.m := D.hE r
        have hz : (Value.agg (D.E r).toArray).cells.size = D.m := by simp [Value.cells, hl]
        simp [storeVar, hs, hz, Value.cells] at hrun ⊢
        rw [hrun, if_pos hl]
      simp [RunsTo, execOp, ho, hx, hy, Instr.storeAt, Instr.sureAddr, hr]
end

section
variable {P : Program} {x : Value} {s i : Nat} {early : List Nat} {W W1 : World} {ρ : Operand → Value} {o : Oper}
theorem obl_any (his : i ≠ s) (h : ∀ W, RunsTo P ρ o W x W) : if i = s then RunsTo P ρ o W x W1 else RunsTo P ρ o W x W ∧ (early.contains i = false → RunsTo P ρ o W1 x W1) := by
  rw [if_neg his]; exact ⟨h W, fun _ => h W1⟩
theorem obl_early (his : i ≠ s) (he : early.contains i = true) (h : RunsTo P ρ o W x W) : if i = s then RunsTo P ρ o W x W1 else RunsTo P ρ o W x W ∧ (early.contains i = false → RunsTo P ρ o W1 x W1) := by
  rw [if_neg his]; exact ⟨h, fun hh => by rw [he] at hh; cases hh⟩
theorem obl_store (his : i = s) (h : RunsTo P ρ o W x W1) : if i = s then RunsTo P ρ o W x W1 else RunsTo P ρ o W x W ∧ (early.contains i = false → RunsTo P ρ o W1 x W1) := by
  rw [if_pos his]; exact h
end

/-- the row in its block -/
structure Rw (g cap n : Nat) (w : World) (xs : List (RUnit × GUnit)) : Prop where
  len : xs.length = n
  own : Own pairEl 0 w (.slice (some ⟨g, 0, none⟩) xs.length cap) xs
theorem Rw.ext {g cap n : Nat} {w w' : World} {xs : List (RUnit × GUnit)} (h : Rw g cap n w xs) (he : Ext w w') : Rw g cap n w' xs := ⟨h.len, h.own.ext he⟩
theorem Rw.o {g cap n : Nat} {w : World} {xs : List (RUnit × GUnit)} (h : Rw g cap n w xs) : Own pairEl 0 w (.slice (some ⟨g, 0, none⟩) xs.length cap) xs := h.own
theorem Rw.store {g cap n : Nat} {w : World} {xs : List (RUnit × GUnit)} (h : Rw g cap n w xs) (k : Nat) (hk : k < n) (r : RUnit × GUnit) :
    ∃ w', Kp g w w' ∧ Rw g cap n w' (xs.set k r) ∧ ∀ (ρ : Operand → Value) (o : Oper) (x y : Operand), o.op = .store 27 x y → ρ x = .pointer (some ⟨g, k * 8, none⟩) → ρ y = .agg (pairEl.E r).toArray → RunsTo Try.prog ρ o w undef w' := by
  obtain ⟨hl, ho⟩ := h
  subst hl
  obtain ⟨w', h1, h2, h3⟩ := runs_store pairEl ho k hk r
  refine ⟨w', h1, ⟨by simp, ?_⟩, h3⟩
  rw [List.length_set]
  exact h2
theorem wpList_runs {P : Program} {w w' : World} {ops : Array Oper} {rest : List Oper} {o : Oper} {a : Act} {Q : Exit → Act → World → Prop} {x : Value} (hgd : o.guard = none) (hr : RunsTo P a.eval o w x w') (h : wpList P ops Q rest (a.put o.dst x) w') : wpList P ops Q (o :: rest) a w := by
  refine wpList_plain hgd fun K hK => ?_
  unfold Oper.wp
  rcases hr with hr | ⟨hr, rfl⟩
  · rw [hr]; exact hK _ _ h
  · rw [hr]; exact hK _ _ h
theorem Rw.keep {g cap n : Nat} {w : World} {xs : List (RUnit × GUnit)} (h : Rw g cap n w xs) : g < w.heap.size := (h.own.lt g rfl).2

end Go.Proofs.Ythjlnpcanccmkaa
