/- slices.Compact of a row of references: what it needs. -/
import Derived.Test.YtkbmocgjbhmioaaSort22
namespace Go.Proofs.Ytkbmocgjbhmioaa
open Go.RowKit

section
variable {P : Program} {ρ : Operand → Value} {o : Oper} {w : World} {c : Value}
theorem runs_move (x : Operand) (ho : o.op = .move x) (hx : ρ x = c) : RunsTo P ρ o w c w := .inl (by simp [execOp, ho, hx])
variable {α : Type} (D : El P α) {xs : List α} {g cap base : Nat}
theorem runs_loadAt (hag : D.agg = true) (x : Operand) (ho : o.op = .load D.e x) (k off : Nat) (hoff : off = k * D.m) (hx : ρ x = .pointer (some ⟨g, off, none⟩)) (hown : Own D base w (.slice (some ⟨g, 0, none⟩) xs.length cap) xs) (y : α) (hk : xs[k]? = some y) : RunsTo P ρ o w (.agg (D.E y).toArray) w := by
  subst hoff
  obtain ⟨i', hi', _, hsz, _⟩ := info_parts D.hi
  have hs : ∀ w, (sizeOf D.e).run P w = .ok (D.E y).length w := fun w => by simp [sizeOf, typeInfo, hi', hsz, D.hE]
  have ha : ∀ w, (isAgg D.e).run P w = .ok true w := fun w => by rw [D.hagg w, hag]
  obtain ⟨hlt, hky⟩ := List.getElem?_eq_some_iff.1 hk
  obtain ⟨A, c', hv, hc, hsl⟩ := hown.form
  cases hv
  obtain ⟨b, off, hA, hb, hcell⟩ := hsl.at_ hlt
  cases hA
  rw [hky] at hcell
  have hl := run_loadCells_list (P := P) w ⟨g, k * D.m, none⟩ (D.E y) (fun j u hu => by
    have := hcell j u hu
    rw [Nat.zero_add] at this
    unfold Addr.add
    split
    · rename_i h0; subst h0; simpa using this
    · exact this)
  refine .inl ?_
  simp [execOp, ho, hx, Instr.loadAt, Instr.sureAddr, loadVar, ha, hs, hl]
theorem wpList_runs {w' : World} {ops : Array Oper} {rest : List Oper} {o : Oper} {a : Act} {Q : Exit → Act → World → Prop} {x : Value} (hgd : o.guard = none) (hr : RunsTo P a.eval o w x w') (h : wpList P ops Q rest (a.put o.dst x) w') : wpList P ops Q (o :: rest) a w := by
  refine wpList_plain hgd fun K hK => ?_
  unfold Oper.wp
  rcases hr with hr | ⟨hr, rfl⟩ | ⟨f, args, hr, hc⟩
  · rw [hr]; exact hK _ _ h
  · rw [hr]; exact hK _ _ h
  · rw [hr]
    refine Calls.mono hc ?_
    rintro e w'' ⟨rfl, rfl⟩
    exact hK _ _ h
/-- x[lo:], with its place -/
theorem runs_slFrom (x lo : Operand) (ho : o.op = .slice D.t x (some lo) none none) (n : Nat) (hx : ρ x = .slice (some ⟨g, 0, none⟩) n cap) (l : Nat) (hlo : ρ lo = .int .i64 l) (h1 : l ≤ n) (h2 : n ≤ cap) (h3 : l < cap) : RunsTo P ρ o w (.slice (some ⟨g, l * D.m, none⟩) (n - l) (cap - l)) w := by
  have hr := run_slice_any D (w := w) (A := some ⟨g, 0, none⟩) (c := cap) n l n cap (some (.int .i64 l)) none none rfl rfl rfl h1 h2 (Nat.le_refl _) h2
  have ea : ((⟨g, 0, none⟩ : Addr).add (l * D.m)) = ⟨g, l * D.m, none⟩ := by
    unfold Addr.add
    split
    · rename_i h0; simp [h0]
    · simp
  rw [if_neg (by omega)] at hr
  refine .inl ?_
  simp [execOp, ho, hx, hlo, hr, ea]
/-- the tail of a row is cleared -/
theorem runs_clear (hzv : ∀ w, (zeroValue D.e).run P w = .ok D.z w) (z0 : α) (hz0 : D.E z0 = D.z.cells.toList) (i c' : Nat) (hi : i < xs.length) (hown : Own D base w (.slice (some ⟨g, 0, none⟩) xs.length cap) xs) :
    ∃ w', Kp g w w' ∧ Own D base w' (.slice (some ⟨g, 0, none⟩) xs.length cap) (xs.take i ++ List.replicate (xs.length - i) z0) ∧
      ∀ (ρ : Operand → Value) (o : Oper) (x : Operand), o.op = .call { callee := .builtin .clear, args := #[x], argTypes := #[D.t] } → ρ x = .slice (some ⟨g, i * D.m, none⟩) (xs.length - i) c' → RunsTo P ρ o w (.tuple #[]) w' := by
  rcases hown.2 with ⟨hv, _⟩ | ⟨g', cap', cur, hv, hg, hh, hn, hc, hcs, ht⟩
  · cases hv
  · cases hv
    have hzl : D.z.cells.size = D.m := D.hz
    obtain ⟨vs, hvs⟩ : ∃ vs, (Builtin.zeroCells D.z.cells (xs.length - i)).toList = vs := ⟨_, rfl⟩
    have hvl : vs.length = (xs.length - i) * D.m := by rw [← hvs]; simp [Builtin.zeroCells, hzl]
    have hve : vs = D.flat (List.replicate (xs.length - i) z0) := by
      apply List.ext_getElem?
      intro t
      rcases Nat.lt_or_ge t ((xs.length - i) * D.m) with htl | htl
      · have hm := D.hm
        have hk : t / D.m < xs.length - i := Nat.div_lt_of_lt_mul (by rw [Nat.mul_comm]; exact htl)
        have hj : t % D.m < D.m := Nat.mod_lt _ hm
        have hu : (D.E z0)[t % D.m]? = some ((D.E z0)[t % D.m]'(by rw [D.hE]; exact hj)) := List.getElem?_eq_getElem _
        have hf := D.flat_get (List.replicate (xs.length - i) z0) (t / D.m) (t % D.m) z0 _ (by simp [hk]) hu
        rw [Nat.div_add_mod'] at hf
        rw [hf, ← hvs]
        have : D.z.cells.toList[t % D.m]? = (D.E z0)[t % D.m]? := by rw [hz0]
        rw [hu] at this
        have h3 : t % D.m < D.z.cells.size := by rw [hzl]; exact hj
        simp only [Builtin.zeroCells, hzl, Array.toList_map, List.getElem?_map, Array.toList_range, List.getElem?_range htl, Option.map_some]
        rw [← this]
        simp [h3]
      · rw [List.getElem?_eq_none (by omega), List.getElem?_eq_none (by rw [D.flat_length]; simpa using htl)]
    have hcm : xs.length * D.m ≤ cur.size := by rw [hcs]; exact Nat.mul_le_mul_right _ hn
    have him : i * D.m + (xs.length - i) * D.m = xs.length * D.m := by rw [← Nat.add_mul]; congr 1; omega
    have h1 : ∀ v ∈ vs, v.oneCell' = true := by rw [hve]; exact fun v hv => D.flat_mem v hv
    have hrun := run_storeCells_at (P := P) g (i * D.m) D.e vs 0 cur w hh (by rw [hvl]; omega) h1
    rw [Nat.add_zero] at hrun
    refine ⟨w.setRow g (cur.toList.take (i * D.m) ++ vs ++ cur.toList.drop (i * D.m + vs.length)).toArray, Kp.put (fun k hk => setRow_other w g k _ hk) rfl rfl rfl (by simp), ?_, ?_⟩
    · have hbk := setRow_heap w g cur (cur.toList.take (i * D.m) ++ vs ++ cur.toList.drop (i * D.m + vs.length)).toArray D.e _ hh
      have hll : (xs.take i ++ List.replicate (xs.length - i) z0).length = xs.length := by simp; omega
      have hti : cur.toList.take (i * D.m) = D.flat (xs.take i) := by
        have e1 : D.flat xs = D.flat (xs.take i) ++ D.flat (xs.drop i) := by rw [← D.flat_append, List.take_append_drop]
        have e2 : (D.flat (xs.take i)).length = i * D.m := by rw [D.flat_length, List.length_take, Nat.min_eq_left (by omega)]
        have e3 : cur.toList.take (i * D.m) = (cur.toList.take (xs.length * D.m)).take (i * D.m) := by rw [List.take_take, Nat.min_eq_left (by omega)]
        rw [e3, ht, e1, ← e2, List.take_left]
      unfold Own World.ownsRow
      rw [hll]
      refine ⟨by rw [D.flat_length, hll], .inr ⟨g, _, _, rfl, hg, hbk, hn, hc, ?_, ?_⟩⟩
      · simp only [List.size_toArray, List.length_append, List.length_take, List.length_drop, Array.length_toList, hvl]
        omega
      · rw [List.toList_toArray, hti, D.flat_append, ← hve]
        have e4 : (D.flat (xs.take i) ++ vs).length = xs.length * D.m := by rw [List.length_append, D.flat_length, hvl, List.length_take, Nat.min_eq_left (by omega)]; exact him
        rw [← e4]
        exact List.take_left
    · intro ρ o x ho hx
      refine .inl ?_
      obtain ⟨q, hq⟩ : ∃ q, xs.length - i = q + 1 := ⟨xs.length - i - 1, by omega⟩
      rw [hq] at hx hvs
      simp [execOp, ho, resolve, invoke, builtin, hx, Builtin.clear_, run_underlying D.ht, hzv, hvs, hrun]
/-- an element of the call's own row is set: one world for every reader -/
theorem runs_store (hown : Own D base w (.slice (some ⟨g, 0, none⟩) xs.length cap) xs) (k : Nat) (hk : k < xs.length) (r : α) :
    ∃ w', Kp g w w' ∧ Own D base w' (.slice (some ⟨g, 0, none⟩) xs.length cap) (xs.set k r) ∧
      ∀ (ρ : Operand → Value) (o : Oper) (x y : Operand), o.op = .store D.e x y → ρ x = .pointer (some ⟨g, k * D.m, none⟩) → ρ y = .agg (D.E r).toArray → RunsTo P ρ o w undef w' := by
  obtain ⟨i, hi, _, hsz, _⟩ := info_parts D.hi
  have hs : ∀ w, (sizeOf D.e).run P w = .ok D.m w := fun w => by simp [sizeOf, typeInfo, hi, hsz]
  rcases hown.2 with ⟨hv, h0⟩ | ⟨g', cap, cur, hv, hg, hh, hn, hc, hcs, ht⟩
  · cases hv
  · cases hv
    have hkm : k * D.m + D.m ≤ xs.length * D.m := by rw [← Nat.succ_mul]; exact Nat.mul_le_mul_right _ hk
    have hcm : xs.length * D.m ≤ cur.size := by rw [hcs]; exact Nat.mul_le_mul_right _ hn
    have hrun := run_storeCells_at (P := P) g (k * D.m) D.e (D.E r) 0 cur w hh (by rw [D.hE]; omega) (fun v hv => D.h1 r v hv)
    refine ⟨w.setRow g (cur.toList.take (k * D.m + 0) ++ D.E r ++ cur.toList.drop (k * D.m + 0 + (D.E r).length)).toArray, Kp.put (fun j hj => setRow_other w g j _ hj) rfl rfl rfl (by simp), ?_, ?_⟩
    · have hbk := setRow_heap w g cur (cur.toList.take (k * D.m + 0) ++ D.E r ++ cur.toList.drop (k * D.m + 0 + (D.E r).length)).toArray D.e _ hh
      rw [Nat.add_zero] at hbk ⊢
      have hl : (D.flat (xs.set k r)).length = xs.length * D.m := by rw [D.flat_length, List.length_set]
      have hdec : xs.set k r = xs.take k ++ r :: xs.drop (k + 1) := by rw [List.set_eq_take_append_cons_drop, if_pos hk]
      have hdec0 : xs = xs.take k ++ xs[k] :: xs.drop (k + 1) := by rw [← List.drop_eq_getElem_cons hk, List.take_append_drop]
      have hlk : (D.flat (xs.take k)).length = k * D.m := by rw [D.flat_length, List.length_take, Nat.min_eq_left (by omega)]
      have hlr : (D.flat (xs.drop (k + 1))).length = xs.length * D.m - (k * D.m + D.m) := by
        rw [D.flat_length, List.length_drop, Nat.sub_mul, Nat.succ_mul]
      have hcurr : cur.toList = D.flat (xs.take k) ++ (D.E xs[k] ++ (D.flat (xs.drop (k + 1)) ++ cur.toList.drop (xs.length * D.m))) := by
        have e0 : cur.toList = D.flat xs ++ cur.toList.drop (xs.length * D.m) := by
          conv => lhs; rw [← List.take_append_drop (xs.length * D.m) cur.toList, ht]
        have e1 : D.flat xs = D.flat (xs.take k) ++ (D.E xs[k] ++ D.flat (xs.drop (k + 1))) := by
          conv => lhs; rw [hdec0, D.flat_append]
          simp only [El.flat, List.flatMap_cons]
        rw [e1] at e0
        conv => lhs; rw [e0]
        simp only [List.append_assoc]
      have e2 : cur.toList.take (k * D.m) = D.flat (xs.take k) := by
        rw [hcurr, ← hlk]; exact List.take_left
      have e3 : cur.toList.drop (k * D.m + (D.E r).length) = D.flat (xs.drop (k + 1)) ++ cur.toList.drop (xs.length * D.m) := by
        rw [D.hE]
        conv => lhs; rw [hcurr]
        rw [← List.append_assoc, List.drop_left' (by rw [List.length_append, hlk, D.hE])]
      unfold Own World.ownsRow
      rw [List.length_set]
      refine ⟨hl, .inr ⟨g, _, _, rfl, hg, hbk, hn, hc, ?_, ?_⟩⟩
      · simp only [List.size_toArray, List.length_append, List.length_take, List.length_drop, Array.length_toList, D.hE]
        omega
      · rw [List.toList_toArray, e2, e3]
        have e4 : D.flat (xs.set k r) = D.flat (xs.take k) ++ D.E r ++ D.flat (xs.drop (k + 1)) := by
          rw [hdec, D.flat_append]
          simp [El.flat]
        rw [← List.append_assoc, ← e4, ← hl]
        exact List.take_left
    · intro ρ o x y ho hx hy
      have hr : (storeVar D.e ⟨g, k * D.m, none⟩ (.agg (D.E r).toArray)).run P w = .ok () (w.setRow g (cur.toList.take (k * D.m + 0) ++ D.E r ++ cur.toList.drop (k * D.m + 0 + (D.E r).length)).toArray) := by
        have hl : (D.E r).length = D.m := D.hE r
        have hz : (Value.agg (D.E r).toArray).cells.size = D.m := by simp [Value.cells, hl]
        simp [storeVar, hs, hz, Value.cells] at hrun ⊢
        rw [hrun, if_pos hl]
      simp [RunsTo, execOp, ho, hx, hy, Instr.storeAt, Instr.sureAddr, hr]
end

/-! ### neighbours that are alike are struck -/
def ddL (xs : List (Int × Int)) : List (Int × Int) := xs.foldl (fun acc y => if acc.getLast? = some y then acc else acc ++ [y]) []
theorem ddL_snoc (xs : List (Int × Int)) (y : Int × Int) : ddL (xs ++ [y]) = if (ddL xs).getLast? = some y then ddL xs else ddL xs ++ [y] := by
  unfold ddL
  rw [List.foldl_append]
  rfl
theorem ddL_take {xs : List (Int × Int)} {k : Nat} (h : k < xs.length) : ddL (xs.take (k + 1)) = if (ddL (xs.take k)).getLast? = some xs[k] then ddL (xs.take k) else ddL (xs.take k) ++ [xs[k]] := by
  rw [List.take_succ_eq_append_getElem h, ddL_snoc]
theorem ddL_last {xs : List (Int × Int)} : ∀ k (h : k < xs.length), (ddL (xs.take (k + 1))).getLast? = some xs[k] := by
  intro k h
  rw [ddL_take h]
  split
  · rename_i h2; exact h2
  · simp
theorem ddL_next {xs : List (Int × Int)} {k : Nat} (h : k + 1 < xs.length) : ddL (xs.take (k + 1 + 1)) = if xs[k] = xs[k + 1] then ddL (xs.take (k + 1)) else ddL (xs.take (k + 1)) ++ [xs[k + 1]] := by
  rw [ddL_take h, ddL_last k (by omega)]
  simp only [Option.some.injEq]

end Go.Proofs.Ytkbmocgjbhmioaa
