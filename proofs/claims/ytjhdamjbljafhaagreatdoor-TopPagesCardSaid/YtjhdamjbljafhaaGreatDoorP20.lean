/- slices.Delete of one unit, in place. -/
import Derived.Test.YtjhdamjbljafhaaGreatDoorP17
import Derived.Test.YtjhdamjbljafhaaGreatDoorP19
import Derived.Laws.OwnMore
namespace Go.Proofs.YtjhdamjbljafhaaGreatDoor
open Go.RowKit
section
variable {P : Program} {ρ : Operand → Value} {o : Oper} {w : World} {c : Value}
variable {α : Type} (D : El P α) {xs : List α} {g cap base : Nat}
theorem runs_clear (hzv : ∀ w, (zeroValue D.e).run P w = .ok D.z w) (z0 : α) (hz0 : D.E z0 = D.z.cells.toList) (i c' : Nat) (hi : i < xs.length) (hown : Own D base w (.slice (some ⟨g, 0, none⟩) xs.length cap) xs) :
    ∃ w', Kp g w w' ∧ Own D base w' (.slice (some ⟨g, 0, none⟩) xs.length cap) (xs.take i ++ List.replicate (xs.length - i) z0) ∧
      ∀ (ρ : Operand → Value) (o : Oper) (x : Operand), o.op = .call { callee := .builtin .clear, args := #[x], argTypes := #[D.t] } → ρ x = .slice (some ⟨g, i * D.m, none⟩) (xs.length - i) c' → RunsTo P ρ o w (.tuple #[]) w' := by
  rcases hown.2 with ⟨hv, _⟩ | ⟨g', cap', cur, hv, hg, hh, hn, hc, hcs, ht⟩
  · cases hv
  · cases hv
    have hzl : D.z.cells.size = D.m := D.hz
    obtain ⟨vs, hvs⟩ : ∃ vs, (Builtin.zeroCells D.z.cells (xs.length - i)).toList = vs := ⟨_, rfl⟩
    have hvl : vs.length = (xs.length - i) * D.m := by rw [← hvs]; simp [Builtin.zeroCells, hzl]
    have hve : vs = D.flat (List.replicate (xs.length - i) z0) := by
      apply List.ext_getElem?
      intro t
      rcases Nat.lt_or_ge t ((xs.length - i) * D.m) with htl | htl
      · have hm := D.hm
        have hk : t / D.m < xs.length - i := Nat.div_lt_of_lt_mul (by rw [Nat.mul_comm]; exact htl)
        have hj : t % D.m < D.m := Nat.mod_lt _ hm
        have hu : (D.E z0)[t % D.m]? = some ((D.E z0)[t % D.m]'(by rw [D.hE]; exact hj)) := List.getElem?_eq_getElem _
        have hf := D.flat_get (List.replicate (xs.length - i) z0) (t / D.m) (t % D.m) z0 _ (by simp [hk]) hu
        rw [Nat.div_add_mod'] at hf
        rw [hf, ← hvs]
        have : D.z.cells.toList[t % D.m]? = (D.E z0)[t % D.m]? := by rw [hz0]
        rw [hu] at this
        have h3 : t % D.m < D.z.cells.size := by rw [hzl]; exact hj
        simp only [Builtin.zeroCells, hzl, Array.toList_map, List.getElem?_map, Array.toList_range, List.getElem?_range htl, Option.map_some]
        rw [← this]
        simp [h3]
      · rw [List.getElem?_eq_none (by omega), List.getElem?_eq_none (by rw [D.flat_length]; simpa using htl)]
    have hcm : xs.length * D.m ≤ cur.size := by rw [hcs]; exact Nat.mul_le_mul_right _ hn
    have him : i * D.m + (xs.length - i) * D.m = xs.length * D.m := by rw [← Nat.add_mul]; congr 1; omega
    have h1 : ∀ v ∈ vs, v.oneCell' = true := by rw [hve]; exact fun v hv => D.flat_mem v hv
    have hrun := run_storeCells_at (P := P) g (i * D.m) D.e vs 0 cur w hh (by rw [hvl]; omega) h1
    rw [Nat.add_zero] at hrun
    refine ⟨w.setRow g (cur.toList.take (i * D.m) ++ vs ++ cur.toList.drop (i * D.m + vs.length)).toArray, Kp.put (fun k hk => setRow_other w g k _ hk) rfl rfl rfl (by simp), ?_, ?_⟩
    · have hbk := setRow_heap w g cur (cur.toList.take (i * D.m) ++ vs ++ cur.toList.drop (i * D.m + vs.length)).toArray D.e _ hh
      have hll : (xs.take i ++ List.replicate (xs.length - i) z0).length = xs.length := by simp; omega
      have hti : cur.toList.take (i * D.m) = D.flat (xs.take i) := by
        have e1 : D.flat xs = D.flat (xs.take i) ++ D.flat (xs.drop i) := by rw [← D.flat_append, List.take_append_drop]
        have e2 : (D.flat (xs.take i)).length = i * D.m := by rw [D.flat_length, List.length_take, Nat.min_eq_left (by omega)]
        have e3 : cur.toList.take (i * D.m) = (cur.toList.take (xs.length * D.m)).take (i * D.m) := by rw [List.take_take, Nat.min_eq_left (by omega)]
        rw [e3, ht, e1, ← e2, List.take_left]
      unfold Own World.ownsRow
      rw [hll]
      refine ⟨by rw [D.flat_length, hll], .inr ⟨g, _, _, rfl, hg, hbk, hn, hc, ?_, ?_⟩⟩
      · simp only [List.size_toArray, List.length_append, List.length_take, List.length_drop, Array.length_toList, hvl]
        omega
      · rw [List.toList_toArray, hti, D.flat_append, ← hve]
        have e4 : (D.flat (xs.take i) ++ vs).length = xs.length * D.m := by rw [List.length_append, D.flat_length, hvl, List.length_take, Nat.min_eq_left (by omega)]; exact him
        rw [← e4]
        exact List.take_left
    · intro ρ o x ho hx
      refine .inl ?_
      obtain ⟨q, hq⟩ : ∃ q, xs.length - i = q + 1 := ⟨xs.length - i - 1, by omega⟩
      rw [hq] at hx hvs
      simp [execOp, ho, resolve, invoke, builtin, hx, Builtin.clear_, run_underlying D.ht, hzv, hvs, hrun]
end
theorem Own.del {P : Program} {α : Type} {D : El P α} {w : World} {base g c : Nat} {xs : List α} (hown : Own D base w (.slice (some ⟨g, 0, none⟩) xs.length c) xs) (j : Nat) (hj : j < xs.length) :
    ∃ w1 ys, Kp g w w1 ∧ ys.length = xs.length ∧ Own D base w1 (.slice (some ⟨g, 0, none⟩) ys.length c) ys ∧
      ∀ (ty : TypeId) (A : Addr) (k : Nat), (A = ⟨g, (j + 1) * D.m, none⟩ ∨ xs.length - (j + 1) = 0) → (Builtin.append_ #[D.t, D.t] ty #[.slice (some ⟨g, 0, none⟩) j c, .slice (some A) (xs.length - (j + 1)) k]).run P w = .ok (.slice (some ⟨g, 0, none⟩) (xs.length - 1) c) w1 := by
  obtain ⟨i, hi, _, hsz, _⟩ := info_parts D.hi
  have hcells : ∀ t u, (D.flat xs)[t]? = some u → w.cell? ⟨g, t, none⟩ = some u := by
    obtain ⟨A', c', hv, -, hs⟩ := hown.form
    cases hv
    obtain ⟨b, off, hA, -, hq⟩ := hs (by intro e; rw [e] at hj; simp at hj)
    cases hA
    intro t u h
    have := hq t u h
    rwa [Nat.zero_add] at this
  rcases hown.2 with ⟨hv, _⟩ | ⟨g', cap', cur, hv, hg, hh, hn, hc, hcs, ht⟩
  · cases hv
  · cases hv
    have hcurr : cur.toList = D.flat xs ++ cur.toList.drop (xs.length * D.m) := by
      conv => lhs; rw [← List.take_append_drop (xs.length * D.m) cur.toList, ht]
    have hnl : (D.flat (xs.drop (j + 1))).length = (xs.length - (j + 1)) * D.m := by rw [D.flat_length, List.length_drop]
    have hjm : j * D.m + (xs.length - (j + 1)) * D.m = (xs.length - 1) * D.m := by rw [← Nat.add_mul]; congr 1; omega
    have hcm : xs.length * D.m ≤ cur.size := by rw [hcs]; exact Nat.mul_le_mul_right _ hn
    have hle : (xs.length - 1) * D.m ≤ xs.length * D.m := Nat.mul_le_mul_right _ (by omega)
    have hfit : j * D.m + (D.flat (xs.drop (j + 1))).length ≤ cur.size := by rw [hnl, hjm]; omega
    refine ⟨w.setRow g (cur.toList.take (j * D.m) ++ D.flat (xs.drop (j + 1)) ++ cur.toList.drop (j * D.m + (D.flat (xs.drop (j + 1))).length)).toArray, xs.take j ++ xs.drop (j + 1) ++ xs.drop (xs.length - 1), Kp.put (fun k hk => setRow_other w g k _ hk) rfl rfl rfl (by simp), by simp; omega, ?_, ?_⟩
    · have hbk := setRow_heap w g cur (cur.toList.take (j * D.m) ++ D.flat (xs.drop (j + 1)) ++ cur.toList.drop (j * D.m + (D.flat (xs.drop (j + 1))).length)).toArray D.e _ hh
      have hyl : (xs.take j ++ xs.drop (j + 1) ++ xs.drop (xs.length - 1)).length = xs.length := by simp; omega
      have e1 : cur.toList.take (j * D.m) = D.flat (xs.take j) := by
        have e2 : (D.flat (xs.take j)).length = j * D.m := by rw [D.flat_length, List.length_take, Nat.min_eq_left (by omega)]
        rw [hcurr]
        conv => lhs; rw [show D.flat xs = D.flat (xs.take j) ++ D.flat (xs.drop j) by rw [← D.flat_append, List.take_append_drop], List.append_assoc, ← e2]
        exact List.take_left
      have e3 : cur.toList.drop (j * D.m + (D.flat (xs.drop (j + 1))).length) = D.flat (xs.drop (xs.length - 1)) ++ cur.toList.drop (xs.length * D.m) := by
        have e2 : (D.flat (xs.take (xs.length - 1))).length = (xs.length - 1) * D.m := by rw [D.flat_length, List.length_take, Nat.min_eq_left (by omega)]
        rw [hnl, hjm]
        conv => lhs; rw [hcurr, show D.flat xs = D.flat (xs.take (xs.length - 1)) ++ D.flat (xs.drop (xs.length - 1)) by rw [← D.flat_append, List.take_append_drop], List.append_assoc, ← e2]
        exact List.drop_left
      unfold Own World.ownsRow
      rw [hyl]
      refine ⟨by rw [D.flat_length, hyl], .inr ⟨g, _, _, rfl, hg, hbk, hn, hc, ?_, ?_⟩⟩
      · simp only [List.size_toArray, List.length_append, List.length_take, List.length_drop, Array.length_toList]
        omega
      · rw [List.toList_toArray, e1, e3]
        have e4 : (D.flat (xs.take j ++ xs.drop (j + 1) ++ xs.drop (xs.length - 1))).length = xs.length * D.m := by rw [D.flat_length, hyl]
        rw [← List.append_assoc, ← D.flat_append, ← D.flat_append, ← e4]
        exact List.take_left
    · intro ty A k hA
      have := run_append_room (P := P) w D.t ty D.e i D.ht hi g j c cur hh A (xs.length - (j + 1)) k (D.flat (xs.drop (j + 1))) (by rw [hnl, hsz]) (fun t u hu => by
        rcases hA with rfl | h0
        · have : (⟨g, (j + 1) * D.m, none⟩ : Addr).add t = ⟨g, (j + 1) * D.m + t, none⟩ := by
            unfold Addr.add
            split
            · rename_i h0; simp [h0]
            · rfl
          rw [this]
          refine hcells _ _ ?_
          rw [← List.take_append_drop (j + 1) xs, D.flat_append, List.getElem?_append_right (by rw [D.flat_length, List.length_take, Nat.min_eq_left (by omega)]; omega), D.flat_length, List.length_take, Nat.min_eq_left (by omega)]
          rw [← hu]
          congr 1
          omega
        · rw [List.drop_eq_nil_of_le (by omega)] at hu
          simp [El.flat] at hu) (fun u hu => D.flat_mem u hu) (by omega) (by rw [hsz]; exact hfit)
      rw [hsz] at this
      rw [this, show j + (xs.length - (j + 1)) = xs.length - 1 by omega]
def TSlAt (A : Addr) (g n : Nat) : Ty := ⟨fun v _ => ∃ (A' : Addr) (c : Nat), v = .slice (some A') n c ∧ (A' = A ∨ n = 0), fun _ _ _ _ h => h⟩
section
variable {P : Program} {ρ : Operand → Value} {o : Oper} {w : World} {α : Type} (D : El P α)
theorem yld_slTo (x hi : Operand) (ho : o.op = .slice D.t x none (some hi) none) (n c g : Nat) (hx : ρ x = .slice (some ⟨g, 0, none⟩) n c) (l : Nat) (hhi : ρ hi = .int .i64 l) (h2 : l ≤ n) (h3 : n ≤ c) : Yld P ρ o w (Ty.is (.slice (some ⟨g, 0, none⟩) l c)).p := by
  have hr := run_slice_any D (w := w) (A := some ⟨g, 0, none⟩) (c := c) n 0 l c none (some (.int .i64 l)) none rfl rfl rfl (Nat.zero_le _) (by omega) (Nat.le_refl _) h3
  refine yld_run (w' := w) (v := .slice (some ⟨g, 0, none⟩) l c) ?_ (Ext.refl _) rfl
  unfold execOp
  simp only [ho, hx, hhi, Option.map_some, Option.map_none, Sem.run_bind, Sem.run_pure, hr, Result.andThen_ok]
  simp [Addr.add]
theorem yld_slFromAt (x lo : Operand) (ho : o.op = .slice D.t x (some lo) none none) (n c g : Nat) (hx : ρ x = .slice (some ⟨g, 0, none⟩) n c) (l : Nat) (hlo : ρ lo = .int .i64 l) (h2 : l ≤ n) (h3 : n ≤ c) : Yld P ρ o w (TSlAt ⟨g, l * D.m, none⟩ g (n - l)).p := by
  have hr := run_slice_any D (w := w) (A := some ⟨g, 0, none⟩) (c := c) n l n c (some (.int .i64 l)) none none rfl rfl rfl h2 h3 (Nat.le_refl _) h3
  have ea : ((⟨g, 0, none⟩ : Addr).add (l * D.m)) = ⟨g, l * D.m, none⟩ := by
    unfold Addr.add
    split
    · rename_i h0; simp [h0]
    · simp
  by_cases hcl : c = l
  · rw [if_pos hcl] at hr
    refine yld_run (w' := w) (v := .slice (some ⟨g, 0, none⟩) (n - l) (c - l)) ?_ (Ext.refl _) ⟨_, _, rfl, .inr (by omega)⟩
    simp [execOp, ho, hx, hlo, hr]
  · rw [if_neg hcl] at hr
    refine yld_run (w' := w) (v := .slice (some ⟨g, l * D.m, none⟩) (n - l) (c - l)) ?_ (Ext.refl _) ⟨_, _, rfl, .inl rfl⟩
    simp [execOp, ho, hx, hlo, hr, ea]
end
set_option maxRecDepth 100000 in
set_option maxHeartbeats 1600000 in
theorem delete_any (g c j base : Nat) (xs : List RUnit) (w : World) (hown : Own unitEl base w (.slice (some ⟨g, 0, none⟩) xs.length c) xs) (hj : j < xs.length) (hn : xs.length ≤ 1000) :
    Calls Tryz.prog 95 #[.slice (some ⟨g, 0, none⟩) xs.length c, .int .i64 (j : Nat), .int .i64 (j + 1 : Nat)] w fun e w' => ∃ c' n', e = .returned (.slice (some ⟨g, 0, none⟩) n' c') ∧ Kp g w w' := by
  have hc : xs.length ≤ c := by
    obtain ⟨A', c', hv, hc, -⟩ := hown.form
    cases hv
    exact hc
  have HO := Lib.hid hown
  clear hown
  go_enter Tryz.func95, Tryz.ntmps95
  go_wp2
  refine wp_drawn_tail 6 (fun i => match i with | 0 => Ty.is (.slice (some ⟨g, 0, none⟩) xs.length c) | 1 => Ty.is (.int .i64 (j : Nat)) | 2 => Ty.is (.slice (some ⟨g, 0, none⟩) j c) | 3 => Ty.is (.slice (some ⟨g, 0, none⟩) xs.length c) | 4 => Ty.is (.int .i64 ((j : Int) + 1)) | 5 => TSlAt ⟨g, (j + 1) * 8, none⟩ g (xs.length - (j + 1)) | _ => Ty.any) (by kernel_rfl) (by kernel_rfl) (by kernel_rfl) (by decide) rfl ?_
  intro v
  refine ⟨?_, ?_, ?_, ?_, ?_, ?_, ?_⟩
  · intro wq hq hd
    refine ob_plain rfl ?_
    exact yld_move (.tmp 0) rfl rfl rfl
  · intro wq hq hd
    refine ob_plain rfl ?_
    exact yld_move (.tmp 1) rfl rfl rfl
  · intro wq hq hd
    obtain ⟨h0, h1, -⟩ := hd
    change v 0 = _ at h0
    change v 1 = _ at h1
    refine ob_plain rfl ?_
    exact yld_slTo unitEl (.tmp 20) (.tmp 21) rfl xs.length c g h0 j h1 (by omega) hc
  · intro wq hq hd
    refine ob_plain rfl ?_
    exact yld_move (.tmp 0) rfl rfl rfl
  · intro wq hq hd
    refine ob_plain rfl ?_
    exact yld_move (.tmp 2) rfl rfl rfl
  · intro wq hq hd
    obtain ⟨h0, h1, -⟩ := hd
    change v 3 = _ at h0
    change v 4 = _ at h1
    refine ob_plain rfl ?_
    exact yld_slFromAt unitEl (.tmp 23) (.tmp 24) rfl xs.length c g h0 (j + 1) (h1.trans (by simp)) (by omega) hc
  · intro wq hq hT
    have k2 := hT 2 (by decide)
    change v 2 = _ at k2
    have k5 := hT 5 (by decide)
    change (TSlAt ⟨g, (j + 1) * 8, none⟩ g (xs.length - (j + 1))).p (v 5) wq at k5
    clear hT
    simp only [List.drop_succ_cons, List.drop_zero, putE, setsE, List.set_cons_succ, List.set_cons_zero, Nat.reduceAdd]
    rw [k2]
    generalize v 5 = x5 at k5 ⊢
    obtain ⟨A', k', rfl, hA⟩ := k5
    obtain ⟨w1, ys, hk1, hyl, hown1, happ⟩ := (HO.out.ext hq).del j hj
    obtain ⟨w2, hk2, -, hclr⟩ := runs_clear unitEl (fun w => by kernel_rfl) unit0 rfl (xs.length - 1) (c - (xs.length - 1)) (by omega) hown1
    have hr := fun ty => happ ty A' k' hA
    have Hk := Lib.hid (((Kp.of_ext hq).trans hk1).trans hk2)
    obtain ⟨m, hm⟩ : ∃ m, xs.length = m + 1 := ⟨xs.length - 1, by omega⟩
    rw [hm] at hyl hr hclr hc hn
    rw [hm]
    simp only [hyl, Nat.add_sub_cancel] at hr hclr
    have e0 : m + 1 - (m + 1 - 1) = 1 := by omega
    have e1 : m + 1 - m = 1 := by omega
    simp only [e0, e1] at hclr
    have Hclr := Lib.hid hclr
    clear hclr happ HO hk1 hk2 hown1 hq
    refine wpList_runs rfl (x := .slice (some ⟨g, 0, none⟩) m c) (w' := w1) (.inl ?_) ?_
    · have hr2 := hr 25
      simp [execOp, resolve, invoke, builtin, Act.eval, unitEl] at hr2 ⊢
      rw [hr2]
      rfl
    go_wp2_with (refine wpList_runs rfl (Hclr.out _ _ (.tmp 31) rfl rfl) ?_)
    go_ret
    exact ⟨_, _, rfl, Hk.out⟩
end Go.Proofs.YtjhdamjbljafhaaGreatDoor
