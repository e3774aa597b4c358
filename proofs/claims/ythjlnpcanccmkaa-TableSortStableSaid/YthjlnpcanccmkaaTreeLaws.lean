/- Laws on units in memory: boxes, blocks of the call's own, the result's cell. -/
import Derived.Test.YthjlnpcanccmkaaTree
namespace Go.Proofs.Ythjlnpcanccmkaa
open Go.RowKit

theorem block_lt {w : World} {b : Nat} {o : Obj} (h : w.heap[b]? = some o) : b < w.heap.size := by
  rcases Nat.lt_or_ge b w.heap.size with h' | h'
  · exact h'
  · rw [Array.getElem?_eq_none h'] at h; cases h
theorem fresh_le {m n : Nat} (h : m ≤ n) : ∀ k, fresh m k = true → fresh n k = true := by
  intro k hk
  simp only [fresh, decide_eq_true_eq] at hk ⊢
  omega
/-- a unit's cells without children, its rows the call's own -/
def TBare (n : Nat) (rk : Int) (rl : ByteArray) (hd wd : List GWord) : Ty := ⟨fun v w => ∃ A1 c1 A2 c2, v = .agg #[.int .i64 0, .int .i64 0, .int .i64 0, .int .i64 rk, .string rl, .slice A1 hd.length c1, .slice A2 wd.length c2, .slice none 0 0] ∧ hd.length ≤ c1 ∧ wd.length ≤ c2 ∧ Own wordEl n w (.slice A1 hd.length c1) hd ∧ Own wordEl n w (.slice A2 wd.length c2) wd,
  fun _ _ _ he ⟨A1, c1, A2, c2, h1, h2, h3, h4, h5⟩ => ⟨A1, c1, A2, c2, h1, h2, h3, h4.ext he, h5.ext he⟩⟩
def unit0 : RUnit := ⟨0, 0, 0, 0, ⟨#[]⟩, none, 0, 0, none, 0, 0, none, 0, 0⟩
/-- a pointer at a block of the call's own that holds the zero unit -/
def TUnit0 (n : Nat) : Ty := ⟨fun v w => ∃ b, v = .pointer (some ⟨b, 0, none⟩) ∧ n ≤ b ∧ b < w.heap.size ∧ w.heap[b]? = some (.cells unit0.cells.toArray 27 (0, 0)),
  fun _ _ _ he ⟨b, h1, h2, h3, h4⟩ => ⟨b, h1, h2, Nat.lt_of_lt_of_le h3 he.size, (he.block h3).trans h4⟩⟩
/-- a unit that reads as the tree, in blocks from n on -/
def TFreshU (n : Nat) (u : GUnit) : Ty := ⟨fun v w => ∃ r : RUnit, v = .agg r.cells.toArray ∧ Reads (mask (fresh n) w) u r, fun _ _ _ he ⟨r, h1, h2⟩ => ⟨r, h1, Reads.cin (CIn.ext he) _ _ h2⟩⟩
/-- a slice of this one unit -/
def TOneU (n : Nat) (u : GUnit) : Ty := ⟨fun v w => ∃ r : RUnit, Own unitEl n w v [r] ∧ Reads (mask (fresh n) w) u r, fun _ _ _ he ⟨r, h1, h2⟩ => ⟨r, h1.ext he, Reads.cin (CIn.ext he) _ _ h2⟩⟩
section
variable {ρ : Operand → Value} {o : Oper} {w : World} {n : Nat}
theorem yld_alloc0 (hn : n ≤ w.heap.size) (ho : o.op = .alloc 27) : Yld Try.prog ρ o w (TUnit0 n).p := by
  refine yld_run (w' := w.alloc (.cells unit0.cells.toArray 27)) (v := .pointer (some ⟨w.heap.size, 0, none⟩)) ?_ ((Ext.refl _).alloc _) ⟨_, rfl, hn, by simp, heap_alloc_new w _⟩
  simp only [execOp, ho]
  go_simp
  rfl
theorem yld_oneU {x : Operand} {u : GUnit} {r : RUnit} (ho : o.op = .buildSlice 25 1 #[(0, x)]) (hx : ρ x = .agg r.cells.toArray) (hn : n ≤ w.heap.size) (hr : Reads (mask (fresh n) w) u r) : Yld Try.prog ρ o w (TOneU n u).p := by
  have hlit : Own unitEl n (w.alloc (.cells r.cells.toArray 27)) (.slice (some ⟨w.heap.size, 0, none⟩) 1 1) [r] := Own.lit unitEl (xs := [r]) hn (by simp) (by simp [El.flat, unitEl])
  refine yld_run (w' := w.alloc (.cells r.cells.toArray 27)) (v := .slice (some ⟨w.heap.size, 0, none⟩) 1 1) ?_ ((Ext.refl _).alloc _) ⟨r, hlit, Reads.cin (CIn.ext ((Ext.refl _).alloc _)) _ _ hr⟩
  simp only [execOp, ho]
  simp only [List.map_toArray, List.map_cons, List.map_nil, hx, RUnit.cells]
  go_simp
end
/-- the result's cell, read at the return -/
theorem results_cell1 {fn : Func} {t : Tmp} (h : fn.results = #[.cell t 27]) (tmps : Array Value) (w : World) (b : Nat) (r : RUnit) (hp : tmps.getD t undef = .pointer (some ⟨b, 0, none⟩)) (hc : w.heap[b]? = some (.cells r.cells.toArray 27 (0, 0))) :
    (results fn tmps).run Try.prog w = .ok (.agg r.cells.toArray) w := by
  have hl := run_loadCells_list (P := Try.prog) w ⟨b, 0, none⟩ r.cells (fun j u hu => by
    have hadd : (⟨b, 0, none⟩ : Addr).add j = ⟨b, j, none⟩ := by unfold Addr.add; split <;> simp_all
    rw [hadd]
    simp only [World.cell?, hc]
    simpa using hu)
  have hp' : tmps[t]?.getD undef = .pointer (some ⟨b, 0, none⟩) := by simpa using hp
  have hn : ∀ w, (sizeOf 27).run Try.prog w = .ok r.cells.length w := Try.sizeOf27
  simp [results, h, hp', asAddr, loadVar, Try.isAgg27, hn, hl]
theorem Own.ne {P : Program} {α : Type} {D : El P α} {w : World} {v : Value} {base : Nat} {xs : List α} (h : Own D base w v xs) {b : Nat} {cs : Array Value} {t : TypeId} {fr : Nat × Nat} (hb : w.heap[b]? = some (.cells cs t fr)) (ht : t ≠ D.e) : ∀ k, v.ownBlock = some k → k ≠ b := by
  rintro k hk rfl
  rcases h.2 with ⟨rfl, _⟩ | ⟨g, cap, cur, rfl, _, hh, _⟩
  · cases hk
  · cases hk
    rw [hb] at hh
    cases hh
    exact ht rfl
theorem wpList_fld {P : Program} {w : World} {ops : Array Oper} {rest : List Oper} {o : Oper} {a : Act} {Q : Exit → Act → World → Prop} (hgd : o.guard = none) (s f : Nat) (x : Operand) (ho : o.op = .fieldAddr s x f) (fs : Array Field) (hs : P.underlying s = some (.struct fs)) (fld : Field) (hf : fs[f]? = some fld)
    (m : Nat) (hm : ∀ w, (sizeOf fld.type).run P w = .ok m w) (hm0 : m ≠ 0) (b off : Nat) (hx : a.eval x = .pointer (some ⟨b, off, none⟩)) (h : wpList P ops Q rest (a.put o.dst (.pointer (some ⟨b, off + fld.offset, none⟩))) w) : wpList P ops Q (o :: rest) a w := by
  have ea : ((⟨b, off, none⟩ : Addr).add fld.offset) = ⟨b, off + fld.offset, none⟩ := by
    unfold Addr.add
    split
    · rename_i h0; simp [h0]
    · rfl
  refine wpList_plain hgd fun K hK => ?_
  unfold Oper.wp
  simp [execOp, ho, hx, Instr.fieldAt, run_underlying hs, hf, Instr.sureAddr, fieldPlace, hm, hm0, ea, Result.andThen]
  exact hK _ _ h
theorem TCells.cell {cs : List Value} {b off : Nat} {w : World} (h : (TCells cs).p (.pointer (some ⟨b, off, none⟩)) w) (j : Nat) (u : Value) (hj : cs[j]? = some u) : w.cell? ⟨b, off + j, none⟩ = some u := by
  obtain ⟨b', off', h1, _, h3⟩ := h
  cases h1
  exact h3 j u hj
theorem boxT (r : RUnit) {w w' : World} (he : Ext (w.alloc (.cells r.cells.toArray 27)) w') : (TCells r.cells).p (.pointer (some ⟨w.heap.size, 0, none⟩)) w' := by
  have h := (Sl.new unitEl (w := w) (xs := [r]) (by simp [El.flat, unitEl])).ext he
  obtain ⟨b, off, h1, h2, h3⟩ := h (by simp)
  simp only [Option.some.injEq, Addr.mk.injEq] at h1
  obtain ⟨rfl, rfl, -⟩ := h1
  refine ⟨_, _, rfl, h2, fun j u hu => h3 j u ?_⟩
  simpa [El.flat, unitEl] using hu
theorem blockT {r : RUnit} {w w' : World} {b : Nat} (h : w.heap[b]? = some (.cells r.cells.toArray 27 (0, 0))) (hb : b < w.heap.size) (he : Ext w w') : (TCells r.cells).p (.pointer (some ⟨b, 0, none⟩)) w' := by
  refine ⟨b, 0, rfl, Nat.lt_of_lt_of_le hb he.size, fun j u hu => ?_⟩
  rw [he.cell (p := ⟨b, 0 + j, none⟩) hb]
  simp only [World.cell?, h, Nat.zero_add]
  simpa using hu

end Go.Proofs.Ythjlnpcanccmkaa
