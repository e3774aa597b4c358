/- Laws for number: a part of an element set, a row cloned, memory besides one block. -/
import Derived.Test.YtiacmahfjcolaaaDoorNumF10
namespace Go.Proofs.YtiacmahfjcolaaaDoor
open Go.RowKit

/-- memory as it was but for new blocks and the block b -/
structure Bes (b : Nat) (w w' : World) : Prop where
  os : w'.os = w.os
  tape : w'.tape = w.tape
  output : w'.output = w.output
  size : w.heap.size ≤ w'.heap.size
  block : ∀ k, k < w.heap.size → k ≠ b → w'.heap[k]? = w.heap[k]?
theorem Bes.refl (b : Nat) (w : World) : Bes b w w := ⟨rfl, rfl, rfl, Nat.le_refl _, fun _ _ _ => rfl⟩
theorem Bes.of_ext {b : Nat} {w w' : World} (h : Ext w w') : Bes b w w' := ⟨h.os, h.tape, h.output, h.size, fun _ hk _ => h.block hk⟩
theorem Bes.trans {b : Nat} {w w' w'' : World} (h : Bes b w w') (k : Bes b w' w'') : Bes b w w'' :=
  ⟨k.os.trans h.os, k.tape.trans h.tape, k.output.trans h.output, Nat.le_trans h.size k.size, fun i hi hb => (k.block i (Nat.lt_of_lt_of_le hi h.size) hb).trans (h.block i hi hb)⟩
theorem Bes.ext {b : Nat} {w w' w'' : World} (h : Bes b w w') (k : Ext w' w'') : Bes b w w'' := h.trans (Bes.of_ext k)
/-- a store into b itself, or into a block that is new -/
theorem Bes.put {b c : Nat} {a w w' : World} (h : Bes b a w) (hc : c = b ∨ a.heap.size ≤ c) (hw : ∀ k, k ≠ c → w'.heap[k]? = w.heap[k]?) (hos : w'.os = w.os) (htp : w'.tape = w.tape) (hou : w'.output = w.output) (hs : w'.heap.size = w.heap.size) : Bes b a w' :=
  ⟨hos.trans h.os, htp.trans h.tape, hou.trans h.output, by rw [hs]; exact h.size, fun k hk hb => (hw k (by omega)).trans (h.block k hk hb)⟩
theorem Bes.cin {b : Nat} {w w' : World} {p : Nat → Bool} (h : Bes b w w') (hp : p b = true) : CIn (mask p w) (mask p w') :=
  CIn.keep h.size fun k hk hpk => ⟨h.block k hk (by rintro rfl; rw [hp] at hpk; cases hpk), hpk⟩
theorem Bes.toExt {b : Nat} {w0 w w' : World} (h : Bes b w w') (h0 : Ext w0 w) (hb : w0.heap.size ≤ b) : Ext w0 w' :=
  ⟨h.os.trans h0.os, h.tape.trans h0.tape, h.output.trans h0.output, Nat.le_trans h0.size h.size, fun k hk => (h.block k (Nat.lt_of_lt_of_le hk h0.size) (by omega)).trans (h0.block hk)⟩

section
variable {P : Program} {α : Type} {D : El P α} {w : World} {v : Value} {base : Nat} {xs : List α}
/-- a part of an element in the call's own row is set -/
theorem Own.patch {g c k f : Nat} {vs : List Value} {r' : α} (hown : Own D base w (.slice (some ⟨g, 0, none⟩) xs.length c) xs) (hk : k < xs.length) (hr : D.E r' = (D.E xs[k]).take f ++ vs ++ (D.E xs[k]).drop (f + vs.length)) (hf : f + vs.length ≤ D.m) :
    ∃ cur : Array Value, w.heap[g]? = some (.cells cur D.e (0, 0)) ∧ k * D.m + f + vs.length ≤ cur.size ∧
      ∀ w' : World, w'.heap[g]? = some (.cells (cur.toList.take (k * D.m + f) ++ vs ++ cur.toList.drop (k * D.m + f + vs.length)).toArray D.e (0, 0)) → Own D base w' (.slice (some ⟨g, 0, none⟩) xs.length c) (xs.set k r') := by
  rcases hown.2 with ⟨hv, h0⟩ | ⟨g', cap, cur, hv, hg, hh, hn, hc, hcs, ht⟩
  · cases hv
  · cases hv
    have hkm : k * D.m + D.m ≤ xs.length * D.m := by rw [← Nat.succ_mul]; exact Nat.mul_le_mul_right _ hk
    have hcm : xs.length * D.m ≤ cur.size := by rw [hcs]; exact Nat.mul_le_mul_right _ hn
    refine ⟨cur, hh, by omega, fun w' h6 => ?_⟩
    have hl : (D.flat (xs.set k r')).length = xs.length * D.m := by rw [D.flat_length, List.length_set]
    have hdec : xs.set k r' = xs.take k ++ r' :: xs.drop (k + 1) := by rw [List.set_eq_take_append_cons_drop, if_pos hk]
    have hdec0 : xs = xs.take k ++ xs[k] :: xs.drop (k + 1) := by rw [← List.drop_eq_getElem_cons hk, List.take_append_drop]
    have hlk : (D.flat (xs.take k)).length = k * D.m := by rw [D.flat_length, List.length_take, Nat.min_eq_left (by omega)]
    have hcurr : cur.toList = D.flat (xs.take k) ++ (D.E xs[k] ++ (D.flat (xs.drop (k + 1)) ++ cur.toList.drop (xs.length * D.m))) := by
      have e0 : cur.toList = D.flat xs ++ cur.toList.drop (xs.length * D.m) := by
        conv => lhs; rw [← List.take_append_drop (xs.length * D.m) cur.toList, ht]
      have e1 : D.flat xs = D.flat (xs.take k) ++ (D.E xs[k] ++ D.flat (xs.drop (k + 1))) := by
        conv => lhs; rw [hdec0, D.flat_append]
        simp only [El.flat, List.flatMap_cons]
      rw [e1] at e0
      conv => lhs; rw [e0]
      simp only [List.append_assoc]
    have hEl : (D.E xs[k]).length = D.m := D.hE _
    have e2 : cur.toList.take (k * D.m + f) = D.flat (xs.take k) ++ (D.E xs[k]).take f := by
      rw [hcurr, ← hlk, List.take_length_add_append, List.take_append_of_le_length (by omega)]
    have e3 : cur.toList.drop (k * D.m + f + vs.length) = (D.E xs[k]).drop (f + vs.length) ++ (D.flat (xs.drop (k + 1)) ++ cur.toList.drop (xs.length * D.m)) := by
      conv => lhs; rw [hcurr]
      rw [Nat.add_assoc, ← hlk, List.drop_length_add_append, List.drop_append_of_le_length (by omega)]
    unfold Own World.ownsRow
    rw [List.length_set]
    refine ⟨hl, .inr ⟨g, c, _, rfl, hg, h6, hn, hc, ?_, ?_⟩⟩
    · simp only [List.size_toArray, List.length_append, List.length_take, List.length_drop, Array.length_toList]
      omega
    · rw [List.toList_toArray, e2, e3]
      have e4 : D.flat (xs.set k r') = D.flat (xs.take k) ++ D.E r' ++ D.flat (xs.drop (k + 1)) := by
        rw [hdec, D.flat_append]
        simp [El.flat]
      have e5 : D.flat (xs.take k) ++ (D.E xs[k]).take f ++ vs ++ ((D.E xs[k]).drop (f + vs.length) ++ (D.flat (xs.drop (k + 1)) ++ cur.toList.drop (xs.length * D.m))) = D.flat (xs.set k r') ++ cur.toList.drop (xs.length * D.m) := by
        rw [e4, hr]
        simp only [List.append_assoc]
      rw [e5, ← hl]
      exact List.take_left
end
section
variable {P : Program} {ρ : Operand → Value} {o : Oper} {w : World} {T : Value → World → Prop}
theorem yld_fld (s f : Nat) (x : Operand) (ho : o.op = .fieldAddr s x f) (fs : Array Field) (hs : P.underlying s = some (.struct fs)) (fld : Field) (hf : fs[f]? = some fld) (m : Nat) (hm : ∀ w, (sizeOf fld.type).run P w = .ok m w) (hm0 : m ≠ 0)
    (b off : Nat) (hx : ρ x = .pointer (some ⟨b, off, none⟩)) (h : T (.pointer (some ⟨b, off + fld.offset, none⟩)) w) : Yld P ρ o w T := by
  have ea : ((⟨b, off, none⟩ : Addr).add fld.offset) = ⟨b, off + fld.offset, none⟩ := by
    unfold Addr.add
    split
    · rename_i h0; simp [h0]
    · rfl
  refine yld_run (w' := w) (v := .pointer (some ⟨b, off + fld.offset, none⟩)) ?_ (Ext.refl _) h
  simp [execOp, ho, hx, Instr.fieldAt, run_underlying hs, hf, Instr.sureAddr, fieldPlace, hm, hm0, ea]
end
/-- a block's cells as a typed pointer's -/
theorem cellsT {w w' : World} {b : Nat} {cs : Array Value} {t : TypeId} (h : w.heap[b]? = some (.cells cs t (0, 0))) (hb : b < w.heap.size) (he : Ext w w') : (TCells cs.toList).p (.pointer (some ⟨b, 0, none⟩)) w' := by
  refine ⟨b, 0, rfl, Nat.lt_of_lt_of_le hb he.size, fun j u hu => ?_⟩
  rw [he.cell (p := ⟨b, 0 + j, none⟩) hb]
  simp only [World.cell?, h, Nat.zero_add]
  simpa using hu

set_option maxRecDepth 100000 in
set_option maxHeartbeats 400000 in
theorem cloneW_any (A : Option Addr) (c : Nat) (l : List GWord) (w : World) (hs : Sl wordEl w A l) (hn : l.length ≤ 1048576) :
    Calls Tryd.prog 59 #[.slice A l.length c] w (RetOwn wordEl w l) := by
  have hq := fun W => Lib.run_eql_slice_nil (P := Tryd.prog) W 24 52 A l.length c 0 0 Tryd.underlying24
  cases A with
  | none =>
    have h0 : l = [] := by
      cases l with
      | nil => rfl
      | cons x l => obtain ⟨_, _, h, _⟩ := hs (by simp); cases h
    subst h0
    simp only [List.length_nil] at hq
    go_enter Tryd.func59, Tryd.ntmps59
    go_wp2
    go_ret
    exact ⟨_, rfl, Own.nil _, Ext.refl _⟩
  | some ad =>
    go_enter Tryd.func59, Tryd.ntmps59
    go_wp2_with (at_builtin; refine wpList_app wordEl rfl _ _ rfl c rfl (Own.made wordEl (Nat.le_refl _)) rfl (hs.ext ((Ext.refl _).alloc _)) (by simp; omega) (by simp) ?_; intro v' w1 hown' hb1 hg1)
    go_ret
    exact ⟨_, rfl, hown', ((Ext.refl _).alloc _).trans' hb1⟩

end Go.Proofs.YtiacmahfjcolaaaDoor
