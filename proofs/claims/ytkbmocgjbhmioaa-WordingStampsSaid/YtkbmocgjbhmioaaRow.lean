/- The stamper's row: a row's words anew with the marks act, item and so on; the stamper counts on. -/
import Derived.Test.YtkbmocgjbhmioaaRefStamp
namespace Go.Proofs.Ytkbmocgjbhmioaa
open Go.RowKit

/-- memory as it was but for new blocks and the block b -/
structure Bes (b : Nat) (w w' : World) : Prop where
  os : w'.os = w.os
  tape : w'.tape = w.tape
  output : w'.output = w.output
  size : w.heap.size ≤ w'.heap.size
  block : ∀ k, k < w.heap.size → k ≠ b → w'.heap[k]? = w.heap[k]?
theorem Bes.refl (b : Nat) (w : World) : Bes b w w := ⟨rfl, rfl, rfl, Nat.le_refl _, fun _ _ _ => rfl⟩
theorem Bes.of_ext {b : Nat} {w w' : World} (h : Ext w w') : Bes b w w' := ⟨h.os, h.tape, h.output, h.size, fun _ hk _ => h.block hk⟩
theorem Bes.trans {b : Nat} {w w' w'' : World} (h : Bes b w w') (k : Bes b w' w'') : Bes b w w'' :=
  ⟨k.os.trans h.os, k.tape.trans h.tape, k.output.trans h.output, Nat.le_trans h.size k.size, fun i hi hb => (k.block i (Nat.lt_of_lt_of_le hi h.size) hb).trans (h.block i hi hb)⟩
theorem Bes.ext {b : Nat} {w w' w'' : World} (h : Bes b w w') (k : Ext w' w'') : Bes b w w'' := h.trans (Bes.of_ext k)
/-- a store into b itself, or into a block that is new -/
theorem Bes.put {b c : Nat} {a w w' : World} (h : Bes b a w) (hc : c = b ∨ a.heap.size ≤ c) (hw : ∀ k, k ≠ c → w'.heap[k]? = w.heap[k]?) (hos : w'.os = w.os) (htp : w'.tape = w.tape) (hou : w'.output = w.output) (hs : w'.heap.size = w.heap.size) : Bes b a w' :=
  ⟨hos.trans h.os, htp.trans h.tape, hou.trans h.output, by rw [hs]; exact h.size, fun k hk hb => (hw k (by omega)).trans (h.block k hk hb)⟩
theorem Bes.cin {b : Nat} {w w' : World} {p : Nat → Bool} (h : Bes b w w') (hp : p b = true) : CIn (mask p w) (mask p w') :=
  CIn.keep h.size fun k hk hpk => ⟨h.block k hk (by rintro rfl; rw [hp] at hpk; cases hpk), hpk⟩
theorem Bes.toExt {b : Nat} {w0 w w' : World} (h : Bes b w w') (h0 : Ext w0 w) (hb : w0.heap.size ≤ b) : Ext w0 w' :=
  ⟨h.os.trans h0.os, h.tape.trans h0.tape, h.output.trans h0.output, Nat.le_trans h0.size h.size, fun k hk => (h.block k (Nat.lt_of_lt_of_le hk h0.size) (by omega)).trans (h0.block hk)⟩

section
variable {P : Program} {ρ : Operand → Value} {o : Oper} {w : World} {T : Value → World → Prop}
theorem yld_nil (x : Operand) (ho : o.op = .nilCheck x) {ad : Addr} (hx : ρ x = .pointer (some ad)) (h : T (.pointer (some ad)) w) : Yld P ρ o w T := by
  refine yld_run (w' := w) (v := .pointer (some ad)) ?_ (Ext.refl _) h
  simp only [execOp, ho, hx]
  go_simp
end
/-- a block's cells as a typed pointer's -/
theorem cellsT {w w' : World} {b : Nat} {cs : Array Value} {t : TypeId} (h : w.heap[b]? = some (.cells cs t (0, 0))) (hb : b < w.heap.size) (he : Ext w w') : (TCells cs.toList).p (.pointer (some ⟨b, 0, none⟩)) w' := by
  refine ⟨b, 0, rfl, Nat.lt_of_lt_of_le hb he.size, fun j u hu => ?_⟩
  rw [he.cell (p := ⟨b, 0 + j, none⟩) hb]
  simp only [World.cell?, h, Nat.zero_add]
  simpa using hu

set_option maxRecDepth 100000 in
set_option maxHeartbeats 1600000 in
theorem row_any (sb : Nat) (act item unit word : Int) (A : Option Addr) (c : Nat) (l : List GWord) (w : World) (hs : Sl wordEl w A l) (hn : l.length ≤ 1048576) (hst : w.heap[sb]? = some (.cells #[.int .i64 act, .int .i64 item, .int .i64 unit, .int .i64 word] 74 (0, 0))) (h1 : 0 ≤ word) (h2 : word ≤ 2199023255552) :
    Calls Try.prog 64 #[.pointer (some ⟨sb, 0, none⟩), .slice A l.length c] w fun e w' => ∃ v, e = .returned v ∧ Own wordEl w.heap.size w' v (markF act item word (l.map GWord.t)) ∧ Bes sb w w' ∧
      w'.heap[sb]? = some (.cells #[.int .i64 act, .int .i64 item, .int .i64 unit, .int .i64 (word + l.length)] 74 (0, 0)) := by
  have hsb : sb < w.heap.size := by
    rcases Nat.lt_or_ge sb w.heap.size with h | h
    · exact h
    · rw [Array.getElem?_eq_none h] at hst; cases hst
  have Hst := Lib.hid (show ∀ w', Ext w w' → _ from fun w' he => cellsT hst hsb he)
  go_enter Try.func64, Try.ntmps64
  go_wp2
  refine wp_drawn (by kernel_rfl) (fun i => match i with | 0 => Ty.is (.slice A l.length c) | 1 => TSl strEl (l.map GWord.t) | 2 => Ty.is (.pointer (some ⟨sb, 0, none⟩)) | 3 => Ty.is (.pointer (some ⟨sb, 0, none⟩)) | 4 => TCells [.int .i64 act] | 5 => Ty.is (.int .i64 act) | 6 => Ty.is (.pointer (some ⟨sb, 0, none⟩)) | 7 => Ty.is (.pointer (some ⟨sb, 0, none⟩)) | 8 => TCells [.int .i64 item] | 9 => Ty.is (.int .i64 item) | 10 => Ty.is (.pointer (some ⟨sb, 0, none⟩)) | 11 => Ty.is (.pointer (some ⟨sb, 0, none⟩)) | 12 => TCells [.int .i64 word] | 13 => Ty.is (.int .i64 word) | 14 => TOwn wordEl w.heap.size (markF act item word (l.map GWord.t)) | 15 => TOwn wordEl w.heap.size (markF act item word (l.map GWord.t)) | _ => Ty.any) (by kernel_rfl) rfl ?_
  intro v
  refine ⟨?_, ?_, ?_, ?_, ?_, ?_, ?_, ?_, ?_, ?_, ?_, ?_, ?_, ?_, ?_, ?_, ?_⟩
  · intro wq hq hd
    refine ob_plain rfl ?_
    exact yld_move (.tmp 1) rfl rfl rfl
  · intro wq hq hd
    obtain ⟨h0, -⟩ := hd
    change v 0 = _ at h0
    refine ob_plain rfl ?_
    refine yld_call 20 Try.call20 _ _ rfl rfl [_] ⟨h0, trivial⟩ ?_
    refine (strings_any _ _ l _ (hs.ext hq) hn).mono ?_
    rintro e w' ⟨v', rfl, hown, hext'⟩
    obtain ⟨A3, c3, rfl, hc3, hs3⟩ := hown.form
    exact ⟨_, rfl, hext', A3, c3, rfl, hc3, hs3⟩
  · intro wq hq hd
    refine ob_plain rfl ?_
    exact yld_move (.tmp 0) rfl rfl rfl
  · intro wq hq hd
    obtain ⟨h0, -⟩ := hd
    change v 2 = _ at h0
    refine ob_plain rfl ?_
    exact yld_nil (.tmp 8) rfl h0 rfl
  · intro wq hq hd
    obtain ⟨h0, -⟩ := hd
    change v 3 = _ at h0
    refine ob_plain rfl ?_
    exact yld_field 74 0 (.tmp 9) rfl _ Try.underlying74 _ rfl 1 Try.sizeOf3 (by decide) [.int .i64 act, .int .i64 item, .int .i64 unit, .int .i64 word] (by show (TCells _).p (v 3) wq; rw [h0]; exact Hst.out _ hq)
  · intro wq hq hd
    obtain ⟨h0, -⟩ := hd
    change (TCells [.int .i64 act]).p (v 4) wq at h0
    refine ob_plain rfl ?_
    exact yld_loadOne 3 (.tmp 10) rfl Try.isAgg3 (c := .int .i64 act) h0 rfl
  · intro wq hq hd
    refine ob_plain rfl ?_
    exact yld_move (.tmp 0) rfl rfl rfl
  · intro wq hq hd
    obtain ⟨h0, -⟩ := hd
    change v 6 = _ at h0
    refine ob_plain rfl ?_
    exact yld_nil (.tmp 12) rfl h0 rfl
  · intro wq hq hd
    obtain ⟨h0, -⟩ := hd
    change v 7 = _ at h0
    refine ob_plain rfl ?_
    exact yld_field 74 1 (.tmp 13) rfl _ Try.underlying74 _ rfl 1 Try.sizeOf3 (by decide) [.int .i64 act, .int .i64 item, .int .i64 unit, .int .i64 word] (by show (TCells _).p (v 7) wq; rw [h0]; exact Hst.out _ hq)
  · intro wq hq hd
    obtain ⟨h0, -⟩ := hd
    change (TCells [.int .i64 item]).p (v 8) wq at h0
    refine ob_plain rfl ?_
    exact yld_loadOne 3 (.tmp 14) rfl Try.isAgg3 (c := .int .i64 item) h0 rfl
  · intro wq hq hd
    refine ob_plain rfl ?_
    exact yld_move (.tmp 0) rfl rfl rfl
  · intro wq hq hd
    obtain ⟨h0, -⟩ := hd
    change v 10 = _ at h0
    refine ob_plain rfl ?_
    exact yld_nil (.tmp 16) rfl h0 rfl
  · intro wq hq hd
    obtain ⟨h0, -⟩ := hd
    change v 11 = _ at h0
    refine ob_plain rfl ?_
    exact yld_field 74 3 (.tmp 17) rfl _ Try.underlying74 _ rfl 1 Try.sizeOf3 (by decide) [.int .i64 act, .int .i64 item, .int .i64 unit, .int .i64 word] (by show (TCells _).p (v 11) wq; rw [h0]; exact Hst.out _ hq)
  · intro wq hq hd
    obtain ⟨h0, -⟩ := hd
    change (TCells [.int .i64 word]).p (v 12) wq at h0
    refine ob_plain rfl ?_
    exact yld_loadOne 3 (.tmp 18) rfl Try.isAgg3 (c := .int .i64 word) h0 rfl
  · intro wq hq hd
    obtain ⟨h0, h1, h2, h3, h4, -⟩ := hd
    change (TSl strEl (l.map GWord.t)).p (v 1) wq at h0
    change v 5 = _ at h1
    change v 9 = _ at h2
    change v 13 = _ at h3
    refine ob_plain rfl ?_
    obtain ⟨A3, c3, g3, gc3, gs3⟩ := h0
    refine yld_call 29 Try.call29 _ _ rfl rfl [_, _, _, _] ⟨g3, h1, h2, h3, trivial⟩ ?_
    refine (mark_any A3 c3 (l.map GWord.t) act item word _ gs3 (by rw [List.length_map]; exact hn) (by omega) (by omega)).mono ?_
    rintro e w' ⟨v', rfl, hown, hext'⟩
    exact ⟨v', rfl, hext', hown.mono hq.size⟩
  · intro wq hq hd
    obtain ⟨h0, h1, h2, h3, h4, h5, h6, h7, h8, h9, h10, h11, h12, h13, h14, h15, h16, -⟩ := hd
    change (TOwn wordEl w.heap.size (markF act item word (l.map GWord.t))).p (v 14) wq at h0
    refine ob_plain rfl ?_
    exact yld_assign (.tmp 20) rfl rfl h0
  · intro wq hq hT
    have k15 := hT 15 (by decide)
    change (TOwn wordEl w.heap.size (markF act item word (l.map GWord.t))).p (v 15) wq at k15
    clear hT
    simp only [List.drop_succ_cons, List.drop_zero, putE, setsE, List.set_cons_succ, List.set_cons_zero, Nat.reduceAdd]
    generalize v 15 = x15 at k15 ⊢
    have hx1 : Ext w wq := hq
    have hstq := (hx1.block hsb).trans hst
    have t3 := TCells.cell (Hst.out _ hq) 3 _ rfl
    rw [Nat.zero_add] at t3
    obtain ⟨A4, c4, rfl, hc4, -⟩ := Own.form k15
    have hml : (markF act item word (l.map GWord.t)).length = l.length := by rw [markF_length, List.length_map]
    obtain ⟨ML, hML⟩ : ∃ ML, markF act item word (l.map GWord.t) = ML := ⟨_, rfl⟩
    have hown : Own wordEl w.heap.size wq (.slice A4 (markF act item word (l.map GWord.t)).length c4) (markF act item word (l.map GWord.t)) := k15
    rw [hML] at hml hc4 hown k15 ⊢
    rw [← hml]
    have Hml := Lib.hid hml
    have HML := Lib.hid hML
    clear hML hml k15
    have hlen : ML.length ≤ 1048576 := by rw [Hml.out]; exact hn
    clear hn
    go_wp2_with (first | (refine wpList_fld rfl 74 3 (.tmp 28) rfl _ Try.underlying74 _ rfl 1 Try.sizeOf3 (by decide) sb 0 rfl ?_) | (refine wpList_put rfl 3 (.tmp 29) (.tmp 27) rfl sb 3 (.int .i64 (word + ML.length)) rfl rfl [.int .i64 (word + ML.length)] rfl Try.sizeOf3 (by simp [Value.oneCell']) 74 _ hstq (by simp) ?_; intro w3 hw3 hos3 htp3 hou3 hs3 hbk3))
    go_wp2
    go_ret
    rw [HML.out, ← Hml.out]
    exact ⟨_, rfl, hown.keep fun k hk => hw3 k (by have := (hown.lt k hk).1; omega), (Bes.of_ext hx1).put (.inl rfl) hw3 hos3 htp3 hou3 hs3, by rw [hbk3]; simp⟩

end Go.Proofs.Ytkbmocgjbhmioaa
