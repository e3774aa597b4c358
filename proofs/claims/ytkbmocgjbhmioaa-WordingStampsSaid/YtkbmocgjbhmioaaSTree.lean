/- The stamper's tree: the same stamped tree as the reference's, and the stamper counts on. -/
import Derived.Test.YtkbmocgjbhmioaaRow
namespace Go.Proofs.Ytkbmocgjbhmioaa
open Go.RowKit

section
variable {P : Program} {ρ : Operand → Value} {o : Oper} {w : World} {T : Value → World → Prop}
theorem yld_fld (s f : Nat) (x : Operand) (ho : o.op = .fieldAddr s x f) (fs : Array Field) (hs : P.underlying s = some (.struct fs)) (fld : Field) (hf : fs[f]? = some fld) (m : Nat) (hm : ∀ w, (sizeOf fld.type).run P w = .ok m w) (hm0 : m ≠ 0)
    (b off : Nat) (hx : ρ x = .pointer (some ⟨b, off, none⟩)) (h : T (.pointer (some ⟨b, off + fld.offset, none⟩)) w) : Yld P ρ o w T := by
  have ea : ((⟨b, off, none⟩ : Addr).add fld.offset) = ⟨b, off + fld.offset, none⟩ := by
    unfold Addr.add
    split
    · rename_i h0; simp [h0]
    · rfl
  refine yld_run (w' := w) (v := .pointer (some ⟨b, off + fld.offset, none⟩)) ?_ (Ext.refl _) h
  simp [execOp, ho, hx, Instr.fieldAt, run_underlying hs, hf, Instr.sureAddr, fieldPlace, hm, hm0, ea]
end
theorem Sl.unmask {P : Program} {α : Type} {D : El P α} {w : World} {p : Nat → Bool} {A : Option Addr} {xs : List α} (h : Sl D (mask p w) A xs) : Sl D w A xs := h.cin (CIn.unmask p w)
theorem block_lt {w : World} {b : Nat} {o : Obj} (h : w.heap[b]? = some o) : b < w.heap.size := by
  rcases Nat.lt_or_ge b w.heap.size with h' | h'
  · exact h'
  · rw [Array.getElem?_eq_none h'] at h; cases h

def TreeAt (act item : Int) (N : Nat) : Prop := ∀ (u : GUnit) (r : RUnit) (sb : Nat) (unit word : Int) (w : World), SizeOf.sizeOf u ≤ N → Reads (mask (fun k => decide (k = sb)) w) u r → AllU (lensLe 300 60) u → 0 ≤ unit → unit + cntF u ≤ 1000000 → 0 ≤ word → word + 600 * cntF u ≤ 1000000000 →
    w.heap[sb]? = some (.cells #[.int .i64 act, .int .i64 item, .int .i64 (unit), .int .i64 (word)] 74 (0, 0)) →
    Calls Try.prog 46 #[.pointer (some ⟨sb, 0, none⟩), .agg r.cells.toArray] w fun e w' => ∃ r' : RUnit, e = .returned (.agg r'.cells.toArray) ∧ Bes sb w w' ∧
      w'.heap[sb]? = some (.cells #[.int .i64 act, .int .i64 item, .int .i64 ((stampF act item u (unit + 1) word).2.1 - 1), .int .i64 ((stampF act item u (unit + 1) word).2.2)] 74 (0, 0)) ∧ Reads (mask (fresh w.heap.size) w') (stampF act item u (unit + 1) word).1 r'

set_option maxRecDepth 100000 in
set_option maxHeartbeats 3200000 in
theorem tree_step (act item : Int) (N : Nat) (ih : TreeAt act item N) : TreeAt act item (N + 1) := by
    intro u0 r sb unit word w hN hr hA hu0 hu1 hw0 hw1 hst
    obtain ⟨a, i, n, kd, lb, hl, wl, kids⟩ := u0
    rw [Reads] at hr
    rw [AllU] at hA
    rw [cntF] at hu1 hw1
    obtain ⟨⟨hl1, hl2, hl3⟩, hA⟩ := hA
    obtain ⟨⟨-, -, -, hkd, hlb⟩, ⟨hhn, hhc, hhs⟩, ⟨hwn, hwc, hws⟩, hkn, hkc, us, hus, hall⟩ := hr
    have hsbl := block_lt hst
    obtain ⟨ra, ri, rn, rk, rl, hdA, hn, hc, wA, wn, wc, kA, kn, kc⟩ := r
    dsimp only at hkn hkc hus hall hkd hlb hhn hhc hhs hwn hwc hws hl3
    simp only [RUnit.cells]
    have hul := ReadsAll.length hall
    rw [← hul] at hkn hkc hl3
    subst hkn hlb hhn hwn hkd
    have Hall := Lib.hid hall
    have HA := Lib.hid hA
    have HN := Lib.hid hN
    have Hul := Lib.hid hul
    clear hall hA hul hN
    obtain ⟨R, hR⟩ : ∃ R, stampF act item (.mk a i n rk rl hl wl kids) (unit + 1) word = R := ⟨_, rfl⟩
    rw [hR]
    rw [stampF] at hR
    have HR := Lib.hid hR
    clear hR
    have hbx := heap_alloc_new w (.cells #[.int .i64 ra, .int .i64 ri, .int .i64 rn, .int .i64 rk, .string rl, .slice hdA hl.length hc, .slice wA wl.length wc, .slice kA us.length kc] 41)
    have t2 : ∀ w', Ext w w' → w'.cell? ⟨sb, 2, none⟩ = some (.int .i64 unit) := fun w' he => by
      have := TCells.cell (cellsT hst hsbl he) 2 _ rfl
      rwa [Nat.zero_add] at this
    have t2' := t2 _ (((Ext.refl w).alloc (.cells #[.int .i64 ra, .int .i64 ri, .int .i64 rn, .int .i64 rk, .string rl, .slice hdA hl.length hc, .slice wA wl.length wc, .slice kA us.length kc] 41)).alloc (.cells #[.int .i64 0, .int .i64 0, .int .i64 0, .int .i64 0, .string ⟨#[]⟩, .slice none 0 0, .slice none 0 0, .slice none 0 0] 41))
    have hst' := ((((Ext.refl w).alloc (.cells #[.int .i64 ra, .int .i64 ri, .int .i64 rn, .int .i64 rk, .string rl, .slice hdA hl.length hc, .slice wA wl.length wc, .slice kA us.length kc] 41)).alloc (.cells #[.int .i64 0, .int .i64 0, .int .i64 0, .int .i64 0, .string ⟨#[]⟩, .slice none 0 0, .slice none 0 0, .slice none 0 0] 41)).block hsbl).trans hst
    clear t2
    go_enter Try.func46, Try.ntmps46
    go_wp2_with (first | (refine wpList_fld rfl 74 2 (.tmp 12) rfl _ Try.underlying74 _ rfl 1 Try.sizeOf3 (by decide) sb 0 rfl ?_) | (refine wpList_put rfl 3 (.tmp 13) (.tmp 11) rfl sb 2 (.int .i64 (unit + 1)) rfl rfl [.int .i64 (unit + 1)] rfl Try.sizeOf3 (by simp [Value.oneCell']) 74 _ hst' (by simp) ?_; intro w1 hw1 hos1 htp1 hou1 hs1 hbk1))
    have hB1 : Bes sb w w1 := (Bes.of_ext (((Ext.refl w).alloc _).alloc _)).put (.inl rfl) hw1 hos1 htp1 hou1 hs1
    have hb1 : w1.heap[w.heap.size]? = some (.cells #[.int .i64 ra, .int .i64 ri, .int .i64 rn, .int .i64 rk, .string rl, .slice hdA hl.length hc, .slice wA wl.length wc, .slice kA us.length kc] 41 (0, 0)) := (hw1 _ (by omega)).trans ((heap_alloc_old _ _ (by simp)).trans hbx)
    have hr1 : w1.heap[w.heap.size + 1]? = some (.cells unit0.cells.toArray 41 (0, 0)) := by
      rw [hw1 _ (by omega)]
      have e := heap_alloc_new (w.alloc (.cells #[.int .i64 ra, .int .i64 ri, .int .i64 rn, .int .i64 rk, .string rl, .slice hdA hl.length hc, .slice wA wl.length wc, .slice kA us.length kc] 41)) (.cells unit0.cells.toArray 41)
      rw [show (w.alloc (.cells #[.int .i64 ra, .int .i64 ri, .int .i64 rn, .int .i64 rk, .string rl, .slice hdA hl.length hc, .slice wA wl.length wc, .slice kA us.length kc] 41)).heap.size = w.heap.size + 1 from by simp] at e
      exact e
    have hz1 : w.heap.size + 2 ≤ w1.heap.size := by rw [hs1]; simp
    have hst1 : w1.heap[sb]? = some (.cells #[.int .i64 act, .int .i64 item, .int .i64 (unit + 1), .int .i64 (word)] 74 (0, 0)) := by rw [hbk1]; simp
    clear hw1 hos1 htp1 hou1 hs1 hbk1 hbx hst' t2'
    have Hst := Lib.hid (show ∀ w', Ext w1 w' → _ from fun w' he => cellsT hst1 (block_lt hst1) he)
    refine wp_drawn_tail 14 (fun i => match i with | 0 => Ty.is (.pointer (some ⟨sb, 0, none⟩)) | 1 => Ty.is (.pointer (some ⟨sb, 0, none⟩)) | 2 => TCells [.int .i64 act] | 3 => Ty.is (.int .i64 act) | 4 => Ty.is (.pointer (some ⟨sb, 0, none⟩)) | 5 => Ty.is (.pointer (some ⟨sb, 0, none⟩)) | 6 => TCells [.int .i64 item] | 7 => Ty.is (.int .i64 item) | 8 => Ty.is (.pointer (some ⟨sb, 0, none⟩)) | 9 => Ty.is (.pointer (some ⟨sb, 0, none⟩)) | 10 => TCells [.int .i64 (unit + 1)] | 11 => Ty.is (.int .i64 (unit + 1)) | 12 => Ty.is (.agg #[.int .i64 act, .int .i64 item, .int .i64 (unit + 1)]) | 13 => Ty.is (.pointer (some ⟨w.heap.size, 0, none⟩)) | _ => Ty.any) (by kernel_rfl) (by kernel_rfl) (by kernel_rfl) (by decide) rfl ?_
    intro v
    refine ⟨?_, ?_, ?_, ?_, ?_, ?_, ?_, ?_, ?_, ?_, ?_, ?_, ?_, ?_, ?_⟩
    · intro wq hq hd
      refine ob_plain rfl ?_
      exact yld_move (.tmp 0) rfl rfl rfl
    · intro wq hq hd
      obtain ⟨h0, -⟩ := hd
      change v 0 = _ at h0
      refine ob_plain rfl ?_
      exact yld_nil (.tmp 14) rfl h0 rfl
    · intro wq hq hd
      obtain ⟨h0, -⟩ := hd
      change v 1 = _ at h0
      refine ob_plain rfl ?_
      exact yld_field 74 0 (.tmp 15) rfl _ Try.underlying74 _ rfl 1 Try.sizeOf3 (by decide) [.int .i64 act, .int .i64 item, .int .i64 (unit + 1), .int .i64 word] (by show (TCells _).p (v 1) wq; rw [h0]; exact Hst.out _ hq)
    · intro wq hq hd
      obtain ⟨h0, -⟩ := hd
      change (TCells [.int .i64 act]).p (v 2) wq at h0
      refine ob_plain rfl ?_
      exact yld_loadOne 3 (.tmp 16) rfl Try.isAgg3 (c := .int .i64 act) h0 rfl
    · intro wq hq hd
      refine ob_plain rfl ?_
      exact yld_move (.tmp 0) rfl rfl rfl
    · intro wq hq hd
      obtain ⟨h0, -⟩ := hd
      change v 4 = _ at h0
      refine ob_plain rfl ?_
      exact yld_nil (.tmp 18) rfl h0 rfl
    · intro wq hq hd
      obtain ⟨h0, -⟩ := hd
      change v 5 = _ at h0
      refine ob_plain rfl ?_
      exact yld_field 74 1 (.tmp 19) rfl _ Try.underlying74 _ rfl 1 Try.sizeOf3 (by decide) [.int .i64 act, .int .i64 item, .int .i64 (unit + 1), .int .i64 word] (by show (TCells _).p (v 5) wq; rw [h0]; exact Hst.out _ hq)
    · intro wq hq hd
      obtain ⟨h0, -⟩ := hd
      change (TCells [.int .i64 item]).p (v 6) wq at h0
      refine ob_plain rfl ?_
      exact yld_loadOne 3 (.tmp 20) rfl Try.isAgg3 (c := .int .i64 item) h0 rfl
    · intro wq hq hd
      refine ob_plain rfl ?_
      exact yld_move (.tmp 0) rfl rfl rfl
    · intro wq hq hd
      obtain ⟨h0, -⟩ := hd
      change v 8 = _ at h0
      refine ob_plain rfl ?_
      exact yld_nil (.tmp 22) rfl h0 rfl
    · intro wq hq hd
      obtain ⟨h0, -⟩ := hd
      change v 9 = _ at h0
      refine ob_plain rfl ?_
      exact yld_field 74 2 (.tmp 23) rfl _ Try.underlying74 _ rfl 1 Try.sizeOf3 (by decide) [.int .i64 act, .int .i64 item, .int .i64 (unit + 1), .int .i64 word] (by show (TCells _).p (v 9) wq; rw [h0]; exact Hst.out _ hq)
    · intro wq hq hd
      obtain ⟨h0, -⟩ := hd
      change (TCells [.int .i64 (unit + 1)]).p (v 10) wq at h0
      refine ob_plain rfl ?_
      exact yld_loadOne 3 (.tmp 24) rfl Try.isAgg3 (c := .int .i64 (unit + 1)) h0 rfl
    · intro wq hq hd
      obtain ⟨h0, h1, h2, -⟩ := hd
      change v 3 = _ at h0
      change v 7 = _ at h1
      change v 11 = _ at h2
      refine ob_plain rfl ?_
      exact yld_build 38 [(0, _), (1, _), (2, _)] rfl [(0, .int .i64 act), (1, .int .i64 item), (2, .int .i64 (unit + 1))] ⟨⟨rfl, h0⟩, ⟨rfl, h1⟩, ⟨rfl, h2⟩, trivial⟩ (fun w => by go_simp) rfl
    · intro wq hq hd
      obtain ⟨h0, h1, h2, h3, h4, h5, h6, h7, h8, h9, h10, h11, h12, -⟩ := hd
      refine ob_plain rfl ?_
      exact yld_fld 41 0 (.tmp 3) rfl _ Try.underlying41 _ rfl 3 Try.sizeOf38 (by decide) w.heap.size 0 rfl rfl
    · intro wq hq hT
      have k12 := hT 12 (by decide)
      change v 12 = _ at k12
      have k13 := hT 13 (by decide)
      change v 13 = _ at k13
      clear hT
      simp only [List.drop_succ_cons, List.drop_zero, putE, setsE, List.set_cons_succ, List.set_cons_zero, Nat.reduceAdd]
      rw [k12]
      rw [k13]
      have hbq := (hq.block (block_lt hb1)).trans hb1
      have hrq := (hq.block (block_lt hr1)).trans hr1
      have hstq := (hq.block (block_lt hst1)).trans hst1
      have hBq : Bes sb w wq := hB1.ext hq
      have hzq := Nat.le_trans hz1 hq.size
      clear hb1 hr1 hst1 hB1 hz1 Hst hq
      go_wp2_with (refine wpList_put rfl 38 (.tmp 27) (.tmp 26) rfl w.heap.size 0 (.agg #[.int .i64 act, .int .i64 item, .int .i64 (unit + 1)]) rfl rfl [.int .i64 act, .int .i64 item, .int .i64 (unit + 1)] rfl Try.sizeOf38 (by simp [Value.oneCell']) 41 _ hbq (by simp) ?_; intro w2 hw2 hos2 htp2 hou2 hs2 hbk2; have f5 := (unitBlock (r := ⟨act, item, unit + 1, rk, rl, hdA, hl.length, hc, wA, wl.length, wc, kA, us.length, kc⟩) (hbk2.trans (by simp [RUnit.cells]))).2.2.2.2.2.1; dsimp only at f5)
      have hB2 : Bes sb w w2 := hBq.put (.inr (Nat.le_refl _)) hw2 hos2 htp2 hou2 hs2
      have hb2 : w2.heap[w.heap.size]? = some (.cells (RUnit.cells ⟨act, item, unit + 1, rk, rl, hdA, hl.length, hc, wA, wl.length, wc, kA, us.length, kc⟩).toArray 41 (0, 0)) := hbk2.trans (by simp [RUnit.cells])
      have hr2 := (hw2 (w.heap.size + 1) (by omega)).trans hrq
      have hst2 := (hw2 sb (by omega)).trans hstq
      have hz2 : w.heap.size + 2 ≤ w2.heap.size := by rw [hs2]; exact hzq
      clear hw2 hos2 htp2 hou2 hs2 hbk2 hbq hrq hstq hBq hzq
      -- the head
      refine (row_any sb act item (unit + 1) word hdA hc hl w2 (hhs.cin (hB2.cin (by simp))).unmask (by omega) hst2 (by omega) (by omega)).mono ?_
      rintro e w3 ⟨v1, rfl, hown3, hB3, hst3⟩
      have hO3 := hown3.mono (base' := w.heap.size + 2) hz2
      obtain ⟨A1, c1, rfl, hc1, -⟩ := hown3.form
      have hml : (markF act item word (hl.map GWord.t)).length = hl.length := by rw [markF_length, List.length_map]
      obtain ⟨MH, hMH⟩ : ∃ MH, markF act item word (hl.map GWord.t) = MH := ⟨_, rfl⟩
      rw [hMH] at hO3 hml hc1 ⊢
      have HMH := Lib.hid hMH
      have Hml := Lib.hid hml
      have hb3 := (hB3.block w.heap.size (by omega) (by omega)).trans hb2
      have hr3 := (hB3.block (w.heap.size + 1) (by omega) (by omega)).trans hr2
      have hB3' := hB2.trans hB3
      have hz3 := Nat.le_trans hz2 hB3.size
      clear hMH hml hown3 hB2 hB3 hb2 hr2 hst2 hz2 f5
      go_wp2_with (first | (refine wpList_fld rfl 41 3 (.tmp 3) rfl _ Try.underlying41 _ rfl 1 Try.sizeOf22 (by decide) w.heap.size 0 rfl ?_) | (refine wpList_put rfl 22 (.tmp 32) (.tmp 31) rfl w.heap.size 5 (.slice A1 MH.length c1) rfl rfl [.slice A1 MH.length c1] rfl Try.sizeOf22 (by simp [Value.oneCell']) 41 _ hb3 (by simp [RUnit.cells]) ?_; intro w4 hw4 hos4 htp4 hou4 hs4 hbk4; have f6 := (unitBlock (r := ⟨act, item, unit + 1, rk, rl, A1, MH.length, c1, wA, wl.length, wc, kA, us.length, kc⟩) (hbk4.trans (by simp [RUnit.cells]))).2.2.2.2.2.2.1; dsimp only at f6))
      have hB4 : Bes sb w w4 := hB3'.put (.inr (Nat.le_refl _)) hw4 hos4 htp4 hou4 hs4
      have hb4 : w4.heap[w.heap.size]? = some (.cells (RUnit.cells ⟨act, item, unit + 1, rk, rl, A1, MH.length, c1, wA, wl.length, wc, kA, us.length, kc⟩).toArray 41 (0, 0)) := hbk4.trans (by simp [RUnit.cells])
      have hr4 := (hw4 (w.heap.size + 1) (by omega)).trans hr3
      have hst4 := (hw4 sb (by omega)).trans hst3
      have hz4 : w.heap.size + 2 ≤ w4.heap.size := by rw [hs4]; exact hz3
      have hO4 : Own wordEl (w.heap.size + 2) w4 (.slice A1 MH.length c1) MH := hO3.keep fun k hk => hw4 k (by have := (hO3.lt k hk).1; omega)
      clear hw4 hos4 htp4 hou4 hs4 hbk4 hb3 hr3 hst3 hB3' hz3 hO3
      -- the words
      refine (row_any sb act item (unit + 1) (word + hl.length) wA wc wl w4 (hws.cin (hB4.cin (by simp))).unmask (by omega) hst4 (by omega) (by omega)).mono ?_
      rintro e w5 ⟨v1, rfl, hown5, hB5, hst5⟩
      have hO5 := hown5.mono (base' := w.heap.size + 2) hz4
      have hO4' : Own wordEl (w.heap.size + 2) w5 (.slice A1 MH.length c1) MH := hO4.keep fun k hk => hB5.block k (hO4.lt k hk).2 (by have := (hO4.lt k hk).1; omega)
      obtain ⟨A2, c2, rfl, hc2, -⟩ := hown5.form
      have hml : (markF act item (word + hl.length) (wl.map GWord.t)).length = wl.length := by rw [markF_length, List.length_map]
      obtain ⟨MW, hMW⟩ : ∃ MW, markF act item (word + hl.length) (wl.map GWord.t) = MW := ⟨_, rfl⟩
      rw [hMW] at hO5 hml hc2 ⊢
      have HMW := Lib.hid hMW
      have Hmw := Lib.hid hml
      have hb5 := (hB5.block w.heap.size (by omega) (by omega)).trans hb4
      have hr5 := (hB5.block (w.heap.size + 1) (by omega) (by omega)).trans hr4
      have hB5' := hB4.trans hB5
      have hz5 := Nat.le_trans hz4 hB5.size
      clear hMW hml hown5 hB4 hB5 hb4 hr4 hst4 hz4 f6 hO4
      go_wp2_with (first | (refine wpList_fld rfl 41 4 (.tmp 3) rfl _ Try.underlying41 _ rfl 1 Try.sizeOf22 (by decide) w.heap.size 0 rfl ?_) | (refine wpList_put rfl 22 (.tmp 37) (.tmp 36) rfl w.heap.size 6 (.slice A2 MW.length c2) rfl rfl [.slice A2 MW.length c2] rfl Try.sizeOf22 (by simp [Value.oneCell']) 41 _ hb5 (by simp [RUnit.cells]) ?_; intro w6 hw6 hos6 htp6 hou6 hs6 hbk6; have hB6 : Bes sb w w6 := (hB5'.put (.inr (Nat.le_refl _)) hw6 hos6 htp6 hou6 hs6); have hz6 : w.heap.size + 2 ≤ w6.heap.size := (by rw [hs6]; exact hz5); have Hs6 := Lib.hid hs6; clear hs6; have husw := hus.cin (hB6.cin (by simp)); have f7 := (unitBlock (r := ⟨act, item, unit + 1, rk, rl, A1, MH.length, c1, A2, MW.length, c2, kA, us.length, kc⟩) (hbk6.trans (by simp [RUnit.cells]))).2.2.2.2.2.2.2; dsimp only at f7) |
        (at_make; refine wpList_mk unitEl rfl _ _ rfl _ _ rfl rfl us.length rfl rfl (by omega) hz6 ?_; intro w7 hown7 hext7 hsz7; have Hs7 := Lib.hid hsz7; clear hsz7; have f7' := (hext7.cell (p := ⟨w.heap.size, 7, none⟩) (by show w.heap.size < _; omega)).trans f7) |
        (refine wpList_cpy unitEl rfl (.tmp 42) (.tmp 44) rfl kc _ rfl rfl hown7 (husw.unmask.ext hext7) rfl ?_; intro w8 hown8 hg8))
      -- the loop
      have hg8l : w6.heap.size < w8.heap.size := by have := hg8.size; have := Hs7.out; omega
      have hrow8 : Own unitEl (w.heap.size + 2) w8 (.slice (some ⟨w6.heap.size, 0, none⟩) us.length us.length) us := hown8
      have hx8 : Ext w6 w8 := hext7.trans' (base := w6.heap.size) ((Below.refl _ _).grown hg8 (by have := hext7.size; omega) (fun k hk => by cases hk; exact Nat.le_refl _))
      have hO6 : Own wordEl (w.heap.size + 2) w6 (.slice A1 MH.length c1) MH := hO4'.keep fun k hk => hw6 k (by have := (hO4'.lt k hk).1; omega)
      have hO7 : Own wordEl (w.heap.size + 2) w6 (.slice A2 MW.length c2) MW := hO5.keep fun k hk => hw6 k (by have := (hO5.lt k hk).1; omega)
      obtain ⟨gb, hgb⟩ : ∃ gb, gb = w6.heap.size := ⟨_, rfl⟩
      obtain ⟨p, hp⟩ : ∃ p : Nat → Bool, p = fun k => decide (k < w.heap.size + 2) || decide (k = gb) := ⟨_, rfl⟩
      have hO6' := hO6.ext hx8
      have hO7' := hO7.ext hx8
      obtain ⟨_, _, hv1, -, -, hsl1⟩ := hO6'.formMask (p := p) (fun k hk hk2 => by have := (hO6.lt k hk2).2; rw [hp]; simp; omega)
      cases hv1
      obtain ⟨_, _, hv2, -, -, hsl2⟩ := hO7'.formMask (p := p) (fun k hk hk2 => by have := (hO7.lt k hk2).2; rw [hp]; simp; omega)
      cases hv2
      have hb6 : w6.heap[w.heap.size]? = some (.cells (RUnit.cells ⟨act, item, unit + 1, rk, rl, A1, MH.length, c1, A2, MW.length, c2, kA, us.length, kc⟩).toArray 41 (0, 0)) := hbk6.trans (by simp [RUnit.cells])
      have hb8 := (hx8.block (k := w.heap.size) (by omega)).trans hb6
      have hr8 := (hx8.block (k := w.heap.size + 1) (by omega)).trans ((hw6 (w.heap.size + 1) (by omega)).trans hr5)
      have hst8 := (hx8.block (k := sb) (by omega)).trans ((hw6 sb (by omega)).trans hst5)
      have hB8 := hB6.ext hx8
      have hz8 := Nat.le_trans hz6 hx8.size
      have hgb1 : w.heap.size + 2 ≤ gb := by omega
      have hgb2 : gb < w8.heap.size := by omega
      rw [← hgb] at hrow8 ⊢
      have Hp1 := Lib.hid (show ∀ k, k < w.heap.size + 2 → p k = true from fun k hk => by rw [hp]; simp [hk])
      have Hp2 := Lib.hid (show p gb = true by rw [hp]; simp)
      have Hp3 := Lib.hid (show ∀ k, w.heap.size + 2 ≤ k → k ≠ gb → p k = false from fun k hk hk2 => by rw [hp]; simp [hk2]; omega)
      obtain ⟨m2, hm2⟩ : ∃ m2, word + (hl.length : Int) + (wl.length : Int) = m2 := ⟨_, rfl⟩
      have hm2a : 0 ≤ m2 := by omega
      have hm2b : m2 + 600 * (cntL kids : Int) ≤ 1000000000 := by omega
      have hn2 : unit + 1 + (cntL kids : Int) ≤ 1000000 := by omega
      have hst8' : w8.heap[sb]? = some (.cells #[.int .i64 act, .int .i64 item, .int .i64 (unit + 1), .int .i64 (m2)] 74 (0, 0)) := by rw [hst8, hm2]
      obtain ⟨RK, hRK⟩ : ∃ RK, stampL act item kids (unit + 1 + 1) m2 = RK := ⟨_, rfl⟩
      have hR := HR.out
      rw [hm2, hRK, HMH.out, HMW.out] at hR
      have HR' := Lib.hid hR
      have HRK := Lib.hid hRK
      clear Hs6 Hs7
      clear HR hR hRK hp hO4' hO5 hO6 hO7 hO6' hO7' hw6 hos6 htp6 hou6 hbk6 hb5 hr5 hst5 hB5' hz5 hown8 hg8 hg8l hown7 hext7 f7 f7' hx8 hb6 hst8 hm2 hgb husw hz6 hB6 hz8
      clear w3 w4 w5 w7
      go_loopw [48] (fun i wr => ∃ (k : Nat) (uk wk : Int) (done : List GUnit) (rs : List RUnit), k ≤ us.length ∧ i = .int .i64 k ∧ 0 ≤ uk ∧ 0 ≤ wk ∧ uk + cntL (kids.drop k) ≤ 1000000 ∧ wk + 600 * cntL (kids.drop k) ≤ 1000000000 ∧
        Hid ((done ++ (stampL act item (kids.drop k) (uk + 1) wk).1, (stampL act item (kids.drop k) (uk + 1) wk).2.1, (stampL act item (kids.drop k) (uk + 1) wk).2.2) = RK) ∧ wr.heap[sb]? = some (.cells #[.int .i64 act, .int .i64 item, .int .i64 (uk), .int .i64 (wk)] 74 (0, 0)) ∧
        Own unitEl (w.heap.size + 2) wr (.slice (some ⟨gb, 0, none⟩) us.length us.length) (rs ++ us.drop k) ∧ wr.heap[w.heap.size]? = some (.cells (RUnit.cells ⟨act, item, unit + 1, rk, rl, A1, MH.length, c1, A2, MW.length, c2, kA, us.length, kc⟩).toArray 41 (0, 0)) ∧ wr.heap[w.heap.size + 1]? = some (.cells unit0.cells.toArray 41 (0, 0)) ∧
        Sl wordEl (mask p wr) A1 MH ∧ Sl wordEl (mask p wr) A2 MW ∧ Hid (ReadsAll (mask p wr) done rs) ∧ Hid (done.length = k) ∧ Bes sb w wr ∧ gb < wr.heap.size) (fun i _ => us.length - (intOf i).toNat)
      case atStart => exact ⟨0, unit + 1, m2, [], [], Nat.zero_le _, rfl, by omega, hm2a, hn2, hm2b, by unfold Hid; rw [List.drop_zero, List.nil_append, HRK.out], hst8', by rw [List.drop_zero, List.nil_append]; exact hrow8, hb8, hr8, hsl1, hsl2, Lib.hid (by rw [ReadsAll]; trivial), Lib.hid rfl, hB8, hgb2⟩
      case round =>
        obtain ⟨k, uk, wk, done, rs, hk, rfl, huk, hwk, huk2, hwk2, HS, hstr, hown, hbr, hrr, hs1, hs2, Hrs, Hdl, hBr, hgr⟩ := hrel
        have Hrl := Lib.hid ((ReadsAll.length Hrs.out).trans Hdl.out)
        by_cases hlt : k < us.length
        · have d1 : decide ((k : Int) < (us.length : Int)) = true := decide_eq_true (by omega)
          have hltk : k < kids.length := by rw [← Hul.out]; exact hlt
          obtain ⟨xs, hxs⟩ : ∃ xs, rs ++ us.drop k = xs := ⟨_, rfl⟩
          have hxl : xs.length = us.length := by rw [← hxs, List.length_append, Hrl.out, List.length_drop]; omega
          have hltx : k < xs.length := by rw [hxl]; exact hlt
          obtain ⟨q, hq⟩ : ∃ q, us[k] = q := ⟨_, rfl⟩
          have hxk : xs[k] = q := by
            have e1 : us.drop k = us[k] :: us.drop (k + 1) := List.drop_eq_getElem_cons hlt
            subst hxs
            rw [List.getElem_append_right (by rw [Hrl.out]; exact Nat.le_refl _)]
            simp [Hrl.out, hq]
          have hown' : Own unitEl (w.heap.size + 2) wr (.slice (some ⟨gb, 0, none⟩) xs.length us.length) xs := by rw [hxl, ← hxs]; exact hown
          obtain ⟨_, _, hvx, -, hslx⟩ := hown'.form
          cases hvx
          obtain ⟨b, off, hbe, hbl, u0, u1, u2, u3, u4, u5, u6, u7⟩ := unitAt hslx hltx
          simp only [Option.some.injEq, Addr.mk.injEq] at hbe
          obtain ⟨rfl, rfl, -⟩ := hbe
          rw [hxk] at u0 u1 u2 u3 u4 u5 u6 u7
          rw [Nat.zero_add] at u0 u1 u2 u3 u4 u5 u6 u7
          have hsub : SizeOf.sizeOf kids[k] ≤ N := by
            have a1 := List.sizeOf_lt_of_mem (List.getElem_mem hltk)
            have a2 := HN.out
            simp at a2
            omega
          have hAk := HA.out.get k hltk
          have hck := cntL_drop hltk
          have hbd := stampF_bounds act item kids[k] (uk + 1) wk hAk
          have hSk := HS.out
          rw [List.drop_eq_getElem_cons hltk, stampL] at hSk
          have hrec := ih kids[k] q sb uk wk wr hsub (Reads.cin (hBr.cin (by simp)) _ _ (hq ▸ ReadsAll.get Hall.out k hltk hlt)) hAk huk (by omega) hwk (by omega) hstr
          obtain ⟨X, hX⟩ : ∃ X, stampF act item kids[k] (uk + 1) wk = X := ⟨_, rfl⟩
          rw [hX] at hrec hbd hSk
          obtain ⟨n1, hn1e⟩ : ∃ n1, X.2.1 = n1 := ⟨_, rfl⟩
          obtain ⟨m1, hm1e⟩ : ∃ m1, X.2.2 = m1 := ⟨_, rfl⟩
          obtain ⟨u', hu'⟩ : ∃ u', X.1 = u' := ⟨_, rfl⟩
          rw [hn1e, hm1e, hu'] at hSk hrec
          rw [hn1e, hm1e] at hbd
          obtain ⟨hbd1, hbd2, hbd3⟩ := hbd
          have Hb1 := Lib.hid (show n1 - 1 + cntL (kids.drop (k + 1)) ≤ 1000000 by omega)
          have Hb2 := Lib.hid (show m1 + 600 * cntL (kids.drop (k + 1)) ≤ 1000000000 by omega)
          have Hb3 := Lib.hid (show 0 ≤ n1 - 1 by omega)
          have Hb4 := Lib.hid (show 0 ≤ m1 by omega)
          have HSk := Lib.hid hSk
          have Hrec := Lib.hid hrec
          have Hxs := Lib.hid hxs
          have Hq := Lib.hid hq
          have Hxl := Lib.hid hxl
          have hgn : gb < wr.heap.size := hgr
          clear hSk hX hn1e hm1e hu' hsub hAk hck hbd1 hbd2 hbd3 huk2 hwk2 HS hrec hxs hxk hxl hq huk hwk hown
          go_wp2_with fail
          refine (Hrec.out).mono ?_
          rintro e w2 ⟨r', rfl, hB2, hst2, hrd⟩
          have hownw : Own unitEl (w.heap.size + 2) w2 (.slice (some ⟨gb, 0, none⟩) xs.length us.length) xs := hown'.keep fun g hg => by
            cases hg
            exact hB2.block gb hgn (by omega)
          have hb2 := (hB2.block w.heap.size (by have := hBr.size; omega) (by omega)).trans hbr
          have hr2 := (hB2.block (w.heap.size + 1) (by have := hBr.size; omega) (by omega)).trans hrr
          have hBz := hBr.size
          clear hbr hrr u0 u1 u2 u3 u4 u5 u6 u7 hown' hslx
          go_wp2_with (refine wpList_putOwn unitEl rfl (.tmp 59) (.tmp 58) rfl gb us.length k (k * 8) r' (.agg r'.cells.toArray) rfl rfl rfl rfl hownw hltx ?_; intro w3 hw3 hos3 htp3 hou3 hs3 hown3)
          have hrow3 : Own unitEl (w.heap.size + 2) w3 (.slice (some ⟨gb, 0, none⟩) us.length us.length) ((rs ++ [r']) ++ us.drop (k + 1)) := by
            have e1 : us.drop k = us[k] :: us.drop (k + 1) := List.drop_eq_getElem_cons hlt
            have e2 : xs.set k r' = (rs ++ [r']) ++ us.drop (k + 1) := by
              rw [← Hxs.out, e1, List.set_append_right _ _ (by rw [Hrl.out]; exact Nat.le_refl _), Hrl.out, Nat.sub_self, List.set_cons_zero, List.append_assoc]
              rfl
            rw [← e2]
            have e3 := hown3
            rw [Hxl.out] at e3
            exact e3
          have hci1 : CIn (mask p wr) (mask p w3) := CIn.keep (by rw [hs3]; exact hB2.size) fun j hj hpj => by
            have h1 : j ≠ gb := by rintro rfl; rw [Hp2.out] at hpj; cases hpj
            have h2 : j ≠ sb := by rintro rfl; rw [Hp1.out j (by omega)] at hpj; cases hpj
            exact ⟨(hw3 j h1).trans (hB2.block j hj h2), hpj⟩
          have hci2 : CIn (mask (fresh wr.heap.size) w2) (mask p w3) := CIn.keep (by rw [hs3]; exact Nat.le_refl _) fun j hj hpj => by
            simp only [fresh, decide_eq_false_iff_not, Nat.not_lt] at hpj
            exact ⟨hw3 j (by omega), Hp3.out j (by omega) (by omega)⟩
          have Hadd := Lib.hid (ReadsAll.snoc (ReadsAll.cin hci1 _ _ Hrs.out) (Reads.cin hci2 _ _ hrd))
          have hB3 : Bes sb w w3 := (hBr.trans hB2).put (.inr (by omega)) hw3 hos3 htp3 hou3 hs3
          have hb3 := (hw3 w.heap.size (by omega)).trans hb2
          have hr3 := (hw3 (w.heap.size + 1) (by omega)).trans hr2
          have hst3 := (hw3 sb (by omega)).trans hst2
          have hgz : gb < w3.heap.size := by rw [hs3]; exact Nat.lt_of_lt_of_le hgn hB2.size
          clear hw3 hos3 htp3 hou3 hs3 hown3 hownw hb2 hr2 hB2 hst2 hrd
          go_wp2
          go_roundw
          case rel => exact ⟨k + 1, n1 - 1, m1, done ++ [u'], rs ++ [r'], by omega, by go_num, Hb3.out, Hb4.out, Hb1.out, Hb2.out, by unfold Hid; rw [List.append_assoc, Int.sub_add_cancel]; exact HSk.out, hst3, hrow3, hb3, hr3, hs1.cin hci1, hs2.cin hci1, Hadd, Lib.hid (by rw [List.length_append, Hdl.out]; rfl), hB3, hgz⟩
          case measure => simp [intOf]; omega
        · have d1 : decide ((k : Int) < (us.length : Int)) = false := decide_eq_false (by omega)
          have hSk := HS.out
          rw [List.drop_eq_nil_of_le (by rw [← Hul.out]; omega), stampL, List.append_nil] at hSk
          have hR := HR'.out
          rw [← hSk] at hR
          have HSk := Lib.hid hR
          have hxl : rs ++ us.drop k = rs := by rw [List.drop_eq_nil_of_le (by omega), List.append_nil]
          rw [hxl] at hown
          have Hrl2 := Lib.hid (Hrl.out.trans (show k = us.length by omega))
          have hBz := hBr.size
          clear hSk hR HS hxl
          go_wp2_with (first | (refine wpList_fld rfl 41 5 (.tmp 3) rfl _ Try.underlying41 _ rfl 1 Try.sizeOf39 (by decide) w.heap.size 0 rfl ?_) | (refine wpList_put rfl 39 (.tmp 62) (.tmp 61) rfl w.heap.size 7 (.slice (some ⟨gb, 0, none⟩) us.length us.length) rfl rfl [.slice (some ⟨gb, 0, none⟩) us.length us.length] rfl Try.sizeOf39 (by simp [Value.oneCell']) 41 _ hbr (by simp [RUnit.cells]) ?_; intro w2 hw2 hos2 htp2 hou2 hz2 hbk2; obtain ⟨f0, f1, f2, f3, f4, f5, f6, f7⟩ := unitBlock (r := ⟨act, item, unit + 1, rk, rl, A1, MH.length, c1, A2, MW.length, c2, some ⟨gb, 0, none⟩, us.length, us.length⟩) (hbk2.trans (by simp [RUnit.cells])); dsimp only at f0 f1 f2 f3 f4 f5 f6 f7; have hrr2 := (hw2 (w.heap.size + 1) (by omega)).trans hrr) |
            (refine wpList_put rfl 41 (.tmp 4) (.tmp 63) rfl (w.heap.size + 1) 0 (.agg (RUnit.cells ⟨act, item, unit + 1, rk, rl, A1, MH.length, c1, A2, MW.length, c2, some ⟨gb, 0, none⟩, us.length, us.length⟩).toArray) rfl rfl (RUnit.cells ⟨act, item, unit + 1, rk, rl, A1, MH.length, c1, A2, MW.length, c2, some ⟨gb, 0, none⟩, us.length, us.length⟩) rfl Try.sizeOf41 (by simp [RUnit.cells, Value.oneCell']) 41 _ hrr2 (by simp [unit0, RUnit.cells]) ?_; intro w3 hw3 hos3 htp3 hou3 hs3 hbk3))
          have hfin : w3.heap[w.heap.size + 1]? = some (.cells (RUnit.cells ⟨act, item, unit + 1, rk, rl, A1, MH.length, c1, A2, MW.length, c2, some ⟨gb, 0, none⟩, us.length, us.length⟩).toArray 41 (0, 0)) := by
            rw [hbk3]
            simp [RUnit.cells, unit0]
          have hB2 : Bes sb w w2 := hBr.put (.inr (Nat.le_refl _)) hw2 hos2 htp2 hou2 hz2
          have hB3 : Bes sb w w3 := hB2.put (.inr (by omega)) hw3 hos3 htp3 hou3 hs3
          have hci : CIn (mask p wr) (mask (fresh w.heap.size) w3) := CIn.keep (by rw [hs3, hz2]; exact Nat.le_refl _) fun j hj hpj => by
            have hnj : ¬ j < w.heap.size + 2 := fun h => by rw [Hp1.out j h] at hpj; cases hpj
            exact ⟨(hw3 j (by omega)).trans (hw2 j (by omega)), by simp [fresh]; omega⟩
          have hown3 : Own unitEl (w.heap.size + 2) w3 (.slice (some ⟨gb, 0, none⟩) rs.length us.length) rs := by
            rw [Hrl2.out]
            exact hown.keep fun g hg => by
              cases hg
              exact (hw3 gb (by omega)).trans (hw2 gb (by omega))
          obtain ⟨_, _, hv3, hoc, -, hsl3⟩ := hown3.formMask (p := fresh w.heap.size) (fun g hg _ => by simp [fresh]; omega)
          cases hv3
          have hkl3 : rs.length = done.length := ReadsAll.length Hrs.out
          have hst3 := (hw3 sb (by omega)).trans ((hw2 sb (by omega)).trans hstr)
          go_wp2
          (try simp only [Exit.inBlock, Exit.then])
          refine bodyPost_ret (results_cell1 rfl _ _ (w.heap.size + 1) _ rfl hfin) rfl ?_
          have hRe := HSk.out
          subst hRe
          refine ⟨_, rfl, hB3, ?_, ?_⟩
          · simp only
            rw [Int.add_sub_cancel]
            exact hst3
          · simp only
            rw [Reads]
            exact ⟨⟨rfl, rfl, rfl, rfl, rfl⟩, ⟨rfl, hc1, hs1.cin hci⟩, ⟨rfl, hc2, hs2.cin hci⟩, by rw [← hkl3]; exact Hrl2.out.symm, by rw [← hkl3]; exact hoc, rs, hsl3, ReadsAll.cin hci _ _ Hrs.out⟩

theorem tree_any (act item : Int) : ∀ N, TreeAt act item N
  | 0 => fun u _ _ _ _ _ h => by obtain ⟨a, i, n, kd, lb, hl, wl, kids⟩ := u; simp at h
  | N + 1 => tree_step act item N (tree_any act item N)

end Go.Proofs.Ytkbmocgjbhmioaa
