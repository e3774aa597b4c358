/- ColumnWidths, Wide: the widths of the columns. -/
import Derived.Test.YthjlnpcanccmkaaCol9
namespace Go.Proofs.Ythjlnpcanccmkaa
open Go.RowKit

def widest (l : List ByteArray) : Nat := l.foldl (fun m s => max m s.size) 0
theorem widest_take {l : List ByteArray} {k : Nat} (hk : k < l.length) : widest (l.take (k + 1)) = max (widest (l.take k)) l[k].size := by
  unfold widest
  rw [List.take_succ_eq_append_getElem hk, List.foldl_append]
  rfl
def widthsF (u : GUnit) : List Int := (List.range (colsF u)).map fun k => ((widest (columnF u (k : Nat)) : Nat) : Int)
theorem widthsF_length (u : GUnit) : (widthsF u).length = colsF u := by simp [widthsF]
theorem range_map_succ {α : Type} (f : Nat → α) (k : Nat) : (List.range (k + 1)).map f = (List.range k).map f ++ [f k] := by rw [List.range_succ, List.map_append]; rfl
theorem colsF_le (u : GUnit) : colsF u ≤ 64 := by
  unfold colsF
  split
  · rename_i h
    exact (validB_parts h).2.2.1.2
  · omega

set_option maxRecDepth 100000 in
set_option maxHeartbeats 3200000 in
theorem widths_any (u : GUnit) (r : RUnit) (w : World) (hr : Reads w u r) (hsm : smallU u) :
    Calls Try.prog 15 #[.agg r.cells.toArray] w (RetOwn intEl w (widthsF u)) := by
  have he0 : Ext w (w.alloc (.cells r.cells.toArray 27)) := (Ext.refl _).alloc _
  have hv := size_any u r _ (Reads.ext he0 _ _ hr) (smallU_lens hsm)
  have hbu := fun w' he => boxUnit (w' := w') r (w := w) he
  have hcol := fun (k : Nat) w' (he : Ext w w') => column_any u r (k : Int) w' (Reads.ext he _ _ hr) hsm
  have hcl := fun (k : Nat) => columnF_length u (k : Int)
  have hkl : u.kids.length ≤ 64 := by
    have h1 := hsm.1
    obtain ⟨_, _, _, _, _, _, _, kids⟩ := u
    rw [cntF] at h1
    have := cntL_len kids
    simp only [GUnit.kids]
    omega
  have hc64 := colsF_le u
  have hwf : widthsF u = (List.range (colsF u)).map fun k => ((widest (columnF u (k : Nat)) : Nat) : Int) := rfl
  rw [hwf]
  obtain ⟨C, hC⟩ : ∃ C, colsF u = C := ⟨_, rfl⟩
  obtain ⟨R, hR⟩ : ∃ R, rowsF u = R := ⟨_, rfl⟩
  rw [hC] at hv hc64 ⊢
  rw [hR] at hv
  obtain ⟨L, hL⟩ : ∃ L : Nat → List ByteArray, (fun k : Nat => columnF u (k : Int)) = L := ⟨_, rfl⟩
  have hLk : ∀ k : Nat, columnF u (k : Int) = L k := fun k => congrFun hL k
  simp only [hLk] at hcol hcl ⊢
  obtain ⟨F, hF⟩ : ∃ F : Nat → Int, (fun k : Nat => ((widest (L k) : Nat) : Int)) = F := ⟨_, rfl⟩
  rw [hF]
  have hFk : ∀ k : Nat, ((widest (L k) : Nat) : Int) = F k := fun k => congrFun hF k
  simp only [RUnit.cells] at hv he0 hbu hcol ⊢
  obtain ⟨wb, hwb⟩ : ∃ wb, w.alloc (.cells #[.int .i64 r.a, .int .i64 r.i, .int .i64 r.n, .int .i64 r.kind, .string r.label, .slice r.hA r.hn r.hc, .slice r.wA r.wn r.wc, .slice r.kA r.kn r.kc] 27) = wb := ⟨_, rfl⟩
  rw [hwb] at hv he0 hbu
  have Hwb := Lib.hid hwb
  have Hv := Lib.hid hv
  have Hbu := Lib.hid hbu
  have Hcol := Lib.hid hcol
  have HFk := Lib.hid hFk
  have Hcl := Lib.hid (fun k => Nat.le_trans (hcl k) hkl)
  clear hv hbu hcol hC hR hr hsm hwf hL hLk hF hFk hwb hcl hkl
  go_enter Try.func15, Try.ntmps15
  go_wp2_with fail
  rw [Hwb.out]
  refine (Hv.out).mono ?_
  rintro e w1 ⟨rfl, hx1⟩
  go_wp2
  go_loopw [3, 16] (fun out i wr => ∃ k : Nat, k ≤ C ∧ i = .int .i64 k ∧ Own intEl wb.heap.size wr out ((List.range k).map F) ∧ Ext wb wr) (fun _ i _ => C - (intOf i).toNat)
  case atStart => exact ⟨0, Nat.zero_le _, rfl, Own.nil _, hx1⟩
  case round =>
    obtain ⟨k, hk, rfl, hown, hext⟩ := hrel
    have hsz := hext.size
    by_cases hlt : k < C
    · obtain ⟨-, u0, u1, u2, u3, u4, u5, u6, u7⟩ := Hbu.out wr hext
      have hc1 : ((List.range k).map F).length + 1 ≤ 68719476736 := by rw [List.length_map, List.length_range]; omega
      go_wp2_with fail
      refine (Hcol.out k wr (he0.trans hext)).mono ?_
      rintro e w2 ⟨v2, rfl, hown2, hx2⟩
      obtain ⟨A2, c2, rfl, hc2, hs2⟩ := hown2.form
      have hll := Hcl.out k
      have Hfk := Lib.hid (HFk.out k)
      obtain ⟨l, hl⟩ : ∃ l, L k = l := ⟨_, rfl⟩
      rw [hl] at hc2 hs2 hll Hfk ⊢
      clear hl hown2 u0 u1 u2 u3 u4 u5 u6 u7
      go_wp2
      go_loop [7, 23] (fun b j => ∃ m n : Nat, m ≤ l.length ∧ j = .int .i64 m ∧ b = .int .i64 n ∧ Hid (n = widest (l.take m))) (fun _ j => l.length - (intOf j).toNat)
      case atStart => exact ⟨0, 0, Nat.zero_le _, rfl, rfl, Lib.hid rfl⟩
      case round =>
        obtain ⟨m, n, hm, rfl, rfl, Hn⟩ := hrel
        by_cases hmt : m < l.length
        · obtain ⟨b, off, rfl, hb, hcell⟩ := strAt hs2 hmt
          have hst := widest_take hmt
          obtain ⟨s, hs⟩ : ∃ s, l[m] = s := ⟨_, rfl⟩
          rw [hs] at hcell hst
          rw [← Hn.out] at hst
          have Hst := Lib.hid hst
          clear hs hst Hn
          by_cases hgt : n < s.size
          · have d1 : decide ((n : Int) < (s.size : Int)) = true := decide_eq_true (by omega)
            go_wp2
            go_round
            case rel => exact ⟨m + 1, s.size, by omega, by go_num, by go_num, Lib.hid (by rw [Hst.out]; omega)⟩
            case measure => simp [intOf]; omega
          · have d1 : decide ((n : Int) < (s.size : Int)) = false := decide_eq_false (by omega)
            go_wp2
            go_round
            case rel => exact ⟨m + 1, n, by omega, by go_num, by go_num, Lib.hid (by rw [Hst.out]; omega)⟩
            case measure => simp [intOf]; omega
        · have hml : m = l.length := by omega
          have h3 := Hn.out
          rw [hml, List.take_length] at h3
          have hF : (n : Int) = F k := by rw [h3]; exact Hfk.out
          have HF := Lib.hid hF
          have hsz2 := hx2.size
          clear h3 hml Hn hF
          go_wp2_with (at_builtin; refine wpList_app intEl rfl _ _ rfl 1 rfl ((hown.ext hx2).ext (Ext.alloc (Ext.refl _) _)) (ys := [(n : Int)]) rfl (Sl.new intEl rfl) hc1 (by simp; omega) ?_; intro v' w3 hown' hb3 hg3)
          have hx3 : Ext wb w3 := ((hext.trans hx2).alloc _).trans' hb3
          go_wp2
          go_roundw
          case rel => exact ⟨k + 1, by omega, by go_num, by rw [range_map_succ, ← HF.out]; exact hown', hx3⟩
          case measure => simp [intOf]; omega
    · obtain rfl : k = C := by omega
      go_wp2
      go_ret
      exact ⟨_, rfl, hown.mono he0.size, he0.trans hext⟩

set_option maxRecDepth 100000 in
set_option maxHeartbeats 3200000 in
theorem wide_any (u : GUnit) (r : RUnit) (w : World) (hr : Reads w u r) (hsm : smallU u) :
    Calls Try.prog 16 #[.agg r.cells.toArray] w (RetOwn intEl w (widthsF u)) := by
  have he0 : Ext w (w.alloc (.cells r.cells.toArray 27)) := (Ext.refl _).alloc _
  have he9 : Ext w ((w.alloc (.cells r.cells.toArray 27)).alloc (.cells #[] 3)) := ((Ext.refl _).alloc _).alloc _
  have hv := refSize_any u r _ (Reads.ext he9 _ _ hr) (smallU_lens hsm)
  have hbu := fun w' he => boxUnit (w' := w') r (w := w) he
  have hcol := fun (k : Nat) w' (he : Ext w w') => refColumn_any u r (k : Int) w' (Reads.ext he _ _ hr) hsm
  have hcl := fun (k : Nat) => columnF_length u (k : Int)
  have hkl : u.kids.length ≤ 64 := by
    have h1 := hsm.1
    obtain ⟨_, _, _, _, _, _, _, kids⟩ := u
    rw [cntF] at h1
    have := cntL_len kids
    simp only [GUnit.kids]
    omega
  have hc64 := colsF_le u
  have hwf : widthsF u = (List.range (colsF u)).map fun k => ((widest (columnF u (k : Nat)) : Nat) : Int) := rfl
  rw [hwf]
  obtain ⟨C, hC⟩ : ∃ C, colsF u = C := ⟨_, rfl⟩
  obtain ⟨R, hR⟩ : ∃ R, rowsF u = R := ⟨_, rfl⟩
  rw [hC] at hv hc64 ⊢
  rw [hR] at hv
  obtain ⟨L, hL⟩ : ∃ L : Nat → List ByteArray, (fun k : Nat => columnF u (k : Int)) = L := ⟨_, rfl⟩
  have hLk : ∀ k : Nat, columnF u (k : Int) = L k := fun k => congrFun hL k
  simp only [hLk] at hcol hcl ⊢
  obtain ⟨F, hF⟩ : ∃ F : Nat → Int, (fun k : Nat => ((widest (L k) : Nat) : Int)) = F := ⟨_, rfl⟩
  rw [hF]
  have hFk : ∀ k : Nat, ((widest (L k) : Nat) : Int) = F k := fun k => congrFun hF k
  simp only [RUnit.cells] at hv he0 he9 hbu hcol ⊢
  obtain ⟨wb, hwb⟩ : ∃ wb, w.alloc (.cells #[.int .i64 r.a, .int .i64 r.i, .int .i64 r.n, .int .i64 r.kind, .string r.label, .slice r.hA r.hn r.hc, .slice r.wA r.wn r.wc, .slice r.kA r.kn r.kc] 27) = wb := ⟨_, rfl⟩
  have hbs : wb.heap.size = w.heap.size + 1 := by rw [← hwb]; simp
  have hmade := Own.made' (base := wb.heap.size) (n := w.heap.size + 1) intEl (w := wb) hbs.symm (Nat.le_refl _)
  have Hmade := Lib.hid hmade
  clear hmade hbs
  rw [hwb] at hv he0 he9 hbu
  have Hwb := Lib.hid hwb
  have Hv := Lib.hid hv
  have Hbu := Lib.hid hbu
  have Hcol := Lib.hid hcol
  have HFk := Lib.hid hFk
  have Hcl := Lib.hid (fun k => Nat.le_trans (hcl k) hkl)
  clear hv hbu hcol hC hR hr hsm hwf hL hLk hF hFk hwb hcl hkl
  go_enter Try.func16, Try.ntmps16
  go_wp2_with fail
  rw [Hwb.out]
  refine (Hv.out).mono ?_
  rintro e w1 ⟨rfl, hx1⟩
  have hxc : Ext wb w1 := ((Ext.refl wb).alloc _).trans hx1
  have hown0 := (Hmade.out).ext hx1
  go_wp2
  go_loopw [3, 6] (fun out i wr => ∃ k : Nat, k ≤ C ∧ i = .int .i64 k ∧ Own intEl wb.heap.size wr out ((List.range k).map F) ∧ Ext wb wr) (fun _ i _ => C - (intOf i).toNat)
  case atStart => exact ⟨0, Nat.zero_le _, rfl, hown0, hxc⟩
  case round =>
    obtain ⟨k, hk, rfl, hown, hext⟩ := hrel
    have hsz := hext.size
    by_cases hlt : k < C
    · obtain ⟨-, u0, u1, u2, u3, u4, u5, u6, u7⟩ := Hbu.out wr hext
      have hc1 : ((List.range k).map F).length + 1 ≤ 68719476736 := by rw [List.length_map, List.length_range]; omega
      go_wp2_with fail
      refine (Hcol.out k wr (he0.trans hext)).mono ?_
      rintro e w2 ⟨v2, rfl, hown2, hx2⟩
      obtain ⟨A2, c2, rfl, hc2, hs2⟩ := hown2.form
      have hll := Hcl.out k
      have Hfk := Lib.hid (HFk.out k)
      obtain ⟨l, hl⟩ : ∃ l, L k = l := ⟨_, rfl⟩
      rw [hl] at hc2 hs2 hll Hfk ⊢
      clear hl hown2 u0 u1 u2 u3 u4 u5 u6 u7
      go_wp2
      go_loop [7, 9] (fun b j => ∃ m n : Nat, m ≤ l.length ∧ j = .int .i64 m ∧ b = .int .i64 n ∧ Hid (n = widest (l.take m))) (fun _ j => l.length - (intOf j).toNat)
      case atStart => exact ⟨0, 0, Nat.zero_le _, rfl, rfl, Lib.hid rfl⟩
      case round =>
        obtain ⟨m, n, hm, rfl, rfl, Hn⟩ := hrel
        by_cases hmt : m < l.length
        · obtain ⟨b, off, rfl, hb, hcell⟩ := strAt hs2 hmt
          have hst := widest_take hmt
          obtain ⟨s, hs⟩ : ∃ s, l[m] = s := ⟨_, rfl⟩
          rw [hs] at hcell hst
          rw [← Hn.out] at hst
          have Hst := Lib.hid hst
          clear hs hst Hn
          by_cases hgt : n < s.size
          · have d1 : decide ((s.size : Int) > (n : Int)) = true := decide_eq_true (by omega)
            go_wp2
            go_round
            case rel => exact ⟨m + 1, s.size, by omega, by go_num, by go_num, Lib.hid (by rw [Hst.out]; omega)⟩
            case measure => simp [intOf]; omega
          · have d1 : decide ((s.size : Int) > (n : Int)) = false := decide_eq_false (by omega)
            go_wp2
            go_round
            case rel => exact ⟨m + 1, n, by omega, by go_num, by go_num, Lib.hid (by rw [Hst.out]; omega)⟩
            case measure => simp [intOf]; omega
        · have hml : m = l.length := by omega
          have h3 := Hn.out
          rw [hml, List.take_length] at h3
          have hF : (n : Int) = F k := by rw [h3]; exact Hfk.out
          have HF := Lib.hid hF
          have hsz2 := hx2.size
          clear h3 hml Hn hF
          go_wp2_with (at_builtin; refine wpList_app intEl rfl _ _ rfl 1 rfl ((hown.ext hx2).ext (Ext.alloc (Ext.refl _) _)) (ys := [(n : Int)]) rfl (Sl.new intEl rfl) hc1 (by simp; omega) ?_; intro v' w3 hown' hb3 hg3)
          have hx3 : Ext wb w3 := ((hext.trans hx2).alloc _).trans' hb3
          go_wp2
          go_roundw
          case rel => exact ⟨k + 1, by omega, by go_num, by rw [range_map_succ, ← HF.out]; exact hown', hx3⟩
          case measure => simp [intOf]; omega
    · obtain rfl : k = C := by omega
      go_wp2
      go_ret
      exact ⟨_, rfl, hown.mono he0.size, he0.trans hext⟩

end Go.Proofs.Ythjlnpcanccmkaa
