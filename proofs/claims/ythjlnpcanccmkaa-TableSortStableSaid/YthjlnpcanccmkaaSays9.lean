/- says of package table: a cell's text. -/
import Derived.Test.YthjlnpcanccmkaaSay9
namespace Go.Proofs.Ythjlnpcanccmkaa
open Go.RowKit

theorem join_any (A : Option Addr) (c : Nat) (xs : List ByteArray) (sep : ByteArray) (w : World) (hs : Sl strEl w A xs) (hc : xs.length ≤ c) (hn : xs.length ≤ 140737488355328) (hz : (joinB sep xs).size ≤ 140737488355328) :
    Calls Try.prog 36 #[.slice A xs.length c, .string sep] w fun e w' => e = .returned (.string (joinB sep xs)) ∧ Ext w w' := by
  cases xs with
  | nil =>
    exact (Try.strings_Join_none A c sep w).mono fun e w' ⟨h1, h2⟩ => ⟨h1, h2 ▸ Ext.refl w⟩
  | cons x xs =>
    obtain ⟨b, off, rfl, hb, hcell⟩ := hs (by simp)
    refine (Try.strings_Join b off c (x :: xs) sep w (fun j y hy => ?_) hb hn hc ?_).mono fun e w' ⟨h1, h2⟩ => ⟨h1, h2⟩
    · have := hcell (j * 1 + 0) (.string y) (strEl.flat_get (x :: xs) j 0 y (.string y) hy rfl)
      simpa using this
    · rw [← joinB_list, Array.length_toList]; exact hz

set_option maxRecDepth 100000 in
set_option maxHeartbeats 1600000 in
theorem says_any (u : GUnit) (r : RUnit) (w : World) (hr : Reads w u r) (hl : u.words.length ≤ 300) (ht : ∀ x ∈ u.words, x.t.size ≤ 100) :
    Calls Try.prog 34 #[.agg r.cells.toArray] w fun e w' => e = .returned (.string (sayF u.words)) ∧ Ext w w' := by
  have hsz := sayF_size ht
  obtain ⟨a, i, n, kd, lb, hd, l, kids⟩ := u
  simp only [GUnit.words] at hl ht hsz ⊢
  rw [Reads] at hr
  obtain ⟨-, -, ⟨hwn, hwc, hws⟩, -⟩ := hr
  obtain ⟨ra, ri, rn, rk, rl, hdA, hn, hc, wA, wn, wc, kA, kn, kc⟩ := r
  dsimp only at hwn hwc hws
  simp only [RUnit.cells]
  subst hwn
  have he0 : Ext w (w.alloc (.cells #[.int .i64 ra, .int .i64 ri, .int .i64 rn, .int .i64 rk, .string rl, .slice hdA hn hc, .slice wA l.length wc, .slice kA kn kc] 27)) := (Ext.refl _).alloc _
  have Ht := Lib.hid ht
  have Hsz := Lib.hid hsz
  clear ht hsz
  go_enter Try.func34, Try.ntmps34
  go_wp2
  obtain ⟨wb, hwb⟩ : ∃ wb, w.alloc (.cells #[.int .i64 ra, .int .i64 ri, .int .i64 rn, .int .i64 rk, .string rl, .slice hdA hn hc, .slice wA l.length wc, .slice kA kn kc] 27) = wb := ⟨_, rfl⟩
  rw [hwb] at he0 ⊢
  clear hwb
  have hs := hws.ext he0
  go_loopw [3, 9] (fun out i wr => ∃ k : Nat, k ≤ l.length ∧ i = .int .i64 k ∧ Own strEl wb.heap.size wr out ((l.take k).map GWord.t) ∧ Ext wb wr) (fun _ i _ => l.length - (intOf i).toNat)
  case atStart => exact ⟨0, Nat.zero_le _, rfl, Own.nil _, Ext.refl _⟩
  case round =>
    obtain ⟨k, hk, rfl, hown, hext⟩ := hrel
    by_cases hlt : k < l.length
    · obtain ⟨b, off, rfl, hb, hc, hc1, hc2, hc3⟩ := wordAt hs hlt
      have hcr := (hext.cell (p := ⟨b, off + k * 4, none⟩) hb).trans hc
      have hcr1 := (hext.cell (p := ⟨b, off + k * 4 + 1, none⟩) hb).trans hc1
      have hcr2 := (hext.cell (p := ⟨b, off + k * 4 + 2, none⟩) hb).trans hc2
      have hcr3 := (hext.cell (p := ⟨b, off + k * 4 + 3, none⟩) hb).trans hc3
      have hsz := hext.size
      obtain ⟨x, hxk⟩ : ∃ x, l[k] = x := ⟨_, rfl⟩
      rw [hxk] at hcr hcr1 hcr2 hcr3
      have Hs := Lib.hid hxk
      clear hc hc1 hc2 hc3 hxk
      have hc1 : ((l.take k).map GWord.t).length + 1 ≤ 68719476736 := by rw [List.length_map, List.length_take]; omega
      go_wp2_with (at_builtin; refine wpList_app strEl rfl _ _ rfl 1 rfl (hown.ext (((Ext.refl _).alloc _).alloc _)) (ys := [x.t]) rfl (Sl.new' strEl (by simp) rfl) hc1 (by simp; omega) ?_; intro v' w1 hown' hb1 hg1)
      have hext' : Ext wb w1 := ((hext.alloc _).alloc _).trans' hb1
      go_wp2
      go_roundw
      case rel => exact ⟨k + 1, by omega, by go_num, by rw [map_take_succ _ _ _ hlt, Hs.out]; exact hown', hext'⟩
      case measure => simp [intOf]; omega
    · obtain rfl : k = l.length := by omega
      rw [List.take_length] at hown
      obtain ⟨A, c, rfl, hcl, hsl⟩ := hown.form
      have hml : (l.map GWord.t).length = l.length := List.length_map _
      obtain ⟨T, hT⟩ : ∃ T, l.map GWord.t = T := ⟨_, rfl⟩
      rw [hT] at hcl hsl hml ⊢
      have hj := join_any A c T spaceB wr hsl hcl (by omega) (by have := Hsz.out; unfold sayF at this; rw [hT] at this; omega)
      have hfin : joinB spaceB T = sayF l := by rw [← hT]; rfl
      rw [hfin] at hj
      have Hj := Lib.hid hj
      clear hj hml hT hfin hown
      go_wp2_with fail
      refine (Hj.out).mono ?_
      rintro e w2 ⟨rfl, hx2⟩
      go_wp2
      go_ret
      exact ⟨rfl, he0.trans (hext.trans hx2)⟩

end Go.Proofs.Ythjlnpcanccmkaa
