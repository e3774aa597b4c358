/- wrong, Wrong: the walks. -/
import Derived.Test.YtdglijpooodlnaaLen54
import Derived.OneCell
namespace Go.Proofs.Ytdglijpooodlnaa
open Go.RowKit

/-- a block of the call's own that holds one int -/
def Has1 (w : World) (b : Nat) (x : Int) : Prop := w.heap[b]? = some (.cells #[.int .i64 x] 3 (0, 0))
theorem Has1.ext {w w' : World} {b : Nat} {x : Int} (h : Has1 w b x) (he : Ext w w') : Has1 w' b x := (he.block (lt_of_block h)).trans h

set_option maxHeartbeats 400000 in
theorem unfit_any (s : ByteArray) (W : Int) (B : Nat) (w : World) (hb : Has1 w B W) : Calls Try.prog 41 #[.string s, .pointer (some ⟨B, 0, none⟩)] w fun e w' => e = .returned (.bool (unfitB W s)) ∧ w = w' := by
  have hc : w.cell? ⟨B, 0, none⟩ = some (.int .i64 W) := cell_of_one hb
  unfold unfitB
  by_cases h1 : (s.size : Int) < 1
  · have d1 : decide ((s.size : Int) < 1) = true := decide_eq_true h1
    rw [d1, Bool.true_or]
    go_enter Try.func41, Try.ntmps41
    go_wp2
    go_ret
    exact ⟨rfl, rfl⟩
  · have d1 : decide ((s.size : Int) < 1) = false := decide_eq_false h1
    rw [d1, Bool.false_or]
    go_enter Try.func41, Try.ntmps41
    go_wp2
    go_ret
    exact ⟨rfl, rfl⟩

set_option maxRecDepth 100000 in
set_option maxHeartbeats 1600000 in
theorem idxUnfit_any (A : Option Addr) (c : Nat) (l : List ByteArray) (W : Int) (B : Nat) (w : World) (hs : Sl strEl w A l) (hb : Has1 w B W) (hn : l.length ≤ 9223372036854775807) :
    Calls Try.prog 51 #[.slice A l.length c, .func (.func 41) #[] #[.pointer (some ⟨B, 0, none⟩)]] w fun e w' => ∃ z : Int, e = .returned (.int .i64 z) ∧ decide (z ≥ 0) = l.any (unfitB W) ∧ Ext w w' := by
  have Hb := Lib.hid hb
  clear hb
  go_enter Try.func51, Try.ntmps51
  go_wp2
  go_loopw [8] (fun i wr => ∃ k : Nat, k ≤ l.length ∧ i = .int .i64 k ∧ Hid ((l.take k).any (unfitB W) = false) ∧ Ext w wr) (fun i _ => l.length - (intOf i).toNat)
  case atStart => exact ⟨0, Nat.zero_le _, rfl, Lib.hid (by simp), Ext.refl _⟩
  case round =>
    obtain ⟨k, hk, rfl, Hk, hext⟩ := hrel
    by_cases hlt : k < l.length
    · obtain ⟨b, off, rfl, hbl, u0⟩ := strAt (hs.ext hext) hlt
      have Htk := Lib.hid (show (l.take (k + 1)).any (unfitB W) = ((l.take k).any (unfitB W) || unfitB W l[k]) by rw [List.take_succ_eq_append_getElem hlt, List.any_append]; simp)
      have Hmem := Lib.hid (List.getElem_mem hlt)
      obtain ⟨s, hq⟩ : ∃ s, l[k] = s := ⟨_, rfl⟩
      rw [hq] at u0 Htk Hmem
      have ho := unfit_any s W B wr (Hb.out.ext hext)
      obtain ⟨bb, hbb⟩ : ∃ bb, unfitB W s = bb := ⟨_, rfl⟩
      rw [hbb] at ho Htk
      have Ho := Lib.hid ho
      have Hbb := Lib.hid hbb
      clear ho hq hbb
      cases bb with
      | false =>
        go_wp2_with fail
        refine (Ho.out).mono ?_
        rintro e w2 ⟨rfl, rfl⟩
        go_wp2
        go_roundw
        case rel => exact ⟨k + 1, by omega, by go_num, Lib.hid (by rw [Htk.out, Hk.out]; rfl), hext⟩
        case measure => simp [intOf]; omega
      | true =>
        have Hf := Lib.hid (show l.any (unfitB W) = true from List.any_eq_true.2 ⟨s, Hmem.out, Hbb.out⟩)
        go_wp2_with fail
        refine (Ho.out).mono ?_
        rintro e w2 ⟨rfl, rfl⟩
        go_wp2
        go_ret
        exact ⟨k, rfl, by rw [Hf.out]; simp, hext⟩
    · have hkl : k = l.length := by omega
      have h3 := Hk.out
      rw [List.take_of_length_le (by omega)] at h3
      have H3 := Lib.hid h3
      clear h3 hkl
      go_wp2
      go_ret
      exact ⟨-1, rfl, by rw [H3.out]; rfl, hext⟩
set_option maxRecDepth 100000 in
set_option maxHeartbeats 800000 in
theorem hasUnfit_any (A : Option Addr) (c : Nat) (l : List ByteArray) (W : Int) (B : Nat) (w : World) (hs : Sl strEl w A l) (hb : Has1 w B W) (hn : l.length ≤ 9223372036854775807) :
    Calls Try.prog 42 #[.slice A l.length c, .func (.func 41) #[] #[.pointer (some ⟨B, 0, none⟩)]] w fun e w' => e = .returned (.bool (l.any (unfitB W))) ∧ Ext w w' := by
  have hi := idxUnfit_any A c l W B w hs hb hn
  obtain ⟨bb, hbb⟩ : ∃ bb, l.any (unfitB W) = bb := ⟨_, rfl⟩
  simp only [hbb] at hi
  rw [hbb]
  have Hi := Lib.hid hi
  clear hi hbb hs hb
  go_enter Try.func42, Try.ntmps42
  go_wp2_with fail
  refine (Hi.out).mono ?_
  rintro e w2 ⟨z, rfl, hz, hx2⟩
  go_wp2
  go_ret
  exact ⟨rfl, hx2⟩

theorem wrongF_range {W : Int} {l : List ByteArray} (h : W < 1 ∨ W > 200) : wrongF W l = 3 := by simp [wrongF, h]
theorem wrongF_full {W : Int} {l : List ByteArray} (h : ¬ (W < 1 ∨ W > 200)) (h2 : l.length > 1024) : wrongF W l = 6 := by simp only [wrongF, if_neg h, if_pos h2]
theorem wrongF_arg {W : Int} {l : List ByteArray} (h : ¬ (W < 1 ∨ W > 200)) (h2 : ¬ l.length > 1024) (h3 : l.any (unfitB W) = true) : wrongF W l = 1 := by simp only [wrongF, if_neg h, if_neg h2, if_pos h3]
theorem wrongF_ok {W : Int} {l : List ByteArray} (h : ¬ (W < 1 ∨ W > 200)) (h2 : ¬ l.length > 1024) (h3 : l.any (unfitB W) = false) : wrongF W l = 0 := by
  simp only [wrongF, if_neg h, if_neg h2, h3]
  simp

set_option maxRecDepth 100000 in
set_option maxHeartbeats 800000 in
theorem wrong_any (A : Option Addr) (c : Nat) (l : List ByteArray) (W : Int) (w : World) (hs : Sl strEl w A l) (hn : l.length ≤ 9223372036854775807) :
    Calls Try.prog 26 #[.int .i64 W, .slice A l.length c] w fun e w' => e = .returned (.int .i64 (wrongF W l)) ∧ Ext w w' := by
  have hx : Ext w (w.alloc (.cells #[.int .i64 W] 3)) := (Ext.refl w).alloc _
  have hu := hasUnfit_any A c l W w.heap.size (w.alloc (.cells #[.int .i64 W] 3)) (hs.ext hx) (heap_alloc_new w _) hn
  by_cases h1 : W < 1
  · have d1 : decide (W < 1) = true := decide_eq_true h1
    rw [wrongF_range (.inl h1)]
    clear hu
    go_enter Try.func26, Try.ntmps26
    go_wp2
    go_ret
    exact ⟨rfl, hx⟩
  · have d1 : decide (W < 1) = false := decide_eq_false h1
    by_cases h2 : W > 200
    · have d2 : decide (W > 200) = true := decide_eq_true h2
      rw [wrongF_range (.inr h2)]
      clear hu
      go_enter Try.func26, Try.ntmps26
      go_wp2
      go_ret
      exact ⟨rfl, hx⟩
    · have d2 : decide (W > 200) = false := decide_eq_false h2
      have hr : ¬ (W < 1 ∨ W > 200) := by omega
      by_cases h3 : l.length > 1024
      · have d3 : decide ((l.length : Int) > 1024) = true := decide_eq_true (by omega)
        rw [wrongF_full hr h3]
        clear hu
        go_enter Try.func26, Try.ntmps26
        go_wp2
        go_ret
        exact ⟨rfl, hx⟩
      · have d3 : decide ((l.length : Int) > 1024) = false := decide_eq_false (by omega)
        obtain ⟨q, hq⟩ : ∃ q, l.any (unfitB W) = q := ⟨_, rfl⟩
        rw [hq] at hu
        have Hu := Lib.hid hu
        have hw : wrongF W l = if q = true then 1 else 0 := by
          cases q
          · exact wrongF_ok hr h3 hq
          · exact wrongF_arg hr h3 hq
        rw [hw]
        clear hu hq hw
        go_enter Try.func26, Try.ntmps26
        cases q
        all_goals
          go_wp2_with fail
          refine (Hu.out).mono ?_
          rintro e w2 ⟨rfl, hx2⟩
          go_wp2
          go_ret
          exact ⟨rfl, hx.trans hx2⟩

set_option maxRecDepth 100000 in
set_option maxHeartbeats 1600000 in
theorem refWrong_any (A : Option Addr) (c : Nat) (l : List ByteArray) (W : Int) (w : World) (hs : Sl strEl w A l) (hn : l.length ≤ 9223372036854775807) :
    Calls Try.prog 29 #[.int .i64 W, .slice A l.length c] w fun e w' => e = .returned (.int .i64 (wrongF W l)) ∧ Ext w w' := by
  by_cases h1 : W < 1
  · have d1 : decide (W < 1) = true := decide_eq_true h1
    rw [wrongF_range (.inl h1)]
    go_enter Try.func29, Try.ntmps29
    go_wp2
    go_ret
    exact ⟨rfl, Ext.refl _⟩
  · have d1 : decide (W < 1) = false := decide_eq_false h1
    by_cases h2 : W > 200
    · have d2 : decide (W > 200) = true := decide_eq_true h2
      rw [wrongF_range (.inr h2)]
      go_enter Try.func29, Try.ntmps29
      go_wp2
      go_ret
      exact ⟨rfl, Ext.refl _⟩
    · have d2 : decide (W > 200) = false := decide_eq_false h2
      have hr : ¬ (W < 1 ∨ W > 200) := by omega
      by_cases h3 : l.length > 1024
      · have d3 : decide ((l.length : Int) > 1024) = true := decide_eq_true (by omega)
        rw [wrongF_full hr h3]
        go_enter Try.func29, Try.ntmps29
        go_wp2
        go_ret
        exact ⟨rfl, Ext.refl _⟩
      · have d3 : decide ((l.length : Int) > 1024) = false := decide_eq_false (by omega)
        have Harg := Lib.hid (fun h => wrongF_arg (W := W) (l := l) hr h3 h)
        have Hno := Lib.hid (fun h => wrongF_ok (W := W) (l := l) hr h3 h)
        clear hr
        go_enter Try.func29, Try.ntmps29
        go_wp2
        go_loopw [5] (fun i wr => ∃ k : Nat, k ≤ l.length ∧ i = .int .i64 k ∧ Hid ((l.take k).any (unfitB W) = false) ∧ Ext w wr) (fun i _ => l.length - (intOf i).toNat)
        case atStart => exact ⟨0, Nat.zero_le _, rfl, Lib.hid (by simp), Ext.refl _⟩
        case round =>
          obtain ⟨k, hk, rfl, Hk, hext⟩ := hrel
          by_cases hlt : k < l.length
          · obtain ⟨b, off, rfl, hbl, u0⟩ := strAt (hs.ext hext) hlt
            have Htk := Lib.hid (show (l.take (k + 1)).any (unfitB W) = ((l.take k).any (unfitB W) || unfitB W l[k]) by rw [List.take_succ_eq_append_getElem hlt, List.any_append]; simp)
            have Hmem := Lib.hid (List.getElem_mem hlt)
            obtain ⟨s, hq⟩ : ∃ s, l[k] = s := ⟨_, rfl⟩
            rw [hq] at u0 Htk Hmem
            clear hq
            by_cases e1 : (s.size : Int) < 1
            · have d4 : decide ((s.size : Int) < 1) = true := decide_eq_true e1
              have Hf := Lib.hid (Harg.out (List.any_eq_true.2 ⟨s, Hmem.out, by unfold unfitB; rw [d4]; rfl⟩))
              go_wp2
              go_ret
              exact ⟨ret_int Hf.out.symm, hext⟩
            · have d4 : decide ((s.size : Int) < 1) = false := decide_eq_false e1
              by_cases e2 : (s.size : Int) > W
              · have d5 : decide ((s.size : Int) > W) = true := decide_eq_true e2
                have Hf := Lib.hid (Harg.out (List.any_eq_true.2 ⟨s, Hmem.out, by unfold unfitB; rw [d4, d5]; rfl⟩))
                go_wp2
                go_ret
                exact ⟨ret_int Hf.out.symm, hext⟩
              · have d5 : decide ((s.size : Int) > W) = false := decide_eq_false e2
                have Hn := Lib.hid (show (l.take (k + 1)).any (unfitB W) = false by rw [Htk.out, Hk.out]; unfold unfitB; rw [d4, d5]; rfl)
                go_wp2
                go_roundw
                case rel => exact ⟨k + 1, by omega, by go_num, Hn, hext⟩
                case measure => simp [intOf]; omega
          · have hkl : k = l.length := by omega
            have h3 := Hk.out
            rw [List.take_of_length_le (by omega)] at h3
            have H3 := Lib.hid (Hno.out h3)
            clear h3 hkl
            go_wp2
            go_ret
            exact ⟨ret_int H3.out.symm, hext⟩

end Go.Proofs.Ytdglijpooodlnaa
