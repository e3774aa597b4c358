/- The examples of the chapter: the law's awake answers true. -/
import Derived.Test.YtdglijpooodlnaaRefBrk54
import Derived.Test.YtdglijpooodlnaaFill54
namespace Go.Proofs.Ytdglijpooodlnaa
open Go.RowKit

/-- what Break and Greedy return -/
def bR (l : List ByteArray) (W : Int) : List Int := if wrongF W l = 0 then bLines l W else []
def gR (l : List ByteArray) (W : Int) : List Int := if wrongF W l = 0 then gLines l W else []
theorem break_any (A : Option Addr) (c : Nat) (l : List ByteArray) (W : Int) (w : World) (hs : Sl strEl w A l) (hb : briefP l 60) :
    Calls Try.prog 12 #[.int .i64 W, .slice A l.length c] w (RetEnds w (bR l W) (wrongF W l)) := by
  by_cases h : wrongF W l = 0
  · have := break_yes A c l W w hs hb h
    rw [show bR l W = bLines l W by unfold bR; rw [if_pos h], h]; exact this
  · rw [show bR l W = [] by unfold bR; rw [if_neg h]]
    exact break_no A c l W w hs (by have := hb.1; omega) h
theorem greedy_any (A : Option Addr) (c : Nat) (l : List ByteArray) (W : Int) (w : World) (hs : Sl strEl w A l) (hb : briefP l 60) :
    Calls Try.prog 14 #[.int .i64 W, .slice A l.length c] w (RetEnds w (gR l W) (wrongF W l)) := by
  by_cases h : wrongF W l = 0
  · have := greedy_yes A c l W w hs hb h
    rw [show gR l W = gLines l W by unfold gR; rw [if_pos h], h]; exact this
  · rw [show gR l W = [] by unfold gR; rw [if_neg h]]
    exact greedy_no A c l W w hs (by have := hb.1; omega) h
theorem refBreak_any (A : Option Addr) (c : Nat) (l : List ByteArray) (W : Int) (w : World) (hs : Sl strEl w A l) (hb : briefP l 60) :
    Calls Try.prog 13 #[.int .i64 W, .slice A l.length c] w (RetEnds w (bR l W) (wrongF W l)) := by
  by_cases h : wrongF W l = 0
  · have := refBreak_yes A c l W w hs hb h
    rw [show bR l W = bLines l W by unfold bR; rw [if_pos h], h]; exact this
  · rw [show bR l W = [] by unfold bR; rw [if_neg h]]
    exact refBreak_no A c l W w hs (by have := hb.1; omega) h
theorem refGreedy_any (A : Option Addr) (c : Nat) (l : List ByteArray) (W : Int) (w : World) (hs : Sl strEl w A l) (hb : briefP l 60) :
    Calls Try.prog 15 #[.int .i64 W, .slice A l.length c] w (RetEnds w (gR l W) (wrongF W l)) := by
  by_cases h : wrongF W l = 0
  · have := refGreedy_yes A c l W w hs hb h
    rw [show gR l W = gLines l W by unfold gR; rw [if_pos h], h]; exact this
  · rw [show gR l W = [] by unfold gR; rw [if_neg h]]
    exact refGreedy_no A c l W w hs (by have := hb.1; omega) h

def wl : List ByteArray := [⟨#[97, 97, 97]⟩, ⟨#[98, 98]⟩, ⟨#[99, 99]⟩, ⟨#[100, 100, 100, 100, 100]⟩]
theorem wl_wrong : wrongF 6 wl = 0 := by decide +kernel
theorem wl_break : bR wl 6 = [1, 3, 4] := by decide +kernel
theorem wl_greedy : gR wl 6 = [2, 3, 4] := by decide +kernel
theorem wl_cost : costR wl 6 [1, 3, 4] = (10, 0) := by decide +kernel
theorem wl_cost2 : costR wl 6 [2, 3, 4] = (16, 0) := by decide +kernel
def wl2 : List ByteArray := [⟨#[97, 97, 97]⟩, ⟨#[98, 98, 32, 99, 99]⟩, ⟨#[100, 100, 100, 100, 100]⟩]
theorem wl_lines : linesR wl [1, 3, 4] = wl2 := by decide +kernel
theorem wl_just : justF 7 ⟨#[98, 98, 32, 99, 99]⟩ = ⟨#[98, 98, 32, 32, 32, 99, 99]⟩ := by decide +kernel
theorem wl_brief : briefP wl 60 := ⟨by decide, by decide⟩

theorem own_slice {w : World} {base : Nat} {v : Value} {xs : List Int} (h : Own intEl base w v xs) (n : Nat) (hn : xs.length = n) : ∃ A c, v = .slice A n c ∧ n ≤ c ∧ Sl intEl w A xs := by
  subst hn
  exact h.form
set_option maxRecDepth 100000 in
set_option maxHeartbeats 3200000 in
theorem awake_any (w : World) : Calls Try.prog 10 #[] w fun e w' => e = .returned (.bool true) ∧ Ext w w' := by
  have H1 : Hid (∀ A w, Sl strEl w A wl → Calls Try.prog 12 #[.int .i64 6, .slice A 4 4] w (RetEnds w [1, 3, 4] 0)) := Lib.hid fun A w h => by
    have := break_any A 4 wl 6 w h wl_brief
    rw [wl_break, wl_wrong] at this
    exact this
  have H2 : Hid (∀ A w, Sl strEl w A wl → Calls Try.prog 14 #[.int .i64 6, .slice A 4 4] w (RetEnds w [2, 3, 4] 0)) := Lib.hid fun A w h => by
    have := greedy_any A 4 wl 6 w h wl_brief
    rw [wl_greedy, wl_wrong] at this
    exact this
  have H3 : Hid (∀ E A ec w, Sl strEl w A wl → Sl intEl w E [1, 3, 4] → Calls Try.prog 17 #[.int .i64 6, .slice E 3 ec, .slice A 4 4] w fun e w' => e = .returned (.tuple #[.int .i64 10, .int .i64 0]) ∧ Ext w w') := Lib.hid fun E A ec w h he => by
    have := cost_any E A ec 4 wl 6 [1, 3, 4] w h (Nat.le_refl 4) he (by decide) wl_brief
    rw [wl_cost] at this
    exact this
  have H4 : Hid (∀ E A ec w, Sl strEl w A wl → Sl intEl w E [2, 3, 4] → Calls Try.prog 17 #[.int .i64 6, .slice E 3 ec, .slice A 4 4] w fun e w' => e = .returned (.tuple #[.int .i64 16, .int .i64 0]) ∧ Ext w w') := Lib.hid fun E A ec w h he => by
    have := cost_any E A ec 4 wl 6 [2, 3, 4] w h (Nat.le_refl 4) he (by decide) wl_brief
    rw [wl_cost2] at this
    exact this
  have H5 : Hid (∀ E A ec w, Sl strEl w A wl → Sl intEl w E [1, 3, 4] → Calls Try.prog 20 #[.slice E 3 ec, .slice A 4 4] w (RetOwn strEl w wl2)) := Lib.hid fun E A ec w h he => by
    have := lines_any E A ec 4 wl [1, 3, 4] w h (Nat.le_refl 4) he (by decide) wl_brief
    rw [wl_lines] at this
    exact this
  have H6 : Hid (∀ w, Calls Try.prog 22 #[.int .i64 7, .string ⟨#[98, 98, 32, 99, 99]⟩] w fun e w' => e = .returned (.string ⟨#[98, 98, 32, 32, 32, 99, 99]⟩) ∧ Ext w w') := Lib.hid fun w => by
    have := justify_any ⟨#[98, 98, 32, 99, 99]⟩ 7 w (by decide) (by decide)
    rw [wl_just] at this
    exact this
  have hI : Hid (∀ A B c d (xs : List Int) w, Sl intEl w A xs → Sl intEl w B xs → xs.length = 3 → Calls Try.prog 16 #[.slice A 3 c, .slice B 3 d] w fun e w' => e = .returned (.bool true) ∧ Ext w w') := Lib.hid fun A B c d xs w h1 h2 h3 => by
    have := ints_eq A B c d xs w h1 h2 (by omega)
    rwa [h3] at this
  have hT : Hid (∀ A B c d w, Sl strEl w A wl2 → Sl strEl w B wl2 → Calls Try.prog 19 #[.slice A 3 c, .slice B 3 d] w fun e w' => e = .returned (.bool true) ∧ Ext w w') := Lib.hid fun A B c d w h1 h2 => texts_eq A B c d wl2 w h1 h2 (by decide)
  have hbq : ((⟨#[98, 98, 32, 32, 32, 99, 99]⟩ : ByteArray).toList == (⟨#[98, 98, 32, 32, 32, 99, 99]⟩ : ByteArray).toList) = true := by rw [beq_bytes]; simp
  go_enter Try.func10, Try.ntmps10
  go_wp2_with fail
  have hl : Sl strEl (w.alloc (.cells #[.string ⟨#[97, 97, 97]⟩, .string ⟨#[98, 98]⟩, .string ⟨#[99, 99]⟩, .string ⟨#[100, 100, 100, 100, 100]⟩] 9)) (some ⟨w.heap.size, 0, none⟩) wl := Sl.new strEl rfl
  refine (H1.out _ _ hl).mono ?_
  rintro e w1 ⟨v1, rfl, ho1, hx1⟩
  obtain ⟨A1, c1, rfl, hc1, hs1⟩ := own_slice ho1 3 rfl
  go_wp2_with fail
  refine (H2.out _ _ (hl.ext hx1)).mono ?_
  rintro e w2 ⟨v2, rfl, ho2, hx2⟩
  obtain ⟨A2, c2, rfl, hc2, hs2⟩ := own_slice ho2 3 rfl
  go_wp2_with fail
  refine (H3.out _ _ _ _ (hl.ext (hx1.trans hx2)) (hs1.ext hx2)).mono ?_
  rintro e w3 ⟨rfl, hx3⟩
  go_wp2_with fail
  refine (H4.out _ _ _ _ (hl.ext ((hx1.trans hx2).trans hx3)) (hs2.ext hx3)).mono ?_
  rintro e w4 ⟨rfl, hx4⟩
  have hx14 := hx2.trans (hx3.trans hx4)
  have hx04 := hx1.trans hx14
  have hw04 := ((Ext.refl w).alloc _).trans hx04
  have hl4 := hl.ext hx04
  have hs14 := hs1.ext hx14
  have hs24 := hs2.ext (hx3.trans hx4)
  clear hx1 hx2 hx3 hx4 hx14 hx04 hl hs1 hs2 ho1 ho2 hc1 hc2
  go_wp2_with fail
  refine (hI.out _ _ _ _ [1, 3, 4] _ (hs14.ext ((Ext.refl w4).alloc _)) (Sl.new intEl rfl) rfl).mono ?_
  rintro e w5 ⟨rfl, hx5⟩
  have hx45 := ((Ext.refl w4).alloc _).trans hx5
  clear hx5
  go_wp2_with fail
  refine (hI.out _ _ _ _ [2, 3, 4] _ (hs24.ext (hx45.alloc _)) (Sl.new intEl rfl) rfl).mono ?_
  rintro e w6 ⟨rfl, hx6⟩
  have hx46 := (hx45.alloc _).trans hx6
  clear hx6
  go_wp2_with fail
  refine (H5.out _ _ _ _ (hl4.ext hx46) (hs14.ext hx46)).mono ?_
  rintro e w7 ⟨v7, rfl, ho7, hx7⟩
  have hx47 := hx46.trans hx7
  obtain ⟨A7, c7, rfl, hc7, hs7⟩ := ho7.form
  clear hx7 hc7
  go_wp2_with fail
  refine (hT.out _ _ _ _ _ (hs7.ext ((Ext.refl w7).alloc _)) (Sl.new strEl rfl)).mono ?_
  rintro e w8 ⟨rfl, hx8⟩
  have hx48 := (hx47.alloc _).trans hx8
  clear hx8
  go_wp2_with fail
  refine (H6.out _).mono ?_
  rintro e w9 ⟨rfl, hx9⟩
  go_wp2
  go_ret
  exact ⟨rfl, hw04.trans (hx48.trans hx9)⟩

end Go.Proofs.Ytdglijpooodlnaa
