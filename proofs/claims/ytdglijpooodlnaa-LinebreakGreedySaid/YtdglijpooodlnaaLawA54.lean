/- The laws on Break and Greedy, Cost and Lines, Justify against the reference: the walks. -/
import Derived.Test.YtdglijpooodlnaaAwake54
namespace Go.Proofs.Ytdglijpooodlnaa
open Go.RowKit

/-- a law's end: true, and old memory as it was -/
def RetTrue (w : World) (e : Ending) (w' : World) : Prop := e = .returned (.bool true) ∧ Ext w w'
set_option maxRecDepth 100000 in
set_option maxHeartbeats 1600000 in
theorem breaks_law (W : Int) (A : Option Addr) (c : Nat) (l : List ByteArray) (w : World) (hs : Sl strEl w A l) (hn : l.length ≤ 9223372036854775807) :
    Calls Try.prog 3 #[.int .i64 W, .slice A l.length c] w (RetTrue w) := by
  have Ha := Lib.hid (awake_any w)
  have Hs := Lib.hid hs
  have Hb := Lib.hid (fun w' (hx : Ext w w') => brief_any A c l 60 w' (hs.ext hx) hn)
  clear hs
  go_enter Try.func3, Try.ntmps3
  go_wp2_with fail
  refine (Ha.out).mono ?_
  rintro e w1 ⟨rfl, hx1⟩
  go_wp2_with fail
  refine (Hb.out _ hx1).mono ?_
  rintro e w2 ⟨b, rfl, hb, hx2⟩
  cases b with
  | false =>
    go_wp2
    go_ret
    exact ⟨rfl, hx1.trans hx2⟩
  | true =>
    have HB := Lib.hid (hb rfl)
    clear hb
    have hx12 := hx1.trans hx2
    obtain ⟨E, hE⟩ : ∃ E, wrongF W l = E := ⟨_, rfl⟩
    obtain ⟨P, hP⟩ : ∃ P, bR l W = P := ⟨_, rfl⟩
    obtain ⟨Q, hQ⟩ : ∃ Q, gR l W = Q := ⟨_, rfl⟩
    have H1 : Hid (∀ w', Ext w w' → Calls Try.prog 12 #[.int .i64 W, .slice A l.length c] w' (RetEnds w' P E)) := Lib.hid fun w' hx => by
      have := break_any A c l W w' (Hs.out.ext hx) HB.out
      rwa [hP, hE] at this
    have H2 : Hid (∀ w', Ext w w' → Calls Try.prog 13 #[.int .i64 W, .slice A l.length c] w' (RetEnds w' P E)) := Lib.hid fun w' hx => by
      have := refBreak_any A c l W w' (Hs.out.ext hx) HB.out
      rwa [hP, hE] at this
    have H3 : Hid (∀ w', Ext w w' → Calls Try.prog 14 #[.int .i64 W, .slice A l.length c] w' (RetEnds w' Q E)) := Lib.hid fun w' hx => by
      have := greedy_any A c l W w' (Hs.out.ext hx) HB.out
      rwa [hQ, hE] at this
    have H4 : Hid (∀ w', Ext w w' → Calls Try.prog 15 #[.int .i64 W, .slice A l.length c] w' (RetEnds w' Q E)) := Lib.hid fun w' hx => by
      have := refGreedy_any A c l W w' (Hs.out.ext hx) HB.out
      rwa [hQ, hE] at this
    have hPl : Hid (P.length ≤ 60) := Lib.hid (by
      rw [← hP]
      unfold bR
      split
      · rename_i h
        have h1 := fit_of h HB.out
        have := bEndsF_len h1 l.length 0 (Nat.zero_le _)
        have h2 := HB.out.1
        unfold bLines
        omega
      · exact Nat.zero_le _)
    have hQl : Hid (Q.length ≤ 60) := Lib.hid (by
      rw [← hQ]
      unfold gR
      split
      · rename_i h
        have h1 := fit_of h HB.out
        have := gEndsF_len h1 l.length 0 (Nat.zero_le _)
        have h2 := HB.out.1
        unfold gLines
        omega
      · exact Nat.zero_le _)
    clear hE hP hQ hx1 hx2
    go_wp2_with fail
    refine (H1.out _ hx12).mono ?_
    rintro e w3 ⟨v3, rfl, ho3, hx3⟩
    obtain ⟨A3, c3, rfl, hc3, hs3⟩ := ho3.form
    go_wp2_with fail
    refine (H2.out _ (hx12.trans hx3)).mono ?_
    rintro e w4 ⟨v4, rfl, ho4, hx4⟩
    obtain ⟨A4, c4, rfl, hc4, hs4⟩ := ho4.form
    go_wp2_with fail
    refine (H3.out _ ((hx12.trans hx3).trans hx4)).mono ?_
    rintro e w5 ⟨v5, rfl, ho5, hx5⟩
    obtain ⟨A5, c5, rfl, hc5, hs5⟩ := ho5.form
    go_wp2_with fail
    refine (H4.out _ (((hx12.trans hx3).trans hx4).trans hx5)).mono ?_
    rintro e w6 ⟨v6, rfl, ho6, hx6⟩
    obtain ⟨A6, c6, rfl, hc6, hs6⟩ := ho6.form
    have hx26 := ((hx12.trans hx3).trans hx4).trans (hx5.trans hx6)
    have hI1 := Lib.hid (ints_eq A3 A4 c3 c4 P w6 (hs3.ext (hx4.trans (hx5.trans hx6))) (hs4.ext (hx5.trans hx6)) (by have := hPl.out; omega))
    clear ho3 ho4 ho5 ho6 hc3 hc4 hc5 hc6 hs3 hs4 hx3 hx4 hx5
    go_wp2_with fail
    refine (hI1.out).mono ?_
    rintro e w7 ⟨rfl, hx7⟩
    have hI2 := Lib.hid (ints_eq A5 A6 c5 c6 Q w7 (hs5.ext (hx6.trans hx7)) (hs6.ext hx7) (by have := hQl.out; omega))
    go_wp2_with fail
    refine (hI2.out).mono ?_
    rintro e w8 ⟨rfl, hx8⟩
    go_wp2
    go_ret
    exact ⟨rfl, hx26.trans (hx7.trans hx8)⟩

set_option maxRecDepth 100000 in
set_option maxHeartbeats 1600000 in
theorem costs_law (W : Int) (E : Option Addr) (ec : Nat) (es : List Int) (A : Option Addr) (c : Nat) (l : List ByteArray) (w : World) (hs : Sl strEl w A l) (he : Sl intEl w E es) (hc : l.length ≤ c) (hn : l.length ≤ 9223372036854775807) (hen : es.length ≤ 9223372036854775807) :
    Calls Try.prog 4 #[.int .i64 W, .slice E es.length ec, .slice A l.length c] w (RetTrue w) := by
  have Ha := Lib.hid (awake_any w)
  have Hs := Lib.hid hs
  have He := Lib.hid he
  have Hb := Lib.hid (fun w' (hx : Ext w w') => brief_any A c l 60 w' (hs.ext hx) hn)
  clear hs he
  go_enter Try.func4, Try.ntmps4
  go_wp2_with fail
  refine (Ha.out).mono ?_
  rintro e w1 ⟨rfl, hx1⟩
  go_wp2_with fail
  refine (Hb.out _ hx1).mono ?_
  rintro e w2 ⟨b, rfl, hb, hx2⟩
  cases b with
  | false =>
    go_wp2
    go_ret
    exact ⟨rfl, hx1.trans hx2⟩
  | true =>
    have HB := Lib.hid (hb rfl)
    clear hb
    have hx12 := hx1.trans hx2
    by_cases h100 : es.length > 100
    · have d1 : decide ((es.length : Int) > 100) = true := decide_eq_true (by omega)
      go_wp2
      go_ret
      exact ⟨rfl, hx12⟩
    · have d1 : decide ((es.length : Int) > 100) = false := decide_eq_false (by omega)
      have H1 : Hid (∀ w', Ext w w' → Calls Try.prog 17 #[.int .i64 W, .slice E es.length ec, .slice A l.length c] w' (Ret2 w' (costR l W es))) := Lib.hid fun w' hx => cost_any E A ec c l W es w' (Hs.out.ext hx) hc (He.out.ext hx) hen HB.out
      have H2 : Hid (∀ w', Ext w w' → Calls Try.prog 18 #[.int .i64 W, .slice E es.length ec, .slice A l.length c] w' (Ret2 w' (costR l W es))) := Lib.hid fun w' hx => refCost_any E A ec c l W es w' (Hs.out.ext hx) (He.out.ext hx) hen HB.out
      have H3 : Hid (∀ w', Ext w w' → Calls Try.prog 20 #[.slice E es.length ec, .slice A l.length c] w' (RetOwn strEl w' (linesR l es))) := Lib.hid fun w' hx => lines_any E A ec c l es w' (Hs.out.ext hx) hc (He.out.ext hx) (by omega) HB.out
      have H4 : Hid (∀ w', Ext w w' → Calls Try.prog 21 #[.slice E es.length ec, .slice A l.length c] w' (RetOwn strEl w' (linesR l es))) := Lib.hid fun w' hx => text_any E A ec c l es w' (Hs.out.ext hx) (He.out.ext hx) (by omega) HB.out
      have hll : Hid ((linesR l es).length ≤ 100) := Lib.hid (by
        unfold linesR
        split
        · rw [linesF_length]; omega
        · exact Nat.zero_le _)
      obtain ⟨⟨p1, p2⟩, hp⟩ : ∃ p, costR l W es = p := ⟨_, rfl⟩
      obtain ⟨L, hL⟩ : ∃ L, linesR l es = L := ⟨_, rfl⟩
      rw [hp] at H1 H2
      rw [hL] at H3 H4 hll
      clear hp hL hx1 hx2
      go_wp2_with fail
      refine (H1.out _ hx12).mono ?_
      rintro e w3 ⟨rfl, hx3⟩
      go_wp2_with fail
      refine (H2.out _ (hx12.trans hx3)).mono ?_
      rintro e w4 ⟨rfl, hx4⟩
      have hx14 := (hx12.trans hx3).trans hx4
      have b1 : (p1 == p1) = true := by simp
      have b2 : (p2 == p2) = true := by simp
      go_wp2_with fail
      refine (H3.out _ hx14).mono ?_
      rintro e w5 ⟨v5, rfl, ho5, hx5⟩
      obtain ⟨A5, c5, rfl, hc5, hs5⟩ := ho5.form
      go_wp2_with fail
      refine (H4.out _ (hx14.trans hx5)).mono ?_
      rintro e w6 ⟨v6, rfl, ho6, hx6⟩
      obtain ⟨A6, c6, rfl, hc6, hs6⟩ := ho6.form
      have hT := Lib.hid (texts_eq A5 A6 c5 c6 L w6 (hs5.ext hx6) hs6 (by have := hll.out; omega))
      go_wp2_with fail
      refine (hT.out).mono ?_
      rintro e w7 ⟨rfl, hx7⟩
      go_wp2
      go_ret
      exact ⟨rfl, hx14.trans (hx5.trans (hx6.trans hx7))⟩

set_option maxRecDepth 100000 in
set_option maxHeartbeats 1600000 in
theorem justifies_law (W : Int) (s : ByteArray) (w : World) (hs : s.size ≤ 9223372036854775807) (hW : -9223372036854775808 ≤ W ∧ W ≤ 9223372036854775807) :
    Calls Try.prog 5 #[.int .i64 W, .string s] w (RetTrue w) := by
  have Ha := Lib.hid (awake_any w)
  by_cases h400 : s.size > 400
  · have d1 : decide ((s.size : Int) > 400) = true := decide_eq_true (by omega)
    go_enter Try.func5, Try.ntmps5
    go_wp2_with fail
    refine (Ha.out).mono ?_
    rintro e w1 ⟨rfl, hx1⟩
    go_wp2
    go_ret
    exact ⟨rfl, hx1⟩
  · have d1 : decide ((s.size : Int) > 400) = false := decide_eq_false (by omega)
    have H1 := Lib.hid (fun w' => justify_any s W w' (by omega) hW)
    have H2 := Lib.hid (fun w' => fill_any s W w' (by omega) hW)
    obtain ⟨z, hz⟩ : ∃ z, justF W s = z := ⟨_, rfl⟩
    rw [hz] at H1 H2
    have hbq : (z.toList == z.toList) = true := by simp
    clear hz
    go_enter Try.func5, Try.ntmps5
    go_wp2_with fail
    refine (Ha.out).mono ?_
    rintro e w1 ⟨rfl, hx1⟩
    go_wp2_with fail
    refine (H1.out _).mono ?_
    rintro e w2 ⟨rfl, hx2⟩
    go_wp2_with fail
    refine (H2.out _).mono ?_
    rintro e w3 ⟨rfl, hx3⟩
    subst hx3
    go_wp2
    go_ret
    exact ⟨rfl, hx1.trans hx2⟩

end Go.Proofs.Ytdglijpooodlnaa
