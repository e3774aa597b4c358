/- The laws DateTexts and DateParses. -/
import Derived.Test.YtnpbhpaffdjjoaaDoorLaw1
namespace Go.Proofs.YtnpbhpaffdjjoaaDoor
open Go.RowKit

theorem run_eql_sstr (t : TypeId) (s : ByteArray) (w : World) : (binOp .eql t (.string s) (.string s)).run Tryd.prog w = .ok (.bool true) w := by
  go_simp
theorem run_neq_sstr (t : TypeId) (s : ByteArray) (w : World) : (binOp .neq t (.string s) (.string s)).run Tryd.prog w = .ok (.bool false) w := by
  go_simp

set_option maxHeartbeats 1600000 in
theorem dateTexts_law (a b : Int) (w : World) (hT : Tab w) : Calls Tryd.prog 7 #[.int .i64 a, .int .i64 b] w fun e w' => e = .returned (.bool true) ∧ Ext w w' := by
  have Ha := Lib.hid (awake1_any w hT)
  have HT := Lib.hid hT
  clear hT
  have hfb : ∃ t : ByteArray, (∀ w, Tab w → Calls Tryd.prog 23 #[.int .i64 b] w fun e w' => e = .returned (.string t) ∧ Ext w w') ∧ (dayB b = true → ∃ Z P : Nat, IsYear b Z ∧ b - dy Z + 1 = P ∧ Z ≤ 4772 ∧ P ≤ 366 ∧ t = textF Z P) := by
    cases hq : dayB b with
    | false => exact ⟨_, fun w _ => (format_no b w hq).mono fun e w' ⟨h, h'⟩ => ⟨h, h' ▸ Ext.refl _⟩, fun h => by cases h⟩
    | true =>
      obtain ⟨h0, h1⟩ := (dayB_iff b).1 hq
      obtain ⟨z, hz, hz2⟩ := exists_year b h0 h1
      obtain ⟨Z, P, rfl, e2, b1, b2, b3, b4⟩ := year_parts h1 hz
      have b5 := (daysF_bd Z).2
      refine ⟨textF Z P, fun w hT => ?_, fun _ => ⟨Z, P, hz, e2, b2, by omega, rfl⟩⟩
      have := format_yes b Z w h0 h1 hz hT
      rw [e2] at this
      exact this
  obtain ⟨t, hft, hfb⟩ := hfb
  have hva := is_any a
  cases hqa : dayB a with
  | false =>
    rw [hqa] at hva
    have H1 := Lib.hid (format_no a · hqa)
    have H2 := Lib.hid hft
    have H3 := Lib.hid hva
    clear hva hft hfb hqa
    go_enter Tryd.func7, Tryd.ntmps7
    go_wp2_with fail
    refine (Ha.out).mono ?_
    rintro e w1 ⟨rfl, hx1⟩
    go_wp2_with fail
    refine (H1.out _).mono ?_
    rintro e w' ⟨rfl, rfl⟩
    go_wp2_with fail
    refine (H2.out _ (HT.out.ext hx1)).mono ?_
    rintro e w2 ⟨rfl, hx2⟩
    go_wp2_with fail
    refine (H3.out _).mono ?_
    rintro e w' ⟨rfl, rfl⟩
    go_wp2
    go_ret
    exact ⟨rfl, hx1.trans hx2⟩
  | true =>
    rw [hqa] at hva
    obtain ⟨h0, h1⟩ := (dayB_iff a).1 hqa
    obtain ⟨y, hy, hy2⟩ := exists_year a h0 h1
    obtain ⟨Y, O, rfl, e2, b1, b2, b3, b4⟩ := year_parts h1 hy
    have b5 := (daysF_bd Y).2
    have hf := fun w hT => format_yes a Y w h0 h1 hy hT
    have ht := fun w => refText_yes a Y w h0 h1 hy
    obtain ⟨p1, p2⟩ := text_parse h0 h1 hy e2 b2 (by omega)
    have hp := parse_any (textF Y O)
    rw [p1, p2] at hp
    rw [e2] at hf ht
    simp only [Int.toNat_natCast] at hf ht
    have hless : dayB b = true → Op.bytesLess (textF Y O).toList t.toList = decide (a < b) := fun hq => by
      obtain ⟨Z, P, z1, z2, z3, z4, rfl⟩ := hfb hq
      exact text_less hy z1 e2 z2 b2 z3 (by omega) z4
    obtain ⟨s, hs⟩ : ∃ s, textF Y O = s := ⟨_, rfl⟩
    rw [hs] at hf ht hp hless
    have hvb := is_any b
    have H1 := Lib.hid hf
    have H2 := Lib.hid hft
    have H3 := Lib.hid hva
    have H4 := Lib.hid hp
    have H5 := Lib.hid ht
    have nb := fun w => run_neq_sstr 9 s w
    clear hva hft hfb hqa hf ht hp p1 p2 hs hy e2 b4
    cases hqb : dayB b with
    | false =>
      rw [hqb] at hvb
      have H6 := Lib.hid hvb
      clear hvb hqb hless
      go_enter Tryd.func7, Tryd.ntmps7
      go_wp2_with fail
      refine (Ha.out).mono ?_
      rintro e w1 ⟨rfl, hx1⟩
      go_wp2_with fail
      refine (H1.out _ (HT.out.ext hx1)).mono ?_
      rintro e w2 ⟨rfl, hx2⟩
      go_wp2_with fail
      refine (H2.out _ (HT.out.ext (hx1.trans hx2))).mono ?_
      rintro e w3 ⟨rfl, hx3⟩
      go_wp2_with fail
      refine (H3.out _).mono ?_
      rintro e w' ⟨rfl, rfl⟩
      go_wp2_with fail
      refine (H4.out _).mono ?_
      rintro e w' ⟨rfl, rfl⟩
      go_wp2_with fail
      refine (H5.out _).mono ?_
      rintro e w4 ⟨rfl, hx4⟩
      go_wp2_with fail
      refine (H6.out _).mono ?_
      rintro e w' ⟨rfl, rfl⟩
      go_wp2
      go_ret
      exact ⟨rfl, (hx1.trans hx2).trans (hx3.trans hx4)⟩
    | true =>
      rw [hqb] at hvb
      have hls := hless hqb
      have nb2 := fun w => run_eql_bool (decide (a < b)) w
      have H6 := Lib.hid hvb
      clear hvb hqb hless
      go_enter Tryd.func7, Tryd.ntmps7
      go_wp2_with fail
      refine (Ha.out).mono ?_
      rintro e w1 ⟨rfl, hx1⟩
      go_wp2_with fail
      refine (H1.out _ (HT.out.ext hx1)).mono ?_
      rintro e w2 ⟨rfl, hx2⟩
      go_wp2_with fail
      refine (H2.out _ (HT.out.ext (hx1.trans hx2))).mono ?_
      rintro e w3 ⟨rfl, hx3⟩
      go_wp2_with fail
      refine (H3.out _).mono ?_
      rintro e w' ⟨rfl, rfl⟩
      go_wp2_with fail
      refine (H4.out _).mono ?_
      rintro e w' ⟨rfl, rfl⟩
      go_wp2_with fail
      refine (H5.out _).mono ?_
      rintro e w4 ⟨rfl, hx4⟩
      go_wp2_with fail
      refine (H6.out _).mono ?_
      rintro e w' ⟨rfl, rfl⟩
      go_wp2
      go_ret
      exact ⟨rfl, (hx1.trans hx2).trans (hx3.trans hx4)⟩

set_option maxHeartbeats 1600000 in
theorem dateParses_law (s : ByteArray) (w : World) (hT : Tab w) : Calls Tryd.prog 8 #[.string s] w fun e w' => e = .returned (.bool true) ∧ Ext w w' := by
  have Ha := Lib.hid (awake1_any w hT)
  have HT := Lib.hid hT
  clear hT
  by_cases hbig : s.size > 1000
  · have d1 : decide ((s.size : Int) > 1000) = true := decide_eq_true (by omega)
    go_enter Tryd.func8, Tryd.ntmps8
    go_wp2_with fail
    refine (Ha.out).mono ?_
    rintro e w1 ⟨rfl, hx1⟩
    go_wp2
    go_ret
    exact ⟨rfl, hx1⟩
  · have d1 : decide ((s.size : Int) > 1000) = false := decide_eq_false (by omega)
    have hp := parse_any s
    have hr := refParse_any s
    have hpt := parse_text (s := s)
    obtain ⟨N, hN⟩ : ∃ N, parseN s.data.toList = N := ⟨_, rfl⟩
    obtain ⟨E, hE⟩ : ∃ E, parseE s.data.toList = E := ⟨_, rfl⟩
    rw [hN, hE] at hp hr hpt
    have H1 := Lib.hid hp
    have H2 := Lib.hid hr
    clear hp hr hN hE
    by_cases hE0 : E = 0
    · obtain ⟨n, Y, O, hn, n0, n1, hy, hO, htx⟩ := hpt hE0
      subst hE0
      subst hn
      have hf := fun w hT => format_yes N Y w n0 n1 hy hT
      rw [hO] at hf
      simp only [Int.toNat_natCast] at hf
      rw [htx] at hf
      have H3 := Lib.hid hf
      have nb := fun w => run_eql_sstr 9 s w
      clear hf htx hO hy hpt hbig
      go_enter Tryd.func8, Tryd.ntmps8
      go_wp2_with fail
      refine (Ha.out).mono ?_
      rintro e w1 ⟨rfl, hx1⟩
      go_wp2_with fail
      refine (H1.out _).mono ?_
      rintro e w' ⟨rfl, rfl⟩
      go_wp2_with fail
      refine (H2.out _).mono ?_
      rintro e w' ⟨rfl, rfl⟩
      go_wp2_with fail
      refine (H3.out _ (HT.out.ext hx1)).mono ?_
      rintro e w2 ⟨rfl, hx2⟩
      go_wp2
      go_ret
      exact ⟨rfl, hx1.trans hx2⟩
    · have he : (E != 0) = true := by simp [hE0]
      clear hpt hbig hE0
      go_enter Tryd.func8, Tryd.ntmps8
      go_wp2_with fail
      refine (Ha.out).mono ?_
      rintro e w1 ⟨rfl, hx1⟩
      go_wp2_with fail
      refine (H1.out _).mono ?_
      rintro e w' ⟨rfl, rfl⟩
      go_wp2_with fail
      refine (H2.out _).mono ?_
      rintro e w' ⟨rfl, rfl⟩
      go_wp2
      go_ret
      exact ⟨rfl, hx1⟩

end Go.Proofs.YtnpbhpaffdjjoaaDoor
