/- The law on Mark, Strings, Texts and Authors. -/
import Derived.Test.YtkbmocgjbhmioaaAuth22
import Derived.Test.YtkbmocgjbhmioaaOccur
namespace Go.Proofs.Ytkbmocgjbhmioaa
open Go.RowKit

set_option maxRecDepth 100000 in
set_option maxHeartbeats 4000000 in
theorem marks_law (A B : Option Addr) (c d : Nat) (l : List ByteArray) (ws : List GWord) (act item from_ : Int) (w : World) (hl : Sl strEl w A l) (hw : Sl wordEl w B ws)
    (hn : l.length ≤ 9223372036854775807) (hm : ws.length ≤ 9223372036854775807) :
    Calls Try.prog 9 #[.slice A l.length c, .int .i64 act, .int .i64 item, .int .i64 from_, .slice B ws.length d] w fun e w' => e = .returned (.bool true) ∧ Ext w w' := by
  obtain ⟨b, hb⟩ : ∃ b, b = fewB ws [l] := ⟨_, rfl⟩
  have Hl := Lib.hid hl
  have Hw := Lib.hid hw
  clear hl hw
  go_enter Try.func9, Try.ntmps9
  go_wp2_with fail
  refine (awake_any _).mono ?_
  rintro e w1 ⟨rfl, hext1⟩
  go_wp2_with fail
  refine (few_any _ _ _ _ ws [(A, c, l)] _ ((Hw.out.ext hext1).ext ((Ext.refl _).alloc _)) (Sl.new slsEl rfl) ?_ hm (by simp)).mono ?_
  · intro x hx'
    simp only [List.mem_cons, List.not_mem_nil, or_false] at hx'
    subst hx'
    exact ⟨(Hl.out.ext hext1).ext ((Ext.refl _).alloc _), hn⟩
  rintro e w2 ⟨rfl, rfl⟩
  simp only [List.map_cons, List.map_nil]
  rw [← hb]
  cases b
  · clear hb
    go_wp2
    go_ret
    exact ⟨rfl, hext1.alloc _⟩
  have hfew := hb.symm
  clear hb
  simp only [fewB, List.all_cons, List.all_nil, Bool.and_true, Bool.and_eq_true] at hfew
  have n1 := shortB_len hfew.2
  have n2 := briefB_len hfew.1
  clear hfew hn hm
  by_cases g1 : from_ < -1099511627776
  · have e1 : decide (from_ < -1099511627776) = true := decide_eq_true g1
    clear g1
    go_wp2
    go_ret
    exact ⟨rfl, hext1.alloc _⟩
  have e1 : decide (from_ < -1099511627776) = false := decide_eq_false g1
  by_cases g2 : from_ > 1099511627776
  · have e2 : decide (from_ > 1099511627776) = true := decide_eq_true g2
    clear g1 g2
    go_wp2
    go_ret
    exact ⟨rfl, hext1.alloc _⟩
  have e2 : decide (from_ > 1099511627776) = false := decide_eq_false g2
  obtain ⟨xs, hxs⟩ : ∃ xs, markF act item from_ l = xs := ⟨_, rfl⟩
  have hxl : xs.length = l.length := by rw [← hxs, markF_length]
  have hxt : xs.map GWord.t = l := by rw [← hxs, markF_t]
  have Hxs := Lib.hid hxs
  have Hxl := Lib.hid hxl
  have Hxt := Lib.hid hxt
  have H1 := Lib.hid (show -2199023255552 ≤ from_ by omega)
  have H2 := Lib.hid (show from_ ≤ 2199023255552 by omega)
  clear hxs hxl hxt g1 g2
  have hx2 := hext1.alloc (.cells (slsEl.flat [(A, c, l)]).toArray slsEl.e)
  clear hext1
  go_wp2_with fail
  refine (mark_any A c l act item from_ _ (Hl.out.ext hx2) (by omega) H1.out H2.out).mono ?_
  rw [Hxs.out]
  rintro e w3 ⟨v3, rfl, ho3, hx3⟩
  obtain ⟨A3, c3, rfl, hc3, hs3⟩ := ho3.form
  have Hs3 := Lib.hid hs3
  have hy3 := hx2.trans hx3
  clear hs3 ho3 hx2 hx3
  go_wp2_with fail
  refine (refMark_any A c l act item from_ _ (Hl.out.ext hy3) (by omega) H1.out H2.out).mono ?_
  rw [Hxs.out]
  rintro e w4 ⟨v4, rfl, ho4, hx4⟩
  obtain ⟨A4, c4, rfl, hc4, hs4⟩ := ho4.form
  have Hs4 := Lib.hid hs4
  have Hs3 := Lib.hid (Hs3.out.ext hx4)
  have hy4 := hy3.trans hx4
  clear hs4 ho4 hx4 hy3
  go_wp2_with fail
  refine (rows_any A3 A4 c3 c4 xs xs _ Hs3.out Hs4.out (by rw [Hxl.out]; omega)).mono ?_
  rintro e w5 ⟨rfl, m5, rfl⟩
  rw [decide_eq_true rfl]
  have hz5 : Ext w4 (w4.drewN m5) := (Ext.refl _).drewN _
  have Hs5 := Lib.hid (Hs3.out.ext hz5)
  have hy5 := hy4.trans hz5
  clear hz5 hy4
  generalize w4.drewN m5 = w5 at hy5 Hs5 ⊢
  go_wp2_with fail
  refine (strings_any A3 c3 xs _ Hs5.out (by rw [Hxl.out]; omega)).mono ?_
  rw [Hxt.out]
  rintro e w6 ⟨v6, rfl, ho6, hx6⟩
  obtain ⟨A6, c6, rfl, hc6, hs6⟩ := ho6.form
  have Hs6 := Lib.hid hs6
  have hy6 := hy5.trans hx6
  clear hs6 ho6 hx6 hy5
  go_wp2_with fail
  refine (same_any A6 A c6 c l l _ Hs6.out (Hl.out.ext hy6) (by omega)).mono ?_
  rintro e w7 ⟨rfl, m7, rfl⟩
  rw [decide_eq_true rfl]
  have hy7 := hy6.trans ((Ext.refl w6).drewN m7)
  clear hy6
  generalize w6.drewN m7 = w7 at hy7 ⊢
  obtain ⟨ts, hts⟩ : ∃ ts, ws.map GWord.t = ts := ⟨_, rfl⟩
  have Hts := Lib.hid hts
  have htl : ts.length ≤ 1048576 := by rw [← hts, List.length_map]; omega
  clear hts
  go_wp2_with fail
  refine (strings_any B d ws _ (Hw.out.ext hy7) (by omega)).mono ?_
  rw [Hts.out]
  rintro e w8 ⟨v8, rfl, ho8, hx8⟩
  obtain ⟨A8, c8, rfl, hc8, hs8⟩ := ho8.form
  have Hs8 := Lib.hid hs8
  have hy8 := hy7.trans hx8
  clear hs8 ho8 hx8 hy7
  go_wp2_with fail
  refine (texts_any B d ws _ (Hw.out.ext hy8) (by omega)).mono ?_
  rw [Hts.out]
  rintro e w9 ⟨v9, rfl, ho9, hx9⟩
  obtain ⟨A9, c9, rfl, hc9, hs9⟩ := ho9.form
  have Hs9 := Lib.hid hs9
  have Hs8 := Lib.hid (Hs8.out.ext hx9)
  have hy9 := hy8.trans hx9
  clear hs9 ho9 hx9 hy8
  go_wp2_with fail
  refine (same_any A8 A9 c8 c9 ts ts _ Hs8.out Hs9.out (by omega)).mono ?_
  rintro e w10 ⟨rfl, m10, rfl⟩
  rw [decide_eq_true rfl]
  have hy10 := hy9.trans ((Ext.refl w9).drewN m10)
  clear hy9
  generalize w9.drewN m10 = w10 at hy10 ⊢
  go_wp2_with fail
  refine (authors_any B d ws _ (Hw.out.ext hy10) (by omega)).mono ?_
  obtain ⟨R, hR⟩ : ∃ R, authR ws = R := ⟨_, rfl⟩
  have HR := Lib.hid hR
  have hRl : R.length ≤ 1048576 := by
    have := authR_length ws
    rw [hR] at this
    omega
  rw [hR]
  clear hR
  rintro e w11 ⟨A11, c11, rfl, hc11, hs11, hx11⟩
  have Hs11 := Lib.hid hs11
  have hy11 := hy10.trans hx11
  clear hs11 hx11 hy10
  go_wp2_with fail
  refine (refAuthors_any B d ws _ (Hw.out.ext hy11) (by omega)).mono ?_
  rw [HR.out]
  rintro e w12 ⟨A12, c12, rfl, hc12, hs12, hx12⟩
  have Hs12 := Lib.hid hs12
  have Hs11 := Lib.hid (Hs11.out.ext hx12)
  have hy12 := hy11.trans hx12
  clear hs12 hx12 hy11
  go_wp2_with fail
  refine (places2_any A11 A12 c11 c12 R R _ Hs11.out Hs12.out hRl).mono ?_
  rintro e w13 ⟨rfl, hx13⟩
  rw [decide_eq_true rfl]
  go_wp2
  go_ret
  exact ⟨rfl, hy12.trans hx13⟩

end Go.Proofs.Ytkbmocgjbhmioaa
