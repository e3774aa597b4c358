/- The law on texts: the texts of Replace and InsertAfter are those of package wordseq. -/
import Derived.Test.YtkbmocgjbhmioaaStrs
namespace Go.Proofs.Ytkbmocgjbhmioaa
open Go.RowKit

set_option maxRecDepth 100000 in
set_option maxHeartbeats 4000000 in
theorem strings_law (A B C : Option Addr) (c d f : Nat) (l : List GWord) (old fresh : List ByteArray) (nth : Int) (w : World) (hl : Sl wordEl w A l) (hx : Sl strEl w B old) (hy : Sl strEl w C fresh)
    (hn : l.length ≤ 9223372036854775807) (ho : old.length ≤ 9223372036854775807) (hm : fresh.length ≤ 9223372036854775807) (hc : l.length ≤ c) (hf : fresh.length ≤ f) :
    Calls Try.prog 8 #[.slice A l.length c, .slice B old.length d, .slice C fresh.length f, .int .i64 nth] w fun e w' => e = .returned (.bool true) ∧ Ext w w' := by
  obtain ⟨b, hb⟩ : ∃ b, b = fewB l [old, fresh] := ⟨_, rfl⟩
  go_enter Try.func8, Try.ntmps8
  go_wp2_with fail
  refine (awake_any _).mono ?_
  rintro e w1 ⟨rfl, hext1⟩
  go_wp2_with fail
  refine (few_any _ _ _ _ l [(B, d, old), (C, f, fresh)] _ ((hl.ext hext1).ext ((Ext.refl _).alloc _)) (Sl.new slsEl rfl) ?_ hn (by simp)).mono ?_
  · intro x hx'
    simp only [List.mem_cons, List.not_mem_nil, or_false] at hx'
    rcases hx' with rfl | rfl
    · exact ⟨(hx.ext hext1).ext ((Ext.refl _).alloc _), ho⟩
    · exact ⟨(hy.ext hext1).ext ((Ext.refl _).alloc _), hm⟩
  rintro e w2 ⟨rfl, rfl⟩
  simp only [List.map_cons, List.map_nil]
  rw [← hb]
  cases b
  · clear hb
    go_wp2
    go_ret
    exact ⟨rfl, hext1.alloc _⟩
  have hfew := hb.symm
  clear hb
  simp only [fewB, List.all_cons, List.all_nil, Bool.and_true, Bool.and_eq_true] at hfew
  have n1 := shortB_len hfew.2
  have n2 := briefB_len hfew.1.1
  have n3 := briefB_len hfew.1.2
  clear hfew hn ho hm
  by_cases g1 : (l.length : Int) > 200
  · have e1 : decide ((l.length : Int) > 200) = true := decide_eq_true g1
    clear g1
    go_wp2
    go_ret
    exact ⟨rfl, hext1.alloc _⟩
  have e1 : decide ((l.length : Int) > 200) = false := decide_eq_false g1
  by_cases g2 : old.length = 0
  · have e2 : ((old.length : Int) == 0) = true := by rw [g2]; rfl
    clear g1 g2
    go_wp2
    go_ret
    exact ⟨rfl, hext1.alloc _⟩
  have e2 : ((old.length : Int) == 0) = false := beq_eq_false_iff_ne.2 (by omega)
  by_cases g3 : fresh.length = 0
  · have e3 : ((fresh.length : Int) == 0) = true := by rw [g3]; rfl
    clear g1 g2 g3
    go_wp2
    go_ret
    exact ⟨rfl, hext1.alloc _⟩
  have e3 : ((fresh.length : Int) == 0) = false := beq_eq_false_iff_ne.2 (by omega)
  by_cases g4 : nth < 0
  · have e4 : decide (nth < 0) = true := decide_eq_true g4
    clear g1 g2 g3 g4
    go_wp2
    go_ret
    exact ⟨rfl, hext1.alloc _⟩
  have e4 : decide (nth < 0) = false := decide_eq_false g4
  have q1 : l.length ≤ 200 := by omega
  have q2 : 0 < old.length := by omega
  have q3 : 0 < fresh.length := by omega
  have q4 : 0 ≤ nth := by omega
  have hedR := repF_ed (part := old) (fresh := fresh) (fun h => by rw [h] at q2; simp at q2) 7 1
  have hedI := insF_ed (part := old) (fresh := fresh) (fun h => by rw [h] at q2; simp at q2) (fun h => by rw [h] at q3; simp at q3) 7 1
  obtain ⟨ls, hls⟩ : ∃ ls, l.map GWord.t = ls := ⟨_, rfl⟩
  have hll : ls.length = l.length := by rw [← hls, List.length_map]
  have hl200 : ls.length ≤ 200 := by omega
  obtain ⟨qs, hqs, hgood, hst, hql⟩ := chosen_found ls old nth q2
  have hql2 : qs.length ≤ 200 := by omega
  have hgl := hgood
  rw [hll] at hgl
  have hnone : qs.length = 0 → repF l old fresh nth 7 1 = ([], 4) ∧ insF l old fresh nth 7 1 = ([], 4) := fun h0 => by
    have h1 : qs = [] := List.eq_nil_of_length_eq_zero h0
    have h2 : chosenF (findF (l.map GWord.t) old) nth = [] := by rw [hls, hqs, h1]; rfl
    exact ⟨hedR.miss l nth q4 h2, hedI.miss l nth q4 h2⟩
  obtain ⟨EDr, hEDr⟩ : ∃ ED, edT ls old.length fresh 0 qs = ED := ⟨_, rfl⟩
  obtain ⟨EDi, hEDi⟩ : ∃ ED, edT ls old.length (old ++ fresh) 0 qs = ED := ⟨_, rfl⟩
  have hEr : EDr.length ≤ 1048576 := by
    have h1 := edT_length ls old.length fresh qs 0 hgood
    have h2 : qs.length * fresh.length ≤ 200 * 300 := Nat.mul_le_mul hql2 n3
    rw [hEDr] at h1
    omega
  have hEi : EDi.length ≤ 1048576 := by
    have h1 := edT_length ls old.length (old ++ fresh) qs 0 hgood
    have h2 : qs.length * (old ++ fresh).length ≤ 200 * 600 := Nat.mul_le_mul hql2 (by rw [List.length_append]; omega)
    rw [hEDi] at h1
    omega
  have hne : qs.length ≠ 0 → qs ≠ [] := fun h0 h => h0 (by rw [h]; rfl)
  have hch : chosenF (findF (l.map GWord.t) old) nth = qs.map (fun n : Nat => (n : Int)) := by rw [hls]; exact hqs
  have hstl : ∀ p ∈ qs, stands (l.map GWord.t) old p := by rw [hls]; exact hst
  have hEDr' : edT (l.map GWord.t) old.length fresh 0 qs = EDr := by rw [hls]; exact hEDr
  have hEDi' : edT (l.map GWord.t) old.length (old ++ fresh) 0 qs = EDi := by rw [hls]; exact hEDi
  have rok : qs.length ≠ 0 → EDr.length ≤ 256 → (repF l old fresh nth 7 1).2 = 0 ∧ (repF l old fresh nth 7 1).1.map GWord.t = EDr := fun h0 h1 => by
    have := hedR.ok l nth qs q4 hch (hne h0) hgl hstl (by rw [hEDr']; exact h1)
    rwa [hEDr'] at this
  have iok : qs.length ≠ 0 → EDi.length ≤ 256 → (insF l old fresh nth 7 1).2 = 0 ∧ (insF l old fresh nth 7 1).1.map GWord.t = EDi := fun h0 h1 => by
    have := hedI.ok l nth qs q4 hch (hne h0) hgl hstl (by rw [hEDi']; exact h1)
    rwa [hEDi'] at this
  have rfull : qs.length ≠ 0 → 256 < EDr.length → repF l old fresh nth 7 1 = ([], 6) := fun h0 h1 => hedR.full l nth qs q4 hch (hne h0) hgl hstl (by rw [hEDr']; exact h1)
  have ifull : qs.length ≠ 0 → 256 < EDi.length → insF l old fresh nth 7 1 = ([], 6) := fun h0 h1 => hedI.full l nth qs q4 hch (hne h0) hgl hstl (by rw [hEDi']; exact h1)
  have Hnone := Lib.hid hnone
  have Hrok := Lib.hid rok
  have Hiok := Lib.hid iok
  have Hrfull := Lib.hid rfull
  have Hifull := Lib.hid ifull
  have Hqs := Lib.hid hqs
  have Hls := Lib.hid hls
  have HEDr := Lib.hid hEDr
  have HEDi := Lib.hid hEDi
  have Hst := Lib.hid hst
  have Hgood := Lib.hid hgood
  clear hnone rok iok rfull ifull hqs hls hEDr hEDi hst hgood hgl hch hstl hEDr' hEDi' hne hedR hedI hll g1 g2 g3 g4
  have hl2 := (hl.ext hext1).ext ((Ext.refl w1).alloc (.cells (slsEl.flat [(B, d, old), (C, f, fresh)]).toArray slsEl.e))
  have hx2 := (hx.ext hext1).ext ((Ext.refl w1).alloc (.cells (slsEl.flat [(B, d, old), (C, f, fresh)]).toArray slsEl.e))
  have hy2 := (hy.ext hext1).ext ((Ext.refl w1).alloc (.cells (slsEl.flat [(B, d, old), (C, f, fresh)]).toArray slsEl.e))
  have he2 := hext1.alloc (.cells (slsEl.flat [(B, d, old), (C, f, fresh)]).toArray slsEl.e)
  clear hl hx hy hext1
  go_wp2_with fail
  refine (strs_any A c l ls Hls _ hl2 (by omega)).mono ?_
  rintro e w4 ⟨D, cw, rfl, hcw, hsw, hext3⟩
  have hl4 := hl2.ext hext3
  have hx4 := hx2.ext hext3
  have hy4 := hy2.ext hext3
  have he4 := he2.trans hext3
  clear hext3 hl2 hx2 hy2 he2
  go_wp2_with fail
  refine (replace_any A B C c d f l old fresh nth 7 1 _ hl4 hx4 hy4 (by omega) (by omega) (by omega)).mono ?_
  rintro e w5 ⟨A5, c5, rfl, hc5, hs5, hext5⟩
  go_wp2_with fail
  refine (insert_any A B C c d f l old fresh nth 7 1 _ (hl4.ext hext5) (hx4.ext hext5) (hy4.ext hext5) (by omega) (by omega) (by omega)).mono ?_
  rintro e w6 ⟨A6, c6, rfl, hc6, hs6, hext6⟩
  go_wp2_with fail
  refine (seqReplace_any D B C cw d f ls old fresh nth _ ((hsw.ext hext5).ext hext6) ((hx4.ext hext5).ext hext6) ((hy4.ext hext5).ext hext6) (by omega) (by omega) q2 (by omega) hcw hf qs Hqs (by omega) Hgood.out Hst.out).mono ?_
  rintro e w7 ⟨v7, rfl, hown7, hext7⟩
  rw [HEDr.out] at hown7
  obtain ⟨D7, c7, rfl, hc7, hs7⟩ := Own.form hown7
  go_wp2_with fail
  refine (seqInsert_any D B C cw d f ls old fresh nth _ (((hsw.ext hext5).ext hext6).ext hext7) (((hx4.ext hext5).ext hext6).ext hext7) (((hy4.ext hext5).ext hext6).ext hext7) (by omega) (by omega) q2 (by omega) hcw hf qs Hqs (by omega) Hgood.out Hst.out).mono ?_
  rintro e w8 ⟨v8, rfl, hown8, hext8⟩
  rw [HEDi.out] at hown8
  obtain ⟨D8, c8, rfl, hc8, hs8⟩ := Own.form hown8
  have he8 : Ext w w8 := (((he4.trans hext5).trans hext6).trans hext7).trans hext8
  replace hs5 := ((hs5.ext hext6).ext hext7).ext hext8
  replace hs6 := (hs6.ext hext7).ext hext8
  replace hs7 := hs7.ext hext8
  have hla5 : (repF l old fresh nth 7 1).1.length ≤ 256 := repF_len ..
  have hla6 : (insF l old fresh nth 7 1).1.length ≤ 256 := insF_len ..
  clear hl4 hx4 hy4 he4 hext5 hext6 hext7 hext8 hsw hown7 hown8
  by_cases h0 : qs.length = 0
  · obtain ⟨k1, k2⟩ := Hnone.out h0
    rw [k1, k2, h0]
    clear h0 k1 k2 hla5 hla6 hs5 hs6 hc5 hc6
    simp only [List.length_nil]
    go_wp2
    go_ret
    exact ⟨rfl, he8⟩
  · have z0 : ((qs.length : Int) == 0) = false := beq_eq_false_iff_ne.2 (by omega)
    have hRok : Hid (EDr.length ≤ 256 → (repF l old fresh nth 7 1).2 = 0 ∧ (repF l old fresh nth 7 1).1.map GWord.t = EDr) := Hrok.out h0
    have hIok : Hid (EDi.length ≤ 256 → (insF l old fresh nth 7 1).2 = 0 ∧ (insF l old fresh nth 7 1).1.map GWord.t = EDi) := Hiok.out h0
    have hRfull : Hid (256 < EDr.length → repF l old fresh nth 7 1 = ([], 6)) := Hrfull.out h0
    have hIfull : Hid (256 < EDi.length → insF l old fresh nth 7 1 = ([], 6)) := Hifull.out h0
    by_cases hLR : EDr.length ≤ 256
    · by_cases hLI : EDi.length ≤ 256
      · -- both
        obtain ⟨r2, rt⟩ := hRok.out hLR
        obtain ⟨i2, it⟩ := hIok.out hLI
        have eR : decide ((EDr.length : Int) > 256) = false := decide_eq_false (by omega)
        have eI : decide ((EDi.length : Int) > 256) = false := decide_eq_false (by omega)
        rw [r2]
        have Hrt := Lib.hid rt
        rw [i2]
        have Hit := Lib.hid it
        generalize repF l old fresh nth 7 1 = r at hs5 hc5 hla5 Hrt ⊢
        generalize insF l old fresh nth 7 1 = s at hs6 hc6 hla6 Hit ⊢
        clear hLR hLI r2 rt i2 it
        go_wp2_with fail
        refine (strs_any A5 c5 r.1 EDr Hrt _ hs5 (by omega)).mono ?_
        rintro e w9 ⟨D9, c9, rfl, hc9, hs9, hext9⟩
        go_wp2_with fail
        refine (same_any D9 D7 c9 c7 EDr EDr _ hs9 (hs7.ext hext9) (by omega)).mono ?_
        rintro e w10 ⟨rfl, m1, rfl⟩
        rw [decide_eq_true (rfl : EDr = EDr)]
        have hx10 : Ext w8 (w9.drewN m1) := hext9.drewN _
        go_wp2_with fail
        refine (strs_any A6 c6 s.1 EDi Hit _ (hs6.ext hx10) (by omega)).mono ?_
        rintro e w11 ⟨D11, c11, rfl, hc11, hs11, hext11⟩
        go_wp2_with fail
        refine (same_any D11 D8 c11 c8 EDi EDi _ hs11 ((hs8.ext hx10).ext hext11) (by omega)).mono ?_
        rintro e w12 ⟨rfl, m2, rfl⟩
        rw [decide_eq_true (rfl : EDi = EDi)]
        go_wp2
        go_ret
        exact ⟨rfl, ((he8.trans hx10).trans hext11).drewN _⟩
      · replace hLI : 256 < EDi.length := by omega
        obtain ⟨r2, rt⟩ := hRok.out hLR
        have hI6 := hIfull.out hLI
        have eR : decide ((EDr.length : Int) > 256) = false := decide_eq_false (by omega)
        have eI : decide ((EDi.length : Int) > 256) = true := decide_eq_true (by omega)
        rw [r2]
        have Hrt := Lib.hid rt
        rw [hI6] at hs6 hc6 hla6 ⊢
        generalize repF l old fresh nth 7 1 = r at hs5 hc5 hla5 Hrt ⊢
        simp only [List.length_nil]
        clear hLR hLI r2 rt hI6
        go_wp2_with fail
        refine (strs_any A5 c5 r.1 EDr Hrt _ hs5 (by omega)).mono ?_
        rintro e w9 ⟨D9, c9, rfl, hc9, hs9, hext9⟩
        go_wp2_with fail
        refine (same_any D9 D7 c9 c7 EDr EDr _ hs9 (hs7.ext hext9) (by omega)).mono ?_
        rintro e w10 ⟨rfl, m1, rfl⟩
        rw [decide_eq_true (rfl : EDr = EDr)]
        have hx10 : Ext w8 (w9.drewN m1) := hext9.drewN _
        go_wp2
        go_ret
        exact ⟨rfl, he8.trans hx10⟩
    · replace hLR : 256 < EDr.length := by omega
      by_cases hLI : EDi.length ≤ 256
      · -- the second
        have hR6 := hRfull.out hLR
        obtain ⟨i2, it⟩ := hIok.out hLI
        have eR : decide ((EDr.length : Int) > 256) = true := decide_eq_true (by omega)
        have eI : decide ((EDi.length : Int) > 256) = false := decide_eq_false (by omega)
        rw [hR6] at hs5 hc5 hla5 ⊢
        rw [i2]
        have Hit := Lib.hid it
        simp only [List.length_nil]
        generalize insF l old fresh nth 7 1 = s at hs6 hc6 hla6 Hit ⊢
        clear hLR hLI hR6 i2 it
        have hx10 : Ext w8 w8 := Ext.refl _
        go_wp2_with fail
        refine (strs_any A6 c6 s.1 EDi Hit _ (hs6.ext hx10) (by omega)).mono ?_
        rintro e w11 ⟨D11, c11, rfl, hc11, hs11, hext11⟩
        go_wp2_with fail
        refine (same_any D11 D8 c11 c8 EDi EDi _ hs11 ((hs8.ext hx10).ext hext11) (by omega)).mono ?_
        rintro e w12 ⟨rfl, m2, rfl⟩
        rw [decide_eq_true (rfl : EDi = EDi)]
        go_wp2
        go_ret
        exact ⟨rfl, ((he8.trans hx10).trans hext11).drewN _⟩
      · replace hLI : 256 < EDi.length := by omega
        have hR6 := hRfull.out hLR
        have hI6 := hIfull.out hLI
        have eR : decide ((EDr.length : Int) > 256) = true := decide_eq_true (by omega)
        have eI : decide ((EDi.length : Int) > 256) = true := decide_eq_true (by omega)
        rw [hR6] at hs5 hc5 hla5 ⊢
        rw [hI6] at hs6 hc6 hla6 ⊢
        simp only [List.length_nil]
        clear hLR hLI hR6 hI6
        have hx10 : Ext w8 w8 := Ext.refl _
        go_wp2
        go_ret
        exact ⟨rfl, he8.trans hx10⟩

end Go.Proofs.Ytkbmocgjbhmioaa
