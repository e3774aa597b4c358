/- The law on occurrences: editing them one at a time from the last to the first yields the same texts as editing all of them. -/
import Derived.Test.YtkbmocgjbhmioaaEd
namespace Go.Proofs.Ytkbmocgjbhmioaa
open Go.RowKit

theorem strs_any (A : Option Addr) (c : Nat) (l : List GWord) (ls : List ByteArray) (H : Hid (l.map GWord.t = ls)) (w : World) (hs : Sl wordEl w A l) (hn : l.length ≤ 1048576) :
    Calls Try.prog 20 #[.slice A l.length c] w fun e w' => ∃ D cw, e = .returned (.slice D ls.length cw) ∧ ls.length ≤ cw ∧ Sl strEl w' D ls ∧ Ext w w' := by
  refine (strings_any A c l w hs hn).mono ?_
  rintro e w' ⟨v, rfl, hown, hext⟩
  rw [H.out] at hown
  obtain ⟨D, cw, rfl, hcw, hsw⟩ := Own.form hown
  exact ⟨D, cw, rfl, hcw, hsw, hext⟩

set_option maxRecDepth 100000 in
set_option maxHeartbeats 400000 in
theorem count_any (A B : Option Addr) (c d : Nat) (l part : List ByteArray) (w : World) (hx : Sl strEl w A l) (hy : Sl strEl w B part) (hn : l.length ≤ 1048576) (hm : part.length ≤ 1048576) (hc : l.length ≤ c) :
    Calls Try.prog 19 #[.slice A l.length c, .slice B part.length d] w fun e w' => e = .returned (.int .i64 ((findF l part).length : Nat)) ∧ Ext w w' := by
  go_enter Try.func19, Try.ntmps19
  go_wp2_with fail
  refine (findAll_any A B c d l part _ hx hy hn hm hc).mono ?_
  rintro e w1 ⟨v, rfl, hown, hext⟩
  obtain ⟨D, cw, rfl, hcw, hsw⟩ := Own.form hown
  go_wp2
  go_ret
  exact ⟨rfl, hext⟩

set_option maxRecDepth 100000 in
set_option maxHeartbeats 4000000 in
theorem occurRep_any (A B C : Option Addr) (c d f : Nat) (l : List GWord) (old fresh : List ByteArray) (w : World) (hl : Sl wordEl w A l) (hx : Sl strEl w B old) (hy : Sl strEl w C fresh)
    (hn : l.length ≤ 9223372036854775807) (ho : old.length ≤ 9223372036854775807) (hm : fresh.length ≤ 9223372036854775807) (hc : l.length ≤ c) :
    Calls Try.prog 6 #[.slice A l.length c, .slice B old.length d, .slice C fresh.length f, .bool false] w fun e w' => e = .returned (.bool true) ∧ Ext w w' := by
  obtain ⟨b, hb⟩ : ∃ b, b = fewB l [old, fresh] := ⟨_, rfl⟩
  go_enter Try.func6, Try.ntmps6
  go_wp2_with fail
  refine (awake_any _).mono ?_
  rintro e w1 ⟨rfl, hext1⟩
  go_wp2_with fail
  refine (few_any _ _ _ _ l [(B, d, old), (C, f, fresh)] _ ((hl.ext hext1).ext ((Ext.refl _).alloc _)) (Sl.new slsEl rfl) ?_ hn (by simp)).mono ?_
  · intro x hx'
    simp only [List.mem_cons, List.not_mem_nil, or_false] at hx'
    rcases hx' with rfl | rfl
    · exact ⟨(hx.ext hext1).ext ((Ext.refl _).alloc _), ho⟩
    · exact ⟨(hy.ext hext1).ext ((Ext.refl _).alloc _), hm⟩
  rintro e w2 ⟨rfl, rfl⟩
  simp only [List.map_cons, List.map_nil]
  rw [← hb]
  cases b
  · clear hb
    go_wp2
    go_ret
    exact ⟨rfl, hext1.alloc _⟩
  have hfew := hb.symm
  clear hb
  simp only [fewB, List.all_cons, List.all_nil, Bool.and_true, Bool.and_eq_true] at hfew
  have n1 := shortB_len hfew.2
  have n2 := briefB_len hfew.1.1
  have n3 := briefB_len hfew.1.2
  clear hfew hn ho hm
  by_cases g1 : (l.length : Int) > 60
  · have e1 : decide ((l.length : Int) > 60) = true := decide_eq_true g1
    clear g1
    go_wp2
    go_ret
    exact ⟨rfl, hext1.alloc _⟩
  have e1 : decide ((l.length : Int) > 60) = false := decide_eq_false g1
  by_cases g2 : old.length = 0
  · have e2 : ((old.length : Int) == 0) = true := by rw [g2]; rfl
    clear g1 g2
    go_wp2
    go_ret
    exact ⟨rfl, hext1.alloc _⟩
  have e2 : ((old.length : Int) == 0) = false := beq_eq_false_iff_ne.2 (by omega)
  by_cases g3 : fresh.length = 0
  · have e3 : ((fresh.length : Int) == 0) = true := by rw [g3]; rfl
    clear g1 g2 g3
    go_wp2
    go_ret
    exact ⟨rfl, hext1.alloc _⟩
  have e3 : ((fresh.length : Int) == 0) = false := beq_eq_false_iff_ne.2 (by omega)
  by_cases g4 : (fresh.length : Int) > 3
  · have e4 : decide ((fresh.length : Int) > 3) = true := decide_eq_true g4
    clear g1 g2 g3 g4
    go_wp2
    go_ret
    exact ⟨rfl, hext1.alloc _⟩
  have e4 : decide ((fresh.length : Int) > 3) = false := decide_eq_false g4
  have q1 : l.length ≤ 60 := by omega
  have q2 : 0 < old.length := by omega
  have q3 : 0 < fresh.length := by omega
  have q4 : fresh.length ≤ 3 := by omega
  have hed := repF_ed (part := old) (fresh := fresh) (fun h => by rw [h] at q2; simp at q2) 7 1
  have hX : (fresh).length ≤ old.length + 3 := by omega
  obtain ⟨ls, hls⟩ : ∃ ls, l.map GWord.t = ls := ⟨_, rfl⟩
  have hll : ls.length = l.length := by rw [← hls, List.length_map]
  obtain ⟨ps, hps, hgood, hst⟩ := found ls old q2
  have hpl : ps.length ≤ 60 := by
    have := findF_length ls old
    rw [hps, List.length_map] at this
    omega
  have hlm : ls.length ≤ 60 := by rw [hll]; exact q1
  have Hps := Lib.hid hps
  have hstep : ∀ (k : Nat) (xs : List GWord), k < ps.length → xs.map GWord.t = edT ls old.length (fresh) 0 (ps.drop (k + 1)) →
      (repF xs old fresh ((k : Int) + 1) 7 1).2 = 0 ∧ (repF xs old fresh ((k : Int) + 1) 7 1).1.map GWord.t = edT ls old.length (fresh) 0 (ps.drop k) :=
    fun k xs hk hxs => hed.step q2 hX hlm Hps.out hgood hst hk hxs
  have hmiss : repF l old fresh ((ps.length : Int) + 1) 7 1 = ([], 4) := by
    refine hed.miss l _ (by omega) (chosenF_past ?_)
    rw [hls, Hps.out, List.length_map]
    omega
  have hnone : ps.length = 0 → repF l old fresh 0 7 1 = ([], 4) := fun h0 => by
    have : ps = [] := List.eq_nil_of_length_eq_zero h0
    refine hed.miss l _ (by omega) ?_
    unfold chosenF
    rw [if_pos rfl, hls, Hps.out, this]
    rfl
  have hall : ps.length ≠ 0 → (repF l old fresh 0 7 1).2 = 0 ∧ (repF l old fresh 0 7 1).1.map GWord.t = edT ls old.length (fresh) 0 ps := fun h0 => by
    have hgl := hgood
    rw [hll] at hgl
    have hok := hed.ok l 0 ps (by omega) (by unfold chosenF; rw [if_pos rfl, hls, Hps.out]) (fun h => h0 (by rw [h]; rfl)) hgl
    rw [hls] at hok
    refine hok hst ?_
    have h1 := edT_length ls old.length (fresh) ps 0 hgood
    have h2 : ps.length * (fresh).length ≤ ps.length * (old.length + 3) := Nat.mul_le_mul_left _ hX
    rw [Nat.mul_add] at h2
    omega
  have Hstep := Lib.hid hstep
  have Hmiss := Lib.hid hmiss
  have Hnone := Lib.hid hnone
  have Hall := Lib.hid hall
  have Hls := Lib.hid hls
  clear hstep hmiss hnone hall hps hed hst hgood hX g1 g2 g3 g4 hls hll
  have hl2 := (hl.ext hext1).ext ((Ext.refl w1).alloc (.cells (slsEl.flat [(B, d, old), (C, f, fresh)]).toArray slsEl.e))
  have hx2 := (hx.ext hext1).ext ((Ext.refl w1).alloc (.cells (slsEl.flat [(B, d, old), (C, f, fresh)]).toArray slsEl.e))
  have hy2 := (hy.ext hext1).ext ((Ext.refl w1).alloc (.cells (slsEl.flat [(B, d, old), (C, f, fresh)]).toArray slsEl.e))
  have he2 := hext1.alloc (.cells (slsEl.flat [(B, d, old), (C, f, fresh)]).toArray slsEl.e)
  clear hl hx hy hext1
  go_wp2_with fail
  refine (strs_any A c l ls Hls _ hl2 (by omega)).mono ?_
  rintro e w3 ⟨D, cw, rfl, hcw, hsw, hext3⟩
  have hl3 := hl2.ext hext3
  have hx3 := hx2.ext hext3
  have hy3 := hy2.ext hext3
  have he3 := he2.trans hext3
  clear hext3 hl2 hx2 hy2 he2
  go_wp2_with fail
  refine (count_any D B cw d ls old _ hsw hx3 (by omega) (by omega) hcw).mono ?_
  rintro e w4 ⟨rfl, hext4⟩
  rw [Hps.out, List.length_map]
  have hl4 := hl3.ext hext4
  have hx4 := hx3.ext hext4
  have hy4 := hy3.ext hext4
  have he4 := he3.trans hext4
  clear hext4 hl3 hx3 hy3 he3 hsw hcw Hps
  go_wp2_with fail
  refine (replace_any A B C c d f l old fresh 0 7 1 _ hl4 hx4 hy4 (by omega) (by omega) (by omega)).mono ?_
  rintro e w5 ⟨A5, c5, rfl, hc5, hs5, hext5⟩
  have hl5 := hl4.ext hext5
  have hx5 := hx4.ext hext5
  have hy5 := hy4.ext hext5
  have he5 := he4.trans hext5
  clear hext5 hl4 hx4 hy4 he4
  go_wp2_with fail
  refine (replace_any A B C c d f l old fresh ((ps.length : Int) + 1) 7 1 _ hl5 hx5 hy5 (by omega) (by omega) (by omega)).mono ?_
  rintro e w6 ⟨A6, c6, rfl, hc6, hs6, hext6⟩
  rw [Hmiss.out]
  simp only [List.length_nil]
  have hs5' := hs5.ext hext6
  have hl6 := hl5.ext hext6
  have hx6 := hx5.ext hext6
  have hy6 := hy5.ext hext6
  have he6 := he5.trans hext6
  clear hext6 hl5 hx5 hy5 he5 hs5 hs6 hc6
  by_cases h0 : ps.length = 0
  · rw [Hnone.out h0]
    have z1 : decide ((ps.length : Int) > 0) = false := decide_eq_false (by omega)
    have z2 : (ps.length : Int) = 0 := by omega
    clear h0
    go_wp2
    go_loopw [16] (fun i wr => i = .int .i64 0 ∧ wr = w6) (fun _ _ => 0)
    case atStart => exact ⟨by first | rw [z2] | rfl, rfl⟩
    case round =>
      obtain ⟨rfl, rfl⟩ := hrel
      go_wp2
      go_ret
      exact ⟨rfl, he6⟩
  · obtain ⟨ha, hat⟩ := Hall.out h0
    have hla : (repF l old fresh 0 7 1).1.length ≤ 256 := repF_len ..
    generalize repF l old fresh 0 7 1 = r at ha hat hs5' hla hc5 ⊢
    obtain ⟨r1, r2⟩ := r
    dsimp only at ha hat hs5' hla hc5 ⊢
    subst ha
    have Hat := Lib.hid hat
    have z1 : decide ((ps.length : Int) > 0) = true := decide_eq_true (by omega)
    have z2 : decide (0 < ps.length) = true := decide_eq_true (by omega)
    have z3 : 0 < ps.length := by omega
    clear hat
    go_wp2
    clear z1 z2 z3 h0
    go_loopw [15, 16] (fun o i wr => ∃ (k : Nat) (A' : Option Addr) (c' : Nat) (xs : List GWord), k ≤ ps.length ∧ i = .int .i64 k ∧ o = .slice A' xs.length c' ∧ xs.length ≤ 256 ∧ Sl wordEl wr A' xs ∧ Hid (xs.map GWord.t = edT ls old.length (fresh) 0 (ps.drop k)) ∧ Ext w6 wr) (fun _ i _ => (intOf i).toNat)
    case atStart => exact ⟨ps.length, A, c, l, Nat.le_refl _, rfl, rfl, by omega, hl6, by unfold Hid; rw [List.drop_length, Hls.out]; simp [edT], Ext.refl _⟩
    case round =>
      obtain ⟨k, A', c', xs, hk, rfl, rfl, hxl, hsx, Hxt, hext⟩ := hrel
      rcases Nat.eq_zero_or_pos k with rfl | hkp
      · have z3 : decide (((0 : Nat) : Int) > 0) = false := rfl
        go_wp2_with fail
        obtain ⟨tx, htx⟩ : ∃ tx, xs.map GWord.t = tx := ⟨_, rfl⟩
        obtain ⟨tr, htr⟩ : ∃ tr, r1.map GWord.t = tr := ⟨_, rfl⟩
        have htl : tx.length ≤ 256 := by rw [← htx, List.length_map]; exact hxl
        have Htx := Lib.hid htx
        have Htr := Lib.hid htr
        clear htx htr
        refine (strs_any A' c' xs tx Htx _ hsx (by omega)).mono ?_
        rintro e w7 ⟨D7, c7, rfl, hc7, hs7, hext7⟩
        go_wp2_with fail
        refine (strs_any A5 c5 r1 tr Htr _ ((hs5'.ext hext).ext hext7) (by omega)).mono ?_
        rintro e w8 ⟨D8, c8, rfl, hc8, hs8, hext8⟩
        go_wp2_with fail
        refine (same_any D7 D8 c7 c8 tx tr _ (hs7.ext hext8) hs8 (by omega)).mono ?_
        rintro e w9 ⟨rfl, m, rfl⟩
        go_wp2
        go_ret
        exact ⟨ret_bool (decide_eq_true (by rw [← Htx.out, ← Htr.out, Hxt.out, Hat.out, List.drop_zero])), (((he6.trans hext).trans hext7).trans hext8).drewN _⟩
      · obtain ⟨k, rfl⟩ : ∃ k', k = k' + 1 := ⟨k - 1, by omega⟩
        have z3 : decide (((k + 1 : Nat) : Int) > 0) = true := decide_eq_true (by omega)
        obtain ⟨hz, hzt⟩ := Hstep.out k xs (by omega) Hxt.out
        have hcast : ((k + 1 : Nat) : Int) = (k : Int) + 1 := by omega
        have hla : (repF xs old fresh ((k : Int) + 1) 7 1).1.length ≤ 256 := repF_len ..
        have Hz := Lib.hid hz
        have Hzt := Lib.hid hzt
        clear hz hzt
        go_wp2_with fail
        refine (replace_any A' B C c' d f xs old fresh ((k : Int) + 1) 7 1 _ hsx (hx6.ext hext) (hy6.ext hext) (by omega) (by omega) (by omega)).mono ?_
        rintro e w7 ⟨A7, c7, rfl, hc7, hs7, hext7⟩
        rw [Hz.out]
        generalize repF xs old fresh ((k : Int) + 1) 7 1 = s at hs7 hc7 hla Hzt ⊢
        go_wp2
        go_roundw
        case rel => exact ⟨k, A7, c7, s.1, by omega, by go_num, rfl, hla, hs7, Hzt, hext.trans hext7⟩
        case measure => simp [intOf]

set_option maxRecDepth 100000 in
set_option maxHeartbeats 4000000 in
theorem occurIns_any (A B C : Option Addr) (c d f : Nat) (l : List GWord) (old fresh : List ByteArray) (w : World) (hl : Sl wordEl w A l) (hx : Sl strEl w B old) (hy : Sl strEl w C fresh)
    (hn : l.length ≤ 9223372036854775807) (ho : old.length ≤ 9223372036854775807) (hm : fresh.length ≤ 9223372036854775807) (hc : l.length ≤ c) :
    Calls Try.prog 6 #[.slice A l.length c, .slice B old.length d, .slice C fresh.length f, .bool true] w fun e w' => e = .returned (.bool true) ∧ Ext w w' := by
  obtain ⟨b, hb⟩ : ∃ b, b = fewB l [old, fresh] := ⟨_, rfl⟩
  go_enter Try.func6, Try.ntmps6
  go_wp2_with fail
  refine (awake_any _).mono ?_
  rintro e w1 ⟨rfl, hext1⟩
  go_wp2_with fail
  refine (few_any _ _ _ _ l [(B, d, old), (C, f, fresh)] _ ((hl.ext hext1).ext ((Ext.refl _).alloc _)) (Sl.new slsEl rfl) ?_ hn (by simp)).mono ?_
  · intro x hx'
    simp only [List.mem_cons, List.not_mem_nil, or_false] at hx'
    rcases hx' with rfl | rfl
    · exact ⟨(hx.ext hext1).ext ((Ext.refl _).alloc _), ho⟩
    · exact ⟨(hy.ext hext1).ext ((Ext.refl _).alloc _), hm⟩
  rintro e w2 ⟨rfl, rfl⟩
  simp only [List.map_cons, List.map_nil]
  rw [← hb]
  cases b
  · clear hb
    go_wp2
    go_ret
    exact ⟨rfl, hext1.alloc _⟩
  have hfew := hb.symm
  clear hb
  simp only [fewB, List.all_cons, List.all_nil, Bool.and_true, Bool.and_eq_true] at hfew
  have n1 := shortB_len hfew.2
  have n2 := briefB_len hfew.1.1
  have n3 := briefB_len hfew.1.2
  clear hfew hn ho hm
  by_cases g1 : (l.length : Int) > 60
  · have e1 : decide ((l.length : Int) > 60) = true := decide_eq_true g1
    clear g1
    go_wp2
    go_ret
    exact ⟨rfl, hext1.alloc _⟩
  have e1 : decide ((l.length : Int) > 60) = false := decide_eq_false g1
  by_cases g2 : old.length = 0
  · have e2 : ((old.length : Int) == 0) = true := by rw [g2]; rfl
    clear g1 g2
    go_wp2
    go_ret
    exact ⟨rfl, hext1.alloc _⟩
  have e2 : ((old.length : Int) == 0) = false := beq_eq_false_iff_ne.2 (by omega)
  by_cases g3 : fresh.length = 0
  · have e3 : ((fresh.length : Int) == 0) = true := by rw [g3]; rfl
    clear g1 g2 g3
    go_wp2
    go_ret
    exact ⟨rfl, hext1.alloc _⟩
  have e3 : ((fresh.length : Int) == 0) = false := beq_eq_false_iff_ne.2 (by omega)
  by_cases g4 : (fresh.length : Int) > 3
  · have e4 : decide ((fresh.length : Int) > 3) = true := decide_eq_true g4
    clear g1 g2 g3 g4
    go_wp2
    go_ret
    exact ⟨rfl, hext1.alloc _⟩
  have e4 : decide ((fresh.length : Int) > 3) = false := decide_eq_false g4
  have q1 : l.length ≤ 60 := by omega
  have q2 : 0 < old.length := by omega
  have q3 : 0 < fresh.length := by omega
  have q4 : fresh.length ≤ 3 := by omega
  have hed := insF_ed (part := old) (fresh := fresh) (fun h => by rw [h] at q2; simp at q2) (fun h => by rw [h] at q3; simp at q3) 7 1
  have hX : (old ++ fresh).length ≤ old.length + 3 := by rw [List.length_append]; omega
  obtain ⟨ls, hls⟩ : ∃ ls, l.map GWord.t = ls := ⟨_, rfl⟩
  have hll : ls.length = l.length := by rw [← hls, List.length_map]
  obtain ⟨ps, hps, hgood, hst⟩ := found ls old q2
  have hpl : ps.length ≤ 60 := by
    have := findF_length ls old
    rw [hps, List.length_map] at this
    omega
  have hlm : ls.length ≤ 60 := by rw [hll]; exact q1
  have Hps := Lib.hid hps
  have hstep : ∀ (k : Nat) (xs : List GWord), k < ps.length → xs.map GWord.t = edT ls old.length (old ++ fresh) 0 (ps.drop (k + 1)) →
      (insF xs old fresh ((k : Int) + 1) 7 1).2 = 0 ∧ (insF xs old fresh ((k : Int) + 1) 7 1).1.map GWord.t = edT ls old.length (old ++ fresh) 0 (ps.drop k) :=
    fun k xs hk hxs => hed.step q2 hX hlm Hps.out hgood hst hk hxs
  have hmiss : insF l old fresh ((ps.length : Int) + 1) 7 1 = ([], 4) := by
    refine hed.miss l _ (by omega) (chosenF_past ?_)
    rw [hls, Hps.out, List.length_map]
    omega
  have hnone : ps.length = 0 → insF l old fresh 0 7 1 = ([], 4) := fun h0 => by
    have : ps = [] := List.eq_nil_of_length_eq_zero h0
    refine hed.miss l _ (by omega) ?_
    unfold chosenF
    rw [if_pos rfl, hls, Hps.out, this]
    rfl
  have hall : ps.length ≠ 0 → (insF l old fresh 0 7 1).2 = 0 ∧ (insF l old fresh 0 7 1).1.map GWord.t = edT ls old.length (old ++ fresh) 0 ps := fun h0 => by
    have hgl := hgood
    rw [hll] at hgl
    have hok := hed.ok l 0 ps (by omega) (by unfold chosenF; rw [if_pos rfl, hls, Hps.out]) (fun h => h0 (by rw [h]; rfl)) hgl
    rw [hls] at hok
    refine hok hst ?_
    have h1 := edT_length ls old.length (old ++ fresh) ps 0 hgood
    have h2 : ps.length * (old ++ fresh).length ≤ ps.length * (old.length + 3) := Nat.mul_le_mul_left _ hX
    rw [Nat.mul_add] at h2
    omega
  have Hstep := Lib.hid hstep
  have Hmiss := Lib.hid hmiss
  have Hnone := Lib.hid hnone
  have Hall := Lib.hid hall
  have Hls := Lib.hid hls
  clear hstep hmiss hnone hall hps hed hst hgood hX g1 g2 g3 g4 hls hll
  have hl2 := (hl.ext hext1).ext ((Ext.refl w1).alloc (.cells (slsEl.flat [(B, d, old), (C, f, fresh)]).toArray slsEl.e))
  have hx2 := (hx.ext hext1).ext ((Ext.refl w1).alloc (.cells (slsEl.flat [(B, d, old), (C, f, fresh)]).toArray slsEl.e))
  have hy2 := (hy.ext hext1).ext ((Ext.refl w1).alloc (.cells (slsEl.flat [(B, d, old), (C, f, fresh)]).toArray slsEl.e))
  have he2 := hext1.alloc (.cells (slsEl.flat [(B, d, old), (C, f, fresh)]).toArray slsEl.e)
  clear hl hx hy hext1
  go_wp2_with fail
  refine (strs_any A c l ls Hls _ hl2 (by omega)).mono ?_
  rintro e w3 ⟨D, cw, rfl, hcw, hsw, hext3⟩
  have hl3 := hl2.ext hext3
  have hx3 := hx2.ext hext3
  have hy3 := hy2.ext hext3
  have he3 := he2.trans hext3
  clear hext3 hl2 hx2 hy2 he2
  go_wp2_with fail
  refine (count_any D B cw d ls old _ hsw hx3 (by omega) (by omega) hcw).mono ?_
  rintro e w4 ⟨rfl, hext4⟩
  rw [Hps.out, List.length_map]
  have hl4 := hl3.ext hext4
  have hx4 := hx3.ext hext4
  have hy4 := hy3.ext hext4
  have he4 := he3.trans hext4
  clear hext4 hl3 hx3 hy3 he3 hsw hcw Hps
  go_wp2_with fail
  refine (insert_any A B C c d f l old fresh 0 7 1 _ hl4 hx4 hy4 (by omega) (by omega) (by omega)).mono ?_
  rintro e w5 ⟨A5, c5, rfl, hc5, hs5, hext5⟩
  have hl5 := hl4.ext hext5
  have hx5 := hx4.ext hext5
  have hy5 := hy4.ext hext5
  have he5 := he4.trans hext5
  clear hext5 hl4 hx4 hy4 he4
  go_wp2_with fail
  refine (insert_any A B C c d f l old fresh ((ps.length : Int) + 1) 7 1 _ hl5 hx5 hy5 (by omega) (by omega) (by omega)).mono ?_
  rintro e w6 ⟨A6, c6, rfl, hc6, hs6, hext6⟩
  rw [Hmiss.out]
  simp only [List.length_nil]
  have hs5' := hs5.ext hext6
  have hl6 := hl5.ext hext6
  have hx6 := hx5.ext hext6
  have hy6 := hy5.ext hext6
  have he6 := he5.trans hext6
  clear hext6 hl5 hx5 hy5 he5 hs5 hs6 hc6
  by_cases h0 : ps.length = 0
  · rw [Hnone.out h0]
    have z1 : decide ((ps.length : Int) > 0) = false := decide_eq_false (by omega)
    have z2 : (ps.length : Int) = 0 := by omega
    clear h0
    go_wp2
    go_loopw [16] (fun i wr => i = .int .i64 0 ∧ wr = w6) (fun _ _ => 0)
    case atStart => exact ⟨by first | rw [z2] | rfl, rfl⟩
    case round =>
      obtain ⟨rfl, rfl⟩ := hrel
      go_wp2
      go_ret
      exact ⟨rfl, he6⟩
  · obtain ⟨ha, hat⟩ := Hall.out h0
    have hla : (insF l old fresh 0 7 1).1.length ≤ 256 := insF_len ..
    generalize insF l old fresh 0 7 1 = r at ha hat hs5' hla hc5 ⊢
    obtain ⟨r1, r2⟩ := r
    dsimp only at ha hat hs5' hla hc5 ⊢
    subst ha
    have Hat := Lib.hid hat
    have z1 : decide ((ps.length : Int) > 0) = true := decide_eq_true (by omega)
    have z2 : decide (0 < ps.length) = true := decide_eq_true (by omega)
    have z3 : 0 < ps.length := by omega
    clear hat
    go_wp2
    clear z1 z2 z3 h0
    go_loopw [15, 16] (fun o i wr => ∃ (k : Nat) (A' : Option Addr) (c' : Nat) (xs : List GWord), k ≤ ps.length ∧ i = .int .i64 k ∧ o = .slice A' xs.length c' ∧ xs.length ≤ 256 ∧ Sl wordEl wr A' xs ∧ Hid (xs.map GWord.t = edT ls old.length (old ++ fresh) 0 (ps.drop k)) ∧ Ext w6 wr) (fun _ i _ => (intOf i).toNat)
    case atStart => exact ⟨ps.length, A, c, l, Nat.le_refl _, rfl, rfl, by omega, hl6, by unfold Hid; rw [List.drop_length, Hls.out]; simp [edT], Ext.refl _⟩
    case round =>
      obtain ⟨k, A', c', xs, hk, rfl, rfl, hxl, hsx, Hxt, hext⟩ := hrel
      rcases Nat.eq_zero_or_pos k with rfl | hkp
      · have z3 : decide (((0 : Nat) : Int) > 0) = false := rfl
        go_wp2_with fail
        obtain ⟨tx, htx⟩ : ∃ tx, xs.map GWord.t = tx := ⟨_, rfl⟩
        obtain ⟨tr, htr⟩ : ∃ tr, r1.map GWord.t = tr := ⟨_, rfl⟩
        have htl : tx.length ≤ 256 := by rw [← htx, List.length_map]; exact hxl
        have Htx := Lib.hid htx
        have Htr := Lib.hid htr
        clear htx htr
        refine (strs_any A' c' xs tx Htx _ hsx (by omega)).mono ?_
        rintro e w7 ⟨D7, c7, rfl, hc7, hs7, hext7⟩
        go_wp2_with fail
        refine (strs_any A5 c5 r1 tr Htr _ ((hs5'.ext hext).ext hext7) (by omega)).mono ?_
        rintro e w8 ⟨D8, c8, rfl, hc8, hs8, hext8⟩
        go_wp2_with fail
        refine (same_any D7 D8 c7 c8 tx tr _ (hs7.ext hext8) hs8 (by omega)).mono ?_
        rintro e w9 ⟨rfl, m, rfl⟩
        go_wp2
        go_ret
        exact ⟨ret_bool (decide_eq_true (by rw [← Htx.out, ← Htr.out, Hxt.out, Hat.out, List.drop_zero])), (((he6.trans hext).trans hext7).trans hext8).drewN _⟩
      · obtain ⟨k, rfl⟩ : ∃ k', k = k' + 1 := ⟨k - 1, by omega⟩
        have z3 : decide (((k + 1 : Nat) : Int) > 0) = true := decide_eq_true (by omega)
        obtain ⟨hz, hzt⟩ := Hstep.out k xs (by omega) Hxt.out
        have hcast : ((k + 1 : Nat) : Int) = (k : Int) + 1 := by omega
        have hla : (insF xs old fresh ((k : Int) + 1) 7 1).1.length ≤ 256 := insF_len ..
        have Hz := Lib.hid hz
        have Hzt := Lib.hid hzt
        clear hz hzt
        go_wp2_with fail
        refine (insert_any A' B C c' d f xs old fresh ((k : Int) + 1) 7 1 _ hsx (hx6.ext hext) (hy6.ext hext) (by omega) (by omega) (by omega)).mono ?_
        rintro e w7 ⟨A7, c7, rfl, hc7, hs7, hext7⟩
        rw [Hz.out]
        generalize insF xs old fresh ((k : Int) + 1) 7 1 = s at hs7 hc7 hla Hzt ⊢
        go_wp2
        go_roundw
        case rel => exact ⟨k, A7, c7, s.1, by omega, by go_num, rfl, hla, hs7, Hzt, hext.trans hext7⟩
        case measure => simp [intOf]

theorem occur_any (A B C : Option Addr) (c d f : Nat) (l : List GWord) (old fresh : List ByteArray) (behind : Bool) (w : World) (hl : Sl wordEl w A l) (hx : Sl strEl w B old) (hy : Sl strEl w C fresh)
    (hn : l.length ≤ 9223372036854775807) (ho : old.length ≤ 9223372036854775807) (hm : fresh.length ≤ 9223372036854775807) (hc : l.length ≤ c) :
    Calls Try.prog 6 #[.slice A l.length c, .slice B old.length d, .slice C fresh.length f, .bool behind] w fun e w' => e = .returned (.bool true) ∧ Ext w w' := by
  cases behind
  · exact occurRep_any A B C c d f l old fresh w hl hx hy hn ho hm hc
  · exact occurIns_any A B C c d f l old fresh w hl hx hy hn ho hm hc

end Go.Proofs.Ytkbmocgjbhmioaa
