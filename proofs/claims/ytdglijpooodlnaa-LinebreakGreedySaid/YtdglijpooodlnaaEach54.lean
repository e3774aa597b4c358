/- each, with what its visitor does as a premise; the greedy end of a line. -/
import Derived.Test.YtdglijpooodlnaaPos54
namespace Go.Proofs.Ytdglijpooodlnaa
open Go.RowKit

/-- the greedy end of a line that begins at i -/
def gE (l : List ByteArray) (W : Int) (i : Nat) : Nat → Nat
  | 0 => i
  | f + 1 => if gE l W i f < l.length ∧ lenF l i (gE l W i f + 1) ≤ W then gE l W i f + 1 else gE l W i f
def gF (l : List ByteArray) (W : Int) (i : Nat) : Nat := gE l W i (l.length - i)
structure IsG (l : List ByteArray) (W : Int) (i g : Nat) : Prop where
  ge : i ≤ g
  le : g ≤ l.length
  fit : ∀ e, i < e → e ≤ g → lenF l i e ≤ W
  stop : g = l.length ∨ W < lenF l i (g + 1)
theorem gE_is (l : List ByteArray) (W : Int) (i : Nat) (hi : i ≤ l.length) : ∀ f, i ≤ gE l W i f ∧ gE l W i f ≤ l.length ∧ (∀ e, i < e → e ≤ gE l W i f → lenF l i e ≤ W) ∧ (gE l W i f = i + f ∨ gE l W i f = l.length ∨ W < lenF l i (gE l W i f + 1))
  | 0 => ⟨Nat.le_refl _, hi, (fun e h1 h2 => by simp only [gE] at h2; omega), .inl rfl⟩
  | f + 1 => by
    obtain ⟨h1, h2, h3, h4⟩ := gE_is l W i hi f
    simp only [gE]
    split
    · rename_i h
      refine ⟨by omega, by omega, fun e he1 he2 => ?_, ?_⟩
      · rcases Nat.lt_or_ge (gE l W i f) e with h5 | h5
        · obtain rfl : e = gE l W i f + 1 := by omega
          exact h.2
        · exact h3 e he1 h5
      · rcases h4 with h4 | h4 | h4
        · exact .inl (by omega)
        · omega
        · omega
    · rename_i h
      refine ⟨h1, h2, h3, .inr ?_⟩
      rcases h4 with h4 | h4 | h4
      · by_cases h5 : gE l W i f < l.length
        · exact .inr (by have : ¬ lenF l i (gE l W i f + 1) ≤ W := fun h6 => h ⟨h5, h6⟩
                         omega)
        · exact .inl (by omega)
      · exact .inl h4
      · exact .inr h4
theorem gF_is {l : List ByteArray} (W : Int) {i : Nat} (hi : i ≤ l.length) : IsG l W i (gF l W i) := by
  obtain ⟨h1, h2, h3, h4⟩ := gE_is l W i hi (l.length - i)
  refine ⟨h1, h2, h3, ?_⟩
  unfold gF
  rcases h4 with h4 | h4 | h4
  · exact .inl (by omega)
  · exact .inl h4
  · exact .inr h4
/-- words that fit, and their number is bounded -/
structure Fit (W : Int) (l : List ByteArray) : Prop where
  brief : briefP l 60
  lo : 1 ≤ W
  hi : W ≤ 200
  pos : ∀ s ∈ l, 1 ≤ s.size
  fit : ∀ s ∈ l, (s.size : Int) ≤ W
theorem fit_of {W : Int} {l : List ByteArray} (h : wrongF W l = 0) (hb : briefP l 60) : Fit W l := by
  unfold wrongF at h
  split at h
  · cases h
  · split at h
    · cases h
    · split at h
      · cases h
      · rename_i h1 h2 h3
        have h4 : ∀ s ∈ l, unfitB W s = false := fun s hs => by
          cases hq : unfitB W s with
          | false => rfl
          | true => exact absurd (List.any_eq_true.2 ⟨s, hs, hq⟩) h3
        refine ⟨hb, by omega, by omega, fun s hs => ?_, fun s hs => ?_⟩
        · have := h4 s hs
          simp only [unfitB, Bool.or_eq_false_iff, decide_eq_false_iff_not] at this
          omega
        · have := h4 s hs
          simp only [unfitB, Bool.or_eq_false_iff, decide_eq_false_iff_not] at this
          omega
theorem Fit.lt {W : Int} {l : List ByteArray} (h : Fit W l) {i : Nat} (hi : i < l.length) : i < gF l W i := by
  have hg := gF_is W (show i ≤ l.length by omega)
  rcases Nat.lt_or_ge i (gF l W i) with h1 | h1
  · exact h1
  · exfalso
    have h2 := hg.ge
    have h3 : gF l W i = i := by omega
    have h4 := hg.stop
    rw [h3] at h4
    rcases h4 with h4 | h4
    · omega
    · have := h.fit l[i] (List.getElem_mem hi)
      rw [lenF_succ hi] at h4
      unfold lenF at h4
      omega

set_option maxRecDepth 100000 in
set_option maxHeartbeats 1600000 in
theorem each1_any (A : Option Addr) (c : Nat) (l : List ByteArray) (W : Int) (i g m : Nat) (fv0 : Value) (Inv : Nat → World → Prop) (w : World) (hread : ∀ e w', Inv e w' → Sl strEl w' A l)
    (hg : IsG l W i g) (hb : briefP l m) (hm : m ≤ 60) (hW : W ≤ 200) (hstep : ∀ (e : Nat) w', i ≤ e → e < g → Inv e w' → Calls Try.prog 32 #[.int .i64 ((e + 1 : Nat) : Int), .int .i64 (lenF l i (e + 1)), fv0] w' fun r w'' => r = .returned (.tuple #[]) ∧ Inv (e + 1) w'') (h0 : Inv i w) :
    Calls Try.prog 27 #[.int .i64 W, .int .i64 (i : Nat), .slice A l.length c, .func (.func 32) #[] #[fv0]] w fun r w' => r = .returned (.tuple #[]) ∧ Inv g w' := by
  obtain ⟨g1, g2, g3, g4⟩ := hg
  have hl := hb.1
  have G3 := Lib.hid g3
  have G4 := Lib.hid g4
  have Hb := Lib.hid hb
  have Hst := Lib.hid hstep
  have Hre := Lib.hid hread
  have H0 := Lib.hid h0
  clear g3 g4 hb hstep hread h0
  go_enter Try.func27, Try.ntmps27
  go_wp2
  go_loopw [8, 9] (fun n j wr => ∃ e : Nat, i ≤ e ∧ e ≤ g ∧ j = .int .i64 ((e + 1 : Nat) : Int) ∧ n = .int .i64 (lenF l i e) ∧ Hid (Inv e wr)) (fun _ j _ => g + 1 - (intOf j).toNat)
  case atStart => exact ⟨i, Nat.le_refl _, g1, by go_num, by unfold lenF; go_num, H0⟩
  case round =>
    obtain ⟨e, he1, he2, rfl, rfl, HI⟩ := hrel
    have hp1 := posF_le Hb.out e (by omega)
    have hp2 := posF_mono l i e he1
    have hL : -1 ≤ lenF l i e ∧ lenF l i e ≤ 20000 := by unfold lenF; omega
    clear hp1 hp2
    by_cases hlt : e < l.length
    · obtain ⟨b, off, hA, hbl, u0⟩ := strAt (Hre.out _ _ HI.out) hlt
      have hst := lenF_succ (l := l) (i := i) hlt
      have hsz := Hb.out.2 l[e] (List.getElem_mem hlt)
      obtain ⟨s, hs0⟩ : ∃ s, l[e] = s := ⟨_, rfl⟩
      rw [hs0] at u0 hst hsz
      obtain ⟨L, hL0⟩ : ∃ L, lenF l i e = L := ⟨_, rfl⟩
      rw [hL0] at hL hst ⊢
      subst hA
      have d1 : decide (((e + 1 : Nat) : Int) ≤ (l.length : Int)) = true := decide_eq_true (by omega)
      have d1' : decide (e + 1 ≤ l.length) = true := decide_eq_true (by omega)
      have d2 : decide (((e + 1 : Nat) : Int) - 1 < (l.length : Int)) = true := decide_eq_true (by omega)
      by_cases heg : e < g
      · have hfit := G3.out (e + 1) (by omega) (by omega)
        rw [hst] at hfit
        have d3 : decide (L + (1 + (s.size : Int)) > W) = false := decide_eq_false (by omega)
        have hc := Hst.out e wr he1 heg HI.out
        rw [hst] at hc
        have Hc := Lib.hid hc
        have Hst2 := Lib.hid hst
        clear hs0 hL0 hst hc hfit
        go_wp2_with fail
        refine (Hc.out).mono ?_
        rintro r w2 ⟨rfl, hi2⟩
        have Hi2 := Lib.hid hi2
        clear hi2
        go_wp2
        go_roundw
        case rel => exact ⟨e + 1, by omega, by omega, by go_num, by rw [Hst2.out], Hi2⟩
        case measure => simp [intOf]; omega
      · obtain rfl : e = g := by omega
        have hbig : W < lenF l i (e + 1) := by
          rcases G4.out with h | h
          · omega
          · exact h
        rw [hst] at hbig
        have d3 : decide (L + (1 + (s.size : Int)) > W) = true := decide_eq_true (by omega)
        clear hs0 hL0 hst hbig
        go_wp2
        (try simp only [Exit.inBlock, Exit.then])
        refine bodyPost_ret (results_none rfl _ _ _) rfl ?_
        exact ⟨rfl, HI.out⟩
    · have hel : e = l.length := by omega
      have heg : e = g := by omega
      have d1 : decide (((e + 1 : Nat) : Int) ≤ (l.length : Int)) = false := decide_eq_false (by omega)
      have d1' : decide (e + 1 ≤ l.length) = false := decide_eq_false (by omega)
      have Hi := Lib.hid (heg ▸ HI.out)
      clear hel heg HI
      go_wp2
      go_end0
      exact ⟨rfl, Hi.out⟩

set_option maxRecDepth 100000 in
set_option maxHeartbeats 1600000 in
theorem each5_any (A : Option Addr) (c : Nat) (l : List ByteArray) (W : Int) (i g m : Nat) (fv0 fv1 fv2 fv3 fv4 : Value) (Inv : Nat → World → Prop) (w : World) (hread : ∀ e w', Inv e w' → Sl strEl w' A l)
    (hg : IsG l W i g) (hb : briefP l m) (hm : m ≤ 60) (hW : W ≤ 200) (hstep : ∀ (e : Nat) w', i ≤ e → e < g → Inv e w' → Calls Try.prog 28 #[.int .i64 ((e + 1 : Nat) : Int), .int .i64 (lenF l i (e + 1)), fv0, fv1, fv2, fv3, fv4] w' fun r w'' => r = .returned (.tuple #[]) ∧ Inv (e + 1) w'') (h0 : Inv i w) :
    Calls Try.prog 27 #[.int .i64 W, .int .i64 (i : Nat), .slice A l.length c, .func (.func 28) #[] #[fv0, fv1, fv2, fv3, fv4]] w fun r w' => r = .returned (.tuple #[]) ∧ Inv g w' := by
  obtain ⟨g1, g2, g3, g4⟩ := hg
  have hl := hb.1
  have G3 := Lib.hid g3
  have G4 := Lib.hid g4
  have Hb := Lib.hid hb
  have Hst := Lib.hid hstep
  have Hre := Lib.hid hread
  have H0 := Lib.hid h0
  clear g3 g4 hb hstep hread h0
  go_enter Try.func27, Try.ntmps27
  go_wp2
  go_loopw [8, 9] (fun n j wr => ∃ e : Nat, i ≤ e ∧ e ≤ g ∧ j = .int .i64 ((e + 1 : Nat) : Int) ∧ n = .int .i64 (lenF l i e) ∧ Hid (Inv e wr)) (fun _ j _ => g + 1 - (intOf j).toNat)
  case atStart => exact ⟨i, Nat.le_refl _, g1, by go_num, by unfold lenF; go_num, H0⟩
  case round =>
    obtain ⟨e, he1, he2, rfl, rfl, HI⟩ := hrel
    have hp1 := posF_le Hb.out e (by omega)
    have hp2 := posF_mono l i e he1
    have hL : -1 ≤ lenF l i e ∧ lenF l i e ≤ 20000 := by unfold lenF; omega
    clear hp1 hp2
    by_cases hlt : e < l.length
    · obtain ⟨b, off, hA, hbl, u0⟩ := strAt (Hre.out _ _ HI.out) hlt
      have hst := lenF_succ (l := l) (i := i) hlt
      have hsz := Hb.out.2 l[e] (List.getElem_mem hlt)
      obtain ⟨s, hs0⟩ : ∃ s, l[e] = s := ⟨_, rfl⟩
      rw [hs0] at u0 hst hsz
      obtain ⟨L, hL0⟩ : ∃ L, lenF l i e = L := ⟨_, rfl⟩
      rw [hL0] at hL hst ⊢
      subst hA
      have d1 : decide (((e + 1 : Nat) : Int) ≤ (l.length : Int)) = true := decide_eq_true (by omega)
      have d1' : decide (e + 1 ≤ l.length) = true := decide_eq_true (by omega)
      have d2 : decide (((e + 1 : Nat) : Int) - 1 < (l.length : Int)) = true := decide_eq_true (by omega)
      by_cases heg : e < g
      · have hfit := G3.out (e + 1) (by omega) (by omega)
        rw [hst] at hfit
        have d3 : decide (L + (1 + (s.size : Int)) > W) = false := decide_eq_false (by omega)
        have hc := Hst.out e wr he1 heg HI.out
        rw [hst] at hc
        have Hc := Lib.hid hc
        have Hst2 := Lib.hid hst
        clear hs0 hL0 hst hc hfit
        go_wp2_with fail
        refine (Hc.out).mono ?_
        rintro r w2 ⟨rfl, hi2⟩
        have Hi2 := Lib.hid hi2
        clear hi2
        go_wp2
        go_roundw
        case rel => exact ⟨e + 1, by omega, by omega, by go_num, by rw [Hst2.out], Hi2⟩
        case measure => simp [intOf]; omega
      · obtain rfl : e = g := by omega
        have hbig : W < lenF l i (e + 1) := by
          rcases G4.out with h | h
          · omega
          · exact h
        rw [hst] at hbig
        have d3 : decide (L + (1 + (s.size : Int)) > W) = true := decide_eq_true (by omega)
        clear hs0 hL0 hst hbig
        go_wp2
        (try simp only [Exit.inBlock, Exit.then])
        refine bodyPost_ret (results_none rfl _ _ _) rfl ?_
        exact ⟨rfl, HI.out⟩
    · have hel : e = l.length := by omega
      have heg : e = g := by omega
      have d1 : decide (((e + 1 : Nat) : Int) ≤ (l.length : Int)) = false := decide_eq_false (by omega)
      have d1' : decide (e + 1 ≤ l.length) = false := decide_eq_false (by omega)
      have Hi := Lib.hid (heg ▸ HI.out)
      clear hel heg HI
      go_wp2
      go_end0
      exact ⟨rfl, Hi.out⟩

end Go.Proofs.Ytdglijpooodlnaa
