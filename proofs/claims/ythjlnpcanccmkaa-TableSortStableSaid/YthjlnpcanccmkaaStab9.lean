/- stable, SortStableFunc: the row is sorted, those alike stay in their order. -/
import Derived.Test.YthjlnpcanccmkaaSymC9
namespace Go.Proofs.Ythjlnpcanccmkaa
open Go.RowKit

section
variable {g : Nat} {lt : (RUnit × GUnit) → (RUnit × GUnit) → Bool} {S : (RUnit × GUnit) → Prop} {J : World → Prop} {fv : Value}
/-- the first a of the row are sorted blocks of twenty -/
def Stb1 (lt : (RUnit × GUnit) → (RUnit × GUnit) → Bool) (g cap n : Nat) (xs : List (RUnit × GUnit)) (a : Nat) (w : World) : Prop := ∃ X Z, X.length = a ∧ Full lt 20 X ∧ SO lt xs (X ++ Z) ∧ Rw g cap n w (X ++ Z)
/-- the row is sorted blocks of one length, and a shorter one -/
def Stb2 (lt : (RUnit × GUnit) → (RUnit × GUnit) → Bool) (g cap n : Nat) (xs : List (RUnit × GUnit)) (q : Nat) (w : World) : Prop := ∃ X Y, Full lt q X ∧ Srt lt Y ∧ Y.length < q ∧ SO lt xs (X ++ Y) ∧ Rw g cap n w (X ++ Y)
/-- half way: the first a of the row are sorted blocks of twice the length -/
def Stb3 (lt : (RUnit × GUnit) → (RUnit × GUnit) → Bool) (g cap n : Nat) (xs : List (RUnit × GUnit)) (q a : Nat) (w : World) : Prop := ∃ X2 X Y, X2.length = a ∧ Full lt (2 * q) X2 ∧ Full lt q X ∧ Srt lt Y ∧ Y.length < q ∧ SO lt xs (X2 ++ (X ++ Y)) ∧ Rw g cap n w (X2 ++ (X ++ Y))
theorem Stb3.end_ {cap n q a : Nat} {xs : List (RUnit × GUnit)} {w : World} (h : Stb3 lt g cap n xs q a w) (h1 : n < a + 2 * q) (h2 : n ≤ a + q) : Stb2 lt g cap n xs (2 * q) w := by
  obtain ⟨X2, X, Y, k1, k2, k3, k4, k5, k6, k7⟩ := h
  have hl := k7.len
  simp only [List.length_append] at hl
  rcases k3.two with rfl | ⟨l1, s1⟩ | ⟨c1, c2, X', rfl, l1, l2, _, _, _⟩
  · exact ⟨X2, Y, k2, k4, by omega, by simpa using k6, by simpa using k7⟩
  · have : Y = [] := List.eq_nil_of_length_eq_zero (by omega)
    subst this
    exact ⟨X2, X, k2, s1, by omega, by simpa using k6, by simpa using k7⟩
  · simp at hl; omega
theorem Stb2.fin {cap n q : Nat} {xs : List (RUnit × GUnit)} {w : World} (h : Stb2 lt g cap n xs q w) (h1 : n ≤ q) : ∃ M, Srt lt M ∧ SO lt xs M ∧ Rw g cap n w M := by
  obtain ⟨X, Y, k2, k4, k5, k6, k7⟩ := h
  have hl := k7.len
  simp only [List.length_append] at hl
  rcases k2.two with rfl | ⟨l1, s1⟩ | ⟨c1, c2, X', rfl, l1, l2, _, _, _⟩
  · exact ⟨Y, k4, by simpa using k6, by simpa using k7⟩
  · have : Y = [] := List.eq_nil_of_length_eq_zero (by omega)
    subst this
    exact ⟨X, s1, by simpa using k6, by simpa using k7⟩
  · simp at hl; omega

set_option maxRecDepth 100000 in
set_option maxHeartbeats 3200000 in
theorem stable_any (C : CmpC g lt S J fv) (hw : Wk lt) (cap n : Nat) (xs : List (RUnit × GUnit)) (w : World) (hn : n ≤ 1048576) (hS : ∀ y ∈ xs, S y) (hJ : J w) (hrow : Rw g cap n w xs) :
    Calls Try.prog 58 #[.slice (some ⟨g, 0, none⟩) n cap, .int .i64 (n : Nat), fv] w fun e w' => e = .returned (.tuple #[]) ∧ Kp g w w' ∧ ∃ M, Srt lt M ∧ SO lt xs M ∧ Rw g cap n w' M := by
  have h0 : Stb1 lt g cap n xs 0 w := ⟨[], xs, rfl, Full.nil, by simpa using SO.refl xs, by simpa using hrow⟩
  have HS := Lib.hid (show ∀ l, SO lt xs l → ∀ y ∈ l, S y from fun l h y hy => hS y (h.perm.mem_iff.2 hy))
  have Hsym := Lib.hid (fun N => sym_rec C hw N)
  have Hins := Lib.hid (fun a b A B D wq hn h1 h2 h3 h4 h5 => insSort_any C hw cap n a b A B D wq hn h1 h2 h3 h4 h5)
  have Hw := Lib.hid hw
  replace C := Lib.hid C
  have HJ := Lib.hid hJ
  clear hw hS hJ hrow
  go_enter Try.func58, Try.ntmps58
  go_wp2
  go_loopw [7, 8] (fun vi vj wr => ∃ a : Nat, a ≤ n ∧ vi = .int .i64 (a : Nat) ∧ vj = .int .i64 ((a + 20 : Nat) : Int) ∧ Kp g w wr ∧ Stb1 lt g cap n xs a wr) (fun vi _ _ => n - (intOf vi).toNat)
  case atStart => exact ⟨0, Nat.zero_le _, rfl, by go_num, Kp.refl _ _, h0⟩
  case round =>
    clear h0
    obtain ⟨a, han, rfl, rfl, hkp, hst⟩ := hrel
    have HJr := Lib.hid (C.out.keep _ _ HJ.out hkp)
    by_cases hlt : a + 20 ≤ n
    · have d1 : decide (((a + 20 : Nat) : Int) ≤ (n : Int)) = true := decide_eq_true (by omega)
      obtain ⟨X, Z, k1, k2, k3, k4⟩ := hst
      have hl := k4.len
      simp only [List.length_append] at hl
      have e1 : X ++ Z = X ++ Z.take 20 ++ Z.drop 20 := by simp
      rw [e1] at k3 k4
      have Hc := Lib.hid (Hins.out a (a + 20) X (Z.take 20) (Z.drop 20) wr hn k1.symm (by simp; omega) (fun y hy => HS.out _ k3 y (by rw [← e1]; exact List.mem_append_right _ (List.mem_of_mem_take hy))) HJr.out k4)
      have Hk := Lib.hid (show ∀ w' M, Srt lt M → SO lt (Z.take 20) M → Rw g cap n w' (X ++ M ++ Z.drop 20) → Stb1 lt g cap n xs (a + 20) w' from fun w' M q1 q2 q3 => by
        have hM := q2.perm.length_eq
        rw [List.length_take, Nat.min_eq_left (by omega)] at hM
        exact ⟨X ++ M, Z.drop 20, by simp; omega, k2.snoc hM.symm q1, k3.trans (((SO.refl X).append q2).append (SO.refl _)), q3⟩)
      obtain ⟨b, hb⟩ : ∃ b, a + 20 = b := ⟨_, rfl⟩
      rw [hb] at Hc Hk d1 hlt ⊢
      have Hb := Lib.hid hb
      clear k1 k2 k3 k4 hl e1 hb
      go_wp2_with fail
      refine (Hc.out).mono ?_
      rintro e w2 ⟨rfl, hk2, M, q1, q2, q3⟩
      have hst2 := Hk.out w2 M q1 q2 q3
      clear q1 q2 q3 Hc Hk
      go_wp2
      go_roundw
      case rel => exact ⟨b, hlt, rfl, by go_num, hkp.trans hk2, hst2⟩
      case measure => have := Hb.out; simp [intOf]; omega
    · have d1 : decide (((a + 20 : Nat) : Int) ≤ (n : Int)) = false := decide_eq_false (by omega)
      obtain ⟨X, Z, k1, k2, k3, k4⟩ := hst
      have hl := k4.len
      simp only [List.length_append] at hl
      have e1 : X ++ Z = X ++ Z ++ [] := by simp
      rw [e1] at k4
      have Hc := Lib.hid (Hins.out a n X Z [] wr hn k1.symm (by omega) (fun y hy => HS.out _ k3 y (List.mem_append_right _ hy)) HJr.out k4)
      have Hk := Lib.hid (show ∀ w' M, Srt lt M → SO lt Z M → Rw g cap n w' (X ++ M ++ []) → Stb2 lt g cap n xs 20 w' from fun w' M q1 q2 q3 => by
        have hM := q2.perm.length_eq
        exact ⟨X, M, k2, q1, by omega, k3.trans ((SO.refl X).append q2), by simpa using q3⟩)
      clear k1 k2 k3 k4 hl e1
      go_wp2_with fail
      refine (Hc.out).mono ?_
      rintro e w2 ⟨rfl, hk2, M, q1, q2, q3⟩
      have hst2 := Hk.out w2 M q1 q2 q3
      have hkp2 := hkp.trans hk2
      clear q1 q2 q3 Hc Hk hkp hk2 HJr Hins
      go_wp2
      go_loopw [6] (fun vq wr => ∃ q : Nat, 0 < q ∧ q ≤ 4194304 ∧ vq = .int .i64 (q : Nat) ∧ Kp g w wr ∧ Stb2 lt g cap n xs q wr) (fun vq _ => n - (intOf vq).toNat)
      case atStart => exact ⟨20, by omega, by omega, rfl, hkp2, hst2⟩
      case round =>
        clear hst2 hkp2
        obtain ⟨q, hq0, hqn, rfl, hkq, hsq⟩ := hrel
        by_cases hqlt : q < n
        · have d2 : decide ((q : Int) < (n : Int)) = true := decide_eq_true (by omega)
          have hs30 : Stb3 lt g cap n xs q 0 wr := by
            obtain ⟨X, Y, k2, k4, k5, k6, k7⟩ := hsq
            exact ⟨[], X, Y, rfl, Full.nil, k2, k4, k5, by simpa using k6, by simpa using k7⟩
          clear hsq
          go_wp2
          go_loopw [7, 8] (fun vi vj wr => ∃ a b : Nat, a ≤ n ∧ b ≤ 10485760 ∧ Hid (b = a + 2 * q) ∧ vi = .int .i64 (a : Nat) ∧ vj = .int .i64 (b : Nat) ∧ Kp g w wr ∧ Stb3 lt g cap n xs q a wr) (fun vi _ _ => n - (intOf vi).toNat)
          case atStart => exact ⟨0, 2 * q, Nat.zero_le _, by omega, Lib.hid (by omega), rfl, by go_num, hkq, hs30⟩
          case round =>
            clear hs30 hkq
            obtain ⟨a, b, han2, hb1, Hb, rfl, rfl, hkp, hst⟩ := hrel
            have hb2 := Hb.out
            have hab : a < b := by omega
            obtain ⟨m, hm⟩ : ∃ m, m = a + q := ⟨_, rfl⟩
            have em : (a : Int) + (q : Int) = ((m : Nat) : Int) := by omega
            have hm1 : m < b := by omega
            have hm2 : a < m := by omega
            have Hm := Lib.hid hm
            have HJr := Lib.hid (C.out.keep _ _ HJ.out hkp)
            by_cases hbn : b ≤ n
            · have d3 : decide ((b : Int) ≤ (n : Int)) = true := decide_eq_true (by omega)
              obtain ⟨X2, X, Y, k1, k2, k3, k4, k5, k6, k7⟩ := hst
              have hl := k7.len
              simp only [List.length_append] at hl
              obtain ⟨c1, c2, X', rfl, l1, l2, s1, s2, kf⟩ : ∃ c1 c2 X', X = c1 ++ c2 ++ X' ∧ c1.length = q ∧ c2.length = q ∧ Srt lt c1 ∧ Srt lt c2 ∧ Full lt q X' := by
                rcases k3.two with rfl | ⟨l1, s1⟩ | h
                · simp at hl; omega
                · omega
                · exact h
              have e1 : X2 ++ (c1 ++ c2 ++ X' ++ Y) = X2 ++ c1 ++ c2 ++ (X' ++ Y) := by simp only [List.append_assoc]
              rw [e1] at k6 k7
              have Hc := Lib.hid (Hsym.out (b - a) cap n a m b X2 c1 c2 (X' ++ Y) wr (Nat.le_refl _) hn k1.symm (by omega) (by omega) (by omega) (by omega) s1 s2 (fun y hy => HS.out _ k6 y (by rcases List.mem_append.1 hy with hy | hy <;> simp [hy])) HJr.out k7)
              have Hk := Lib.hid (show ∀ w' M, Srt lt M → SO lt (c1 ++ c2) M → Rw g cap n w' (X2 ++ M ++ (X' ++ Y)) → Stb3 lt g cap n xs q b w' from fun w' M q1 q2 q3 => by
                have hM := q2.perm.length_eq
                simp only [List.length_append] at hM
                refine ⟨X2 ++ M, X', Y, by simp; omega, k2.snoc (by omega) q1, kf, k4, k5, k6.trans ?_, q3⟩
                rw [show X2 ++ c1 ++ c2 ++ (X' ++ Y) = X2 ++ (c1 ++ c2) ++ (X' ++ Y) by simp only [List.append_assoc]]
                exact ((SO.refl X2).append q2).append (SO.refl _))
              clear k1 k2 k3 k4 k5 k6 k7 hl e1 hm hb2
              go_wp2_with fail
              refine (Hc.out).mono ?_
              rintro e w2 ⟨rfl, hk2, M, q1, q2, q3⟩
              have hst2 := Hk.out w2 M q1 q2 q3
              clear q1 q2 q3 Hc Hk
              go_wp2
              go_roundw
              case rel => exact ⟨b, b + 2 * q, hbn, by omega, Lib.hid rfl, rfl, by go_num, hkp.trans hk2, hst2⟩
              case measure => simp [intOf]; omega
            · have d3 : decide ((b : Int) ≤ (n : Int)) = false := decide_eq_false (by omega)
              by_cases hmn : m < n
              · have d4 : decide ((m : Int) < (n : Int)) = true := decide_eq_true (by omega)
                obtain ⟨X2, X, Y, k1, k2, k3, k4, k5, k6, k7⟩ := hst
                have hl := k7.len
                simp only [List.length_append] at hl
                obtain ⟨l1, s1⟩ : X.length = q ∧ Srt lt X := by
                  rcases k3.two with rfl | h | ⟨c1, c2, X', rfl, l1, l2, _, _, _⟩
                  · simp at hl; omega
                  · exact h
                  · simp at hl; omega
                have e1 : X2 ++ (X ++ Y) = X2 ++ X ++ Y ++ [] := by simp
                rw [e1] at k6 k7
                have Hc := Lib.hid (Hsym.out (n - a) cap n a m n X2 X Y [] wr (Nat.le_refl _) hn k1.symm (by omega) (by omega) (by omega) (by omega) s1 k4 (fun y hy => HS.out _ k6 y (by rcases List.mem_append.1 hy with hy | hy <;> simp [hy])) HJr.out k7)
                have Hk := Lib.hid (show ∀ w' M, Srt lt M → SO lt (X ++ Y) M → Rw g cap n w' (X2 ++ M ++ []) → Stb2 lt g cap n xs (2 * q) w' from fun w' M q1 q2 q3 => by
                  have hM := q2.perm.length_eq
                  simp only [List.length_append] at hM
                  refine ⟨X2, M, k2, q1, by omega, k6.trans ?_, by simpa using q3⟩
                  rw [show X2 ++ X ++ Y ++ [] = X2 ++ (X ++ Y) by simp]
                  exact (SO.refl X2).append q2)
                clear k1 k2 k3 k4 k5 k6 k7 hl e1 hm hb2
                go_wp2_with fail
                refine (Hc.out).mono ?_
                rintro e w2 ⟨rfl, hk2, M, q1, q2, q3⟩
                have hst2 := Hk.out w2 M q1 q2 q3
                clear q1 q2 q3 Hc Hk
                go_wp2
                go_roundw
                case rel => exact ⟨2 * q, by omega, by omega, by go_num, hkp.trans hk2, hst2⟩
                case measure => simp [intOf]; omega
              · have d4 : decide ((m : Int) < (n : Int)) = false := decide_eq_false (by omega)
                have hst2 := hst.end_ (by omega) (by omega)
                clear hst hm hb2
                go_wp2
                go_roundw
                case rel => exact ⟨2 * q, by omega, by omega, by go_num, hkp, hst2⟩
                case measure => simp [intOf]; omega
        · have d2 : decide ((q : Int) < (n : Int)) = false := decide_eq_false (by omega)
          obtain ⟨M, q1, q2, q3⟩ := hsq.fin (by omega)
          have hfin : ∃ M, Srt lt M ∧ SO lt xs M ∧ Rw g cap n wr M := ⟨M, q1, q2, q3⟩
          clear q1 q2 q3 hsq
          go_wp2
          (try simp only [Exit.inBlock, Exit.then])
          refine bodyPost_end (results_none rfl _ _ _) rfl ?_
          exact ⟨rfl, hkq, hfin⟩

set_option maxRecDepth 100000 in
set_option maxHeartbeats 1600000 in
theorem sortStable_any (C : CmpC g lt S J fv) (hw : Wk lt) (cap n : Nat) (xs : List (RUnit × GUnit)) (w : World) (hn : n ≤ 1048576) (hS : ∀ y ∈ xs, S y) (hJ : J w) (hrow : Rw g cap n w xs) :
    Calls Try.prog 45 #[.slice (some ⟨g, 0, none⟩) n cap, fv] w fun e w' => e = .returned (.tuple #[]) ∧ Kp g w w' ∧ ∃ M, Srt lt M ∧ SO lt xs M ∧ Rw g cap n w' M := by
  have Hc := Lib.hid (stable_any C hw cap n xs w hn hS hJ hrow)
  clear C hw hS hJ hrow
  go_enter Try.func45, Try.ntmps45
  go_wp2_with fail
  refine (Hc.out).mono ?_
  rintro e w2 ⟨rfl, hk2, hM⟩
  go_wp2
  (try simp only [Exit.inBlock, Exit.then])
  refine bodyPost_end (results_none rfl _ _ _) rfl ?_
  exact ⟨rfl, hk2, hM⟩
end

end Go.Proofs.Ythjlnpcanccmkaa
