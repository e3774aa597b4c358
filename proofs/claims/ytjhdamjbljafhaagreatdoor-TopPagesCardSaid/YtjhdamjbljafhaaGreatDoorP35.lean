/- swapRange, rotate: two rows that lie side by side change places. rotate: two rows that lie side by side, of any lengths, change places. -/
import Derived.Test.YtjhdamjbljafhaaGreatDoorP19
namespace Go.Proofs.YtjhdamjbljafhaaGreatDoor
open Go.RowKit
def swapSt {α : Type} (P X Y Z S : List α) (t : Nat) : List α := P ++ Z.take t ++ X.drop t ++ Y ++ X.take t ++ Z.drop t ++ S
set_option maxRecDepth 100000 in
set_option maxHeartbeats 1600000 in
theorem swapRange_any (g cap n pa pb k : Nat) (P X Y Z S : List (RUnit × GUnit)) (fv : Value) (w : World) (hn : n ≤ 1048576) (hXZ : X.length = Z.length) (ha : pa = P.length) (hb : pb = P.length + X.length + Y.length) (hk : k = X.length) (hw : Rw g cap n w (P ++ X ++ Y ++ Z ++ S)) :
    Calls Tryz.prog 193 #[.slice (some ⟨g, 0, none⟩) n cap, .int .i64 (pa : Nat), .int .i64 (pb : Nat), .int .i64 (k : Nat), fv] w fun e w' => e = .returned (.tuple #[]) ∧ Kp g w w' ∧ Rw g cap n w' (P ++ Z ++ Y ++ X ++ S) := by
  have h0 : Rw g cap n w (swapSt P X Y Z S 0) := by unfold swapSt; simpa using hw
  have hlen : pa + k ≤ n ∧ pb + k ≤ n := by
    have := hw.len
    simp at this
    omega
  have hround : ∀ t, t < k → ∃ x z, (swapSt P X Y Z S t)[pa + t]? = some x ∧ (swapSt P X Y Z S t)[pb + t]? = some z ∧ ((swapSt P X Y Z S t).set (pa + t) z).set (pb + t) x = swapSt P X Y Z S (t + 1) := fun t ht => by
    subst ha hb hk
    exact swap_round hXZ ht
  have hend : swapSt P X Y Z S k = P ++ Z ++ Y ++ X ++ S := by
    unfold swapSt
    rw [List.take_of_length_le (by omega), List.drop_of_length_le (by omega), List.take_of_length_le (by omega), List.drop_of_length_le (by omega)]
    simp
  have Hround := Lib.hid hround
  have Hend := Lib.hid hend
  obtain ⟨hl1, hl2⟩ := hlen
  clear hround hend hw ha hb hk hXZ
  go_enter Tryz.func193, Tryz.ntmps193
  go_wp2
  go_loopw [10] (fun vk wr => ∃ t : Nat, t ≤ k ∧ vk = .int .i64 (t : Nat) ∧ Kp g w wr ∧ Rw g cap n wr (swapSt P X Y Z S t)) (fun vk _ => k - (intOf vk).toNat)
  case atStart => exact ⟨0, Nat.zero_le _, rfl, Kp.refl _ _, h0⟩
  case round =>
    obtain ⟨t, ht, rfl, hkp, hrw⟩ := hrel
    by_cases hlt : t < k
    · have d1 : decide ((t : Int) < (k : Int)) = true := decide_eq_true (by omega)
      obtain ⟨x, z, hx, hz, hset⟩ := Hround.out t hlt
      go_wp2_with fail
      refine wp_drawn_store 22 21 [0, 1, 2, 3, 8, 9, 10, 11, 12, 13, 14, 15, 16, 17, 18, 19, 20] (fun i => match i with | 0 => .slice (some ⟨g, 0, none⟩) n cap | 1 => .int .i64 ((pa : Nat) : Int) | 2 => .int .i64 ((t : Nat) : Int) | 3 => .int .i64 ((pa + t : Nat) : Int) | 4 => .slice (some ⟨g, 0, none⟩) n cap | 5 => .int .i64 ((pb : Nat) : Int) | 6 => .int .i64 ((t : Nat) : Int) | 7 => .int .i64 ((pb + t : Nat) : Int) | 8 => .slice (some ⟨g, 0, none⟩) n cap | 9 => .int .i64 ((pb : Nat) : Int) | 10 => .int .i64 ((t : Nat) : Int) | 11 => .int .i64 ((pb + t : Nat) : Int) | 12 => .pointer (some ⟨g, (pb + t) * 8, none⟩) | 13 => .agg (pairEl.E z).toArray | 14 => .slice (some ⟨g, 0, none⟩) n cap | 15 => .int .i64 ((pa : Nat) : Int) | 16 => .int .i64 ((t : Nat) : Int) | 17 => .int .i64 ((pa + t : Nat) : Int) | 18 => .pointer (some ⟨g, (pa + t) * 8, none⟩) | 19 => .agg (pairEl.E x).toArray | 20 => .pointer (some ⟨g, (pa + t) * 8, none⟩) | 21 => undef | _ => undef) (by kernel_rfl) (by kernel_rfl) (by kernel_rfl) (by kernel_rfl) (by decide) (by decide) rfl ?_
      intro W hW
      obtain ⟨W1, hk1, ho1, hs1⟩ := (hrw.ext hW).store (pa + t) (by omega) z
      refine ⟨W1, ?_⟩
      refine ⟨rfl, obl_any (by decide) (fun _ => runs_move (.tmp 0) rfl rfl), ?_⟩
      refine ⟨rfl, obl_any (by decide) (fun _ => runs_move (.tmp 1) rfl rfl), ?_⟩
      refine ⟨rfl, obl_any (by decide) (fun _ => runs_move (.tmp 10) rfl rfl), ?_⟩
      refine ⟨rfl, obl_any (by decide) (fun _ => runs_bin .add _ _ (.tmp 17) (.tmp 18) rfl _ _ rfl rfl (bin_add _ _ _ _ (by omega) (by omega) (by omega))), ?_⟩
      refine ⟨rfl, obl_any (by decide) (fun _ => runs_move (.tmp 0) rfl rfl), ?_⟩
      refine ⟨rfl, obl_any (by decide) (fun _ => runs_move (.tmp 2) rfl rfl), ?_⟩
      refine ⟨rfl, obl_any (by decide) (fun _ => runs_move (.tmp 10) rfl rfl), ?_⟩
      refine ⟨rfl, obl_any (by decide) (fun _ => runs_bin .add _ _ (.tmp 21) (.tmp 22) rfl _ _ rfl rfl (bin_add _ _ _ _ (by omega) (by omega) (by omega))), ?_⟩
      refine ⟨rfl, obl_any (by decide) (fun _ => runs_move (.tmp 0) rfl rfl), ?_⟩
      refine ⟨rfl, obl_any (by decide) (fun _ => runs_move (.tmp 2) rfl rfl), ?_⟩
      refine ⟨rfl, obl_any (by decide) (fun _ => runs_move (.tmp 10) rfl rfl), ?_⟩
      refine ⟨rfl, obl_any (by decide) (fun _ => runs_bin .add _ _ (.tmp 25) (.tmp 26) rfl _ _ rfl rfl (bin_add _ _ _ _ (by omega) (by omega) (by omega))), ?_⟩
      refine ⟨rfl, obl_any (by decide) (fun _ => (runs_index pairEl (.tmp 24) (.tmp 27) rfl n rfl (pb + t) rfl (by omega))), ?_⟩
      refine ⟨rfl, obl_early (by decide) (by decide) (runs_load pairEl rfl (.tmp 28) rfl (pb + t) rfl ((hrw.ext hW).o) _ (hz)), ?_⟩
      refine ⟨rfl, obl_any (by decide) (fun _ => runs_move (.tmp 0) rfl rfl), ?_⟩
      refine ⟨rfl, obl_any (by decide) (fun _ => runs_move (.tmp 1) rfl rfl), ?_⟩
      refine ⟨rfl, obl_any (by decide) (fun _ => runs_move (.tmp 10) rfl rfl), ?_⟩
      refine ⟨rfl, obl_any (by decide) (fun _ => runs_bin .add _ _ (.tmp 31) (.tmp 32) rfl _ _ rfl rfl (bin_add _ _ _ _ (by omega) (by omega) (by omega))), ?_⟩
      refine ⟨rfl, obl_any (by decide) (fun _ => (runs_index pairEl (.tmp 30) (.tmp 33) rfl n rfl (pa + t) rfl (by omega))), ?_⟩
      refine ⟨rfl, obl_early (by decide) (by decide) (runs_load pairEl rfl (.tmp 34) rfl (pa + t) rfl ((hrw.ext hW).o) _ (hx)), ?_⟩
      refine ⟨rfl, obl_any (by decide) (fun _ => (runs_index pairEl (.tmp 16) (.tmp 19) rfl n rfl (pa + t) rfl (by omega))), ?_⟩
      refine ⟨rfl, obl_store rfl (hs1 _ _ (.tmp 36) (.tmp 29) rfl rfl rfl), ?_⟩
      refine OblsSE.nil ?_
      simp only [List.drop_succ_cons, List.drop_zero, putE, setsE, List.set_cons_succ, List.set_cons_zero, Nat.reduceAdd]
      refine wpList_runs rfl (runs_index pairEl (.tmp 20) (.tmp 23) rfl n rfl (pb + t) rfl (by omega)) ?_
      obtain ⟨W2, hk2, ho2, hs2⟩ := ho1.store (pb + t) (by omega) x
      refine wpList_runs rfl (hs2 _ _ (.tmp 37) (.tmp 35) rfl rfl rfl) ?_
      have hrw2 : Rw g cap n W2 (swapSt P X Y Z S (t + 1)) := by rw [← hset]; exact ho2
      have hkp2 : Kp g w W2 := hkp.trans ((Kp.of_ext hW).trans (hk1.trans hk2))
      clear hs1 hs2 hk1 hk2 ho1 ho2 hset hx hz hrw hkp
      go_wp2
      go_roundw
      case rel => exact ⟨t + 1, by omega, by go_num, hkp2, hrw2⟩
      case measure => simp [intOf]; omega
    · have hkt : t = k := by omega
      have d1 : decide ((t : Int) < (k : Int)) = false := decide_eq_false (by omega)
      rw [hkt, Hend.out] at hrw
      clear hkt
      go_wp2
      (try simp only [Exit.inBlock, Exit.then])
      refine bodyPost_end (results_none rfl _ _ _) rfl ?_
      exact ⟨rfl, hkp, hrw⟩
end Go.Proofs.YtjhdamjbljafhaaGreatDoor
namespace Go.Proofs.YtjhdamjbljafhaaGreatDoor
open Go.RowKit
theorem swapRange_int (g cap n : Nat) (za zb zk : Int) (P X Y Z S : List (RUnit × GUnit)) (fv : Value) (w : World) (hn : n ≤ 1048576) (hXZ : X.length = Z.length) (ha : za = (P.length : Nat)) (hb : zb = (P.length + X.length + Y.length : Nat)) (hk : zk = (X.length : Nat)) (hw : Rw g cap n w (P ++ X ++ Y ++ Z ++ S)) :
    Calls Tryz.prog 193 #[.slice (some ⟨g, 0, none⟩) n cap, .int .i64 za, .int .i64 zb, .int .i64 zk, fv] w fun e w' => e = .returned (.tuple #[]) ∧ Kp g w w' ∧ Rw g cap n w' (P ++ Z ++ Y ++ X ++ S) := by
  subst ha hb hk
  exact swapRange_any g cap n _ _ _ P X Y Z S fv w hn hXZ rfl rfl rfl hw
structure RotSt (g cap n m : Nat) (R : List (RUnit × GUnit)) (i j : Nat) (w : World) : Prop where
  ex : ∃ P U V S, U.length = i ∧ V.length = j ∧ P.length + i = m ∧ R = P ++ V ++ U ++ S ∧ Rw g cap n w (P ++ U ++ V ++ S)
set_option maxRecDepth 100000 in
set_option maxHeartbeats 1600000 in
theorem rotate_any (g cap n s m b : Nat) (A U V D : List (RUnit × GUnit)) (fv : Value) (w : World) (hn : n ≤ 1048576) (hs : s = A.length) (hm : m = A.length + U.length) (hb : b = A.length + U.length + V.length) (hU : 0 < U.length) (hV : 0 < V.length) (hw : Rw g cap n w (A ++ U ++ V ++ D)) :
    Calls Tryz.prog 177 #[.slice (some ⟨g, 0, none⟩) n cap, .int .i64 (s : Nat), .int .i64 (m : Nat), .int .i64 (b : Nat), fv] w fun e w' => e = .returned (.tuple #[]) ∧ Kp g w w' ∧ Rw g cap n w' (A ++ V ++ U ++ D) := by
  obtain ⟨R, hR⟩ : ∃ R, A ++ V ++ U ++ D = R := ⟨_, rfl⟩
  rw [hR]
  have hbn : b ≤ n := by have := hw.len; simp at this; omega
  have h0 : RotSt g cap n m R (m - s) (b - m) w := ⟨A, U, V, D, by omega, by omega, by omega, hR.symm, hw⟩
  have hsm : s < m := by omega
  have hmb : m < b := by omega
  clear hs hm hb hU hV hw hR
  have Hswap := Lib.hid swapRange_int
  go_enter Tryz.func177, Tryz.ntmps177
  go_wp2
  go_loopw [10, 11] (fun vi vj wr => ∃ i j : Nat, 0 < i ∧ 0 < j ∧ i ≤ m ∧ m + j ≤ n ∧ vi = .int .i64 (i : Nat) ∧ vj = .int .i64 (j : Nat) ∧ Kp g w wr ∧ RotSt g cap n m R i j wr) (fun vi vj _ => (intOf vi).toNat + (intOf vj).toNat)
  case atStart => exact ⟨m - s, b - m, by omega, by omega, by omega, by omega, by go_num, by go_num, Kp.refl _ _, h0⟩
  case round =>
    obtain ⟨i, j, hi, hj, him, hjn, rfl, rfl, hkp, hst⟩ := hrel
    obtain ⟨P, U, V, S, hUi, hVj, hPm, hRe, hrw⟩ := hst
    by_cases hij : i = j
    · subst hij
      have d1 : ((i : Int) != (i : Int)) = false := by simp
      have hc := Hswap.out g cap n ((m : Int) - (i : Int)) (m : Int) (i : Int) P U [] V S fv wr hn (by omega) (by omega) (by simp; omega) (by omega) (by simpa using hrw)
      have HRe := Lib.hid hRe
      have Hc := Lib.hid hc
      clear hc hRe hrw hUi hVj hPm
      go_wp2_with fail
      refine (Hc.out).mono ?_
      rintro e w' ⟨rfl, hk', hr'⟩
      have hr2 : Rw g cap n w' R := by rw [HRe.out]; simpa using hr'
      clear hr'
      go_wp2
      (try simp only [Exit.inBlock, Exit.then])
      refine bodyPost_end (results_none rfl _ _ _) rfl ?_
      exact ⟨rfl, hkp.trans hk', hr2⟩
    · have d1 : ((i : Int) != (j : Int)) = true := by simp; omega
      have hlt : ¬ i > j → i < j := by omega
      clear hij
      by_cases hgt : i > j
      · have d2 : decide ((i : Int) > (j : Int)) = true := decide_eq_true (by omega)
        have e1 : P ++ U ++ V ++ S = P ++ U.take j ++ U.drop j ++ V ++ S := by simp
        rw [e1] at hrw
        have hc := Hswap.out g cap n ((m : Int) - (i : Int)) (m : Int) (j : Int) P (U.take j) (U.drop j) V S fv wr hn (by simp; omega) (by omega) (by simp; omega) (by simp; omega) hrw
        have HRe := Lib.hid (show R = (P ++ V) ++ U.take j ++ U.drop j ++ S by rw [hRe]; simp)
        have Hlen := Lib.hid (show (U.drop j).length = i - j ∧ (U.take j).length = j ∧ (P ++ V).length + (i - j) = m by simp; omega)
        have Hc := Lib.hid hc
        clear hc hRe hrw hUi hVj hPm e1
        go_wp2_with fail
        refine (Hc.out).mono ?_
        rintro e w' ⟨rfl, hk', hr'⟩
        have hst2 : RotSt g cap n m R (i - j) j w' := ⟨P ++ V, U.drop j, U.take j, S, Hlen.out.1, Hlen.out.2.1, Hlen.out.2.2, HRe.out, hr'⟩
        clear hr'
        go_wp2
        go_roundw
        case rel => exact ⟨i - j, j, by omega, hj, by omega, hjn, by go_num, rfl, hkp.trans hk', hst2⟩
        case measure => simp [intOf]; omega
      · have hlt := hlt hgt
        have d2 : decide ((i : Int) > (j : Int)) = false := decide_eq_false (by omega)
        have e1 : P ++ U ++ V ++ S = P ++ U ++ V.take (j - i) ++ V.drop (j - i) ++ S := by simp
        rw [e1] at hrw
        have hc := Hswap.out g cap n ((m : Int) - (i : Int)) ((m : Int) + (j : Int) - (i : Int)) (i : Int) P U (V.take (j - i)) (V.drop (j - i)) S fv wr hn (by simp; omega) (by omega) (by simp; omega) (by omega) hrw
        have HRe := Lib.hid (show R = P ++ V.take (j - i) ++ V.drop (j - i) ++ (U ++ S) by rw [hRe]; simp)
        have Hlen := Lib.hid (show (V.drop (j - i)).length = i ∧ (V.take (j - i)).length = j - i ∧ P.length + i = m by simp; omega)
        have Hc := Lib.hid hc
        clear hc hRe hrw hUi hVj hPm e1
        go_wp2_with fail
        refine (Hc.out).mono ?_
        rintro e w' ⟨rfl, hk', hr'⟩
        have hst2 : RotSt g cap n m R i (j - i) w' := ⟨P, V.drop (j - i), V.take (j - i), U ++ S, Hlen.out.1, Hlen.out.2.1, Hlen.out.2.2, HRe.out, by simpa using hr'⟩
        clear hr'
        go_wp2
        go_roundw
        case rel => exact ⟨i, j - i, hi, by omega, him, by omega, rfl, by go_num, hkp.trans hk', hst2⟩
        case measure => simp [intOf]; omega
end Go.Proofs.YtjhdamjbljafhaaGreatDoor
