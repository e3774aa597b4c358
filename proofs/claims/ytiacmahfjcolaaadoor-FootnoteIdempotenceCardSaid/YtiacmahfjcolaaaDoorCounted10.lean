/- counted: the law's own test that the anchors are 1, 2 and so on: the walk. -/
import Derived.Test.YtiacmahfjcolaaaDoorPlainB10
import Derived.Test.YtiacmahfjcolaaaDoorNumber10
namespace Go.Proofs.YtiacmahfjcolaaaDoor
open Go.RowKit

theorem dec_num (n : Nat) : numB (Lib.decDigits n) = true := by
  unfold numB
  rw [List.all_eq_true]
  intro c hc
  have := decD_dig n n (Nat.le_refl _) c hc
  unfold isDig at this
  exact this
theorem num_snoc (l : List UInt8) (c : UInt8) : numB (l ++ [c]) = (numB l && (decide (48 ≤ c.toNat) && decide (c.toNat ≤ 57))) := by simp [numB]
theorem num_takes {l : List UInt8} (h : numB l = true) (k : Nat) : numB (l.take k) = true := by
  unfold numB at h ⊢
  rw [List.all_eq_true] at h ⊢
  exact fun x hx => h x (List.mem_of_mem_take hx)
theorem bytes_snoc (s : ByteArray) (k : Nat) (h : k < s.size) : s.data.toList.take (k + 1) = s.data.toList.take k ++ [s[k]] := by
  rw [List.take_succ_eq_append_getElem (by simpa using h)]; rfl
theorem pow_le8 {k : Nat} (h : k ≤ 8) : 10 ^ k ≤ 100000000 := Nat.le_trans (Nat.pow_le_pow_right (by omega) h) (by omega)

def CountedAt (N : Nat) : Prop := ∀ (u : GUnit) (r : RUnit) (w : World), SizeOf.sizeOf u ≤ N → Reads w u r → OkT u → AllU CntU u →
    Calls Tryd.prog 27 #[.agg r.cells.toArray] w fun e w' => e = .returned (.bool true) ∧ Ext w w'
set_option maxRecDepth 100000 in
set_option maxHeartbeats 3200000 in
theorem counted_step (N : Nat) (ih : CountedAt N) : CountedAt (N + 1) := by
  intro u r w hN hr hok hcn
  have hshu := hok.short
  have hkok := fun k h => hok.kid k h
  have hkb := hshu.2.2.1
  have hanc := fun w' (he : Ext w w') => anchors_any u r w' (Reads.ext he _ _ hr) hshu.1 (by have := hshu.2.1; omega)
  have hcu : CntU u := by
    cases u
    rw [AllU] at hcn
    exact hcn.1
  have hlen : u.anchs.length ≤ 1000 := by
    have := anchL_len u.words
    have h2 := hshu.2.1
    unfold GUnit.anchs
    omega
  have hck := fun k (h : k < u.kids.length) => (show AllU CntU u.kids[k] from by
    cases u
    rw [AllU] at hcn
    exact hcn.2.get k h)
  obtain ⟨L, hL⟩ : ∃ L, u.anchs = L := ⟨_, rfl⟩
  have hcu' : ∀ (j : Nat) (h : j < L.length), L[j] = decB (j + 1) := by subst hL; exact hcu
  rw [hL] at hanc hlen
  obtain ⟨a, i, n, kd, lb, hd, wd, kids⟩ := u
  rw [Reads] at hr
  obtain ⟨-, -, -, hkn, hkc, rs, hrs, hall⟩ := hr
  have hrl := ReadsAll.length hall
  have hbx := fun w' he => boxUnit (w' := w') r (w := w) he
  obtain ⟨ra, ri, rn, rk, rl, hdA, hn, hc, wA, wn, wc, kA, kn, kc⟩ := r
  dsimp only at hkn hkc hrs hall
  simp only [GUnit.kids] at hkok hck hkb
  simp only [RUnit.cells] at hbx hanc ⊢
  rw [← hrl] at hkn
  subst hkn
  have he1 : Ext w (w.alloc (.cells #[.int .i64 ra, .int .i64 ri, .int .i64 rn, .int .i64 rk, .string rl, .slice hdA hn hc, .slice wA wn wc, .slice kA rs.length kc] 27)) := (Ext.refl w).alloc _
  obtain ⟨wb, hwb⟩ : ∃ wb, w.alloc (.cells #[.int .i64 ra, .int .i64 ri, .int .i64 rn, .int .i64 rk, .string rl, .slice hdA hn hc, .slice wA wn wc, .slice kA rs.length kc] 27) = wb := ⟨_, rfl⟩
  rw [hwb] at hbx he1
  have Hwb := Lib.hid hwb
  have Hanc := Lib.hid (hanc wb he1)
  have hbz := hbx wb (Ext.refl _)
  have Hbx := Lib.hid (fun w' he => (hbx w' he).2.2.2.2.2.2.2.2)
  have Hall := Lib.hid hall
  have Hl : Hid (kids.length = rs.length) := Lib.hid hrl.symm
  have Hih := Lib.hid ih
  have Hcu := Lib.hid hcu'
  have Hkok := Lib.hid hkok
  have Hck := Lib.hid hck
  have Hsub := Lib.hid (show ∀ k, ∀ h : k < kids.length, SizeOf.sizeOf kids[k] ≤ N from fun k h => by
    have a1 := List.sizeOf_lt_of_mem (List.getElem_mem h)
    simp at hN
    omega)
  obtain ⟨-, u0, u1, u2, u3, u4, u5, u6, u7⟩ := hbz
  clear hbx hrl hall hkc ih hN hok hcn hshu hkok hanc hcu hcu' hck hL hwb
  go_enter Tryd.func27, Tryd.ntmps27
  go_wp2_with fail
  rw [Hwb.out]
  go_wp2_with fail
  refine (Hanc.out).mono ?_
  rintro e wa ⟨vL, rfl, hoL, hxL⟩
  obtain ⟨AL, cL, rfl, hcL, hsL⟩ := hoL.form
  clear hoL u0 u1 u2 u3 u4 u5 u6 u7
  go_wp2
  go_loopw [4] (fun vi wr => ∃ k : Nat, k ≤ L.length ∧ vi = .int .i64 (k : Nat) ∧ Ext wa wr) (fun vi _ => L.length - (intOf vi).toNat)
  case atStart => exact ⟨0, Nat.zero_le _, rfl, Ext.refl _⟩
  case round =>
    obtain ⟨k, hk, rfl, hext⟩ := hrel
    by_cases hlt : k < L.length
    · obtain ⟨b, off, rfl, hb, hcS⟩ := strAt (hsL.ext hext) hlt
      have hdec := Hcu.out k hlt
      obtain ⟨s, hs⟩ : ∃ s, L[k] = s := ⟨_, rfl⟩
      rw [hs] at hcS hdec
      have hsz := decB_le (n := k + 1) (by omega)
      have hnum := dec_num (k + 1)
      have hval := decD_val (k + 1) (k + 1) (Nat.le_refl _)
      have hdl : Lib.decDigits (k + 1) = s.data.toList := by rw [hdec]; rfl
      rw [← hdec] at hsz
      rw [hdl] at hnum hval
      have Hnum := Lib.hid hnum
      have Hval := Lib.hid hval
      have hsm : s.size ≤ maxLen := by unfold maxLen; omega
      have d1 : decide ((k : Int) < (L.length : Int)) = true := decide_eq_true (by omega)
      clear hs hdec hnum hval hdl
      go_wp2
      go_loop [5, 6] (fun n i => ∃ j v : Nat, j ≤ s.size ∧ i = .int .i64 j ∧ Hid (valN (s.data.toList.take j) = v) ∧ n = .int .i64 (v : Nat)) (fun _ i => s.size - (intOf i).toNat)
      case atStart => exact ⟨0, 0, Nat.zero_le _, rfl, Lib.hid (by simp [valN]), rfl⟩
      case round =>
        obtain ⟨j, v, hj, rfl, Hv, rfl⟩ := hrel
        have hlen : (s.data.toList.take j).length = j := by simp; omega
        have hv := valN_lt j _ hlen (num_takes Hnum.out j)
        have hp := pow_le8 (k := j) (by omega)
        rw [Hv.out] at hv
        have hv1 : v ≤ 100000000 := by omega
        by_cases hjt : j < s.size
        · have hts := bytes_snoc s j hjt
          have hb2 := num_snoc (s.data.toList.take j) s[j]
          have hvs := valN_snoc (s.data.toList.take j) s[j]
          have hn2 := num_takes Hnum.out (j + 1)
          rw [← hts] at hb2 hvs
          rw [hb2] at hn2
          simp only [Bool.and_eq_true, decide_eq_true_eq] at hn2
          obtain ⟨-, hd1, hd2⟩ := hn2
          rw [Hv.out] at hvs
          have Hvs := Lib.hid hvs
          clear hts hb2 hvs hv hp hlen
          have d2 : decide ((j : Int) < (s.size : Int)) = true := decide_eq_true (by omega)
          go_wp2
          go_round
          case rel => exact ⟨j + 1, 10 * v + (s[j].toNat - 48), by omega, by go_num, Hvs, int_eq_of (by omega)⟩
          case measure => simp [intOf]; omega
        · have hjs : j = s.size := by omega
          have hvk : v = k + 1 := by
            have h1 := Hv.out
            rw [hjs, List.take_of_length_le (by simp), Hval.out] at h1
            exact h1.symm
          subst hvk
          have d2 : decide ((j : Int) < (s.size : Int)) = false := decide_eq_false (by omega)
          have d3 : (((k + 1 : Nat) : Int) != (k : Int) + 1) = false := by simp
          clear hjs hv hp hlen
          go_wp2
          go_roundw
          case rel => exact ⟨k + 1, by omega, by go_num, hext⟩
          case measure => simp [intOf]; omega
    · have d1 : decide ((k : Int) < (L.length : Int)) = false := decide_eq_false (by omega)
      obtain ⟨wc, rfl⟩ : ∃ wc, wc = wr := ⟨_, rfl⟩
      have hxc : Ext wb wc := hxL.trans hext
      clear hext hsL
      go_wp2
      clear d1 hlt
      go_loopw [7] (fun vi wr => ∃ k : Nat, k ≤ kids.length ∧ vi = .int .i64 (k : Nat) ∧ Ext wb wr) (fun vi _ => kids.length - (intOf vi).toNat)
      case atStart => exact ⟨0, Nat.zero_le _, rfl, hxc⟩
      case round =>
        obtain ⟨k, hk, rfl, hext⟩ := hrel
        have hlr := Hl.out
        have hcell := Hbx.out _ hext
        have hxw := he1.trans hext
        by_cases hlt : k < kids.length
        · have hltr : k < rs.length := by omega
          have hrd := ReadsAll.get Hall.out k hlt hltr
          have hrec := Hih.out kids[k] rs[k] wr (Hsub.out k hlt) (Reads.ext hxw _ _ hrd) (Hkok.out k hlt) (Hck.out k hlt)
          obtain ⟨b, off, rfl, hb, u0, u1, u2, u3, u4, u5, u6, u7⟩ := unitAt (hrs.ext hxw) hltr
          obtain ⟨q, hq⟩ : ∃ q, rs[k] = q := ⟨_, rfl⟩
          rw [hq] at u0 u1 u2 u3 u4 u5 u6 u7 hrec
          simp only [RUnit.cells] at hrec
          have Hrec := Lib.hid hrec
          have d1 : decide ((k : Int) < (rs.length : Int)) = true := decide_eq_true (by omega)
          clear hrec hq hlr hrd
          go_wp2_with fail
          refine (Hrec.out).mono ?_
          rintro e w2 ⟨rfl, hx2⟩
          go_wp2
          go_roundw
          case rel => exact ⟨k + 1, by omega, by go_num, hext.trans hx2⟩
          case measure => simp [intOf]; omega
        · have hge : ¬ k < rs.length := by omega
          have d1 : decide ((k : Int) < (rs.length : Int)) = false := decide_eq_false (by omega)
          clear hlr
          go_wp2
          go_ret
          exact ⟨rfl, hxw⟩
theorem counted_all : ∀ N, CountedAt N
  | 0 => by
    intro u r w h
    cases u
    simp at h
  | N + 1 => counted_step N (counted_all N)
theorem counted_any (u : GUnit) (r : RUnit) (w : World) (hr : Reads w u r) (hok : OkT u) (hc : AllU CntU u) :
    Calls Tryd.prog 27 #[.agg r.cells.toArray] w fun e w' => e = .returned (.bool true) ∧ Ext w w' := counted_all _ u r w (Nat.le_refl _) hr hok hc

end Go.Proofs.YtiacmahfjcolaaaDoor
