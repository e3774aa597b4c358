/- The laws' own helpers of chapter 10: count, called, has: the walks. -/
import Derived.Test.YtiacmahfjcolaaaDoorPlainB10
import Derived.Test.YtiacmahfjcolaaaDoorNumber10
namespace Go.Proofs.YtiacmahfjcolaaaDoor
open Go.RowKit

theorem preL_take (us : List GUnit) (k : Nat) : (preL (us.take k)).length ≤ (preL us).length := by
  have h : preL us = preL (us.take k) ++ preL (us.drop k) := by
    have : ∀ a b : List GUnit, preL (a ++ b) = preL a ++ preL b := by
      intro a b
      induction a with
      | nil => rfl
      | cons x r ih => rw [List.cons_append, preL, preL, ih, List.append_assoc]
    rw [← this, List.take_append_drop]
  rw [h, List.length_append]
  omega
mutual
theorem countF_lt : ∀ u : GUnit, countF u + 1 ≤ (preF u).length
  | .mk a i n k l hd wd ks => by
    have := countL_le ks
    rw [countF, preF, List.length_cons]
    omega
theorem countL_le : ∀ us : List GUnit, countL us ≤ (preL us).length
  | [] => by rw [countL]; exact Nat.zero_le _
  | u :: r => by
    have h1 := countF_lt u
    have h2 := countL_le r
    rw [countL, preL, List.length_append]
    split <;> omega
end
theorem countL_append (a b : List GUnit) : countL (a ++ b) = countL a + countL b := by
  induction a with
  | nil => simp [countL]
  | cons x r ih =>
    rw [List.cons_append, countL, countL, ih]
    omega
theorem countL_take {l : List GUnit} {k : Nat} (h : k < l.length) : countL (l.take (k + 1)) = countL (l.take k) + (if l[k].kind = 7 then 1 else 0) + countF l[k] := by
  rw [List.take_succ_eq_append_getElem h, countL_append, countL, countL]
  omega
theorem preF_kid {us : List GUnit} (k : Nat) (h : k < us.length) : (preF us[k]).length ≤ (preL us).length := by
  have := preL_take us (k + 1)
  rw [List.take_succ_eq_append_getElem h] at this
  have h2 : ∀ a b : List GUnit, preL (a ++ b) = preL a ++ preL b := by
    intro a b
    induction a with
    | nil => rfl
    | cons x r ih => rw [List.cons_append, preL, preL, ih, List.append_assoc]
  rw [h2, preL, preL, List.length_append, List.append_nil] at this
  omega

def CountAt (N : Nat) : Prop := ∀ (u : GUnit) (r : RUnit) (w : World), SizeOf.sizeOf u ≤ N → Reads w u r → (preF u).length ≤ 1000 →
    Calls Tryd.prog 31 #[.agg r.cells.toArray] w fun e w' => e = .returned (.int .i64 (countF u : Nat)) ∧ Ext w w'
set_option maxRecDepth 100000 in
set_option maxHeartbeats 1600000 in
theorem count_step (N : Nat) (ih : CountAt N) : CountAt (N + 1) := by
  intro u r w hN hr hf
  obtain ⟨a, i, n, kd, lb, hd, wd, kids⟩ := u
  rw [Reads] at hr
  obtain ⟨-, -, -, hkn, hkc, rs, hrs, hall⟩ := hr
  have hrl := ReadsAll.length hall
  have hbx := fun w' he => boxUnit (w' := w') r (w := w) he
  obtain ⟨ra, ri, rn, rk, rl, hdA, hn, hc, wA, wn, wc, kA, kn, kc⟩ := r
  dsimp only at hkn hkc hrs hall
  simp only [RUnit.cells] at hbx ⊢
  rw [preF, List.length_cons] at hf
  obtain ⟨R, hR⟩ : ∃ R, countF (GUnit.mk a i n kd lb hd wd kids) = R := ⟨_, rfl⟩
  have HR : Hid (countL kids = R) := Lib.hid (by rw [← hR, countF])
  rw [hR]
  rw [← hrl] at hkn
  subst hkn
  have he1 : Ext w (w.alloc (.cells #[.int .i64 ra, .int .i64 ri, .int .i64 rn, .int .i64 rk, .string rl, .slice hdA hn hc, .slice wA wn wc, .slice kA rs.length kc] 27)) := (Ext.refl w).alloc _
  have Hbx := Lib.hid (fun w' he => (hbx w' he).2.2.2.2.2.2.2.2)
  have Hall := Lib.hid hall
  have Hl : Hid (kids.length = rs.length) := Lib.hid hrl.symm
  have Hih := Lib.hid ih
  have hkb : kids.length ≤ 1000 := by
    have : ∀ us : List GUnit, us.length ≤ (preL us).length := by
      intro us
      induction us with
      | nil => exact Nat.le_refl _
      | cons u r ih =>
        have h1 := countF_lt u
        rw [preL, List.length_append, List.length_cons]
        omega
    have := this kids
    omega
  have Hfk := Lib.hid (show ∀ k, ∀ h : k < kids.length, (preF kids[k]).length ≤ 1000 from fun k h => by have := preF_kid k h; omega)
  have Hct := Lib.hid (show ∀ k, countL (kids.take k) ≤ 1000 from fun k => by have := preL_take kids k; have := countL_le (kids.take k); omega)
  have Hsub := Lib.hid (show ∀ k, ∀ h : k < kids.length, SizeOf.sizeOf kids[k] ≤ N from fun k h => by
    have a1 := List.sizeOf_lt_of_mem (List.getElem_mem h)
    simp at hN
    omega)
  clear hbx hR hrl hall hkc ih hN hf
  go_enter Tryd.func31, Tryd.ntmps31
  go_wp2
  obtain ⟨wb, hwb⟩ : ∃ wb, w.alloc (.cells #[.int .i64 ra, .int .i64 ri, .int .i64 rn, .int .i64 rk, .string rl, .slice hdA hn hc, .slice wA wn wc, .slice kA rs.length kc] 27) = wb := ⟨_, rfl⟩
  rw [hwb] at Hbx he1 ⊢
  clear hwb
  go_loopw [3, 4] (fun vn vi wr => ∃ k c : Nat, k ≤ kids.length ∧ vi = .int .i64 (k : Nat) ∧ vn = .int .i64 (c : Nat) ∧ Hid (countL (kids.take k) = c) ∧ Ext wb wr) (fun _ vi _ => kids.length - (intOf vi).toNat)
  case atStart => exact ⟨0, 0, Nat.zero_le _, rfl, rfl, Lib.hid (by rw [List.take_zero, countL]), Ext.refl _⟩
  case round =>
    obtain ⟨k, c, hk, rfl, rfl, Hc, hext⟩ := hrel
    have hlr := Hl.out
    have hcell := Hbx.out _ hext
    have hxw := he1.trans hext
    have hc1 : c ≤ 1000 := by have := Hct.out k; rw [Hc.out] at this; exact this
    by_cases hlt : k < kids.length
    · have hltr : k < rs.length := by omega
      have hrd := ReadsAll.get Hall.out k hlt hltr
      have hrec := Hih.out kids[k] rs[k] wr (Hsub.out k hlt) (Reads.ext hxw _ _ hrd) (Hfk.out k hlt)
      have hkd := (reads_kl hrd).1
      have hct := countL_take hlt
      rw [Hc.out, ← hkd] at hct
      have hc2 := Hct.out (k + 1)
      obtain ⟨d, hd⟩ : ∃ d, countF kids[k] = d := ⟨_, rfl⟩
      rw [hd] at hrec hct
      rw [hct] at hc2
      obtain ⟨b, off, rfl, hb, u0, u1, u2, u3, u4, u5, u6, u7⟩ := unitAt (hrs.ext hxw) hltr
      obtain ⟨q, hq⟩ : ∃ q, rs[k] = q := ⟨_, rfl⟩
      rw [hq] at u0 u1 u2 u3 u4 u5 u6 u7 hrec hct hc2
      simp only [RUnit.cells] at hrec
      have Hrec := Lib.hid hrec
      have d1 : decide ((k : Int) < (rs.length : Int)) = true := decide_eq_true (by omega)
      clear hrec hq hlr hrd hkd hd
      obtain ⟨qk, hqk⟩ : ∃ qk, q.kind = qk := ⟨_, rfl⟩
      rw [hqk] at u3 Hrec hct hc2
      clear hqk
      by_cases h7 : qk = 7
      · rw [if_pos h7] at hct hc2
        subst h7
        have HctN := Lib.hid hct
        clear hct
        go_wp2_with fail
        refine (Hrec.out).mono ?_
        rintro e w2 ⟨rfl, hx2⟩
        go_wp2
        go_roundw
        case rel => exact ⟨k + 1, c + 1 + d, by omega, by go_num, by go_num, HctN, hext.trans hx2⟩
        case measure => simp [intOf]; omega
      · rw [if_neg h7] at hct hc2
        have d2 : (qk == 7) = false := by simp [h7]
        have HctN := Lib.hid hct
        clear hct h7
        go_wp2_with fail
        refine (Hrec.out).mono ?_
        rintro e w2 ⟨rfl, hx2⟩
        go_wp2
        go_roundw
        case rel => exact ⟨k + 1, c + d, by omega, by go_num, by go_num, HctN, hext.trans hx2⟩
        case measure => simp [intOf]; omega
    · have hge : ¬ k < rs.length := by omega
      have d1 : decide ((k : Int) < (rs.length : Int)) = false := decide_eq_false (by omega)
      have hkl : k = kids.length := by omega
      have HR2 := Lib.hid (show c = R by have := Hc.out; rw [hkl, List.take_length, HR.out] at this; exact this.symm)
      clear hkl hlr
      go_wp2
      go_ret
      exact ⟨ret_int (by rw [HR2.out]), hxw⟩
theorem count_all : ∀ N, CountAt N
  | 0 => by
    intro u r w h
    cases u
    simp at h
  | N + 1 => count_step N (count_all N)
theorem count_any (u : GUnit) (r : RUnit) (w : World) (hr : Reads w u r) (hf : (preF u).length ≤ 1000) :
    Calls Tryd.prog 31 #[.agg r.cells.toArray] w fun e w' => e = .returned (.int .i64 (countF u : Nat)) ∧ Ext w w' := count_all _ u r w (Nat.le_refl _) hr hf

set_option maxRecDepth 100000 in
set_option maxHeartbeats 1600000 in
theorem called_any (u : GUnit) (r : RUnit) (s : ByteArray) (w : World) (hr : Reads w u r) (hln : u.kids.length ≤ 9223372036854775807) :
    Calls Tryd.prog 30 #[.agg r.cells.toArray, .string s] w fun e w' => e = .returned (.int .i64 (calledF s u.kids : Nat)) ∧ Ext w w' := by
  obtain ⟨a, i, n, kd, lb, hd, wd, kids⟩ := u
  rw [Reads] at hr
  obtain ⟨-, -, -, hkn, hkc, rs, hrs, hall⟩ := hr
  have hrl := ReadsAll.length hall
  have hbx := fun w' he => boxUnit (w' := w') r (w := w) he
  obtain ⟨ra, ri, rn, rk, rl, hdA, hn, hc, wA, wn, wc, kA, kn, kc⟩ := r
  dsimp only at hkn hkc hrs hall
  simp only [RUnit.cells] at hbx ⊢
  simp only [GUnit.kids] at hln ⊢
  obtain ⟨R, hR⟩ : ∃ R, calledF s kids = R := ⟨_, rfl⟩
  have HR : Hid (0 + calledF s (kids.drop 0) = R) := Lib.hid (by rw [Nat.zero_add, List.drop_zero]; exact hR)
  rw [hR]
  rw [← hrl] at hkn
  subst hkn
  have he1 : Ext w (w.alloc (.cells #[.int .i64 ra, .int .i64 ri, .int .i64 rn, .int .i64 rk, .string rl, .slice hdA hn hc, .slice wA wn wc, .slice kA rs.length kc] 27)) := (Ext.refl w).alloc _
  have Hbx := Lib.hid hbx
  have Hall := Lib.hid hall
  have Hl : Hid (kids.length = rs.length) := Lib.hid hrl.symm
  clear hbx hR hrl hall hkc
  go_enter Tryd.func30, Tryd.ntmps30
  go_wp2
  obtain ⟨wb, hwb⟩ : ∃ wb, w.alloc (.cells #[.int .i64 ra, .int .i64 ri, .int .i64 rn, .int .i64 rk, .string rl, .slice hdA hn hc, .slice wA wn wc, .slice kA rs.length kc] 27) = wb := ⟨_, rfl⟩
  rw [hwb] at Hbx he1 ⊢
  clear hwb
  have hcell := (Hbx.out wb (Ext.refl _)).2.2.2.2.2.2.2.2
  have hrs2 := hrs.ext he1
  clear hrs Hbx
  go_loopw [5] (fun vk wr => ∃ k : Nat, k ≤ kids.length ∧ vk = .int .i64 (k : Nat) ∧ Hid (k + calledF s (kids.drop k) = R) ∧ wr = wb) (fun vk _ => kids.length - (intOf vk).toNat)
  case atStart => exact ⟨0, Nat.zero_le _, rfl, HR, rfl⟩
  case round =>
    obtain ⟨k, hk, rfl, Hk, rfl⟩ := hrel
    have hlr := Hl.out
    by_cases hlt : k < kids.length
    · have hltr : k < rs.length := by omega
      have hk2 := Hk.out
      have hrd := ReadsAll.get Hall.out k hlt hltr
      obtain ⟨hkd, hlb⟩ := reads_kl hrd
      rw [List.drop_eq_getElem_cons hlt, calledF, ← hkd, ← hlb] at hk2
      obtain ⟨b, off, rfl, hb, -, -, -, u3, u4, -, -, -⟩ := unitAt hrs2 hltr
      obtain ⟨q, hq⟩ : ∃ q, rs[k] = q := ⟨_, rfl⟩
      rw [hq] at u3 u4 hk2
      obtain ⟨qk, hqk⟩ : ∃ qk, q.kind = qk := ⟨_, rfl⟩
      obtain ⟨ql, hql⟩ : ∃ ql, q.label = ql := ⟨_, rfl⟩
      rw [hqk] at u3 hk2
      rw [hql] at u4 hk2
      have d1 : decide ((k : Int) < (rs.length : Int)) = true := decide_eq_true (by omega)
      clear hq hqk hql hrd hkd hlb hlr
      by_cases h7 : qk = 7
      · subst h7
        by_cases hs : ql = s
        · rw [if_pos (by simp [hs])] at hk2
          have d2 : (ql.toList == s.toList) = true := by rw [beq_bytes]; simp [hs]
          have d3 : (ql.toList != s.toList) = false := by unfold bne; rw [d2]; rfl
          have HK2 := Lib.hid hk2
          clear hk2 hs
          go_wp2
          go_ret
          exact ⟨ret_int (by have := HK2.out; omega), he1⟩
        · rw [if_neg (by simp [hs])] at hk2
          have d2 : (ql.toList == s.toList) = false := by rw [beq_bytes]; simp [hs]
          have d3 : (ql.toList != s.toList) = true := by unfold bne; rw [d2]; rfl
          have HK2 := Lib.hid (show k + 1 + calledF s (kids.drop (k + 1)) = R by omega)
          clear hk2 hs
          go_wp2
          go_roundw
          case rel => exact ⟨k + 1, by omega, by go_num, HK2, trivial⟩
          case measure => simp [intOf]; omega
      · rw [if_neg (by simp [h7])] at hk2
        have d2 : (qk == 7) = false := by simp [h7]
        have d3 : (qk != 7) = true := by simp [h7]
        have HK2 := Lib.hid (show k + 1 + calledF s (kids.drop (k + 1)) = R by omega)
        clear hk2 h7
        go_wp2
        go_roundw
        case rel => exact ⟨k + 1, by omega, by go_num, HK2, trivial⟩
        case measure => simp [intOf]; omega
    · have hk2 := Hk.out
      rw [List.drop_eq_nil_of_le (by omega), calledF] at hk2
      have HK2 := Lib.hid hk2
      have hge : ¬ k < rs.length := by omega
      have d1 : decide ((k : Int) < (rs.length : Int)) = false := decide_eq_false (by omega)
      clear hk2 hlr
      go_wp2
      go_ret
      exact ⟨ret_int (by have := HK2.out; omega), he1⟩

set_option maxRecDepth 100000 in
set_option maxHeartbeats 1600000 in
theorem has_one (A : Option Addr) (c : Nat) (x : GFind) (w : World) (hl : Sl findEl w A [x]) :
    Calls Tryd.prog 29 #[.slice A 1 c, .int .i64 x.why, .agg #[.int .i64 x.a, .int .i64 x.i, .int .i64 x.n], .string x.text] w fun e w' => e = .returned (.bool true) ∧ Ext w w' := by
  obtain ⟨b, off, rfl, hb, hcs⟩ := hl.at_ (k := 0) (by simp)
  have c0 := hcs 0 _ rfl
  have c1 := hcs 1 _ rfl
  have c2 := hcs 2 _ rfl
  have c3 := hcs 3 _ rfl
  have c4 := hcs 4 _ rfl
  have c5 := hcs 5 _ rfl
  simp only [List.getElem_cons_zero, Nat.zero_mul, Nat.add_zero] at c0 c1 c2 c3 c4 c5
  have he1 : Ext w (w.alloc (.cells #[.int .i64 x.a, .int .i64 x.i, .int .i64 x.n] 23)) := (Ext.refl w).alloc _
  clear hcs hl
  go_enter Tryd.func29, Tryd.ntmps29
  go_wp2
  go_quiet (fail)
  go_wp2
  go_ret
  exact ⟨rfl, he1.drewN _⟩

end Go.Proofs.YtiacmahfjcolaaaDoor
