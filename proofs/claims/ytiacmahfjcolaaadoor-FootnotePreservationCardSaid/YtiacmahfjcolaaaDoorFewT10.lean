/- short, words, Few on trees: whether a tree has few units and all its rows are short. -/
import Derived.Test.YtiacmahfjcolaaaDoorSize
import Derived.Test.YtiacmahfjcolaaaDoorSame10
namespace Go.Proofs.YtiacmahfjcolaaaDoor
open Go.RowKit

def shortB (l : List GWord) : Bool := (l.all fun x => decide (x.t.size ≤ 100)) && decide (l.length ≤ 300)
theorem shortB_len {l : List GWord} (h : shortB l = true) : l.length ≤ 300 := by
  simp only [shortB, Bool.and_eq_true, decide_eq_true_eq] at h
  exact h.2
theorem shortB_size {l : List GWord} (h : shortB l = true) : ∀ x ∈ l, x.t.size ≤ 100 := by
  simp only [shortB, Bool.and_eq_true, List.all_eq_true, decide_eq_true_eq] at h
  exact h.1

set_option maxRecDepth 100000 in
set_option maxHeartbeats 400000 in
theorem short6_any (A : Option Addr) (c : Nat) (l : List GWord) (w : World) (hs : Sl wordEl w A l) (hn : l.length ≤ 9223372036854775807) :
    Calls Tryd.prog 49 #[.slice A l.length c] w fun e w' => e = .returned (.bool (shortB l)) ∧ w = w' := by
  go_enter Tryd.func49, Tryd.ntmps49
  go_wp2
  go_loop [3] (fun i => ∃ k : Nat, k ≤ l.length ∧ i = .int .i64 k ∧ Hid ((l.take k).all (fun s => decide (s.t.size ≤ 100)) = true)) (fun i => l.length - (intOf i).toNat)
  case atStart => exact ⟨0, Nat.zero_le _, rfl, rfl⟩
  case round =>
    obtain ⟨k, hk, rfl, Hall⟩ := hrel
    by_cases hlt : k < l.length
    · obtain ⟨b, off, rfl, hb, hc, _, _, _⟩ := wordAt hs hlt
      obtain ⟨s, hsk⟩ : ∃ s, l[k].t = s := ⟨_, rfl⟩
      rw [hsk] at hc
      have Hs := Lib.hid hsk
      clear hsk
      by_cases h1 : s.size ≤ 100
      · go_wp2
        go_round
        case rel => exact ⟨k + 1, by omega, by go_num, by unfold Hid; rw [all_take_succ _ _ _ hlt, Hall.out, Hs.out]; simpa using h1⟩
        case measure => simp [intOf]; omega
      · go_wp2
        go_ret
        refine ⟨ret_bool ?_, rfl⟩
        unfold shortB
        rw [all_false_of hlt (by rw [Hs.out]; simp; omega)]
        rfl
    · have hkl : k = l.length := by omega
      have ha := Hall.out
      rw [hkl, List.take_length] at ha
      have Ha := Lib.hid ha
      clear hkl ha
      go_wp2
      go_ret
      refine ⟨ret_bool ?_, rfl⟩
      unfold shortB
      rw [Ha.out, Bool.true_and]
      simp
      omega

mutual
def wordsF : GUnit → Bool
  | .mk _ _ _ _ lb hd wd kids => decide (lb.size ≤ 30) && shortB hd && shortB wd && wordsL kids
def wordsL : List GUnit → Bool
  | [] => true
  | u :: us => wordsF u && wordsL us
end

set_option maxRecDepth 100000 in
set_option maxHeartbeats 1600000 in
theorem words_any : ∀ (N : Nat) (u : GUnit) (r : RUnit) (w : World), SizeOf.sizeOf u ≤ N → Reads w u r → AllU (lensLe 9223372036854775807 9223372036854775807) u →
    Calls Tryd.prog 34 #[.agg r.cells.toArray] w fun e w' => e = .returned (.bool (wordsF u)) ∧ Ext w w'
  | 0, .mk _ _ _ _ _ _ _ _, _, _, h, _, _ => by simp at h
  | N + 1, .mk a i n kd lb hd wd kids, r, w, hN, hr, hA => by
    rw [Reads] at hr
    rw [AllU] at hA
    obtain ⟨⟨hl1, hl2, hl3⟩, hA⟩ := hA
    obtain ⟨⟨-, -, -, -, hlb⟩, ⟨hhn, hhc, hhs⟩, ⟨hwn, hwc, hws⟩, hkn, hkc, rs, hrs, hall⟩ := hr
    obtain ⟨ra, ri, rn, rk, rl, hdA, hn, hc, wA, wn, wc, kA, kn, kc⟩ := r
    dsimp only at hkn hkc hrs hall hlb hhn hhc hhs hwn hwc hws
    simp only [RUnit.cells]
    subst hkn hlb hhn hwn
    have hlen := ReadsAll.length hall
    have Hall := Lib.hid hall
    have HA := Lib.hid hA
    clear hall hA
    have he1 : Ext w (w.alloc (.cells #[.int .i64 ra, .int .i64 ri, .int .i64 rn, .int .i64 rk, .string rl, .slice hdA hd.length hc, .slice wA wd.length wc, .slice kA kids.length kc] 27)) := (Ext.refl w).alloc _
    have Hh := short6_any hdA hc hd _ (hhs.ext he1) hl1
    have Hw := short6_any wA wc wd _ (hws.ext he1) hl2
    by_cases h1 : rl.size ≤ 30
    case neg =>
      have e1 : wordsF (.mk a i n kd rl hd wd kids) = false := by rw [wordsF, decide_eq_false h1, Bool.false_and, Bool.false_and, Bool.false_and]
      rw [e1]
      have e2 : decide ((rl.size : Int) > 30) = true := decide_eq_true (by omega)
      clear e1 h1
      go_enter Tryd.func34, Tryd.ntmps34
      go_wp2
      go_ret
      exact ⟨rfl, he1⟩
    have e2 : decide ((rl.size : Int) > 30) = false := decide_eq_false (by omega)
    by_cases h2 : shortB hd = true
    case neg =>
      have h2 : shortB hd = false := by simpa using h2
      have e1 : wordsF (.mk a i n kd rl hd wd kids) = false := by rw [wordsF, h2, Bool.and_false, Bool.false_and, Bool.false_and]
      rw [e1]
      rw [h2] at Hh
      have HH := Lib.hid Hh
      clear e1 h1 h2 Hh Hw
      go_enter Tryd.func34, Tryd.ntmps34
      go_wp2_with (go_at_call 49; refine (HH.out).mono ?_; rintro e w' ⟨rfl, rfl⟩)
      go_ret
      exact ⟨rfl, he1⟩
    by_cases h3 : shortB wd = true
    case neg =>
      have h3 : shortB wd = false := by simpa using h3
      have e1 : wordsF (.mk a i n kd rl hd wd kids) = false := by rw [wordsF, h3, Bool.and_false, Bool.false_and]
      rw [e1]
      rw [h2] at Hh
      rw [h3] at Hw
      have HH := Lib.hid Hh
      have HW := Lib.hid Hw
      clear e1 h1 h2 h3 Hh Hw
      go_enter Tryd.func34, Tryd.ntmps34
      go_wp2_with fail
      refine (HH.out).mono ?_
      rintro e w' ⟨rfl, rfl⟩
      go_wp2_with fail
      refine (HW.out).mono ?_
      rintro e w' ⟨rfl, rfl⟩
      go_wp2
      go_ret
      exact ⟨rfl, he1⟩
    have e1 : wordsF (.mk a i n kd rl hd wd kids) = wordsL kids := by rw [wordsF, h2, h3, decide_eq_true h1]; simp
    rw [e1]
    obtain ⟨R, hR⟩ : ∃ R, wordsL kids = R := ⟨_, rfl⟩
    rw [hR]
    have HR := Lib.hid hR
    rw [h2] at Hh
    rw [h3] at Hw
    have HH := Lib.hid Hh
    have HW := Lib.hid Hw
    clear e1 hR h1 h2 h3 Hh Hw
    go_enter Tryd.func34, Tryd.ntmps34
    go_wp2_with fail
    refine (HH.out).mono ?_
    rintro e w' ⟨rfl, rfl⟩
    go_wp2_with fail
    refine (HW.out).mono ?_
    rintro e w' ⟨rfl, rfl⟩
    go_wp2
    have Hbx := Lib.hid (show ∀ w', Ext (w.alloc (.cells #[.int .i64 ra, .int .i64 ri, .int .i64 rn, .int .i64 rk, .string rl, .slice hdA hd.length hc, .slice wA wd.length wc, .slice kA kids.length kc] 27)) w' → w'.cell? ⟨w.heap.size, 7, none⟩ = some (.slice kA kids.length kc) from fun w' he => (boxUnit ⟨ra, ri, rn, rk, rl, hdA, hd.length, hc, wA, wd.length, wc, kA, kids.length, kc⟩ he).2.2.2.2.2.2.2.2)
    clear HH HW
    obtain ⟨wb, hwb⟩ : ∃ wb, w.alloc (.cells #[.int .i64 ra, .int .i64 ri, .int .i64 rn, .int .i64 rk, .string rl, .slice hdA hd.length hc, .slice wA wd.length wc, .slice kA kids.length kc] 27) = wb := ⟨_, rfl⟩
    rw [hwb] at Hbx he1 ⊢
    clear hwb
    go_loopw [3] (fun i wr => ∃ (k : Nat), k ≤ kids.length ∧ i = .int .i64 k ∧ Hid (wordsL (kids.drop k) = R) ∧ Ext wb wr) (fun i _ => kids.length - (intOf i).toNat)
    case atStart => exact ⟨0, Nat.zero_le _, rfl, HR, Ext.refl _⟩
    case round =>
      obtain ⟨k, hk, rfl, Hn, hext⟩ := hrel
      have hcell := Hbx.out _ hext
      by_cases hlt : k < kids.length
      · have hdk : kids.drop k = kids[k] :: kids.drop (k + 1) := List.drop_eq_getElem_cons hlt
        have h3 := Hn.out
        rw [hdk, wordsL] at h3
        have c1 : decide ((k : Int) < (kids.length : Int)) = true := decide_eq_true (by omega)
        have hltr : k < rs.length := by omega
        obtain ⟨b, off, rfl, hb, u0, u1, u2, u3, u4, u5, u6, u7⟩ := unitAt ((hrs.ext he1).ext hext) hltr
        have hsub : SizeOf.sizeOf kids[k] ≤ N := by
          have a1 := List.sizeOf_lt_of_mem (List.getElem_mem hlt)
          simp at hN
          omega
        have hrd := Reads.ext (he1.trans hext) _ _ (ReadsAll.get Hall.out k hlt hltr)
        have hrec := words_any N kids[k] rs[k] wr hsub hrd (HA.out.get k hlt)
        obtain ⟨q, hq⟩ : ∃ q, rs[k] = q := ⟨_, rfl⟩
        rw [hq] at u0 u1 u2 u3 u4 u5 u6 u7 hrec
        by_cases hz : wordsF kids[k] = true
        · rw [hz, Bool.true_and] at h3
          rw [hz] at hrec
          have H3 := Lib.hid h3
          have Hrec := Lib.hid hrec
          clear h3 hdk hsub hrd hrec hq hz Hn
          go_wp2_with fail
          refine (Hrec.out).mono ?_
          rintro e w2 ⟨rfl, hext2⟩
          go_wp2
          go_roundw
          case rel => exact ⟨k + 1, by omega, by go_num, H3, hext.trans hext2⟩
          case measure => simp [intOf]; omega
        · have hz : wordsF kids[k] = false := by simpa using hz
          rw [hz, Bool.false_and] at h3
          rw [hz] at hrec
          have H3 := Lib.hid h3
          have Hrec := Lib.hid hrec
          clear h3 hdk hsub hrd hrec hq hz Hn
          go_wp2_with fail
          refine (Hrec.out).mono ?_
          rintro e w2 ⟨rfl, hext2⟩
          go_wp2
          go_ret
          exact ⟨by rw [← H3.out]; rfl, he1.trans (hext.trans hext2)⟩
      · have hkl : k = kids.length := by omega
        have h3 := Hn.out
        rw [List.drop_eq_nil_of_le (by omega), wordsL] at h3
        have H3 := Lib.hid h3
        have c1 : decide ((k : Int) < (kids.length : Int)) = false := decide_eq_false (by omega)
        clear h3 hkl Hn
        go_wp2
        go_ret
        exact ⟨by rw [← H3.out]; rfl, he1.trans hext⟩

def fewF (u : GUnit) (most : Int) : Bool := decide (sizeF u 0 most ≤ most) && wordsF u

set_option maxRecDepth 100000 in
set_option maxHeartbeats 1600000 in
theorem few6_any (u : GUnit) (r : RUnit) (most : Int) (w : World) (hr : Reads w u r) (hA : AllU (lensLe 9223372036854775807 9223372036854775807) u) (h0 : 0 ≤ most) (h1 : most ≤ 1000) :
    Calls Tryd.prog 11 #[.agg r.cells.toArray, .int .i64 most] w fun e w' => e = .returned (.bool (fewF u most)) ∧ Ext w w' := by
  have Hs := Lib.hid (fun w' (he : Ext w w') => size_any _ u r 0 most w' (Nat.le_refl _) (Reads.ext he u r hr) (by omega) (by omega) h0 h1)
  have Hw := Lib.hid (fun w' (he : Ext w w') => words_any _ u r w' (Nat.le_refl _) (Reads.ext he u r hr) hA)
  have he1 : Ext w (w.alloc (.cells r.cells.toArray 27)) := (Ext.refl w).alloc _
  have hb := fun w' he => boxUnit (w' := w') r (w := w) he
  obtain ⟨ra, ri, rn, rk, rl, hdA, hn, hc, wA, wn, wc, kA, kn, kc⟩ := r
  simp only [RUnit.cells] at Hs Hw he1 hb ⊢
  have Hb := Lib.hid hb
  clear hb
  obtain ⟨z, hz⟩ : ∃ z, sizeF u 0 most = z := ⟨_, rfl⟩
  rw [hz] at Hs
  have Hz := Lib.hid hz
  clear hz hr hA
  by_cases hle : z ≤ most
  · have e1 : fewF u most = wordsF u := by rw [fewF, Hz.out, decide_eq_true hle, Bool.true_and]
    rw [e1]
    have e2 : decide (z ≤ most) = true := decide_eq_true hle
    clear e1 hle
    go_enter Tryd.func11, Tryd.ntmps11
    go_wp2_with fail
    refine (Hs.out _ he1).mono ?_
    rintro e w2 ⟨rfl, hext2⟩
    obtain ⟨-, u0, u1, u2, u3, u4, u5, u6, u7⟩ := Hb.out _ hext2
    go_wp2_with fail
    refine (Hw.out _ (he1.trans hext2)).mono ?_
    rintro e w3 ⟨rfl, hext3⟩
    go_wp2
    go_ret
    exact ⟨rfl, he1.trans (hext2.trans hext3)⟩
  · have e1 : fewF u most = false := by rw [fewF, Hz.out, decide_eq_false hle, Bool.false_and]
    rw [e1]
    have e2 : decide (z ≤ most) = false := decide_eq_false hle
    clear e1 hle
    go_enter Tryd.func11, Tryd.ntmps11
    go_wp2_with fail
    refine (Hs.out _ he1).mono ?_
    rintro e w2 ⟨rfl, hext2⟩
    go_wp2
    go_ret
    exact ⟨rfl, he1.trans hext2⟩

end Go.Proofs.YtiacmahfjcolaaaDoor
