/- short, words, Few on trees: whether a tree has few units and all its rows are short. -/
import Derived.Test.YtkbmocgjbhmioaaSize
namespace Go.Proofs.Ytkbmocgjbhmioaa
open Go.RowKit

set_option maxRecDepth 100000 in
set_option maxHeartbeats 400000 in
theorem short6_any (A : Option Addr) (c : Nat) (l : List GWord) (w : World) (hs : Sl wordEl w A l) (hn : l.length ≤ 9223372036854775807) :
    Calls Try.prog 63 #[.slice A l.length c] w fun e w' => e = .returned (.bool (shortB l)) ∧ w = w' := by
  go_enter Try.func63, Try.ntmps63
  go_wp2
  go_loop [3] (fun i => ∃ k : Nat, k ≤ l.length ∧ i = .int .i64 k ∧ Hid ((l.take k).all (fun s => decide (s.t.size ≤ 100)) = true)) (fun i => l.length - (intOf i).toNat)
  case atStart => exact ⟨0, Nat.zero_le _, rfl, rfl⟩
  case round =>
    obtain ⟨k, hk, rfl, Hall⟩ := hrel
    by_cases hlt : k < l.length
    · obtain ⟨b, off, rfl, hb, hc, _, _, _⟩ := wordAt hs hlt
      obtain ⟨s, hsk⟩ : ∃ s, l[k].t = s := ⟨_, rfl⟩
      rw [hsk] at hc
      have Hs := Lib.hid hsk
      clear hsk
      by_cases h1 : s.size ≤ 100
      · go_wp2
        go_round
        case rel => exact ⟨k + 1, by omega, by go_num, by unfold Hid; rw [all_take_succ _ _ _ hlt, Hall.out, Hs.out]; simpa using h1⟩
        case measure => simp [intOf]; omega
      · go_wp2
        go_ret
        refine ⟨ret_bool ?_, rfl⟩
        unfold shortB
        rw [all_false_of hlt (by rw [Hs.out]; simp; omega)]
        rfl
    · have hkl : k = l.length := by omega
      have ha := Hall.out
      rw [hkl, List.take_length] at ha
      have Ha := Lib.hid ha
      clear hkl ha
      go_wp2
      go_ret
      refine ⟨ret_bool ?_, rfl⟩
      unfold shortB
      rw [Ha.out, Bool.true_and]
      simp
      omega

mutual
/-- a property at every unit of a tree -/
def AllU (p : GUnit → Prop) : GUnit → Prop
  | .mk a i n k l hd wd kids => p (.mk a i n k l hd wd kids) ∧ AllUs p kids
def AllUs (p : GUnit → Prop) : List GUnit → Prop
  | [] => True
  | u :: us => AllU p u ∧ AllUs p us
end
theorem AllUs.get {p : GUnit → Prop} : ∀ {us : List GUnit}, AllUs p us → ∀ (k : Nat) (h : k < us.length), AllU p us[k]
  | u :: us, h, 0, _ => by rw [AllUs] at h; exact h.1
  | u :: us, h, k + 1, hk => by
    rw [AllUs] at h
    exact AllUs.get h.2 k (by simpa using hk)
mutual
theorem AllU.mono {p q : GUnit → Prop} (hpq : ∀ u, p u → q u) : ∀ u, AllU p u → AllU q u
  | .mk a i n k l hd wd kids, h => by
    rw [AllU] at h ⊢
    exact ⟨hpq _ h.1, AllUs.mono hpq kids h.2⟩
theorem AllUs.mono {p q : GUnit → Prop} (hpq : ∀ u, p u → q u) : ∀ us, AllUs p us → AllUs q us
  | [], _ => by rw [AllUs]; trivial
  | u :: us, h => by
    rw [AllUs] at h ⊢
    exact ⟨AllU.mono hpq u h.1, AllUs.mono hpq us h.2⟩
end
mutual
theorem AllU.and {p q : GUnit → Prop} : ∀ u, AllU p u → AllU q u → AllU (fun u => p u ∧ q u) u
  | .mk a i n k l hd wd kids, h, h' => by
    rw [AllU] at h h' ⊢
    exact ⟨⟨h.1, h'.1⟩, AllUs.and kids h.2 h'.2⟩
theorem AllUs.and {p q : GUnit → Prop} : ∀ us, AllUs p us → AllUs q us → AllUs (fun u => p u ∧ q u) us
  | [], _, _ => by rw [AllUs]; trivial
  | u :: us, h, h' => by
    rw [AllUs] at h h' ⊢
    exact ⟨AllU.and u h.1 h'.1, AllUs.and us h.2 h'.2⟩
end

/-- the lists of a unit have at most so many elements -/
def lensLe (m q : Nat) : GUnit → Prop
  | .mk _ _ _ _ _ hd wd kids => hd.length ≤ m ∧ wd.length ≤ m ∧ kids.length ≤ q

mutual
def wordsF : GUnit → Bool
  | .mk _ _ _ _ lb hd wd kids => decide (lb.size ≤ 30) && shortB hd && shortB wd && wordsL kids
def wordsL : List GUnit → Bool
  | [] => true
  | u :: us => wordsF u && wordsL us
end

set_option maxRecDepth 100000 in
set_option maxHeartbeats 1600000 in
theorem words_any : ∀ (N : Nat) (u : GUnit) (r : RUnit) (w : World), SizeOf.sizeOf u ≤ N → Reads w u r → AllU (lensLe 9223372036854775807 9223372036854775807) u →
    Calls Try.prog 45 #[.agg r.cells.toArray] w fun e w' => e = .returned (.bool (wordsF u)) ∧ Ext w w'
  | 0, .mk _ _ _ _ _ _ _ _, _, _, h, _, _ => by simp at h
  | N + 1, .mk a i n kd lb hd wd kids, r, w, hN, hr, hA => by
    rw [Reads] at hr
    rw [AllU] at hA
    obtain ⟨⟨hl1, hl2, hl3⟩, hA⟩ := hA
    obtain ⟨⟨-, -, -, -, hlb⟩, ⟨hhn, hhc, hhs⟩, ⟨hwn, hwc, hws⟩, hkn, hkc, rs, hrs, hall⟩ := hr
    obtain ⟨ra, ri, rn, rk, rl, hdA, hn, hc, wA, wn, wc, kA, kn, kc⟩ := r
    dsimp only at hkn hkc hrs hall hlb hhn hhc hhs hwn hwc hws
    simp only [RUnit.cells]
    subst hkn hlb hhn hwn
    have hlen := ReadsAll.length hall
    have Hall := Lib.hid hall
    have HA := Lib.hid hA
    clear hall hA
    have he1 : Ext w (w.alloc (.cells #[.int .i64 ra, .int .i64 ri, .int .i64 rn, .int .i64 rk, .string rl, .slice hdA hd.length hc, .slice wA wd.length wc, .slice kA kids.length kc] 41)) := (Ext.refl w).alloc _
    have Hh := short6_any hdA hc hd _ (hhs.ext he1) hl1
    have Hw := short6_any wA wc wd _ (hws.ext he1) hl2
    by_cases h1 : rl.size ≤ 30
    case neg =>
      have e1 : wordsF (.mk a i n kd rl hd wd kids) = false := by rw [wordsF, decide_eq_false h1, Bool.false_and, Bool.false_and, Bool.false_and]
      rw [e1]
      have e2 : decide ((rl.size : Int) > 30) = true := decide_eq_true (by omega)
      clear e1 h1
      go_enter Try.func45, Try.ntmps45
      go_wp2
      go_ret
      exact ⟨rfl, he1⟩
    have e2 : decide ((rl.size : Int) > 30) = false := decide_eq_false (by omega)
    by_cases h2 : shortB hd = true
    case neg =>
      have h2 : shortB hd = false := by simpa using h2
      have e1 : wordsF (.mk a i n kd rl hd wd kids) = false := by rw [wordsF, h2, Bool.and_false, Bool.false_and, Bool.false_and]
      rw [e1]
      rw [h2] at Hh
      have HH := Lib.hid Hh
      clear e1 h1 h2 Hh Hw
      go_enter Try.func45, Try.ntmps45
      go_wp2_with (go_at_call 63; refine (HH.out).mono ?_; rintro e w' ⟨rfl, rfl⟩)
      go_ret
      exact ⟨rfl, he1⟩
    by_cases h3 : shortB wd = true
    case neg =>
      have h3 : shortB wd = false := by simpa using h3
      have e1 : wordsF (.mk a i n kd rl hd wd kids) = false := by rw [wordsF, h3, Bool.and_false, Bool.false_and]
      rw [e1]
      rw [h2] at Hh
      rw [h3] at Hw
      have HH := Lib.hid Hh
      have HW := Lib.hid Hw
      clear e1 h1 h2 h3 Hh Hw
      go_enter Try.func45, Try.ntmps45
      go_wp2_with fail
      refine (HH.out).mono ?_
      rintro e w' ⟨rfl, rfl⟩
      go_wp2_with fail
      refine (HW.out).mono ?_
      rintro e w' ⟨rfl, rfl⟩
      go_wp2
      go_ret
      exact ⟨rfl, he1⟩
    have e1 : wordsF (.mk a i n kd rl hd wd kids) = wordsL kids := by rw [wordsF, h2, h3, decide_eq_true h1]; simp
    rw [e1]
    obtain ⟨R, hR⟩ : ∃ R, wordsL kids = R := ⟨_, rfl⟩
    rw [hR]
    have HR := Lib.hid hR
    rw [h2] at Hh
    rw [h3] at Hw
    have HH := Lib.hid Hh
    have HW := Lib.hid Hw
    clear e1 hR h1 h2 h3 Hh Hw
    go_enter Try.func45, Try.ntmps45
    go_wp2_with fail
    refine (HH.out).mono ?_
    rintro e w' ⟨rfl, rfl⟩
    go_wp2_with fail
    refine (HW.out).mono ?_
    rintro e w' ⟨rfl, rfl⟩
    go_wp2
    have Hbx := Lib.hid (show ∀ w', Ext (w.alloc (.cells #[.int .i64 ra, .int .i64 ri, .int .i64 rn, .int .i64 rk, .string rl, .slice hdA hd.length hc, .slice wA wd.length wc, .slice kA kids.length kc] 41)) w' → w'.cell? ⟨w.heap.size, 7, none⟩ = some (.slice kA kids.length kc) from fun w' he => (boxUnit ⟨ra, ri, rn, rk, rl, hdA, hd.length, hc, wA, wd.length, wc, kA, kids.length, kc⟩ he).2.2.2.2.2.2.2.2)
    clear HH HW
    obtain ⟨wb, hwb⟩ : ∃ wb, w.alloc (.cells #[.int .i64 ra, .int .i64 ri, .int .i64 rn, .int .i64 rk, .string rl, .slice hdA hd.length hc, .slice wA wd.length wc, .slice kA kids.length kc] 41) = wb := ⟨_, rfl⟩
    rw [hwb] at Hbx he1 ⊢
    clear hwb
    go_loopw [3] (fun i wr => ∃ (k : Nat), k ≤ kids.length ∧ i = .int .i64 k ∧ Hid (wordsL (kids.drop k) = R) ∧ Ext wb wr) (fun i _ => kids.length - (intOf i).toNat)
    case atStart => exact ⟨0, Nat.zero_le _, rfl, HR, Ext.refl _⟩
    case round =>
      obtain ⟨k, hk, rfl, Hn, hext⟩ := hrel
      have hcell := Hbx.out _ hext
      by_cases hlt : k < kids.length
      · have hdk : kids.drop k = kids[k] :: kids.drop (k + 1) := List.drop_eq_getElem_cons hlt
        have h3 := Hn.out
        rw [hdk, wordsL] at h3
        have c1 : decide ((k : Int) < (kids.length : Int)) = true := decide_eq_true (by omega)
        have hltr : k < rs.length := by omega
        obtain ⟨b, off, rfl, hb, u0, u1, u2, u3, u4, u5, u6, u7⟩ := unitAt ((hrs.ext he1).ext hext) hltr
        have hsub : SizeOf.sizeOf kids[k] ≤ N := by
          have a1 := List.sizeOf_lt_of_mem (List.getElem_mem hlt)
          simp at hN
          omega
        have hrd := Reads.ext (he1.trans hext) _ _ (ReadsAll.get Hall.out k hlt hltr)
        have hrec := words_any N kids[k] rs[k] wr hsub hrd (HA.out.get k hlt)
        obtain ⟨q, hq⟩ : ∃ q, rs[k] = q := ⟨_, rfl⟩
        rw [hq] at u0 u1 u2 u3 u4 u5 u6 u7 hrec
        by_cases hz : wordsF kids[k] = true
        · rw [hz, Bool.true_and] at h3
          rw [hz] at hrec
          have H3 := Lib.hid h3
          have Hrec := Lib.hid hrec
          clear h3 hdk hsub hrd hrec hq hz Hn
          go_wp2_with fail
          refine (Hrec.out).mono ?_
          rintro e w2 ⟨rfl, hext2⟩
          go_wp2
          go_roundw
          case rel => exact ⟨k + 1, by omega, by go_num, H3, hext.trans hext2⟩
          case measure => simp [intOf]; omega
        · have hz : wordsF kids[k] = false := by simpa using hz
          rw [hz, Bool.false_and] at h3
          rw [hz] at hrec
          have H3 := Lib.hid h3
          have Hrec := Lib.hid hrec
          clear h3 hdk hsub hrd hrec hq hz Hn
          go_wp2_with fail
          refine (Hrec.out).mono ?_
          rintro e w2 ⟨rfl, hext2⟩
          go_wp2
          go_ret
          exact ⟨by rw [← H3.out]; rfl, he1.trans (hext.trans hext2)⟩
      · have hkl : k = kids.length := by omega
        have h3 := Hn.out
        rw [List.drop_eq_nil_of_le (by omega), wordsL] at h3
        have H3 := Lib.hid h3
        have c1 : decide ((k : Int) < (kids.length : Int)) = false := decide_eq_false (by omega)
        clear h3 hkl Hn
        go_wp2
        go_ret
        exact ⟨by rw [← H3.out]; rfl, he1.trans hext⟩

def fewF (u : GUnit) (most : Int) : Bool := decide (sizeF u 0 most ≤ most) && wordsF u

set_option maxRecDepth 100000 in
set_option maxHeartbeats 1600000 in
theorem few6_any (u : GUnit) (r : RUnit) (most : Int) (w : World) (hr : Reads w u r) (hA : AllU (lensLe 9223372036854775807 9223372036854775807) u) (h0 : 0 ≤ most) (h1 : most ≤ 1000) :
    Calls Try.prog 22 #[.agg r.cells.toArray, .int .i64 most] w fun e w' => e = .returned (.bool (fewF u most)) ∧ Ext w w' := by
  have Hs := Lib.hid (fun w' (he : Ext w w') => size_any _ u r 0 most w' (Nat.le_refl _) (Reads.ext he u r hr) (by omega) (by omega) h0 h1)
  have Hw := Lib.hid (fun w' (he : Ext w w') => words_any _ u r w' (Nat.le_refl _) (Reads.ext he u r hr) hA)
  have he1 : Ext w (w.alloc (.cells r.cells.toArray 41)) := (Ext.refl w).alloc _
  have hb := fun w' he => boxUnit (w' := w') r (w := w) he
  obtain ⟨ra, ri, rn, rk, rl, hdA, hn, hc, wA, wn, wc, kA, kn, kc⟩ := r
  simp only [RUnit.cells] at Hs Hw he1 hb ⊢
  have Hb := Lib.hid hb
  clear hb
  obtain ⟨z, hz⟩ : ∃ z, sizeF u 0 most = z := ⟨_, rfl⟩
  rw [hz] at Hs
  have Hz := Lib.hid hz
  clear hz hr hA
  by_cases hle : z ≤ most
  · have e1 : fewF u most = wordsF u := by rw [fewF, Hz.out, decide_eq_true hle, Bool.true_and]
    rw [e1]
    have e2 : decide (z ≤ most) = true := decide_eq_true hle
    clear e1 hle
    go_enter Try.func22, Try.ntmps22
    go_wp2_with fail
    refine (Hs.out _ he1).mono ?_
    rintro e w2 ⟨rfl, hext2⟩
    obtain ⟨-, u0, u1, u2, u3, u4, u5, u6, u7⟩ := Hb.out _ hext2
    go_wp2_with fail
    refine (Hw.out _ (he1.trans hext2)).mono ?_
    rintro e w3 ⟨rfl, hext3⟩
    go_wp2
    go_ret
    exact ⟨rfl, he1.trans (hext2.trans hext3)⟩
  · have e1 : fewF u most = false := by rw [fewF, Hz.out, decide_eq_false hle, Bool.false_and]
    rw [e1]
    have e2 : decide (z ≤ most) = false := decide_eq_false hle
    clear e1 hle
    go_enter Try.func22, Try.ntmps22
    go_wp2_with fail
    refine (Hs.out _ he1).mono ?_
    rintro e w2 ⟨rfl, hext2⟩
    go_wp2
    go_ret
    exact ⟨rfl, he1.trans hext2⟩

end Go.Proofs.Ytkbmocgjbhmioaa
