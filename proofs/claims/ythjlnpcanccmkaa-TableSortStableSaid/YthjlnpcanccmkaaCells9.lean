/- many, cell, ContainsFunc over cells: the small tests of a table. -/
import Derived.Test.YthjlnpcanccmkaaBig9
namespace Go.Proofs.Ythjlnpcanccmkaa
open Go.RowKit

def GUnit.kids : GUnit → List GUnit | .mk _ _ _ _ _ _ _ k => k
def GUnit.kind : GUnit → Int | .mk _ _ _ k _ _ _ _ => k
def GUnit.words : GUnit → List GWord | .mk _ _ _ _ _ _ l _ => l
def manyB (n : Int) : Bool := decide (1 ≤ n) && decide (n ≤ 64)
def cellOk (u : GUnit) : Bool := decide (u.kind = 6) && decide (u.kids.length = 0)

set_option maxRecDepth 100000 in
set_option maxHeartbeats 400000 in
theorem many_any (n : Int) (w : World) : Calls Try.prog 40 #[.int .i64 n] w fun e w' => e = .returned (.bool (manyB n)) ∧ w = w' := by
  by_cases h1 : 1 ≤ n
  · by_cases h2 : n ≤ 64
    · have e1 : manyB n = true := by simp [manyB, h1, h2]
      rw [e1]
      have d1 : decide (n ≥ 1) = true := decide_eq_true h1
      have d2 : decide (n ≤ 64) = true := decide_eq_true h2
      clear h1 h2 e1
      go_enter Try.func40, Try.ntmps40
      go_wp2
      go_ret
      exact ⟨rfl, rfl⟩
    · have e1 : manyB n = false := by simp [manyB, h1, h2]
      rw [e1]
      have d1 : decide (n ≥ 1) = true := decide_eq_true h1
      have d2 : decide (n ≤ 64) = false := decide_eq_false h2
      clear h1 h2 e1
      go_enter Try.func40, Try.ntmps40
      go_wp2
      go_ret
      exact ⟨rfl, rfl⟩
  · have e1 : manyB n = false := by simp [manyB, h1]
    rw [e1]
    have d1 : decide (n ≥ 1) = false := decide_eq_false h1
    clear h1 e1
    go_enter Try.func40, Try.ntmps40
    go_wp2
    go_ret
    exact ⟨rfl, rfl⟩

set_option maxRecDepth 100000 in
set_option maxHeartbeats 800000 in
theorem cell_any (u : GUnit) (r : RUnit) (w : World) (hr : Reads w u r) : Calls Try.prog 43 #[.agg r.cells.toArray] w fun e w' => e = .returned (.bool (cellOk u)) ∧ Ext w w' := by
  obtain ⟨a, i, n, kd, lb, hl, wl, kids⟩ := u
  rw [Reads] at hr
  obtain ⟨⟨-, -, -, hk, -⟩, -, -, hkn, -⟩ := hr
  obtain ⟨ra, ri, rn, rk, rl, hdA, hn, hc, wA, wn, wc, kA, kn, kc⟩ := r
  dsimp only at hk hkn
  simp only [RUnit.cells]
  subst hk hkn
  by_cases h1 : rk = 6
  · by_cases h2 : kids.length = 0
    · have e1 : cellOk (.mk a i n rk lb hl wl kids) = true := by simp [cellOk, GUnit.kind, GUnit.kids, h1, h2]
      rw [e1]
      have d1 : (rk == 6) = true := by simp [h1]
      have d2 : ((kids.length : Int) == 0) = true := by simp [h2]
      clear h1 h2 e1
      go_enter Try.func43, Try.ntmps43
      go_wp2
      go_ret
      exact ⟨rfl, (Ext.refl _).alloc _⟩
    · have e1 : cellOk (.mk a i n rk lb hl wl kids) = false := by simp [cellOk, GUnit.kind, GUnit.kids, h1]; intro h; exact h2 (by simp [h])
      rw [e1]
      have d1 : (rk == 6) = true := by simp [h1]
      have d2 : ((kids.length : Int) == 0) = false := beq_eq_false_iff_ne.2 (by omega)
      clear h1 h2 e1
      go_enter Try.func43, Try.ntmps43
      go_wp2
      go_ret
      exact ⟨rfl, (Ext.refl _).alloc _⟩
  · have e1 : cellOk (.mk a i n rk lb hl wl kids) = false := by simp [cellOk, GUnit.kind, h1]
    rw [e1]
    have d1 : (rk == 6) = false := beq_eq_false_iff_ne.2 h1
    clear h1 e1
    go_enter Try.func43, Try.ntmps43
    go_wp2
    go_ret
    exact ⟨rfl, (Ext.refl _).alloc _⟩

set_option maxRecDepth 100000 in
set_option maxHeartbeats 800000 in
theorem odd_any (u : GUnit) (r : RUnit) (w : World) (hr : Reads w u r) : Calls Try.prog 42 #[.agg r.cells.toArray] w fun e w' => e = .returned (.bool (!cellOk u)) ∧ Ext w w' := by
  have hx : Ext w (w.alloc (.cells r.cells.toArray 27)) := (Ext.refl w).alloc _
  have hc := cell_any u r _ (Reads.ext hx _ _ hr)
  obtain ⟨b, hb⟩ : ∃ b, cellOk u = b := ⟨_, rfl⟩
  rw [hb] at hc ⊢
  have Hc := Lib.hid hc
  simp only [RUnit.cells] at Hc hx ⊢
  clear hb hc hr
  go_enter Try.func42, Try.ntmps42
  go_wp2_with fail
  refine (Hc.out).mono ?_
  rintro e w2 ⟨rfl, hx2⟩
  go_wp2
  go_ret
  exact ⟨rfl, hx.trans hx2⟩

set_option maxRecDepth 100000 in
set_option maxHeartbeats 1600000 in
theorem idxOdd_any (A : Option Addr) (c : Nat) (l : List RUnit) (us : List GUnit) (w : World) (hs : Sl unitEl w A l) (hall : ReadsAll w us l) (hn : us.length ≤ 9223372036854775807) :
    Calls Try.prog 56 #[.slice A l.length c, .func (.func 42) #[] #[]] w fun e w' => ∃ z : Int, e = .returned (.int .i64 z) ∧ decide (z ≥ 0) = !(us.all cellOk) ∧ Ext w w' := by
  have hlen := ReadsAll.length hall
  have Hall := Lib.hid hall
  have Hlen := Lib.hid hlen
  have hnl : l.length ≤ 9223372036854775807 := by omega
  clear hall hlen
  go_enter Try.func56, Try.ntmps56
  go_wp2
  go_loopw [8] (fun i wr => ∃ k : Nat, k ≤ l.length ∧ i = .int .i64 k ∧ Hid ((us.take k).all cellOk = true) ∧ Ext w wr) (fun i _ => l.length - (intOf i).toNat)
  case atStart => exact ⟨0, Nat.zero_le _, rfl, Lib.hid (by simp), Ext.refl _⟩
  case round =>
    obtain ⟨k, hk, rfl, Hk, hext⟩ := hrel
    by_cases hlt : k < l.length
    · have hltu : k < us.length := by have := Hlen.out; omega
      obtain ⟨b, off, rfl, hb, u0, u1, u2, u3, u4, u5, u6, u7⟩ := unitAt (hs.ext hext) hlt
      have ho := odd_any us[k] l[k] wr (Reads.ext hext _ _ (ReadsAll.get Hall.out k hltu hlt))
      have Htk := Lib.hid (all_take_succ cellOk us k hltu)
      obtain ⟨q, hq⟩ : ∃ q, l[k] = q := ⟨_, rfl⟩
      rw [hq] at u0 u1 u2 u3 u4 u5 u6 u7 ho
      obtain ⟨bb, hbb⟩ : ∃ bb, cellOk us[k] = bb := ⟨_, rfl⟩
      rw [hbb] at ho
      have Ho := Lib.hid ho
      have Hbb := Lib.hid hbb
      clear ho hq hbb
      cases bb with
      | true =>
        go_wp2_with fail
        refine (Ho.out).mono ?_
        rintro e w2 ⟨rfl, hx2⟩
        go_wp2
        go_roundw
        case rel => exact ⟨k + 1, by omega, by go_num, Lib.hid (by rw [Htk.out, Hk.out, Hbb.out]; rfl), hext.trans hx2⟩
        case measure => simp [intOf]; omega
      | false =>
        have Hf := Lib.hid (all_false_of hltu Hbb.out)
        go_wp2_with fail
        refine (Ho.out).mono ?_
        rintro e w2 ⟨rfl, hx2⟩
        go_wp2
        go_ret
        exact ⟨k, rfl, by rw [Hf.out]; simp, hext.trans hx2⟩
    · have hkl : k = l.length := by omega
      have h3 := Hk.out
      rw [List.take_of_length_le (by have := Hlen.out; omega)] at h3
      have H3 := Lib.hid h3
      clear h3 hkl
      go_wp2
      go_ret
      exact ⟨-1, rfl, by rw [H3.out]; rfl, hext⟩

set_option maxRecDepth 100000 in
set_option maxHeartbeats 800000 in
theorem hasOdd_any (A : Option Addr) (c : Nat) (l : List RUnit) (us : List GUnit) (w : World) (hs : Sl unitEl w A l) (hall : ReadsAll w us l) (hn : us.length ≤ 9223372036854775807) :
    Calls Try.prog 41 #[.slice A l.length c, .func (.func 42) #[] #[]] w fun e w' => e = .returned (.bool (!(us.all cellOk))) ∧ Ext w w' := by
  have hi := idxOdd_any A c l us w hs hall hn
  obtain ⟨bb, hbb⟩ : ∃ bb, (!(us.all cellOk)) = bb := ⟨_, rfl⟩
  simp only [hbb] at hi
  rw [hbb]
  have Hi := Lib.hid hi
  clear hi hbb hall hs
  go_enter Try.func41, Try.ntmps41
  go_wp2_with fail
  refine (Hi.out).mono ?_
  rintro e w2 ⟨z, rfl, hz, hx2⟩
  go_wp2
  go_ret
  exact ⟨rfl, hx2⟩

end Go.Proofs.Ythjlnpcanccmkaa
