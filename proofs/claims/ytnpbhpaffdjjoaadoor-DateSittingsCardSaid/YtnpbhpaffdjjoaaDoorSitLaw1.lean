/- The law DateSittings. -/
import Derived.Test.YtnpbhpaffdjjoaaDoorSitW2
import Derived.Test.YtnpbhpaffdjjoaaDoorLaw1
namespace Go.Proofs.YtnpbhpaffdjjoaaDoor
open Go.RowKit

set_option maxRecDepth 100000 in
set_option maxHeartbeats 1600000 in
theorem dateSittings_law (A : Option Addr) (c : Nat) (l : List Int) (d k : Int) (w : World) (hs : Sl intEl w A l) (_hc : l.length ≤ c) (hT : Tab w) :
    Calls Tryd.prog 5 #[.slice A l.length c, .int .i64 d, .int .i64 k] w fun e w' => e = .returned (.bool true) ∧ Ext w w' := by
  have Ha := Lib.hid (awake1_any w hT)
  clear hT
  by_cases hbig : l.length > 100
  · have d1 : decide ((l.length : Int) > 100) = true := decide_eq_true (by omega)
    go_enter Tryd.func5, Tryd.ntmps5
    go_wp2_with fail
    refine (Ha.out).mono ?_
    rintro e w1 ⟨rfl, hx1⟩
    go_wp2
    go_ret
    exact ⟨rfl, hx1⟩
  · have d1 : decide ((l.length : Int) > 100) = false := decide_eq_false (by omega)
    have hn : l.length ≤ 9223372036854775807 := by omega
    have hn1 : l.length ≤ 100 := by omega
    have H1 := Lib.hid (fun w' (he : Ext w w') => sitting_any A c l d w' (hs.ext he) hn)
    have H2 := Lib.hid (fun w' (he : Ext w w') => refSitting_any A c l d w' (hs.ext he) hn)
    have H3 := Lib.hid (fun w' (he : Ext w w') => refRises_any A c l w' (hs.ext he) hn)
    obtain ⟨N, hN⟩ : ∃ N, sitN l d = N := ⟨_, rfl⟩
    obtain ⟨O, hO⟩ : ∃ O, sitO l d = O := ⟨_, rfl⟩
    rw [hN, hO] at H1 H2
    clear hN hO hbig
    cases hr : risesB l with
    | false =>
      rw [hr] at H3
      clear hr
      go_enter Tryd.func5, Tryd.ntmps5
      go_wp2_with fail
      refine (Ha.out).mono ?_
      rintro e w1 ⟨rfl, hx1⟩
      go_wp2_with fail
      refine (H1.out _ hx1).mono ?_
      rintro e w2 ⟨rfl, hx2⟩
      go_wp2_with fail
      refine (H2.out _ (hx1.trans hx2)).mono ?_
      rintro e w3 ⟨rfl, hx3⟩
      go_wp2_with fail
      refine (H3.out _ (hx1.trans (hx2.trans hx3))).mono ?_
      rintro e w4 ⟨rfl, hx4⟩
      go_wp2
      go_ret
      exact ⟨rfl, (hx1.trans hx2).trans (hx3.trans hx4)⟩
    | true =>
      rw [hr] at H3
      by_cases hin : 0 ≤ k ∧ k < (l.length : Int)
      · obtain ⟨n, rfl⟩ : ∃ n : Nat, k = n := ⟨k.toNat, by omega⟩
        have hlt : n < l.length := by omega
        obtain ⟨s1, s2⟩ := sit_first hr hlt
        have h4 := fun w' (he : Ext w w') => sitting_any A c l l[n] w' (hs.ext he) hn
        rw [s1, s2] at h4
        obtain ⟨b, off, hA, hb, u0⟩ := intAt hs hlt
        obtain ⟨y, hy⟩ : ∃ y, l[n] = y := ⟨_, rfl⟩
        rw [hy] at h4 u0
        have H4 := Lib.hid h4
        have Hu := Lib.hid (fun w' (he : Ext w w') => (he.cell (p := ⟨b, off + n, none⟩) hb).trans u0)
        have d2 : decide ((n : Int) < 0) = false := decide_eq_false (by omega)
        have d3 : decide ((n : Int) ≥ (l.length : Int)) = false := decide_eq_false (by omega)
        subst hA
        clear h4 hy u0 s1 s2 hin hr
        go_enter Tryd.func5, Tryd.ntmps5
        go_wp2_with fail
        refine (Ha.out).mono ?_
        rintro e w1 ⟨rfl, hx1⟩
        go_wp2_with fail
        refine (H1.out _ hx1).mono ?_
        rintro e w2 ⟨rfl, hx2⟩
        go_wp2_with fail
        refine (H2.out _ (hx1.trans hx2)).mono ?_
        rintro e w3 ⟨rfl, hx3⟩
        go_wp2_with fail
        refine (H3.out _ (hx1.trans (hx2.trans hx3))).mono ?_
        rintro e w4 ⟨rfl, hx4⟩
        have hx := (hx1.trans hx2).trans (hx3.trans hx4)
        have u1 := Hu.out _ hx
        have hb1 := Nat.lt_of_lt_of_le hb hx.size
        go_wp2_with fail
        refine (H4.out _ hx).mono ?_
        rintro e w5 ⟨rfl, hx5⟩
        go_wp2
        go_ret
        exact ⟨rfl, hx.trans hx5⟩
      · clear hr
        by_cases h0 : k < 0
        · have d2 : decide (k < 0) = true := decide_eq_true h0
          clear hin
          go_enter Tryd.func5, Tryd.ntmps5
          go_wp2_with fail
          refine (Ha.out).mono ?_
          rintro e w1 ⟨rfl, hx1⟩
          go_wp2_with fail
          refine (H1.out _ hx1).mono ?_
          rintro e w2 ⟨rfl, hx2⟩
          go_wp2_with fail
          refine (H2.out _ (hx1.trans hx2)).mono ?_
          rintro e w3 ⟨rfl, hx3⟩
          go_wp2_with fail
          refine (H3.out _ (hx1.trans (hx2.trans hx3))).mono ?_
          rintro e w4 ⟨rfl, hx4⟩
          go_wp2
          go_ret
          exact ⟨rfl, (hx1.trans hx2).trans (hx3.trans hx4)⟩
        · have d2 : decide (k < 0) = false := decide_eq_false h0
          have d3 : decide (k ≥ (l.length : Int)) = true := decide_eq_true (by omega)
          clear hin
          go_enter Tryd.func5, Tryd.ntmps5
          go_wp2_with fail
          refine (Ha.out).mono ?_
          rintro e w1 ⟨rfl, hx1⟩
          go_wp2_with fail
          refine (H1.out _ hx1).mono ?_
          rintro e w2 ⟨rfl, hx2⟩
          go_wp2_with fail
          refine (H2.out _ (hx1.trans hx2)).mono ?_
          rintro e w3 ⟨rfl, hx3⟩
          go_wp2_with fail
          refine (H3.out _ (hx1.trans (hx2.trans hx3))).mono ?_
          rintro e w4 ⟨rfl, hx4⟩
          go_wp2
          go_ret
          exact ⟨rfl, (hx1.trans hx2).trans (hx3.trans hx4)⟩

end Go.Proofs.YtnpbhpaffdjjoaaDoor
