/- The reference's Break: the walk. -/
import Derived.Test.YtdglijpooodlnaaFrom54
namespace Go.Proofs.Ytdglijpooodlnaa
open Go.RowKit

theorem own_step1 {w wq w3 : World} {v v' : Value} {xs ys : List Int} {o : Obj} {B : Nat} (hx : Ext w wq) (hown : Own intEl w.heap.size wq v xs) (hob : v.ownBlock ≠ some B)
    (hq : HasL wq B ys) (hg : (wq.alloc o).grownBy w3 v.ownBlock) (hloc : v'.ownBlock = v.ownBlock ∨ v'.ownBlock = some (wq.alloc o).heap.size) :
    v'.ownBlock ≠ some B ∧ Ext w w3 ∧ HasL w3 B ys := by
  have z1 := hq.lt
  have hx1 : Ext wq (wq.alloc o) := (Ext.refl wq).alloc o
  have hs : (wq.alloc o).heap.size = wq.heap.size + 1 := by simp
  refine ⟨?_, ⟨hg.os.trans (hx1.os.trans hx.os), hg.tape.trans (hx1.tape.trans hx.tape), hg.output.trans (hx1.output.trans hx.output), Nat.le_trans hx.size (Nat.le_trans hx1.size hg.size), fun k hk2 => ?_⟩,
    (hg.block B (by rw [hs]; omega) (fun h => hob h.symm)).trans ((hx1.block z1).trans hq)⟩
  · rcases hloc with h | h
    · rw [h]; exact hob
    · rw [h, hs]
      intro h
      injection h with h
      omega
  · have hz := hx.size
    refine (hg.block k (by rw [hs]; omega) (fun h => ?_)).trans ((hx1.block (by omega)).trans (hx.block hk2))
    have := (hown.lt k h.symm).1
    omega

set_option maxRecDepth 100000 in
set_option maxHeartbeats 3200000 in
theorem refBreak_yes (A : Option Addr) (c : Nat) (l : List ByteArray) (W : Int) (w : World) (hs : Sl strEl w A l) (hb : briefP l 60) (h : wrongF W l = 0) :
    Calls Try.prog 13 #[.int .i64 W, .slice A l.length c] w (RetEnds w (bLines l W) 0) := by
  have hF := fit_of h hb
  have hl := hb.1
  have hW1 := hF.lo
  have hW2 := hF.hi
  have hw := refWrong_any A c l W w hs (by omega)
  rw [h] at hw
  have Hw := Lib.hid hw
  have HF := Lib.hid hF
  have Hs := Lib.hid hs
  clear hw h hF hb hs
  go_enter Try.func13, Try.ntmps13
  go_wp2_with fail
  refine (Hw.out).mono ?_
  rintro e w1 ⟨rfl, hx1⟩
  go_wp2_with fail
  refine (from_any A c l W w1 (Hs.out.ext hx1) HF.out).mono ?_
  rintro e w2 ⟨B, xs0, rfl, hB, hBl, hBe, hx2⟩
  have HB0 := Lib.hid hB
  have Hxs := Lib.hid hBe
  have Hx2 := Lib.hid (hx1.trans hx2)
  clear hB hBe hx2 hx1
  go_wp2
  go_loopw [8, 9, 10, 11] (fun v p _ _ wr => ∃ (a f : Nat) (xs : List Int), a ≤ l.length ∧ p = .int .i64 (a : Nat) ∧ Hid (Own intEl w.heap.size wr v xs) ∧ Hid (v.ownBlock ≠ some B) ∧ Ext w wr ∧ Hid (HasL wr B xs0) ∧ l.length ≤ a + f ∧ Hid (bLines l W = xs ++ bEndsF l W f a)) (fun _ p _ _ _ => l.length - (intOf p).toNat)
  case atStart =>
    have hz := HB0.out.lt
    exact ⟨0, l.length, [], by omega, rfl, Lib.hid (Own.made intEl Hx2.out.size), Lib.hid (by simp [Value.ownBlock]; omega), Hx2.out.alloc _, Lib.hid (HB0.out.keep (((Ext.refl _).alloc _).block hz)), by omega, Lib.hid rfl⟩
  case round =>
    obtain ⟨a, f, xs, ha, rfl, Hown, Hob, hext, HB, hf, Heq⟩ := hrel
    by_cases hlt : a < l.length
    · skip
      have hgl := NF_lt HF.out hlt
      have hG := gF_is W (show a ≤ l.length by omega)
      have hgn := hG.le
      have hLst := CN_least HF.out hlt
      obtain ⟨f', rfl⟩ : ∃ f', f = f' + 1 := ⟨f - 1, by omega⟩
      have heq2 := Heq.out
      rw [bEndsF, if_pos hlt] at heq2
      have hN1 : cand l W (CF l W) a (NF l W a) = CF l W a := hLst.eq.symm
      have hN2 : ∀ e, a < e → e < NF l W a → CF l W a < cand l W (CF l W) a e := hLst.first
      have hxa := Hxs.out a (by omega)
      obtain ⟨Ca, hCa⟩ : ∃ Ca, CF l W a = Ca := ⟨_, rfl⟩
      obtain ⟨g, hg⟩ : ∃ g, NF l W a = g := ⟨_, rfl⟩
      rw [hg] at hgl heq2 hN1 hN2
      rw [hCa] at hN1 hN2 hxa
      obtain ⟨hg1, hg2⟩ := hgl
      have Heq2 := Lib.hid heq2
      have HG := Lib.hid hG
      have HN1 := Lib.hid hN1
      have HN2 := Lib.hid hN2
      have Hxa := Lib.hid hxa
      have d1 : decide ((a : Int) < (l.length : Int)) = true := decide_eq_true (by omega)
      have d1' : decide (a < l.length) = true := decide_eq_true hlt
      have b2 : ((a : Int) < ((l.length : Int) + 1)) := by omega
      have hlen : xs.length + 1 ≤ 68719476736 := by
        have h1 := congrArg List.length Heq2.out
        have h2 := bEndsF_len HF.out l.length 0 (Nat.zero_le _)
        unfold bLines at h1
        rw [List.length_append, List.length_cons] at h1
        omega
      clear hg heq2 hG Heq hN1 hN2 hxa hCa hLst
      go_wp2
      go_loopw [10, 11] (fun q _ wq => ∃ k : Nat, a < k ∧ k ≤ g ∧ q = .int .i64 (k : Nat) ∧ Ext wr wq) (fun q _ _ => g + 1 - (intOf q).toNat)
      case atStart => exact ⟨a + 1, by omega, by omega, by go_num, Ext.refl _⟩
      case round =>
        obtain ⟨k, hk1, hk2, rfl, hxq⟩ := hrel
        have hkn : k ≤ l.length := by omega
        have hfit := HG.out.fit k hk1 (by omega)
        have hnn := lenF_nonneg (l := l) hk1 hkn
        have hC := CF_le HF.out hkn
        have Hlen : Hid (∀ wz, Ext w wz → Calls Try.prog 31 #[.slice A l.length c, .int .i64 (a : Nat), .int .i64 (k : Nat)] wz fun e w' => e = .returned (.int .i64 (lenF l a k)) ∧ Ext wz w') :=
          Lib.hid fun wz hz => length_any A c l a k 60 wz (Hs.out.ext hz) HF.out.brief (by omega) (by omega) hkn
        have hxk := Hxs.out k hkn
        have hcd : cand l W (CF l W) a k = if k = l.length then 0 else (W - lenF l a k) * (W - lenF l a k) + CF l W k := rfl
        have hce : k = l.length → CF l W k = 0 := fun h => by rw [h]; exact CF_end l W
        have hkg : k = g → cand l W (CF l W) a k = Ca := fun h => by rw [h]; exact HN1.out
        have hlt2 : k < g → Ca < cand l W (CF l W) a k := fun h => HN2.out k hk1 h
        obtain ⟨L, hL⟩ : ∃ L, lenF l a k = L := ⟨_, rfl⟩
        obtain ⟨C, hC0⟩ : ∃ C, CF l W k = C := ⟨_, rfl⟩
        obtain ⟨K, hK0⟩ : ∃ K, cand l W (CF l W) a k = K := ⟨_, rfl⟩
        rw [hK0] at hkg hlt2
        rw [hL, hC0, hK0] at hcd
        rw [hL] at hfit hnn Hlen
        rw [hC0] at hC hxk hce
        have hsq := sq_le (a := W - L) (by omega) (by omega)
        have Hkg := Lib.hid hkg
        have Hlt := Lib.hid hlt2
        have Hcd := Lib.hid hcd
        have Hce := Lib.hid hce
        have HB2 := Lib.hid (HB.out.keep (hxq.block HB.out.lt))
        have c9 := HB2.out.cell hxk
        have c7 := HB2.out.cell Hxa.out
        have b1 : ((k : Int) < ((l.length : Int) + 1)) := by omega
        clear hkg hlt2 hcd hce hxk hL hC0 hK0
        by_cases hke : k = l.length
        · skip
          have d3 : decide ((k : Int) < (l.length : Int)) = false := decide_eq_false (by omega)
          have d3' : decide (k < l.length) = false := decide_eq_false (by omega)
          have d3n : l.length ≤ k := by omega
          have HK := Lib.hid (show K = C by rw [Hcd.out, if_pos hke, Hce.out hke])
          by_cases hkg : k = g
          · have d4 : (C == Ca) = true := by rw [← HK.out, (Hkg.out hkg)]; simp
            have d4' : decide (C = Ca) = true := by rw [← HK.out, (Hkg.out hkg)]; simp
            have Hke := Lib.hid hke
            clear hke
            subst hkg
            have hx3 := hext.trans hxq
            have hown2 := Hown.out.ext hxq
            have Hown2 := Lib.hid hown2
            have HB3 := Lib.hid (HB.out.keep ((hxq).block HB.out.lt))
            clear hown2
            go_wp2_with (at_builtin; refine wpList_appAt intEl rfl _ _ rfl 1 rfl (Hown2.out.ext ((Ext.refl _).alloc _)) (ys := [(k : Int)]) rfl (Sl.new intEl rfl) hlen (by have := hx3.size; simp; omega) ?_; intro v' w5 hown3 hg3 hloc; have Hown3 := Lib.hid hown3; have Hg3 := Lib.hid hg3; have Hloc := Lib.hid hloc; clear hown3 hg3 hloc)
            go_roundw
            case rel =>
              have hstep := own_step1 hx3 Hown2.out Hob.out HB3.out Hg3.out Hloc.out
              exact ⟨k, f', xs ++ [(k : Int)], by omega, rfl, Hown3, Lib.hid hstep.1, hstep.2.1, Lib.hid hstep.2.2, by omega, Lib.hid (by rw [Heq2.out, List.append_assoc]; rfl)⟩
            case measure => simp [intOf] <;> omega
          · exact absurd hke (by omega)
        · skip
          have d3 : decide ((k : Int) < (l.length : Int)) = true := decide_eq_true (by omega)
          have d3' : decide (k < l.length) = true := decide_eq_true (by omega)
          have d3n : k < l.length := by omega
          have HK := Lib.hid (show K = C + (W - L) * (W - L) by rw [Hcd.out, if_neg hke]; omega)
          go_wp2_with fail
          refine (Hlen.out _ (hext.trans hxq)).mono ?_
          rintro r w3 ⟨rfl, hx3⟩
          go_wp2_with fail
          refine (Hlen.out _ (hext.trans (hxq.trans hx3))).mono ?_
          rintro r w4 ⟨rfl, hx4⟩
          have hxq4 := hxq.trans (hx3.trans hx4)
          have HB4 := Lib.hid (HB.out.keep (hxq4.block HB.out.lt))
          have c8 : w4.cell? ⟨B, a, none⟩ = some (.int .i64 Ca) := HB4.out.cell Hxa.out
          clear hx3
          by_cases hkg : k = g
          · have d4 : (C + (W - L) * (W - L) == Ca) = true := by rw [← HK.out, (Hkg.out hkg)]; simp
            have d4' : decide (C + (W - L) * (W - L) = Ca) = true := by rw [← HK.out, (Hkg.out hkg)]; simp
            subst hkg
            have hx3 := hext.trans hxq4
            have hown2 := Hown.out.ext hxq4
            have Hown2 := Lib.hid hown2
            have HB3 := Lib.hid (HB.out.keep ((hxq4).block HB.out.lt))
            clear hown2
            go_wp2_with (at_builtin; refine wpList_appAt intEl rfl _ _ rfl 1 rfl (Hown2.out.ext ((Ext.refl _).alloc _)) (ys := [(k : Int)]) rfl (Sl.new intEl rfl) hlen (by have := hx3.size; simp; omega) ?_; intro v' w5 hown3 hg3 hloc; have Hown3 := Lib.hid hown3; have Hg3 := Lib.hid hg3; have Hloc := Lib.hid hloc; clear hown3 hg3 hloc)
            go_roundw
            case rel =>
              have hstep := own_step1 hx3 Hown2.out Hob.out HB3.out Hg3.out Hloc.out
              exact ⟨k, f', xs ++ [(k : Int)], by omega, rfl, Hown3, Lib.hid hstep.1, hstep.2.1, Lib.hid hstep.2.2, by omega, Lib.hid (by rw [Heq2.out, List.append_assoc]; rfl)⟩
            case measure => simp [intOf] <;> omega
          · have hne := Hlt.out (by omega)
            rw [HK.out] at hne
            have d4 : (C + (W - L) * (W - L) == Ca) = false := by simp; omega
            have d4' : decide (C + (W - L) * (W - L) = Ca) = false := by simp; omega
            clear hne
            go_wp2
            go_roundw
            case rel => exact ⟨k + 1, by omega, by omega, by go_num, hxq4⟩
            case measure => simp [intOf] <;> omega
    · have Hfin := Lib.hid (show bLines l W = xs by rw [Heq.out, bEndsF_end (by omega), List.append_nil])
      have d1 : decide ((a : Int) < (l.length : Int)) = false := decide_eq_false (by omega)
      go_wp2
      go_ret2
      exact ⟨_, rfl, by rw [Hfin.out]; exact Hown.out, hext⟩

set_option maxRecDepth 100000 in
set_option maxHeartbeats 800000 in
theorem refBreak_no (A : Option Addr) (c : Nat) (l : List ByteArray) (W : Int) (w : World) (hs : Sl strEl w A l) (hn : l.length ≤ 9223372036854775807) (h : wrongF W l ≠ 0) :
    Calls Try.prog 13 #[.int .i64 W, .slice A l.length c] w (RetEnds w [] (wrongF W l)) := by
  have hw := refWrong_any A c l W w hs hn
  obtain ⟨E, hE⟩ : ∃ E, wrongF W l = E := ⟨_, rfl⟩
  rw [hE] at hw h ⊢
  have Hw := Lib.hid hw
  have d1 : (E != 0) = true := by simp [h]
  clear hw hE h
  go_enter Try.func13, Try.ntmps13
  go_wp2_with fail
  refine (Hw.out).mono ?_
  rintro e w1 ⟨rfl, hx1⟩
  go_wp2
  go_ret2
  exact ⟨_, rfl, Own.nil _, hx1⟩

end Go.Proofs.Ytdglijpooodlnaa
