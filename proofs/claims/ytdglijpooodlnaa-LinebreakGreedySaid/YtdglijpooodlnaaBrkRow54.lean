/- One row of Break: each with its visitor. -/
import Derived.Test.YtdglijpooodlnaaBrkIn54
namespace Go.Proofs.Ytdglijpooodlnaa
open Go.RowKit

/-- the five boxes of the visitor -/
structure Five (w : World) (A : Option Addr) (c n : Nat) (W : Int) (i : Nat) (bW bC bL bF bN Bc Bn : Nat) : Prop where
  h1 : Has1 w bW W
  h2 : HasS w bC (.slice (some ⟨Bc, 0, none⟩) (n + 1) (n + 1)) 25
  h3 : HasS w bL (.slice A n c) 22
  h4 : Has1 w bF i
  h5 : HasS w bN (.slice (some ⟨Bn, 0, none⟩) (n + 1) (n + 1)) 25
  ne : Bc ≠ Bn
  nW : bW ≠ Bc ∧ bW ≠ Bn
  nC : bC ≠ Bc ∧ bC ≠ Bn
  nL : bL ≠ Bc ∧ bL ≠ Bn
  nF : bF ≠ Bc ∧ bF ≠ Bn
  nN : bN ≠ Bc ∧ bN ≠ Bn
theorem Five.bes {w w' : World} {A : Option Addr} {c n : Nat} {W : Int} {i bW bC bL bF bN Bc Bn : Nat} (h : Five w A c n W i bW bC bL bF bN Bc Bn) (hb : Bes2 Bc Bn w w') : Five w' A c n W i bW bC bL bF bN Bc Bn :=
  ⟨(hb.block _ (lt_of_block h.h1) h.nW.1 h.nW.2).trans h.h1, (hb.block _ (lt_of_block h.h2) h.nC.1 h.nC.2).trans h.h2, (hb.block _ (lt_of_block h.h3) h.nL.1 h.nL.2).trans h.h3,
   (hb.block _ (lt_of_block h.h4) h.nF.1 h.nF.2).trans h.h4, (hb.block _ (lt_of_block h.h5) h.nN.1 h.nN.2).trans h.h5, h.ne, h.nW, h.nC, h.nL, h.nF, h.nN⟩
/-- what stands in the two rows behind the ends up to e -/
structure RowIn (l : List ByteArray) (W : Int) (i : Nat) (Bc Bn : Nat) (xs0 ys0 : List Int) (w : World) (e : Nat) (w' : World) : Prop where
  bes : Bes2 Bc Bn w w'
  rows : ∃ xs ys, HasL w' Bc xs ∧ HasL w' Bn ys ∧ xs.length = l.length + 1 ∧ ys.length = l.length + 1 ∧ (∀ k, k ≠ i → xs[k]? = xs0[k]? ∧ ys[k]? = ys0[k]?) ∧
    xs[i]? = some (sc l W (CF l W) i (e - i)).1 ∧ (i < e → ys[i]? = some ((sc l W (CF l W) i (e - i)).2 : Int))
set_option maxRecDepth 100000 in
theorem row_any (A : Option Addr) (c : Nat) (l : List ByteArray) (W : Int) (i : Nat) (xs0 ys0 : List Int) (bW bC bL bF bN Bc Bn base : Nat) (w w0 : World) (hs : Sl strEl w0 A l) (hext : Ext w0 w) (hbc : w0.heap.size ≤ Bc) (hbn : w0.heap.size ≤ Bn)
    (hF : Fit W l) (hi : i < l.length) (h5 : Five w A c l.length W i bW bC bL bF bN Bc Bn) (hx : HasL w Bc xs0) (hy : HasL w Bn ys0) (hxl : xs0.length = l.length + 1) (hyl : ys0.length = l.length + 1)
    (hxi : xs0[i]? = some 9223372036854775807) (hxe : ∀ e, i < e → e ≤ l.length → xs0[e]? = some (CF l W e)) :
    Calls Try.prog 27 #[.int .i64 W, .int .i64 (i : Nat), .slice A l.length c, .func (.func 28) #[] #[.pointer (some ⟨bW, 0, none⟩), .pointer (some ⟨bC, 0, none⟩), .pointer (some ⟨bL, 0, none⟩), .pointer (some ⟨bF, 0, none⟩), .pointer (some ⟨bN, 0, none⟩)]] w
      fun r w' => r = .returned (.tuple #[]) ∧ RowIn l W i Bc Bn xs0 ys0 w (gF l W i) w' := by
  have hW := hF.hi
  have hW1 := hF.lo
  have hG := gF_is W (show i ≤ l.length by omega)
  refine each5_any A c l W i (gF l W i) 60 _ _ _ _ _ (RowIn l W i Bc Bn xs0 ys0 w) w (fun e w' h => hs.ext (h.bes.toExt hext hbc hbn)) hG hF.brief (by omega) hW (fun e w' h1 h2 hr => ?_) ⟨Bes2.refl _ _ _, xs0, ys0, hx, hy, hxl, hyl, fun _ _ => ⟨rfl, rfl⟩, by rw [Nat.sub_self]; exact hxi, fun h => absurd h (by omega)⟩
  obtain ⟨hbes, xs, ys, hX, hY, hXl, hYl, hoth, hXi, hYi⟩ := hr
  have h5' := h5.bes hbes
  have hen : e + 1 ≤ l.length := Nat.le_trans h2 hG.le
  have hfit := hG.fit (e + 1) (by omega) (by omega)
  have hnn := lenF_nonneg (l := l) (i := i) (e := e + 1) (by omega) hen
  have hCF := CF_le hF hen
  have hxe1 := (hoth (e + 1) (by omega)).1.trans (hxe (e + 1) (by omega) hen)
  refine (breakIn_any A c l W i (e + 1) xs ys (CF l W (e + 1)) _ bW bC bL bF bN Bc Bn w' h5'.h1 h5'.h2 h5'.h3 h5'.h4 h5'.h5 hX hY (by omega) hen hF.brief.1 hxe1 hXi hYl (by omega) (by omega) (by omega) hW hCF.1 hCF.2 h5.ne
    ⟨h5.nC.1, h5.nC.2, h5.nF.1, h5.nF.2, h5.nN.1, h5.nN.2⟩ (CF l W) rfl).mono fun r w'' ⟨hr1, hr2, hr3, hr4⟩ => ⟨hr1, hbes.trans hr2, ?_⟩
  have e1 : e + 1 - i = (e - i) + 1 := by omega
  have e2 : i + (e - i) + 1 = e + 1 := by omega
  rw [e1]
  simp only [sc, e2]
  by_cases hlt : cand l W (CF l W) i (e + 1) < (sc l W (CF l W) i (e - i)).1
  · rw [if_pos hlt] at hr3 hr4
    rw [if_pos hlt]
    refine ⟨_, _, hr3, hr4, by rw [List.length_set]; exact hXl, by rw [List.length_set]; exact hYl, fun k hk => ?_, ?_, fun _ => ?_⟩
    · rw [List.getElem?_set_ne (Ne.symm hk), List.getElem?_set_ne (Ne.symm hk)]
      exact hoth k hk
    · exact List.getElem?_set_self (by omega)
    · exact List.getElem?_set_self (by omega)
  · rw [if_neg hlt] at hr3 hr4
    rw [if_neg hlt]
    refine ⟨_, _, hr3, hr4, hXl, hYl, hoth, hXi, fun _ => ?_⟩
    rcases Nat.lt_or_ge i e with h7 | h7
    · exact hYi h7
    · exfalso
      obtain rfl : i = e := by omega
      rw [Nat.sub_self] at hlt
      have := cand_bound hF (B := 2400000) (T := CF l W) (by omega) (show i < i + 1 by omega) (by omega) hi hCF.1 hCF.2
      exact hlt (by show _ < (9223372036854775807 : Int); omega)

end Go.Proofs.Ytdglijpooodlnaa
