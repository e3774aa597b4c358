/- size: the units of a tree, counted up to a maximum. -/
import Derived.Test.YtiacmahfjcolaaaDoorTree
namespace Go.Proofs.YtiacmahfjcolaaaDoor
open Go.RowKit

mutual
def sizeF : GUnit → Int → Int → Int
  | .mk _ _ _ _ _ _ _ kids, deep, most => if 20 < deep then most + 1 else sizeL kids deep most 1
def sizeL : List GUnit → Int → Int → Int → Int
  | [], _, _, n => n
  | u :: us, deep, most, n => if n ≤ most then sizeL us deep most (n + sizeF u (deep + 1) (most - n)) else n
end
mutual
theorem sizeF_le : ∀ (u : GUnit) (deep most : Int), 0 ≤ most → 1 ≤ sizeF u deep most ∧ sizeF u deep most ≤ most + 1
  | .mk _ _ _ _ _ _ _ kids, deep, most, h => by
    rw [sizeF]
    split
    · omega
    · exact sizeL_le kids deep most 1 h (by omega) (by omega)
theorem sizeL_le : ∀ (us : List GUnit) (deep most n : Int), 0 ≤ most → 1 ≤ n → n ≤ most + 1 → 1 ≤ sizeL us deep most n ∧ sizeL us deep most n ≤ most + 1
  | [], deep, most, n, h, h1, h2 => by rw [sizeL]; omega
  | u :: us, deep, most, n, h, h1, h2 => by
    rw [sizeL]
    split
    · have := sizeF_le u (deep + 1) (most - n) (by omega)
      exact sizeL_le us deep most _ h (by omega) (by omega)
    · omega
end

set_option maxRecDepth 100000 in
set_option maxHeartbeats 1600000 in
theorem size_any : ∀ (N : Nat) (u : GUnit) (r : RUnit) (deep most : Int) (w : World), SizeOf.sizeOf u ≤ N → Reads w u r → 0 ≤ deep → deep ≤ 21 → 0 ≤ most → most ≤ 1000 →
    Calls Tryd.prog 33 #[.agg r.cells.toArray, .int .i64 deep, .int .i64 most] w fun e w' => e = .returned (.int .i64 (sizeF u deep most)) ∧ Ext w w'
  | 0, .mk _ _ _ _ _ _ _ _, _, _, _, _, h, _, _, _, _, _ => by simp at h
  | N + 1, .mk a i n kd lb hd wd kids, r, deep, most, w, hN, hr, hd0, hd1, hm0, hm1 => by
    rw [Reads] at hr
    obtain ⟨-, -, -, hkn, hkc, rs, hrs, hall⟩ := hr
    obtain ⟨ra, ri, rn, rk, rl, hA, hn, hc, wA, wn, wc, kA, kn, kc⟩ := r
    dsimp only at hkn hkc hrs hall
    simp only [RUnit.cells]
    subst hkn
    have hlen := ReadsAll.length hall
    have Hall := Lib.hid hall
    clear hall
    by_cases hdp : 20 < deep
    · have e1 : sizeF (.mk a i n kd lb hd wd kids) deep most = most + 1 := by rw [sizeF, if_pos hdp]
      rw [e1]
      have e2 : decide (deep > 20) = true := decide_eq_true hdp
      clear e1 hdp
      go_enter Tryd.func33, Tryd.ntmps33
      go_wp2
      go_ret
      exact ⟨rfl, (Ext.refl _).alloc _⟩
    · have e1 : sizeF (.mk a i n kd lb hd wd kids) deep most = sizeL kids deep most 1 := by rw [sizeF, if_neg hdp]
      rw [e1]
      obtain ⟨R, hR⟩ : ∃ R, sizeL kids deep most 1 = R := ⟨_, rfl⟩
      rw [hR]
      have HR := Lib.hid hR
      have e2 : decide (deep > 20) = false := decide_eq_false hdp
      clear e1 hR
      go_enter Tryd.func33, Tryd.ntmps33
      go_wp2
      have hbx : ∀ w', Ext (w.alloc (.cells #[.int .i64 ra, .int .i64 ri, .int .i64 rn, .int .i64 rk, .string rl, .slice hA hn hc, .slice wA wn wc, .slice kA kids.length kc] 27)) w' → w'.cell? ⟨w.heap.size, 7, none⟩ = some (.slice kA kids.length kc) := fun w' he => (boxUnit ⟨ra, ri, rn, rk, rl, hA, hn, hc, wA, wn, wc, kA, kids.length, kc⟩ he).2.2.2.2.2.2.2.2
      have Hbx := Lib.hid hbx
      have he1 : Ext w (w.alloc (.cells #[.int .i64 ra, .int .i64 ri, .int .i64 rn, .int .i64 rk, .string rl, .slice hA hn hc, .slice wA wn wc, .slice kA kids.length kc] 27)) := (Ext.refl w).alloc _
      clear hbx
      obtain ⟨wb, hwb⟩ : ∃ wb, w.alloc (.cells #[.int .i64 ra, .int .i64 ri, .int .i64 rn, .int .i64 rk, .string rl, .slice hA hn hc, .slice wA wn wc, .slice kA kids.length kc] 27) = wb := ⟨_, rfl⟩
      rw [hwb] at Hbx he1 ⊢
      clear hwb
      go_loopw [7, 8] (fun z i wr => ∃ (k : Nat) (n : Int), k ≤ kids.length ∧ i = .int .i64 k ∧ z = .int .i64 n ∧ (k : Int) + 1 ≤ n ∧ n ≤ most + 1 ∧ Hid (sizeL (kids.drop k) deep most n = R) ∧ Ext wb wr) (fun _ i _ => kids.length - (intOf i).toNat)
      case atStart => exact ⟨0, 1, Nat.zero_le _, rfl, rfl, by omega, by omega, HR, Ext.refl _⟩
      case round =>
        obtain ⟨k, n, hk, rfl, rfl, hn1, hn2, Hn, hext⟩ := hrel
        have hcell := Hbx.out _ hext
        by_cases hlt : k < kids.length
        · have hdk : kids.drop k = kids[k] :: kids.drop (k + 1) := List.drop_eq_getElem_cons hlt
          have h3 := Hn.out
          rw [hdk, sizeL] at h3
          have c1 : decide ((k : Int) < (kids.length : Int)) = true := decide_eq_true (by omega)
          by_cases hle : n ≤ most
          · rw [if_pos hle] at h3
            have H3 := Lib.hid h3
            have c2 : decide (n ≤ most) = true := decide_eq_true hle
            have hltr : k < rs.length := by omega
            obtain ⟨b, off, rfl, hb, u0, u1, u2, u3, u4, u5, u6, u7⟩ := unitAt ((hrs.ext he1).ext hext) hltr
            have hsub : SizeOf.sizeOf kids[k] ≤ N := by
              have a1 := List.sizeOf_lt_of_mem (List.getElem_mem hlt)
              simp at hN
              omega
            have hrd := Reads.ext (he1.trans hext) _ _ (ReadsAll.get Hall.out k hlt hltr)
            have hrec := size_any N kids[k] rs[k] (deep + 1) (most - n) wr hsub hrd (by omega) (by omega) (by omega) (by omega)
            have hbd := sizeF_le kids[k] (deep + 1) (most - n) (by omega)
            obtain ⟨q, hq⟩ : ∃ q, rs[k] = q := ⟨_, rfl⟩
            rw [hq] at u0 u1 u2 u3 u4 u5 u6 u7 hrec
            obtain ⟨z, hz⟩ : ∃ z, sizeF kids[k] (deep + 1) (most - n) = z := ⟨_, rfl⟩
            rw [hz] at hbd hrec
            have Hz := Lib.hid hz
            have Hrec := Lib.hid hrec
            clear h3 hle hdk hsub hrd hrec hq hz Hn
            go_wp2_with fail
            refine (Hrec.out).mono ?_
            rintro e w2 ⟨rfl, hext2⟩
            go_wp2
            go_roundw
            case rel => exact ⟨k + 1, n + z, by omega, by go_num, by go_num, by omega, by omega, Lib.hid (by rw [← H3.out, Hz.out]), hext.trans hext2⟩
            case measure => simp [intOf]; omega
          · rw [if_neg hle] at h3
            have H3 := Lib.hid h3
            have c2 : decide (n ≤ most) = false := decide_eq_false hle
            clear h3 hle hdk Hn
            go_wp2
            go_ret
            exact ⟨by rw [H3.out]; rfl, he1.trans hext⟩
        · have hkl : k = kids.length := by omega
          have h3 := Hn.out
          rw [List.drop_eq_nil_of_le (by omega), sizeL] at h3
          have H3 := Lib.hid h3
          have c1 : decide ((k : Int) < (kids.length : Int)) = false := decide_eq_false (by omega)
          clear h3 hkl Hn
          go_wp2
          go_ret
          exact ⟨by rw [H3.out]; rfl, he1.trans hext⟩

end Go.Proofs.YtiacmahfjcolaaaDoor
