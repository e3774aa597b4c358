/- Anchors (both), note, once: the walks. -/
import Derived.Test.YtiacmahfjcolaaaDoorAnc10
namespace Go.Proofs.YtiacmahfjcolaaaDoor
open Go.RowKit

def shortW (l : List GWord) : Prop := ∀ x ∈ l, x.t.size ≤ 100

set_option maxRecDepth 100000 in
set_option maxHeartbeats 1600000 in
theorem note_any (u : GUnit) (r : RUnit) (s : ByteArray) (w : World) (hr : Reads w u r) (hln : u.kids.length ≤ 9223372036854775807) :
    Calls Tryd.prog 39 #[.agg r.cells.toArray, .string s] w fun e w' => e = .returned (.int .i64 (noteI u.keys s)) ∧ Ext w w' := by
  obtain ⟨a, i, n, kd, lb, hd, wd, kids⟩ := u
  rw [Reads] at hr
  obtain ⟨-, -, -, hkn, hkc, rs, hrs, hall⟩ := hr
  have hks := hall.keys
  have hrl := ReadsAll.length hall
  have hbx := fun w' he => boxUnit (w' := w') r (w := w) he
  obtain ⟨ra, ri, rn, rk, rl, hdA, hn, hc, wA, wn, wc, kA, kn, kc⟩ := r
  dsimp only at hkn hkc hrs hall
  simp only [RUnit.cells] at hbx ⊢
  simp only [GUnit.kids] at hln
  obtain ⟨R, hR⟩ : ∃ R, noteI (GUnit.mk a i n kd lb hd wd kids).keys s = R := ⟨_, rfl⟩
  have HR : Hid (idxI (isNote s) ((rs.map keyR).drop 0) 0 = R) := Lib.hid (by rw [hks]; exact hR)
  rw [hR]
  rw [← hrl] at hkn hln
  subst hkn
  have he1 : Ext w (w.alloc (.cells #[.int .i64 ra, .int .i64 ri, .int .i64 rn, .int .i64 rk, .string rl, .slice hdA hn hc, .slice wA wn wc, .slice kA rs.length kc] 27)) := (Ext.refl w).alloc _
  have Hbx := Lib.hid hbx
  clear hbx hR hks hrl hall hkc
  go_enter Tryd.func39, Tryd.ntmps39
  go_wp2
  obtain ⟨wb, hwb⟩ : ∃ wb, w.alloc (.cells #[.int .i64 ra, .int .i64 ri, .int .i64 rn, .int .i64 rk, .string rl, .slice hdA hn hc, .slice wA wn wc, .slice kA rs.length kc] 27) = wb := ⟨_, rfl⟩
  rw [hwb] at Hbx he1 ⊢
  clear hwb
  have hcell := (Hbx.out wb (Ext.refl _)).2.2.2.2.2.2.2.2
  have hrs2 := hrs.ext he1
  clear hrs Hbx
  go_loopw [5] (fun vk wr => ∃ k : Nat, k ≤ rs.length ∧ vk = .int .i64 (k : Nat) ∧ Hid (idxI (isNote s) ((rs.map keyR).drop k) k = R) ∧ wr = wb) (fun vk _ => rs.length - (intOf vk).toNat)
  case atStart => exact ⟨0, Nat.zero_le _, rfl, HR, rfl⟩
  case round =>
    obtain ⟨k, hk, rfl, Hk, rfl⟩ := hrel
    by_cases hlt : k < rs.length
    · have hk2 := Hk.out
      rw [idxI_drop (by simpa using hlt), List.getElem_map] at hk2
      obtain ⟨b, off, rfl, hb, -, -, -, u3, u4, -, -, -⟩ := unitAt hrs2 hlt
      obtain ⟨q, hq⟩ : ∃ q, rs[k] = q := ⟨_, rfl⟩
      rw [hq] at u3 u4 hk2
      rw [keyR, isNote] at hk2
      simp only at hk2
      obtain ⟨qk, hqk⟩ : ∃ qk, q.kind = qk := ⟨_, rfl⟩
      obtain ⟨ql, hql⟩ : ∃ ql, q.label = ql := ⟨_, rfl⟩
      rw [hqk] at u3 hk2
      rw [hql] at u4 hk2
      have d1 : decide ((k : Int) < (rs.length : Int)) = true := decide_eq_true (by omega)
      clear hq hqk hql
      by_cases h7 : qk = 7
      · subst h7
        by_cases hs : ql = s
        · rw [if_pos (by simp [hs])] at hk2
          have d2 : (ql.toList == s.toList) = true := by rw [beq_bytes]; simp [hs]
          have HK2 := Lib.hid hk2
          clear hk2 hs
          go_wp2
          go_ret
          exact ⟨ret_int HK2.out, he1⟩
        · rw [if_neg (by simp [hs])] at hk2
          have d2 : (ql.toList == s.toList) = false := by rw [beq_bytes]; simp [hs]
          have HK2 := Lib.hid hk2
          clear hk2 hs
          go_wp2
          go_roundw
          case rel => exact ⟨k + 1, by omega, by go_num, HK2, trivial⟩
          case measure => simp [intOf]; omega
      · rw [if_neg (by simp [h7])] at hk2
        have d2 : (qk == 7) = false := by simp [h7]
        have HK2 := Lib.hid hk2
        clear hk2 h7
        go_wp2
        go_roundw
        case rel => exact ⟨k + 1, by omega, by go_num, HK2, trivial⟩
        case measure => simp [intOf]; omega
    · have hk2 := Hk.out
      rw [idxI_end (by simp; omega)] at hk2
      have HK2 := Lib.hid hk2
      have d1 : decide ((k : Int) < (rs.length : Int)) = false := decide_eq_false (by omega)
      clear hk2
      go_wp2
      go_ret
      exact ⟨ret_int HK2.out, he1⟩

set_option maxRecDepth 100000 in
set_option maxHeartbeats 1600000 in
theorem anchors_any (u : GUnit) (r : RUnit) (w : World) (hr : Reads w u r) (hsh : shortW u.words) (hln : u.words.length ≤ 1048576) :
    Calls Tryd.prog 15 #[.agg r.cells.toArray] w (RetOwn strEl w u.anchs) := by
  obtain ⟨a, i, n, kd, lb, hd, wd, kids⟩ := u
  rw [Reads] at hr
  obtain ⟨-, -, ⟨hwn, hwc, hws⟩, -⟩ := hr
  have hbx := fun w' he => boxUnit (w' := w') r (w := w) he
  obtain ⟨ra, ri, rn, rk, rl, hdA, hn, hc, wA, wn, wc, kA, kn, kc⟩ := r
  dsimp only at hwn hwc hws
  simp only [RUnit.cells] at hbx ⊢
  simp only [GUnit.words] at hsh hln
  obtain ⟨R, hR⟩ : ∃ R, (GUnit.mk a i n kd lb hd wd kids).anchs = R := ⟨_, rfl⟩
  have HR : Hid (anchL wd = R) := Lib.hid hR
  rw [hR]
  subst hwn
  have he1 : Ext w (w.alloc (.cells #[.int .i64 ra, .int .i64 ri, .int .i64 rn, .int .i64 rk, .string rl, .slice hdA hn hc, .slice wA wd.length wc, .slice kA kn kc] 27)) := (Ext.refl w).alloc _
  have Hbx := Lib.hid hbx
  have Hsh := Lib.hid hsh
  clear hbx hR hwc hsh
  go_enter Tryd.func15, Tryd.ntmps15
  go_wp2
  go_loopw [3, 11] (fun vo vk wr => ∃ k : Nat, k ≤ wd.length ∧ vk = .int .i64 (k : Nat) ∧ Own strEl w.heap.size wr vo (anchL (wd.take k)) ∧ Ext w wr) (fun _ vk _ => wd.length - (intOf vk).toNat)
  case atStart => exact ⟨0, Nat.zero_le _, rfl, Own.nil _, he1⟩
  case round =>
    obtain ⟨k, hk, rfl, hown, hext⟩ := hrel
    by_cases hlt : k < wd.length
    · obtain ⟨b, off, rfl, hb, c0, c1, c2, c3⟩ := wordAt (hws.ext hext) hlt
      have hsz := hext.size
      obtain ⟨x, hx⟩ : ∃ x, wd[k] = x := ⟨_, rfl⟩
      have hta := anchL_take hlt
      have hxs := Hsh.out wd[k] (List.getElem_mem hlt)
      rw [hx] at c0 c1 c2 c3 hta hxs
      have hal := anchL_len (wd.take k)
      rw [List.length_take] at hal
      have Hpa := Lib.hid (fun w => parseAnchor_any x.t w (by omega))
      obtain ⟨T, hT⟩ : ∃ T, ancT x.t = T := ⟨_, rfl⟩
      obtain ⟨B, hB⟩ : ∃ B, ancB x.t = B := ⟨_, rfl⟩
      simp only [show RetAnc x.t = fun w e w' => e = .returned (.tuple #[.string (ancT x.t), .bool (ancB x.t)]) ∧ Ext w w' from rfl] at Hpa
      rw [hT, hB] at Hpa hta
      obtain ⟨acc, hacc⟩ : ∃ acc, anchL (wd.take k) = acc := ⟨_, rfl⟩
      rw [hacc] at hown hta hal
      have Hta := Lib.hid hta
      have d1 : decide ((k : Int) < (wd.length : Int)) = true := decide_eq_true (by omega)
      clear hx hta hT hB hacc hxs
      go_wp2_with fail
      refine (Hpa.out _).mono ?_
      rintro e w2 ⟨rfl, hx2⟩
      have hx2w : Ext wr w2 := ((Ext.refl _).alloc _).trans hx2
      cases B with
      | true =>
        have Hta2 := Lib.hid (show anchL (wd.take (k + 1)) = acc ++ [T] from Hta.out)
        go_wp2_with (at_builtin; refine wpList_app strEl rfl _ _ rfl 1 rfl ((hown.ext hx2w).ext (Ext.alloc (Ext.refl _) _)) (ys := [T]) rfl (Sl.new strEl rfl) (by simp; omega) (by have := hx2w.size; simp; omega) ?_; intro v' w3 hown' hb3 hg3)
        go_roundw
        case rel => exact ⟨k + 1, by omega, by go_num, by rw [Hta2.out]; exact hown', (hext.trans (hx2w.alloc _)).trans' hb3⟩
        case measure => simp [intOf]; omega
      | false =>
        have Hta2 := Lib.hid (show anchL (wd.take (k + 1)) = acc by rw [Hta.out]; simp)
        go_wp2
        go_roundw
        case rel => exact ⟨k + 1, by omega, by go_num, by rw [Hta2.out]; exact hown.ext hx2w, hext.trans hx2w⟩
        case measure => simp [intOf]; omega
    · obtain rfl : k = wd.length := by omega
      rw [List.take_length, HR.out] at hown
      have d1 : decide ((wd.length : Int) < (wd.length : Int)) = false := decide_eq_false (by omega)
      go_wp2
      go_ret
      exact ⟨_, rfl, hown, hext⟩

set_option maxRecDepth 100000 in
set_option maxHeartbeats 1600000 in
theorem refAnchors_any (u : GUnit) (r : RUnit) (w : World) (hr : Reads w u r) (hsh : shortW u.words) (hln : u.words.length ≤ 1048576) :
    Calls Tryd.prog 16 #[.agg r.cells.toArray] w (RetOwn strEl w u.anchs) := by
  obtain ⟨a, i, n, kd, lb, hd, wd, kids⟩ := u
  rw [Reads] at hr
  obtain ⟨-, -, ⟨hwn, hwc, hws⟩, -⟩ := hr
  have hbx := fun w' he => boxUnit (w' := w') r (w := w) he
  obtain ⟨ra, ri, rn, rk, rl, hdA, hn, hc, wA, wn, wc, kA, kn, kc⟩ := r
  dsimp only at hwn hwc hws
  simp only [RUnit.cells] at hbx ⊢
  simp only [GUnit.words] at hsh hln
  obtain ⟨R, hR⟩ : ∃ R, (GUnit.mk a i n kd lb hd wd kids).anchs = R := ⟨_, rfl⟩
  have HR : Hid (anchL wd = R) := Lib.hid hR
  rw [hR]
  subst hwn
  have Hbx := Lib.hid (fun w' he => (hbx w' he).2.2.2.2.2.2.2.1)
  have Hsh := Lib.hid hsh
  clear hbx hR hwc hsh
  go_enter Tryd.func16, Tryd.ntmps16
  go_wp2
  have he1 : Ext w (w.alloc (.cells #[.int .i64 ra, .int .i64 ri, .int .i64 rn, .int .i64 rk, .string rl, .slice hdA hn hc, .slice wA wd.length wc, .slice kA kn kc] 27)) := (Ext.refl w).alloc _
  obtain ⟨wb, hwb⟩ : ∃ wb, w.alloc (.cells #[.int .i64 ra, .int .i64 ri, .int .i64 rn, .int .i64 rk, .string rl, .slice hdA hn hc, .slice wA wd.length wc, .slice kA kn kc] 27) = wb := ⟨_, rfl⟩
  have hwz : wb.heap.size = w.heap.size + 1 := by rw [← hwb]; simp
  rw [hwb] at Hbx he1 ⊢
  have HwB := Lib.hid hwb
  have Hwz := Lib.hid hwz
  clear hwb hwz
  go_loopw [3, 4] (fun vo vk wr => ∃ k : Nat, k ≤ wd.length ∧ vk = .int .i64 (k : Nat) ∧ Own strEl wb.heap.size wr vo (anchL (wd.take k)) ∧ Ext wb wr) (fun _ vk _ => wd.length - (intOf vk).toNat)
  case atStart =>
    exact ⟨0, Nat.zero_le _, rfl, by have h := Own.made strEl (w := wb) (base := wb.heap.size) (Nat.le_refl _); rw [Hwz.out] at h ⊢; exact h, (Ext.refl _).alloc _⟩
  case round =>
    obtain ⟨k, hk, rfl, hown, hextb⟩ := hrel
    have hext := he1.trans hextb
    have hcell := Hbx.out _ hextb
    by_cases hlt : k < wd.length
    · obtain ⟨b, off, rfl, hb, c0, c1, c2, c3⟩ := wordAt (hws.ext hext) hlt
      have hsz := hextb.size
      obtain ⟨x, hx⟩ : ∃ x, wd[k] = x := ⟨_, rfl⟩
      have hta := anchL_take hlt
      have hxs := Hsh.out wd[k] (List.getElem_mem hlt)
      rw [hx] at c0 c1 c2 c3 hta hxs
      have hal := anchL_len (wd.take k)
      rw [List.length_take] at hal
      have Hpa := Lib.hid (fun w => anchor_any x.t w (by omega))
      obtain ⟨T, hT⟩ : ∃ T, ancT x.t = T := ⟨_, rfl⟩
      obtain ⟨B, hB⟩ : ∃ B, ancB x.t = B := ⟨_, rfl⟩
      simp only [show RetAnc x.t = fun w e w' => e = .returned (.tuple #[.string (ancT x.t), .bool (ancB x.t)]) ∧ Ext w w' from rfl] at Hpa
      rw [hT, hB] at Hpa hta
      obtain ⟨acc, hacc⟩ : ∃ acc, anchL (wd.take k) = acc := ⟨_, rfl⟩
      rw [hacc] at hown hta hal
      have Hta := Lib.hid hta
      have d1 : decide ((k : Int) < (wd.length : Int)) = true := decide_eq_true (by omega)
      clear hx hta hT hB hacc hxs
      go_wp2_with fail
      refine (Hpa.out _).mono ?_
      rintro e w2 ⟨rfl, hx2w⟩
      cases B with
      | true =>
        have Hta2 := Lib.hid (show anchL (wd.take (k + 1)) = acc ++ [T] from Hta.out)
        go_wp2_with (at_builtin; refine wpList_app strEl rfl _ _ rfl 1 rfl ((hown.ext hx2w).ext (Ext.alloc (Ext.refl _) _)) (ys := [T]) rfl (Sl.new strEl rfl) (by simp; omega) (by have := hx2w.size; simp; omega) ?_; intro v' w3 hown' hb3 hg3)
        go_roundw
        case rel => exact ⟨k + 1, by omega, by go_num, by rw [Hta2.out]; exact hown', (hextb.trans (hx2w.alloc _)).trans' hb3⟩
        case measure => simp [intOf]; omega
      | false =>
        have Hta2 := Lib.hid (show anchL (wd.take (k + 1)) = acc by rw [Hta.out]; simp)
        go_wp2
        go_roundw
        case rel => exact ⟨k + 1, by omega, by go_num, by rw [Hta2.out]; exact hown.ext hx2w, hextb.trans hx2w⟩
        case measure => simp [intOf]; omega
    · obtain rfl : k = wd.length := by omega
      rw [List.take_length, HR.out] at hown
      have d1 : decide ((wd.length : Int) < (wd.length : Int)) = false := decide_eq_false (by omega)
      go_wp2
      go_ret
      exact ⟨_, rfl, hown.mono he1.size, hext⟩

end Go.Proofs.YtiacmahfjcolaaaDoor
