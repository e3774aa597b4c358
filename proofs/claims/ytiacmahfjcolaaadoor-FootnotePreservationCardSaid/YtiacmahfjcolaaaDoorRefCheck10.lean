/- The reference's Check: the walk. -/
import Derived.Test.YtiacmahfjcolaaaDoorDec10
namespace Go.Proofs.YtiacmahfjcolaaaDoor
open Go.RowKit

theorem Own.two {P : Program} {α β : Type} {D1 : El P α} {D2 : El P β} {w : World} {b1 b2 : Nat} {v1 v2 : Value} {xs : List α} {ys : List β} (h1 : Own D1 b1 w v1 xs) (h2 : Own D2 b2 w v2 ys) (ht : D1.e ≠ D2.e) : ∀ k, v1.ownBlock = some k → v2.ownBlock ≠ some k := by
  intro k hk hk2
  rcases h1.2 with ⟨rfl, _⟩ | ⟨g, cap, cur, rfl, _, hh, _⟩
  · cases hk
  · cases hk
    rcases h2.2 with ⟨rfl, _⟩ | ⟨g', cap', cur', rfl, _, hh', _⟩
    · cases hk2
    · cases hk2
      rw [hh] at hh'
      simp only [Option.some.injEq, Obj.cells.injEq] at hh'
      exact ht hh'.2.1
theorem Own.keep2 {P : Program} {α β : Type} {D1 : El P α} {D2 : El P β} {w w' : World} {b1 b2 : Nat} {v1 v2 : Value} {xs : List α} {ys : List β} (h1 : Own D1 b1 w v1 xs) (h2 : Own D2 b2 w v2 ys) (ht : D1.e ≠ D2.e) (hg : w.grownBy w' v2.ownBlock) : Own D1 b1 w' v1 xs :=
  h1.keep fun k hk => hg.block k (h1.lt k hk).2 (fun e => Own.two h1 h2 ht k hk e.symm)
theorem strNeFind : strEl.e ≠ findEl.e := by decide
theorem findNeStr : findEl.e ≠ strEl.e := by decide
theorem preL_get : ∀ (us : List GUnit) (k : Nat) (h : k < us.length), (preF us[k]).length ≤ (preL us).length
  | u :: us, 0, _ => by rw [preL, List.length_append]; simp
  | u :: us, k + 1, h => by
    have := preL_get us k (by simpa using h)
    rw [preL, List.length_append]
    simp only [List.getElem_cons_succ]
    omega
theorem OkT.kid {u : GUnit} (h : OkT u) (k : Nat) (hk : k < u.kids.length) : OkT u.kids[k] := by
  obtain ⟨a, i, n, kd, lb, hd, wd, kids⟩ := u
  obtain ⟨h1, h2, h3, h4⟩ := h
  rw [AllU] at h1 h2 h4
  rw [preF, List.length_cons] at h3
  simp only [GUnit.kids] at hk ⊢
  have := preL_get kids k hk
  exact ⟨h1.2.get k hk, h2.2.get k hk, by omega, h4.2.get k hk⟩
theorem OkT.short {u : GUnit} (h : OkT u) : shortU u := AllU.pre u h.sh u (by cases u; rw [preF]; simp)
theorem checkF_len {u : GUnit} (h : OkT u) : (checkF u).length ≤ 1310000 := by
  rw [checkF_pre]
  have := flatMap_len (F := ownF) (m := 1310) (l := preF u) fun x hx => ownF_len (AllU.pre u h.sh x hx)
  have := h.few
  omega
theorem checkL_drop {l : List GUnit} {k : Nat} (h : k < l.length) : checkL (l.drop k) = checkF l[k] ++ checkL (l.drop (k + 1)) := by
  rw [List.drop_eq_getElem_cons h, checkL]

def RefCheckAt (N : Nat) : Prop := ∀ (u : GUnit) (r : RUnit) (w : World), SizeOf.sizeOf u ≤ N → Reads w u r → OkT u → Calls Tryd.prog 17 #[.agg r.cells.toArray] w (RetOwn findEl w (checkF u))
set_option maxRecDepth 100000 in
set_option maxHeartbeats 6400000 in
theorem refCheck_step (N : Nat) (ih : RefCheckAt N) : RefCheckAt (N + 1) := by
  intro u r w hN hr hok
  have hru := hr
  have hshu := hok.short
  have hRlen := checkF_len hok
  have hkok := fun k h => hok.kid k h
  have hntu := fun s w' (he : Ext w w') => note_any u r s w' (Reads.ext he _ _ hru) (by have := hshu.2.2.1; omega)
  obtain ⟨a, i, n, kd, lb, hd, wd, kids⟩ := u
  rw [Reads] at hr
  obtain ⟨⟨hra, hri, hrn, -, -⟩, -, ⟨hwn, hwc, hws⟩, hkn, hkc, rs, hrs, hall⟩ := hr
  have hrl := ReadsAll.length hall
  have hbx := fun w' he => boxUnit (w' := w') r (w := w) he
  obtain ⟨ra, ri, rn, rk, rl, hdA, hn, hc, wA, wn, wc, kA, kn, kc⟩ := r
  dsimp only at hra hri hrn hwn hwc hws hkn hkc hrs hall
  obtain ⟨hsh, hlw, hlk, hlab⟩ := hshu
  simp only [GUnit.words, GUnit.kids] at hsh hlw hlk hlab hkok
  subst hra hri hrn hwn
  rw [← hrl] at hkn hlk
  subst hkn
  have hkeys : (GUnit.mk ra ri rn kd lb hd wd kids).keys = kids.map keyU := rfl
  rw [hkeys] at hntu
  obtain ⟨ks, hksd⟩ : ∃ ks, kids.map keyU = ks := ⟨_, rfl⟩
  rw [hksd] at hntu hkeys
  obtain ⟨R, hR⟩ : ∃ R, checkF (.mk ra ri rn kd lb hd wd kids) = R := ⟨_, rfl⟩
  rw [hR] at hRlen ⊢
  have HR : Hid (R = [] ++ findW ⟨ra, ri, rn⟩ ks 0 (anchL (wd.take 0)) (wd.drop 0) ++ (findK ks (anchL wd) 0 kids ++ checkL kids)) := Lib.hid (by rw [← hR, checkF, ownF, hkeys, List.append_assoc]; rfl)
  simp only [RUnit.cells] at hntu hbx ⊢
  have Hnt := Lib.hid hntu
  have Hsh := Lib.hid hsh
  have Hlab := Lib.hid hlab
  have Hall := Lib.hid hall
  have Hl : Hid (kids.length = rs.length) := Lib.hid hrl.symm
  have Hkok := Lib.hid hkok
  have Hih := Lib.hid ih
  have Hsub := Lib.hid (show ∀ k, ∀ h : k < kids.length, SizeOf.sizeOf kids[k] ≤ N from fun k h => by
    have a1 := List.sizeOf_lt_of_mem (List.getElem_mem h)
    simp at hN
    omega)
  have he1 : Ext w (w.alloc (.cells #[.int .i64 ra, .int .i64 ri, .int .i64 rn, .int .i64 rk, .string rl, .slice hdA hn hc, .slice wA wd.length wc, .slice kA rs.length kc] 27)) := (Ext.refl w).alloc _
  have Hbx := Lib.hid (fun w' he => (hbx w' he).2)
  clear hntu hbx hru hkeys hksd hR hsh hlab hall hrl hwc hkc hkok ih hN hok
  go_enter Tryd.func17, Tryd.ntmps17
  go_wp2
  obtain ⟨wb, hwb⟩ : ∃ wb, w.alloc (.cells #[.int .i64 ra, .int .i64 ri, .int .i64 rn, .int .i64 rk, .string rl, .slice hdA hn hc, .slice wA wd.length wc, .slice kA rs.length kc] 27) = wb := ⟨_, rfl⟩
  have hwz : wb.heap.size = w.heap.size + 1 := by rw [← hwb]; simp
  rw [hwb] at Hbx he1 ⊢
  have Hwz := Lib.hid hwz
  clear hwb hwz
  go_loopw [3, 4, 5] (fun vo vs vk wr => ∃ (k : Nat) (acc : List GFind), k ≤ wd.length ∧ vk = .int .i64 (k : Nat) ∧ Hid (R = acc ++ findW ⟨ra, ri, rn⟩ ks k (anchL (wd.take k)) (wd.drop k) ++ (findK ks (anchL wd) 0 kids ++ checkL kids)) ∧
    Own findEl wb.heap.size wr vo acc ∧ Own strEl wb.heap.size wr vs (anchL (wd.take k)) ∧ Ext wb wr) (fun _ _ vk _ => wd.length - (intOf vk).toNat)
  case atStart =>
    refine ⟨0, [], Nat.zero_le _, rfl, HR, ?_, ?_, ((Ext.refl _).alloc _).alloc _⟩
    · have h := (Own.made findEl (w := wb) (base := wb.heap.size) (Nat.le_refl _)).ext ((Ext.refl _).alloc (.cells #[] 9))
      rw [Hwz.out] at h ⊢
      exact h
    · have h := Own.made strEl (w := wb.alloc (.cells #[] 62)) (base := wb.heap.size) (by simp)
      rw [show (wb.alloc (.cells #[] 62)).heap.size = wb.heap.size + 1 by simp, Hwz.out] at h
      rw [Hwz.out]
      exact h
  case round =>
    obtain ⟨k, acc, hk, rfl, Hf, hof, hos, hext⟩ := hrel
    have hac : acc.length ≤ 1310000 := by
      have := congrArg List.length Hf.out
      rw [List.length_append, List.length_append] at this
      omega
    have hal := anchL_len (wd.take k)
    rw [List.length_take] at hal
    obtain ⟨z0, z1, z2, z3, z4, z5, z6, z7⟩ := Hbx.out _ hext
    have hszr := hext.size
    by_cases hlt : k < wd.length
    · obtain ⟨b, off, rfl, hb, c0, c1, c2, c3⟩ := wordAt (hws.ext (he1.trans hext)) hlt
      have hfw := findW_drop (id := ⟨ra, ri, rn⟩) (ks := ks) (seen := anchL (wd.take k)) hlt
      have hta := anchL_take hlt
      have hxs := Hsh.out wd[k] (List.getElem_mem hlt)
      obtain ⟨x, hx⟩ : ∃ x, wd[k] = x := ⟨_, rfl⟩
      rw [hx] at c0 c1 c2 c3 hfw hta hxs
      have Hpa := Lib.hid (fun w => anchor_any x.t w (by omega))
      simp only [show RetAnc x.t = fun w e w' => e = .returned (.tuple #[.string (ancT x.t), .bool (ancB x.t)]) ∧ Ext w w' from rfl] at Hpa
      obtain ⟨T, hT⟩ : ∃ T, ancT x.t = T := ⟨_, rfl⟩
      obtain ⟨B, hB⟩ : ∃ B, ancB x.t = B := ⟨_, rfl⟩
      rw [hT, hB] at Hpa hta hfw
      have Hfw := Lib.hid (Hf.out.trans (by rw [hfw]))
      obtain ⟨SN, hSN⟩ : ∃ SN, anchL (wd.take k) = SN := ⟨_, rfl⟩
      rw [hSN] at hos hal hta
      have HSN := Lib.hid hSN
      have Hta := Lib.hid hta
      have d1 : decide ((k : Int) < (wd.length : Int)) = true := decide_eq_true (by omega)
      clear hx hta hT hB hxs hfw Hf hSN
      cases B with
      | false =>
        have Hta2 := Lib.hid (show anchL (wd.take (k + 1)) = SN by rw [Hta.out]; simp)
        have HK2 := Lib.hid (show R = acc ++ findW ⟨ra, ri, rn⟩ ks (k + 1) (anchL (wd.take (k + 1))) (wd.drop (k + 1)) ++ (findK ks (anchL wd) 0 kids ++ checkL kids) by rw [Hfw.out, Hta2.out, HSN.out]; simp)
        go_wp2_with fail
        refine (Hpa.out _).mono ?_
        rintro e w2 ⟨rfl, hx2⟩
        go_wp2
        go_roundw
        case rel => exact ⟨k + 1, acc, by omega, by go_num, HK2, hof.ext hx2, by rw [Hta2.out]; exact hos.ext hx2, hext.trans hx2⟩
        case measure => simp [intOf]; omega
      | true =>
        have Hta2 := Lib.hid (show anchL (wd.take (k + 1)) = SN ++ [T] from Hta.out)
        go_wp2_with fail
        refine (Hpa.out _).mono ?_
        rintro e w2 ⟨rfl, hx2⟩
        have hof2 := hof.ext hx2
        have hos2 := hos.ext hx2
        have hxw := hext.trans hx2
        obtain ⟨As, cs, hvs, hcs, hss⟩ := hos2.form
        subst hvs
        have hpl := place_any As cs SN T w2 hss (by omega)
        have hneg := placeI_neg SN T
        obtain ⟨J, hJ⟩ : ∃ J, placeI SN T = J := ⟨_, rfl⟩
        rw [hJ] at hpl hneg
        have Hpl := Lib.hid hpl
        clear hpl hJ z0 z1 z2 z3 z4 z5 z6 z7
        obtain ⟨z0, z1, z2, z3, z4, z5, z6, z7⟩ := Hbx.out _ hxw
        have hszw := hxw.size
        by_cases hm : T ∈ SN
        · have d2 : decide (J ≥ 0) = true := decide_eq_true (by have := mt hneg.1 (fun h => h hm); omega)
          have HK2 := Lib.hid (show R = (acc ++ [⟨(k : Nat), ra, ri, rn, 5, T⟩]) ++ findW ⟨ra, ri, rn⟩ ks (k + 1) (anchL (wd.take (k + 1))) (wd.drop (k + 1)) ++ (findK ks (anchL wd) 0 kids ++ checkL kids) by rw [Hfw.out, if_pos trivial, HSN.out, if_pos hm, Hta2.out]; simp)
          clear hneg hm
          go_wp2_with fail
          refine (Hpl.out).mono ?_
          rintro e w3 ⟨rfl, rfl⟩
          go_wp2_with (first | (at_builtin; refine wpList_app findEl rfl _ _ rfl 1 rfl (hof2.ext (Ext.alloc (Ext.refl _) _)) (ys := [⟨(k : Nat), ra, ri, rn, 5, T⟩]) rfl (Sl.new findEl rfl) (by simp; omega) (by simp; omega) ?_; intro v4 w4 hown4 hb4 hg4; have HOS := ((hos2.ext (Ext.alloc (Ext.refl _) _)).keep2 (hof2.ext (Ext.alloc (Ext.refl _) _)) strNeFind hg4); have HOF := hown4; have hxf : Ext wb w4 := (Ext.alloc hxw _).trans' hb4; have hszf := hxf.size; clear hb4 hg4) |
            (at_builtin; refine wpList_app strEl rfl (.tmp 56) (.tmp 58) rfl 1 rfl (HOS.ext (Ext.alloc (Ext.refl _) _)) (ys := [T]) rfl (Sl.new strEl rfl) (by simp; omega) (by simp; omega) ?_; intro v5 w5 hown5 hb5 hg5; have hof5 := Lib.hid ((HOF.ext (Ext.alloc (Ext.refl _) _)).keep2 (HOS.ext (Ext.alloc (Ext.refl _) _)) findNeStr hg5); have hx5 := Lib.hid ((Ext.alloc hxf _).trans' hb5); clear hb5 hg5))
          go_roundw
          case rel => exact ⟨k + 1, acc ++ [⟨(k : Nat), ra, ri, rn, 5, T⟩], by omega, by go_num, HK2, hof5.out, by rw [Hta2.out]; exact hown5, hx5.out⟩
          case measure => simp [intOf]; omega
        · have d2 : decide (J ≥ 0) = false := decide_eq_false (by have := hneg.2 hm; omega)
          have Hnt2 := Lib.hid (fun w' he => Hnt.out T w' he)
          obtain ⟨Nn, hNn⟩ : ∃ Nn, noteI ks T = Nn := ⟨_, rfl⟩
          rw [hNn] at Hnt2
          have HNn := Lib.hid hNn
          clear hNn hneg
          by_cases hng : Nn < 0
          · have d3 : decide (Nn < 0) = true := decide_eq_true hng
            have HK2 := Lib.hid (show R = (acc ++ [⟨(k : Nat), ra, ri, rn, 4, T⟩]) ++ findW ⟨ra, ri, rn⟩ ks (k + 1) (anchL (wd.take (k + 1))) (wd.drop (k + 1)) ++ (findK ks (anchL wd) 0 kids ++ checkL kids) by rw [Hfw.out, if_pos trivial, HSN.out, if_neg hm, HNn.out, if_pos hng, Hta2.out]; simp)
            clear hm hng
            go_wp2_with fail
            refine (Hpl.out).mono ?_
            rintro e w3 ⟨rfl, rfl⟩
            go_wp2_with fail
            refine (Hnt2.out _ (he1.trans hxw)).mono ?_
            rintro e w3 ⟨rfl, hx3⟩
            replace hof2 := hof2.ext hx3
            replace hos2 := hos2.ext hx3
            replace hxw := hxw.trans hx3
            replace hszw := hxw.size
            clear z0 z1 z2 z3 z4 z5 z6 z7
            obtain ⟨z0, z1, z2, z3, z4, z5, z6, z7⟩ := Hbx.out _ hxw
            go_wp2_with (first | (at_builtin; refine wpList_app findEl rfl _ _ rfl 1 rfl (hof2.ext (Ext.alloc (Ext.refl _) _)) (ys := [⟨(k : Nat), ra, ri, rn, 4, T⟩]) rfl (Sl.new findEl rfl) (by simp; omega) (by simp; omega) ?_; intro v4 w4 hown4 hb4 hg4; have HOS := ((hos2.ext (Ext.alloc (Ext.refl _) _)).keep2 (hof2.ext (Ext.alloc (Ext.refl _) _)) strNeFind hg4); have HOF := hown4; have hxf : Ext wb w4 := (Ext.alloc hxw _).trans' hb4; have hszf := hxf.size; clear hb4 hg4) |
              (at_builtin; refine wpList_app strEl rfl (.tmp 56) (.tmp 58) rfl 1 rfl (HOS.ext (Ext.alloc (Ext.refl _) _)) (ys := [T]) rfl (Sl.new strEl rfl) (by simp; omega) (by simp; omega) ?_; intro v5 w5 hown5 hb5 hg5; have hof5 := Lib.hid ((HOF.ext (Ext.alloc (Ext.refl _) _)).keep2 (HOS.ext (Ext.alloc (Ext.refl _) _)) findNeStr hg5); have hx5 := Lib.hid ((Ext.alloc hxf _).trans' hb5); clear hb5 hg5))
            go_roundw
            case rel => exact ⟨k + 1, acc ++ [⟨(k : Nat), ra, ri, rn, 4, T⟩], by omega, by go_num, HK2, hof5.out, by rw [Hta2.out]; exact hown5, hx5.out⟩
            case measure => simp [intOf]; omega
          · have d3 : decide (Nn < 0) = false := decide_eq_false hng
            have HK2 := Lib.hid (show R = acc ++ findW ⟨ra, ri, rn⟩ ks (k + 1) (anchL (wd.take (k + 1))) (wd.drop (k + 1)) ++ (findK ks (anchL wd) 0 kids ++ checkL kids) by rw [Hfw.out, if_pos trivial, HSN.out, if_neg hm, HNn.out, if_neg hng, Hta2.out]; simp)
            clear hm hng
            go_wp2_with fail
            refine (Hpl.out).mono ?_
            rintro e w3 ⟨rfl, rfl⟩
            go_wp2_with fail
            refine (Hnt2.out _ (he1.trans hxw)).mono ?_
            rintro e w3 ⟨rfl, hx3⟩
            replace hof2 := hof2.ext hx3
            replace hos2 := hos2.ext hx3
            replace hxw := hxw.trans hx3
            have HOF := hof2
            have HOS := hos2
            have hxf := hxw
            have hszf := hxf.size
            go_wp2_with (at_builtin; refine wpList_app strEl rfl (.tmp 56) (.tmp 58) rfl 1 rfl (HOS.ext (Ext.alloc (Ext.refl _) _)) (ys := [T]) rfl (Sl.new strEl rfl) (by simp; omega) (by simp; omega) ?_; intro v5 w5 hown5 hb5 hg5; have hof5 := Lib.hid ((HOF.ext (Ext.alloc (Ext.refl _) _)).keep2 (HOS.ext (Ext.alloc (Ext.refl _) _)) findNeStr hg5); have hx5 := Lib.hid ((Ext.alloc hxf _).trans' hb5); clear hb5 hg5)
            go_roundw
            case rel => exact ⟨k + 1, acc, by omega, by go_num, HK2, hof5.out, by rw [Hta2.out]; exact hown5, hx5.out⟩
            case measure => simp [intOf]; omega
    · have hkw : k = wd.length := by omega
      have hf := Hf.out
      rw [List.take_of_length_le (by omega), List.drop_of_length_le (by omega), findW, List.append_nil] at hf
      have Hf2 : Hid (R = acc ++ findK ks (anchL wd) 0 (kids.drop 0) ++ checkL kids) := Lib.hid (by rw [List.append_assoc]; exact hf)
      rw [List.take_of_length_le (by omega)] at hos hal
      have d1 : decide ((k : Int) < (wd.length : Int)) = false := decide_eq_false (by omega)
      clear hf Hf hkw
      obtain ⟨As, cs, rfl, hcs, -⟩ := hos.form
      obtain ⟨SN, hSN⟩ : ∃ SN, anchL wd = SN := ⟨_, rfl⟩
      rw [hSN] at hos hcs Hf2 hal ⊢
      clear hSN
      clear z0 z1 z2 z3 z4 z5 z6 z7
      obtain ⟨z0, z1, z2, z3, z4, z5, z6, z7⟩ := Hbx.out _ hext
      go_wp2
      go_loopw [3, 8] (fun vo vk wr => ∃ (k : Nat) (acc : List GFind), k ≤ rs.length ∧ vk = .int .i64 (k : Nat) ∧ Hid (R = acc ++ findK ks SN k (kids.drop k) ++ checkL kids) ∧ Own findEl wb.heap.size wr vo acc ∧ Own strEl wb.heap.size wr (.slice As SN.length cs) SN ∧ Ext wb wr) (fun _ vk _ => rs.length - (intOf vk).toNat)
      case atStart => exact ⟨0, acc, Nat.zero_le _, rfl, Hf2, hof, hos, hext⟩
      case round =>
        clear hof hos hext Hf2 z0 z1 z2 z3 z4 z5 z6 z7 hszr hac
        obtain ⟨k, acc, hk, rfl, Hf, hof, hos, hext⟩ := hrel
        have hac : acc.length ≤ 1310000 := by
          have := congrArg List.length Hf.out
          rw [List.length_append, List.length_append] at this
          omega
        obtain ⟨z0, z1, z2, z3, z4, z5, z6, z7⟩ := Hbx.out _ hext
        have hszr := hext.size
        by_cases hlt : k < rs.length
        · have hltk : k < kids.length := by rw [Hl.out]; exact hlt
          have hfk := findK_drop (ks := ks) (seen := SN) hltk
          have hrd := ReadsAll.get Hall.out k hltk hlt
          have hkey := hrd.key
          have hid := Reads.id hrd
          have hls := Hlab.out kids[k] (List.getElem_mem hltk)
          obtain ⟨b, off, rfl, hb, u0, u1, u2, u3, u4, u5, u6, u7⟩ := unitAt (hrs.ext (he1.trans hext)) hlt
          obtain ⟨q, hq⟩ : ∃ q, rs[k] = q := ⟨_, rfl⟩
          rw [hq] at u0 u1 u2 u3 u4 u5 u6 u7 hkey hid
          simp only [keyR, keyU, Prod.mk.injEq] at hkey
          rw [← hkey.1, ← hkey.2, hid] at hfk
          rw [← hkey.2] at hls
          simp only at hfk
          have hbq := fun w' he => (boxUnit (w' := w') q (w := wr) he).2
          have hss : Sl strEl wr As SN := by
            obtain ⟨A', c', hv, -, h⟩ := hos.form
            cases hv
            exact h
          obtain ⟨Nn, hNn⟩ : ∃ Nn, noteI ks q.label = Nn := ⟨_, rfl⟩
          rw [hNn] at hfk
          have hnt2 := fun w' he => Hnt.out q.label w' he
          rw [hNn] at hnt2
          have Hf3 := Lib.hid (Hf.out.trans (by rw [hfk]))
          obtain ⟨qa, qi, qn, qk, s, qh, qhn, qhc, qw, qwn, qwc, qkA, qkn, qkc⟩ := q
          simp only [RUnit.cells] at hbq
          simp only at u0 u1 u2 u3 u4 u5 u6 u7 hls hnt2 Hf3
          have hneg := placeI_neg SN s
          have Hpl := Lib.hid (show ∀ w', Ext wr w' → _ from fun w' he => (place_any As cs SN s w' (hss.ext he) (by omega)).mono (R' := fun e w'' => e = .returned (.int .i64 (placeI SN s)) ∧ Ext w' w'') fun e w'' h => ⟨h.1, h.2 ▸ Ext.refl _⟩)
          obtain ⟨J, hJ⟩ : ∃ J, placeI SN s = J := ⟨_, rfl⟩
          rw [hJ] at Hpl hneg
          have Hnt2 := Lib.hid hnt2
          have Hbq := Lib.hid hbq
          have d1 : decide ((k : Int) < (rs.length : Int)) = true := decide_eq_true (by omega)
          have hxa : Ext wr (wr.alloc (.cells #[.int .i64 qa, .int .i64 qi, .int .i64 qn, .int .i64 qk, .string s, .slice qh qhn qhc, .slice qw qwn qwc, .slice qkA qkn qkc] 27)) := (Ext.refl _).alloc _
          clear hfk hrd hkey hid hq hbq hss hnt2 hNn hJ Hf
          by_cases h7 : qk = 7
          · subst h7
            by_cases hm : s ∈ SN
            · have d2 : decide (J < 0) = false := decide_eq_false (fun h => hneg.1 h hm)
              clear hneg
              go_wp2_with fail
              refine (Hpl.out _ hxa).mono ?_
              rintro e w2 ⟨rfl, hx2⟩
              have hx2w := hxa.trans hx2
              obtain ⟨v0, v1, v2, v3, v4, v5, v6, v7⟩ := Hbq.out _ hx2
              clear z0 z1 z2 z3 z4 z5 z6 z7
              obtain ⟨z0, z1, z2, z3, z4, z5, z6, z7⟩ := Hbx.out _ (hext.trans hx2w)
              by_cases hJk : Nn = k
              · have HF := Lib.hid (show R = acc ++ findK ks SN (k + 1) (kids.drop (k + 1)) ++ checkL kids by rw [Hf3.out, if_neg (by rintro ⟨-, h | h⟩ <;> contradiction)]; simp)
                have e2 : (Nn != (k : Int)) = false := by simp [hJk]
                clear hJk hm
                go_wp2_with fail
                refine (Hnt2.out _ (he1.trans (hext.trans hx2w))).mono ?_
                rintro e w3 ⟨rfl, hx3⟩
                have hof2 := (hof.ext hx2w).ext hx3
                have hos2 := (hos.ext hx2w).ext hx3
                have hxw := (hext.trans hx2w).trans hx3
                go_wp2
                go_roundw
                case rel => exact ⟨k + 1, acc, by omega, by go_num, HF, hof2, hos2, hxw⟩
                case measure => simp [intOf]; omega
              · have HF := Lib.hid (show R = (acc ++ [⟨k, qa, qi, qn, 7, s⟩]) ++ findK ks SN (k + 1) (kids.drop (k + 1)) ++ checkL kids by rw [Hf3.out, if_pos ⟨by trivial, .inr hJk⟩]; simp)
                have e2 : (Nn != (k : Int)) = true := by simp [hJk]
                clear hJk hm
                go_wp2_with fail
                refine (Hnt2.out _ (he1.trans (hext.trans hx2w))).mono ?_
                rintro e w3 ⟨rfl, hx3⟩
                clear v0 v1 v2 v3 v4 v5 v6 v7
                obtain ⟨v0, v1, v2, v3, v4, v5, v6, v7⟩ := Hbq.out _ (hx2.trans hx3)
                have hof2 := (hof.ext hx2w).ext hx3
                have hos2 := (hos.ext hx2w).ext hx3
                have hxw := (hext.trans hx2w).trans hx3
                have hszw := hxw.size
                go_wp2_with (at_builtin; refine wpList_app findEl rfl _ _ rfl 1 rfl (hof2.ext (Ext.alloc (Ext.refl _) _)) (ys := [⟨(k : Nat), qa, qi, qn, 7, s⟩]) rfl (Sl.new findEl rfl) (by simp; omega) (by simp; omega) ?_; intro v4 w4 hown4 hb4 hg4; have hos4 := Lib.hid ((hos2.ext (Ext.alloc (Ext.refl _) _)).keep2 (hof2.ext (Ext.alloc (Ext.refl _) _)) strNeFind hg4); have hx4 := Lib.hid ((Ext.alloc hxw _).trans' hb4); clear hb4 hg4)
                go_roundw
                case rel => exact ⟨k + 1, acc ++ [⟨(k : Nat), qa, qi, qn, 7, s⟩], by omega, by go_num, HF, hown4, hos4.out, hx4.out⟩
                case measure => simp [intOf]; omega
            · have d2 : decide (J < 0) = true := decide_eq_true (hneg.2 hm)
              have HF := Lib.hid (show R = (acc ++ [⟨k, qa, qi, qn, 7, s⟩]) ++ findK ks SN (k + 1) (kids.drop (k + 1)) ++ checkL kids by rw [Hf3.out, if_pos ⟨by trivial, .inl hm⟩]; simp)
              clear hneg hm
              go_wp2_with fail
              refine (Hpl.out _ hxa).mono ?_
              rintro e w2 ⟨rfl, hx2⟩
              have hx2w := hxa.trans hx2
              obtain ⟨v0, v1, v2, v3, v4, v5, v6, v7⟩ := Hbq.out _ hx2
              have hof2 := hof.ext hx2w
              have hos2 := hos.ext hx2w
              have hxw := hext.trans hx2w
              have hszw := hxw.size
              go_wp2_with (at_builtin; refine wpList_app findEl rfl _ _ rfl 1 rfl (hof2.ext (Ext.alloc (Ext.refl _) _)) (ys := [⟨(k : Nat), qa, qi, qn, 7, s⟩]) rfl (Sl.new findEl rfl) (by simp; omega) (by simp; omega) ?_; intro v4 w4 hown4 hb4 hg4; have hos4 := Lib.hid ((hos2.ext (Ext.alloc (Ext.refl _) _)).keep2 (hof2.ext (Ext.alloc (Ext.refl _) _)) strNeFind hg4); have hx4 := Lib.hid ((Ext.alloc hxw _).trans' hb4); clear hb4 hg4)
              go_roundw
              case rel => exact ⟨k + 1, acc ++ [⟨(k : Nat), qa, qi, qn, 7, s⟩], by omega, by go_num, HF, hown4, hos4.out, hx4.out⟩
              case measure => simp [intOf]; omega
          · have HF := Lib.hid (show R = acc ++ findK ks SN (k + 1) (kids.drop (k + 1)) ++ checkL kids by rw [Hf3.out, if_neg (by rintro ⟨h, -⟩; exact h7 h)]; simp)
            have e1 : (qk == 7) = false := by simp [h7]
            have hof2 := hof.ext hxa
            have hos2 := hos.ext hxa
            have hxw := hext.trans hxa
            clear h7 hneg
            go_wp2
            go_roundw
            case rel => exact ⟨k + 1, acc, by omega, by go_num, HF, hof2, hos2, hxw⟩
            case measure => simp [intOf]; omega
        · have hkr : k = rs.length := by omega
          have hf := Hf.out
          rw [List.drop_of_length_le (by rw [Hl.out]; omega), findK, List.append_nil] at hf
          have Hf2 : Hid (R = acc ++ checkL (kids.drop 0)) := Lib.hid hf
          have d1 : decide ((k : Int) < (rs.length : Int)) = false := decide_eq_false (by omega)
          clear hf hkr Hf hos
          go_wp2
          go_loopw [3, 10] (fun vo vk wr => ∃ (k : Nat) (acc : List GFind), k ≤ rs.length ∧ vk = .int .i64 (k : Nat) ∧ Hid (R = acc ++ checkL (kids.drop k)) ∧ Own findEl wb.heap.size wr vo acc ∧ Ext wb wr) (fun _ vk _ => rs.length - (intOf vk).toNat)
          case atStart => exact ⟨0, acc, Nat.zero_le _, rfl, Hf2, hof, hext⟩
          case round =>
            clear hof hext Hf2 z0 z1 z2 z3 z4 z5 z6 z7 hszr hac
            obtain ⟨k, acc, hk, rfl, Hf, hof, hext⟩ := hrel
            obtain ⟨z0, z1, z2, z3, z4, z5, z6, z7⟩ := Hbx.out _ hext
            have hszr := hext.size
            by_cases hlt : k < rs.length
            · have hltk : k < kids.length := by rw [Hl.out]; exact hlt
              have hf := Hf.out
              rw [checkL_drop hltk] at hf
              have hac : acc.length + (checkF kids[k]).length ≤ 1310000 := by
                have := congrArg List.length hf
                rw [List.length_append, List.length_append] at this
                omega
              obtain ⟨b, off, rfl, hb, u0, u1, u2, u3, u4, u5, u6, u7⟩ := unitAt (hrs.ext (he1.trans hext)) hlt
              have hrec := Hih.out kids[k] rs[k] wr (Hsub.out k hltk) (Reads.ext (he1.trans hext) _ _ (ReadsAll.get Hall.out k hltk hlt)) (Hkok.out k hltk)
              obtain ⟨q, hq⟩ : ∃ q, rs[k] = q := ⟨_, rfl⟩
              rw [hq] at u0 u1 u2 u3 u4 u5 u6 u7 hrec
              simp only [RUnit.cells] at hrec
              obtain ⟨C, hC⟩ : ∃ C, checkF kids[k] = C := ⟨_, rfl⟩
              rw [hC] at hf hac hrec
              have Hrec := Lib.hid hrec
              have HF := Lib.hid (show R = (acc ++ C) ++ checkL (kids.drop (k + 1)) by rw [hf, List.append_assoc])
              have d1 : decide ((k : Int) < (rs.length : Int)) = true := decide_eq_true (by omega)
              clear hf hC hrec hq Hf
              go_wp2_with fail
              refine (Hrec.out).mono ?_
              rintro e w2 ⟨v2, rfl, ho2, hx2⟩
              obtain ⟨A2, c2, rfl, hc2, hs2⟩ := ho2.form
              have hsz2 := hx2.size
              clear ho2
              go_wp2_with (at_builtin; refine wpList_app findEl rfl (.tmp 106) (.tmp 112) rfl c2 rfl (hof.ext hx2) rfl hs2 (by omega) (by omega) ?_; intro v4 w4 hown4 hb4 hg4)
              go_roundw
              case rel => exact ⟨k + 1, acc ++ C, by omega, by go_num, HF, hown4, (hext.trans hx2).trans' hb4⟩
              case measure => simp [intOf]; omega
            · have hkr : k = rs.length := by omega
              have hf := Hf.out
              rw [List.drop_of_length_le (by rw [Hl.out]; omega), checkL, List.append_nil] at hf
              have Hf2 := Lib.hid hf
              have d1 : decide ((k : Int) < (rs.length : Int)) = false := decide_eq_false (by omega)
              clear hf hkr
              go_wp2
              go_ret
              exact ⟨_, rfl, by rw [Hf2.out]; exact hof.mono he1.size, he1.trans hext⟩
theorem refCheck_all : ∀ N, RefCheckAt N
  | 0 => fun u _ _ h => by cases u; simp at h
  | N + 1 => refCheck_step N (refCheck_all N)
theorem refCheck_any (u : GUnit) (r : RUnit) (w : World) (hr : Reads w u r) (hok : OkT u) : Calls Tryd.prog 17 #[.agg r.cells.toArray] w (RetOwn findEl w (checkF u)) := refCheck_all _ u r w (Nat.le_refl _) hr hok

end Go.Proofs.YtiacmahfjcolaaaDoor
