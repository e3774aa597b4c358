/- Column, of the table and of its reference: the texts of a column's cells. -/
import Derived.Test.YthjlnpcanccmkaaHas9
import Derived.Test.YthjlnpcanccmkaaSays9
namespace Go.Proofs.Ythjlnpcanccmkaa
open Go.RowKit

theorem Own.made' {P : Program} {α : Type} (D : El P α) {w : World} {base n : Nat} (hn : n = w.heap.size) (hb : base ≤ w.heap.size) : Own D base (w.alloc (.cells #[] D.e)) (.slice (some ⟨n, 0, none⟩) 0 0) [] := by
  subst hn
  exact Own.made D hb
/-- the text of a row's cell -/
def cellText (j : Nat) (u : GUnit) : ByteArray := match u.kids[j]? with | some c => sayF c.words | none => ⟨#[]⟩
def columnF (u : GUnit) (col : Int) : List ByteArray := if thereB u 0 col = true then u.kids.map (cellText col.toNat) else []
theorem columnF_length (u : GUnit) (col : Int) : (columnF u col).length ≤ u.kids.length := by
  unfold columnF
  split <;> simp

mutual
theorem small_lens : ∀ (u : GUnit), AllU nodeOk u → cntF u ≤ 61 → AllU (lensLe 300 60) u
  | .mk _ _ c k l hl wl kids, h, hc => by
    rw [AllU] at h ⊢
    rw [cntF] at hc
    have := cntL_len kids
    exact ⟨⟨h.1.1, h.1.2.1, by omega⟩, small_lensL kids h.2 (by omega)⟩
theorem small_lensL : ∀ (us : List GUnit), AllUs nodeOk us → cntL us ≤ 60 → AllUs (lensLe 300 60) us
  | [], _, _ => by rw [AllUs]; trivial
  | u :: us, h, hc => by
    rw [AllUs] at h ⊢
    rw [cntL] at hc
    exact ⟨small_lens u h.1 (by omega), small_lensL us h.2 (by omega)⟩
end
theorem lens_up {a b c d : Nat} (h1 : a ≤ c) (h2 : b ≤ d) : ∀ u, lensLe a b u → lensLe c d u := by
  rintro ⟨_, _, _, _, _, hl, wl, kids⟩ ⟨h3, h4, h5⟩
  exact ⟨by omega, by omega, by omega⟩
theorem smallU_lens {u : GUnit} (h : smallU u) : AllU (lensLe 9223372036854775807 9223372036854775807) u := AllU.mono (lens_up (by omega) (by omega)) _ (small_lens u h.2 (by have := h.1; omega))
theorem thereB_parts {u : GUnit} {col : Int} (h : thereB u 0 col = true) : validB u = true ∧ 0 ≤ col ∧ col < (ncols u : Int) := by
  unfold thereB withinB rowsF colsF at h
  cases hv : validB u with
  | true => simp [hv] at h; exact ⟨rfl, h.2.1, h.2.2⟩
  | false => simp [hv] at h
theorem rowOk_parts {n : Nat} {u : GUnit} (h : rowOk n u = true) : u.kind = 5 ∧ u.kids.length = n ∧ u.kids.all cellOk = true := by
  simp only [rowOk, Bool.and_eq_true, decide_eq_true_eq] at h
  exact ⟨h.1.1, h.1.2, h.2⟩
theorem all_get {p : GUnit → Bool} {l : List GUnit} (h : l.all p = true) (k : Nat) (hk : k < l.length) : p l[k] = true := List.all_eq_true.1 h _ (List.getElem_mem hk)

set_option maxRecDepth 100000 in
set_option maxHeartbeats 3200000 in
theorem column_any (u : GUnit) (r : RUnit) (col : Int) (w : World) (hr : Reads w u r) (hsm : smallU u) :
    Calls Try.prog 17 #[.agg r.cells.toArray, .int .i64 col] w (RetOwn strEl w (columnF u col)) := by
  have he0 : Ext w (w.alloc (.cells r.cells.toArray 27)) := (Ext.refl _).alloc _
  have he9 : Ext w ((w.alloc (.cells r.cells.toArray 27))) := (Ext.refl _).alloc _
  have hv := there_any u r 0 col _ (Reads.ext he9 _ _ hr) (smallU_lens hsm)
  have hbu := fun w' he => boxUnit (w' := w') r (w := w) he
  cases hth : thereB u 0 col with
  | false =>
    have e1 : columnF u col = [] := by simp [columnF, hth]
    rw [e1]
    rw [hth] at hv
    simp only [RUnit.cells] at hv he0 he9 hbu ⊢
    have Hv := Lib.hid hv
    clear hv hth e1 hr hbu
    go_enter Try.func17, Try.ntmps17
    go_wp2_with fail
    refine (Hv.out).mono ?_
    rintro e w2 ⟨rfl, hx2⟩
    go_wp2
    go_ret
    exact ⟨_, rfl, Own.nil _, he9.trans hx2⟩
  | true =>
    obtain ⟨hvb, hc0, hc1⟩ := thereB_parts hth
    obtain ⟨j, rfl⟩ : ∃ j : Nat, col = j := ⟨col.toNat, by omega⟩
    obtain ⟨-, hv2, hv3, hv4⟩ := validB_parts hvb
    have e1 : columnF u j = u.kids.map (cellText j) := by simp [columnF, hth]
    rw [e1]
    rw [hth] at hv
    obtain ⟨nc, hnc⟩ : ∃ nc, ncols u = nc := ⟨_, rfl⟩
    rw [hnc] at hc1 hv3 hv4
    have hsm2 := hsm.2
    obtain ⟨a, i, n, kd, lb, hl, wl, kids⟩ := u
    rw [AllU] at hsm2
    have HSM := Lib.hid hsm2.2
    simp only [GUnit.kids] at hv2 hv4 ⊢
    rw [Reads] at hr
    obtain ⟨-, -, -, hkn, hkc, us, hus, hall⟩ := hr
    obtain ⟨ra, ri, rn, rk, rl, hdA, hn, hc, wA, wn, wc, kA, kn, kc⟩ := r
    dsimp only at hkn hkc hus
    have hul := ReadsAll.length hall
    rw [← hul] at hkn hkc hv2
    subst hkn
    simp only [RUnit.cells] at hv he0 he9 hbu ⊢
    have Hv := Lib.hid hv
    have Hall := Lib.hid hall
    have Hul := Lib.hid hul
    have Hv4 := Lib.hid hv4
    have Hbu := Lib.hid hbu
    obtain ⟨hv2a, hv2b⟩ := hv2
    have hj : j < nc := by omega
    have hj64 : j < 64 := by omega
    clear hv hvb hth e1 hnc hul hall hv4 hsm hsm2 hc0 hc1 hv3 hbu
    go_enter Try.func17, Try.ntmps17
    go_wp2_with fail
    refine (Hv.out).mono ?_
    rintro e wb ⟨rfl, hx1⟩
    have hxb := hx1
    have hwb : Ext w wb := he9.trans hx1
    have f7 := (Hbu.out wb hxb).2.2.2.2.2.2.2.2
    have husb := hus.ext hwb
    go_wp2
    clear f7
    go_loopw [5, 14] (fun out i wr => ∃ k : Nat, k ≤ us.length ∧ i = .int .i64 k ∧ Own strEl wb.heap.size wr out ((kids.take k).map (cellText j)) ∧ Ext wb wr) (fun _ i _ => us.length - (intOf i).toNat)
    case atStart => exact ⟨0, Nat.zero_le _, rfl, Own.nil _, Ext.refl _⟩
    case round =>
      obtain ⟨k, hk, rfl, hown, hext⟩ := hrel
      have hsz := hext.size
      have hszb := hwb.size
      skip
      by_cases hlt : k < us.length
      · have hltk : k < kids.length := by have := Hul.out; omega
        have hrow := all_get Hv4.out k hltk
        obtain ⟨-, hrl, -⟩ := rowOk_parts hrow
        have hnd := HSM.out.get k hltk
        have husw := husb.ext hext
        have hrdk := Reads.ext (hwb.trans hext) _ _ (ReadsAll.get Hall.out k hltk hlt)
        have Htk := Lib.hid (map_take_succ (cellText j) kids k hltk)
        have huw := unitAt husw hlt
        obtain ⟨q, hq⟩ : ∃ q, us[k] = q := ⟨_, rfl⟩
        obtain ⟨v, hv⟩ : ∃ v, kids[k] = v := ⟨_, rfl⟩
        rw [hq] at hrdk huw
        rw [hv] at hrdk hnd hrl Htk
        clear hq hv hrow
        obtain ⟨b, off, hkA2, hb, u0, u1, u2, u3, u4, u5, u6, u7⟩ := huw
        obtain ⟨va, vi, vn, vk, vl, vh, vw, qks⟩ := v
        rw [Reads] at hrdk
        obtain ⟨-, -, -, hqn, hqc, cs, hcs0, hcall⟩ := hrdk
        rw [AllU] at hnd
        simp only [GUnit.kids] at hrl
        have hcl := ReadsAll.length hcall
        have hbq := fun w' he => boxUnit (w' := w') q (w := wr) he
        obtain ⟨qa, qi, qn, qk, ql, qhA, qhn, qhc, qwA, qwn, qwc, qkA, qkn, qkc⟩ := q
        dsimp only at hqn hqc hcs0 u0 u1 u2 u3 u4 u5 u6 u7
        simp only [RUnit.cells] at hbq
        rw [← hcl] at hqn hqc hrl
        subst hqn
        have hjc : j < cs.length := by omega
        have hjq : j < qks.length := by omega
        have htext : cellText j (.mk va vi vn vk vl vh vw qks) = sayF qks[j].words := by
          unfold cellText
          simp only [GUnit.kids]
          rw [List.getElem?_eq_getElem hjq]
        have hrc := ReadsAll.get hcall j hjq hjc
        have hnc := hnd.2.get j hjq
        obtain ⟨x, hx⟩ : ∃ x, cs[j] = x := ⟨_, rfl⟩
        obtain ⟨y, hy⟩ : ∃ y, qks[j] = y := ⟨_, rfl⟩
        have hcw := unitAt hcs0 hjc
        rw [hx] at hrc hcw
        rw [hy] at hrc hnc htext
        obtain ⟨b2, off2, hA2, hb2, v0, v1, v2, v3, v4, v5, v6, v7⟩ := hcw
        have hwl : y.words.length ≤ 300 ∧ ∀ z ∈ y.words, z.t.size ≤ 100 := by
          obtain ⟨_, _, _, _, _, _, yw, _⟩ := y
          rw [AllU] at hnc
          exact ⟨hnc.1.2.1, hnc.1.2.2.2.2⟩
        have Hsay := Lib.hid (show ∀ w', Ext wr w' → _ from fun w' he => says_any y x w' (Reads.ext he _ _ hrc) hwl.1 hwl.2)
        rw [htext] at Htk
        obtain ⟨T, hT⟩ : ∃ T, sayF y.words = T := ⟨_, rfl⟩
        rw [hT] at Hsay Htk
        have hc1 : ((kids.take k).map (cellText j)).length + 1 ≤ 68719476736 := by rw [List.length_map, List.length_take]; omega
        have djc : decide ((j : Int) < (cs.length : Int)) = true := decide_eq_true (by omega)
        cases hkA2
        subst hA2
        obtain ⟨xa, xi, xn, xk, xl, xhA, xhn, xhc, xwA, xwn, xwc, xkA, xkn, xkc⟩ := x
        dsimp only at v0 v1 v2 v3 v4 v5 v6 v7
        clear hcall hcl hrc hnc hnd hwl htext hrl hT hx hy hcs0
        have Hbq := Lib.hid hbq
        clear hbq
        obtain ⟨wo, hwo⟩ : ∃ wo, wr.alloc (.cells #[.int .i64 qa, .int .i64 qi, .int .i64 qn, .int .i64 qk, .string ql, .slice qhA qhn qhc, .slice qwA qwn qwc, .slice (some ⟨b2, off2, none⟩) cs.length qkc] 27) = wo := ⟨_, rfl⟩
        have Hwo := Lib.hid hwo
        have hxo : Ext wr wo := by rw [← hwo]; exact (Ext.refl _).alloc _
        have hcs := hxo.size
        have g7 := (Hbq.out _ (by rw [hwo]; exact Ext.refl _)).2.2.2.2.2.2.2.2
        have t0 := (hxo.cell (p := ⟨b2, off2 + j * 8, none⟩) hb2).trans v0
        have t1 := (hxo.cell (p := ⟨b2, off2 + j * 8 + 1, none⟩) hb2).trans v1
        have t2 := (hxo.cell (p := ⟨b2, off2 + j * 8 + 2, none⟩) hb2).trans v2
        have t3 := (hxo.cell (p := ⟨b2, off2 + j * 8 + 3, none⟩) hb2).trans v3
        have t4 := (hxo.cell (p := ⟨b2, off2 + j * 8 + 4, none⟩) hb2).trans v4
        have t5 := (hxo.cell (p := ⟨b2, off2 + j * 8 + 5, none⟩) hb2).trans v5
        have t6 := (hxo.cell (p := ⟨b2, off2 + j * 8 + 6, none⟩) hb2).trans v6
        have t7 := (hxo.cell (p := ⟨b2, off2 + j * 8 + 7, none⟩) hb2).trans v7
        rw [← Hwo.out] at g7 t0 t1 t2 t3 t4 t5 t6 t7
        clear hwo v0 v1 v2 v3 v4 v5 v6 v7
        have Hsay2 := Lib.hid (Hsay.out wo hxo)
        simp only [RUnit.cells] at Hsay2
        go_wp2_with fail
        rw [Hwo.out]
        refine (Hsay2.out).mono ?_
        rintro e w2 ⟨rfl, hx2⟩
        have hx3 := hxo.trans hx2
        have hsz2 := hx3.size
        clear t0 t1 t2 t3 t4 t5 t6 t7 g7 u0 u1 u2 u3 u4 u5 u6 u7
        go_wp2_with (at_builtin; refine wpList_app strEl rfl _ _ rfl 1 rfl ((hown.ext hx3).ext (Ext.alloc (Ext.refl _) _)) (ys := [T]) rfl (Sl.new strEl rfl) hc1 (by simp; omega) ?_; intro v' w3 hown' hb3 hg3)
        have hx4 : Ext wb w3 := ((hext.trans hx3).alloc _).trans' hb3
        go_wp2
        go_roundw
        case rel => exact ⟨k + 1, by omega, by go_num, by rw [Htk.out]; exact hown', hx4⟩
        case measure => simp [intOf]; omega
      · obtain rfl : k = us.length := by omega
        rw [Hul.out, List.take_length] at hown
        go_wp2
        go_ret
        exact ⟨_, rfl, hown.mono hwb.size, hwb.trans hext⟩

set_option maxRecDepth 100000 in
set_option maxHeartbeats 3200000 in
theorem refColumn_any (u : GUnit) (r : RUnit) (col : Int) (w : World) (hr : Reads w u r) (hsm : smallU u) :
    Calls Try.prog 18 #[.agg r.cells.toArray, .int .i64 col] w (RetOwn strEl w (columnF u col)) := by
  have he0 : Ext w (w.alloc (.cells r.cells.toArray 27)) := (Ext.refl _).alloc _
  have he9 : Ext w ((w.alloc (.cells r.cells.toArray 27)).alloc (.cells #[] 9)) := ((Ext.refl _).alloc _).alloc _
  have hv := has_any u r 0 col _ (Reads.ext he9 _ _ hr) (smallU_lens hsm)
  have hbu := fun w' he => boxUnit (w' := w') r (w := w) he
  cases hth : thereB u 0 col with
  | false =>
    have e1 : columnF u col = [] := by simp [columnF, hth]
    rw [e1]
    rw [hth] at hv
    simp only [RUnit.cells] at hv he0 he9 hbu ⊢
    have Hv := Lib.hid hv
    clear hv hth e1 hr hbu
    go_enter Try.func18, Try.ntmps18
    go_wp2_with fail
    refine (Hv.out).mono ?_
    rintro e w2 ⟨rfl, hx2⟩
    go_wp2
    go_ret
    exact ⟨_, rfl, ((Own.made' (base := w.heap.size) (n := w.heap.size + 1) strEl (by simp) (by simp)).ext hx2), he9.trans hx2⟩
  | true =>
    obtain ⟨hvb, hc0, hc1⟩ := thereB_parts hth
    obtain ⟨j, rfl⟩ : ∃ j : Nat, col = j := ⟨col.toNat, by omega⟩
    obtain ⟨-, hv2, hv3, hv4⟩ := validB_parts hvb
    have e1 : columnF u j = u.kids.map (cellText j) := by simp [columnF, hth]
    rw [e1]
    rw [hth] at hv
    obtain ⟨nc, hnc⟩ : ∃ nc, ncols u = nc := ⟨_, rfl⟩
    rw [hnc] at hc1 hv3 hv4
    have hsm2 := hsm.2
    obtain ⟨a, i, n, kd, lb, hl, wl, kids⟩ := u
    rw [AllU] at hsm2
    have HSM := Lib.hid hsm2.2
    simp only [GUnit.kids] at hv2 hv4 ⊢
    rw [Reads] at hr
    obtain ⟨-, -, -, hkn, hkc, us, hus, hall⟩ := hr
    obtain ⟨ra, ri, rn, rk, rl, hdA, hn, hc, wA, wn, wc, kA, kn, kc⟩ := r
    dsimp only at hkn hkc hus
    have hul := ReadsAll.length hall
    rw [← hul] at hkn hkc hv2
    subst hkn
    simp only [RUnit.cells] at hv he0 he9 hbu ⊢
    have Hv := Lib.hid hv
    have Hall := Lib.hid hall
    have Hul := Lib.hid hul
    have Hv4 := Lib.hid hv4
    have Hbu := Lib.hid hbu
    obtain ⟨hv2a, hv2b⟩ := hv2
    have hj : j < nc := by omega
    have hj64 : j < 64 := by omega
    clear hv hvb hth e1 hnc hul hall hv4 hsm hsm2 hc0 hc1 hv3 hbu
    obtain ⟨wb, hwb0⟩ : ∃ wb, w.alloc (.cells #[.int .i64 ra, .int .i64 ri, .int .i64 rn, .int .i64 rk, .string rl, .slice hdA hn hc, .slice wA wn wc, .slice kA us.length kc] 27) = wb := ⟨_, rfl⟩
    have hbs : wb.heap.size = w.heap.size + 1 := by rw [← hwb0]; simp
    rw [hwb0] at he0 he9 Hv Hbu
    have hmade := Own.made (base := wb.heap.size) strEl (w := wb) (Nat.le_refl _)
    rw [hbs] at hmade
    have Hmade := Lib.hid hmade
    have Hwb := Lib.hid hwb0
    have Hbs := Lib.hid hbs
    have hwb : Ext w wb := he0
    clear hmade hwb0 hbs
    go_enter Try.func18, Try.ntmps18
    go_wp2_with fail
    rw [Hwb.out]
    refine (Hv.out).mono ?_
    rintro e wc ⟨rfl, hx1⟩
    have hxc : Ext wb wc := ((Ext.refl wb).alloc _).trans hx1
    have hown0 := (Hmade.out).ext hx1
    rw [← Hbs.out] at hown0
    have Hown0 := Lib.hid hown0
    clear hown0
    have husb := hus.ext hwb
    have f7 := (Hbu.out wc hxc).2.2.2.2.2.2.2.2
    go_wp2
    clear f7
    go_loopw [5, 6] (fun out i wr => ∃ k : Nat, k ≤ us.length ∧ i = .int .i64 k ∧ Own strEl wb.heap.size wr out ((kids.take k).map (cellText j)) ∧ Ext wb wr) (fun _ i _ => us.length - (intOf i).toNat)
    case atStart => exact ⟨0, Nat.zero_le _, rfl, by have := Hown0.out; rw [Hbs.out] at this ⊢; exact this, hxc⟩
    case round =>
      obtain ⟨k, hk, rfl, hown, hext⟩ := hrel
      have hsz := hext.size
      have hszb := hwb.size
      have f7 := (Hbu.out _ hext).2.2.2.2.2.2.2.2
      by_cases hlt : k < us.length
      · have hltk : k < kids.length := by have := Hul.out; omega
        have hrow := all_get Hv4.out k hltk
        obtain ⟨-, hrl, -⟩ := rowOk_parts hrow
        have hnd := HSM.out.get k hltk
        have husw := husb.ext hext
        have hrdk := Reads.ext (hwb.trans hext) _ _ (ReadsAll.get Hall.out k hltk hlt)
        have Htk := Lib.hid (map_take_succ (cellText j) kids k hltk)
        have huw := unitAt husw hlt
        obtain ⟨q, hq⟩ : ∃ q, us[k] = q := ⟨_, rfl⟩
        obtain ⟨v, hv⟩ : ∃ v, kids[k] = v := ⟨_, rfl⟩
        rw [hq] at hrdk huw
        rw [hv] at hrdk hnd hrl Htk
        clear hq hv hrow
        obtain ⟨b, off, hkA2, hb, u0, u1, u2, u3, u4, u5, u6, u7⟩ := huw
        obtain ⟨va, vi, vn, vk, vl, vh, vw, qks⟩ := v
        rw [Reads] at hrdk
        obtain ⟨-, -, -, hqn, hqc, cs, hcs0, hcall⟩ := hrdk
        rw [AllU] at hnd
        simp only [GUnit.kids] at hrl
        have hcl := ReadsAll.length hcall
        have hbq := fun w' he => boxUnit (w' := w') q (w := wr) he
        obtain ⟨qa, qi, qn, qk, ql, qhA, qhn, qhc, qwA, qwn, qwc, qkA, qkn, qkc⟩ := q
        dsimp only at hqn hqc hcs0 u0 u1 u2 u3 u4 u5 u6 u7
        simp only [RUnit.cells] at hbq
        rw [← hcl] at hqn hqc hrl
        subst hqn
        have hjc : j < cs.length := by omega
        have hjq : j < qks.length := by omega
        have htext : cellText j (.mk va vi vn vk vl vh vw qks) = sayF qks[j].words := by
          unfold cellText
          simp only [GUnit.kids]
          rw [List.getElem?_eq_getElem hjq]
        have hrc := ReadsAll.get hcall j hjq hjc
        have hnc := hnd.2.get j hjq
        obtain ⟨x, hx⟩ : ∃ x, cs[j] = x := ⟨_, rfl⟩
        obtain ⟨y, hy⟩ : ∃ y, qks[j] = y := ⟨_, rfl⟩
        have hcw := unitAt hcs0 hjc
        rw [hx] at hrc hcw
        rw [hy] at hrc hnc htext
        obtain ⟨b2, off2, hA2, hb2, v0, v1, v2, v3, v4, v5, v6, v7⟩ := hcw
        have hwl : y.words.length ≤ 300 ∧ ∀ z ∈ y.words, z.t.size ≤ 100 := by
          obtain ⟨_, _, _, _, _, _, yw, _⟩ := y
          rw [AllU] at hnc
          exact ⟨hnc.1.2.1, hnc.1.2.2.2.2⟩
        have hxw : x.wn = y.words.length ∧ Sl wordEl wr x.wA y.words := by
          obtain ⟨_, _, _, _, _, _, yw, _⟩ := y
          rw [Reads] at hrc
          exact ⟨hrc.2.2.1.1, hrc.2.2.1.2.2⟩
        obtain ⟨hxn, hxs⟩ := hxw
        rw [hxn] at v6
        have Hsay := Lib.hid (show ∀ w', Ext wr w' → _ from fun w' he => say_any x.wA x.wc y.words w' (hxs.ext he) hwl.1 hwl.2)
        rw [htext] at Htk
        obtain ⟨T, hT⟩ : ∃ T, sayF y.words = T := ⟨_, rfl⟩
        rw [hT] at Hsay Htk
        have hc1 : ((kids.take k).map (cellText j)).length + 1 ≤ 68719476736 := by rw [List.length_map, List.length_take]; omega
        have djc : decide ((j : Int) < (cs.length : Int)) = true := decide_eq_true (by omega)
        cases hkA2
        subst hA2
        skip
        clear hcall hcl hrc hnc hnd hwl htext hrl hT hx hy hcs0 hxn hxs
        clear u0 u1 u2 u3 u4 u5 u6 v0 v1 v2 v3 v4 v5 v7 hbq
        go_wp2_with fail
        refine (Hsay.out _ (Ext.refl _)).mono ?_
        rintro e w2 ⟨rfl, hx3⟩
        have hsz2 := hx3.size
        clear u7 v6 f7
        go_wp2_with (at_builtin; refine wpList_app strEl rfl _ _ rfl 1 rfl ((hown.ext hx3).ext (Ext.alloc (Ext.refl _) _)) (ys := [T]) rfl (Sl.new strEl rfl) hc1 (by simp; omega) ?_; intro v' w3 hown' hb3 hg3)
        have hx4 : Ext wb w3 := ((hext.trans hx3).alloc _).trans' hb3
        go_wp2
        go_roundw
        case rel => exact ⟨k + 1, by omega, by go_num, by rw [Htk.out]; exact hown', hx4⟩
        case measure => simp [intOf]; omega
      · obtain rfl : k = us.length := by omega
        rw [Hul.out, List.take_length] at hown
        go_wp2
        go_ret
        exact ⟨_, rfl, hown.mono hwb.size, hwb.trans hext⟩

end Go.Proofs.Ythjlnpcanccmkaa
