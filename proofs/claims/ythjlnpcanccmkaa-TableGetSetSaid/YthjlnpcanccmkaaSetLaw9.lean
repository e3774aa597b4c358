/- What a table with other words in a cell answers: plain laws on Set and Get. -/
import Derived.Test.YthjlnpcanccmkaaRefSet9
import Derived.Test.YthjlnpcanccmkaaSame9
namespace Go.Proofs.Ythjlnpcanccmkaa
open Go.RowKit

/-- the parts of a table that has the cell (i, j) -/
theorem there_open {u : GUnit} {i j : Nat} (h : thereB u i j = true) : ∃ a ii n kd lb hl wl kids va vi vn vk vl vh vw cells, ∃ (hi : i < kids.length) (hj : j < cells.length), u = .mk a ii n kd lb hl wl kids ∧ kids[i] = .mk va vi vn vk vl vh vw cells := by
  obtain ⟨hvb, h1, h2, h3, h4⟩ := there_parts2 h
  obtain ⟨-, hv2, hv3, hv4⟩ := validB_parts hvb
  obtain ⟨nc, hnc⟩ : ∃ nc, ncols u = nc := ⟨_, rfl⟩
  rw [hnc] at h4 hv3 hv4
  obtain ⟨a, ii, n, kd, lb, hl, wl, kids⟩ := u
  simp only [GUnit.kids] at h2 hv4
  have hi : i < kids.length := by omega
  obtain ⟨-, hrl, -⟩ := rowOk_parts (all_get hv4 i hi)
  obtain ⟨v, hv⟩ : ∃ v, kids[i] = v := ⟨_, rfl⟩
  rw [hv] at hrl
  obtain ⟨va, vi, vn, vk, vl, vh, vw, cells⟩ := v
  simp only [GUnit.kids] at hrl
  exact ⟨a, ii, n, kd, lb, hl, wl, kids, va, vi, vn, vk, vl, vh, vw, cells, hi, by omega, rfl, hv⟩
theorem setU_open {a ii n kd : Int} {lb : ByteArray} {hl wl : List GWord} {kids : List GUnit} {va vi vn vk : Int} {vl : ByteArray} {vh vw : List GWord} {cells : List GUnit} {i j : Nat} (hi : i < kids.length) (hj : j < cells.length) (hk : kids[i] = .mk va vi vn vk vl vh vw cells) (l : List GWord) :
    setU (.mk a ii n kd lb hl wl kids) i j l = .mk a ii n kd lb hl wl (kids.set i (.mk va vi vn vk vl vh vw (cells.set j (setWords l cells[j])))) := by
  unfold setU
  rw [modKid_eq hi, hk, modKid_eq hj]
theorem setWords_kids (l : List GWord) (u : GUnit) : (setWords l u).kids = u.kids ∧ (setWords l u).kind = u.kind ∧ (setWords l u).words = l := by
  obtain ⟨_, _, _, _, _, _, _, _⟩ := u
  exact ⟨rfl, rfl, rfl⟩
theorem cellOk_setWords (l : List GWord) (u : GUnit) : cellOk (setWords l u) = cellOk u := by
  unfold cellOk
  rw [(setWords_kids l u).1, (setWords_kids l u).2.1]
theorem all_set {α : Type} {p : α → Bool} : ∀ {l : List α} {i : Nat} {x : α}, l.all p = true → p x = true → (l.set i x).all p = true
  | [], _, _, _, _ => by simp
  | y :: l, 0, x, h, hx => by
    simp only [List.all_cons, Bool.and_eq_true] at h
    simp [hx, h.2]
  | y :: l, i + 1, x, h, hx => by
    simp only [List.all_cons, Bool.and_eq_true] at h
    rw [List.set_cons_succ, List.all_cons, h.1, Bool.true_and]
    exact all_set h.2 hx
theorem set_valid {u : GUnit} {i j : Nat} (h : thereB u i j = true) (l : List GWord) : validB (setU u i j l) = true ∧ (setU u i j l).kids.length = u.kids.length ∧ ncols (setU u i j l) = ncols u := by
  obtain ⟨hvb, -⟩ := there_parts2 h
  obtain ⟨v1, v2, v3, v4⟩ := validB_parts hvb
  obtain ⟨a, ii, n, kd, lb, hl, wl, kids, va, vi, vn, vk, vl, vh, vw, cells, hi, hj, rfl, hk⟩ := there_open h
  rw [setU_open hi hj hk]
  have hr := rowOk_parts (all_get v4 i hi)
  simp only [GUnit.kids] at hr v2 v4
  have hncl : ncols (.mk a ii n kd lb hl wl (kids.set i (.mk va vi vn vk vl vh vw (cells.set j (setWords l cells[j]))))) = ncols (.mk a ii n kd lb hl wl kids) := by
    unfold ncols
    simp only [GUnit.kids]
    cases kids with
    | nil => simp at hi
    | cons x xs =>
      cases i with
      | zero =>
        simp only [List.getElem_cons_zero] at hk
        subst hk
        simp [GUnit.kids]
      | succ i => rfl
  refine ⟨?_, by simp [GUnit.kids], hncl⟩
  unfold validB
  rw [hncl]
  simp only [GUnit.kids, GUnit.kind, List.length_set, Bool.and_eq_true, decide_eq_true_eq] at v1 ⊢
  refine ⟨⟨⟨decide_eq_true v1, by simp [manyB]; omega⟩, by simp [manyB]; omega⟩, all_set v4 ?_⟩
  rw [hk] at hr
  simp only [GUnit.kids, GUnit.kind] at hr
  unfold rowOk
  simp only [GUnit.kids, GUnit.kind, List.length_set, Bool.and_eq_true, decide_eq_true_eq]
  refine ⟨⟨decide_eq_true hr.1, hr.2.1⟩, all_set hr.2.2 ?_⟩
  rw [cellOk_setWords]
  exact List.all_eq_true.1 hr.2.2 _ (List.getElem_mem hj)
theorem set_there {u : GUnit} {i j : Nat} (h : thereB u i j = true) (l : List GWord) (a b : Int) : thereB (setU u i j l) a b = thereB u a b := by
  obtain ⟨h1, h2, h3⟩ := set_valid h l
  obtain ⟨hvb, -⟩ := there_parts2 h
  unfold thereB rowsF colsF
  rw [h1, hvb, h2, h3]
theorem set_words_same {u : GUnit} {i j : Nat} (h : thereB u i j = true) (l : List GWord) : cellWords i j (setU u i j l) = l := by
  obtain ⟨a, ii, n, kd, lb, hl, wl, kids, va, vi, vn, vk, vl, vh, vw, cells, hi, hj, rfl, hk⟩ := there_open h
  rw [setU_open hi hj hk]
  simp only [cellWords, GUnit.kids, List.getElem?_set_self hi, List.getElem?_set_self hj]
  exact (setWords_kids l _).2.2
theorem set_words_other {u : GUnit} {i j : Nat} (h : thereB u i j = true) (l : List GWord) {a b : Nat} (hab : ¬ (a = i ∧ b = j)) : cellWords a b (setU u i j l) = cellWords a b u := by
  obtain ⟨_, ii, n, kd, lb, hl, wl, kids, va, vi, vn, vk, vl, vh, vw, cells, hi, hj, rfl, hk⟩ := there_open h
  rw [setU_open hi hj hk]
  simp only [cellWords, GUnit.kids, List.getElem?_set]
  by_cases h1 : i = a
  · subst h1
    have h2 : j ≠ b := fun e => hab ⟨rfl, e.symm⟩
    rw [if_pos rfl, if_pos hi]
    simp only [List.getElem?_eq_getElem hi, hk]
    rw [List.getElem?_set, if_neg h2]
  · rw [if_neg h1]
theorem getF_set_same {u : GUnit} {i j : Nat} (h : thereB u i j = true) (l : List GWord) : getF (setU u i j l) i j = l := by
  unfold getF
  rw [set_there h, h, if_pos rfl]
  exact set_words_same h l
theorem getF_set_other {u : GUnit} {i j : Nat} (h : thereB u i j = true) (l : List GWord) {a b : Int} (hab : ¬ (a = i ∧ b = j)) : getF (setU u i j l) a b = getF u a b := by
  unfold getF
  rw [set_there h]
  by_cases h2 : thereB u a b = true
  · rw [if_pos h2, if_pos h2]
    obtain ⟨-, h3, -, h5, -⟩ := there_parts2 h2
    exact set_words_other h l fun e => hab ⟨by omega, by omega⟩
  · rw [if_neg h2, if_neg h2]
theorem AllUs.set {p : GUnit → Prop} : ∀ {us : List GUnit} {i : Nat} {x : GUnit}, AllUs p us → AllU p x → AllUs p (us.set i x)
  | [], _, _, h, _ => by simpa using h
  | u :: us, 0, x, h, hx => by
    rw [AllUs] at h
    rw [List.set_cons_zero, AllUs]
    exact ⟨hx, h.2⟩
  | u :: us, i + 1, x, h, hx => by
    rw [AllUs] at h
    rw [List.set_cons_succ, AllUs]
    exact ⟨h.1, AllUs.set h.2 hx⟩
theorem set_lens {m q : Nat} {u : GUnit} {i j : Nat} (h : thereB u i j = true) {l : List GWord} (hl : l.length ≤ m) (hA : AllU (lensLe m q) u) : AllU (lensLe m q) (setU u i j l) := by
  obtain ⟨_, ii, n, kd, lb, hh, wl, kids, va, vi, vn, vk, vl, vh, vw, cells, hi, hj, rfl, hk⟩ := there_open h
  rw [setU_open hi hj hk]
  rw [AllU] at hA ⊢
  have hki := hA.2.get i hi
  rw [hk, AllU] at hki
  refine ⟨⟨hA.1.1, hA.1.2.1, by rw [List.length_set]; exact hA.1.2.2⟩, hA.2.set ?_⟩
  rw [AllU]
  refine ⟨⟨hki.1.1, hki.1.2.1, by rw [List.length_set]; exact hki.1.2.2⟩, hki.2.set ?_⟩
  have hcj := hki.2.get j hj
  obtain ⟨c, hc⟩ : ∃ c, cells[j] = c := ⟨_, rfl⟩
  rw [hc] at hcj ⊢
  obtain ⟨_, _, _, _, _, _, _, _⟩ := c
  unfold setWords
  rw [AllU] at hcj ⊢
  exact ⟨⟨hcj.1.1, hl, hcj.1.2.2⟩, hcj.2⟩
theorem getF_wide {u : GUnit} (row col : Int) {m q : Nat} (h : AllU (lensLe m q) u) : (getF u row col).length ≤ m := by
  unfold getF
  split
  · unfold cellWords
    split
    · rename_i x hx
      split
      · rename_i c hc
        obtain ⟨a, ii, n, kd, lb, hl, wl, kids⟩ := u
        rw [AllU] at h
        simp only [GUnit.kids] at hx
        obtain ⟨hi, hx⟩ := List.getElem?_eq_some_iff.mp hx
        have h2 := h.2.get _ hi
        rw [hx] at h2
        obtain ⟨_, _, _, _, _, _, _, xk⟩ := x
        rw [AllU] at h2
        simp only [GUnit.kids] at hc
        obtain ⟨hj, hc⟩ := List.getElem?_eq_some_iff.mp hc
        have h3 := h2.2.get _ hj
        rw [hc] at h3
        obtain ⟨_, _, _, _, _, _, _, _⟩ := c
        rw [AllU] at h3
        exact h3.1.2.1
      · simp
    · simp
  · simp

set_option maxRecDepth 100000 in
set_option maxHeartbeats 1600000 in
theorem get_wide (u : GUnit) (r : RUnit) (row col : Int) (w : World) (hr : Reads w u r) (hA : AllU (lensLe 1048576 1048576) u) :
    Calls Try.prog 22 #[.agg r.cells.toArray, .int .i64 row, .int .i64 col] w (RetGet w (getF u row col) (thereB u row col)) := by
  have he0 : Ext w (w.alloc (.cells r.cells.toArray 27)) := (Ext.refl _).alloc _
  have hv := there_any u r row col _ (Reads.ext he0 _ _ hr) (AllU.mono (lens_up (by omega) (by omega)) _ hA)
  have hbu := fun w' he => boxUnit (w' := w') r (w := w) he
  have hlen := getF_wide row col hA
  cases hth : thereB u row col with
  | false =>
    have e1 : getF u row col = [] := by simp [getF, hth]
    rw [e1]
    rw [hth] at hv
    simp only [RUnit.cells] at hv he0 ⊢
    have Hv := Lib.hid hv
    clear hv hth e1 hr hbu hlen
    go_enter Try.func22, Try.ntmps22
    go_wp2_with fail
    refine (Hv.out).mono ?_
    rintro e w2 ⟨rfl, hx2⟩
    go_wp2
    go_ret2
    exact ⟨_, rfl, Own.nil _, he0.trans hx2⟩
  | true =>
    obtain ⟨-, h1, -, h3, -⟩ := there_parts2 hth
    obtain ⟨i, rfl⟩ : ∃ i : Nat, row = i := ⟨row.toNat, by omega⟩
    obtain ⟨j, rfl⟩ : ∃ j : Nat, col = j := ⟨col.toNat, by omega⟩
    have hp := cell_path hr hth
    have e1 : getF u i j = cellWords i j u := by simp [getF, hth]
    rw [e1] at hlen ⊢
    rw [hth] at hv
    obtain ⟨l, hl⟩ : ∃ l, cellWords i j u = l := ⟨_, rfl⟩
    rw [hl] at hp hlen ⊢
    obtain ⟨b, off, b2, off2, m, mc, A, c, p1, p2, p3, p4, p5, p6, p7, p8, p9⟩ := hp
    obtain ⟨ra, ri, rn, rk, rl, hdA, hn, hc, wA, wn, wc, kA, kn, kc⟩ := r
    dsimp only at p1 p3
    subst p1
    simp only [RUnit.cells] at hv he0 hbu ⊢
    have Hcl := Lib.hid (fun w' (he : Ext w w') => cloneW_any A c l w' (p8.ext he) (by omega))
    have Hv := Lib.hid hv
    have Hbu := Lib.hid hbu
    have Hp4 := Lib.hid p4
    have Hp7 := Lib.hid p7
    clear hv hth e1 hr hbu hlen h1 h3 hl p4 p7 hA p8 p9
    go_enter Try.func22, Try.ntmps22
    go_wp2_with fail
    refine (Hv.out).mono ?_
    rintro e w2 ⟨rfl, hx2⟩
    have hx : Ext w w2 := he0.trans hx2
    have f7 := (Hbu.out w2 hx2).2.2.2.2.2.2.2.2
    have u7 := (hx.cell (p := ⟨b, off + i * 8 + 7, none⟩) p2).trans Hp4.out
    have v6 := (hx.cell (p := ⟨b2, off2 + j * 8 + 6, none⟩) p5).trans Hp7.out
    have hb := Nat.lt_of_lt_of_le p2 hx.size
    have hb2 := Nat.lt_of_lt_of_le p5 hx.size
    have d1 : decide ((i : Int) < (kn : Int)) = true := decide_eq_true (by omega)
    have d2 : decide ((j : Int) < (m : Int)) = true := decide_eq_true (by omega)
    go_wp2_with fail
    refine (Hcl.out _ hx).mono ?_
    rintro e w3 ⟨v3, rfl, hown, hx3⟩
    go_wp2
    go_ret2
    exact ⟨_, rfl, hown.mono hx.size, hx.trans hx3⟩

end Go.Proofs.Ythjlnpcanccmkaa
