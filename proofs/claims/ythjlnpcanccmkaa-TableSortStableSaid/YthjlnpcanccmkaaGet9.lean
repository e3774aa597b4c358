/- Get: the words of a cell, and whether there is one. -/
import Derived.Test.YthjlnpcanccmkaaCol9
namespace Go.Proofs.Ythjlnpcanccmkaa
open Go.RowKit

set_option maxRecDepth 100000 in
set_option maxHeartbeats 400000 in
theorem cloneW_any (A : Option Addr) (c : Nat) (l : List GWord) (w : World) (hs : Sl wordEl w A l) (hn : l.length ≤ 1048576) :
    Calls Try.prog 39 #[.slice A l.length c] w (RetOwn wordEl w l) := by
  have hq := fun W => Lib.run_eql_slice_nil (P := Try.prog) W 24 43 A l.length c 0 0 Try.underlying24
  cases A with
  | none =>
    have h0 : l = [] := by
      cases l with
      | nil => rfl
      | cons x l => obtain ⟨_, _, h, _⟩ := hs (by simp); cases h
    subst h0
    simp only [List.length_nil] at hq
    go_enter Try.func39, Try.ntmps39
    go_wp2
    go_ret
    exact ⟨_, rfl, Own.nil _, Ext.refl _⟩
  | some ad =>
    go_enter Try.func39, Try.ntmps39
    go_wp2_with (at_builtin; refine wpList_app wordEl rfl _ _ rfl c rfl (Own.made wordEl (Nat.le_refl _)) rfl (hs.ext ((Ext.refl _).alloc _)) (by simp; omega) (by simp) ?_; intro v' w1 hown' hb1 hg1)
    go_ret
    exact ⟨_, rfl, hown', ((Ext.refl _).alloc _).trans' hb1⟩

def cellWords (i j : Nat) (u : GUnit) : List GWord := match u.kids[i]? with | some x => (match x.kids[j]? with | some c => c.words | none => []) | none => []
def getF (u : GUnit) (row col : Int) : List GWord := if thereB u row col = true then cellWords row.toNat col.toNat u else []
theorem there_parts2 {u : GUnit} {row col : Int} (h : thereB u row col = true) : validB u = true ∧ 0 ≤ row ∧ row < (u.kids.length : Int) ∧ 0 ≤ col ∧ col < (ncols u : Int) := by
  unfold thereB withinB rowsF colsF at h
  cases hv : validB u with
  | true => simp [hv] at h; exact ⟨rfl, h.1.1, h.1.2, h.2.1, h.2.2⟩
  | false => simp [hv] at h; omega
/-- the way in memory from a table to the words of a cell -/
def PathTo (w : World) (r : RUnit) (i j : Nat) (l : List GWord) : Prop :=
  ∃ b off b2 off2 m mc A c, r.kA = some ⟨b, off, none⟩ ∧ b < w.heap.size ∧ i < r.kn ∧ w.cell? ⟨b, off + i * 8 + 7, none⟩ = some (.slice (some ⟨b2, off2, none⟩) m mc) ∧ b2 < w.heap.size ∧ j < m ∧
    w.cell? ⟨b2, off2 + j * 8 + 6, none⟩ = some (.slice A l.length c) ∧ Sl wordEl w A l ∧ l.length ≤ c
theorem PathTo.ext {w w' : World} {r : RUnit} {i j : Nat} {l : List GWord} (he : Ext w w') (h : PathTo w r i j l) : PathTo w' r i j l := by
  obtain ⟨b, off, b2, off2, m, mc, A, c, h1, h2, h3, h4, h5, h6, h7, h8, h9⟩ := h
  exact ⟨b, off, b2, off2, m, mc, A, c, h1, Nat.lt_of_lt_of_le h2 he.size, h3, (he.cell (p := ⟨b, off + i * 8 + 7, none⟩) h2).trans h4, Nat.lt_of_lt_of_le h5 he.size, h6, (he.cell (p := ⟨b2, off2 + j * 8 + 6, none⟩) h5).trans h7, h8.ext he, h9⟩
theorem cell_path {u : GUnit} {r : RUnit} {i j : Nat} {w : World} (hr : Reads w u r) (ht : thereB u i j = true) : PathTo w r i j (cellWords i j u) := by
  obtain ⟨hvb, h1, h2, h3, h4⟩ := there_parts2 ht
  obtain ⟨-, hv2, hv3, hv4⟩ := validB_parts hvb
  obtain ⟨nc, hnc⟩ : ∃ nc, ncols u = nc := ⟨_, rfl⟩
  rw [hnc] at h4 hv3 hv4
  obtain ⟨a, ii, n, kd, lb, hl, wl, kids⟩ := u
  rw [Reads] at hr
  obtain ⟨-, -, -, hkn, hkc, us, hus, hall⟩ := hr
  have hul := ReadsAll.length hall
  simp only [GUnit.kids] at h2 hv4
  have hi : i < kids.length := by omega
  have hiu : i < us.length := by omega
  have hrow := all_get hv4 i hi
  obtain ⟨-, hrl, -⟩ := rowOk_parts hrow
  have hrdk := ReadsAll.get hall i hi hiu
  obtain ⟨b, off, hA, hb, -, -, -, -, -, -, -, u7⟩ := unitAt hus hiu
  have e2 : cellWords i j (.mk a ii n kd lb hl wl kids) = (match kids[i].kids[j]? with | some c => c.words | none => []) := by
    unfold cellWords
    simp only [GUnit.kids]
    rw [List.getElem?_eq_getElem hi]
  rw [e2]
  obtain ⟨q, hq⟩ : ∃ q, us[i] = q := ⟨_, rfl⟩
  obtain ⟨v, hv⟩ : ∃ v, kids[i] = v := ⟨_, rfl⟩
  rw [hq] at hrdk u7
  rw [hv] at hrdk hrl ⊢
  obtain ⟨va, vi, vn, vk, vl, vh, vw, qks⟩ := v
  rw [Reads] at hrdk
  obtain ⟨-, -, -, hqn, hqc, cs, hcs, hcall⟩ := hrdk
  simp only [GUnit.kids] at hrl ⊢
  have hcl := ReadsAll.length hcall
  have hj : j < qks.length := by omega
  have hjc : j < cs.length := by omega
  rw [List.getElem?_eq_getElem hj]
  have hrc := ReadsAll.get hcall j hj hjc
  obtain ⟨b2, off2, hA2, hb2, -, -, -, -, -, -, v6, -⟩ := unitAt hcs hjc
  obtain ⟨x, hx⟩ : ∃ x, cs[j] = x := ⟨_, rfl⟩
  obtain ⟨y, hy⟩ : ∃ y, qks[j] = y := ⟨_, rfl⟩
  rw [hx] at hrc v6
  rw [hy] at hrc ⊢
  obtain ⟨_, _, _, _, _, _, yw, _⟩ := y
  rw [Reads] at hrc
  obtain ⟨-, -, ⟨hwn, hwc, hws⟩, -⟩ := hrc
  rw [hA2, hqn] at u7
  rw [hwn] at v6
  exact ⟨b, off, b2, off2, _, _, _, _, hA, hb, by rw [hkn]; omega, u7, hb2, by omega, v6, hws, hwc⟩
theorem there_path {u : GUnit} {r : RUnit} {row col : Int} {w : World} (hr : Reads w u r) (ht : thereB u row col = true) : ∃ i j : Nat, row = i ∧ col = j ∧ PathTo w r i j (getF u row col) := by
  obtain ⟨-, h1, -, h3, -⟩ := there_parts2 ht
  obtain ⟨i, rfl⟩ : ∃ i : Nat, row = i := ⟨row.toNat, by omega⟩
  obtain ⟨j, rfl⟩ : ∃ j : Nat, col = j := ⟨col.toNat, by omega⟩
  have hp := cell_path hr ht
  have e1 : getF u i j = cellWords i j u := by simp [getF, ht]
  exact ⟨i, j, rfl, rfl, by rw [e1]; exact hp⟩
theorem getF_len {u : GUnit} (row col : Int) (h : AllU nodeOk u) : (getF u row col).length ≤ 300 := by
  unfold getF
  split
  · unfold cellWords
    split
    · rename_i x hx
      split
      · rename_i c hc
        obtain ⟨a, ii, n, kd, lb, hl, wl, kids⟩ := u
        rw [AllU] at h
        simp only [GUnit.kids] at hx
        obtain ⟨hi, hx⟩ := List.getElem?_eq_some_iff.mp hx
        have h2 := h.2.get _ hi
        rw [hx] at h2
        obtain ⟨_, _, _, _, _, _, _, xk⟩ := x
        rw [AllU] at h2
        simp only [GUnit.kids] at hc
        obtain ⟨hj, hc⟩ := List.getElem?_eq_some_iff.mp hc
        have h3 := h2.2.get _ hj
        rw [hc] at h3
        obtain ⟨_, _, _, _, _, _, _, _⟩ := c
        rw [AllU] at h3
        exact h3.1.2.1
      · simp
    · simp
  · simp

def RetGet (w : World) (l : List GWord) (b : Bool) (e : Ending) (w' : World) : Prop := ∃ v, e = .returned (.tuple #[v, .bool b]) ∧ Own wordEl w.heap.size w' v l ∧ Ext w w'
set_option maxRecDepth 100000 in
set_option maxHeartbeats 1600000 in
theorem get_any (u : GUnit) (r : RUnit) (row col : Int) (w : World) (hr : Reads w u r) (hsm : smallU u) :
    Calls Try.prog 22 #[.agg r.cells.toArray, .int .i64 row, .int .i64 col] w (RetGet w (getF u row col) (thereB u row col)) := by
  have he0 : Ext w (w.alloc (.cells r.cells.toArray 27)) := (Ext.refl _).alloc _
  have hv := there_any u r row col _ (Reads.ext he0 _ _ hr) (smallU_lens hsm)
  have hbu := fun w' he => boxUnit (w' := w') r (w := w) he
  have hlen := getF_len row col hsm.2
  cases hth : thereB u row col with
  | false =>
    have e1 : getF u row col = [] := by simp [getF, hth]
    rw [e1]
    rw [hth] at hv
    simp only [RUnit.cells] at hv he0 ⊢
    have Hv := Lib.hid hv
    clear hv hth e1 hr hbu hlen
    go_enter Try.func22, Try.ntmps22
    go_wp2_with fail
    refine (Hv.out).mono ?_
    rintro e w2 ⟨rfl, hx2⟩
    go_wp2
    go_ret2
    exact ⟨_, rfl, Own.nil _, he0.trans hx2⟩
  | true =>
    obtain ⟨-, h1, -, h3, -⟩ := there_parts2 hth
    obtain ⟨i, rfl⟩ : ∃ i : Nat, row = i := ⟨row.toNat, by omega⟩
    obtain ⟨j, rfl⟩ : ∃ j : Nat, col = j := ⟨col.toNat, by omega⟩
    have hp := cell_path hr hth
    have e1 : getF u i j = cellWords i j u := by simp [getF, hth]
    rw [e1] at hlen ⊢
    rw [hth] at hv
    obtain ⟨l, hl⟩ : ∃ l, cellWords i j u = l := ⟨_, rfl⟩
    rw [hl] at hp hlen ⊢
    obtain ⟨b, off, b2, off2, m, mc, A, c, p1, p2, p3, p4, p5, p6, p7, p8, p9⟩ := hp
    obtain ⟨ra, ri, rn, rk, rl, hdA, hn, hc, wA, wn, wc, kA, kn, kc⟩ := r
    dsimp only at p1 p3
    subst p1
    simp only [RUnit.cells] at hv he0 hbu ⊢
    have Hcl := Lib.hid (fun w' (he : Ext w w') => cloneW_any A c l w' (p8.ext he) (by omega))
    have Hv := Lib.hid hv
    have Hbu := Lib.hid hbu
    have Hp4 := Lib.hid p4
    have Hp7 := Lib.hid p7
    clear hv hth e1 hr hbu hlen h1 h3 hl p4 p7 hsm p8 p9
    go_enter Try.func22, Try.ntmps22
    go_wp2_with fail
    refine (Hv.out).mono ?_
    rintro e w2 ⟨rfl, hx2⟩
    have hx : Ext w w2 := he0.trans hx2
    have f7 := (Hbu.out w2 hx2).2.2.2.2.2.2.2.2
    have u7 := (hx.cell (p := ⟨b, off + i * 8 + 7, none⟩) p2).trans Hp4.out
    have v6 := (hx.cell (p := ⟨b2, off2 + j * 8 + 6, none⟩) p5).trans Hp7.out
    have hb := Nat.lt_of_lt_of_le p2 hx.size
    have hb2 := Nat.lt_of_lt_of_le p5 hx.size
    have d1 : decide ((i : Int) < (kn : Int)) = true := decide_eq_true (by omega)
    have d2 : decide ((j : Int) < (m : Int)) = true := decide_eq_true (by omega)
    go_wp2_with fail
    refine (Hcl.out _ hx).mono ?_
    rintro e w3 ⟨v3, rfl, hown, hx3⟩
    go_wp2
    go_ret2
    exact ⟨_, rfl, hown.mono hx.size, hx.trans hx3⟩

end Go.Proofs.Ythjlnpcanccmkaa
