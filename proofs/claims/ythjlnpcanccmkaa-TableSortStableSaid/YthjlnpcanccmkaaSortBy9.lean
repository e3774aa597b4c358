/- SortByColumn: the table with its rows sorted by a column. -/
import Derived.Test.YthjlnpcanccmkaaSortF9
import Derived.Test.YthjlnpcanccmkaaSet9
import Derived.Test.YthjlnpcanccmkaaFmtF9
namespace Go.Proofs.Ythjlnpcanccmkaa
open Go.RowKit

section
variable {α : Type} {lt : α → α → Bool}
def insL (lt : α → α → Bool) (x : α) : List α → List α
  | [] => [x]
  | y :: r => if lt x y = true then x :: y :: r else y :: insL lt x r
theorem insL_ok (hw : Wk lt) (x : α) : ∀ l : List α, Srt lt l → Srt lt (insL lt x l) ∧ SO lt (l ++ [x]) (insL lt x l)
  | [], _ => ⟨Srt.one x, SO.refl _⟩
  | y :: r, h => by
    have h' := List.pairwise_cons.1 h
    unfold insL
    by_cases hxy : lt x y = true
    · rw [if_pos hxy]
      have hall : ∀ z ∈ y :: r, lt x z = true := fun z hz => by
        rcases List.mem_cons.1 hz with rfl | hz
        · exact hxy
        · cases hxz : lt x z with
          | true => rfl
          | false => rw [hw.nt x z y hxz (h'.1 z hz)] at hxy; cases hxy
      exact ⟨List.pairwise_cons.2 ⟨fun z hz => hw.asy (hall z hz), h⟩, SO.swap hw fun z hz v hv => by simp at hv; subst hv; exact hall z hz⟩
    · rw [if_neg hxy]
      obtain ⟨k1, k2⟩ := insL_ok hw x r h'.2
      refine ⟨List.pairwise_cons.2 ⟨fun z hz => ?_, k1⟩, (SO.refl [y]).append k2⟩
      have := k2.perm.mem_iff.2 hz
      rcases List.mem_append.1 this with hz | hz
      · exact h'.1 z hz
      · simp at hz; subst hz; simpa using hxy
def sortL (lt : α → α → Bool) (l : List α) : List α := l.foldl (fun acc x => insL lt x acc) []
theorem sortL_from (hw : Wk lt) : ∀ (l a0 acc : List α), Srt lt acc → SO lt a0 acc → Srt lt (l.foldl (fun acc x => insL lt x acc) acc) ∧ SO lt (a0 ++ l) (l.foldl (fun acc x => insL lt x acc) acc)
  | [], a0, acc, h1, h2 => ⟨h1, by simpa using h2⟩
  | x :: l, a0, acc, h1, h2 => by
    obtain ⟨k1, k2⟩ := insL_ok hw x acc h1
    have := sortL_from hw l (a0 ++ [x]) (insL lt x acc) k1 ((h2.append (SO.refl [x])).trans k2)
    simpa using this
theorem sortL_ok (hw : Wk lt) (l : List α) : Srt lt (sortL lt l) ∧ SO lt l (sortL lt l) := by
  unfold sortL
  have := sortL_from hw l [] [] List.Pairwise.nil (SO.refl _)
  simpa using this
end
def sortU (j : Nat) (u : GUnit) : GUnit := withKids (sortL (ltG j) u.kids) u
def sortF (u : GUnit) (col : Int) : GUnit := if thereB u 0 col = true then sortU col.toNat u else zeroU
theorem SortedOf.eq {j : Nat} {l l' : List GUnit} (h : SortedOf j l l') : l' = sortL (ltG j) l := h.uniq (sortL_ok (ltG_wk j) l)
theorem rowS_of {u : GUnit} {j : Nat} (hn : AllU nodeOk u) (ht : thereB u 0 (j : Nat) = true) : ∀ x ∈ u.kids, RowS j x := by
  obtain ⟨hvb, -, -, -, h4⟩ := there_parts2 ht
  obtain ⟨-, -, -, hv4⟩ := validB_parts hvb
  intro x hx
  obtain ⟨k, hk, rfl⟩ := List.getElem_of_mem hx
  obtain ⟨-, hrl, -⟩ := rowOk_parts (all_get hv4 k hk)
  have hj : j < (u.kids[k]).kids.length := by omega
  have hk' := nodeOk_kid hn k hk
  obtain ⟨h1, h2⟩ := nodeOk_words (nodeOk_kid hk' j hj)
  exact ⟨_, List.getElem?_eq_getElem hj, h1, h2⟩
theorem small_wide {u : GUnit} (h : smallU u) : AllU (lensLe 1048576 1048576) u := AllU.mono (lens_up (by omega) (by omega)) _ (small_lens u h.2 (by have := h.1; omega))

/-- the copy is stored into the variable: what a sort of its rows then stands on -/
theorem sort_step {w3 w4 : World} {u : GUnit} {r : RUnit} {lo b bx j : Nat} (hsep : Sep w3 u r lo w3.heap.size) (hne : u.kids ≠ []) (hbx : w3.cell? ⟨bx, 0, none⟩ = some (.int .i64 (j : Nat))) (hb : b < lo) (hbl : bx < lo ∧ bx ≠ b) (hw4 : ∀ k, k ≠ b → w4.heap[k]? = w3.heap[k]?) (hs4 : w4.heap.size = w3.heap.size) :
    ∃ g, r.kA = some ⟨g, 0, none⟩ ∧ r.kn = u.kids.length ∧ lo ≤ g ∧ g < w4.heap.size ∧ ∃ ps : List (RUnit × GUnit), ps.map Prod.snd = u.kids ∧ Rw g r.kc u.kids.length w4 ps ∧ JC g bx j ps w4 ∧
      ∀ (w' : World) (M : List (RUnit × GUnit)), w4.heap.size ≤ w'.heap.size → (∀ k, lo ≤ k → k < w4.heap.size → k ≠ g → w'.heap[k]? = w4.heap[k]?) → Srt (ltC j) M → SO (ltC j) ps M → Rw g r.kc u.kids.length w' M → ∃ us, SortedOf j u.kids us ∧ Reads w' (withKids us u) r :=
  sort_reads (Sep.keep _ _ _ _ hsep fun k hk hk2 => hw4 k (by omega)) hne ((World.cell?_of_block (hw4 bx hbl.2)).trans hbx) hbl.1

set_option maxRecDepth 100000 in
set_option maxHeartbeats 3200000 in
theorem sortBy_any (u : GUnit) (r : RUnit) (col : Int) (w : World) (hr : Reads w u r) (hsm : smallU u) :
    Calls Try.prog 29 #[.agg r.cells.toArray, .int .i64 col] w (RetSet w (sortF u col) (thereB u 0 col)) := by
  have hA := small_wide hsm
  have hA9 : AllU (lensLe 9223372036854775807 9223372036854775807) u := smallU_lens hsm
  have hx0 : Ext w (((w.alloc (.cells r.cells.toArray 27)).alloc (.cells #[.int .i64 col] 3)).alloc (.cells unit0.cells.toArray 27)) := (((Ext.refl w).alloc _).alloc _).alloc _
  have hbx : (((w.alloc (.cells r.cells.toArray 27)).alloc (.cells #[.int .i64 col] 3)).alloc (.cells unit0.cells.toArray 27)).heap[w.heap.size]? = some (.cells r.cells.toArray 27 (0, 0)) := by
    have e := (((Ext.refl (w.alloc (.cells r.cells.toArray 27))).alloc (.cells #[.int .i64 col] 3)).alloc (.cells unit0.cells.toArray 27)).block (k := w.heap.size) (by simp)
    exact e.trans (heap_alloc_new w _)
  have hbi : (((w.alloc (.cells r.cells.toArray 27)).alloc (.cells #[.int .i64 col] 3)).alloc (.cells unit0.cells.toArray 27)).heap[w.heap.size + 1]? = some (.cells #[.int .i64 col] 3 (0, 0)) := by
    have e := ((Ext.refl ((w.alloc (.cells r.cells.toArray 27)).alloc (.cells #[.int .i64 col] 3))).alloc (.cells unit0.cells.toArray 27)).block (k := w.heap.size + 1) (by simp)
    refine e.trans ?_
    have e2 := heap_alloc_new (w.alloc (.cells r.cells.toArray 27)) (.cells #[.int .i64 col] 3)
    rw [show (w.alloc (.cells r.cells.toArray 27)).heap.size = w.heap.size + 1 from by simp] at e2
    exact e2
  have hres : (((w.alloc (.cells r.cells.toArray 27)).alloc (.cells #[.int .i64 col] 3)).alloc (.cells unit0.cells.toArray 27)).heap[w.heap.size + 2]? = some (.cells unit0.cells.toArray 27 (0, 0)) := by
    have e := heap_alloc_new ((w.alloc (.cells r.cells.toArray 27)).alloc (.cells #[.int .i64 col] 3)) (.cells unit0.cells.toArray 27)
    rw [show ((w.alloc (.cells r.cells.toArray 27)).alloc (.cells #[.int .i64 col] 3)).heap.size = w.heap.size + 2 from by simp] at e
    exact e
  have hsz : (((w.alloc (.cells r.cells.toArray 27)).alloc (.cells #[.int .i64 col] 3)).alloc (.cells unit0.cells.toArray 27)).heap.size = w.heap.size + 3 := by simp
  obtain ⟨wz, hwz⟩ : ∃ wz, (((w.alloc (.cells r.cells.toArray 27)).alloc (.cells #[.int .i64 col] 3)).alloc (.cells unit0.cells.toArray 27)) = wz := ⟨_, rfl⟩
  rw [hwz] at hx0 hbx hbi hres hsz
  have hz1 : w.heap.size + 3 ≤ wz.heap.size := by omega
  have hbu := fun w' (he : Ext wz w') => unitBlock ((he.block (k := w.heap.size) (by omega)).trans hbx)
  have hci : wz.cell? ⟨w.heap.size + 1, 0, none⟩ = some (.int .i64 col) := by simp [World.cell?, hbi]
  have hcol := fun w' (he : Ext wz w') => (he.cell (p := ⟨w.heap.size + 1, 0, none⟩) (by show w.heap.size + 1 < _; omega)).trans hci
  have hv := fun w' (he : Ext wz w') => there_any u r 0 col w' (Reads.ext (hx0.trans he) _ _ hr) hA9
  simp only [RUnit.cells, unit0] at hwz
  simp only [RUnit.cells] at hv ⊢
  have Hwz := Lib.hid hwz
  have Hres := Lib.hid hres
  have Hbx := Lib.hid hbx
  have Hbu := Lib.hid hbu
  have Hcol := Lib.hid hcol
  clear hwz hsz hres hbx hbu hbi hci hcol
  obtain ⟨f0, f1, f2, f3, f4, f5, f6, f7⟩ := Hbu.out wz (Ext.refl _)
  have g0 := Hcol.out wz (Ext.refl _)
  cases hth : thereB u 0 col with
  | false =>
    have e2 : sortF u col = zeroU := by simp [sortF, hth]
    rw [e2]
    rw [hth] at hv
    have Hv := Lib.hid hv
    clear hv hth e2 hr hA hA9 hsm
    go_enter Try.func29, Try.ntmps29
    go_wp2_with fail
    rw [Hwz.out]
    go_wp2_with fail
    refine (Hv.out wz (Ext.refl _)).mono ?_
    rintro e w2 ⟨rfl, hx2⟩
    have hres2 := (hx2.block (k := w.heap.size + 2) (by omega)).trans Hres.out
    clear f0 f1 f2 f3 f4 f5 f6 f7 g0
    go_wp2_with (refine wpList_put rfl 27 (.tmp 4) (.tmp 10) rfl (w.heap.size + 2) 0 (.agg unit0.cells.toArray) rfl rfl unit0.cells rfl Try.sizeOf27 (unitEl.h1 unit0) 27 _ hres2 (by simp [RUnit.cells]) ?_; intro w3 hw3 hos3 htp3 hou3 hs3 hbk3)
    have hfin : w3.heap[w.heap.size + 2]? = some (.cells unit0.cells.toArray 27 (0, 0)) := by
      rw [hbk3]
      simp [RUnit.cells]
    (try simp only [Exit.inBlock, Exit.then])
    refine bodyPost_ret (results_cell2 rfl _ _ (w.heap.size + 2) _ rfl hfin) rfl ?_
    exact ⟨unit0, rfl, (hx0.trans hx2).put (by omega) hw3 hos3 htp3 hou3 hs3, zero_reads _⟩
  | true =>
    obtain ⟨hvb, h1, -, h3, h4⟩ := there_parts2 hth
    obtain ⟨j, rfl⟩ : ∃ i : Nat, col = i := ⟨col.toNat, by omega⟩
    have e2 : sortF u j = sortU j u := by simp [sortF, hth]
    rw [e2]
    rw [hth] at hv
    have Hv := Lib.hid hv
    obtain ⟨-, hv2, -, -⟩ := validB_parts hvb
    have HrowS := Lib.hid (rowS_of hsm.2 hth)
    have Hne := Lib.hid (show u.kids ≠ [] from fun h => by rw [h] at hv2; simp at hv2)
    have Hkl := Lib.hid (show u.kids.length ≤ 64 from hv2.2)
    have Hcp := Lib.hid (fun w' (he : Ext wz w') => copied_any u r w' (Reads.ext (hx0.trans he) _ _ hr) hA)
    simp only [RUnit.cells] at Hcp
    clear hv hth e2 hr hA hA9 hsm h1 h3 h4 hvb hv2
    go_enter Try.func29, Try.ntmps29
    go_wp2_with fail
    rw [Hwz.out]
    go_wp2_with fail
    refine (Hv.out wz (Ext.refl _)).mono ?_
    rintro e w2 ⟨rfl, hx2⟩
    clear f0 f1 f2 f3 f4 f5 f6 f7 g0
    obtain ⟨f0, f1, f2, f3, f4, f5, f6, f7⟩ := Hbu.out w2 hx2
    go_wp2_with fail
    refine (Hcp.out w2 hx2).mono ?_
    rintro e w3 ⟨r', rfl, hx3, hsep⟩
    have hb3 := ((hx2.trans hx3).block (k := w.heap.size) (by omega)).trans Hbx.out
    have hr3 := ((hx2.trans hx3).block (k := w.heap.size + 2) (by omega)).trans Hres.out
    have Hc3 := Lib.hid (Hcol.out w3 (hx2.trans hx3))
    have hz2 := hx2.size
    have hz3 := hx3.size
    clear f0 f1 f2 f3 f4 f5 f6 f7
    go_wp2_with (refine wpList_put rfl 27 (.tmp 2) (.tmp 12) rfl w.heap.size 0 (.agg r'.cells.toArray) rfl rfl r'.cells rfl Try.sizeOf27 (unitEl.h1 r') 27 _ hb3 (by simp [RUnit.cells]) ?_; intro w4 hw4 hos4 htp4 hou4 hs4 hbk4; have hb4 : w4.heap[w.heap.size]? = some (.cells r'.cells.toArray 27 (0, 0)) := hbk4.trans (by simp [RUnit.cells]); obtain ⟨g, ek, en, hg1, hg2, ps, hps, hrw, hjc, hfin⟩ := sort_step hsep Hne.out Hc3.out (by omega) (by omega) hw4 hs4; have Hs4 := Lib.hid hs4; have hf7 := (unitBlock hb4).2.2.2.2.2.2.2; rw [ek, en] at hf7; have Hek := Lib.hid (And.intro ek en); clear ek en hs4)
    have hps2 := Lib.hid hps
    have Hsort := Lib.hid (sortStable_any (cmpC_of g (w.heap.size + 1) j ps) (ltC_wk j) r'.kc u.kids.length ps w4 (by have := Hkl.out; omega) (fun y hy => ⟨hy, HrowS.out _ (by rw [← hps2.out]; exact List.mem_map_of_mem hy)⟩) hjc hrw)
    refine (Hsort.out).mono ?_
    rintro e w5 ⟨rfl, hk5, M, q1, q2, q3⟩
    have hsz5 := hk5.size
    have hsz4 : w4.heap.size = w3.heap.size := Hs4.out
    have hb5 := (hk5.block w.heap.size (block_lt hb4) (by omega)).trans hb4
    have hr5 := (hk5.block (w.heap.size + 2) (by omega) (by omega)).trans ((hw4 (w.heap.size + 2) (by omega)).trans hr3)
    have hx4 : Ext w w4 := (hx0.trans (hx2.trans hx3)).put (Nat.le_refl _) hw4 hos4 htp4 hou4 Hs4.out
    have hx5 : Ext w w5 := hk5.toExt hx4 (by omega)
    clear hf7 hb3 hr3 hbk4 hb4
    obtain ⟨f0, f1, f2, f3, f4, f5, f6, f7⟩ := unitBlock hb5
    go_wp2_with (refine wpList_put rfl 27 (.tmp 4) (.tmp 17) rfl (w.heap.size + 2) 0 (.agg r'.cells.toArray) rfl rfl r'.cells rfl Try.sizeOf27 (unitEl.h1 r') 27 _ hr5 (by simp [RUnit.cells, unit0]) ?_; intro w6 hw6 hos6 htp6 hou6 hs6 hbk6; have Hs6 := Lib.hid hs6; clear hs6 f0 f1 f2 f3 f4 f5 f6 f7)
    have hfin6 : w6.heap[w.heap.size + 2]? = some (.cells r'.cells.toArray 27 (0, 0)) := hbk6.trans (by simp [RUnit.cells, unit0])
    have hs6 := Hs6.out
    have hrw6 : Rw g r'.kc u.kids.length w6 M := ⟨q3.len, q3.own.keep fun k hk => by cases hk; exact hw6 g (by omega)⟩
    obtain ⟨us, hso, hread⟩ := hfin w6 M (by omega) (fun k h1 h2 h3 => (hw6 k (by omega)).trans (hk5.block k h2 h3)) q1 q2 hrw6
    have e5 := hso.eq
    subst e5
    (try simp only [Exit.inBlock, Exit.then])
    refine bodyPost_ret (results_cell2 rfl _ _ (w.heap.size + 2) _ rfl hfin6) rfl ?_
    exact ⟨r', rfl, hx5.put (by omega) hw6 hos6 htp6 hou6 hs6, hread⟩

end Go.Proofs.Ythjlnpcanccmkaa
