/- awake: the chapter's example, for the program as it is given. -/
import Derived.Test.YtiacmahfjcolaaaDoorSample10
namespace Go.Proofs.YtiacmahfjcolaaaDoor
open Go.RowKit

def sampN : GUnit := .mk 0 0 0 2 ⟨#[53]⟩ [] [⟨⟨#[102, 105, 110, 101]⟩, 0, 0, 0⟩, ⟨⟨#[94, 49]⟩, 0, 0, 0⟩, ⟨⟨#[111, 114]⟩, 0, 0, 0⟩, ⟨⟨#[94, 50]⟩, 0, 0, 0⟩] [.mk 0 0 1 7 ⟨#[50]⟩ [] [] [], .mk 0 0 2 7 ⟨#[49]⟩ [] [] []]
theorem valid_samp : validB sampU = true := by decide
theorem notes_samp : notesF sampU = [⟨0, 0, 2⟩, ⟨0, 0, 1⟩] := by decide
theorem anc_samp : ancB ⟨#[94, 49, 50, 65]⟩ = true ∧ ancT ⟨#[94, 49, 50, 65]⟩ = ⟨#[49, 50, 65]⟩ := by decide
theorem ren_samp : renF sampU = sampN := by
  have hL : anchL sampW = [⟨#[50]⟩, ⟨#[49]⟩] := by decide
  have l1 : labF [⟨#[50]⟩, ⟨#[49]⟩] ⟨#[50]⟩ = ⟨#[49]⟩ := by
    unfold labF
    rw [show placeI [⟨#[50]⟩, ⟨#[49]⟩] ⟨#[50]⟩ = 0 by decide]
    exact decB_small (n := 1) (by omega)
  have l2 : labF [⟨#[50]⟩, ⟨#[49]⟩] ⟨#[49]⟩ = ⟨#[50]⟩ := by
    unfold labF
    rw [show placeI [⟨#[50]⟩, ⟨#[49]⟩] ⟨#[49]⟩ = 1 by decide]
    exact decB_small (n := 2) (by omega)
  unfold renF
  rw [if_pos valid_samp]
  unfold sampU
  rw [numF, hL]
  have w1 : renW [⟨#[50]⟩, ⟨#[49]⟩] ⟨⟨#[102, 105, 110, 101]⟩, 0, 0, 0⟩ = ⟨⟨#[102, 105, 110, 101]⟩, 0, 0, 0⟩ := by unfold renW; rw [if_neg (by decide)]
  have w2 : renW [⟨#[50]⟩, ⟨#[49]⟩] ⟨⟨#[94, 50]⟩, 0, 0, 0⟩ = ⟨⟨#[94, 49]⟩, 0, 0, 0⟩ := by
    unfold renW
    rw [if_pos (by decide)]
    simp only
    rw [show ancT ⟨#[94, 50]⟩ = ⟨#[50]⟩ by decide, l1]
    rfl
  have w3 : renW [⟨#[50]⟩, ⟨#[49]⟩] ⟨⟨#[111, 114]⟩, 0, 0, 0⟩ = ⟨⟨#[111, 114]⟩, 0, 0, 0⟩ := by unfold renW; rw [if_neg (by decide)]
  have w4 : renW [⟨#[50]⟩, ⟨#[49]⟩] ⟨⟨#[94, 49]⟩, 0, 0, 0⟩ = ⟨⟨#[94, 50]⟩, 0, 0, 0⟩ := by
    unfold renW
    rw [if_pos (by decide)]
    simp only
    rw [show ancT ⟨#[94, 49]⟩ = ⟨#[49]⟩ by decide, l2]
    rfl
  unfold sampW sampN
  simp only [List.map_cons, List.map_nil, w1, w2, w3, w4, numL, numF, relab, l1, l2, if_true]
theorem ok_samp : OkT sampU := by
  refine okT_of ?_ ?_ (by decide)
  · unfold sampU
    simp only [AllU, AllUs, shortU, shortW]
    decide
  · unfold sampU
    simp only [AllU, AllUs, GUnit.head]
    decide
theorem readsAll2 {w : World} {u v : GUnit} {rs : List RUnit} (h : ReadsAll w [u, v] rs) : ∃ s t, rs = [s, t] ∧ Reads w u s ∧ Reads w v t := by
  match rs, h with
  | [s, t], h =>
    rw [ReadsAll, ReadsAll] at h
    exact ⟨s, t, rfl, h.1, h.2.1⟩
  | [], h => rw [ReadsAll] at h; exact h.elim
  | [s], h => rw [ReadsAll, ReadsAll] at h; exact h.2.elim
  | s :: t :: q :: r, h => rw [ReadsAll, ReadsAll, ReadsAll] at h; exact h.2.2.elim
theorem wordAt2 {w : World} {b off : Nat} {xs : List GWord} (h : Sl wordEl w (some ⟨b, off, none⟩) xs) (k : Nat) (hk : k < xs.length) : w.cell? ⟨b, off + k * 4, none⟩ = some (.string xs[k].t) := by
  obtain ⟨b', off', hA, hb, h, -⟩ := wordAt h hk
  cases hA
  exact h
theorem labAt2 {w : World} {b off : Nat} {xs : List RUnit} (h : Sl unitEl w (some ⟨b, off, none⟩) xs) (k : Nat) (hk : k < xs.length) : w.cell? ⟨b, off + k * 8 + 4, none⟩ = some (.string xs[k].label) := by
  obtain ⟨b', off', hA, hb, -, -, -, -, h, -⟩ := unitAt h hk
  cases hA
  exact h

set_option maxRecDepth 100000 in
set_option maxHeartbeats 3200000 in
theorem awake10_any (w : World) (hT : Tab w) : Calls Tryd.prog 10 #[] w fun e w' => e = .returned (.bool true) ∧ Ext w w' := by
  have HT := Lib.hid hT
  clear hT
  go_enter Tryd.func10, Tryd.ntmps10
  go_wp2_with fail
  refine (sample_any _).mono ?_
  rintro e w1 ⟨r1, rfl, hx1, hr1⟩
  have Hr1 := Lib.hid hr1
  clear hr1
  go_wp2_with fail
  refine (renumber_any sampU r1 w1 Hr1.out ok_samp (HT.out.ext hx1)).mono ?_
  rintro e w2 ⟨r2, rfl, hx2, hr2⟩
  rw [ren_samp] at hr2
  rw [valid_samp]
  have hr2' := Reads.cin (CIn.unmask _ _) _ _ hr2
  unfold sampN at hr2'
  rw [Reads] at hr2'
  obtain ⟨-, -, ⟨hwn, -, hws⟩, hkn, -, rs, hrs, hall⟩ := hr2'
  obtain ⟨s1, s2, rfl, g1, g2⟩ := readsAll2 hall
  have l1 : s1.label = ⟨#[50]⟩ := (reads_kl g1).2
  have l2 : s2.label = ⟨#[49]⟩ := (reads_kl g2).2
  have hwn' : r2.wn = 4 := hwn
  have hkn' : r2.kn = 2 := hkn
  obtain ⟨ra, ri, rn, rk, rl, hdA, hn, hc, wA, wn, wc, kA, kn, kc⟩ := r2
  dsimp only at hwn' hkn' hws hrs
  subst hwn' hkn'
  obtain ⟨b, off, rfl, -, -⟩ := hws (by simp)
  obtain ⟨b2, off2, rfl, -, -⟩ := hrs (by simp)
  have Hc := Lib.hid (show ∀ w', Ext w2 w' → w'.cell? ⟨b, off + 4, none⟩ = some (.string ⟨#[94, 49]⟩) ∧ w'.cell? ⟨b, off + 12, none⟩ = some (.string ⟨#[94, 50]⟩) ∧ w'.cell? ⟨b2, off2 + 4, none⟩ = some (.string ⟨#[50]⟩) ∧ w'.cell? ⟨b2, off2 + 8 + 4, none⟩ = some (.string ⟨#[49]⟩) from fun w' he =>
    ⟨wordAt2 (hws.ext he) 1 (by decide), wordAt2 (hws.ext he) 3 (by decide), by have := labAt2 (hrs.ext he) 0 (by simp); rw [← l1]; simpa using this, by have := labAt2 (hrs.ext he) 1 (by simp); rw [← l2]; simpa using this⟩)
  clear hr2 hwn hkn hws hrs hall g1 g2 l1 l2
  simp only [RUnit.cells]
  go_wp2_with (refine wpList_put rfl 27 (.tmp 1) (.tmp 8) rfl w2.heap.size 0 (.agg (RUnit.cells ⟨ra, ri, rn, rk, rl, hdA, hn, hc, some ⟨b, off, none⟩, 4, wc, some ⟨b2, off2, none⟩, 2, kc⟩).toArray) rfl rfl (RUnit.cells ⟨ra, ri, rn, rk, rl, hdA, hn, hc, some ⟨b, off, none⟩, 4, wc, some ⟨b2, off2, none⟩, 2, kc⟩) rfl Tryd.sizeOf27 (unitEl.h1 _) 27 _ (heap_alloc_new w2 _) (by simp [unit0, RUnit.cells]) ?_; intro w3 hw3 hos3 htp3 hou3 hs3 hbk3; have hb3 : w3.heap[w2.heap.size]? = some (.cells (RUnit.cells ⟨ra, ri, rn, rk, rl, hdA, hn, hc, some ⟨b, off, none⟩, 4, wc, some ⟨b2, off2, none⟩, 2, kc⟩).toArray 27 (0, 0)) := hbk3.trans (by simp [RUnit.cells]); have hx3 : Ext w2 w3 := ((Ext.refl w2).alloc _).put (Nat.le_refl _) hw3 hos3 htp3 hou3 hs3; have hlt3 := block_lt hb3; clear hw3 hos3 htp3 hou3 hs3 hbk3)
  have Hb3 := Lib.hid hb3
  clear hb3
  have Hpa := Lib.hid (fun w => parseAnchor_any ⟨#[94, 49, 50, 65]⟩ w (by decide))
  simp only [show RetAnc ⟨#[94, 49, 50, 65]⟩ = fun w e w' => e = .returned (.tuple #[.string (ancT ⟨#[94, 49, 50, 65]⟩), .bool (ancB ⟨#[94, 49, 50, 65]⟩)]) ∧ Ext w w' from rfl] at Hpa
  rw [anc_samp.1, anc_samp.2] at Hpa
  refine (Hpa.out _).mono ?_
  rintro e w4 ⟨rfl, hx4⟩
  go_wp2_with fail
  refine (sample_any _).mono ?_
  rintro e w5 ⟨r5, rfl, hx5, hr5⟩
  have Hr5 := Lib.hid hr5
  clear hr5
  go_wp2_with fail
  refine (fvalid_any sampU r5 w5 Hr5.out ok_samp).mono ?_
  rw [valid_samp]
  rintro e w6 ⟨rfl, hx6⟩
  have hx36 : Ext w3 w6 := (hx4.trans hx5).trans hx6
  obtain ⟨c1, c2, c3, c4⟩ := Hc.out w6 (hx3.trans hx36)
  have c4' : w6.cell? ⟨b2, off2 + 12, none⟩ = some (.string ⟨#[49]⟩) := c4
  have hb6 := (hx36.block hlt3).trans Hb3.out
  obtain ⟨z0, z1, z2, z3, z4, z5, z6, z7⟩ := unitBlock hb6
  dsimp only at z0 z1 z2 z3 z4 z5 z6 z7
  clear hb6
  go_wp2_with fail
  refine (sample_any _).mono ?_
  rintro e w7 ⟨r7, rfl, hx7, hr7⟩
  have Hr7 := Lib.hid hr7
  clear hr7 z0 z1 z2 z3 z4 z5 z6 z7 c1 c2 c3 c4 c4'
  go_wp2_with fail
  refine (notes_any sampU r7 w7 Hr7.out ok_samp).mono ?_
  rw [notes_samp]
  rintro e w8 ⟨v8, rfl, hown8, hx8⟩
  obtain ⟨A8, c8, rfl, -, hs8⟩ := hown8.form
  clear hown8
  go_wp2_with fail
  refine (alike_any A8 (some ⟨w8.heap.size, 0, none⟩) c8 2 [⟨0, 0, 2⟩, ⟨0, 0, 1⟩] [⟨0, 0, 2⟩, ⟨0, 0, 1⟩] _ (hs8.ext ((Ext.refl _).alloc _)) (Sl.new idEl rfl) (by decide)).mono ?_
  rw [decide_eq_true rfl]
  rintro e w9 ⟨rfl, m9, rfl⟩
  have hfin : Ext w ((w8.alloc (.cells #[.int .i64 0, .int .i64 0, .int .i64 2, .int .i64 0, .int .i64 0, .int .i64 1] 23)).drewN m9) := ((((hx1.trans hx2).trans hx3).trans hx36).trans (hx7.trans hx8)).trans (((Ext.refl w8).alloc _).drewN _)
  go_wp2
  go_ret
  exact ⟨rfl, hfin⟩

end Go.Proofs.YtiacmahfjcolaaaDoor
