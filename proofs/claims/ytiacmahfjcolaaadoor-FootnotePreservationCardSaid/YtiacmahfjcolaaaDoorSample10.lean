/- sample: the unit of the chapter's example. -/
import Derived.Test.YtiacmahfjcolaaaDoorRenum10
namespace Go.Proofs.YtiacmahfjcolaaaDoor
open Go.RowKit

def sampW : List GWord := [⟨⟨#[102, 105, 110, 101]⟩, 0, 0, 0⟩, ⟨⟨#[94, 50]⟩, 0, 0, 0⟩, ⟨⟨#[111, 114]⟩, 0, 0, 0⟩, ⟨⟨#[94, 49]⟩, 0, 0, 0⟩]
def sampR : List RUnit := [⟨0, 0, 1, 7, ⟨#[49]⟩, none, 0, 0, none, 0, 0, none, 0, 0⟩, ⟨0, 0, 2, 7, ⟨#[50]⟩, none, 0, 0, none, 0, 0, none, 0, 0⟩]
def sampU : GUnit := .mk 0 0 0 2 ⟨#[53]⟩ [] sampW [.mk 0 0 1 7 ⟨#[49]⟩ [] [] [], .mk 0 0 2 7 ⟨#[50]⟩ [] [] []]
theorem reads_bare (w : World) (a i n k : Int) (l : ByteArray) : Reads w (.mk a i n k l [] [] []) ⟨a, i, n, k, l, none, 0, 0, none, 0, 0, none, 0, 0⟩ := by
  rw [Reads]
  refine ⟨⟨rfl, rfl, rfl, rfl, rfl⟩, ⟨rfl, Nat.le_refl _, Sl.nil⟩, ⟨rfl, Nat.le_refl _, Sl.nil⟩, rfl, Nat.le_refl _, [], Sl.nil, ?_⟩
  rw [ReadsAll]
  trivial

theorem Sl.same {P : Program} {α : Type} {D : El P α} {w w' : World} {A : Option Addr} {xs : List α} (h : Sl D w A xs) (g : ∀ b off, A = some ⟨b, off, none⟩ → w'.heap[b]? = w.heap[b]?) (hs : w.heap.size ≤ w'.heap.size) : Sl D w' A xs := fun hne => by
  obtain ⟨b, off, hA, hlt, hc⟩ := h hne
  refine ⟨b, off, hA, by omega, fun j u hu => ?_⟩
  have := hc j u hu
  simp only [World.cell?] at this ⊢
  rw [g b off hA]
  exact this

set_option maxRecDepth 100000 in
set_option maxHeartbeats 1600000 in
theorem sample_any (w : World) : Calls Tryd.prog 32 #[] w fun e w' => ∃ r : RUnit, e = .returned (.agg r.cells.toArray) ∧ Ext w w' ∧ Reads w' sampU r := by
  have e1 : (w.alloc (.cells unit0.cells.toArray 27)).heap.size = w.heap.size + 1 := by simp
  have e2 : ((w.alloc (.cells unit0.cells.toArray 27)).alloc (.cells (wordEl.flat sampW).toArray 52)).heap.size = w.heap.size + 1 + 1 := by simp
  have hx0 : Ext w (((w.alloc (.cells unit0.cells.toArray 27)).alloc (.cells (wordEl.flat sampW).toArray 52)).alloc (.cells (unitEl.flat sampR).toArray 27)) := (((Ext.refl w).alloc _).alloc _).alloc _
  have hb : (((w.alloc (.cells unit0.cells.toArray 27)).alloc (.cells (wordEl.flat sampW).toArray 52)).alloc (.cells (unitEl.flat sampR).toArray 27)).heap[w.heap.size]? = some (.cells unit0.cells.toArray 27 (0, 0)) :=
    ((((Ext.refl (w.alloc (.cells unit0.cells.toArray 27))).alloc _).alloc _).block (by rw [e1]; omega)).trans (heap_alloc_new w _)
  have hsw : Sl wordEl (((w.alloc (.cells unit0.cells.toArray 27)).alloc (.cells (wordEl.flat sampW).toArray 52)).alloc (.cells (unitEl.flat sampR).toArray 27)) (some ⟨w.heap.size + 1, 0, none⟩) sampW := (Sl.new' wordEl e1.symm (by simp)).ext ((Ext.refl _).alloc _)
  have hsr : Sl unitEl (((w.alloc (.cells unit0.cells.toArray 27)).alloc (.cells (wordEl.flat sampW).toArray 52)).alloc (.cells (unitEl.flat sampR).toArray 27)) (some ⟨w.heap.size + 1 + 1, 0, none⟩) sampR := Sl.new' unitEl e2.symm (by simp)
  obtain ⟨wz, hwz⟩ : ∃ wz, (((w.alloc (.cells unit0.cells.toArray 27)).alloc (.cells (wordEl.flat sampW).toArray 52)).alloc (.cells (unitEl.flat sampR).toArray 27)) = wz := ⟨_, rfl⟩
  rw [hwz] at hx0 hb hsw hsr
  have Hwz := Lib.hid hwz
  have Hsw := Lib.hid hsw
  have Hsr := Lib.hid hsr
  simp only [RUnit.cells, unit0, El.flat, sampW, sampR, wordEl, unitEl, GWord.cells, List.flatMap_cons, List.flatMap_nil, List.cons_append, List.nil_append, List.append_nil] at Hwz
  have Hb := Lib.hid hb
  clear hwz hb hsw hsr e1 e2
  go_enter Tryd.func32, Tryd.ntmps32
  go_wp2_with (rw [Hwz.out]; refine wpList_put rfl 27 (.tmp 0) (.tmp 11) rfl w.heap.size 0 (.agg (RUnit.cells ⟨0, 0, 0, 2, ⟨#[53]⟩, none, 0, 0, some ⟨w.heap.size + 1, 0, none⟩, 4, 4, some ⟨w.heap.size + 1 + 1, 0, none⟩, 2, 2⟩).toArray) rfl rfl (RUnit.cells ⟨0, 0, 0, 2, ⟨#[53]⟩, none, 0, 0, some ⟨w.heap.size + 1, 0, none⟩, 4, 4, some ⟨w.heap.size + 1 + 1, 0, none⟩, 2, 2⟩) rfl Tryd.sizeOf27 (unitEl.h1 _) 27 _ Hb.out (by simp [RUnit.cells, unit0]) ?_; intro w3 hw3 hos3 htp3 hou3 hs3 hbk3)
  have hfin : w3.heap[w.heap.size]? = some (.cells (RUnit.cells ⟨0, 0, 0, 2, ⟨#[53]⟩, none, 0, 0, some ⟨w.heap.size + 1, 0, none⟩, 4, 4, some ⟨w.heap.size + 1 + 1, 0, none⟩, 2, 2⟩).toArray 27 (0, 0)) := by
    rw [hbk3]
    simp [RUnit.cells, unit0]
  (try simp only [Exit.inBlock, Exit.then])
  refine bodyPost_ret (results_cell1 rfl _ _ w.heap.size _ rfl hfin) rfl ?_
  refine ⟨_, rfl, hx0.put (Nat.le_refl _) hw3 hos3 htp3 hou3 hs3, ?_⟩
  unfold sampU
  rw [Reads]
  refine ⟨⟨rfl, rfl, rfl, rfl, rfl⟩, ⟨rfl, Nat.le_refl _, Sl.nil⟩, ⟨rfl, Nat.le_refl _, ?_⟩, rfl, Nat.le_refl _, sampR, ?_, ?_⟩
  · exact Sl.same Hsw.out (fun b off hA => by cases hA; exact hw3 _ (by omega)) (by omega)
  · exact Sl.same Hsr.out (fun b off hA => by cases hA; exact hw3 _ (by omega)) (by omega)
  · unfold sampR
    rw [ReadsAll, ReadsAll, ReadsAll]
    exact ⟨reads_bare _ _ _ _ _ _, reads_bare _ _ _ _ _ _, trivial⟩

end Go.Proofs.YtiacmahfjcolaaaDoor
