/- slices.SortFunc of a row of references. -/
import Derived.Test.YtkbmocgjbhmioaaRef22
namespace Go.Proofs.Ytkbmocgjbhmioaa
open Go.RowKit Go.Sort

/-- everything but the block g stays -/
structure Kp (g : Nat) (w w' : World) : Prop where
  os : w'.os = w.os
  tape : w'.tape = w.tape
  output : w'.output = w.output
  size : w.heap.size ≤ w'.heap.size
  block : ∀ k, k < w.heap.size → k ≠ g → w'.heap[k]? = w.heap[k]?
theorem Kp.refl (g : Nat) (w : World) : Kp g w w := ⟨rfl, rfl, rfl, Nat.le_refl _, fun _ _ _ => rfl⟩
theorem Kp.trans {g : Nat} {a b c : World} (h : Kp g a b) (k : Kp g b c) : Kp g a c := ⟨k.os.trans h.os, k.tape.trans h.tape, k.output.trans h.output, Nat.le_trans h.size k.size, fun j hj hg => (k.block j (by have := h.size; omega) hg).trans (h.block j hj hg)⟩
theorem Kp.of_ext {g : Nat} {w w' : World} (h : Ext w w') : Kp g w w' := ⟨h.os, h.tape, h.output, h.size, fun k hk _ => h.block hk⟩
theorem Kp.put {g : Nat} {w w' : World} (h1 : ∀ k, k ≠ g → w'.heap[k]? = w.heap[k]?) (h2 : w'.os = w.os) (h3 : w'.tape = w.tape) (h4 : w'.output = w.output) (h5 : w'.heap.size = w.heap.size) : Kp g w w' := ⟨h2, h3, h4, by omega, fun k _ hg => h1 k hg⟩
theorem Kp.toExt {g : Nat} {w0 w w' : World} (h : Kp g w w') (he : Ext w0 w) (hg : w0.heap.size ≤ g) : Ext w0 w' :=
  ⟨h.os.trans he.os, h.tape.trans he.tape, h.output.trans he.output, Nat.le_trans he.size h.size, fun k hk => (h.block k (Nat.lt_of_lt_of_le hk he.size) (by omega)).trans (he.block hk)⟩

section
variable {P : Program} {α : Type} [Inhabited α] (D : El P α)
theorem flatK_eq (xs : List α) : flatK D.E D.m xs.toArray = (D.flat xs).toArray := by
  refine ext_get! (by simp [D.flat_length]) fun t ht => ?_
  simp only [size_flatK, List.size_toArray] at ht
  have hm := D.hm
  have hk : t / D.m < xs.length := Nat.div_lt_of_lt_mul (by rw [Nat.mul_comm]; exact ht)
  have hj : t % D.m < D.m := Nat.mod_lt _ hm
  have hx : xs[t / D.m]? = some xs[t / D.m] := List.getElem?_eq_getElem hk
  have hu : (D.E xs[t / D.m])[t % D.m]? = some ((D.E xs[t / D.m])[t % D.m]'(by rw [D.hE]; exact hj)) := List.getElem?_eq_getElem _
  have hf := D.flat_get xs (t / D.m) (t % D.m) _ _ hx hu
  rw [Nat.div_add_mod'] at hf
  rw [get_flatK _ _ _ _ (by simpa using ht)]
  have e1 : xs.toArray[t / D.m]! = xs[t / D.m] := by simp [hk]
  rw [e1]
  obtain ⟨h1, h2⟩ := List.getElem?_eq_some_iff.1 hf
  have e2 : (D.flat xs).toArray[t]! = (D.flat xs)[t] := by simp [h1]
  rw [e2, h2]
  simp [D.hE, hj]
variable {base g cap : Nat} {w : World} {xs : List α}
theorem Own.holdsK (h : Own D base w (.slice (some ⟨g, 0, none⟩) xs.length cap) xs) : HoldsK D.E D.m w g 0 xs.toArray := by
  unfold HoldsK
  rw [flatK_eq]
  rcases h.2 with ⟨hv, _⟩ | ⟨g', cap', cur, hv, hg, hh, hn, hc, hcs, ht⟩
  · cases hv
  · cases hv
    intro j hj
    rw [Nat.zero_add]
    simp only [List.size_toArray] at hj
    have hjt : (cur.toList.take (xs.length * D.m))[j]? = some (D.flat xs)[j] := by rw [ht]; exact List.getElem?_eq_getElem hj
    rw [List.getElem?_take] at hjt
    split at hjt
    · refine ⟨?_, by simp [World.frozen?, hh]⟩
      simp only [World.cell?, hh]
      have : (D.flat xs).toArray[j]! = (D.flat xs)[j] := by simp [hj]
      rw [this]
      simpa using hjt
    · cases hjt
theorem Own.sorted (h : Own D base w (.slice (some ⟨g, 0, none⟩) xs.length cap) xs) (ys : List α) (hl : ys.length = xs.length) (n : Nat) (os : Array Obj) :
    Own D base (sortWorldK D.E D.m w g 0 n ys.toArray os) (.slice (some ⟨g, 0, none⟩) ys.length cap) ys ∧ Kp g w (sortWorldK D.E D.m w g 0 n ys.toArray os) := by
  rcases h.2 with ⟨hv, _⟩ | ⟨g', cap', cur, hv, hg, hh, hn, hc, hcs, ht⟩
  · cases hv
  · cases hv
    have hlt : g < w.heap.size := by
      rcases Nat.lt_or_ge g w.heap.size with h1 | h1
      · exact h1
      · rw [Array.getElem?_eq_none h1] at hh; cases hh
    have hF : flatK D.E D.m ys.toArray = (D.flat ys).toArray := flatK_eq D ys
    have hsz : (sortWorldK D.E D.m w g 0 n ys.toArray os).heap.size = w.heap.size + os.size := by simp [sortWorldK, grow, putRowK, putRow, mapBlock, ahead]
    have hblk : (sortWorldK D.E D.m w g 0 n ys.toArray os).heap[g]? = some (.cells (putCells id 0 (D.flat ys).toArray cur) D.e (0, 0)) := by
      simp only [sortWorldK, grow, putRowK, putRow, mapBlock, ahead, hF]
      rw [Array.getElem?_append_left (by simpa using hlt), Array.getElem?_modify, if_pos rfl]
      show Option.map _ w.heap[g]? = _
      rw [hh]
      rfl
    have hoth : ∀ k, k < w.heap.size → k ≠ g → (sortWorldK D.E D.m w g 0 n ys.toArray os).heap[k]? = w.heap[k]? := fun k hk hkg => by
      simp only [sortWorldK, grow, putRowK, putRow, mapBlock, ahead]
      rw [Array.getElem?_append_left (by simpa using hk), Array.getElem?_modify, if_neg (fun e => hkg e.symm)]
      rfl
    refine ⟨⟨D.flat_length ys, .inr ⟨g, _, _, rfl, hg, hblk, by omega, hc, by simp [putCells, hcs], ?_⟩⟩, ⟨rfl, rfl, rfl, by omega, hoth⟩⟩
    have hfl := D.flat_length ys
    apply List.ext_getElem?
    intro j
    rw [List.getElem?_take]
    have hcm : ys.length * D.m ≤ cur.size := by rw [hcs, hl]; exact Nat.mul_le_mul_right _ hn
    by_cases hj : j < ys.length * D.m
    · rw [if_pos hj]
      have hj2 : j < (D.flat ys).length := by omega
      have hj3 : j < cur.size := by omega
      simp only [putCells, Array.getElem?_toList, Array.getElem?_mapIdx, Array.getElem?_eq_getElem hj3, Option.map_some]
      rw [if_pos ⟨Nat.zero_le _, by simpa using hj2⟩, List.getElem?_eq_getElem hj2]
      simp [hj2]
    · rw [if_neg hj, List.getElem?_eq_none (by omega)]
end

theorem sortRef_any (base g cap : Nat) (xs : List (Int × Int)) (w : World) (hown : Own refEl base w (.slice (some ⟨g, 0, none⟩) xs.length cap) xs) (hn : xs.length ≤ 1048576) :
    Calls Try.prog 55 #[.slice (some ⟨g, 0, none⟩) xs.length cap, .func (.func 56) #[] #[]] w fun e w' => e = .returned (.tuple #[]) ∧ ∃ ys : List (Int × Int), xs.Perm ys ∧ ys.Pairwise (fun x y => lessR y x = false) ∧ Own refEl base w' (.slice (some ⟨g, 0, none⟩) ys.length cap) ys ∧ Kp g w w' := by
  have hc := AnyQ.slices_SortFunc Try.sortItem 2 Try.isAgg83 Try.sizeOf83 refEl.E (fun _ => rfl) (fun x v hv => by simp [refEl] at hv; rcases hv with rfl | rfl <;> rfl) cfR swoR 56 #[] g 0 cap xs.toArray w Try.call56 (fun m os dk hs x y => refCmp_any x y _) hown.holdsK (hown.lt g rfl).2 (by simp; omega)
  simp only [List.size_toArray] at hc
  refine hc.mono ?_
  rintro e w' ⟨rfl, d', n, os, ⟨hs1, -, hperm⟩, hsrt, rfl⟩
  have hsz : d'.size = xs.length := by simpa using hs1
  have hd : d' = d'.toList.toArray := by simp
  have hp : xs.Perm d'.toList := by
    have h1 : (d'.extract 0 xs.length).toList = d'.toList := by rw [← hsz]; simp
    have h2 : (xs.toArray.extract 0 xs.length).toList = xs := by simp
    rw [h1, h2] at hperm
    exact hperm.symm
  have hl : d'.toList.length = xs.length := hp.length_eq.symm
  obtain ⟨h1, h2⟩ := hown.sorted refEl d'.toList hl n os
  refine ⟨rfl, d'.toList, hp, ?_, ?_, ?_⟩
  · rw [List.pairwise_iff_getElem]
    intro i j hi hj hij
    have := hsrt i j (Nat.zero_le _) hij (by omega)
    rw [ltR] at this
    have e1 : d'[j]! = d'.toList[j] := by
      rw [getElem!_pos d' j (by omega)]; simp
    have e2 : d'[i]! = d'.toList[i] := by
      rw [getElem!_pos d' i (by omega)]; simp
    rwa [e1, e2] at this
  · rw [← hd] at h1; exact h1
  · rw [← hd] at h2; exact h2

end Go.Proofs.Ytkbmocgjbhmioaa
