/- The lines of a unit, being made: rows of the call's own. The lines of a unit while they are being made: what each store does. -/
import Derived.Test.YtjhdamjbljafhaaGreatDoorP39
import Derived.Test.YtjhdamjbljafhaaGreatDoorP14
import Derived.Test.YtjhdamjbljafhaaGreatDoorP15
namespace Go.Proofs.YtjhdamjbljafhaaGreatDoor
open Go.RowKit
theorem zip_fst {α β : Type} : ∀ {l : List α} {k : List β}, l.length = k.length → (l.zip k).map Prod.fst = l
  | [], [], _ => rfl
  | a :: l, b :: k, h => by simp [zip_fst (l := l) (k := k) (by simpa using h)]
  | [], _ :: _, h => by simp at h
  | _ :: _, [], h => by simp at h
theorem zip_snd {α β : Type} : ∀ {l : List α} {k : List β}, l.length = k.length → (l.zip k).map Prod.snd = k
  | [], [], _ => rfl
  | a :: l, b :: k, h => by simp [zip_snd (l := l) (k := k) (by simpa using h)]
  | [], _ :: _, h => by simp at h
  | _ :: _, [], h => by simp at h
theorem pair_flat (ps : List (RUnit × GUnit)) : pairEl.flat ps = unitEl.flat (ps.map Prod.fst) := by
  unfold El.flat
  rw [List.flatMap_map]
  rfl
theorem Own.pairs {base : Nat} {w : World} {v : Value} {ps : List (RUnit × GUnit)} : Own pairEl base w v ps ↔ Own unitEl base w v (ps.map Prod.fst) := by
  unfold Own
  rw [pair_flat, List.length_map]
  exact Iff.rfl
theorem ReadsAll.zip {w : World} : ∀ {us : List GUnit} {rs : List RUnit}, ReadsAll w us rs → ∀ p ∈ rs.zip us, Reads w p.2 p.1
  | [], [], _, p, hp => by simp at hp
  | u :: us, r :: rs, h, p, hp => by
    rw [ReadsAll] at h
    rw [List.zip_cons_cons] at hp
    rcases List.mem_cons.1 hp with rfl | hp
    · exact h.1
    · exact ReadsAll.zip h.2 p hp
  | [], _ :: _, h, _, _ => by rw [ReadsAll] at h; exact h.elim
  | _ :: _, [], h, _, _ => by rw [ReadsAll] at h; exact h.elim
theorem mask_ne {g k : Nat} (h : k ≠ g) (w : World) : (mask (fun k => k == g) w).heap[k]? = w.heap[k]? := by
  rw [mask_block]
  have : (k == g) = false := by simpa using h
  simp [this]
theorem sortK_any (u : GUnit) (ru : RUnit) (bu base : Nat) (rs : List RUnit) (Ak : Option Addr) (ck : Nat) (w : World) (hok : OkU u) (hown : Own unitEl base w (.slice Ak rs.length ck) rs) (hlen : rs.length = u.kids.length) (hn : rs.length ≤ 1000)
    (hbox : BoxU bu ru w) (hb : bu < base) (hru : ∀ w', (∀ k, k < base → w'.heap[k]? = w.heap[k]?) → w.heap.size ≤ w'.heap.size → Reads w' u ru ∧ ReadsAll w' u.kids rs) (hbw : base ≤ w.heap.size) :
    Calls Tryz.prog 64 #[.slice Ak rs.length ck, .func (.func 65) #[] #[.pointer (some ⟨bu, 0, none⟩)]] w fun e w' => e = .returned (.tuple #[]) ∧
      ∃ M : List (RUnit × GUnit), M.length = rs.length ∧ (M.map Prod.snd).Perm u.kids ∧ (∀ p ∈ M, p ∈ rs.zip u.kids) ∧ Own pairEl 0 w' (.slice Ak M.length ck) M ∧ w'.os = w.os ∧ w'.tape = w.tape ∧ w'.output = w.output ∧ w.heap.size ≤ w'.heap.size ∧ (∀ k, k < w.heap.size → (Value.slice Ak rs.length ck).ownBlock ≠ some k → w'.heap[k]? = w.heap[k]?) := by
  obtain ⟨hr0, hall0⟩ := hru w (fun _ _ => rfl) (Nat.le_refl _)
  rcases Nat.eq_zero_or_pos rs.length with h0 | hpos
  · have hrs : rs = [] := List.eq_nil_of_length_eq_zero h0
    have hk : u.kids = [] := List.eq_nil_of_length_eq_zero (by omega)
    subst hrs
    rw [hk]
    have hnil : ∀ A c, Own pairEl 0 w (.slice A ([] : List (RUnit × GUnit)).length c) [] ↔ Own unitEl 0 w (.slice A ([] : List RUnit).length c) [] := fun A c => Own.pairs (ps := [])
    rcases hown.2 with ⟨hv, _⟩ | ⟨g, cap, cur, hv, hg, hh, _⟩
    · have e := hv
      simp only [List.length_nil, Value.slice.injEq] at e
      obtain ⟨rfl, -, rfl⟩ := e
      refine (sortNil_any _ w).mono fun e w' ⟨h1, h2⟩ => ?_
      subst h2
      exact ⟨h1, [], rfl, List.Perm.refl _, by simp, Own.nil _, rfl, rfl, rfl, Nat.le_refl _, fun _ _ _ => rfl⟩
    · have e := hv
      simp only [List.length_nil, Value.slice.injEq] at e
      obtain ⟨rfl, -, rfl⟩ := e
      have hJ : JK g bu u ru [] w := by
        have hci : CIn w (mask (fun k => k == g) w) → True := fun _ => trivial
        refine ⟨fun k v hv => ?_, ?_, by simp⟩
        · have hcell : w.cell? ⟨bu, k, none⟩ = some v := by
            obtain ⟨-, c0, c1, c2, c3, c4, c5, c6, c7⟩ := hbox
            match k, hv with
            | 0, hv => simp [RUnit.cells] at hv; rw [← hv]; exact c0
            | 1, hv => simp [RUnit.cells] at hv; rw [← hv]; exact c1
            | 2, hv => simp [RUnit.cells] at hv; rw [← hv]; exact c2
            | 3, hv => simp [RUnit.cells] at hv; rw [← hv]; exact c3
            | 4, hv => simp [RUnit.cells] at hv; rw [← hv]; exact c4
            | 5, hv => simp [RUnit.cells] at hv; rw [← hv]; exact c5
            | 6, hv => simp [RUnit.cells] at hv; rw [← hv]; exact c6
            | 7, hv => simp [RUnit.cells] at hv; rw [← hv]; exact c7
            | k + 8, hv => simp [RUnit.cells] at hv
          exact mask_cell_of (by simp; omega) hcell
        · exact (hru (mask (fun k => k == g) w) (fun k hk => mask_ne (by omega) w) (by rw [mask_size]; exact Nat.le_refl _)).1
      have hrw : Rw g ck 0 w [] := ⟨rfl, (hnil _ _).2 (hown.mono (Nat.zero_le _))⟩
      refine (sortStable_any (cmpK_of g bu u ru [] hok) (ltK_wk u) ck 0 [] w (by omega) (by simp) hJ hrw).mono fun e w' ⟨h1, hk5, M, q1, q2, q3⟩ => ?_
      have hM : M = [] := List.eq_nil_of_length_eq_zero q3.len
      subst hM
      exact ⟨h1, [], rfl, List.Perm.refl _, by simp, q3.own, hk5.os, hk5.tape, hk5.output, hk5.size, fun k h3 h4 => hk5.block k h3 (fun e => h4 (by rw [e]; rfl))⟩
  · obtain ⟨g, cc, e, hg1, hg2, -⟩ := hown.head (by intro h; rw [h] at hpos; simp at hpos)
    rw [Value.slice.injEq] at e
    obtain ⟨rfl, -, rfl⟩ := e
    obtain ⟨ps, hps⟩ : ∃ ps, rs.zip u.kids = ps := ⟨_, rfl⟩
    have hpl : ps.length = rs.length := by rw [← hps]; simp [hlen]
    have hrw : Rw g ck rs.length w ps := by
      refine ⟨hpl, ?_⟩
      rw [Own.pairs, hpl, ← hps, zip_fst (by omega)]
      exact hown.mono (Nat.zero_le _)
    have hps2 : ps.map Prod.snd = u.kids := by rw [← hps]; exact zip_snd (by omega)
    have hmk := hru (mask (fun k => k == g) w) (fun k hk => mask_ne (by omega) w) (by rw [mask_size]; exact Nat.le_refl _)
    have hJ : JK g bu u ru ps w := by
      refine ⟨fun k v hv => ?_, hmk.1, fun p hp => ReadsAll.zip hmk.2 p (by rw [hps]; exact hp)⟩
      have hcell : w.cell? ⟨bu, k, none⟩ = some v := by
        obtain ⟨-, c0, c1, c2, c3, c4, c5, c6, c7⟩ := hbox
        match k, hv with
        | 0, hv => simp [RUnit.cells] at hv; rw [← hv]; exact c0
        | 1, hv => simp [RUnit.cells] at hv; rw [← hv]; exact c1
        | 2, hv => simp [RUnit.cells] at hv; rw [← hv]; exact c2
        | 3, hv => simp [RUnit.cells] at hv; rw [← hv]; exact c3
        | 4, hv => simp [RUnit.cells] at hv; rw [← hv]; exact c4
        | 5, hv => simp [RUnit.cells] at hv; rw [← hv]; exact c5
        | 6, hv => simp [RUnit.cells] at hv; rw [← hv]; exact c6
        | 7, hv => simp [RUnit.cells] at hv; rw [← hv]; exact c7
        | k + 8, hv => simp [RUnit.cells] at hv
      exact mask_cell_of (by simp; omega) hcell
    refine (sortStable_any (cmpK_of g bu u ru ps hok) (ltK_wk u) ck rs.length ps w (by omega) (fun y hy => hy) hJ hrw).mono fun e w' ⟨h1, hk5, M, q1, q2, q3⟩ => ?_
    have hperm : (M.map Prod.snd).Perm u.kids := by rw [← hps2]; exact (q2.perm.symm).map _
    refine ⟨h1, M, q3.len, hperm, fun p hp => ?_, by have := q3.own; exact this, hk5.os, hk5.tape, hk5.output, hk5.size, fun k h3 h4 => hk5.block k h3 (fun e => h4 (by rw [e]; rfl))⟩
    rw [hps]
    exact q2.perm.mem_iff.2 hp
end Go.Proofs.YtjhdamjbljafhaaGreatDoor
namespace Go.Proofs.YtjhdamjbljafhaaGreatDoor
open Go.RowKit
abbrev GLn := RLine × List ByteArray
def NoteR (w : World) (x : GLn) : Prop := x.1.nn = x.2.length ∧ x.2.length ≤ x.1.nc ∧ Sl strEl w x.1.nA x.2
theorem NoteR.ext {w w' : World} {x : GLn} (h : NoteR w x) (he : Ext w w') : NoteR w' x := ⟨h.1, h.2.1, h.2.2.ext he⟩
def lW (x : GLn) : Nat := nF x.1.t + (x.2.map nF).sum
def wsum (xs : List GLn) : Nat := (xs.map lW).sum
def LnOk (W : Int) (x : GLn) : Prop := ((x.1.t.size : Int) ≤ W ∧ 1 ≤ nF x.1.t) ∧ ∀ s ∈ x.2, (s.size : Int) ≤ W ∧ 1 ≤ nF s
theorem wsum_append (xs ys : List GLn) : wsum (xs ++ ys) = wsum xs + wsum ys := by simp [wsum]
theorem wsum_set : ∀ (xs : List GLn) (j : Nat) (hj : j < xs.length) (y : GLn), wsum (xs.set j y) + lW xs[j] = wsum xs + lW y
  | x :: xs, 0, _, y => by simp [wsum]; omega
  | x :: xs, j + 1, h, y => by
    have := wsum_set xs j (by simpa using h) y
    simp only [wsum, List.set_cons_succ, List.map_cons, List.sum_cons, List.getElem_cons_succ] at *
    omega
theorem sum_len : ∀ (l : List ByteArray), (∀ s ∈ l, 1 ≤ nF s) → l.length ≤ (l.map nF).sum
  | [], _ => by simp
  | s :: l, h => by
    have h1 := h s (by simp)
    have h2 := sum_len l (fun x hx => h x (List.mem_cons_of_mem _ hx))
    simp only [List.length_cons, List.map_cons, List.sum_cons]
    omega
theorem wsum_len {W : Int} : ∀ (xs : List GLn), (∀ x ∈ xs, LnOk W x) → xs.length + (xs.map fun x => x.2.length).sum ≤ wsum xs
  | [], _ => by simp [wsum]
  | x :: xs, h => by
    have h1 := h x (by simp)
    have h2 := wsum_len xs (fun x hx => h x (List.mem_cons_of_mem _ hx))
    have h3 := sum_len x.2 (fun s hs => (h1.2 s hs).2)
    have := h1.1.2
    simp only [wsum, List.length_cons, List.map_cons, List.sum_cons, lW] at *
    omega
theorem wsum_mem : ∀ (xs : List GLn) (y : GLn), y ∈ xs → lW y ≤ wsum xs
  | x :: xs, y, h => by
    have h2 := wsum_mem xs y
    simp only [wsum, List.map_cons, List.sum_cons] at *
    rcases List.mem_cons.1 h with rfl | h
    · omega
    · have := h2 h
      omega
theorem LnOk.set {W : Int} {xs : List GLn} {y : GLn} (h : ∀ x ∈ xs, LnOk W x) (j : Nat) (hy : LnOk W y) : ∀ x ∈ xs.set j y, LnOk W x := fun x hx => by
  rcases List.mem_or_eq_of_mem_set hx with hx | rfl
  · exact h x hx
  · exact hy
theorem Own.bd {P : Program} {α : Type} {D : El P α} {w : World} {v : Value} {base g : Nat} {xs : List α} (h : Own D base w v xs) (hg : v.ownBlock = some g) : base ≤ g ∧ ∃ cur, w.heap[g]? = some (.cells cur D.e (0, 0)) := by
  rcases h.2 with ⟨rfl, _⟩ | ⟨g', cap, cur, rfl, hb, hh, _⟩
  · cases hg
  · cases hg
    exact ⟨hb, cur, hh⟩
theorem Own.differ {P : Program} {α β : Type} {D : El P α} {E : El P β} {w : World} {v u : Value} {b1 b2 g : Nat} {xs : List α} {ys : List β} (h : Own D b1 w v xs) (h2 : Own E b2 w u ys) (ht : D.e ≠ E.e) (hg : u.ownBlock = some g) : v.ownBlock ≠ some g := fun e => by
  obtain ⟨-, c1, h3⟩ := h.bd e
  obtain ⟨-, c2, h4⟩ := h2.bd hg
  rw [h3] at h4
  simp only [Option.some.injEq, Obj.cells.injEq] at h4
  exact ht h4.2.1
theorem Own.keepNe {P : Program} {α : Type} {D : El P α} {w w' : World} {v : Value} {base g : Nat} {xs : List α} (h : Own D base w v xs) (hne : v.ownBlock ≠ some g) (hw : ∀ k, k ≠ g → w'.heap[k]? = w.heap[k]?) : Own D base w' v xs :=
  h.keep fun k hk => hw k (fun e => hne (by rw [hk, e]))
def nV (x : GLn) : Value := .slice x.1.nA x.1.nn x.1.nc
structure OSt (W0 : World) (base : Nat) (Ak : Option Addr) (ck : Nat) (M : List (RUnit × GUnit)) (Ae : Option Addr) (ce : Nat) (E : List Int) (go co : Nat) (xs : List GLn) (w : World) : Prop where
  ext : Ext W0 w
  low : W0.heap.size ≤ base
  kids : Own pairEl 0 w (.slice Ak M.length ck) M
  kidsB : ∀ g, (Value.slice Ak M.length ck).ownBlock = some g → base ≤ g
  ends : Own intEl base w (.slice Ae E.length ce) E
  out : Own lineEl base w (.slice (some ⟨go, 0, none⟩) (xs.map Prod.fst).length co) (xs.map Prod.fst)
  notes : ∀ x ∈ xs, Own strEl base w (nV x) x.2 ∧ x.1.nn = x.2.length
  dist : ∀ i j (hi : i < xs.length) (hj : j < xs.length), i ≠ j → ∀ g, (nV xs[i]).ownBlock = some g → (nV xs[j]).ownBlock ≠ some g
section
variable {W0 w w' : World} {base : Nat} {Ak : Option Addr} {ck : Nat} {M : List (RUnit × GUnit)} {Ae : Option Addr} {ce : Nat} {E : List Int} {go co : Nat} {xs : List GLn}
theorem OSt.grow (h : OSt W0 base Ak ck M Ae ce E go co xs w) (he : Ext w w') : OSt W0 base Ak ck M Ae ce E go co xs w' :=
  ⟨h.ext.trans he, h.low, h.kids.ext he, h.kidsB, h.ends.ext he, h.out.ext he, fun x hx => ⟨(h.notes x hx).1.ext he, (h.notes x hx).2⟩, h.dist⟩
theorem OSt.put (h : OSt W0 base Ak ck M Ae ce E go co xs w) (j f : Nat) (hj : j < xs.length) (u : Value) (y : GLn) (hy : y.1.cells = (xs[j].1.cells).take f ++ [u] ++ (xs[j].1.cells).drop (f + 1)) (hf : f < 6)
    (w2 : World) (hkids : Own pairEl 0 w2 (.slice Ak M.length ck) M) (hends : Own intEl base w2 (.slice Ae E.length ce) E) (hout : Own lineEl base w2 (.slice (some ⟨go, 0, none⟩) (xs.map Prod.fst).length co) (xs.map Prod.fst)) (hext2 : Ext W0 w2)
    (hnotes : ∀ i (hi : i < xs.length), i ≠ j → Own strEl base w2 (nV xs[i]) xs[i].2 ∧ xs[i].1.nn = xs[i].2.length) (hnj : Own strEl base w2 (nV y) y.2 ∧ y.1.nn = y.2.length)
    (hdist : ∀ i (hi : i < xs.length), i ≠ j → ∀ g, (nV y).ownBlock = some g → (nV xs[i]).ownBlock ≠ some g) :
    ∃ cur : Array Value, w2.heap[go]? = some (.cells cur 54 (0, 0)) ∧ j * 6 + f + 1 ≤ cur.size ∧
      ∀ w3 : World, (∀ k, k ≠ go → w3.heap[k]? = w2.heap[k]?) → w3.os = w2.os → w3.tape = w2.tape → w3.output = w2.output → w3.heap.size = w2.heap.size → w3.heap[go]? = some (.cells (cur.toList.take (j * 6 + f) ++ [u] ++ cur.toList.drop (j * 6 + f + 1)).toArray 54 (0, 0)) → OSt W0 base Ak ck M Ae ce E go co (xs.set j y) w3 := by
  have hjm : j < (xs.map Prod.fst).length := by simpa using hj
  obtain ⟨cur, h1, h2, h3⟩ := Own.patch (k := j) (f := f) (vs := [u]) (r' := y.1) hout hjm (by simpa [lineEl] using hy) (by show f + 1 ≤ 6; omega)
  have hgo : (Value.slice (some ⟨go, 0, none⟩) (xs.map Prod.fst).length co).ownBlock = some go := rfl
  refine ⟨cur, h1, h2, fun w3 hw3 hos htp hou hs hbk => ?_⟩
  have hgb := (hout.bd hgo).1
  have e1 : (xs.map Prod.fst).set j y.1 = (xs.set j y).map Prod.fst := by rw [List.map_set]
  have ho := h3 w3 hbk
  rw [e1] at ho
  have hl : (xs.map Prod.fst).length = ((xs.set j y).map Prod.fst).length := by simp
  rw [hl] at ho
  refine ⟨hext2.put (Nat.le_trans h.low hgb) hw3 hos htp hou hs, h.low, hkids.keepNe (hkids.differ hout (by decide) hgo) hw3, h.kidsB, hends.keepNe (hends.differ hout (by decide) hgo) hw3, ho, fun x hx => ?_, ?_⟩
  · obtain ⟨i, hi, rfl⟩ := List.getElem_of_mem hx
    have hi2 : i < xs.length := by simpa using hi
    rw [List.getElem_set]
    split
    · rename_i e
      exact ⟨hnj.1.keepNe (hnj.1.differ hout (by decide) hgo) hw3, hnj.2⟩
    · rename_i e
      have := hnotes i hi2 (fun e2 => e e2.symm)
      exact ⟨this.1.keepNe (this.1.differ hout (by decide) hgo) hw3, this.2⟩
  · intro i k hi hk hne g hg
    have hi2 : i < xs.length := by simpa using hi
    have hk2 : k < xs.length := by simpa using hk
    rw [List.getElem_set] at hg ⊢
    by_cases e1 : j = i
    · rw [if_pos e1] at hg
      rw [if_neg (by omega)]
      exact hdist k hk2 (by omega) g hg
    · rw [if_neg e1] at hg
      by_cases e2 : j = k
      · rw [if_pos e2]
        intro hg2
        exact hdist i hi2 (by omega) g hg2 hg
      · rw [if_neg e2]
        exact h.dist i k hi2 hk2 hne g hg
theorem OSt.head (h : OSt W0 base Ak ck M Ae ce E go co xs w) (j : Nat) (hj : j < xs.length) :
    ∃ cur : Array Value, w.heap[go]? = some (.cells cur 54 (0, 0)) ∧ j * 6 + 4 + 1 ≤ cur.size ∧
      ∀ w3 : World, (∀ k, k ≠ go → w3.heap[k]? = w.heap[k]?) → w3.os = w.os → w3.tape = w.tape → w3.output = w.output → w3.heap.size = w.heap.size → w3.heap[go]? = some (.cells (cur.toList.take (j * 6 + 4) ++ [Value.bool true] ++ cur.toList.drop (j * 6 + 4 + 1)).toArray 54 (0, 0)) → OSt W0 base Ak ck M Ae ce E go co (xs.set j ({ xs[j].1 with h := true }, xs[j].2)) w3 :=
  h.put j 4 hj (.bool true) ({ xs[j].1 with h := true }, xs[j].2) (by simp [RLine.cells]) (by omega) w h.kids h.ends h.out h.ext (fun i hi _ => h.notes _ (List.getElem_mem hi)) (h.notes xs[j] (List.getElem_mem hj))
    (fun i hi hne g hg => h.dist j i hj hi (fun e => hne e.symm) g hg)
theorem wsum_head (xs : List GLn) (m : Nat) (hm : m < xs.length) : wsum (xs.set m ({ xs[m].1 with h := true }, xs[m].2)) = wsum xs := by
  have h := wsum_set xs m hm ({ xs[m].1 with h := true }, xs[m].2)
  have h2 : lW ({ xs[m].1 with h := true }, xs[m].2) = lW xs[m] := rfl
  omega
theorem OSt.note (h : OSt W0 base Ak ck M Ae ce E go co xs w) (j : Nat) (hj : j < xs.length) (ts : List ByteArray) (v' : Value) (w2 : World) (hbw : base ≤ w.heap.size) (hown2 : Own strEl base w2 v' (xs[j].2 ++ ts)) (hg : w.grownBy w2 (nV xs[j]).ownBlock) (hloc : v'.ownBlock = (nV xs[j]).ownBlock ∨ v'.ownBlock = some w.heap.size) :
    ∃ A' c', v' = .slice A' (xs[j].2 ++ ts).length c' ∧ ∃ cur : Array Value, w2.heap[go]? = some (.cells cur 54 (0, 0)) ∧ j * 6 + 5 + 1 ≤ cur.size ∧
      ∀ w3 : World, (∀ k, k ≠ go → w3.heap[k]? = w2.heap[k]?) → w3.os = w2.os → w3.tape = w2.tape → w3.output = w2.output → w3.heap.size = w2.heap.size → w3.heap[go]? = some (.cells (cur.toList.take (j * 6 + 5) ++ [v'] ++ cur.toList.drop (j * 6 + 5 + 1)).toArray 54 (0, 0)) →
        OSt W0 base Ak ck M Ae ce E go co (xs.set j ({ xs[j].1 with nA := A', nn := (xs[j].2 ++ ts).length, nc := c' }, xs[j].2 ++ ts)) w3 := by
  obtain ⟨A', c', rfl, -, -⟩ := hown2.form
  have hnj := (h.notes _ (List.getElem_mem hj)).1
  refine ⟨A', c', rfl, h.put j 5 hj _ ({ xs[j].1 with nA := A', nn := (xs[j].2 ++ ts).length, nc := c' }, xs[j].2 ++ ts) (by simp [RLine.cells]) (by omega) w2 (h.kids.other hnj (by decide) hg) (h.ends.other hnj (by decide) hg) (h.out.other hnj (by decide) hg) ?_ ?_ ⟨hown2, rfl⟩ ?_⟩
  · refine h.ext.grown hg h.ext.size fun k hk => ?_
    exact Nat.le_trans h.low (hnj.bd hk).1
  · intro i hi hne
    have hn := h.notes _ (List.getElem_mem hi)
    refine ⟨hn.1.keep fun k hk => hg.block k (block_lt (hn.1.bd hk).2.choose_spec) (fun e => ?_), hn.2⟩
    exact h.dist j i hj hi (fun e => hne e.symm) k e.symm hk
  · intro i hi hne g hg2 hgi
    rcases hloc with e | e
    · exact h.dist j i hj hi (fun e => hne e.symm) g (by rw [← e]; exact hg2) hgi
    · have hg3 : (Value.slice A' (xs[j].2 ++ ts).length c').ownBlock = some g := hg2
      rw [e] at hg3
      cases hg3
      have hn := h.notes _ (List.getElem_mem hi)
      have := block_lt (hn.1.bd hgi).2.choose_spec
      omega
end
end Go.Proofs.YtjhdamjbljafhaaGreatDoor
