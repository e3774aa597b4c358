/- A table with other words in a cell: the tree, and what memory reads as after the one store. -/
import Derived.Test.YthjlnpcanccmkaaCopy9
namespace Go.Proofs.Ythjlnpcanccmkaa
open Go.RowKit

def setWords (l : List GWord) : GUnit → GUnit | .mk a i n k lb h _ kids => .mk a i n k lb h l kids
def modKid (j : Nat) (f : GUnit → GUnit) : GUnit → GUnit | .mk a i n k lb h wl kids => .mk a i n k lb h wl (match kids[j]? with | some x => kids.set j (f x) | none => kids)
def setU (u : GUnit) (i j : Nat) (l : List GWord) : GUnit := modKid i (modKid j (setWords l)) u
def zeroU : GUnit := .mk 0 0 0 0 ⟨#[]⟩ [] [] []
def okB (u : GUnit) (row col : Int) (l : List GWord) : Bool := thereB u row col && decide (l.length ≤ 256)
def setF (u : GUnit) (row col : Int) (l : List GWord) : GUnit := if okB u row col l = true then setU u row.toNat col.toNat l else zeroU
theorem modKid_eq {a i n k : Int} {lb : ByteArray} {h wl : List GWord} {kids : List GUnit} {j : Nat} (hj : j < kids.length) (f : GUnit → GUnit) : modKid j f (.mk a i n k lb h wl kids) = .mk a i n k lb h wl (kids.set j (f kids[j])) := by
  simp only [modKid, List.getElem?_eq_getElem hj]
/-- a unit's cells with other words -/
def RUnit.withWords (r : RUnit) (A : Option Addr) (n c : Nat) : RUnit := { r with wA := A, wn := n, wc := c }

/-- where the words of a cell are kept -/
structure CellAt (w : World) (r : RUnit) (i j lo hi : Nat) (us : List RUnit) (q : RUnit) (cs : List RUnit) (g1 cc : Nat) : Prop where
  row : Own unitEl lo w (.slice r.kA us.length r.kc) us
  kn : r.kn = us.length
  at_ : us[i]? = some q
  kA : q.kA = some ⟨g1, 0, none⟩
  kn2 : q.kn = cs.length
  kc2 : q.kc = cc
  own : Own unitEl lo w (.slice (some ⟨g1, 0, none⟩) cs.length cc) cs
  lt : j < cs.length
  lo_le : lo ≤ g1
  lt_hi : g1 < hi

theorem set_reads {w : World} {u : GUnit} {r : RUnit} {lo hi i j : Nat} {l : List GWord} (hsep : Sep w u r lo hi) (ht : thereB u i j = true) :
    ∃ us q cs g1 cc, CellAt w r i j lo hi us q cs g1 cc ∧ ∀ (w' : World) (A : Option Addr) (c : Nat) (hj : j < cs.length), w.heap.size ≤ w'.heap.size → Own unitEl lo w' (.slice (some ⟨g1, 0, none⟩) cs.length cc) (cs.set j (cs[j].withWords A l.length c)) →
      (∀ k, lo ≤ k → k < w.heap.size → k ≠ g1 → w'.heap[k]? = w.heap[k]?) → Sl wordEl w' A l → l.length ≤ c → Reads w' (setU u i j l) r := by
  obtain ⟨hvb, h1, h2, h3, h4⟩ := there_parts2 ht
  obtain ⟨-, hv2, hv3, hv4⟩ := validB_parts hvb
  obtain ⟨nc, hnc⟩ : ∃ nc, ncols u = nc := ⟨_, rfl⟩
  rw [hnc] at h4 hv3 hv4
  obtain ⟨a, ii, n, kd, lb, hl, wl, kids⟩ := u
  simp only [GUnit.kids] at h2 hv4
  rw [Sep] at hsep
  obtain ⟨s0, m, us, s1, s2, ⟨s3, s4⟩, ⟨s5, s6⟩, ⟨s7, s8⟩, s9⟩ := hsep
  have hul := SepL.length s9
  have hi1 : i < kids.length := by omega
  have hi2 : i < us.length := by omega
  obtain ⟨-, hrl, -⟩ := rowOk_parts (all_get hv4 i hi1)
  obtain ⟨x, y, t1, t2, t3, t4, t5⟩ := SepL.split s9 i hi1 hi2
  obtain ⟨q, hq⟩ : ∃ q, us[i] = q := ⟨_, rfl⟩
  obtain ⟨v, hv⟩ : ∃ v, kids[i] = v := ⟨_, rfl⟩
  rw [hq, hv] at t4
  rw [hv] at hrl
  obtain ⟨va, vi, vn, vk, vl, vh, vw, cells⟩ := v
  rw [Sep] at t4
  obtain ⟨r0, m2, cs, r1, r2, ⟨r3, r4⟩, ⟨r5, r6⟩, ⟨r7, r8⟩, r9⟩ := t4
  simp only [GUnit.kids] at hrl
  have hcl := SepL.length r9
  have hj1 : j < cells.length := by omega
  have hj2 : j < cs.length := by omega
  have ho : Own unitEl x w (.slice q.kA cs.length q.kc) cs := by rw [hcl, ← r7]; exact r8.1
  obtain ⟨g1, cc, e, hg1, hg2, -⟩ := ho.head (by intro h; rw [h] at hj2; simp at hj2)
  rw [Value.slice.injEq] at e
  obtain ⟨ek, -, ec⟩ := e
  have hg3 : g1 < m2 := r8.2 g1 (by rw [ek]; rfl)
  have hrow : Own unitEl lo w (.slice r.kA us.length r.kc) us := by rw [hul, ← s7]; exact s8.1
  have hown : Own unitEl lo w (.slice (some ⟨g1, 0, none⟩) cs.length cc) cs := by
    rw [← ek, ← ec]
    exact ho.mono (by omega)
  refine ⟨us, q, cs, g1, cc, ⟨hrow, by rw [s7, hul], by rw [List.getElem?_eq_getElem hi2, hq], ek, by rw [r7, hcl], ec, hown, hj2, by omega, by omega⟩, ?_⟩
  intro w' A c hj hsz hown' hkeep hsl hlc
  obtain ⟨p, hp⟩ : ∃ p : Nat → Bool, p = fun k => decide (k < lo) || decide (k = g1) := ⟨_, rfl⟩
  have hp1 : ∀ k, lo ≤ k → k ≠ g1 → p k = false := fun k h1 h2 => by rw [hp]; simp [h2]; omega
  have hci : CIn (mask p w) w' := (CIn.keep (p := p) (q := fun _ => false) hsz fun k hk hpk => by
    rw [hp] at hpk
    simp only [Bool.or_eq_false_iff, decide_eq_false_iff_not] at hpk
    exact ⟨hkeep k (by omega) hk hpk.2, rfl⟩).trans (CIn.unmask _ _)
  have hown1 := hown.blk
  obtain ⟨cur, hcur⟩ := hown1
  have hw : ∀ {z : Value} {zs : List GWord} {b e : Nat}, lo ≤ b → OwnIn wordEl w z zs b e → ∃ A c, z = .slice A zs.length c ∧ zs.length ≤ c ∧ Sl wordEl w' A zs := fun {z zs b e} hb o => by
    have hn := o.1.ne hcur (by decide)
    obtain ⟨A, c, e1, e2, -, e3⟩ := o.1.formMask (p := p) (fun k hk hk2 => hp1 k (by omega) (hn k hk2))
    exact ⟨A, c, e1, e2, e3.cin hci⟩
  obtain ⟨A1, c1, e1, f1, k1⟩ := hw (Nat.le_refl _) s4
  obtain ⟨A2, c2, e2, f2, k2⟩ := hw (Nat.le_refl _) s6
  obtain ⟨A3, c3, e3, f3, k3⟩ := hw (by omega) r4
  obtain ⟨A4, c4, e4, f4, k4⟩ := hw (by omega) r6
  rw [Value.slice.injEq] at e1 e2 e3 e4
  obtain ⟨rfl, -, rfl⟩ := e1
  obtain ⟨rfl, -, rfl⟩ := e2
  obtain ⟨rfl, -, rfl⟩ := e3
  obtain ⟨rfl, -, rfl⟩ := e4
  obtain ⟨A5, c5, e5, f5, -, k5⟩ := s8.1.formMask (p := p) (fun k hk hk2 => hp1 k hk (by have := s8.2 k hk2; omega))
  rw [Value.slice.injEq] at e5
  obtain ⟨rfl, -, rfl⟩ := e5
  unfold setU
  rw [modKid_eq hi1, Reads]
  refine ⟨s0, ⟨s3, f1, k1⟩, ⟨s5, f2, k2⟩, by rw [List.length_set]; exact s7, by rw [List.length_set, ← hul]; exact f5, us, k5.cin hci, ?_⟩
  refine ReadsAll.of_get (by rw [List.length_set]; exact hul) fun k g1' g2' => ?_
  rw [List.length_set] at g1'
  rw [List.getElem_set]
  by_cases hki : i = k
  · rw [if_pos hki]
    subst hki
    rw [hq, hv, modKid_eq hj1, Reads]
    obtain ⟨A6, c6, e6, f6, k6⟩ := hown'.form
    rw [Value.slice.injEq] at e6
    obtain ⟨rfl, -, rfl⟩ := e6
    refine ⟨r0, ⟨r3, f3, k3⟩, ⟨r5, f4, k4⟩, by rw [List.length_set]; exact r7, ?_, _, by rw [ek]; exact k6, ?_⟩
    · rw [List.length_set, ← hcl, ec]
      rw [List.length_set] at f6
      exact f6
    · refine ReadsAll.of_get (by rw [List.length_set, List.length_set]; exact hcl) fun k' g3' g4' => ?_
      rw [List.length_set] at g3' g4'
      have hall := SepL.reads cells cs m2 y r9 (p := p) fun k hk hk2 => hp1 k (by omega) (by omega)
      have hk' := Reads.cin hci _ _ (ReadsAll.get hall k' g3' g4')
      rw [List.getElem_set, List.getElem_set]
      by_cases hkj : j = k'
      · rw [if_pos hkj, if_pos hkj]
        subst hkj
        obtain ⟨cu, hcu⟩ : ∃ cu, cells[j] = cu := ⟨_, rfl⟩
        rw [hcu] at hk' ⊢
        obtain ⟨_, _, _, _, _, _, _, _⟩ := cu
        rw [Reads] at hk'
        unfold setWords RUnit.withWords
        rw [Reads]
        exact ⟨hk'.1, hk'.2.1, ⟨rfl, hlc, hsl⟩, hk'.2.2.2⟩
      · rw [if_neg hkj, if_neg hkj]
        exact hk'
  · rw [if_neg hki]
    exact Reads.cin hci _ _ (t5 p (fun z hz hz2 hz3 => hp1 z (by omega) (by intro h; subst h; omega)) k g1' (by omega) (fun h => hki h.symm))

end Go.Proofs.Ythjlnpcanccmkaa
