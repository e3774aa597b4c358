/- The sorted table: its rows, and what memory reads as after the sort. -/
import Derived.Test.YthjlnpcanccmkaaCmpF9
import Derived.Test.YthjlnpcanccmkaaStab9
import Derived.Test.YthjlnpcanccmkaaSetF9
import Derived.Test.YthjlnpcanccmkaaCopy9
namespace Go.Proofs.Ythjlnpcanccmkaa
open Go.RowKit

def withKids (ks : List GUnit) : GUnit → GUnit | .mk a i n k lb h wl _ => .mk a i n k lb h wl ks
def ltG (j : Nat) (x y : GUnit) : Bool := lessB (cellText j x) (cellText j y)
theorem ltG_wk (j : Nat) : Wk (ltG j) := lessB_wk (cellText j)
/-- sorted by the texts of column j, those alike in their order -/
def SortedOf (j : Nat) (l l' : List GUnit) : Prop := Srt (ltG j) l' ∧ SO (ltG j) l l'
theorem SortedOf.uniq {j : Nat} {l a b : List GUnit} (h : SortedOf j l a) (k : SortedOf j l b) : a = b := Srt.uniq (ltG_wk j) h.1 k.1 (h.2.symm.trans k.2)
theorem SO.units {j : Nat} {l l' : List (RUnit × GUnit)} (h : SO (ltC j) l l') : SO (ltG j) (l.map Prod.snd) (l'.map Prod.snd) := by
  refine ⟨fun z => ?_, h.perm.map _⟩
  have := h.cls (unit0, z)
  have e : ∀ q : List (RUnit × GUnit), (q.map Prod.snd).filter (eqv (ltG j) z) = (q.filter (eqv (ltC j) (unit0, z))).map Prod.snd := fun q => by
    rw [List.filter_map]; rfl
  rw [e, e, this]
theorem Srt.units {j : Nat} {l : List (RUnit × GUnit)} (h : Srt (ltC j) l) : Srt (ltG j) (l.map Prod.snd) := List.pairwise_map.2 h
theorem zip_fst {α β : Type} : ∀ {l : List α} {k : List β}, l.length = k.length → (l.zip k).map Prod.fst = l
  | [], [], _ => rfl
  | a :: l, b :: k, h => by simp [zip_fst (l := l) (k := k) (by simpa using h)]
  | [], _ :: _, h => by simp at h
  | _ :: _, [], h => by simp at h
theorem zip_snd {α β : Type} : ∀ {l : List α} {k : List β}, l.length = k.length → (l.zip k).map Prod.snd = k
  | [], [], _ => rfl
  | a :: l, b :: k, h => by simp [zip_snd (l := l) (k := k) (by simpa using h)]
  | [], _ :: _, h => by simp at h
  | _ :: _, [], h => by simp at h
theorem pair_flat (ps : List (RUnit × GUnit)) : pairEl.flat ps = unitEl.flat (ps.map Prod.fst) := by
  unfold El.flat
  rw [List.flatMap_map]
  rfl
theorem Own.pairs {base : Nat} {w : World} {v : Value} {ps : List (RUnit × GUnit)} : Own pairEl base w v ps ↔ Own unitEl base w v (ps.map Prod.fst) := by
  unfold Own
  rw [pair_flat, List.length_map]
  exact Iff.rfl
theorem ReadsAll.zip {w : World} : ∀ {us : List GUnit} {rs : List RUnit}, ReadsAll w us rs → ∀ p ∈ rs.zip us, Reads w p.2 p.1
  | [], [], _, p, hp => by simp at hp
  | u :: us, r :: rs, h, p, hp => by
    rw [ReadsAll] at h
    rw [List.zip_cons_cons] at hp
    rcases List.mem_cons.1 hp with rfl | hp
    · exact h.1
    · exact ReadsAll.zip h.2 p hp
  | [], _ :: _, h, _, _ => by rw [ReadsAll] at h; exact h.elim
  | _ :: _, [], h, _, _ => by rw [ReadsAll] at h; exact h.elim
theorem ReadsAll.ofPairs {w : World} : ∀ {ps : List (RUnit × GUnit)}, (∀ p ∈ ps, Reads w p.2 p.1) → ReadsAll w (ps.map Prod.snd) (ps.map Prod.fst)
  | [], _ => by simp only [List.map_nil]; rw [ReadsAll]; trivial
  | p :: ps, h => by
    simp only [List.map_cons]
    rw [ReadsAll]
    exact ⟨h p (by simp), ReadsAll.ofPairs fun q hq => h q (by simp [hq])⟩

/-- a copied table as a row of pairs, and what it reads as once that row is sorted -/
theorem sort_reads {w : World} {u : GUnit} {r : RUnit} {lo hi j bx : Nat} (hsep : Sep w u r lo hi) (hne : u.kids ≠ []) (hbx : w.cell? ⟨bx, 0, none⟩ = some (.int .i64 (j : Nat))) (hbl : bx < lo) :
    ∃ g, r.kA = some ⟨g, 0, none⟩ ∧ r.kn = u.kids.length ∧ lo ≤ g ∧ g < w.heap.size ∧ ∃ ps : List (RUnit × GUnit), ps.map Prod.snd = u.kids ∧ Rw g r.kc u.kids.length w ps ∧ JC g bx j ps w ∧
      ∀ (w' : World) (M : List (RUnit × GUnit)), w.heap.size ≤ w'.heap.size → (∀ k, lo ≤ k → k < w.heap.size → k ≠ g → w'.heap[k]? = w.heap[k]?) → Srt (ltC j) M → SO (ltC j) ps M → Rw g r.kc u.kids.length w' M → ∃ us, SortedOf j u.kids us ∧ Reads w' (withKids us u) r := by
  obtain ⟨a, ii, n, kd, lb, hl, wl, kids⟩ := u
  simp only [GUnit.kids] at hne ⊢
  rw [Sep] at hsep
  obtain ⟨s0, m, us, s1, s2, ⟨s3, s4⟩, ⟨s5, s6⟩, ⟨s7, s8⟩, s9⟩ := hsep
  have hul := SepL.length s9
  have ho : Own unitEl lo w (.slice r.kA us.length r.kc) us := by rw [hul, ← s7]; exact s8.1
  obtain ⟨g, cc, e, hg1, hg2, -⟩ := ho.head (by intro h; rw [h] at hul; simp at hul; exact hne (List.eq_nil_of_length_eq_zero hul.symm))
  rw [Value.slice.injEq] at e
  obtain ⟨ek, -, ec⟩ := e
  have hg3 : g < m := s8.2 g (by rw [ek]; rfl)
  have hlu : us.length = kids.length := hul
  have hps : Rw g r.kc kids.length w (us.zip kids) := by
    refine ⟨by simp [hlu], ?_⟩
    rw [Own.pairs, zip_fst hlu]
    have : (us.zip kids).length = us.length := by simp [hlu]
    rw [this, ← ek]
    exact ho.mono (Nat.zero_le _)
  have hall : ReadsAll (mask (fun k => k == g) w) kids us := SepL.reads _ _ _ _ s9 fun k hk hk2 => by simp; omega
  refine ⟨g, ek, s7, hg1, hg2, us.zip kids, zip_snd hlu, hps, ⟨mask_cell_of (by simp; omega) hbx, hall.zip⟩, ?_⟩
  intro w' M hsz hk hs hso hrw
  have hall2 : ReadsAll (mask (fun k => decide (k < lo) || k == g) w) kids us := SepL.reads _ _ _ _ s9 fun k hk hk2 => by simp; omega
  have hci : CIn (mask (fun k => decide (k < lo) || k == g) w) w' := (CIn.keep (q := fun _ => false) hsz fun k hk1 hpk => by
    simp only [Bool.or_eq_false_iff, decide_eq_false_iff_not, beq_eq_false_iff_ne] at hpk
    exact ⟨hk k (by omega) hk1 hpk.2, rfl⟩).trans (CIn.unmask _ _)
  have hperm := hso.units
  rw [zip_snd hlu] at hperm
  refine ⟨M.map Prod.snd, ⟨hs.units, hperm⟩, ?_⟩
  have hlen : (M.map Prod.snd).length = kids.length := by simpa using hrw.len
  obtain ⟨cur, hcur⟩ := ho.mono (Nat.zero_le lo) |> fun (o : Own unitEl 0 w (.slice r.kA us.length r.kc) us) => (ek ▸ o : Own unitEl 0 w (.slice (some ⟨g, 0, none⟩) us.length r.kc) us).blk
  have hw : ∀ {z : Value} {zs : List GWord}, OwnIn wordEl w z zs lo m → ∃ A c, z = .slice A zs.length c ∧ zs.length ≤ c ∧ Sl wordEl w' A zs := fun {z zs} o => by
    have hn := o.1.ne hcur (by decide)
    have hk' : OwnIn wordEl w' z zs lo m := ⟨o.1.keep fun k hk2 => hk k (o.1.lt k hk2).1 (o.1.lt k hk2).2 (hn k hk2), o.2⟩
    obtain ⟨A, c, e1, e2, e3⟩ := hk'.1.form
    exact ⟨A, c, e1, e2, e3⟩
  obtain ⟨A1, c1, e1, f1, k1⟩ := hw s4
  obtain ⟨A2, c2, e2, f2, k2⟩ := hw s6
  rw [Value.slice.injEq] at e1 e2
  obtain ⟨rfl, -, rfl⟩ := e1
  obtain ⟨rfl, -, rfl⟩ := e2
  obtain ⟨A3, c3, e3, f3, k3⟩ := (Own.pairs.1 hrw.own).form
  rw [Value.slice.injEq] at e3
  obtain ⟨rfl, -, rfl⟩ := e3
  show Reads w' (.mk a ii n kd lb hl wl (M.map Prod.snd)) r
  rw [Reads]
  refine ⟨s0, ⟨s3, f1, k1⟩, ⟨s5, f2, k2⟩, by rw [hlen]; exact s7, ?_, M.map Prod.fst, by rw [ek]; exact k3, ReadsAll.ofPairs fun p hp => Reads.cin hci _ _ (hall2.zip p (hso.perm.mem_iff.2 hp))⟩
  rw [List.length_map] at f3 ⊢
  exact f3

end Go.Proofs.Ythjlnpcanccmkaa
