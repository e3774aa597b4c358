/- The texts of an edited list: each chosen occurrence of a part is replaced by other strings; editing from the last occurrence to the first, one at a time, gives the same. -/
import Derived.Test.YtkbmocgjbhmioaaUnique
namespace Go.Proofs.Ytkbmocgjbhmioaa
open Go.RowKit

/-- the list with g strings at each place replaced by X -/
def edT (l : List ByteArray) (g : Nat) (X : List ByteArray) : Nat → List Nat → List ByteArray
  | b, [] => l.drop b
  | b, p :: ps => (l.drop b).take (p - b) ++ (X ++ edT l g X (p + g) ps)

theorem markF_t (a i : Int) : ∀ (f : Int) (s : List ByteArray), (markF a i f s).map GWord.t = s
  | _, [] => rfl
  | f, x :: s => by simp [markF, markF_t a i (f + 1) s]
theorem putR_t (w : List GWord) (g : Nat) (fresh : List ByteArray) (a i : Int) : ∀ (ps : List Nat) (j b : Nat), (putR w g fresh a i j b ps).map GWord.t = edT (w.map GWord.t) g fresh b ps
  | [], j, b => by simp [putR, edT]
  | p :: ps, j, b => by simp [putR, edT, markF_t, putR_t w g fresh a i ps]
theorem putR_t_ins (w : List GWord) (part fresh : List ByteArray) (a i : Int) : ∀ (ps : List Nat) (j b : Nat), goodP w.length part.length b ps → (∀ p ∈ ps, stands (w.map GWord.t) part p) →
    (putR w 0 fresh a i j b (ps.map (· + part.length))).map GWord.t = edT (w.map GWord.t) part.length (part ++ fresh) b ps
  | [], j, b, _, _ => by simp [putR, edT]
  | p :: ps, j, b, h, hs => by
    have h1 : b ≤ p := h.1
    have h2 := (hs p (by simp)).2
    have ih := putR_t_ins w part fresh a i ps (j + 1) (p + part.length) h.2.2 (fun q hq => hs q (by simp [hq]))
    simp only [List.map_cons, putR, edT, List.map_append, markF_t, Nat.add_zero, ih, List.append_assoc]
    rw [show p + part.length - b = (p - b) + part.length from by omega, List.map_take, List.map_drop, List.take_add, List.append_assoc, List.drop_drop, show b + (p - b) = p from by omega, h2]
theorem edT_length (l : List ByteArray) (g : Nat) (X : List ByteArray) : ∀ (ps : List Nat) (b : Nat), goodP l.length g b ps → (edT l g X b ps).length + ps.length * g = l.length - b + ps.length * X.length
  | [], b, h => by simp [edT]
  | p :: ps, b, h => by
    have h1 : b ≤ p := h.1
    have h2 : p + g ≤ l.length := h.2.1
    have ih := edT_length l g X ps (p + g) h.2.2
    simp only [edT, List.length_append, List.length_take, List.length_drop, List.length_cons, Nat.succ_mul]
    omega
theorem edT_take {l : List ByteArray} {g : Nat} {X : List ByteArray} {m : Nat} : ∀ {qs : List Nat}, goodP l.length g m qs → (edT l g X 0 qs).take m = l.take m ∧ m ≤ (edT l g X 0 qs).length
  | [], h => ⟨by simp [edT], by rw [show edT l g X 0 [] = l from by simp [edT]]; exact h⟩
  | q :: qs, h => by
    have h1 : m ≤ q := h.1
    have h2 : q + g ≤ l.length := h.2.1
    have e : (l.take q).length = q := by simp; omega
    simp only [edT, List.drop_zero, Nat.sub_zero]
    refine ⟨?_, ?_⟩
    · rw [List.take_append_of_le_length (by omega), List.take_take, Nat.min_eq_left h1]
    · rw [List.length_append, e]; omega
theorem edT_drop {l : List ByteArray} {g : Nat} {X : List ByteArray} {m : Nat} : ∀ {qs : List Nat}, goodP l.length g m qs → (edT l g X 0 qs).drop m = edT l g X m qs
  | [], h => by simp [edT]
  | q :: qs, h => by
    have h1 : m ≤ q := h.1
    have h2 : q + g ≤ l.length := h.2.1
    simp only [edT, List.drop_zero, Nat.sub_zero]
    rw [List.drop_append_of_le_length (by simp; omega), List.drop_take]

theorem stands_prefix {l l2 part : List ByteArray} {m j : Nat} (h : l2.take m = l.take m) (hm : m ≤ l.length) (hm2 : m ≤ l2.length) (hj : j + part.length ≤ m) : stands l2 part j ↔ stands l part j := by
  have key : ∀ x : List ByteArray, m ≤ x.length → (x.drop j).take part.length = ((x.take m).drop j).take part.length := by
    intro x _
    rw [List.drop_take, List.take_take, Nat.min_eq_left (by omega)]
  unfold stands
  rw [key l hm, key l2 hm2, h]
  constructor
  · intro hh; exact ⟨by omega, hh.2⟩
  · intro hh; exact ⟨by omega, hh.2⟩
theorem occ_stands (l part : List ByteArray) : ∀ (f i : Nat) (ps : List Nat), occ l part f i = ps.map (fun n : Nat => (n : Int)) → ∀ p ∈ ps, i ≤ p ∧ stands l part p
  | 0, i, ps, h, p, hp => by
    have : ps = [] := by simpa [occ] using h.symm
    subst this; cases hp
  | f + 1, i, ps, h, p, hp => by
    rw [occ] at h
    split at h
    · rename_i hs
      cases ps with
      | nil => simp at h
      | cons q qs =>
        simp only [List.map_cons, List.cons.injEq] at h
        have hq : i = q := by omega
        subst hq
        rcases List.mem_cons.1 hp with rfl | hp
        · exact ⟨Nat.le_refl _, hs⟩
        · have := occ_stands l part f (i + part.length) qs h.2 p hp
          exact ⟨by omega, this.2⟩
    · have := occ_stands l part f (i + 1) ps h p hp
      exact ⟨by omega, this.2⟩
theorem occ_take {l l2 part : List ByteArray} {m : Nat} (h : l2.take m = l.take m) (hm : m ≤ l.length) (hm2 : m ≤ l2.length) (hg : 0 < part.length) : ∀ (f i f2 k : Nat) (ps : List Nat), l.length < f + i → l2.length < f2 + i →
    occ l part f i = ps.map (fun n : Nat => (n : Int)) → (∀ p ∈ ps.take k, p + part.length ≤ m) → k ≤ ps.length → (occ l2 part f2 i).take k = (ps.take k).map (fun n : Nat => (n : Int))
  | _, _, _, 0, _, _, _, _, _, _ => by simp
  | 0, i, f2, k + 1, ps, h1, h2, ho, hp, hk => by
    have : ps = [] := by simpa [occ] using ho.symm
    subst this; simp at hk
  | f + 1, i, f2, k + 1, ps, h1, h2, ho, hp, hk => by
    cases ps with
    | nil => simp at hk
    | cons q qs =>
      have hqm := hp q (by simp)
      have hqi := (occ_stands l part (f + 1) i (q :: qs) ho q (by simp)).1
      obtain ⟨f2', rfl⟩ : ∃ f2', f2 = f2' + 1 := ⟨f2 - 1, by omega⟩
      rw [occ] at ho
      rw [occ]
      have hst : stands l2 part i ↔ stands l part i := stands_prefix h hm hm2 (by omega)
      by_cases hs : stands l part i
      · rw [if_pos hs] at ho
        rw [if_pos (hst.2 hs)]
        simp only [List.map_cons, List.cons.injEq] at ho
        have hq : i = q := by omega
        subst hq
        simp only [List.take_succ_cons, List.map_cons, List.cons.injEq, true_and]
        exact occ_take h hm hm2 hg f (i + part.length) f2' k qs (by omega) (by omega) ho.2 (fun p hp' => hp p (by simp [hp'])) (by simpa using hk)
      · rw [if_neg hs] at ho
        rw [if_neg (fun x => hs (hst.1 x))]
        exact occ_take h hm hm2 hg f (i + 1) f2' (k + 1) (q :: qs) (by omega) (by omega) ho hp hk

/-- the occurrences in l, as numbers -/
theorem found (l part : List ByteArray) (hg : 0 < part.length) : ∃ ps : List Nat, findF l part = ps.map (fun n : Nat => (n : Int)) ∧ goodP l.length part.length 0 ps ∧ ∀ p ∈ ps, stands l part p := by
  have hf : findF l part = occ l part (l.length + 1) 0 := by unfold findF; rw [if_neg (by rintro rfl; simp at hg)]
  obtain ⟨ps, h1, h2⟩ := occ_good l part hg (l.length + 1) 0 (Nat.zero_le _)
  exact ⟨ps, hf.trans h1, h2, fun p hp => (occ_stands l part _ _ ps h1 p hp).2⟩
theorem found_first {l l2 part : List ByteArray} {ps : List Nat} {m k p : Nat} (hg : 0 < part.length) (hf : findF l part = ps.map (fun n : Nat => (n : Int))) (hgood : goodP l.length part.length 0 ps) (h : l2.take m = l.take m) (hm : m ≤ l.length) (hm2 : m ≤ l2.length)
    (hp : ps[k]? = some p) (hpm : p + part.length ≤ m) : chosenF (findF l2 part) ((k : Int) + 1) = [(p : Int)] := by
  have h1 : findF l part = occ l part (l.length + 1) 0 := by unfold findF; rw [if_neg (by rintro rfl; simp at hg)]
  have h2 : findF l2 part = occ l2 part (l2.length + 1) 0 := by unfold findF; rw [if_neg (by rintro rfl; simp at hg)]
  have hk : k < ps.length := (List.getElem?_eq_some_iff.1 hp).1
  have hall : ∀ q ∈ ps.take (k + 1), q + part.length ≤ m := by
    intro q hq
    obtain ⟨i, hi, hqi⟩ := List.getElem_of_mem hq
    simp only [List.length_take] at hi
    rw [List.getElem_take] at hqi
    rcases Nat.lt_or_ge i k with hik | hik
    · have ha := goodP_at hgood (List.getElem?_eq_getElem (by omega : i < ps.length))
      have hb : (ps.drop (i + 1))[k - (i + 1)]? = some p := by rw [List.getElem?_drop, show i + 1 + (k - (i + 1)) = k from by omega]; exact hp
      have := (goodP_at ha.2.2 hb).1
      omega
    · have : i = k := by omega
      subst this
      rw [List.getElem?_eq_getElem hk, hqi] at hp
      simp only [Option.some.injEq] at hp
      omega
  have h3 := occ_take h hm hm2 hg (l.length + 1) 0 (l2.length + 1) (k + 1) ps (by omega) (by omega) (h1 ▸ hf) hall (by omega)
  rw [← h2] at h3
  unfold chosenF
  rw [if_neg (by omega), if_neg (by omega), show (((k : Int) + 1) - 1).toNat = k from by omega]
  have h4 : ((findF l2 part).take (k + 1)).drop k = ((findF l2 part).drop k).take 1 := by rw [List.drop_take, show k + 1 - k = 1 from by omega]
  rw [← h4, h3, ← List.map_drop, List.drop_take, show k + 1 - k = 1 from by omega]
  have : (ps.drop k).take 1 = [p] := by
    rw [List.drop_eq_getElem_cons hk]
    rw [List.getElem?_eq_getElem hk] at hp
    simp only [Option.some.injEq] at hp
    simp [hp]
  rw [this]
  rfl

/-- what an edit hands back, by the texts alone: R is Replace with X = fresh, or InsertAfter with X = part ++ fresh -/
structure Ed (R : List GWord → Int → List GWord × Int) (part X : List ByteArray) : Prop where
  miss : ∀ w k, 0 ≤ k → chosenF (findF (w.map GWord.t) part) k = [] → R w k = ([], 4)
  full : ∀ w k (ps : List Nat), 0 ≤ k → chosenF (findF (w.map GWord.t) part) k = ps.map (fun n : Nat => (n : Int)) → ps ≠ [] → goodP w.length part.length 0 ps → (∀ p ∈ ps, stands (w.map GWord.t) part p) →
    256 < (edT (w.map GWord.t) part.length X 0 ps).length → R w k = ([], 6)
  ok : ∀ w k (ps : List Nat), 0 ≤ k → chosenF (findF (w.map GWord.t) part) k = ps.map (fun n : Nat => (n : Int)) → ps ≠ [] → goodP w.length part.length 0 ps → (∀ p ∈ ps, stands (w.map GWord.t) part p) →
    (edT (w.map GWord.t) part.length X 0 ps).length ≤ 256 → (R w k).2 = 0 ∧ (R w k).1.map GWord.t = edT (w.map GWord.t) part.length X 0 ps
theorem heldF_full {xs : List GWord} (h : 256 < xs.length) : heldF xs = ([], 6) := by unfold heldF; rw [if_neg (by omega)]
theorem heldF_yes {xs : List GWord} (h : xs.length ≤ 256) : heldF xs = (xs, 0) := by unfold heldF; rw [if_pos h]
theorem repF_ed {part fresh : List ByteArray} (hp : part ≠ []) (a i : Int) : Ed (fun w k => repF w part fresh k a i) part fresh := by
  have hp' : ¬ part.length = 0 := fun h => hp (List.eq_nil_of_length_eq_zero h)
  have hlen : ∀ (w : List GWord) (ps : List Nat), (putR w part.length fresh a i 0 0 ps).length = (edT (w.map GWord.t) part.length fresh 0 ps).length := fun w ps => by rw [← putR_t w part.length fresh a i ps 0 0, List.length_map]
  have hne : ∀ ps : List Nat, ps ≠ [] → ps.map (fun n : Nat => (n : Int)) ≠ [] := fun ps h => by simpa using h
  refine ⟨fun w k hk h => ?_, fun w k ps hk h h0 hg hs hl => ?_, fun w k ps hk h h0 hg hs hl => ?_⟩
  · show repF w part fresh k a i = _
    unfold repF
    rw [if_neg (by omega), if_pos h]
  · show repF w part fresh k a i = _
    unfold repF
    rw [if_neg (by omega), h, if_neg (hne ps h0), toNat_map, heldF_full (by rw [hlen]; exact hl)]
  · show (repF w part fresh k a i).2 = 0 ∧ (repF w part fresh k a i).1.map GWord.t = _
    unfold repF
    rw [if_neg (by omega), h, if_neg (hne ps h0), toNat_map, heldF_yes (by rw [hlen]; exact hl)]
    exact ⟨rfl, putR_t _ _ _ _ _ _ _ _⟩
theorem insF_ed {part fresh : List ByteArray} (hp : part ≠ []) (hf : fresh ≠ []) (a i : Int) : Ed (fun w k => insF w part fresh k a i) part (part ++ fresh) := by
  have hp' : ¬ part.length = 0 := fun h => hp (List.eq_nil_of_length_eq_zero h)
  have hf' : ¬ fresh.length = 0 := fun h => hf (List.eq_nil_of_length_eq_zero h)
  have hlen : ∀ (w : List GWord) (ps : List Nat), goodP w.length part.length 0 ps → (∀ p ∈ ps, stands (w.map GWord.t) part p) → (putR w 0 fresh a i 0 0 (ps.map (· + part.length))).length = (edT (w.map GWord.t) part.length (part ++ fresh) 0 ps).length := fun w ps h1 h2 => by rw [← putR_t_ins w part fresh a i ps 0 0 h1 h2, List.length_map]
  have hne : ∀ ps : List Nat, ps ≠ [] → ps.map (fun n : Nat => (n : Int)) ≠ [] := fun ps h => by simpa using h
  refine ⟨fun w k hk h => ?_, fun w k ps hk h h0 hg hs hl => ?_, fun w k ps hk h h0 hg hs hl => ?_⟩
  · show insF w part fresh k a i = _
    unfold insF
    rw [if_neg (by omega), if_neg hp', if_pos h]
  · show insF w part fresh k a i = _
    unfold insF
    rw [if_neg (by omega), if_neg hp', h, if_neg (hne ps h0), toNat_map, heldF_full (by rw [hlen w ps hg hs]; exact hl)]
  · show (insF w part fresh k a i).2 = 0 ∧ (insF w part fresh k a i).1.map GWord.t = _
    unfold insF
    rw [if_neg (by omega), if_neg hp', h, if_neg (hne ps h0), toNat_map, heldF_yes (by rw [hlen w ps hg hs]; exact hl)]
    exact ⟨rfl, putR_t_ins _ _ _ _ _ _ _ _ hg hs⟩

/-- one edit more, from the last occurrence to the first -/
theorem Ed.step {R : List GWord → Int → List GWord × Int} {part X : List ByteArray} (h : Ed R part X) (hg : 0 < part.length) (hX : X.length ≤ part.length + 3) {l : List ByteArray} (hl : l.length ≤ 60) {ps : List Nat} (hf : findF l part = ps.map (fun n : Nat => (n : Int)))
    (hgood : goodP l.length part.length 0 ps) (hst : ∀ p ∈ ps, stands l part p) {k : Nat} (hk : k < ps.length) {w : List GWord} (hw : w.map GWord.t = edT l part.length X 0 (ps.drop (k + 1))) :
    (R w ((k : Int) + 1)).2 = 0 ∧ (R w ((k : Int) + 1)).1.map GWord.t = edT l part.length X 0 (ps.drop k) := by
  obtain ⟨p, hp⟩ : ∃ p, ps[k]? = some p := ⟨_, List.getElem?_eq_getElem hk⟩
  have ha := goodP_at hgood hp
  have hdk : ps.drop k = p :: ps.drop (k + 1) := by
    rw [List.drop_eq_getElem_cons hk]
    rw [List.getElem?_eq_getElem hk] at hp
    simp only [Option.some.injEq] at hp
    rw [hp]
  have ht := edT_take (X := X) ha.2.2
  have hd := edT_drop (X := X) ha.2.2
  have hch : chosenF (findF (w.map GWord.t) part) ((k : Int) + 1) = [p].map (fun n : Nat => (n : Int)) := by rw [hw]; exact found_first hg hf hgood ht.1 ha.2.1 ht.2 hp (Nat.le_refl _)
  have hwl : w.length = (edT l part.length X 0 (ps.drop (k + 1))).length := by rw [← hw, List.length_map]
  have hsp : stands (w.map GWord.t) part p := by
    rw [hw]
    exact (stands_prefix ht.1 ha.2.1 ht.2 (Nat.le_refl _)).2 (hst p (List.mem_of_getElem? hp))
  have hres : edT (w.map GWord.t) part.length X 0 [p] = edT l part.length X 0 (ps.drop k) := by
    rw [hw, hdk]
    simp only [edT, List.drop_zero, Nat.sub_zero, hd]
    have e1 := congrArg (List.take p) ht.1
    rw [List.take_take, List.take_take, Nat.min_eq_left (by omega)] at e1
    rw [e1]
  have hlen : (edT l part.length X 0 (ps.drop k)).length ≤ 256 := by
    have hgk : goodP l.length part.length 0 (ps.drop k) := by rw [hdk]; exact ⟨Nat.zero_le _, ha.2.1, ha.2.2⟩
    have h1 := edT_length l part.length X (ps.drop k) 0 hgk
    have h2 : (ps.drop k).length * X.length ≤ (ps.drop k).length * (part.length + 3) := Nat.mul_le_mul_left _ hX
    rw [Nat.mul_add] at h2
    have h3 : ps.length ≤ l.length := by
      have := findF_length l part
      rwa [hf, List.length_map] at this
    have h4 : (ps.drop k).length ≤ ps.length := by simp
    omega
  have := h.ok w ((k : Int) + 1) [p] (by omega) hch (by simp) ⟨Nat.zero_le _, by rw [hwl]; exact ht.2, by show p + part.length ≤ w.length; rw [hwl]; exact ht.2⟩ (fun q hq => by rw [List.mem_singleton.1 hq]; exact hsp) (by rw [hres]; exact hlen)
  rw [hres] at this
  exact this

end Go.Proofs.Ytkbmocgjbhmioaa
