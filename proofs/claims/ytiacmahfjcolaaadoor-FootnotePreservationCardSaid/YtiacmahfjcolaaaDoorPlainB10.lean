/- Footnotes in lists: called notes of the renumbered tree; the findings of a unit that was changed in one place. -/
import Derived.Test.YtiacmahfjcolaaaDoorPlain10
namespace Go.Proofs.YtiacmahfjcolaaaDoor
open Go.RowKit

theorem onceF_nodup : ∀ (l seen : List ByteArray), l.Nodup → (∀ s ∈ l, s ∉ seen) → onceF seen l = seen ++ l
  | [], seen, _, _ => by rw [onceF, List.append_nil]
  | s :: r, seen, hn, h => by
    rw [List.nodup_cons] at hn
    rw [onceF, if_neg (h s (List.mem_cons_self ..)), onceF_nodup r (seen ++ [s]) hn.2 ?_]
    · simp
    · intro t ht hm
      rcases List.mem_append.1 hm with hm | hm
      · exact h t (List.mem_cons_of_mem _ ht) hm
      · rw [List.mem_singleton] at hm
        exact hn.1 (hm ▸ ht)
theorem notesOwn_good {a i n k : Int} {l : ByteArray} {hd wd : List GWord} {ks : List GUnit} (h : Good wd ks) : notesOwn (.mk a i n k l hd wd ks) = pickG (ks.map keyU) (ks.map GUnit.id) (anchL wd) := by
  rw [notesOwn_once]
  simp only [GUnit.keys, GUnit.anchs, GUnit.words, GUnit.kids]
  rw [onceF_nodup _ _ h.a1 (by simp), List.nil_append]
theorem pick_num {L : List ByteArray} (hn : L.Nodup) {ks : List GUnit} (hm : ∀ t ∈ noteL ks, t ∈ L) : ∀ (l : List ByteArray), (∀ s ∈ l, s ∈ L) → pickG ((numL L ks).map keyU) ((numL L ks).map GUnit.id) (l.map (labF L)) = pickG (ks.map keyU) (ks.map GUnit.id) l
  | [], _ => rfl
  | s :: r, h => by
    have h1 : noteI ((numL L ks).map keyU) (labF L s) = noteI (ks.map keyU) s := noteI_num hn (h s (List.mem_cons_self ..)) ks 0 hm
    rw [List.map_cons, pickG, pickG, h1, pick_num hn hm r fun t ht => h t (List.mem_cons_of_mem _ ht), ids_num]
theorem pick_len {ks : List GUnit} : ∀ (l : List ByteArray), (∀ s ∈ l, s ∈ noteL ks) → (pickG (ks.map keyU) (ks.map GUnit.id) l).length = l.length
  | [], _ => rfl
  | s :: r, h => by
    have h1 := (noteI_pos ks s).2 (h s (List.mem_cons_self ..))
    obtain ⟨j, hj, hl⟩ := noteI_at h1
    rw [List.length_map] at hl
    rw [pickG, if_pos h1, hj, Int.toNat_natCast, List.length_append, pick_len r fun t ht => h t (List.mem_cons_of_mem _ ht), List.getElem?_eq_getElem (by rw [List.length_map]; exact hl)]
    simp
    omega
mutual
theorem notes_num : ∀ u, checkF u = [] → AllU fewA u → notesF (numF u) = notesF u
  | .mk a i n k l hd wd ks, h, hA => by
    rw [check_iff] at h
    rw [AllU] at hA
    have hl := fewA_len hA.1
    rw [numF, notesF, notesF, notesOwn_good (h.1.num hl), notesOwn_good h.1, anchL_ren h.1.a1 hl wd fun _ hs => hs, pick_num h.1.a1 h.1.na _ fun _ hs => hs, notesL_num _ ks h.2 hA.2]
theorem notesL_num (L : List ByteArray) : ∀ us, checkL us = [] → AllUs fewA us → notesL (numL L us) = notesL us
  | [], _, _ => by rw [numL]
  | u :: r, h, hA => by
    rw [checkL, List.append_eq_nil_iff] at h
    rw [AllUs] at hA
    rw [numL, notesL, notesL, relab_notes, notes_num u h.1 hA.1, notesL_num L r h.2 hA.2]
end
mutual
def countF : GUnit → Nat
  | .mk _ _ _ _ _ _ _ ks => countL ks
def countL : List GUnit → Nat
  | [] => 0
  | u :: r => (if u.kind = 7 then 1 else 0) + countF u + countL r
end
theorem nodup_le {α : Type} : ∀ (a b : List α), a.Nodup → (∀ x ∈ a, x ∈ b) → a.length ≤ b.length
  | [], b, _, _ => Nat.zero_le _
  | x :: r, b, hn, h => by
    rw [List.nodup_cons] at hn
    obtain ⟨b1, b2, rfl⟩ := List.append_of_mem (h x (List.mem_cons_self ..))
    have := nodup_le r (b1 ++ b2) hn.2 fun y hy => by
      have h1 := h y (List.mem_cons_of_mem _ hy)
      simp only [List.mem_append, List.mem_cons] at h1 ⊢
      rcases h1 with h1 | rfl | h1
      · exact .inl h1
      · exact absurd hy hn.1
      · exact .inr h1
    simp at this ⊢
    omega
theorem Good.len {wd : List GWord} {ks : List GUnit} (h : Good wd ks) : (anchL wd).length = (noteL ks).length :=
  Nat.le_antisymm (nodup_le _ _ h.a1 h.an) (nodup_le _ _ h.n1 h.na)
mutual
theorem notes_count : ∀ u, checkF u = [] → (notesF u).length = countF u
  | .mk a i n k l hd wd ks, h => by
    rw [check_iff] at h
    rw [notesF, countF, List.length_append, notesOwn_good h.1, pick_len _ h.1.an, h.1.len]
    exact notesL_count ks h.2
theorem notesL_count : ∀ us, checkL us = [] → (noteL us).length + (notesL us).length = countL us
  | [], _ => rfl
  | u :: r, h => by
    rw [checkL, List.append_eq_nil_iff] at h
    have h1 := notes_count u h.1
    have h2 := notesL_count r h.2
    rw [noteL, notesL, countL, List.length_append]
    split
    · rw [List.length_cons]; omega
    · omega
end

/-! ### a unit changed in one place -/
/-- exactly one finding -/
def OneF (l : List GFind) (why : Int) (id : GId) (t : ByteArray) : Prop := ∃ i : Int, l = [⟨i, id.a, id.i, id.n, why, t⟩]
theorem findW_miss {id : GId} {ks : List GUnit} {s0 : ByteArray} : ∀ {l : List GWord} {i : Nat} {seen : List ByteArray}, (anchL l).Nodup → s0 ∈ anchL l → (∀ s ∈ anchL l, s ∉ seen) → (∀ s ∈ anchL l, s ∈ noteL ks ↔ s ≠ s0) →
    OneF (findW id (ks.map keyU) i seen l) 4 id s0
  | [], _, _, _, h, _, _ => by cases h
  | x :: r, i, seen, hn, hm, hs, hk => by
    rw [findW]
    rw [anchL] at hn hm hs hk
    split
    · rename_i hb
      rw [if_pos hb] at hn hm hs hk
      rw [List.nodup_cons] at hn
      rw [if_neg (hs _ (List.mem_cons_self ..))]
      have hs2 : ∀ s ∈ anchL r, s ∉ seen ++ [ancT x.t] := fun s h1 h2 => by
        rcases List.mem_append.1 h2 with h2 | h2
        · exact hs s (List.mem_cons_of_mem _ h1) h2
        · rw [List.mem_singleton] at h2
          exact hn.1 (h2 ▸ h1)
      by_cases he : ancT x.t = s0
      · rw [if_pos (by rw [noteI_neg, hk _ (List.mem_cons_self ..)]; exact fun hc => hc he), findW_of hn.2 fun s h1 => ⟨hs2 s h1, (hk s (List.mem_cons_of_mem _ h1)).2 fun e => hn.1 (by rw [he, ← e]; exact h1)⟩, he]
        exact ⟨_, rfl⟩
      · rw [if_neg (by rw [noteI_neg, hk _ (List.mem_cons_self ..)]; exact fun hc => hc he), List.nil_append]
        refine findW_miss hn.2 ?_ hs2 fun s h1 => hk s (List.mem_cons_of_mem _ h1)
        rcases List.mem_cons.1 hm with h1 | h1
        · exact absurd h1.symm he
        · exact h1
    · rename_i hb
      rw [if_neg hb] at hn hm hs hk
      exact findW_miss hn hm hs hk
/-- the place of the first note with a label, or the number of children -/
def calledF (s : ByteArray) : List GUnit → Nat
  | [] => 0
  | u :: r => if u.kind = 7 ∧ u.label = s then 0 else calledF s r + 1
theorem calledF_lt (s : ByteArray) : ∀ ks : List GUnit, calledF s ks < ks.length ↔ s ∈ noteL ks
  | [] => by simp [calledF, noteL]
  | u :: r => by
    rw [calledF, noteL, List.length_cons]
    have ih := calledF_lt s r
    by_cases h7 : u.kind = 7
    · rw [if_pos h7]
      by_cases hl : u.label = s
      · rw [if_pos ⟨h7, hl⟩, hl]
        simp
      · rw [if_neg (fun h => hl h.2), List.mem_cons]
        constructor
        · intro h; exact .inr (ih.1 (by omega))
        · rintro (h | h)
          · exact absurd h.symm hl
          · have := ih.2 h; omega
    · rw [if_neg h7, if_neg (fun h => h7 h.1), ← ih]
      omega
theorem calledF_le (s : ByteArray) : ∀ ks : List GUnit, calledF s ks ≤ ks.length
  | [] => Nat.le_refl _
  | u :: r => by
    rw [calledF, List.length_cons]
    have := calledF_le s r
    split <;> omega
theorem findK_one {ks : List GUnit} {seen : List ByteArray} {s0 : ByteArray} : ∀ {l pre : List GUnit}, ks = pre ++ l → (noteL ks).Nodup → s0 ∈ noteL l → (∀ s ∈ noteL l, s ∈ seen ↔ s ≠ s0) →
    ∃ y : GUnit, l[calledF s0 l]? = some y ∧ OneF (findK (ks.map keyU) seen pre.length l) 7 y.id s0
  | [], _, _, _, h, _ => by cases h
  | u :: r, pre, he, hn, hm, hs => by
    have he2 : ks = (pre ++ [u]) ++ r := by rw [he]; simp
    have hlen : (pre ++ [u]).length = pre.length + 1 := by simp
    rw [findK, calledF]
    rw [noteL] at hm hs
    by_cases h7 : u.kind = 7
    · rw [if_pos h7] at hm hs
      have hno : u.label ∉ noteL pre ∧ u.label ∉ noteL r := by
        rw [he, noteL_append, List.nodup_append, noteL, if_pos h7, List.nodup_cons] at hn
        exact ⟨fun h => hn.2.2 _ h _ (List.mem_cons_self ..) rfl, hn.2.1.1⟩
      by_cases hl : u.label = s0
      · rw [if_pos ⟨h7, hl⟩, if_pos ⟨h7, .inl (fun h => (hs _ (List.mem_cons_self ..)).1 h hl)⟩]
        refine ⟨u, rfl, ?_⟩
        have h2 := findK_of (l := r) (pre := pre ++ [u]) (seen := seen) he2 hn fun s h1 => (hs s (List.mem_cons_of_mem _ h1)).2 fun e => hno.2 (by rw [hl, ← e]; exact h1)
        rw [hlen] at h2
        rw [h2, hl]
        exact ⟨_, rfl⟩
      · have hh := noteI_here pre r u h7 hno.1
        rw [← he] at hh
        rw [if_neg (fun h => hl h.2), if_neg (fun h => h.2.elim (fun h1 => h1 ((hs _ (List.mem_cons_self ..)).2 hl)) (fun h1 => h1 hh)), List.nil_append]
        have h2 := findK_one (l := r) (pre := pre ++ [u]) (seen := seen) (s0 := s0) he2 hn ?_ fun s h1 => hs s (List.mem_cons_of_mem _ h1)
        · rw [hlen] at h2
          simpa using h2
        · rcases List.mem_cons.1 hm with h1 | h1
          · exact absurd h1.symm hl
          · exact h1
    · rw [if_neg h7] at hm hs
      rw [if_neg (fun h => h7 h.1), if_neg (fun h => h7 h.1), List.nil_append]
      have h2 := findK_one (l := r) (pre := pre ++ [u]) (seen := seen) (s0 := s0) he2 hn hm hs
      rw [hlen] at h2
      simpa using h2
theorem checkL_append (a b : List GUnit) : checkL (a ++ b) = checkL a ++ checkL b := by
  induction a with
  | nil => rfl
  | cons x r ih => rw [List.cons_append, checkL, checkL, ih, List.append_assoc]
section
variable {a i n k : Int} {l : ByteArray} {hd wd : List GWord} {ks : List GUnit}
theorem lose_note (h : checkF (.mk a i n k l hd wd ks) = []) {p q : List GUnit} {x : GUnit} (he : ks = p ++ x :: q) (h7 : x.kind = 7) : OneF (checkF (.mk a i n k l hd wd (p ++ q))) 4 ⟨a, i, n⟩ x.label := by
  rw [check_iff] at h
  obtain ⟨⟨g1, g2, g3, g4⟩, hk⟩ := h
  have e1 : noteL ks = noteL p ++ x.label :: noteL q := by rw [he, noteL_append, noteL, if_pos h7]
  have e2 : noteL (p ++ q) = noteL p ++ noteL q := noteL_append ..
  rw [e1] at g2 g3 g4
  have hx : x.label ∉ noteL p ++ noteL q := by
    rw [List.nodup_append, List.nodup_cons] at g2
    intro hm
    rcases List.mem_append.1 hm with hm | hm
    · exact g2.2.2 _ hm _ (List.mem_cons_self ..) rfl
    · exact g2.2.1.1 hm
  have hn2 : (noteL p ++ noteL q).Nodup := g2.sublist (List.Sublist.append (List.Sublist.refl _) (List.sublist_cons_self ..))
  rw [he, checkL_append, checkL, List.append_eq_nil_iff, List.append_eq_nil_iff] at hk
  rw [checkF, checkL_append, hk.1, hk.2.2, List.append_nil, List.append_nil]
  unfold ownF
  simp only [GUnit.keys, GUnit.anchs, GUnit.words, GUnit.kids, GUnit.id]
  have h1 := findW_miss (id := ⟨a, i, n⟩) (ks := p ++ q) (s0 := x.label) (l := wd) (i := 0) (seen := []) g1 (g4 _ (by simp)) (by simp) fun s hs => by
    rw [e2]
    constructor
    · rintro hm rfl; exact hx hm
    · intro hne
      have := g3 s hs
      simp only [List.mem_append, List.mem_cons] at this ⊢
      rcases this with h | h | h
      · exact .inl h
      · exact absurd h hne
      · exact .inr h
  have h2 := findK_of (ks := p ++ q) (seen := anchL wd) (l := p ++ q) (pre := []) rfl (by rw [e2]; exact hn2) fun s hs => g4 s (by rw [e2] at hs; simp only [List.mem_append, List.mem_cons] at hs ⊢; exact hs.imp id .inr)
  obtain ⟨j, hj⟩ := h1
  rw [List.length_nil] at h2
  rw [hj, h2, List.append_nil]
  exact ⟨j, rfl⟩
theorem lose_call (h : checkF (.mk a i n k l hd wd ks) = []) {p q : List GWord} {x : GWord} (he : wd = p ++ x :: q) (hb : ancB x.t = true) :
    ∃ y : GUnit, ks[calledF (ancT x.t) ks]? = some y ∧ OneF (checkF (.mk a i n k l hd (p ++ q) ks)) 7 y.id (ancT x.t) := by
  rw [check_iff] at h
  obtain ⟨⟨g1, g2, g3, g4⟩, hk⟩ := h
  have e1 : anchL wd = anchL p ++ ancT x.t :: anchL q := by rw [he, anchL_append, anchL, if_pos hb]
  have e2 : anchL (p ++ q) = anchL p ++ anchL q := anchL_append ..
  rw [e1] at g1 g3 g4
  have hx : ancT x.t ∉ anchL p ++ anchL q := by
    rw [List.nodup_append, List.nodup_cons] at g1
    intro hm
    rcases List.mem_append.1 hm with hm | hm
    · exact g1.2.2 _ hm _ (List.mem_cons_self ..) rfl
    · exact g1.2.1.1 hm
  have hn2 : (anchL p ++ anchL q).Nodup := g1.sublist (List.Sublist.append (List.Sublist.refl _) (List.sublist_cons_self ..))
  rw [checkF, hk, List.append_nil]
  unfold ownF
  simp only [GUnit.keys, GUnit.anchs, GUnit.words, GUnit.kids, GUnit.id]
  have h1 := findW_of (id := ⟨a, i, n⟩) (ks := ks) (l := p ++ q) (i := 0) (seen := []) (by rw [e2]; exact hn2) fun s hs => ⟨by simp, g3 s (by rw [e2] at hs; simp only [List.mem_append, List.mem_cons] at hs ⊢; exact hs.imp id .inr)⟩
  obtain ⟨y, hy, j, hj⟩ := findK_one (ks := ks) (seen := anchL (p ++ q)) (s0 := ancT x.t) (l := ks) (pre := []) rfl g2 (g3 _ (by simp)) fun s hs => by
    rw [e2]
    constructor
    · rintro hm rfl; exact hx hm
    · intro hne
      have := g4 s hs
      simp only [List.mem_append, List.mem_cons] at this ⊢
      rcases this with h | h | h
      · exact .inl h
      · exact absurd h hne
      · exact .inr h
  rw [List.length_nil] at hj
  rw [h1, hj, List.nil_append]
  exact ⟨y, hy, j, rfl⟩
theorem findW_append {id : GId} {ks : List (Int × ByteArray)} : ∀ (p q : List GWord) (i : Nat) (seen : List ByteArray), findW id ks i seen (p ++ q) = findW id ks i seen p ++ findW id ks (i + p.length) (seen ++ anchL p) q
  | [], q, i, seen => by simp [findW, anchL]
  | x :: r, q, i, seen => by
    rw [List.cons_append, findW, findW, anchL]
    have e : i + (x :: r).length = i + 1 + r.length := by simp; omega
    by_cases hb : ancB x.t = true
    · rw [if_pos hb, if_pos hb, if_pos hb, findW_append r q, e, List.append_assoc, List.append_assoc]
      rfl
    · rw [if_neg hb, if_neg hb, if_neg hb, findW_append r q, e]
theorem more_call (h : checkF (.mk a i n k l hd wd ks) = []) {x : GWord} (hb : ancB x.t = true) :
    OneF (checkF (.mk a i n k l hd (wd ++ [x]) ks)) (if calledF (ancT x.t) ks < ks.length then 5 else 4) ⟨a, i, n⟩ (ancT x.t) := by
  rw [check_iff] at h
  obtain ⟨⟨g1, g2, g3, g4⟩, hk⟩ := h
  rw [checkF, hk, List.append_nil]
  unfold ownF
  simp only [GUnit.keys, GUnit.anchs, GUnit.words, GUnit.kids, GUnit.id]
  have h2 := findK_of (ks := ks) (seen := anchL (wd ++ [x])) (l := ks) (pre := []) rfl g2 fun s hs => by
    rw [anchL_append]
    exact List.mem_append_left _ (g4 s hs)
  rw [List.length_nil] at h2
  rw [h2, List.append_nil, findW_append, findW_of g1 fun s hs => ⟨by simp, g3 s hs⟩, List.nil_append, List.nil_append, findW, if_pos hb, findW, List.append_nil]
  by_cases hm : ancT x.t ∈ anchL wd
  · rw [if_pos hm, if_pos ((calledF_lt _ _).2 (g3 _ hm))]
    exact ⟨_, rfl⟩
  · have hn : ancT x.t ∉ noteL ks := fun h => hm (g4 _ h)
    rw [if_neg hm, if_pos ((noteI_neg ks _).2 hn), if_neg (fun h => hn ((calledF_lt _ _).1 h))]
    exact ⟨_, rfl⟩
end

/-! ### counted -/
/-- the anchors are 1, 2 and so on -/
def CntU (u : GUnit) : Prop := ∀ (j : Nat) (h : j < u.anchs.length), u.anchs[j] = decB (j + 1)
mutual
theorem cnt_num : ∀ u, checkF u = [] → AllU fewA u → AllU CntU (numF u)
  | .mk a i n k l hd wd ks, h, hA => by
    rw [check_iff] at h
    rw [AllU] at hA
    have hl := fewA_len hA.1
    rw [numF, AllU]
    refine ⟨?_, cntL_num _ ks h.2 hA.2⟩
    have e : (GUnit.mk a i n k l hd (wd.map (renW (anchL wd))) (numL (anchL wd) ks)).anchs = (anchL wd).map (labF (anchL wd)) := anchL_ren h.1.a1 hl wd fun _ hs => hs
    unfold CntU
    rw [e]
    intro j hj
    rw [List.getElem_map]
    rw [List.length_map] at hj
    exact labF_at h.1.a1 hj
theorem cntL_num (L : List ByteArray) : ∀ us, checkL us = [] → AllUs fewA us → AllUs CntU (numL L us)
  | [], _, _ => by rw [numL, AllUs]; trivial
  | u :: r, h, hA => by
    rw [checkL, List.append_eq_nil_iff] at h
    rw [AllUs] at hA
    rw [numL, AllUs]
    refine ⟨?_, cntL_num L r h.2 hA.2⟩
    have h1 := cnt_num u h.1 hA.1
    generalize numF u = v at h1
    obtain ⟨a, i, n, k, l, hd, wd, ks⟩ := v
    rw [AllU] at h1
    rw [relab, AllU]
    exact h1
end

end Go.Proofs.YtiacmahfjcolaaaDoor
