/- Replace, InsertAfter and their references: one and the same words, or one and the same error. -/
import Derived.Test.YtkbmocgjbhmioaaPut
namespace Go.Proofs.Ytkbmocgjbhmioaa
open Go.RowKit

/-- words and an error number -/
def RetPair (w : World) (r : List GWord × Int) (e : Ending) (w' : World) : Prop := ∃ A c, e = .returned (.tuple #[.slice A r.1.length c, .int .i64 r.2]) ∧ r.1.length ≤ c ∧ Sl wordEl w' A r.1 ∧ Ext w w'
def heldF (xs : List GWord) : List GWord × Int := if xs.length ≤ 256 then (xs, 0) else ([], 6)
theorem RetHeld.pair {w w' : World} {xs : List GWord} {e : Ending} (h : RetHeld w xs e w') : RetPair w (heldF xs) e w' := by
  obtain ⟨h1 | h1, he⟩ := h
  · obtain ⟨h0, A, c, rfl, hc, hs⟩ := h1
    unfold heldF
    rw [if_pos h0]
    exact ⟨A, c, rfl, hc, hs, he⟩
  · unfold heldF
    rw [if_neg (by omega)]
    exact ⟨none, 0, h1.2, Nat.le_refl _, Sl.nil, he⟩
theorem RetPair.err {w w' : World} {k : Int} (he : Ext w w') : RetPair w ([], k) (.returned (.tuple #[.slice none 0 0, .int .i64 k])) w' := ⟨none, 0, rfl, Nat.le_refl _, Sl.nil, he⟩

/-! ### the places are in order, and the part fits at each -/
theorem goodP_mono {n g : Nat} : ∀ {b b' : Nat} {ps : List Nat}, goodP n g b ps → b' ≤ b → goodP n g b' ps
  | _, _, [], h, hb => Nat.le_trans hb h
  | _, _, _ :: _, h, hb => ⟨Nat.le_trans hb h.1, h.2⟩
theorem occ_good (l part : List ByteArray) (hp : 0 < part.length) : ∀ (f i : Nat), i ≤ l.length → ∃ ps : List Nat, occ l part f i = ps.map (fun n : Nat => (n : Int)) ∧ goodP l.length part.length i ps
  | 0, i, h => ⟨[], rfl, h⟩
  | f + 1, i, h => by
    rw [occ]
    split
    · rename_i hs
      obtain ⟨ps, h1, h2⟩ := occ_good l part hp f (i + part.length) hs.1
      exact ⟨i :: ps, by rw [h1]; rfl, Nat.le_refl _, hs.1, h2⟩
    · rcases Nat.lt_or_ge i l.length with h0 | h0
      · obtain ⟨ps, h1, h2⟩ := occ_good l part hp f (i + 1) h0
        exact ⟨ps, h1, goodP_mono h2 (by omega)⟩
      · rw [occ_end l part f (i + 1) (by omega)]
        exact ⟨[], rfl, h⟩
theorem chosen_good (l part : List ByteArray) (nth : Int) (hp : 0 < part.length) : ∃ ps : List Nat, chosenF (findF l part) nth = ps.map (fun n : Nat => (n : Int)) ∧ goodP l.length part.length 0 ps := by
  have hf : findF l part = occ l part (l.length + 1) 0 := by unfold findF; rw [if_neg (by rintro rfl; simp at hp)]
  obtain ⟨ps, h1, h2⟩ := occ_good l part hp (l.length + 1) 0 (Nat.zero_le _)
  rw [hf, h1]
  unfold chosenF
  split
  · exact ⟨ps, rfl, h2⟩
  · split
    · exact ⟨[], rfl, Nat.zero_le _⟩
    · rw [← List.map_drop, ← List.map_take]
      refine ⟨_, rfl, ?_⟩
      cases hd : ps.drop (nth - 1).toNat with
      | nil => exact Nat.zero_le _
      | cons p r =>
        have hk : ps[(nth - 1).toNat]? = some p := by rw [← List.head?_drop, hd]; rfl
        have := (goodP_at h2 hk).2.1
        exact ⟨Nat.zero_le _, this, show p + part.length ≤ l.length from this⟩
theorem goodP_shift {n g : Nat} : ∀ {b : Nat} {ps : List Nat}, goodP n g b ps → goodP n 0 b (ps.map (· + g))
  | _, [], h => h
  | b, p :: ps, h => ⟨show b ≤ p + g by have := h.1; omega, show p + g + 0 ≤ n by have := h.2.1; omega, show goodP n 0 (p + g + 0) (ps.map (· + g)) from goodP_shift h.2.2⟩

/-- what both forms of Replace hand back -/
def repF (l : List GWord) (old fresh : List ByteArray) (nth act item : Int) : List GWord × Int :=
  if old.length = 0 ∨ nth < 0 then ([], 1)
  else if chosenF (findF (l.map GWord.t) old) nth = [] then ([], 4)
  else heldF (putR l old.length fresh act item 0 0 ((chosenF (findF (l.map GWord.t) old) nth).map Int.toNat))
theorem toNat_map (ps : List Nat) : (ps.map (fun n : Nat => (n : Int))).map Int.toNat = ps := by
  rw [List.map_map]
  exact (List.map_congr_left (fun _ _ => rfl)).trans (List.map_id _)

set_option maxRecDepth 100000 in
set_option maxHeartbeats 1600000 in
theorem replace_any (A B C : Option Addr) (c d f : Nat) (l : List GWord) (old fresh : List ByteArray) (nth act item : Int) (w : World) (hl : Sl wordEl w A l) (hx : Sl strEl w B old) (hy : Sl strEl w C fresh)
    (hn : l.length ≤ 65536) (ho : old.length ≤ 65536) (hm : fresh.length ≤ 65536) :
    Calls Try.prog 12 #[.slice A l.length c, .slice B old.length d, .slice C fresh.length f, .int .i64 nth, .int .i64 act, .int .i64 item] w (RetPair w (repF l old fresh nth act item)) := by
  by_cases h0 : old.length = 0
  · have hb : ((old.length : Int) == 0) = true := by rw [h0]; rfl
    have e : repF l old fresh nth act item = ([], 1) := by unfold repF; rw [if_pos (.inl h0)]
    rw [e]
    clear h0
    go_enter Try.func12, Try.ntmps12
    go_wp2
    go_ret2
    exact RetPair.err (Ext.refl _)
  · have hb : ((old.length : Int) == 0) = false := beq_eq_false_iff_ne.2 (by omega)
    by_cases h1 : nth < 0
    · have e : repF l old fresh nth act item = ([], 1) := by unfold repF; rw [if_pos (.inr h1)]
      rw [e]
      clear h0
      go_enter Try.func12, Try.ntmps12
      go_wp2
      go_ret2
      exact RetPair.err (Ext.refl _)
    · obtain ⟨ps, hps, hgood⟩ := chosen_good (l.map GWord.t) old nth (by omega)
      have hlen := chosenF_length (findF (l.map GWord.t) old) nth
      have hlen2 := findF_length (l.map GWord.t) old
      rw [List.length_map] at hlen2 hgood
      have e : repF l old fresh nth act item = if chosenF (findF (l.map GWord.t) old) nth = [] then ([], 4) else heldF (putR l old.length fresh act item 0 0 ((chosenF (findF (l.map GWord.t) old) nth).map Int.toNat)) := by
        unfold repF; rw [if_neg (by omega)]
      obtain ⟨xs, hxs⟩ : ∃ xs, chosenF (findF (l.map GWord.t) old) nth = xs := ⟨_, rfl⟩
      rw [hxs] at hlen e hps
      rw [e]
      have Hxs := Lib.hid hxs
      have Hps := Lib.hid hps
      have HG := Lib.hid hgood
      clear h0 hxs hps hgood e
      by_cases h2 : xs.length = 0
      · have hb2 : ((xs.length : Int) == 0) = true := by rw [h2]; rfl
        rw [if_pos (List.eq_nil_of_length_eq_zero h2)]
        clear h2
        go_enter Try.func12, Try.ntmps12
        go_wp2_with fail
        refine (places_any _ _ _ _ _ _ _ _ hl hx (by omega) (by omega) (by omega)).mono ?_
        rw [Hxs.out]
        rintro e w1 ⟨A1, c1, rfl, hc1, hs1, hext1⟩
        go_wp2
        go_ret2
        exact RetPair.err hext1
      · have hb2 : ((xs.length : Int) == 0) = false := beq_eq_false_iff_ne.2 (by omega)
        rw [if_neg (by rintro rfl; simp at h2), Hps.out, toNat_map]
        clear h2
        go_enter Try.func12, Try.ntmps12
        go_wp2_with fail
        refine (places_any _ _ _ _ _ _ _ _ hl hx (by omega) (by omega) (by omega)).mono ?_
        rw [Hxs.out]
        rintro e w1 ⟨A1, c1, rfl, hc1, hs1, hext1⟩
        go_wp2_with fail
        refine (put_any _ _ _ _ _ _ _ _ ps _ _ _ _ _ (hl.ext hext1) hs1 (hy.ext hext1) hn (by omega) ho hm Hps HG.out).mono ?_
        intro e w2 hr
        obtain ⟨A2, c2, rfl, hc2, hs2, hext2⟩ := hr.pair
        go_wp2
        go_ret2
        exact ⟨A2, c2, rfl, hc2, hs2, hext1.trans hext2⟩

set_option maxRecDepth 100000 in
set_option maxHeartbeats 1600000 in
theorem refReplace_any (A B C : Option Addr) (c d f : Nat) (l : List GWord) (old fresh : List ByteArray) (nth act item : Int) (w : World) (hl : Sl wordEl w A l) (hx : Sl strEl w B old) (hy : Sl strEl w C fresh)
    (hn : l.length ≤ 65536) (ho : old.length ≤ 65536) (hm : fresh.length ≤ 65536) (hc : l.length ≤ c) :
    Calls Try.prog 13 #[.slice A l.length c, .slice B old.length d, .slice C fresh.length f, .int .i64 nth, .int .i64 act, .int .i64 item] w (RetPair w (repF l old fresh nth act item)) := by
  by_cases h0 : old.length = 0
  · have hb : ((old.length : Int) == 0) = true := by rw [h0]; rfl
    have e : repF l old fresh nth act item = ([], 1) := by unfold repF; rw [if_pos (.inl h0)]
    rw [e]
    clear h0
    go_enter Try.func13, Try.ntmps13
    go_wp2
    go_ret2
    exact RetPair.err (Ext.refl _)
  · have hb : ((old.length : Int) == 0) = false := beq_eq_false_iff_ne.2 (by omega)
    by_cases h1 : nth < 0
    · have e : repF l old fresh nth act item = ([], 1) := by unfold repF; rw [if_pos (.inr h1)]
      rw [e]
      clear h0
      go_enter Try.func13, Try.ntmps13
      go_wp2
      go_ret2
      exact RetPair.err (Ext.refl _)
    · obtain ⟨ps, hps, hgood⟩ := chosen_good (l.map GWord.t) old nth (by omega)
      have hlen := chosenF_length (findF (l.map GWord.t) old) nth
      have hlen2 := findF_length (l.map GWord.t) old
      rw [List.length_map] at hlen2 hgood
      have e : repF l old fresh nth act item = if chosenF (findF (l.map GWord.t) old) nth = [] then ([], 4) else heldF (putR l old.length fresh act item 0 0 ((chosenF (findF (l.map GWord.t) old) nth).map Int.toNat)) := by
        unfold repF; rw [if_neg (by omega)]
      obtain ⟨T0, hT⟩ : ∃ T0, l.map GWord.t = T0 := ⟨_, rfl⟩
      have hTl : T0.length ≤ 65536 := by rw [← hT, List.length_map]; exact hn
      rw [hT] at hlen hlen2 hps e
      obtain ⟨P0, hP⟩ : ∃ P0, findF T0 old = P0 := ⟨_, rfl⟩
      rw [hP] at hlen hlen2 hps e
      obtain ⟨xs, hxs⟩ : ∃ xs, chosenF P0 nth = xs := ⟨_, rfl⟩
      rw [hxs] at hlen e hps
      rw [e]
      have HT := Lib.hid hT
      have HP := Lib.hid hP
      have Hxs := Lib.hid hxs
      have Hps := Lib.hid hps
      have HG := Lib.hid hgood
      clear h0 hxs hps hgood e hT hP
      by_cases h2 : xs.length = 0
      · have hb2 : ((xs.length : Int) == 0) = true := by rw [h2]; rfl
        rw [if_pos (List.eq_nil_of_length_eq_zero h2)]
        clear h2
        go_enter Try.func13, Try.ntmps13
        go_wp2_with fail
        refine (texts_any _ _ _ _ hl (by omega)).mono ?_
        rw [HT.out]
        rintro e w1 ⟨v1, rfl, hown1, hext1⟩
        obtain ⟨A1, c1, rfl, hc1, hs1⟩ := hown1.form
        clear hown1
        go_wp2_with fail
        refine (find_any _ _ _ _ _ _ _ hs1 (hx.ext hext1) (by omega) (by omega) hc1).mono ?_
        rw [HP.out]
        rintro e w2 ⟨v2, rfl, hown2, hext2⟩
        obtain ⟨A2, c2, rfl, hc2, hs2⟩ := hown2.form
        clear hown2
        go_wp2_with fail
        refine (chosen_any _ _ _ _ _ hs2 (by omega) hc2).mono ?_
        rw [Hxs.out]
        rintro e w3 ⟨A3, c3, rfl, hc3, hs3, hext3⟩
        go_wp2
        go_ret2
        exact RetPair.err ((hext1.trans hext2).trans hext3)
      · have hb2 : ((xs.length : Int) == 0) = false := beq_eq_false_iff_ne.2 (by omega)
        rw [if_neg (by rintro rfl; simp at h2), Hps.out, toNat_map]
        clear h2
        go_enter Try.func13, Try.ntmps13
        go_wp2_with fail
        refine (texts_any _ _ _ _ hl (by omega)).mono ?_
        rw [HT.out]
        rintro e w1 ⟨v1, rfl, hown1, hext1⟩
        obtain ⟨A1, c1, rfl, hc1, hs1⟩ := hown1.form
        clear hown1
        go_wp2_with fail
        refine (find_any _ _ _ _ _ _ _ hs1 (hx.ext hext1) (by omega) (by omega) hc1).mono ?_
        rw [HP.out]
        rintro e w2 ⟨v2, rfl, hown2, hext2⟩
        obtain ⟨A2, c2, rfl, hc2, hs2⟩ := hown2.form
        clear hown2
        go_wp2_with fail
        refine (chosen_any _ _ _ _ _ hs2 (by omega) hc2).mono ?_
        rw [Hxs.out]
        rintro e w3 ⟨A3, c3, rfl, hc3, hs3, hext3⟩
        have hx3 := (hext1.trans hext2).trans hext3
        go_wp2_with fail
        refine (refPut_any _ _ _ _ _ _ _ _ ps _ _ _ _ _ (hl.ext hx3) hs3 (hy.ext hx3) hn (by omega) ho hm hc Hps HG.out).mono ?_
        rintro e w4 ⟨v4, rfl, hown4, hext4⟩
        obtain ⟨A4, c4, rfl, hc4, hs4⟩ := hown4.form
        clear hown4
        obtain ⟨zs, hzs⟩ : ∃ zs, putR l old.length fresh act item 0 0 ps = zs := ⟨_, rfl⟩
        rw [hzs] at hc4 hs4 ⊢
        have Hzs := Lib.hid hzs
        clear hzs
        go_wp2_with fail
        by_cases hbig : zs.length ≤ 256
        · refine (held_yes _ _ _ _ hbig).mono ?_
          rintro e w5 ⟨rfl, rfl⟩
          go_wp2
          go_ret2
          unfold heldF
          rw [Hzs.out, if_pos hbig]
          exact ⟨A4, c4, rfl, hc4, hs4, hx3.trans hext4⟩
        · refine (held_no _ _ _ _ (by omega)).mono ?_
          rintro e w5 ⟨rfl, rfl⟩
          go_wp2
          go_ret2
          unfold heldF
          rw [Hzs.out, if_neg hbig]
          exact RetPair.err (hx3.trans hext4)

/-- what both forms of InsertAfter hand back -/
def insF (l : List GWord) (part fresh : List ByteArray) (nth act item : Int) : List GWord × Int :=
  if fresh.length = 0 ∨ nth < 0 ∨ (part.length = 0 ∧ nth ≠ 0) then ([], 1)
  else if part.length = 0 then heldF (putR l 0 fresh act item 0 0 [0])
  else if chosenF (findF (l.map GWord.t) part) nth = [] then ([], 4)
  else heldF (putR l 0 fresh act item 0 0 (((chosenF (findF (l.map GWord.t) part) nth).map Int.toNat).map (· + part.length)))

set_option maxRecDepth 100000 in
set_option maxHeartbeats 1600000 in
theorem insert_any (A B C : Option Addr) (c d f : Nat) (l : List GWord) (part fresh : List ByteArray) (nth act item : Int) (w : World) (hl : Sl wordEl w A l) (hx : Sl strEl w B part) (hy : Sl strEl w C fresh)
    (hn : l.length ≤ 65536) (ho : part.length ≤ 65536) (hm : fresh.length ≤ 65536) :
    Calls Try.prog 15 #[.slice A l.length c, .slice B part.length d, .slice C fresh.length f, .int .i64 nth, .int .i64 act, .int .i64 item] w (RetPair w (insF l part fresh nth act item)) := by
  by_cases hbad : fresh.length = 0 ∨ nth < 0 ∨ (part.length = 0 ∧ nth ≠ 0)
  · have e : insF l part fresh nth act item = ([], 1) := by unfold insF; rw [if_pos hbad]
    rw [e]
    clear e
    by_cases h0 : fresh.length = 0
    · have hb : ((fresh.length : Int) == 0) = true := by rw [h0]; rfl
      clear hbad h0
      go_enter Try.func15, Try.ntmps15
      go_wp2
      go_ret2
      exact RetPair.err (Ext.refl _)
    · have hb : ((fresh.length : Int) == 0) = false := beq_eq_false_iff_ne.2 (by omega)
      by_cases h1 : nth < 0
      · clear hbad h0
        go_enter Try.func15, Try.ntmps15
        go_wp2
        go_ret2
        exact RetPair.err (Ext.refl _)
      · have hb1 : ((part.length : Int) == 0) = true := beq_iff_eq.2 (by omega)
        have hb2 : (nth != 0) = true := by rw [bne_iff_ne]; omega
        clear hbad h0
        go_enter Try.func15, Try.ntmps15
        go_wp2
        go_ret2
        exact RetPair.err (Ext.refl _)
  · have hb : ((fresh.length : Int) == 0) = false := beq_eq_false_iff_ne.2 (by omega)
    have h1 : 0 ≤ nth := by omega
    by_cases hp : part.length = 0
    · have hnth : nth = 0 := by omega
      subst hnth
      have e : insF l part fresh 0 act item = heldF (putR l 0 fresh act item 0 0 [0]) := by unfold insF; rw [if_neg hbad, if_pos hp]
      rw [e]
      have hb1 : ((part.length : Int) == 0) = true := by rw [hp]; rfl
      clear hbad hp e
      go_enter Try.func15, Try.ntmps15
      go_wp2_with fail
      refine (put_any _ _ _ _ _ _ l [0] [0] 0 fresh act item _ (hl.ext ((Ext.refl _).alloc _)) (Sl.new intEl rfl) (hy.ext ((Ext.refl _).alloc _)) hn (by decide) (by decide) hm rfl ⟨Nat.zero_le _, Nat.zero_le _, Nat.zero_le _⟩).mono ?_
      intro e w2 hr
      obtain ⟨A2, c2, rfl, hc2, hs2, hext2⟩ := hr.pair
      go_wp2
      go_ret2
      exact ⟨A2, c2, rfl, hc2, hs2, ((Ext.refl _).alloc _).trans hext2⟩
    · have hb1 : ((part.length : Int) == 0) = false := beq_eq_false_iff_ne.2 (by omega)
      obtain ⟨ps, hps, hgood⟩ := chosen_good (l.map GWord.t) part nth (by omega)
      have hlen := chosenF_length (findF (l.map GWord.t) part) nth
      have hlen2 := findF_length (l.map GWord.t) part
      rw [List.length_map] at hlen2 hgood
      have e : insF l part fresh nth act item = if chosenF (findF (l.map GWord.t) part) nth = [] then ([], 4) else heldF (putR l 0 fresh act item 0 0 (((chosenF (findF (l.map GWord.t) part) nth).map Int.toNat).map (· + part.length))) := by
        unfold insF; rw [if_neg hbad, if_neg hp]
      obtain ⟨xs, hxs⟩ : ∃ xs, chosenF (findF (l.map GWord.t) part) nth = xs := ⟨_, rfl⟩
      rw [hxs] at hlen e hps
      rw [e]
      have Hxs := Lib.hid hxs
      have Hps := Lib.hid hps
      have HG := Lib.hid hgood
      clear hp hbad hxs hps hgood e
      by_cases h2 : xs.length = 0
      · have hb2 : ((xs.length : Int) == 0) = true := by rw [h2]; rfl
        have hx0 : xs = [] := List.eq_nil_of_length_eq_zero h2
        rw [if_pos hx0]
        subst hx0
        clear h2
        go_enter Try.func15, Try.ntmps15
        go_wp2_with fail
        refine (places_any _ _ _ _ _ _ _ _ hl hx (by omega) (by omega) (by omega)).mono ?_
        rw [Hxs.out]
        rintro e w1 ⟨A1, c1, rfl, hc1, hs1, hext1⟩
        go_wp2_with fail
        refine (cloneInt_any _ _ _ _ hs1 (by simp)).mono ?_
        rintro e w2 ⟨v2, rfl, hown2, hext2⟩
        obtain ⟨A2, c2, rfl, hc2, hs2⟩ := hown2.form
        go_wp2
        go_ret2
        exact RetPair.err (hext1.trans hext2)
      · have hb2 : ((xs.length : Int) == 0) = false := beq_eq_false_iff_ne.2 (by omega)
        have hxne : xs ≠ [] := by rintro rfl; simp at h2
        rw [if_neg hxne, Hps.out, toNat_map]
        clear h2
        go_enter Try.func15, Try.ntmps15
        go_wp2_with fail
        refine (places_any _ _ _ _ _ _ _ _ hl hx (by omega) (by omega) (by omega)).mono ?_
        rw [Hxs.out]
        rintro e w1 ⟨A1, c1, rfl, hc1, hs1, hext1⟩
        go_wp2_with fail
        refine (cloneInt_any _ _ _ _ hs1 (by omega)).mono ?_
        rintro e w2 ⟨v2, rfl, hown2, hext2⟩
        obtain ⟨g, c2, rfl, hg, hgl, hc2⟩ := hown2.head hxne
        have hx2 := hext1.trans hext2
        have hgw : w.heap.size ≤ g := Nat.le_trans hext1.size hg
        clear hxne
        go_wp2
        go_loopw [15, 53] (fun u i wr => ∃ (k : Nat) (zs : List Int), k ≤ xs.length ∧ i = .int .i64 k ∧ Hid (zs = (xs.take k).map (· + (part.length : Int)) ++ xs.drop k) ∧ Hid (zs.length = xs.length) ∧ Own intEl w1.heap.size wr (.slice (some ⟨g, 0, none⟩) zs.length c2) zs ∧ Ext w wr) (fun _ i _ => xs.length - (intOf i).toNat)
        case atStart => exact ⟨0, xs, Nat.zero_le _, rfl, by simp [Hid], rfl, hown2, hx2⟩
        case round =>
          obtain ⟨k, zs, hk, rfl, Hzs, Hzl, hown, hext⟩ := hrel
          by_cases hlt : k < xs.length
          · have hkp : k < ps.length := by rw [show ps.length = xs.length from by rw [Hps.out, List.length_map]]; exact hlt
            obtain ⟨p, hpk⟩ : ∃ p, ps[k]? = some p := ⟨_, List.getElem?_eq_getElem hkp⟩
            have hxk : xs[k] = (p : Int) := by
              have e1 := Hps.out
              subst e1
              simp [List.getElem?_eq_getElem hkp] at hpk
              simp [hpk]
            have hpl := (goodP_at HG.out hpk).2.1
            have hzk : zs[k]? = some (p : Int) := by rw [Hzs.out, mapTo_get _ _ _ hlt, hxk]
            obtain ⟨hc, hf⟩ := hown.cellInt hzk
            have hown' := hown.setInt k ((p : Int) + part.length)
            have Hset : Hid (zs.set k ((p : Int) + part.length) = (xs.take (k + 1)).map (· + (part.length : Int)) ++ xs.drop (k + 1)) := by
              unfold Hid
              rw [Hzs.out, ← mapTo_set (· + (part.length : Int)) xs k hlt, hxk]
            clear hpk hxk hzk hkp
            go_wp2
            go_roundw
            case rel => exact ⟨k + 1, zs.set k ((p : Int) + part.length), hlt, by go_num, Hset, by unfold Hid; rw [List.length_set]; exact Hzl.out, hown', Below.setCell hext hgw _⟩
            case measure => simp [intOf]; omega
          · have hkx : k = xs.length := by omega
            have hzs : zs = xs.map (· + (part.length : Int)) := by rw [Hzs.out, hkx, List.take_length, List.drop_length, List.append_nil]
            have Hz2 : Hid (zs = (ps.map (· + part.length)).map (fun n : Nat => (n : Int))) := by
              unfold Hid
              rw [hzs, Hps.out, List.map_map, List.map_map]
              exact List.map_congr_left fun a _ => by simp
            obtain ⟨A3, c3, hv3, hc3, hs3⟩ := hown.form
            cases hv3
            have hzl : zs.length ≤ 65536 := by rw [Hzl.out]; omega
            clear hkx hzs hown
            go_wp2_with fail
            rw [← Hzl.out]
            refine (put_any _ _ _ _ _ _ _ _ (ps.map (· + part.length)) 0 _ _ _ _ (hl.ext hext) hs3 (hy.ext hext) hn hzl (by decide) hm Hz2 (goodP_shift HG.out)).mono ?_
            intro e w3 hr
            obtain ⟨A4, c4, rfl, hc4, hs4, hext4⟩ := hr.pair
            go_wp2
            go_ret2
            exact ⟨A4, c4, rfl, hc4, hs4, hext.trans hext4⟩

set_option maxRecDepth 100000 in
set_option maxHeartbeats 1600000 in
theorem behind_any (A B C : Option Addr) (c d f : Nat) (l : List GWord) (part fresh : List ByteArray) (nth act item : Int) (w : World) (hl : Sl wordEl w A l) (hx : Sl strEl w B part) (hy : Sl strEl w C fresh)
    (hn : l.length ≤ 65536) (ho : part.length ≤ 65536) (hm : fresh.length ≤ 65536) (hc : l.length ≤ c) :
    Calls Try.prog 16 #[.slice A l.length c, .slice B part.length d, .slice C fresh.length f, .int .i64 nth, .int .i64 act, .int .i64 item] w (RetPair w (insF l part fresh nth act item)) := by
  by_cases hbad : fresh.length = 0 ∨ nth < 0 ∨ (part.length = 0 ∧ nth ≠ 0)
  · have e : insF l part fresh nth act item = ([], 1) := by unfold insF; rw [if_pos hbad]
    rw [e]
    clear e
    by_cases h0 : fresh.length = 0
    · have hb : ((fresh.length : Int) == 0) = true := by rw [h0]; rfl
      clear hbad h0
      go_enter Try.func16, Try.ntmps16
      go_wp2
      go_ret2
      exact RetPair.err (Ext.refl _)
    · have hb : ((fresh.length : Int) == 0) = false := beq_eq_false_iff_ne.2 (by omega)
      by_cases h1 : nth < 0
      · clear hbad h0
        go_enter Try.func16, Try.ntmps16
        go_wp2
        go_ret2
        exact RetPair.err (Ext.refl _)
      · have hb1 : ((part.length : Int) == 0) = true := beq_iff_eq.2 (by omega)
        have hb2 : (nth != 0) = true := by rw [bne_iff_ne]; omega
        clear hbad h0
        go_enter Try.func16, Try.ntmps16
        go_wp2
        go_ret2
        exact RetPair.err (Ext.refl _)
  · have hb : ((fresh.length : Int) == 0) = false := beq_eq_false_iff_ne.2 (by omega)
    have h1 : 0 ≤ nth := by omega
    by_cases hp : part.length = 0
    · have hnth : nth = 0 := by omega
      subst hnth
      have e : insF l part fresh 0 act item = heldF (putR l 0 fresh act item 0 0 [0]) := by unfold insF; rw [if_neg hbad, if_pos hp]
      rw [e]
      have hb1 : ((part.length : Int) == 0) = true := by rw [hp]; rfl
      clear hbad hp e
      obtain ⟨zs, hzs⟩ : ∃ zs, putR l 0 fresh act item 0 0 [0] = zs := ⟨_, rfl⟩
      rw [hzs]
      have Hzs := Lib.hid hzs
      clear hzs
      go_enter Try.func16, Try.ntmps16
      go_wp2_with fail
      refine (refPut_any _ _ _ _ _ _ l [0] [0] 0 fresh act item _ (hl.ext ((Ext.refl _).alloc _)) (Sl.new intEl rfl) (hy.ext ((Ext.refl _).alloc _)) hn (by decide) (by decide) hm hc rfl ⟨Nat.zero_le _, Nat.zero_le _, Nat.zero_le _⟩).mono ?_
      rw [Hzs.out]
      rintro e w4 ⟨v4, rfl, hown4, hext4⟩
      obtain ⟨A4, c4, rfl, hc4, hs4⟩ := hown4.form
      clear hown4
      have hx4 : Ext w w4 := ((Ext.refl _).alloc _).trans hext4
      go_wp2_with fail
      by_cases hbig : zs.length ≤ 256
      · refine (held_yes _ _ _ _ hbig).mono ?_
        rintro e w5 ⟨rfl, rfl⟩
        go_wp2
        go_ret2
        unfold heldF
        rw [if_pos hbig]
        exact ⟨A4, c4, rfl, hc4, hs4, hx4⟩
      · refine (held_no _ _ _ _ (by omega)).mono ?_
        rintro e w5 ⟨rfl, rfl⟩
        go_wp2
        go_ret2
        unfold heldF
        rw [if_neg hbig]
        exact RetPair.err hx4
    · have hb1 : ((part.length : Int) == 0) = false := beq_eq_false_iff_ne.2 (by omega)
      obtain ⟨ps, hps, hgood⟩ := chosen_good (l.map GWord.t) part nth (by omega)
      have hlen := chosenF_length (findF (l.map GWord.t) part) nth
      have hlen2 := findF_length (l.map GWord.t) part
      rw [List.length_map] at hlen2 hgood
      have e : insF l part fresh nth act item = if chosenF (findF (l.map GWord.t) part) nth = [] then ([], 4) else heldF (putR l 0 fresh act item 0 0 (((chosenF (findF (l.map GWord.t) part) nth).map Int.toNat).map (· + part.length))) := by
        unfold insF; rw [if_neg hbad, if_neg hp]
      obtain ⟨T0, hT⟩ : ∃ T0, l.map GWord.t = T0 := ⟨_, rfl⟩
      have hTl : T0.length ≤ 65536 := by rw [← hT, List.length_map]; exact hn
      rw [hT] at hlen hlen2 hps e
      obtain ⟨P0, hP⟩ : ∃ P0, findF T0 part = P0 := ⟨_, rfl⟩
      rw [hP] at hlen hlen2 hps e
      obtain ⟨xs, hxs⟩ : ∃ xs, chosenF P0 nth = xs := ⟨_, rfl⟩
      rw [hxs] at hlen e hps
      rw [e]
      have HT := Lib.hid hT
      have HP := Lib.hid hP
      have Hxs := Lib.hid hxs
      have Hps := Lib.hid hps
      have HG := Lib.hid hgood
      clear hp hbad hxs hps hgood e hT hP
      by_cases h2 : xs.length = 0
      · have hb2 : ((xs.length : Int) == 0) = true := by rw [h2]; rfl
        rw [if_pos (List.eq_nil_of_length_eq_zero h2)]
        clear h2
        go_enter Try.func16, Try.ntmps16
        go_wp2_with fail
        refine (texts_any _ _ _ _ hl (by omega)).mono ?_
        rw [HT.out]
        rintro e w1 ⟨v1, rfl, hown1, hext1⟩
        obtain ⟨A1, c1, rfl, hc1, hs1⟩ := hown1.form
        clear hown1
        go_wp2_with fail
        refine (find_any _ _ _ _ _ _ _ hs1 (hx.ext hext1) (by omega) (by omega) hc1).mono ?_
        rw [HP.out]
        rintro e w2 ⟨v2, rfl, hown2, hext2⟩
        obtain ⟨A2, c2, rfl, hc2, hs2⟩ := hown2.form
        clear hown2
        go_wp2_with fail
        refine (chosen_any _ _ _ _ _ hs2 (by omega) hc2).mono ?_
        rw [Hxs.out]
        rintro e w3 ⟨A3, c3, rfl, hc3, hs3, hext3⟩
        go_wp2
        go_ret2
        exact RetPair.err ((hext1.trans hext2).trans hext3)
      · have hb2 : ((xs.length : Int) == 0) = false := beq_eq_false_iff_ne.2 (by omega)
        have hxne : xs ≠ [] := by rintro rfl; simp at h2
        rw [if_neg hxne, Hps.out, toNat_map]
        obtain ⟨zs, hzs⟩ : ∃ zs, putR l 0 fresh act item 0 0 (ps.map (· + part.length)) = zs := ⟨_, rfl⟩
        rw [hzs]
        have Hzs := Lib.hid hzs
        clear h2 hxne hzs
        go_enter Try.func16, Try.ntmps16
        go_wp2_with fail
        refine (texts_any _ _ _ _ hl (by omega)).mono ?_
        rw [HT.out]
        rintro e w1 ⟨v1, rfl, hown1, hext1⟩
        obtain ⟨A1, c1, rfl, hc1, hs1⟩ := hown1.form
        clear hown1
        go_wp2_with fail
        refine (find_any _ _ _ _ _ _ _ hs1 (hx.ext hext1) (by omega) (by omega) hc1).mono ?_
        rw [HP.out]
        rintro e w2 ⟨v2, rfl, hown2, hext2⟩
        obtain ⟨A2, c2, rfl, hc2, hs2⟩ := hown2.form
        clear hown2
        go_wp2_with fail
        refine (chosen_any _ _ _ _ _ hs2 (by omega) hc2).mono ?_
        rw [Hxs.out]
        rintro e w3 ⟨A3, c3, rfl, hc3, hs3, hext3⟩
        have hx3 := (hext1.trans hext2).trans hext3
        clear hc1 hs1 hc2 hs2 hext1 hext2 hext3
        go_wp2
        go_loopw [15, 16] (fun out i wr => ∃ (k : Nat), k ≤ xs.length ∧ i = .int .i64 k ∧ Own intEl w3.heap.size wr out ((xs.take k).map (· + (part.length : Int))) ∧ Below w3.heap.size w3 wr) (fun _ i _ => xs.length - (intOf i).toNat)
        case atStart => exact ⟨0, Nat.zero_le _, rfl, Own.made intEl (Nat.le_refl _), (Below.refl _ _).alloc (Nat.le_refl _) _⟩
        case round =>
          obtain ⟨k, hk, rfl, hown, hbel⟩ := hrel
          have hsz := hbel.size
          by_cases hlt : k < xs.length
          · have hkp : k < ps.length := by rw [show ps.length = xs.length from by rw [Hps.out, List.length_map]]; exact hlt
            obtain ⟨p, hpk⟩ : ∃ p, ps[k]? = some p := ⟨_, List.getElem?_eq_getElem hkp⟩
            have hxk : xs[k] = (p : Int) := by
              have e1 := Hps.out
              subst e1
              simp [List.getElem?_eq_getElem hkp] at hpk
              simp [hpk]
            have hpl := (goodP_at HG.out hpk).2.1
            obtain ⟨b, off, rfl, hb, hcell⟩ := intAt hs3 hlt
            have hcr := (hbel.cell (p := ⟨b, off + k, none⟩) hb).trans hcell
            rw [hxk] at hcr
            have Hxk := Lib.hid hxk
            have hc1 : ((xs.take k).map (· + (part.length : Int))).length + 1 ≤ 68719476736 := by rw [List.length_map, List.length_take]; omega
            clear hpk hxk hkp hcell
            go_wp2_with (at_builtin; refine wpList_app intEl rfl _ _ rfl 1 rfl (hown.ext ((Ext.refl _).alloc _)) (ys := [(p : Int) + part.length]) rfl (Sl.new intEl rfl) hc1 (by simp; omega) ?_; intro v' w5 hown' hb5 hg5)
            have hbel' := (hbel.alloc hsz _).trans hb5
            go_wp2
            go_roundw
            case rel => exact ⟨k + 1, hlt, by go_num, by rw [map_take_succ _ _ _ hlt, Hxk.out]; exact hown', hbel'⟩
            case measure => simp [intOf]; omega
          · have hkx : k = xs.length := by omega
            have hext : Ext w wr := hx3.trans hbel
            rw [hkx, List.take_length] at hown
            obtain ⟨ys, hys⟩ : ∃ ys, xs.map (· + (part.length : Int)) = ys := ⟨_, rfl⟩
            rw [hys] at hown
            have Hz2 : Hid (ys = (ps.map (· + part.length)).map (fun n : Nat => (n : Int))) := by
              unfold Hid
              rw [← hys, Hps.out, List.map_map, List.map_map]
              exact List.map_congr_left fun a _ => by simp
            have hyl : ys.length ≤ 65536 := by rw [← hys, List.length_map]; omega
            obtain ⟨A6, c6, rfl, hc6, hs6⟩ := hown.form
            clear hys hkx hown
            go_wp2_with fail
            refine (refPut_any _ _ _ _ _ _ _ _ (ps.map (· + part.length)) 0 _ _ _ _ (hl.ext hext) hs6 (hy.ext hext) hn hyl (by decide) hm hc Hz2 (goodP_shift HG.out)).mono ?_
            rw [Hzs.out]
            rintro e w4 ⟨v4, rfl, hown4, hext4⟩
            obtain ⟨A4, c4, rfl, hc4, hs4⟩ := hown4.form
            clear hown4
            have hx4 : Ext w w4 := hext.trans hext4
            go_wp2_with fail
            by_cases hbig : zs.length ≤ 256
            · refine (held_yes _ _ _ _ hbig).mono ?_
              rintro e w5 ⟨rfl, rfl⟩
              go_wp2
              go_ret2
              unfold heldF
              rw [if_pos hbig]
              exact ⟨A4, c4, rfl, hc4, hs4, hx4⟩
            · refine (held_no _ _ _ _ (by omega)).mono ?_
              rintro e w5 ⟨rfl, rfl⟩
              go_wp2
              go_ret2
              unfold heldF
              rw [if_neg hbig]
              exact RetPair.err hx4

end Go.Proofs.Ytkbmocgjbhmioaa
