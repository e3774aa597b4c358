/- Footnotes in lists: what a unit without findings is like; the renumbered tree again. -/
import Derived.Test.YtiacmahfjcolaaaDoorNumF10
namespace Go.Proofs.YtiacmahfjcolaaaDoor
open Go.RowKit

/-- the labels of the notes among the children -/
def noteL : List GUnit → List ByteArray
  | [] => []
  | u :: r => if u.kind = 7 then u.label :: noteL r else noteL r
theorem noteL_append (a b : List GUnit) : noteL (a ++ b) = noteL a ++ noteL b := by
  induction a with
  | nil => rfl
  | cons x r ih =>
    rw [List.cons_append, noteL, noteL]
    split <;> simp [ih]
theorem isNote_all (s : ByteArray) : ∀ ks : List GUnit, (∀ x ∈ ks.map keyU, isNote s x = false) ↔ s ∉ noteL ks
  | [] => by simp [noteL]
  | u :: r => by
    rw [List.map_cons, List.forall_mem_cons, isNote_all s r, noteL]
    by_cases h : u.kind = 7
    · rw [if_pos h]
      have : isNote s (keyU u) = false ↔ s ≠ u.label := by
        unfold isNote keyU
        simp only [h, decide_true, Bool.true_and, decide_eq_false_iff_not]
        exact ⟨fun a b => a b.symm, fun a b => a b.symm⟩
      rw [this, List.mem_cons, not_or]
    · rw [if_neg h]
      have : isNote s (keyU u) = false := by unfold isNote keyU; simp [h]
      simp only [this, true_and]
theorem noteI_neg (ks : List GUnit) (s : ByteArray) : noteI (ks.map keyU) s < 0 ↔ s ∉ noteL ks := by
  unfold noteI
  rw [idxI_neg, isNote_all]
theorem noteI_pos (ks : List GUnit) (s : ByteArray) : 0 ≤ noteI (ks.map keyU) s ↔ s ∈ noteL ks := by
  have := noteI_neg ks s
  constructor
  · intro h
    refine Decidable.byContradiction fun hn => ?_
    have := this.2 hn
    omega
  · intro h
    refine Int.not_lt.1 fun hn => this.1 hn h
theorem idxI_skip {α : Type} (q : α → Bool) : ∀ (a b : List α) (k : Nat), (∀ x ∈ a, q x = false) → idxI q (a ++ b) k = idxI q b (k + a.length)
  | [], b, k, _ => by simp
  | x :: a, b, k, h => by
    rw [List.cons_append, idxI, if_neg (by simp [h x (List.mem_cons_self ..)]), idxI_skip q a b (k + 1) fun y hy => h y (List.mem_cons_of_mem _ hy)]
    congr 1
    simp
    omega
theorem idxI_lt {α : Type} (q : α → Bool) : ∀ (a b : List α) (k : Nat), ¬ (∀ x ∈ a, q x = false) → idxI q (a ++ b) k < ((k + a.length : Nat) : Int)
  | [], b, k, h => absurd (by simp) h
  | x :: a, b, k, h => by
    rw [List.cons_append, idxI]
    split
    · simp; omega
    · rename_i hx
      have := idxI_lt q a b (k + 1) (fun h2 => h (by
        rw [List.forall_mem_cons]
        exact ⟨by simpa using hx, h2⟩))
      simp at this ⊢
      omega
theorem noteI_here (pre r : List GUnit) (u : GUnit) (h7 : u.kind = 7) (hn : u.label ∉ noteL pre) : noteI ((pre ++ u :: r).map keyU) u.label = (pre.length : Int) := by
  unfold noteI
  rw [List.map_append, idxI_skip _ _ _ _ ((isNote_all _ _).2 hn), List.map_cons, idxI, if_pos (by unfold isNote keyU; simp [h7])]
  simp
theorem noteI_before (pre r : List GUnit) (s : ByteArray) (hn : s ∈ noteL pre) : noteI ((pre ++ r).map keyU) s < (pre.length : Int) := by
  unfold noteI
  rw [List.map_append]
  have := idxI_lt (isNote s) (pre.map keyU) (r.map keyU) 0 (fun h => (isNote_all s pre).1 h hn)
  simpa using this

/-- a unit whose anchors and notes fit together -/
structure Good (wd : List GWord) (ks : List GUnit) : Prop where
  a1 : (anchL wd).Nodup
  n1 : (noteL ks).Nodup
  an : ∀ s ∈ anchL wd, s ∈ noteL ks
  na : ∀ s ∈ noteL ks, s ∈ anchL wd
theorem findW_of {id : GId} {ks : List GUnit} : ∀ {l : List GWord} {i : Nat} {seen : List ByteArray}, (anchL l).Nodup → (∀ s ∈ anchL l, s ∉ seen ∧ s ∈ noteL ks) → findW id (ks.map keyU) i seen l = []
  | [], _, _, _, _ => rfl
  | x :: r, i, seen, hn, h => by
    rw [findW]
    rw [anchL] at hn h
    split
    · rename_i hb
      rw [if_pos hb] at hn h
      rw [List.nodup_cons] at hn
      have h1 := h _ (List.mem_cons_self ..)
      rw [if_neg h1.1, if_neg (by rw [noteI_neg]; exact fun hc => hc h1.2), List.nil_append]
      refine findW_of hn.2 fun s hs => ⟨fun hm => ?_, (h s (List.mem_cons_of_mem _ hs)).2⟩
      rcases List.mem_append.1 hm with hm | hm
      · exact (h s (List.mem_cons_of_mem _ hs)).1 hm
      · rw [List.mem_singleton] at hm
        exact hn.1 (hm ▸ hs)
    · rename_i hb
      rw [if_neg hb] at hn h
      exact findW_of hn h
theorem findK_of {ks : List GUnit} {seen : List ByteArray} : ∀ {l pre : List GUnit}, ks = pre ++ l → (noteL ks).Nodup → (∀ s ∈ noteL l, s ∈ seen) → findK (ks.map keyU) seen pre.length l = []
  | [], _, _, _, _ => rfl
  | u :: r, pre, he, hn, hs => by
    rw [findK]
    rw [noteL] at hs
    have h1 : ¬ (u.kind = 7 ∧ (u.label ∉ seen ∨ noteI (ks.map keyU) u.label ≠ (pre.length : Int))) := by
      rintro ⟨h7, h⟩
      rw [if_pos h7] at hs
      rcases h with h | h
      · exact h (hs _ (List.mem_cons_self ..))
      · refine h ?_
        rw [he]
        refine noteI_here pre r u h7 fun hm => ?_
        rw [he, noteL_append, List.nodup_append] at hn
        exact hn.2.2 _ hm _ (by rw [noteL, if_pos h7]; exact List.mem_cons_self ..) rfl
    rw [if_neg h1, List.nil_append]
    have h2 := findK_of (ks := ks) (l := r) (pre := pre ++ [u]) (seen := seen) (by rw [he]; simp) hn (fun s hm => hs s (by
      split
      · exact List.mem_cons_of_mem _ hm
      · exact hm))
    rw [List.length_append, List.length_singleton] at h2
    exact h2
theorem findK_inv {ks : List GUnit} {seen : List ByteArray} : ∀ {l pre : List GUnit}, ks = pre ++ l → findK (ks.map keyU) seen pre.length l = [] → (noteL l).Nodup ∧ ∀ s ∈ noteL l, s ∈ seen ∧ s ∉ noteL pre
  | [], _, _, _ => ⟨List.nodup_nil, fun s h => by cases h⟩
  | u :: r, pre, he, h => by
    rw [findK, List.append_eq_nil_iff] at h
    have h2 := findK_inv (ks := ks) (l := r) (pre := pre ++ [u]) (seen := seen) (by rw [he]; simp) (by rw [List.length_append, List.length_singleton]; exact h.2)
    rw [noteL_append] at h2
    have e1 : noteL [u] = if u.kind = 7 then [u.label] else [] := by rw [noteL, noteL]
    rw [e1] at h2
    rw [noteL]
    by_cases h7 : u.kind = 7
    · rw [if_pos h7] at h2 ⊢
      have h1 : ¬ (u.label ∉ seen ∨ noteI (ks.map keyU) u.label ≠ (pre.length : Int)) := fun hc => by
        have := h.1
        rw [if_pos ⟨h7, hc⟩] at this
        cases this
      have h3 : u.label ∈ seen := Decidable.byContradiction fun hc => h1 (.inl hc)
      have h4 : u.label ∉ noteL pre := fun hm => h1 (.inr (by
        have := noteI_before pre (u :: r) _ hm
        rw [← he] at this
        omega))
      refine ⟨List.nodup_cons.2 ⟨fun hm => (h2.2 _ hm).2 (by simp), h2.1⟩, fun s hs => ?_⟩
      rcases List.mem_cons.1 hs with rfl | hs
      · exact ⟨h3, h4⟩
      · exact ⟨(h2.2 s hs).1, fun hm => (h2.2 s hs).2 (by simp [hm])⟩
    · rw [if_neg h7] at h2 ⊢
      rw [List.append_nil] at h2
      exact h2
theorem good_iff (a i n k : Int) (l : ByteArray) (hd wd : List GWord) (kids : List GUnit) : ownF (.mk a i n k l hd wd kids) = [] ↔ Good wd kids := by
  unfold ownF
  simp only [GUnit.keys, GUnit.anchs, GUnit.words, GUnit.kids]
  constructor
  · intro h
    rw [List.append_eq_nil_iff] at h
    obtain ⟨h1, h2⟩ := findW_nil h.1
    obtain ⟨h3, h4⟩ := findK_inv (pre := []) rfl h.2
    exact ⟨h2, h3, fun s hs => (noteI_pos _ _).1 (h1 s hs).2, fun s hs => (h4 s hs).1⟩
  · rintro ⟨h1, h2, h3, h4⟩
    rw [findW_of h1 fun s hs => ⟨by simp, h3 s hs⟩, List.nil_append]
    exact findK_of (pre := []) rfl h2 h4
theorem check_iff (a i n k : Int) (l : ByteArray) (hd wd : List GWord) (kids : List GUnit) : checkF (.mk a i n k l hd wd kids) = [] ↔ Good wd kids ∧ checkL kids = [] := by
  rw [checkF, List.append_eq_nil_iff, good_iff]
theorem checkL_iff : ∀ (ks : List GUnit), checkL ks = [] ↔ ∀ u ∈ ks, checkF u = []
  | [] => by simp [checkL]
  | u :: r => by rw [checkL, List.append_eq_nil_iff, checkL_iff r, List.forall_mem_cons]

/-! ### decimal labels -/
theorem decD_small {n : Nat} (h : n < 10) : Lib.decDigits n = [UInt8.ofNat (48 + n)] := by rw [Lib.decDigits, dif_pos h]
theorem decD_big {n : Nat} (h : ¬ n < 10) : Lib.decDigits n = Lib.decDigits (n / 10) ++ [UInt8.ofNat (48 + n % 10)] := by
  conv => lhs; rw [Lib.decDigits]
  rw [dif_neg h]
theorem digN (k : Nat) (h : k < 10) : (UInt8.ofNat (48 + k)).toNat = 48 + k := by
  rw [UInt8.toNat_ofNat']
  omega
theorem decD_dig : ∀ (N n : Nat), n ≤ N → ∀ c ∈ Lib.decDigits n, isDig c = true
  | N, n, hN, c, hc => by
    by_cases h : n < 10
    · rw [decD_small h, List.mem_singleton] at hc
      subst hc
      have := digN n h
      unfold isDig
      simp only [this, Bool.and_eq_true, decide_eq_true_eq]
      omega
    · rw [decD_big h] at hc
      rcases List.mem_append.1 hc with hc | hc
      · match N, hN with
        | 0, hN => omega
        | N + 1, hN => exact decD_dig N (n / 10) (by omega) c hc
      · rw [List.mem_singleton] at hc
        subst hc
        have := digN (n % 10) (Nat.mod_lt _ (by omega))
        unfold isDig
        simp only [this, Bool.and_eq_true, decide_eq_true_eq]
        omega
theorem decD_val : ∀ (N n : Nat), n ≤ N → valN (Lib.decDigits n) = n
  | N, n, hN => by
    by_cases h : n < 10
    · rw [decD_small h]
      have := digN n h
      simp only [valN, List.foldl_cons, List.foldl_nil, this]
      omega
    · rw [decD_big h, valN_snoc, digN (n % 10) (Nat.mod_lt _ (by omega))]
      match N, hN with
      | 0, hN => omega
      | N + 1, hN =>
        rw [decD_val N (n / 10) (by omega)]
        omega
theorem decD_head : ∀ (N n : Nat), n ≤ N → 1 ≤ n → ∃ c t, Lib.decDigits n = c :: t ∧ c ≠ 48
  | N, n, hN, h1 => by
    by_cases h : n < 10
    · refine ⟨_, _, decD_small h, fun e => ?_⟩
      have := digN n h
      rw [e] at this
      have h48 : (48 : UInt8).toNat = 48 := rfl
      omega
    · match N, hN with
      | 0, hN => omega
      | N + 1, hN =>
        obtain ⟨c, t, h2, h3⟩ := decD_head N (n / 10) (by omega) (by omega)
        exact ⟨c, t ++ [_], by rw [decD_big h, h2]; rfl, h3⟩
theorem decB_inj {a b : Nat} (h : decB a = decB b) : a = b := by
  have h1 := decD_val a a (Nat.le_refl _)
  have h2 := decD_val b b (Nat.le_refl _)
  have h3 : Lib.decDigits a = Lib.decDigits b := by
    have := congrArg (fun x : ByteArray => x.data.toList) h
    simpa [decB, bstr] using this
  rw [← h1, ← h2, h3]
theorem takeWhile_all {α : Type} (p : α → Bool) : ∀ (l : List α), (∀ x ∈ l, p x = true) → l.takeWhile p = l
  | [], _ => rfl
  | x :: r, h => by rw [List.takeWhile_cons, if_pos (h x (List.mem_cons_self ..)), takeWhile_all p r fun y hy => h y (List.mem_cons_of_mem _ hy)]
theorem anc_dec {n : Nat} (h1 : 1 ≤ n) (h2 : n < 1000) : ancB (⟨#[94]⟩ ++ decB n) = true ∧ ancT (⟨#[94]⟩ ++ decB n) = decB n := by
  have hl : (⟨#[94]⟩ ++ decB n : ByteArray).data.toList = 94 :: Lib.decDigits n := by simp [decB, bstr]
  obtain ⟨c, t, h3, h4⟩ := decD_head n n (Nat.le_refl _) h1
  have hdc : dcF (Lib.decDigits n) = (Lib.decDigits n).length := by
    unfold dcF
    rw [takeWhile_all _ _ (decD_dig n n (Nat.le_refl _))]
  have hz : (Lib.decDigits n).length ≤ 4 := by
    have := decB_size 3 n (by omega)
    rwa [decB, bstr_size] at this
  have hp : 1 ≤ (Lib.decDigits n).length := by rw [h3]; simp
  have hb : ancB (⟨#[94]⟩ ++ decB n) = true := by
    unfold ancB
    rw [hl]
    simp only [List.head?_cons, List.drop_succ_cons, List.drop_zero]
    unfold mayL
    rw [hdc, List.drop_length, Nat.sub_self]
    simp only [hp, hz, decide_true, Bool.true_and, Nat.zero_le, List.all_nil, Bool.and_true]
    rw [h3]
    simp [h4]
  refine ⟨hb, ?_⟩
  unfold ancT
  rw [if_pos hb, hl]
  rfl

/-! ### the renumbered tree -/
section
variable {L : List ByteArray}
theorem labF_at (hn : L.Nodup) {j : Nat} (h : j < L.length) : labF L L[j] = decB (j + 1) := by
  unfold labF
  rw [placeI_nodup h hn, Int.toNat_natCast]
theorem labF_of (hn : L.Nodup) {s : ByteArray} (h : s ∈ L) : ∃ j : Nat, ∃ hj : j < L.length, L[j] = s ∧ labF L s = decB (j + 1) := by
  obtain ⟨j, hj, rfl⟩ := List.getElem_of_mem h
  exact ⟨j, hj, rfl, labF_at hn hj⟩
theorem labF_inj (hn : L.Nodup) {s t : ByteArray} (hs : s ∈ L) (ht : t ∈ L) (h : labF L s = labF L t) : s = t := by
  obtain ⟨j, hj, rfl, h1⟩ := labF_of hn hs
  obtain ⟨k, hk, rfl, h2⟩ := labF_of hn ht
  rw [h1, h2] at h
  have := decB_inj h
  have : j = k := by omega
  subst this
  rfl
theorem nodup_map {α β : Type} (f : α → β) : ∀ (l : List α), l.Nodup → (∀ s ∈ l, ∀ t ∈ l, f s = f t → s = t) → (l.map f).Nodup
  | [], _, _ => List.nodup_nil
  | x :: r, hn, h => by
    rw [List.nodup_cons] at hn
    rw [List.map_cons, List.nodup_cons]
    refine ⟨fun hm => ?_, nodup_map f r hn.2 fun s hs t ht => h s (List.mem_cons_of_mem _ hs) t (List.mem_cons_of_mem _ ht)⟩
    obtain ⟨y, hy, he⟩ := List.mem_map.1 hm
    have := h y (List.mem_cons_of_mem _ hy) x (List.mem_cons_self ..) he
    exact hn.1 (this ▸ hy)
theorem labF_idem (hn : L.Nodup) {s : ByteArray} (h : s ∈ L) : labF (L.map (labF L)) (labF L s) = labF L s := by
  have hn2 : (L.map (labF L)).Nodup := nodup_map _ L hn fun s hs t ht => labF_inj hn hs ht
  obtain ⟨j, hj, hs, h1⟩ := labF_of hn h
  have hj2 : j < (L.map (labF L)).length := by rw [List.length_map]; exact hj
  have := labF_at hn2 hj2
  rw [List.getElem_map, hs] at this
  rw [this, h1]
theorem anchL_mem : ∀ {l : List GWord} {x : GWord}, x ∈ l → ancB x.t = true → ancT x.t ∈ anchL l
  | y :: r, x, hx, hb => by
    rw [anchL]
    rcases List.mem_cons.1 hx with rfl | hx
    · rw [if_pos hb]; simp
    · split
      · exact List.mem_cons_of_mem _ (anchL_mem hx hb)
      · exact anchL_mem hx hb
theorem renW_anc (hn : L.Nodup) (hl : L.length < 999) {x : GWord} (hb : ancB x.t = true) (hm : ancT x.t ∈ L) : ancB (renW L x).t = true ∧ ancT (renW L x).t = labF L (ancT x.t) := by
  unfold renW
  rw [if_pos hb]
  obtain ⟨j, hj, -, h1⟩ := labF_of hn hm
  dsimp only
  rw [h1]
  exact anc_dec (by omega) (by omega)
theorem renW_other {x : GWord} (hb : ¬ ancB x.t = true) : renW L x = x := by unfold renW; rw [if_neg hb]
theorem anchL_ren (hn : L.Nodup) (hl : L.length < 999) : ∀ (wd : List GWord), (∀ s ∈ anchL wd, s ∈ L) → anchL (wd.map (renW L)) = (anchL wd).map (labF L)
  | [], _ => rfl
  | x :: r, h => by
    rw [List.map_cons, anchL, anchL]
    rw [anchL] at h
    by_cases hb : ancB x.t = true
    · rw [if_pos hb] at h ⊢
      obtain ⟨h1, h2⟩ := renW_anc hn hl hb (h _ (List.mem_cons_self ..))
      rw [if_pos h1, h2, anchL_ren hn hl r fun s hs => h s (List.mem_cons_of_mem _ hs), List.map_cons]
    · rw [if_neg hb] at h ⊢
      rw [renW_other hb, if_neg hb, anchL_ren hn hl r h]
theorem relab_kind (u : GUnit) : (relab L u).kind = u.kind := by cases u; rfl
theorem relab_label (u : GUnit) : (relab L u).label = if u.kind = 7 then labF L u.label else u.label := by cases u; rfl
theorem relab_id (u : GUnit) : (relab L u).id = u.id := by cases u; rfl
theorem num_kl (u : GUnit) : (numF u).kind = u.kind ∧ (numF u).label = u.label := by
  cases u
  rw [numF]
  exact ⟨rfl, rfl⟩
theorem noteL_num : ∀ (ks : List GUnit), noteL (numL L ks) = (noteL ks).map (labF L)
  | [] => rfl
  | u :: r => by
    rw [numL, noteL, noteL, relab_kind, relab_label, (num_kl u).1, (num_kl u).2, noteL_num r]
    split <;> simp
theorem ids_num : ∀ (ks : List GUnit), (numL L ks).map GUnit.id = ks.map GUnit.id
  | [] => rfl
  | u :: r => by rw [numL, List.map_cons, List.map_cons, relab_id, numF_id, ids_num r]
theorem noteI_num (hn : L.Nodup) {s : ByteArray} (hs : s ∈ L) : ∀ (ks : List GUnit) (k : Nat), (∀ t ∈ noteL ks, t ∈ L) → idxI (isNote (labF L s)) ((numL L ks).map keyU) k = idxI (isNote s) (ks.map keyU) k
  | [], _, _ => rfl
  | u :: r, k, h => by
    rw [numL, List.map_cons, List.map_cons, idxI, idxI]
    rw [noteL] at h
    have h2 : ∀ t ∈ noteL r, t ∈ L := fun t ht => h t (by split; exact List.mem_cons_of_mem _ ht; exact ht)
    rw [noteI_num hn hs r (k + 1) h2]
    have h3 : isNote (labF L s) (keyU (relab L (numF u))) = isNote s (keyU u) := by
      unfold isNote keyU
      simp only [relab_kind, relab_label, (num_kl u).1, (num_kl u).2]
      by_cases h7 : u.kind = 7
      · rw [if_pos h7] at h
        rw [if_pos h7]
        simp only [h7, decide_true, Bool.true_and]
        refine decide_eq_decide.2 ⟨fun e => labF_inj hn (h _ (List.mem_cons_self ..)) hs e, fun e => by rw [e]⟩
      · simp [h7]
    rw [h3]
end
theorem Good.num {wd : List GWord} {ks : List GUnit} (h : Good wd ks) (hl : (anchL wd).length < 999) : Good (wd.map (renW (anchL wd))) (numL (anchL wd) ks) := by
  have ha := anchL_ren h.a1 hl wd fun _ hs => hs
  have hi : ∀ s ∈ anchL wd, ∀ t ∈ anchL wd, labF (anchL wd) s = labF (anchL wd) t → s = t := fun s hs t ht => labF_inj h.a1 hs ht
  refine ⟨?_, ?_, ?_, ?_⟩
  · rw [ha]
    exact nodup_map _ _ h.a1 hi
  · rw [noteL_num]
    exact nodup_map _ _ h.n1 fun s hs t ht => hi s (h.na s hs) t (h.na t ht)
  · rw [ha, noteL_num]
    intro s hs
    obtain ⟨t, ht, rfl⟩ := List.mem_map.1 hs
    exact List.mem_map_of_mem (h.an t ht)
  · rw [ha, noteL_num]
    intro s hs
    obtain ⟨t, ht, rfl⟩ := List.mem_map.1 hs
    exact List.mem_map_of_mem (h.na t ht)
theorem relab_check (L : List ByteArray) (u : GUnit) : checkF (relab L u) = checkF u := by
  obtain ⟨a, i, n, k, l, hd, wd, ks⟩ := u
  rw [relab, checkF, checkF]
  rfl
theorem relab_num (L : List ByteArray) (u : GUnit) : numF (relab L u) = relab L (numF u) := by
  obtain ⟨a, i, n, k, l, hd, wd, ks⟩ := u
  rw [relab, numF, numF, relab]
theorem relab_notes (L : List ByteArray) (u : GUnit) : notesF (relab L u) = notesF u := by
  obtain ⟨a, i, n, k, l, hd, wd, ks⟩ := u
  rw [relab, notesF, notesF]
  rfl
/-- few anchors everywhere -/
def fewA (u : GUnit) : Prop := u.words.length < 999
theorem fewA_len {a i n k : Int} {l : ByteArray} {hd wd : List GWord} {ks : List GUnit} (h : fewA (.mk a i n k l hd wd ks)) : (anchL wd).length < 999 := by
  have := anchL_len wd
  unfold fewA at h
  simp only [GUnit.words] at h
  omega
mutual
theorem check_num : ∀ u, checkF u = [] → AllU fewA u → checkF (numF u) = []
  | .mk a i n k l hd wd ks, h, hA => by
    rw [check_iff] at h
    rw [AllU] at hA
    rw [numF, check_iff]
    exact ⟨h.1.num (fewA_len hA.1), checkL_num _ ks h.2 hA.2⟩
theorem checkL_num (L : List ByteArray) : ∀ us, checkL us = [] → AllUs fewA us → checkL (numL L us) = []
  | [], _, _ => by rw [numL]; rfl
  | u :: r, h, hA => by
    rw [checkL, List.append_eq_nil_iff] at h
    rw [AllUs] at hA
    rw [numL, checkL, relab_check, check_num u h.1 hA.1, checkL_num L r h.2 hA.2]
    rfl
end
theorem renW_idem {L : List ByteArray} (hn : L.Nodup) (hl : L.length < 999) (x : GWord) (hm : ancB x.t = true → ancT x.t ∈ L) : renW (L.map (labF L)) (renW L x) = renW L x := by
  by_cases hb : ancB x.t = true
  · obtain ⟨h1, h2⟩ := renW_anc hn hl hb (hm hb)
    have h3 : ∀ (M : List ByteArray) (y : GWord), ancB y.t = true → renW M y = ⟨⟨#[94]⟩ ++ labF M (ancT y.t), y.a, y.i, y.k⟩ := fun M y h => by unfold renW; rw [if_pos h]
    rw [h3 _ _ h1, h2, labF_idem hn (hm hb), h3 L x hb]
  · rw [renW_other hb, renW_other hb]
theorem relab_idem {L : List ByteArray} (hn : L.Nodup) (u : GUnit) (hm : u.kind = 7 → u.label ∈ L) : relab (L.map (labF L)) (relab L u) = relab L u := by
  obtain ⟨a, i, n, k, l, hd, wd, ks⟩ := u
  simp only [GUnit.kind, GUnit.label] at hm
  rw [relab, relab]
  by_cases h7 : k = 7
  · simp only [if_pos h7, labF_idem hn (hm h7)]
  · simp only [if_neg h7]
mutual
theorem num_num : ∀ u, checkF u = [] → AllU fewA u → numF (numF u) = numF u
  | .mk a i n k l hd wd ks, h, hA => by
    rw [check_iff] at h
    rw [AllU] at hA
    have hl := fewA_len hA.1
    have ha := anchL_ren h.1.a1 hl wd fun _ hs => hs
    rw [numF, numF, ha, numL_num h.1.a1 ks h.2 hA.2 h.1.na]
    congr 1
    rw [List.map_map]
    refine List.map_congr_left fun x hx => ?_
    exact renW_idem h.1.a1 hl x fun hb => anchL_mem hx hb
theorem numL_num {L : List ByteArray} (hn : L.Nodup) : ∀ us, checkL us = [] → AllUs fewA us → (∀ s ∈ noteL us, s ∈ L) → numL (L.map (labF L)) (numL L us) = numL L us
  | [], _, _, _ => by rw [numL]; rfl
  | u :: r, h, hA, hm => by
    rw [checkL, List.append_eq_nil_iff] at h
    rw [AllUs] at hA
    rw [noteL] at hm
    rw [numL, numL, relab_num, num_num u h.1 hA.1, relab_idem hn, numL_num hn r h.2 hA.2 fun s hs => hm s (by split; exact List.mem_cons_of_mem _ hs; exact hs)]
    intro h7
    rw [(num_kl u).1] at h7
    rw [(num_kl u).2]
    exact hm _ (by rw [if_pos h7]; exact List.mem_cons_self ..)
end

end Go.Proofs.YtiacmahfjcolaaaDoor
