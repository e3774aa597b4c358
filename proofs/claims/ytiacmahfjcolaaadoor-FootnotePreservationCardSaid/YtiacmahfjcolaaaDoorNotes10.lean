/- Notes: the walks. -/
import Derived.Test.YtiacmahfjcolaaaDoorCheckB10
namespace Go.Proofs.YtiacmahfjcolaaaDoor
open Go.RowKit Go.Maps

theorem Own.stepE {P : Program} {α : Type} {D : El P α} {base bo B : Nat} {wr wq w2 w3 : World} {v v' : Value} {xs ys : List α} {p : Nat → Bool} (he : Ext wr wq) (hown : Own D base wr v xs) (hp2 : p bo = true) (hp3 : ∀ j, p j = true → j < wr.heap.size)
    (hpo : ∀ g, v.ownBlock = some g → p g = true ∧ g ≠ bo) (hg2 : wq.grownBy w2 v.ownBlock) (hloc : v'.ownBlock = v.ownBlock ∨ v'.ownBlock = some wq.heap.size) (hown2 : Own D base w2 v' ys)
    (hw3 : ∀ k, k ≠ bo → w3.heap[k]? = w2.heap[k]?) (hos : w3.os = w2.os) (htp : w3.tape = w2.tape) (hou : w3.output = w2.output) (hs : w3.heap.size = w2.heap.size) (hB1 : B ≤ bo) (hB2 : B ≤ base) (hB3 : B ≤ wr.heap.size) :
    (∀ j, (p j || decide (v'.ownBlock = some j)) = true → j < w3.heap.size) ∧ (∀ g, v'.ownBlock = some g → (p g || decide (v'.ownBlock = some g)) = true ∧ g ≠ bo) ∧ CIn (mask p wr) (mask (fun j => p j || decide (v'.ownBlock = some j)) w3) ∧ Own D base w3 v' ys ∧ Below B wr w3 := by
  have hbo : bo < wr.heap.size := hp3 bo hp2
  have hsz := he.size
  have hsz2 := hg2.size
  have hne : ∀ g, v'.ownBlock = some g → g ≠ bo := by
    intro g hg
    rcases hloc with h | h
    · rw [h] at hg; exact (hpo g hg).2
    · rw [h] at hg
      cases hg
      omega
  have hnot : ∀ k, k ≠ wq.heap.size → v.ownBlock ≠ some k → v'.ownBlock ≠ some k := by
    intro k h1 h2 h3
    rcases hloc with h | h
    · rw [h] at h3; exact h2 h3
    · rw [h] at h3
      cases h3
      exact h1 rfl
  refine ⟨fun j hj => ?_, fun g hg => ⟨by simp [hg], hne g hg⟩, ?_, hown2.keep fun g hg => hw3 g (hne g hg), ?_⟩
  · simp only [Bool.or_eq_true, decide_eq_true_eq] at hj
    rcases hj with h | h
    · have := hp3 j h; omega
    · have := (hown2.lt j h).2; omega
  · refine CIn.keep (by omega) fun k hk hpk => ?_
    have h1 : k ≠ bo := by rintro rfl; rw [hp2] at hpk; cases hpk
    have h2 : v.ownBlock ≠ some k := fun h => by rw [(hpo k h).1] at hpk; cases hpk
    refine ⟨(hw3 k h1).trans ((hg2.block k (by omega) (fun h => h2 h.symm)).trans (he.block hk)), ?_⟩
    simp [hpk, hnot k (by omega) h2]
  · refine ⟨hos.trans (hg2.os.trans he.os), htp.trans (hg2.tape.trans he.tape), hou.trans (hg2.output.trans he.output), by omega, fun k hk => ?_⟩
    have h2 : v.ownBlock ≠ some k := fun h => by have := (hown.lt k h).1; omega
    exact (hw3 k (by omega)).trans ((hg2.block k (by omega) (fun h => h2 h.symm)).trans (he.block (by omega)))

/-- a captured variable in block B that holds a slice of the call's own -/
structure COut {α : Type} (D : El Tryd.prog α) (W0 : World) (B : Nat) (p : Nat → Bool) (xs : List α) (w : World) : Prop where
  ext : Ext W0 w
  ge : W0.heap.size ≤ B
  dark : p B = true
  lt : ∀ j, p j = true → j < w.heap.size
  out : ∃ v, w.heap[B]? = some (.cells #[v] D.t (0, 0)) ∧ Own D (B + 1) w v xs ∧ ∀ g, v.ownBlock = some g → p g = true ∧ g ≠ B
/-- .. beside a map of the call's own in block M -/
structure NInv {α : Type} (D : El Tryd.prog α) (W0 wL : World) (B M : Nat) (p p2 : Nat → Bool) (xs : List α) (n : Nat) (g : ByteArray → Bool) (wr : World) : Prop where
  out : COut D W0 B p2 xs wr
  see : CIn (mask p wL) (mask p2 wr)
  set : SetB wr M n g
  off : p2 M = false
  geM : W0.heap.size ≤ M
section
variable {α : Type} {D : El Tryd.prog α} {W0 wL wr w' wq w2 w3 : World} {B M n n' : Nat} {p p2 : Nat → Bool} {xs ys : List α} {g g' : ByteArray → Bool}
theorem COut.grow (h : COut D W0 B p xs wr) (he : Ext wr w') : COut D W0 B p xs w' := by
  obtain ⟨v, h1, h2, h3⟩ := h.out
  exact ⟨h.ext.trans he, h.ge, h.dark, fun j hj => Nat.lt_of_lt_of_le (h.lt j hj) he.size, v, (he.block (block_lt h1)).trans h1, h2.ext he, h3⟩
theorem NInv.grow (h : NInv D W0 wL B M p p2 xs n g wr) (he : Ext wr w') : NInv D W0 wL B M p p2 xs n g w' := ⟨h.out.grow he, h.see.trans (CIn.ext he), h.set.ext he, h.off, h.geM⟩
theorem NInv.app {v v' : Value} (h : NInv D W0 wL B M p p2 xs n g wr) (he : Ext wr wq) (hown : Own D (B + 1) wr v xs) (hpo : ∀ g, v.ownBlock = some g → p2 g = true ∧ g ≠ B) (hg2 : wq.grownBy w2 v.ownBlock) (hloc : v'.ownBlock = v.ownBlock ∨ v'.ownBlock = some wq.heap.size)
    (hown2 : Own D (B + 1) w2 v' ys) (hw3 : ∀ k, k ≠ B → w3.heap[k]? = w2.heap[k]?) (hos : w3.os = w2.os) (htp : w3.tape = w2.tape) (hou : w3.output = w2.output) (hs : w3.heap.size = w2.heap.size) (hbk : w3.heap[B]? = some (.cells #[v'] D.t (0, 0))) :
    ∃ p', NInv D W0 wL B M p p' ys n g w3 := by
  have hM := h.set.lt
  have hsz := he.size
  have hoM : v.ownBlock ≠ some M := fun e => by have := (hpo M e).1; rw [h.off] at this; cases this
  have hBM : M ≠ B := fun e => by have := h.out.dark; rw [← e, h.off] at this; cases this
  obtain ⟨a2, a3, a4, a6, a7⟩ := Own.stepE (B := W0.heap.size) he hown h.out.dark h.out.lt hpo hg2 hloc hown2 hw3 hos htp hou hs h.out.ge (by have := h.out.ge; omega) h.out.ext.size
  refine ⟨_, ⟨h.out.ext.trans' a7, h.out.ge, by simp [h.out.dark], a2, v', hbk, a6, a3⟩, h.see.trans a4, h.set.keep ((hw3 M hBM).trans ((hg2.block M (by omega) (fun e => hoM e.symm)).trans (he.block hM))), ?_, h.geM⟩
  rw [h.off, Bool.false_or]
  refine decide_eq_false fun e => ?_
  rcases hloc with h1 | h1
  · rw [h1] at e; exact hoM e
  · rw [h1] at e
    cases e
    omega
theorem NInv.upd (h : NInv D W0 wL B M p p2 xs n g wr) (hset : SetB w' M n' g') (hg : wr.grownBy w' (some M)) : NInv D W0 wL B M p p2 xs n' g' w' := by
  have hM := h.set.lt
  have hBM : B ≠ M := fun e => by have := h.out.dark; rw [e, h.off] at this; cases this
  obtain ⟨v, h1, h2, h3⟩ := h.out.out
  refine ⟨⟨⟨hg.os.trans h.out.ext.os, hg.tape.trans h.out.ext.tape, hg.output.trans h.out.ext.output, Nat.le_trans h.out.ext.size hg.size, fun k hk => ?_⟩, h.out.ge, h.out.dark, fun j hj => Nat.lt_of_lt_of_le (h.out.lt j hj) hg.size, v, (hg.block B (block_lt h1) (by simpa using hBM)).trans h1, h2.keep fun k hk => ?_, h3⟩, h.see.trans ⟨by rw [mask_size, mask_size]; exact hg.size, fun q c hc => ?_⟩, hset, h.off, h.geM⟩
  · have := h.geM
    exact (hg.block k (Nat.lt_of_lt_of_le hk h.out.ext.size) (by simp; omega)).trans (h.out.ext.block hk)
  · refine hg.block k (h2.lt k hk).2 ?_
    intro e
    cases e
    have := (h3 _ hk).1
    rw [h.off] at this
    cases this
  · obtain ⟨c1, c2⟩ := mask_cell hc
    refine mask_cell_of c1 ?_
    have hqM : q.block ≠ M := by
      intro e
      obtain ⟨D', ⟨es, clock, hb, _⟩, _⟩ := h.set
      unfold World.cell? at c2
      rw [e, hb] at c2
      cases c2
    rw [← c2]
    exact World.cell?_of_block (hg.block _ (World.block_lt_of_cell? wr q c2) (by simpa using hqM))
theorem NInv.mono (h : NInv D W0 wL B M p p2 xs n g wr) (hm : n ≤ n') : NInv D W0 wL B M p p2 xs n' g wr := ⟨h.out, h.see, h.set.mono hm, h.off, h.geM⟩
end

theorem notesG_drop {ks : List (Int × ByteArray)} {ids : List GId} {L : List ByteArray} {k : Nat} (h : k < L.length) : notesG ks ids (L.take k) (L.drop k) =
    (if L[k] ∉ L.take k ∧ 0 ≤ noteI ks L[k] then (ids[(noteI ks L[k]).toNat]?).toList else []) ++ notesG ks ids (L.take (k + 1)) (L.drop (k + 1)) := by
  rw [List.drop_eq_getElem_cons h, notesG, List.take_succ_eq_append_getElem h]
theorem notesG_len (ks : List (Int × ByteArray)) (ids : List GId) : ∀ (l seen : List ByteArray), (notesG ks ids seen l).length ≤ l.length
  | [], _ => by simp [notesG]
  | x :: r, seen => by
    have h1 := notesG_len ks ids r (seen ++ [x])
    rw [notesG, List.length_append, List.length_cons]
    split
    · cases ids[(noteI ks x).toNat]? <;> simp <;> omega
    · simp; omega
theorem notesOwn_len {u : GUnit} (h : shortU u) : (notesOwn u).length ≤ 1310 := by
  have h1 := notesG_len u.keys (u.kids.map GUnit.id) u.anchs []
  have h2 := anchL_len u.words
  have h3 := h.2.1
  unfold notesOwn
  have h4 : u.anchs = anchL u.words := rfl
  rw [h4] at h1 ⊢
  omega

theorem ancT_size (s : ByteArray) : (ancT s).size ≤ s.size := by
  have h4 : s.data.toList.length = s.size := Array.length_toList
  unfold ancT
  split
  · rw [bstrF_size, List.length_drop]; omega
  · exact Nat.zero_le _
theorem anchL_size {l : List GWord} (h : shortW l) : ∀ s ∈ anchL l, s.size ≤ 100 := by
  induction l with
  | nil => intro s hs; cases hs
  | cons y r ih =>
    intro s hs
    rw [anchL] at hs
    have h2 : shortW r := fun z hz => h z (by simp [hz])
    split at hs
    · rcases List.mem_cons.1 hs with rfl | hs
      · exact Nat.le_trans (ancT_size _) (h y (by simp))
      · exact ih h2 s hs
    · exact ih h2 s hs
set_option maxRecDepth 100000 in
set_option maxHeartbeats 3200000 in
theorem visitNotes (W0 : World) (B : Nat) (all : List GUnit) (hall : all.length ≤ 1000) (hsh : ∀ x ∈ all, shortU x) (p : Nat → Bool) (acc : List GUnit) (x : GUnit) (rx : RUnit) (w : World) (hin : ∃ rest, all = acc ++ x :: rest) (hr : Reads W0 x rx) (hI : CInv idEl W0 B notesOwn p acc w) :
    Calls Tryd.prog 43 #[.agg rx.cells.toArray, .pointer (some ⟨B, 0, none⟩)] w fun e w' => e = .returned (.tuple #[]) ∧ ∃ p', CInv idEl W0 B notesOwn p' (acc ++ [x]) w' ∧ CIn (mask p w) (mask p' w') := by
  obtain ⟨rest, hrest⟩ := hin
  have hsx := hsh x (by rw [hrest]; simp)
  have hla : (acc.flatMap notesOwn).length ≤ 1310 * acc.length := flatMap_len fun y hy => notesOwn_len (hsh y (by rw [hrest]; simp [hy]))
  have hal : acc.length ≤ 1000 := by rw [hrest] at hall; simp at hall; omega
  have hx0 : Ext w ((w.alloc (.cells rx.cells.toArray 27)).alloc (.map #[] 0)) := ((Ext.refl w).alloc _).alloc _
  have hsz1 : (w.alloc (.cells rx.cells.toArray 27)).heap.size = w.heap.size + 1 := by simp
  have hset0 : SetB ((w.alloc (.cells rx.cells.toArray 27)).alloc (.map #[] 0)) (w.heap.size + 1) 0 (fun _ => false) := by
    have := SetB.made (w.alloc (.cells rx.cells.toArray 27))
    rwa [hsz1] at this
  have hsz2 : ((w.alloc (.cells rx.cells.toArray 27)).alloc (.map #[] 0)).heap.size = w.heap.size + 2 := by simp
  have hbx := fun w' (he : Ext ((w.alloc (.cells rx.cells.toArray 27)).alloc (.map #[] 0)) w') => boxUnit (w' := w') rx (w := w) (((Ext.refl _).alloc _).trans he)
  have hpn : ∀ j, w.heap.size ≤ j → p j = false := fun j hj => by
    cases h : p j with
    | false => rfl
    | true => have := hI.lt j h; omega
  have hanc := fun w' (he : Ext W0 w') => anchors_any x rx w' (Reads.ext he _ _ hr) hsx.1 (by have := hsx.2.1; omega)
  have hnd := fun s w' (he : Ext W0 w') => noted_any x rx s w' (Reads.ext he _ _ hr) (by have := hsx.2.2.1; omega)
  have hal2 := anchL_len x.words
  have hwl := hsx.2.1
  have hax : x.anchs = anchL x.words := rfl
  rw [← hax] at hal2
  have hlsz : ∀ s ∈ x.anchs, s.size ≤ 100 := anchL_size hsx.1
  have hNO : notesOwn x = [] ++ notesG x.keys (x.kids.map GUnit.id) (x.anchs.take 0) (x.anchs.drop 0) := rfl
  obtain ⟨NO, hNO2⟩ : ∃ NO, notesOwn x = NO := ⟨_, rfl⟩
  obtain ⟨ks, hks⟩ : ∃ ks, x.keys = ks := ⟨_, rfl⟩
  obtain ⟨ids, hids⟩ : ∃ ids, x.kids.map GUnit.id = ids := ⟨_, rfl⟩
  obtain ⟨L, hL⟩ : ∃ L, x.anchs = L := ⟨_, rfl⟩
  rw [hL] at hanc hal2 hlsz hNO
  rw [hks, hids, hNO2] at hNO
  obtain ⟨Z, hZ⟩ : ∃ Z, acc.flatMap notesOwn = Z := ⟨_, rfl⟩
  rw [hZ] at hla
  have hOut : COut idEl W0 B p Z w := ⟨hI.ext, hI.ge, hI.dark, hI.lt, by rw [← hZ]; exact hI.out⟩
  have hfin : ∀ p' w', COut idEl W0 B p' (Z ++ NO) w' → CInv idEl W0 B notesOwn p' (acc ++ [x]) w' := fun p' w' h => ⟨h.ext, h.ge, h.dark, h.lt, by rw [List.flatMap_append, List.flatMap_singleton, hZ, hNO2]; exact h.out⟩
  have Hnd : Hid (∀ (s : ByteArray) (w' : World), Ext W0 w' → Calls Tryd.prog 44 #[.agg rx.cells.toArray, .string s] w' fun e w'' =>
      ∃ q : RUnit, e = .returned (.tuple #[.agg #[.int .i64 q.a, .int .i64 q.i, .int .i64 q.n, .int .i64 q.kind, .string q.label, .slice q.hA q.hn q.hc, .slice q.wA q.wn q.wc, .slice q.kA q.kn q.kc], .bool (decide (0 ≤ noteI ks s))]) ∧ Ext w' w'' ∧ (0 ≤ noteI ks s → ids[(noteI ks s).toNat]? = some ⟨q.a, q.i, q.n⟩)) :=
    Lib.hid fun s w' he => (hnd s w' he).mono fun e w'' ⟨q, h1, h2, h3⟩ => ⟨q, by rw [h1, hks]; rfl, h2, by rw [hks, hids] at h3; exact h3⟩
  obtain ⟨ra, ri, rn, rk, rl, hdA, hn, hc, wA, wn, wc, kA, kn, kc⟩ := rx
  simp only [RUnit.cells] at hx0 hset0 hbx hsz2 hanc Hnd ⊢
  have hmm := @run_makeMap Tryd.prog
  obtain ⟨wz, hwz⟩ : ∃ wz, (w.alloc (.cells #[.int .i64 ra, .int .i64 ri, .int .i64 rn, .int .i64 rk, .string rl, .slice hdA hn hc, .slice wA wn wc, .slice kA kn kc] 27)).alloc (.map #[] 0) = wz := ⟨_, rfl⟩
  rw [hwz] at hx0 hset0 hbx hsz2
  have Hwz := Lib.hid hwz
  have Hanc := Lib.hid (hanc wz (hI.ext.trans hx0))
  have Hbx := Lib.hid hbx
  have Hset0 := Lib.hid hset0
  have HNO := Lib.hid hNO
  have Hout := Lib.hid hOut
  have Hfin := Lib.hid hfin
  have Hpn := Lib.hid hpn
  have Hlsz := Lib.hid hlsz
  have Hx0 := Lib.hid hx0
  have Hsz2 := Lib.hid hsz2
  have Hg0 := Lib.hid hOut.ext
  obtain ⟨-, z0, z1, z2, z3, z4, z5, z6, z7⟩ := hbx wz (Ext.refl _)
  clear hwz hx0 hset0 hbx hsz2 hanc hnd hNO hNO2 hks hids hL hax hZ hOut hfin hpn hlsz hsz1 hr hI hsx hsh hrest
  go_enter Tryd.func43, Tryd.ntmps43
  go_wp2_with fail
  rw [Hwz.out]
  refine (Hanc.out).mono ?_
  rintro e wL ⟨vL, rfl, hoL, hxL⟩
  obtain ⟨AL, cL, rfl, hcL, -, hsL⟩ := hoL.formMask (p := p) (fun k hk _ => Hpn.out k (by have := Hsz2.out; omega))
  have hN0 : NInv idEl W0 wL B (w.heap.size + 1) p p Z 0 (fun _ => false) wL := ⟨Hout.out.grow (Hx0.out.trans hxL), CIn.refl _, Hset0.out.ext hxL, Hpn.out _ (by omega), by have := Hg0.out.size; omega⟩
  have HsL := Lib.hid hsL
  have Hbc := Lib.hid (show ∀ w', CIn (mask p wL) w' → (w'.cell? ⟨w.heap.size, 0, none⟩ = some (.int .i64 ra) ∧ w'.cell? ⟨w.heap.size, 1, none⟩ = some (.int .i64 ri) ∧ w'.cell? ⟨w.heap.size, 2, none⟩ = some (.int .i64 rn) ∧ w'.cell? ⟨w.heap.size, 3, none⟩ = some (.int .i64 rk) ∧
      w'.cell? ⟨w.heap.size, 4, none⟩ = some (.string rl) ∧ w'.cell? ⟨w.heap.size, 5, none⟩ = some (.slice hdA hn hc) ∧ w'.cell? ⟨w.heap.size, 6, none⟩ = some (.slice wA wn wc) ∧ w'.cell? ⟨w.heap.size, 7, none⟩ = some (.slice kA kn kc)) from fun w' hcn => by
    obtain ⟨-, y0, y1, y2, y3, y4, y5, y6, y7⟩ := Hbx.out wL hxL
    have hp0 := Hpn.out w.heap.size (Nat.le_refl _)
    exact ⟨hcn.cell _ _ (mask_cell_of hp0 y0), hcn.cell _ _ (mask_cell_of hp0 y1), hcn.cell _ _ (mask_cell_of hp0 y2), hcn.cell _ _ (mask_cell_of hp0 y3), hcn.cell _ _ (mask_cell_of hp0 y4), hcn.cell _ _ (mask_cell_of hp0 y5), hcn.cell _ _ (mask_cell_of hp0 y6), hcn.cell _ _ (mask_cell_of hp0 y7)⟩)
  have HxL := Lib.hid hxL
  clear hoL hcL hsL hxL z0 z1 z2 z3 z4 z5 z6 z7
  go_wp2
  go_loopw [12] (fun vk wr => ∃ (k : Nat) (p2 : Nat → Bool) (done : List GId) (g : ByteArray → Bool), k ≤ L.length ∧ vk = .int .i64 (k : Nat) ∧ Hid (NO = done ++ notesG ks ids (L.take k) (L.drop k)) ∧ done.length ≤ k ∧ Hid (∀ s, g s = decide (s ∈ L.take k)) ∧
    NInv idEl W0 wL B (w.heap.size + 1) p p2 (Z ++ done) k g wr) (fun vk _ => L.length - (intOf vk).toNat)
  case atStart => exact ⟨0, p, [], fun _ => false, Nat.zero_le _, rfl, HNO, Nat.le_refl _, Lib.hid (fun s => by simp), by rw [List.append_nil]; exact hN0⟩
  case round =>
    clear hN0
    obtain ⟨k, p2, done, g, hk, rfl, Hk, hdl, Hg, hN⟩ := hrel
    by_cases hlt : k < L.length
    · obtain ⟨bS, oS, rfl, hbS, hcS⟩ := strAt ((HsL.out.cin hN.see).cin (CIn.unmask p2 wr)) hlt
      have hkd := notesG_drop (ks := ks) (ids := ids) hlt
      have hls := Hlsz.out L[k] (List.getElem_mem hlt)
      have htk : L.take (k + 1) = L.take k ++ [L[k]] := List.take_succ_eq_append_getElem hlt
      obtain ⟨s, hs⟩ : ∃ s, L[k] = s := ⟨_, rfl⟩
      rw [hs] at hcS hkd hls htk
      have hsm : s.size ≤ maxLen := by unfold maxLen; omega
      have Hkd := Lib.hid (Hk.out.trans (by rw [hkd]))
      have Hg5 : Hid (∀ t, (fun t => if t = s then true else g t) t = decide (t ∈ L.take (k + 1))) := Lib.hid fun t => by
        rw [htk]
        simp only [List.mem_append, List.mem_singleton]
        by_cases e : t = s
        · simp [e]
        · rw [if_neg e, Hg.out t]; simp [e]
      obtain ⟨b0, b1, b2, b3, b4, b5, b6, b7⟩ := Hbc.out wr (hN.see.trans (CIn.unmask p2 wr))
      have Hnd2 := Lib.hid (fun w' he => Hnd.out s w' he)
      have hgs := Hg.out s
      obtain ⟨N, hNN⟩ : ∃ N, noteI ks s = N := ⟨_, rfl⟩
      rw [hNN] at Hnd2
      have HNN := Lib.hid hNN
      have d1 : decide ((k : Int) < (L.length : Int)) = true := decide_eq_true (by omega)
      clear hs hkd hls htk hNN
      by_cases h0 : 0 ≤ N
      · have e1 : decide (0 ≤ N) = true := decide_eq_true h0
        rw [e1] at Hnd2
        by_cases hm : s ∈ L.take k
        · rw [decide_eq_true hm] at hgs
          have HK2 := Lib.hid (show NO = done ++ notesG ks ids (L.take (k + 1)) (L.drop (k + 1)) by rw [Hkd.out, if_neg (fun h => h.1 hm)]; simp)
          go_wp2_with fail
          refine (Hnd2.out _ hN.out.ext).mono ?_
          rintro e w3 ⟨q, rfl, hx3, hq3⟩
          have hI3 := hN.grow (hx3.alloc (.cells #[.int .i64 q.a, .int .i64 q.i, .int .i64 q.n, .int .i64 q.kind, .string q.label, .slice q.hA q.hn q.hc, .slice q.wA q.wn q.wc, .slice q.kA q.kn q.kc] 27))
          have hrun := hI3.set.look hsm
          rw [hgs] at hrun
          go_wp2_with (at_mapUpdate; refine wpList_putSet rfl _ _ _ rfl hI3.set (by unfold maxLen; omega) rfl s true rfl rfl hsm ?_; intro w6 hset6 hg6; have hI6 := Lib.hid (hI3.upd hset6 hg6); clear hset6 hg6)
          go_roundw
          case rel => exact ⟨k + 1, p2, done, _, by omega, by go_num, HK2, by omega, Hg5, hI6.out⟩
          case measure => simp [intOf]; omega
        · rw [decide_eq_false hm] at hgs
          go_wp2_with fail
          refine (Hnd2.out _ hN.out.ext).mono ?_
          rintro e w3 ⟨q, rfl, hx3, hq3⟩
          have hI3 := hN.grow (hx3.alloc (.cells #[.int .i64 q.a, .int .i64 q.i, .int .i64 q.n, .int .i64 q.kind, .string q.label, .slice q.hA q.hn q.hc, .slice q.wA q.wn q.wc, .slice q.kA q.kn q.kc] 27))
          have hrun := hI3.set.look hsm
          rw [hgs] at hrun
          have hqq := hq3 h0
          have HK2 := Lib.hid (show NO = (done ++ [⟨q.a, q.i, q.n⟩]) ++ notesG ks ids (L.take (k + 1)) (L.drop (k + 1)) by rw [Hkd.out, if_pos ⟨hm, by rw [HNN.out]; exact h0⟩, HNN.out, hqq]; simp)
          obtain ⟨vO, hO1, hO2, hO3⟩ := hI3.out.out
          have hcB : (w3.alloc (.cells #[.int .i64 q.a, .int .i64 q.i, .int .i64 q.n, .int .i64 q.kind, .string q.label, .slice q.hA q.hn q.hc, .slice q.wA q.wn q.wc, .slice q.kA q.kn q.kc] 27)).cell? ⟨B, 0, none⟩ = some vO := by simp [World.cell?, hO1]
          have HO3 := Lib.hid hO3
          have hBlt := block_lt hO1
          obtain ⟨Zd, hZd⟩ : ∃ Zd, Z ++ done = Zd := ⟨_, rfl⟩
          have hZdl : Zd.length ≤ 1400000 := by rw [← hZd, List.length_append]; omega
          rw [hZd] at hO2
          have HZd := Lib.hid hZd
          clear hqq hq3 hO3 hZd
          go_wp2_with (first | (at_builtin; refine wpList_appAt idEl rfl (.tmp 29) (.tmp 32) rfl 1 rfl (hO2.ext ((Ext.refl _).alloc _)) (ys := [⟨q.a, q.i, q.n⟩]) rfl (Sl.new' idEl (by simp) rfl) (by simp; omega) (by simp at hBlt ⊢; omega) ?_; intro v4 w4 hown4 hg4 hloc4; have hblk4 := (hg4.block B (by simp at hBlt ⊢; omega) (fun h => (HO3.out _ h.symm).2 rfl)).trans ((((Ext.refl _).alloc _).block hBlt).trans hO1); obtain ⟨Z2, hZ2⟩ : ∃ Z2, Zd ++ [⟨q.a, q.i, q.n⟩] = Z2 := ⟨_, rfl⟩; rw [hZ2] at hown4; have HZ2 := Lib.hid hZ2; clear hZ2; obtain ⟨A4, c4, hv4, -, -⟩ := hown4.form; subst hv4) |
            (refine wpList_put rfl 41 (.tmp 1) (.tmp 33) rfl B 0 (.slice A4 Z2.length c4) rfl rfl [.slice A4 Z2.length c4] rfl Tryd.sizeOf41 (by simp [Value.oneCell']) 41 _ hblk4 (by simp) ?_; intro w5 hw5 hos5 htp5 hou5 hs5 hbk5; obtain ⟨p5, hI5⟩ := hI3.app ((Ext.refl _).alloc _) (by rw [HZd.out]; exact hO2) HO3.out hg4 hloc4 hown4 hw5 hos5 htp5 hou5 hs5 (by rw [hbk5]; simp [idEl]); clear hw5 hos5 htp5 hou5 hs5 hbk5) |
            (at_mapUpdate; refine wpList_putSet rfl _ _ _ rfl hI5.set (by unfold maxLen; omega) rfl s true rfl rfl hsm ?_; intro w6 hset6 hg6; have hI6 := Lib.hid (hI5.upd hset6 hg6); clear hset6 hg6))
          go_roundw
          case rel => exact ⟨k + 1, p5, done ++ [⟨q.a, q.i, q.n⟩], _, by omega, by go_num, HK2, by simp; omega, Hg5, by rw [← List.append_assoc, HZd.out, HZ2.out]; exact hI6.out⟩
          case measure => simp [intOf]; omega
      · have e1 : decide (0 ≤ N) = false := decide_eq_false h0
        rw [e1] at Hnd2
        have HK2 := Lib.hid (show NO = done ++ notesG ks ids (L.take (k + 1)) (L.drop (k + 1)) by rw [Hkd.out, if_neg (fun h => h0 (by rw [← HNN.out]; exact h.2))]; simp)
        go_wp2_with fail
        refine (Hnd2.out _ hN.out.ext).mono ?_
        rintro e w3 ⟨q, rfl, hx3, hq3⟩
        have hI3 := hN.grow (hx3.alloc (.cells #[.int .i64 q.a, .int .i64 q.i, .int .i64 q.n, .int .i64 q.kind, .string q.label, .slice q.hA q.hn q.hc, .slice q.wA q.wn q.wc, .slice q.kA q.kn q.kc] 27))
        have hrun := hI3.set.look hsm
        clear hq3
        go_wp2_with (at_mapUpdate; refine wpList_putSet rfl _ _ _ rfl hI3.set (by unfold maxLen; omega) rfl s true rfl rfl hsm ?_; intro w6 hset6 hg6; have hI6 := Lib.hid (hI3.upd hset6 hg6); clear hset6 hg6)
        go_roundw
        case rel => exact ⟨k + 1, p2, done, _, by omega, by go_num, HK2, by omega, Hg5, hI6.out⟩
        case measure => simp [intOf]; omega
    · have hkr : k = L.length := by omega
      have hk2 := Hk.out
      rw [List.drop_of_length_le (by omega), notesG, List.append_nil] at hk2
      have HK2 := Lib.hid hk2
      have d1 : decide ((k : Int) < (L.length : Int)) = false := decide_eq_false (by omega)
      clear hk2 hkr
      go_wp2
      (try simp only [Exit.inBlock, Exit.then])
      refine bodyPost_end (results_none rfl _ _ _) rfl ?_
      exact ⟨rfl, p2, Hfin.out p2 wr (by rw [HK2.out]; exact hN.out), (CIn.ext (Hx0.out.trans HxL.out)).trans hN.see⟩

end Go.Proofs.YtiacmahfjcolaaaDoor
