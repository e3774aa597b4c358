/- number: the renumbered tree of a tree without findings: the walk. -/
import Derived.Test.YtiacmahfjcolaaaDoorNumK10
import Derived.Test.YtiacmahfjcolaaaDoorEngV
namespace Go.Proofs.YtiacmahfjcolaaaDoor
open Go.RowKit Go.Maps

/-- a store into a block from base on -/
theorem below_put {base g : Nat} {w w' : World} (hg : base ≤ g) (hw : ∀ k, k ≠ g → w'.heap[k]? = w.heap[k]?) (hos : w'.os = w.os) (htp : w'.tape = w.tape) (hou : w'.output = w.output) (hs : w'.heap.size = w.heap.size) : Below base w w' :=
  ⟨hos, htp, hou, by rw [hs]; exact Nat.le_refl _, fun k hk => hw k (by omega)⟩
/-- where number stands: its box, its result's cell, its map -/
structure NState (w : World) (r : RUnit) (n : Nat) (f : ByteArray → ByteArray) (wr : World) : Prop where
  ext : Ext w wr
  b1 : wr.heap[w.heap.size]? = some (.cells r.cells.toArray 27 (0, 0))
  b2 : wr.heap[w.heap.size + 1]? = some (.cells unit0.cells.toArray 27 (0, 0))
  tab : TabS wr (w.heap.size + 2) n f
section
variable {w wr wq w' : World} {r r' : RUnit} {n n' : Nat} {f f' : ByteArray → ByteArray}
theorem NState.size (h : NState w r n f wr) : w.heap.size + 3 ≤ wr.heap.size := by have := h.tab.lt; omega
theorem NState.low (h : NState w r n f wr) (hb : Below (w.heap.size + 3) wr w') : NState w r n f w' :=
  ⟨h.ext.trans' hb, (hb.block _ (by omega)).trans h.b1, (hb.block _ (by omega)).trans h.b2, h.tab.keep (hb.block _ (by omega))⟩
theorem NState.grow (h : NState w r n f wr) (he : Ext wr w') : NState w r n f w' := h.low (Below.mono he h.size)
theorem NState.upd (h : NState w r n f wr) (ht : TabS w' (w.heap.size + 2) n' f') (hg : wr.grownBy w' (some (w.heap.size + 2))) : NState w r n' f' w' := by
  have h1 := h.size
  refine ⟨⟨hg.os.trans h.ext.os, hg.tape.trans h.ext.tape, hg.output.trans h.ext.output, Nat.le_trans h.ext.size hg.size, fun k hk => ?_⟩, (hg.block _ (by omega) (by simp)).trans h.b1, (hg.block _ (by omega) (by simp)).trans h.b2, ht⟩
  exact (hg.block k (by omega) (by simp; omega)).trans (h.ext.block hk)
theorem NState.put1 (h : NState w r n f wr) (hw : ∀ k, k ≠ w.heap.size → w'.heap[k]? = wr.heap[k]?) (hos : w'.os = wr.os) (htp : w'.tape = wr.tape) (hou : w'.output = wr.output) (hs : w'.heap.size = wr.heap.size) (hb : w'.heap[w.heap.size]? = some (.cells r'.cells.toArray 27 (0, 0))) : NState w r' n f w' :=
  ⟨h.ext.put (Nat.le_refl _) hw hos htp hou hs, hb, (hw _ (by omega)).trans h.b2, h.tab.keep (hw _ (by omega))⟩
theorem NState.mono (h : NState w r n f wr) (hm : n ≤ n') : NState w r n' f wr := by
  obtain ⟨D, h1, h2⟩ := h.tab
  exact ⟨h.ext, h.b1, h.b2, D, h1.mono hm, h2⟩
end
theorem ancT_mem {l : List GWord} {k : Nat} (hk : k < l.length) (hb : ancB l[k].t = true) : ancT l[k].t ∈ anchL l := by
  have : ∀ (l : List GWord) (x : GWord), x ∈ l → ancB x.t = true → ancT x.t ∈ anchL l := by
    intro l
    induction l with
    | nil => intro x hx; cases hx
    | cons y r ih =>
      intro x hx hb
      rw [anchL]
      rcases List.mem_cons.1 hx with rfl | hx
      · rw [if_pos hb]; simp
      · split
        · exact List.mem_cons_of_mem _ (ih x hx hb)
        · exact ih x hx hb
  exact this l _ (List.getElem_mem hk) hb

theorem ren_len {L : List ByteArray} {wd : List GWord} {k : Nat} (h : k ≤ wd.length) : ((wd.take k).map (renW L) ++ wd.drop k).length = wd.length := by simp; omega
theorem ren_get {L : List ByteArray} {wd : List GWord} {k : Nat} (h : k < wd.length) (h2 : k < ((wd.take k).map (renW L) ++ wd.drop k).length) : ((wd.take k).map (renW L) ++ wd.drop k)[k] = wd[k] := by
  have hl : ((wd.take k).map (renW L)).length = k := by simp; omega
  rw [List.getElem_append_right (by omega)]
  simp only [hl, Nat.sub_self, List.getElem_drop, Nat.add_zero]
theorem ren_step {L : List ByteArray} {wd : List GWord} {k : Nat} (h : k < wd.length) : ((wd.take k).map (renW L) ++ wd.drop k).set k (renW L wd[k]) = (wd.take (k + 1)).map (renW L) ++ wd.drop (k + 1) := by
  have hl : ((wd.take k).map (renW L)).length = k := by simp; omega
  rw [List.set_append_right _ _ (by omega), hl, Nat.sub_self, List.drop_eq_getElem_cons h, List.set_cons_zero, List.take_succ_eq_append_getElem h, List.map_append]
  simp
theorem ren_keep {L : List ByteArray} {wd : List GWord} {k : Nat} (h : k < wd.length) (he : renW L wd[k] = wd[k]) : (wd.take k).map (renW L) ++ wd.drop k = (wd.take (k + 1)).map (renW L) ++ wd.drop (k + 1) := by
  rw [← ren_step h, he, ← ren_get (L := L) h (by rw [ren_len (by omega)]; exact h), List.set_getElem_self]
/-- a word's text is set in the call's own row -/
theorem patchW {base : Nat} {w : World} {b off c n k : Nat} {xs : List GWord} {x : GWord} (hown : Own wordEl base w (.slice (some ⟨b, off, none⟩) n c) xs) (hn : xs.length = n) (hk : k < xs.length) (hx : xs[k] = x) (s : ByteArray) :
    off = 0 ∧ ∃ cur : Array Value, w.heap[b]? = some (.cells cur 52 (0, 0)) ∧ off + k * 4 + 1 ≤ cur.size ∧
      ∀ w' : World, w'.heap[b]? = some (.cells (cur.toList.take (off + k * 4) ++ [Value.string s] ++ cur.toList.drop (off + k * 4 + 1)).toArray 52 (0, 0)) → Own wordEl base w' (.slice (some ⟨b, off, none⟩) n c) (xs.set k ⟨s, x.a, x.i, x.k⟩) := by
  subst hn hx
  obtain ⟨g, c', hv, -, -, -⟩ := hown.head (by intro e; subst e; simp at hk)
  obtain ⟨rfl, rfl⟩ : b = g ∧ off = 0 := by injection hv with e1 e2 e3; injection e1 with e1; injection e1 with e4 e5; exact ⟨e4, e5⟩
  refine ⟨rfl, ?_⟩
  obtain ⟨cur, h1, h2, h3⟩ := hown.patch (f := 0) (vs := [Value.string s]) (r' := ⟨s, xs[k].a, xs[k].i, xs[k].k⟩) hk rfl (by simp [wordEl])
  refine ⟨cur, h1, by simp only [wordEl, List.length_singleton] at h2; omega, fun w' hw => h3 w' ?_⟩
  rw [Nat.zero_add] at hw
  exact hw
/-- one more element on the call's own row, which no cell holds yet -/
theorem Own.stepN {P : Program} {α : Type} {D : El P α} {base B : Nat} {wr wq w2 : World} {v v' : Value} {xs ys : List α} {p : Nat → Bool} (he : Ext wr wq) (hown : Own D base wr v xs) (hp3 : ∀ j, p j = true → j < wr.heap.size)
    (hpo : ∀ g, v.ownBlock = some g → p g = true) (hg2 : wq.grownBy w2 v.ownBlock) (hloc : v'.ownBlock = v.ownBlock ∨ v'.ownBlock = some wq.heap.size) (hown2 : Own D base w2 v' ys) (hB2 : B ≤ base) (hB3 : B ≤ wr.heap.size) :
    ∃ p' : Nat → Bool, (∀ j, p j = true → p' j = true) ∧ (∀ j, p' j = true → j < w2.heap.size) ∧ (∀ g, v'.ownBlock = some g → p' g = true) ∧ CIn (mask p wr) (mask p' w2) ∧ CIn (mask (fresh wr.heap.size) wq) (mask p' w2) ∧ Below B wr w2 := by
  have hsz := he.size
  have hsz2 := hg2.size
  have hnot : ∀ k, k ≠ wq.heap.size → v.ownBlock ≠ some k → v'.ownBlock ≠ some k := by
    intro k h1 h2 h3
    rcases hloc with h | h
    · rw [h] at h3; exact h2 h3
    · rw [h] at h3
      cases h3
      exact h1 rfl
  refine ⟨fun j => p j || decide (v'.ownBlock = some j), fun j hj => by simp [hj], fun j hj => ?_, fun g hg => by simp [hg], ?_, ?_, ?_⟩
  · simp only [Bool.or_eq_true, decide_eq_true_eq] at hj
    rcases hj with h | h
    · have := hp3 j h; omega
    · exact (hown2.lt j h).2
  · refine CIn.keep (by omega) fun k hk hpk => ?_
    have h2 : v.ownBlock ≠ some k := fun h => by rw [hpo k h] at hpk; cases hpk
    refine ⟨(hg2.block k (by omega) (fun h => h2 h.symm)).trans (he.block hk), ?_⟩
    simp [hpk, hnot k (by omega) h2]
  · refine CIn.keep (by omega) fun k hk hpk => ?_
    simp only [fresh, decide_eq_false_iff_not, Nat.not_lt] at hpk
    have h2 : v.ownBlock ≠ some k := fun h => by have := (hown.lt k h).2; omega
    refine ⟨hg2.block k hk (fun h => h2 h.symm), ?_⟩
    have h3 : p k = false := by
      cases h : p k with
      | false => rfl
      | true => have := hp3 k h; omega
    simp [h3, hnot k (by omega) h2]
  · refine ⟨hg2.os.trans he.os, hg2.tape.trans he.tape, hg2.output.trans he.output, by omega, fun k hk => ?_⟩
    have h2 : v.ownBlock ≠ some k := fun h => by have := (hown.lt k h).1; omega
    exact (hg2.block k (by omega) (fun h => h2 h.symm)).trans (he.block (by omega))
/-- the parts of a tree's cells that its key needs -/
theorem reads_relab {w : World} {L : List ByteArray} {u : GUnit} {r : RUnit} (h : Reads w u r) : Reads w (relab L u) { r with label := if r.kind = 7 then labF L r.label else r.label } := by
  obtain ⟨a, i, n, k, l, hd, wd, kids⟩ := u
  rw [relab]
  rw [Reads] at h ⊢
  obtain ⟨⟨h1, h2, h3, h4, h5⟩, h6⟩ := h
  refine ⟨⟨h1, h2, h3, h4, ?_⟩, h6⟩
  simp only [← h4, ← h5]
theorem reads_kl {w : World} {u : GUnit} {r : RUnit} (h : Reads w u r) : r.kind = u.kind ∧ r.label = u.label := by
  obtain ⟨a, i, n, k, l, hd, wd, kids⟩ := u
  rw [Reads] at h
  exact ⟨h.1.2.2.2.1, h.1.2.2.2.2⟩
theorem numF_kl (u : GUnit) : (numF u).kind = u.kind ∧ (numF u).label = u.label := by
  cases u
  rw [numF]
  exact ⟨rfl, rfl⟩
/-- stores into a block that is dark leave the view as it was -/
theorem CIn.put {p : Nat → Bool} {b : Nat} {w w' : World} (hp : p b = true) (hw : ∀ k, k ≠ b → w'.heap[k]? = w.heap[k]?) (hs : w'.heap.size = w.heap.size) : CIn (mask p w) (mask p w') :=
  CIn.keep (by omega) fun k _ hpk => ⟨hw k (by rintro rfl; rw [hp] at hpk; cases hpk), hpk⟩

def RetNum (u' : GUnit) (w : World) (e : Ending) (w' : World) : Prop := ∃ r' : RUnit, e = .returned (.agg r'.cells.toArray) ∧ Ext w w' ∧ Reads (mask (fresh w.heap.size) w') u' r'
def NumberAt (N : Nat) : Prop := ∀ (u : GUnit) (r : RUnit) (w : World), SizeOf.sizeOf u ≤ N → Reads w u r → OkT u → checkF u = [] → Tab w →
    Calls Tryd.prog 46 #[.agg r.cells.toArray] w (RetNum (numF u) w)
set_option maxRecDepth 100000 in
set_option maxHeartbeats 6400000 in
theorem number_step (N : Nat) (ih : NumberAt N) : NumberAt (N + 1) := by
  intro u r w hN hr hok hck hT
  have hru := hr
  have hshu := hok.short
  have hkok := fun k h => hok.kid k h
  have hkck := fun k h => checkF_kid hck k h
  have hcl := clean_of (checkF_own hck)
  have hanc := fun w' (he : Ext w w') => anchors_any u r w' (Reads.ext he _ _ hru) hshu.1 (by have := hshu.2.1; omega)
  obtain ⟨a, i, n, kd, lb, hz, wd, kids⟩ := u
  rw [Reads] at hr
  have hlh := hok.hds
  rw [AllU] at hlh
  replace hlh := hlh.1
  simp only [GUnit.head] at hlh
  obtain ⟨⟨hra, hri, hrn, hrk, hrl0⟩, ⟨hhn, hhc, hhs⟩, ⟨hwn, hwc, hws⟩, hkn, hkc, rs, hrs, hall⟩ := hr
  have hrl := ReadsAll.length hall
  have hx0 : Ext w (((w.alloc (.cells r.cells.toArray 27)).alloc (.cells unit0.cells.toArray 27)).alloc (.map #[] 0)) := (((Ext.refl w).alloc _).alloc _).alloc _
  have hst0 : NState w r 0 (fun _ => ⟨#[]⟩) (((w.alloc (.cells r.cells.toArray 27)).alloc (.cells unit0.cells.toArray 27)).alloc (.map #[] 0)) := by
    have e1 : (w.alloc (.cells r.cells.toArray 27)).heap.size = w.heap.size + 1 := by simp
    have e2 : ((w.alloc (.cells r.cells.toArray 27)).alloc (.cells unit0.cells.toArray 27)).heap.size = w.heap.size + 2 := by simp
    refine ⟨hx0, ?_, ?_, ?_⟩
    · exact ((((Ext.refl (w.alloc (.cells r.cells.toArray 27))).alloc _).alloc _).block (by rw [e1]; omega)).trans (heap_alloc_new w _)
    · have h1 := heap_alloc_new (w.alloc (.cells r.cells.toArray 27)) (.cells unit0.cells.toArray 27)
      rw [e1] at h1
      exact (((Ext.refl ((w.alloc (.cells r.cells.toArray 27)).alloc (.cells unit0.cells.toArray 27))).alloc _).block (by rw [e2]; omega)).trans h1
    · have h1 := TabS.made ((w.alloc (.cells r.cells.toArray 27)).alloc (.cells unit0.cells.toArray 27))
      rwa [e2] at h1
  have hsz0 : (((w.alloc (.cells r.cells.toArray 27)).alloc (.cells unit0.cells.toArray 27)).alloc (.map #[] 0)).heap.size = w.heap.size + 3 := by simp
  obtain ⟨ra, ri, rn, rk, rl, hdA, hn, hc, wA, wn, wc, kA, kn, kc⟩ := r
  dsimp only at hra hri hrn hrk hrl0 hhn hhc hhs hwn hwc hws hkn hkc hrs hall
  obtain ⟨hsh, hlw, hlk, hlab⟩ := hshu
  simp only [GUnit.words, GUnit.kids] at hsh hlw hlk hlab hkok hkck
  subst hra hri hrn hrk hrl0 hhn hwn
  rw [← hrl] at hkn hlk
  subst hkn
  have hal2 := anchL_len wd
  have hasz := anchL_size hsh
  have hancs : (GUnit.mk ra ri rn rk rl hz wd kids).anchs = anchL wd := rfl
  rw [hancs] at hanc
  have hnd := hcl.nodup
  have hkid := hcl.kid
  rw [hancs] at hnd hkid
  simp only [GUnit.kids] at hkid
  obtain ⟨L, hL⟩ : ∃ L, anchL wd = L := ⟨_, rfl⟩
  rw [hL] at hanc hal2 hasz hnd hkid
  obtain ⟨R, hR⟩ : ∃ R, numF (.mk ra ri rn rk rl hz wd kids) = R := ⟨_, rfl⟩
  have HR := Lib.hid (show R = .mk ra ri rn rk rl hz (wd.map (renW L)) (numL L kids) by rw [← hR, numF, hL])
  rw [hR]
  simp only [RUnit.cells, unit0] at hx0 hsz0 hanc ⊢
  obtain ⟨wz, hwz⟩ : ∃ wz, ((w.alloc (.cells #[.int .i64 ra, .int .i64 ri, .int .i64 rn, .int .i64 rk, .string rl, .slice hdA hz.length hc, .slice wA wd.length wc, .slice kA rs.length kc] 27)).alloc (.cells #[.int .i64 0, .int .i64 0, .int .i64 0, .int .i64 0, .string ⟨#[]⟩, .slice none 0 0, .slice none 0 0, .slice none 0 0] 27)).alloc (.map #[] 0) = wz := ⟨_, rfl⟩
  have hst1 : NState w ⟨ra, ri, rn, rk, rl, hdA, hz.length, hc, wA, wd.length, wc, kA, rs.length, kc⟩ 0 (fun _ => ⟨#[]⟩) wz := by rw [← hwz]; exact hst0
  rw [hwz] at hx0 hsz0
  have Hwz := Lib.hid hwz
  have Hst1 := Lib.hid hst1
  have Hanc := Lib.hid (hanc wz hx0)
  have Hsh := Lib.hid hsh
  have Hlab := Lib.hid hlab
  have Hall := Lib.hid hall
  have Hl : Hid (kids.length = rs.length) := Lib.hid hrl.symm
  have Hkok := Lib.hid hkok
  have Hkck := Lib.hid hkck
  have Hkid := Lib.hid hkid
  have Hnd := Lib.hid hnd
  have HL := Lib.hid hL
  have Hasz := Lib.hid hasz
  have HT := Lib.hid hT
  have Hih := Lib.hid ih
  have Hsz0 := Lib.hid hsz0
  have Hsub := Lib.hid (show ∀ k, ∀ h : k < kids.length, SizeOf.sizeOf kids[k] ≤ N from fun k h => by
    have a1 := List.sizeOf_lt_of_mem (List.getElem_mem h)
    simp at hN
    omega)
  have hmm := @run_makeMap Tryd.prog
  obtain ⟨z0, z1, z2, z3, z4, z5, z6, z7⟩ := unitBlock hst1.b1
  dsimp only at z0 z1 z2 z3 z4 z5 z6 z7
  clear hst0 hst1 hwz hx0 hsz0 hanc hru hsh hlab hall hrl hkok hkck hkid hnd hL hasz hT ih hN hok hck hcl hancs hR hhc hwc hkc
  go_enter Tryd.func46, Tryd.ntmps46
  go_wp2_with fail
  rw [Hwz.out]
  refine (Hanc.out).mono ?_
  rintro e wA0 ⟨vL, rfl, hoL, hxL⟩
  have hN0 := Hst1.out.grow hxL
  have hoL3 := hoL.mono (show w.heap.size + 3 ≤ wz.heap.size by rw [Hsz0.out]; exact Nat.le_refl _)
  obtain ⟨AL, cL, rfl, hcL, -⟩ := hoL.form
  clear hoL hxL z0 z1 z2 z3 z4 z5 z6 z7
  go_wp2
  go_loopw [17] (fun vk wr => ∃ k : Nat, k ≤ L.length ∧ vk = .int .i64 (k : Nat) ∧ NState w ⟨ra, ri, rn, rk, rl, hdA, hz.length, hc, wA, wd.length, wc, kA, rs.length, kc⟩ k (tabF L k) wr ∧ Own strEl (w.heap.size + 3) wr (.slice AL L.length cL) L) (fun vk _ => L.length - (intOf vk).toNat)
  case atStart => exact ⟨0, Nat.zero_le _, rfl, ⟨hN0.ext, hN0.b1, hN0.b2, hN0.tab.congr (fun s => by simp [tabF])⟩, hoL3⟩
  case round =>
    clear hN0 hoL3
    obtain ⟨k, hk, rfl, hI, hoL⟩ := hrel
    by_cases hlt : k < L.length
    · obtain ⟨A', c', hv, -, hsL⟩ := hoL.form
      cases hv
      obtain ⟨bS, oS, rfl, hbS, hcS⟩ := strAt hsL hlt
      have hls := Hasz.out L[k] (List.getElem_mem hlt)
      have hstep := tabF_step hlt Hnd.out
      obtain ⟨s, hs⟩ : ∃ s, L[k] = s := ⟨_, rfl⟩
      rw [hs] at hcS hls hstep
      have hsm : s.size ≤ maxLen := by unfold maxLen; omega
      have Hit := Lib.hid (fun w' (he : Ext w w') => itoa_any (k + 1) (by omega) w' (HT.out.ext he))
      rw [show ((k + 1 : Nat) : Int) = (k : Int) + 1 by omega] at Hit
      have hdz := decB_le (n := k + 1) (by omega)
      obtain ⟨d, hd0⟩ : ∃ d, decB (k + 1) = d := ⟨_, rfl⟩
      rw [hd0] at Hit hdz hstep
      have hdm : d.size ≤ maxLen := by unfold maxLen; omega
      have Hstep := Lib.hid hstep
      have d1 : decide ((k : Int) < (L.length : Int)) = true := decide_eq_true (by omega)
      clear hs hd0 hstep
      go_wp2_with fail
      refine (Hit.out _ hI.ext).mono ?_
      rintro e w2 ⟨rfl, hx2⟩
      have hI2 := hI.grow hx2
      have hoL2 := hoL.ext hx2
      go_wp2_with (at_mapUpdate; refine wpList_putTab rfl _ _ _ rfl hI2.tab (by unfold maxLen; omega) rfl s d rfl rfl hsm hdm ?_; intro w3 htab3 hg3; have hI3 := Lib.hid (hI2.upd htab3 hg3); have hoL3 := Lib.hid (hoL2.keep fun j hj => hg3.block j (hoL2.lt j hj).2 (by have := (hoL2.lt j hj).1; simp; omega)); clear htab3 hg3)
      go_roundw
      case rel => exact ⟨k + 1, by omega, by go_num, ⟨hI3.out.ext, hI3.out.b1, hI3.out.b2, hI3.out.tab.congr Hstep.out⟩, hoL3.out⟩
      case measure => simp [intOf]; omega
    · have hkL : k = L.length := by omega
      have d1 : decide ((k : Int) < (L.length : Int)) = false := decide_eq_false (by omega)
      have hI0 : NState w ⟨ra, ri, rn, rk, rl, hdA, hz.length, hc, wA, wd.length, wc, kA, rs.length, kc⟩ L.length (tabF L L.length) wr := by rw [← hkL]; exact hI
      clear hkL hI hoL
      have hx := hI0.ext
      have Hb := Lib.hid (show ∀ w', Ext wr w' → _ from fun w' he => blockT hI0.b1 (block_lt hI0.b1) he)
      simp only [RUnit.cells] at Hb
      go_wp2
      refine wp_drawn_tailV 7 (fun v j => bif Nat.beq j 5 then (TAway wordEl wr.heap.size wd) (v 2) else (fun i => match i with | 0 => TCells [.slice hdA hz.length hc] | 1 => Ty.is (.slice hdA hz.length hc) | 2 => TOwn wordEl wr.heap.size hz | 3 => TCells [.slice wA wd.length wc] | 4 => Ty.is (.slice wA wd.length wc) | 6 => Ty.is (.pointer (some ⟨w.heap.size, 5, none⟩)) | _ => Ty.any) j) (looks_one _ _ _ _ (by kernel_rfl)) (by kernel_rfl) (by kernel_rfl) (by kernel_rfl) (by decide) rfl ?_
      intro v
      refine ⟨?_, ?_, ?_, ?_, ?_, ?_, ?_, ?_⟩
      · intro wq hq hd
        refine ob_plain rfl ?_
        exact yld_field 27 3 (.tmp 1) rfl _ Tryd.underlying27 _ rfl 1 Tryd.sizeOf24 (by decide) [.int .i64 ra, .int .i64 ri, .int .i64 rn, .int .i64 rk, .string rl, .slice hdA hz.length hc, .slice wA wd.length wc, .slice kA rs.length kc] (Hb.out _ hq)
      · intro wq hq hd
        obtain ⟨h0, -⟩ := hd
        change (TCells [.slice hdA hz.length hc]).p (v 0) wq at h0
        refine ob_plain rfl ?_
        exact yld_loadOne 24 (.tmp 28) rfl Tryd.isAgg24 (c := .slice hdA hz.length hc) h0 rfl
      · intro wq hq hd
        obtain ⟨h0, -⟩ := hd
        change v 1 = _ at h0
        refine ob_plain rfl ?_
        refine yld_call 59 Tryd.call59 _ _ rfl rfl [_] ⟨h0, trivial⟩ ?_
        refine (cloneW_any _ _ hz _ (hhs.ext (hx.trans hq)) (by omega)).mono ?_
        rintro e w' ⟨v', rfl, hown, hx'⟩
        exact ⟨_, rfl, hx', hown.mono hq.size⟩
      · intro wq hq hd
        refine ob_plain rfl ?_
        exact yld_field 27 4 (.tmp 1) rfl _ Tryd.underlying27 _ rfl 1 Tryd.sizeOf24 (by decide) [.int .i64 ra, .int .i64 ri, .int .i64 rn, .int .i64 rk, .string rl, .slice hdA hz.length hc, .slice wA wd.length wc, .slice kA rs.length kc] (Hb.out _ hq)
      · intro wq hq hd
        obtain ⟨h0, -⟩ := hd
        change (TCells [.slice wA wd.length wc]).p (v 3) wq at h0
        refine ob_plain rfl ?_
        exact yld_loadOne 24 (.tmp 31) rfl Tryd.isAgg24 (c := .slice wA wd.length wc) h0 rfl
      · intro wq hq hd
        obtain ⟨h0, h1, -⟩ := hd
        change v 4 = _ at h0
        change (TOwn wordEl wr.heap.size hz).p (v 2) wq at h1
        refine ob_plain rfl ?_
        refine yld_call 59 Tryd.call59 _ _ rfl rfl [_] ⟨h0, trivial⟩ ?_
        refine (cloneW_any _ _ wd _ (hws.ext (hx.trans hq)) (by omega)).mono ?_
        rintro e w' ⟨v', rfl, hown, hx'⟩
        exact ⟨_, rfl, hx', away_of hown h1 hq.size⟩
      · intro wq hq hd
        obtain ⟨h0, h1, h2, h3, h4, -⟩ := hd
        refine ob_plain rfl ?_
        exact yld_fld 27 3 (.tmp 1) rfl _ Tryd.underlying27 _ rfl 1 Tryd.sizeOf24 (by decide) w.heap.size 0 rfl rfl
      · intro wq hq hT
        have k2 := hT 2 (by decide)
        change (TOwn wordEl wr.heap.size hz).p (v 2) wq at k2
        have k5 := hT 5 (by decide)
        change (TAway wordEl wr.heap.size wd (v 2)).p (v 5) wq at k5
        have k6 := hT 6 (by decide)
        change v 6 = _ at k6
        clear hT
        simp only [List.drop_succ_cons, List.drop_zero, putE, setsE, List.set_cons_succ, List.set_cons_zero, Nat.reduceAdd]
        generalize v 2 = x2 at k2 k5 ⊢
        generalize v 5 = x5 at k5 ⊢
        rw [k6]
        obtain ⟨k5a, k5b⟩ := k5
        obtain ⟨A1, c1, rfl, hc1, -⟩ := Own.form k2
        obtain ⟨A2, c2, rfl, hc2, -⟩ := Own.form k5a
        have hz3 := hI0.size
        have g1 : Own wordEl (w.heap.size + 3) wq (.slice A1 hz.length c1) hz := Own.mono k2 (by omega)
        have g2 : Own wordEl (w.heap.size + 3) wq (.slice A2 wd.length c2) wd := Own.mono k5a (by omega)
        have hNq := hI0.grow hq
        clear k2 k5a hI0 hx hq Hb hhs hws d1 k6 hz3
        go_wp2_with (first | (refine wpList_fld rfl 27 4 (.tmp 1) rfl _ Tryd.underlying27 _ rfl 1 Tryd.sizeOf24 (by decide) w.heap.size 0 rfl ?_) |
          (refine wpList_put rfl 24 (.tmp 34) (.tmp 30) rfl w.heap.size 5 (.slice A1 hz.length c1) rfl rfl [.slice A1 hz.length c1] rfl Tryd.sizeOf24 (by simp [Value.oneCell']) 27 _ hNq.b1 (by simp [RUnit.cells]) ?_; intro w1 hw1 hos1 htp1 hou1 hs1 hbk1; have hN1 : NState w ⟨ra, ri, rn, rk, rl, A1, hz.length, c1, wA, wd.length, wc, kA, rs.length, kc⟩ L.length (tabF L L.length) w1 := hNq.put1 hw1 hos1 htp1 hou1 hs1 (hbk1.trans (by simp [RUnit.cells])); have g11 := g1.keep (w' := w1) fun j hj => hw1 j (by have := (g1.lt j hj).1; omega); have g21 := g2.keep (w' := w1) fun j hj => hw1 j (by have := (g2.lt j hj).1; omega); clear g1 g2 hNq hw1 hos1 htp1 hou1 hs1 hbk1) |
          (refine wpList_put rfl 24 (.tmp 35) (.tmp 33) rfl w.heap.size 6 (.slice A2 wd.length c2) rfl rfl [.slice A2 wd.length c2] rfl Tryd.sizeOf24 (by simp [Value.oneCell']) 27 _ hN1.b1 (by simp [RUnit.cells]) ?_; intro w2 hw2 hos2 htp2 hou2 hs2 hbk2; have hN2 : NState w ⟨ra, ri, rn, rk, rl, A1, hz.length, c1, A2, wd.length, c2, kA, rs.length, kc⟩ L.length (tabF L L.length) w2 := hN1.put1 hw2 hos2 htp2 hou2 hs2 (hbk2.trans (by simp [RUnit.cells])); have g12 := g11.keep (w' := w2) fun j hj => hw2 j (by have := (g11.lt j hj).1; omega); have g22 := g21.keep (w' := w2) fun j hj => hw2 j (by have := (g21.lt j hj).1; omega); clear g11 g21 hN1 hw2 hos2 htp2 hou2 hs2 hbk2; obtain ⟨z0, z1, z2, z3, z4, z5, z6, z7⟩ := unitBlock hN2.b1; dsimp only at z0 z1 z2 z3 z4 z5 z6 z7))
        clear z0 z1 z2 z3 z4 z5 z6 z7
        have Haw := Lib.hid k5b
        clear k5b
        go_loopw [39] (fun vk wr => ∃ (k : Nat) (xs : List GWord), k ≤ wd.length ∧ vk = .int .i64 (k : Nat) ∧ Hid (xs = (wd.take k).map (renW L) ++ wd.drop k) ∧ NState w ⟨ra, ri, rn, rk, rl, A1, hz.length, c1, A2, wd.length, c2, kA, rs.length, kc⟩ L.length (tabF L L.length) wr ∧ Own wordEl (w.heap.size + 3) wr (.slice A1 hz.length c1) hz ∧ Own wordEl (w.heap.size + 3) wr (.slice A2 wd.length c2) xs) (fun vk _ => wd.length - (intOf vk).toNat)
        case atStart => exact ⟨0, wd, Nat.zero_le _, rfl, Lib.hid (by simp), hN2, g12, g22⟩
        case round =>
          clear hN2 g12 g22
          obtain ⟨k, xs, hk, rfl, Hxs, hI, hO1, hO2⟩ := hrel
          by_cases hlt : k < wd.length
          · have hxl : xs.length = wd.length := by rw [Hxs.out]; exact ren_len hk
            have hkx : k < xs.length := by omega
            have hxk : xs[k] = wd[k] := by have := Hxs.out; subst this; exact ren_get hlt _
            obtain ⟨A', c', hv, -, hsl⟩ := hO2.form
            obtain ⟨rfl, rfl⟩ : A2 = A' ∧ c2 = c' := by injection hv with e1 e2 e3; exact ⟨e1, e3⟩
            obtain ⟨b, off, rfl, hb, c0, c1', c2', c3'⟩ := wordAt hsl hkx
            rw [hxk] at c0 c1' c2' c3'
            have hxs := Hsh.out wd[k] (List.getElem_mem hlt)
            have hrk := ren_keep (L := L) hlt
            have hst := ren_step (L := L) hlt
            have hmem := ancT_mem hlt
            rw [HL.out] at hmem
            obtain ⟨x, hx⟩ : ∃ x, wd[k] = x := ⟨_, rfl⟩
            rw [hx] at c0 c1' c2' c3' hxs hxk hrk hst hmem
            have Hpa := Lib.hid (fun w => parseAnchor_any x.t w (by omega))
            have hTm : (ancT x.t).size ≤ maxLen := by
              unfold ancT maxLen
              split
              · rw [bstrF_size, List.length_drop]
                have : x.t.data.toList.length = x.t.size := Array.length_toList
                omega
              · exact Nat.zero_le _
            simp only [show RetAnc x.t = fun w e w' => e = .returned (.tuple #[.string (ancT x.t), .bool (ancB x.t)]) ∧ Ext w w' from rfl] at Hpa
            unfold renW at hrk hst
            obtain ⟨T, hT⟩ : ∃ T, ancT x.t = T := ⟨_, rfl⟩
            obtain ⟨B, hB⟩ : ∃ B, ancB x.t = B := ⟨_, rfl⟩
            rw [hT, hB] at Hpa hmem
            simp only [hT, hB] at hrk hst
            rw [hT] at hTm
            have d1 : decide ((k : Int) < (wd.length : Int)) = true := decide_eq_true (by omega)
            have Hxk := Lib.hid hxk
            have Hxl := Lib.hid hxl
            have Hkx := Lib.hid hkx
            clear hx hT hB hxs hxk hv hsl hxl
            cases B with
            | false =>
              have Hrk := Lib.hid (Hxs.out.trans (hrk (if_neg (by simp))))
              clear hrk hst hmem
              go_wp2_with fail
              refine (Hpa.out _).mono ?_
              rintro e w2 ⟨rfl, hx2⟩
              have hI2 := hI.grow (((Ext.refl _).alloc _).trans hx2)
              have hO12 := hO1.ext (((Ext.refl _).alloc _).trans hx2)
              have hO22 := hO2.ext (((Ext.refl _).alloc _).trans hx2)
              go_wp2
              go_roundw
              case rel => exact ⟨k + 1, xs, by omega, by go_num, Hrk, hI2, hO12, hO22⟩
              case measure => simp [intOf]; omega
            | true =>
              have hTL := hmem rfl
              have hft := tabF_all hTL
              have hls := labF_size (by omega) hTL
              obtain ⟨W, hW⟩ : ∃ W, labF L T = W := ⟨_, rfl⟩
              rw [hW] at hft hls hst
              have Hst := Lib.hid hst
              have Hft := Lib.hid hft
              clear hrk hst hmem hW hft
              go_wp2_with fail
              refine (Hpa.out _).mono ?_
              rintro e w2 ⟨rfl, hx2⟩
              have hI2 := hI.grow (((Ext.refl _).alloc _).trans hx2)
              have hO12 := hO1.ext (((Ext.refl _).alloc _).trans hx2)
              have hO22 := hO2.ext (((Ext.refl _).alloc _).trans hx2)
              obtain ⟨z0, z1, z2, z3, z4, z5, z6, z7⟩ := unitBlock hI2.b1
              dsimp only at z0 z1 z2 z3 z4 z5 z6 z7
              obtain ⟨hof, cur, hcur, hcs, hcw⟩ := patchW hO22 Hxl.out hkx Hxk.out (⟨#[94]⟩ ++ W)
              have hbg := (hO22.lt b (by subst hof; rfl)).1
              have Hof := Lib.hid hof
              clear hof
              go_wp2_with (first | (at_lookup; refine wpList_lookTab rfl _ _ rfl hI2.tab rfl T rfl hTm ?_; rw [Hft.out]) |
                (refine wpList_put rfl 9 (.tmp 59) (.tmp 57) rfl b (off + k * 4) (.string (⟨#[94]⟩ ++ W)) rfl rfl [.string (⟨#[94]⟩ ++ W)] rfl Tryd.sizeOf9 (by simp [Value.oneCell']) 52 cur hcur (by simpa using hcs) ?_; intro w4 hw4 hos4 htp4 hou4 hs4 hbk4; have hO24 := hcw w4 hbk4; have hI4 := hI2.low (below_put hbg hw4 hos4 htp4 hou4 hs4); have hO14 := hO12.keep (w' := w4) fun j hj => hw4 j (fun e => by subst e; exact Haw.out j (by rw [Hof.out]; rfl) hj); clear hw4 hos4 htp4 hou4 hs4 hbk4))
              go_roundw
              case rel => exact ⟨k + 1, _, by omega, by go_num, Lib.hid (by rw [Hxs.out]; exact Hst.out), hI4, hO14, hO24⟩
              case measure => simp [intOf]; omega
          · have hkL : k = wd.length := by omega
            have d1 : decide ((k : Int) < (wd.length : Int)) = false := decide_eq_false (by omega)
            subst hkL
            rw [List.take_length, List.drop_length, List.append_nil] at Hxs
            have hO2' : Own wordEl (w.heap.size + 3) wr (.slice A2 wd.length c2) (wd.map (renW L)) := by rw [← Hxs.out]; exact hO2
            clear hO2 Hxs
            obtain ⟨wc, rfl⟩ : ∃ wc, wc = wr := ⟨_, rfl⟩
            have HIc := Lib.hid hI
            have HO1 := Lib.hid hO1
            have HO2 := Lib.hid hO2'
            obtain ⟨z0, z1, z2, z3, z4, z5, z6, z7⟩ := unitBlock hI.b1
            dsimp only at z0 z1 z2 z3 z4 z5 z6 z7
            clear hI hO1 hO2'
            go_wp2
            clear z0 z1 z2 z3 z4 z5 z6 z7 d1
            go_loopw [10, 64] (fun vo vk wr => ∃ (k : Nat) (rr : List RUnit) (p : Nat → Bool), k ≤ kids.length ∧ vk = .int .i64 (k : Nat) ∧ Own unitEl wc.heap.size wr vo rr ∧ Hid (∀ j, j < wc.heap.size → p j = true) ∧ Hid (∀ j, p j = true → j < wr.heap.size) ∧ Hid (∀ g, vo.ownBlock = some g → p g = true) ∧ Hid (ReadsAll (mask p wr) (numL L (kids.take k)) rr) ∧ Ext wc wr) (fun _ vk _ => kids.length - (intOf vk).toNat)
            case atStart => exact ⟨0, [], fun j => decide (j < wc.heap.size), Nat.zero_le _, rfl, Own.nil _, Lib.hid (fun j hj => by simpa using hj), Lib.hid (fun j hj => by simpa using hj), Lib.hid (fun g hg => by cases hg), Lib.hid (by rw [List.take_zero, numL, ReadsAll]; trivial), Ext.refl _⟩
            case round =>
              obtain ⟨k, rr, p, hk, rfl, hown, Hp1, Hp2, Hpo, Hrr, hext⟩ := hrel
              have hlr := Hl.out
              by_cases hlt : k < kids.length
              · have hltr : k < rs.length := by omega
                have hxw : Ext w wr := HIc.out.ext.trans hext
                have hrec := fun (wq : World) (hq : Ext wr wq) => Hih.out kids[k] rs[k] wq (Hsub.out k hlt) (Reads.ext (hxw.trans hq) _ _ (ReadsAll.get Hall.out k hlt hltr)) (Hkok.out k hlt) (Hkck.out k hlt) (HT.out.ext (hxw.trans hq))
                obtain ⟨b, off, rfl, hb, u0, u1, u2, u3, u4, u5, u6, u7⟩ := unitAt (hrs.ext hxw) hltr
                obtain ⟨q, hq⟩ : ∃ q, rs[k] = q := ⟨_, rfl⟩
                rw [hq] at u0 u1 u2 u3 u4 u5 u6 u7 hrec
                simp only [RUnit.cells] at hrec
                have Hrec := Lib.hid hrec
                have d1 : decide ((k : Int) < (rs.length : Int)) = true := decide_eq_true (by omega)
                have hxa : Ext wr (wr.alloc (.cells #[.int .i64 q.a, .int .i64 q.i, .int .i64 q.n, .int .i64 q.kind, .string q.label, .slice q.hA q.hn q.hc, .slice q.wA q.wn q.wc, .slice q.kA q.kn q.kc] 27)) := (Ext.refl _).alloc _
                have Hxa := Lib.hid hxa
                clear hrec hq hxa hlr
                go_wp2_with fail
                refine (Hrec.out _ Hxa.out).mono ?_
                rintro e w2 ⟨r2, rfl, hx2, hr2⟩
                have hbx : w2.heap[wr.heap.size]? = some (.cells (RUnit.cells q).toArray 27 (0, 0)) := (hx2.block (by simp)).trans (heap_alloc_new wr _)
                have hxq : Ext wr w2 := Hxa.out.trans hx2
                obtain ⟨hkd, hlb⟩ := reads_kl hr2
                rw [(numF_kl _).1] at hkd
                rw [(numF_kl _).2] at hlb
                have hls : r2.label.size ≤ 1048576 := by rw [hlb]; exact Hlab.out _ (List.getElem_mem hlt)
                have hin : r2.kind = 7 → r2.label ∈ L := fun h7 => by rw [hlb]; exact (Hkid.out k hlt (by rw [← hkd]; exact h7)).1
                have hr3 := reads_relab (L := L) hr2
                rw [show ∀ o, (wr.alloc o).heap.size = wr.heap.size + 1 from fun o => by simp] at hr3
                have Hrl2 : Hid (rr.length = k) := Lib.hid (by rw [ReadsAll.length Hrr.out, numL_len, List.length_take]; omega)
                clear hkd hlb hr2 hx2
                by_cases h7 : r2.kind = 7
                · have hft := tabF_all (hin h7)
                  obtain ⟨W, hW⟩ : ∃ W, labF L r2.label = W := ⟨_, rfl⟩
                  rw [if_pos h7, hW] at hr3
                  rw [show ({ r2 with label := W } : RUnit) = (⟨r2.a, r2.i, r2.n, 7, W, r2.hA, r2.hn, r2.hc, r2.wA, r2.wn, r2.wc, r2.kA, r2.kn, r2.kc⟩ : RUnit) from by rw [← h7]] at hr3
                  rw [hW] at hft
                  have Hr2 := Lib.hid hr3
                  have Hft := Lib.hid hft
                  have HI2 := HIc.out.grow (hext.trans hxq)
                  have hlm : r2.label.size ≤ maxLen := by unfold maxLen; omega
                  have d2 : decide (r2.kind = 7) = true := decide_eq_true h7
                  clear hr3 hft hW hin
                  go_wp2_with (first | (refine wpList_put rfl 27 (.tmp 12) (.tmp 69) rfl wr.heap.size 0 (.agg r2.cells.toArray) rfl rfl r2.cells rfl Tryd.sizeOf27 (by simp [RUnit.cells, Value.oneCell']) 27 _ hbx (by simp [RUnit.cells]) ?_; intro w3 hw3 hos3 htp3 hou3 hs3 hbk3; have hb3 : w3.heap[wr.heap.size]? = some (.cells (RUnit.cells r2).toArray 27 (0, 0)) := hbk3.trans (by simp [RUnit.cells]); have hx3 : Ext wr w3 := hxq.put (Nat.le_refl _) hw3 hos3 htp3 hou3 hs3; have Hc3 := Lib.hid (CIn.put (p := fresh (wr.heap.size + 1)) (by simp [fresh]) hw3 hs3); clear hw3 hos3 htp3 hou3 hs3 hbk3; obtain ⟨z0, z1, z2, z3, z4, z5, z6, z7⟩ := unitBlock hb3) | (refine wpList_put rfl 9 (.tmp 77) (.tmp 76) rfl wr.heap.size 4 (.string W) rfl rfl [.string W] rfl Tryd.sizeOf9 (by simp [Value.oneCell']) 27 _ hb3 (by simp [RUnit.cells]) ?_; intro w4 hw4 hos4 htp4 hou4 hs4 hbk4; have hb4 : w4.heap[wr.heap.size]? = some (.cells (RUnit.cells { r2 with label := W }).toArray 27 (0, 0)) := hbk4.trans (by simp [RUnit.cells]); have hx4 : Ext wr w4 := hx3.put (Nat.le_refl _) hw4 hos4 htp4 hou4 hs4; have Hc4 := Lib.hid (CIn.put (p := fresh (wr.heap.size + 1)) (by simp [fresh]) hw4 hs4); clear hw4 hos4 htp4 hou4 hs4 hbk4 z0 z1 z2 z3 z4 z5 z6 z7; obtain ⟨z0, z1, z2, z3, z4, z5, z6, z7⟩ := unitBlock hb4; dsimp only at z0 z1 z2 z3 z4 z5 z6 z7) | (at_lookup; refine wpList_lookTab rfl _ _ rfl (HIc.out.grow (hext.trans hx3)).tab rfl r2.label rfl hlm ?_; rw [Hft.out]) | (at_builtin; refine wpList_appAt unitEl rfl (.tmp 78) (.tmp 80) rfl 1 rfl (hown.ext (hx4.alloc _)) (ys := [(⟨r2.a, r2.i, r2.n, 7, W, r2.hA, r2.hn, r2.hc, r2.wA, r2.wn, r2.wc, r2.kA, r2.kn, r2.kc⟩ : RUnit)]) rfl (Sl.new' unitEl (by simp) rfl) (by rw [Hrl2.out]; simp; omega) (by have := hext.size; have := hx4.size; simp at *; omega) ?_; intro v5 w5 hown5 hg5 hloc5; obtain ⟨p', a1, a2, a3, a4, a5, a6⟩ := Own.stepN (B := wc.heap.size) (p := p) (hx4.alloc _) hown Hp2.out Hpo.out hg5 hloc5 hown5 (Nat.le_refl _) hext.size; have Hown5 := Lib.hid hown5; clear hown5 hg5 hloc5))
                  go_roundw
                  case rel => exact ⟨k + 1, rr ++ [(⟨r2.a, r2.i, r2.n, 7, W, r2.hA, r2.hn, r2.hc, r2.wA, r2.wn, r2.wc, r2.kA, r2.kn, r2.kc⟩ : RUnit)], p', by omega, by go_num, Hown5.out, Lib.hid (fun j hj => a1 j (Hp1.out j hj)), Lib.hid a2, Lib.hid a3, Lib.hid (by rw [numL_take hlt]; exact (ReadsAll.cin a4 _ _ Hrr.out).snoc (Reads.cin (Hc3.out.trans (Hc4.out.trans ((CIn.keepExt ((Ext.refl w4).alloc _) (fun _ _ h => h)).trans ((CIn.weaken _ (fresh_le (Nat.le_succ _))).trans a5)))) _ _ Hr2.out)), hext.trans' a6⟩
                  case measure => simp [intOf]; omega
                · have hr4 : Reads (mask (fresh (wr.heap.size + 1)) w2) (relab L (numF kids[k])) r2 := by have := hr3; rw [if_neg h7] at this; exact this
                  have Hr2 := Lib.hid hr4
                  have d2 : decide (r2.kind = 7) = false := decide_eq_false h7
                  clear hr3 hr4 hin
                  go_wp2_with (first | (refine wpList_put rfl 27 (.tmp 12) (.tmp 69) rfl wr.heap.size 0 (.agg r2.cells.toArray) rfl rfl r2.cells rfl Tryd.sizeOf27 (by simp [RUnit.cells, Value.oneCell']) 27 _ hbx (by simp [RUnit.cells]) ?_; intro w3 hw3 hos3 htp3 hou3 hs3 hbk3; have hb3 : w3.heap[wr.heap.size]? = some (.cells (RUnit.cells r2).toArray 27 (0, 0)) := hbk3.trans (by simp [RUnit.cells]); have hx3 : Ext wr w3 := hxq.put (Nat.le_refl _) hw3 hos3 htp3 hou3 hs3; have Hc3 := Lib.hid (CIn.put (p := fresh (wr.heap.size + 1)) (by simp [fresh]) hw3 hs3); clear hw3 hos3 htp3 hou3 hs3 hbk3; obtain ⟨z0, z1, z2, z3, z4, z5, z6, z7⟩ := unitBlock hb3) | (at_builtin; refine wpList_appAt unitEl rfl (.tmp 78) (.tmp 80) rfl 1 rfl (hown.ext (hx3.alloc _)) (ys := [r2]) rfl (Sl.new' unitEl (by simp) rfl) (by rw [Hrl2.out]; simp; omega) (by have := hext.size; have := hx3.size; simp at *; omega) ?_; intro v5 w5 hown5 hg5 hloc5; obtain ⟨p', a1, a2, a3, a4, a5, a6⟩ := Own.stepN (B := wc.heap.size) (p := p) (hx3.alloc _) hown Hp2.out Hpo.out hg5 hloc5 hown5 (Nat.le_refl _) hext.size; have Hown5 := Lib.hid hown5; clear hown5 hg5 hloc5))
                  go_roundw
                  case rel => exact ⟨k + 1, rr ++ [r2], p', by omega, by go_num, Hown5.out, Lib.hid (fun j hj => a1 j (Hp1.out j hj)), Lib.hid a2, Lib.hid a3, Lib.hid (by rw [numL_take hlt]; exact (ReadsAll.cin a4 _ _ Hrr.out).snoc (Reads.cin (Hc3.out.trans ((CIn.keepExt ((Ext.refl w3).alloc _) (fun _ _ h => h)).trans ((CIn.weaken _ (fresh_le (Nat.le_succ _))).trans a5))) _ _ Hr2.out)), hext.trans' a6⟩
                  case measure => simp [intOf]; omega
              · have hkL : k = kids.length := by omega
                have d1 : decide ((k : Int) < (rs.length : Int)) = false := decide_eq_false (by omega)
                obtain ⟨A3, c3, rfl, hc3, -⟩ := hown.form
                have HI2 := HIc.out.grow hext
                have HRR := Lib.hid (by have := Hrr.out; rw [hkL, List.take_length] at this; exact this)
                obtain ⟨z0, z1, z2, z3, z4, z5, z6, z7⟩ := unitBlock HI2.b1
                dsimp only at z0 z1 z2 z3 z4 z5 z6 z7
                clear Hrr hkL
                go_wp2_with (first | (refine wpList_fld rfl 27 5 (.tmp 1) rfl _ Tryd.underlying27 _ rfl 1 Tryd.sizeOf25 (by decide) w.heap.size 0 rfl ?_) | (refine wpList_put rfl 25 (.tmp 84) (.tmp 83) rfl w.heap.size 7 (.slice A3 rr.length c3) rfl rfl [.slice A3 rr.length c3] rfl Tryd.sizeOf25 (by simp [Value.oneCell']) 27 _ HI2.b1 (by simp [RUnit.cells]) ?_; intro w4 hw4 hos4 htp4 hou4 hs4 hbk4; have hI4 : NState w ⟨ra, ri, rn, rk, rl, A1, hz.length, c1, A2, wd.length, c2, A3, rr.length, c3⟩ L.length (tabF L L.length) w4 := HI2.put1 hw4 hos4 htp4 hou4 hs4 (hbk4.trans (by simp [RUnit.cells])); have Hw4 := Lib.hid hw4; have Hs4 := Lib.hid hs4; clear hw4 hos4 htp4 hou4 hs4 hbk4 z0 z1 z2 z3 z4 z5 z6 z7; obtain ⟨z0, z1, z2, z3, z4, z5, z6, z7⟩ := unitBlock hI4.b1; dsimp only at z0 z1 z2 z3 z4 z5 z6 z7) | (refine wpList_put rfl 27 (.tmp 2) (.tmp 85) rfl (w.heap.size + 1) 0 (.agg (RUnit.cells ⟨ra, ri, rn, rk, rl, A1, hz.length, c1, A2, wd.length, c2, A3, rr.length, c3⟩).toArray) rfl rfl (RUnit.cells ⟨ra, ri, rn, rk, rl, A1, hz.length, c1, A2, wd.length, c2, A3, rr.length, c3⟩) rfl Tryd.sizeOf27 (by simp [RUnit.cells, Value.oneCell']) 27 _ hI4.b2 (by simp [unit0, RUnit.cells]) ?_; intro w5 hw5 hos5 htp5 hou5 hs5 hbk5))
                have hfin : w5.heap[w.heap.size + 1]? = some (.cells (RUnit.cells ⟨ra, ri, rn, rk, rl, A1, hz.length, c1, A2, wd.length, c2, A3, rr.length, c3⟩).toArray 27 (0, 0)) := hbk5.trans (by simp [RUnit.cells, unit0])
                have hkeep : ∀ j, w.heap.size + 2 ≤ j → w5.heap[j]? = wr.heap[j]? := fun j hj => (hw5 j (by omega)).trans (Hw4.out j (by omega))
                have hx5 : Ext w w5 := hI4.ext.put (by omega) hw5 hos5 htp5 hou5 hs5
                have hsz := HIc.out.size
                have hci : CIn (mask p wr) (mask (fresh w.heap.size) w5) := CIn.keep (by have := Hs4.out; omega) fun j hj hpj => by
                  have hnj : ¬ j < wc.heap.size := fun h => by rw [Hp1.out j h] at hpj; cases hpj
                  exact ⟨hkeep j (by omega), by simp [fresh]; omega⟩
                have o1 := (HO1.out.ext hext).keep (w' := w5) fun j hj => hkeep j (by have := (HO1.out.lt j hj).1; omega)
                have o2 := (HO2.out.ext hext).keep (w' := w5) fun j hj => hkeep j (by have := (HO2.out.lt j hj).1; omega)
                have o3 := hown.keep (w' := w5) fun j hj => hkeep j (by have := (hown.lt j hj).1; omega)
                obtain ⟨B1, d1', hv1, hd1, -, s1⟩ := o1.formMask (p := fresh w.heap.size) (fun g hg _ => by simp [fresh]; omega)
                cases hv1
                obtain ⟨B2, d2', hv2, hd2, -, s2⟩ := o2.formMask (p := fresh w.heap.size) (fun g hg _ => by simp [fresh]; omega)
                have hml : (wd.map (renW L)).length = wd.length := List.length_map ..
                rw [hml] at hv2
                cases hv2
                obtain ⟨B3, d3', hv3, hd3, -, s3⟩ := o3.formMask (p := fresh w.heap.size) (fun g hg _ => by simp [fresh]; omega)
                cases hv3
                have hrn := ReadsAll.length HRR.out
                (try simp only [Exit.inBlock, Exit.then])
                refine bodyPost_ret (results_cell1 rfl _ _ (w.heap.size + 1) _ rfl hfin) rfl ?_
                refine ⟨_, rfl, hx5, ?_⟩
                rw [HR.out, Reads]
                exact ⟨⟨rfl, rfl, rfl, rfl, rfl⟩, ⟨rfl, hd1, s1⟩, ⟨hml.symm, hd2, s2⟩, hrn, by rw [← hrn]; exact hd3, rr, s3, ReadsAll.cin hci _ _ HRR.out⟩
end Go.Proofs.YtiacmahfjcolaaaDoor
