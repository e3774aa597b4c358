/- unit.IDs, unit.Count: walks over every with a visitor that writes to a captured variable. unit.Depth: some number. The reference's May, its leaves: a word, a row of words, texts, which kinds nest. -/
import Derived.Test.YtjhdamjbljafhaaGreatDoorP07
import Derived.Test.YtjhdamjbljafhaaGreatDoorP06
namespace Go.Proofs.YtjhdamjbljafhaaGreatDoor
open Go.RowKit
structure IInv (W0 : World) (B : Nat) (p : Nat → Bool) (acc : List GUnit) (w : World) : Prop where
  ext : Ext W0 w
  ge : W0.heap.size ≤ B
  dark : p B = true
  lt : ∀ j, p j = true → j < w.heap.size
  out : ∃ v, w.heap[B]? = some (.cells #[v] 90 (0, 0)) ∧ Own idEl (B + 1) w v (acc.map GUnit.id) ∧ ∀ g, v.ownBlock = some g → p g = true ∧ g ≠ B
section
variable {W0 w w' wq w2 w3 : World} {B : Nat} {p : Nat → Bool} {acc : List GUnit}
theorem IInv.grow (h : IInv W0 B p acc w) (he : Ext w w') : IInv W0 B p acc w' := by
  obtain ⟨v, h1, h2, h3⟩ := h.out
  exact ⟨h.ext.trans he, h.ge, h.dark, fun j hj => Nat.lt_of_lt_of_le (h.lt j hj) he.size, v, (he.block (block_lt h1)).trans h1, h2.ext he, h3⟩
theorem IInv.step {x : GUnit} {v v' : Value} (h : IInv W0 B p acc w) (he : Ext w wq) (hown : Own idEl (B + 1) w v (acc.map GUnit.id)) (hpo : ∀ g, v.ownBlock = some g → p g = true ∧ g ≠ B) (hg2 : wq.grownBy w2 v.ownBlock) (hloc : v'.ownBlock = v.ownBlock ∨ v'.ownBlock = some wq.heap.size)
    (hown2 : Own idEl (B + 1) w2 v' (acc.map GUnit.id ++ [x.id])) (hw3 : ∀ k, k ≠ B → w3.heap[k]? = w2.heap[k]?) (hos : w3.os = w2.os) (htp : w3.tape = w2.tape) (hou : w3.output = w2.output) (hs : w3.heap.size = w2.heap.size) (hbk : w3.heap[B]? = some (.cells #[v'] 90 (0, 0))) :
    ∃ p', IInv W0 B p' (acc ++ [x]) w3 ∧ CIn (mask p w) (mask p' w3) := by
  obtain ⟨p', a1, a2, a3, a4, _, a6, a7⟩ := Own.step (B := W0.heap.size) he hown h.dark h.lt hpo hg2 hloc hown2 hw3 hos htp hou hs h.ge (by have := h.ge; omega) h.ext.size
  refine ⟨p', ⟨h.ext.trans' a7, h.ge, a1 _ h.dark, a2, v', hbk, ?_, a3⟩, a4⟩
  rw [List.map_append, List.map_cons, List.map_nil]
  exact a6
end
set_option maxRecDepth 100000 in
set_option maxHeartbeats 1600000 in
theorem visitIds (W0 : World) (B : Nat) (all : List GUnit) (hall : all.length ≤ 1000) (p : Nat → Bool) (acc : List GUnit) (x : GUnit) (rx : RUnit) (w : World) (hr : Reads W0 x rx) (hin : ∃ rest, all = acc ++ x :: rest) (hI : IInv W0 B p acc w) :
    Calls Tryz.prog 125 #[.agg rx.cells.toArray, .pointer (some ⟨B, 0, none⟩)] w fun e w' => ∃ (b : Bool) (p' : Nat → Bool), e = .returned (.bool b) ∧ CIn (mask p w) (mask p' w') ∧ Ext W0 w' ∧ (b = true → IInv W0 B p' (acc ++ [x]) w') ∧ (true = true → b = true) := by
  obtain ⟨rest, hrest⟩ := hin
  have hla : (acc.map GUnit.id).length ≤ 1000 := by rw [hrest] at hall; simp at hall ⊢; omega
  obtain ⟨vO, hO1, hO2, hO3⟩ := hI.out
  have hid : rx.id = x.id := hr.flds.1
  obtain ⟨Z, hZ⟩ : ∃ Z, acc.map GUnit.id = Z := ⟨_, rfl⟩
  rw [hZ] at hO2 hla
  have HZ := Lib.hid hZ
  have hx0 : Ext w (w.alloc (.cells rx.cells.toArray 27)) := (Ext.refl w).alloc _
  have hbx := BoxU.new rx w
  have hBw := block_lt hO1
  have hbO := (hx0.block hBw).trans hO1
  obtain ⟨q, hq⟩ : ∃ q, rx.id = q := ⟨_, rfl⟩
  rw [hq] at hid
  have Hid' := Lib.hid hid
  obtain ⟨ra, ri, rn, rk, rl, hdA, hn, hc, wA, wn, wc, kA, kn, kc⟩ := rx
  simp only [RUnit.id] at hq
  subst hq
  simp only [RUnit.cells] at hx0 hbx hbO ⊢
  obtain ⟨wb, hwb⟩ : ∃ wb, w.alloc (.cells #[.int .i64 ra, .int .i64 ri, .int .i64 rn, .int .i64 rk, .string rl, .slice hdA hn hc, .slice wA wn wc, .slice kA kn kc] 27) = wb := ⟨_, rfl⟩
  rw [hwb] at hx0 hbx hbO
  have Hwb := Lib.hid hwb
  obtain ⟨hb0, c0, c1, c2, -, -, -, -, -⟩ := hbx
  dsimp only at c0 c1 c2
  obtain ⟨AO, cO, rfl, -, -⟩ := hO2.form
  have hcO : wb.cell? ⟨B, 0, none⟩ = some (.slice AO Z.length cO) := by simp [World.cell?, hbO]
  have HO2 := Lib.hid (hO2.ext hx0)
  have HO2' := Lib.hid hO2
  have HO3 := Lib.hid hO3
  have HbO := Lib.hid hbO
  have HI := Lib.hid hI
  have Hx0 := Lib.hid hx0
  have hgeB := hI.ge
  have Hgb := Lib.hid (Nat.lt_of_lt_of_le hBw hx0.size)
  clear hr hrest hO1 hO2 hO3 hI hid hbO hZ hx0 hBw hall
  go_enter Tryz.func125, Tryz.ntmps125
  go_wp2_with (first | (at_builtin; refine wpList_appAt idEl rfl (.tmp 4) (.tmp 7) rfl 1 rfl (HO2.out.ext ((Ext.refl _).alloc _)) rfl (Sl.new idEl (xs := [⟨ra, ri, rn⟩]) (by simp [El.flat, idEl, GId.cells])) (by simp; omega) (by have := Hgb.out; simp; omega) ?_; intro v2 w2 hown2 hg2 hloc; have hblk2 := ((hg2.block B (by have := Hgb.out; simp; omega) (fun h => (HO3.out _ h.symm).2 rfl)).trans (((Ext.refl _).alloc _).block Hgb.out)).trans HbO.out; obtain ⟨Z2, hZ2⟩ : ∃ Z2, Z ++ [(⟨ra, ri, rn⟩ : GId)] = Z2 := ⟨_, rfl⟩; rw [hZ2] at hown2; have HZ2 := Lib.hid hZ2; clear hZ2; obtain ⟨A3, c3, hv3, -, -⟩ := hown2.form; subst hv3) |
      (refine wpList_put rfl 90 (.tmp 1) (.tmp 8) rfl B 0 (.slice A3 Z2.length c3) rfl rfl [.slice A3 Z2.length c3] rfl Tryz.sizeOf90 (by simp [Value.oneCell']) 90 _ hblk2 (by simp) ?_; intro w3 hw3 hos3 htp3 hou3 hs3 hbk3))
  go_ret
  have hgb := Hgb.out
  obtain ⟨p', hI', hc'⟩ := HI.out.step (x := x) (Hx0.out.trans ((Ext.refl _).alloc _)) (by rw [HZ.out]; exact HO2'.out) HO3.out hg2 hloc (by rw [HZ.out, ← Hid'.out, HZ2.out]; exact hown2) hw3 hos3 htp3 hou3 hs3 (by rw [hbk3]; simp)
  exact ⟨rfl, p', hc', hI'.ext, hI'⟩
set_option maxRecDepth 100000 in
set_option maxHeartbeats 1600000 in
theorem ids_any (u : GUnit) (r : RUnit) (w : World) (hr : Reads w u r) (hok : OkU u) :
    Calls Tryz.prog 87 #[.agg r.cells.toArray] w (RetOwn idEl w ((preF u).map GUnit.id)) := by
  have hx0 : Ext w ((w.alloc (.cells r.cells.toArray 27)).alloc (.cells #[.slice none 0 0] 90)) := ((Ext.refl w).alloc _).alloc _
  have hsz1 : (w.alloc (.cells r.cells.toArray 27)).heap.size = w.heap.size + 1 := by simp
  have hbB : ((w.alloc (.cells r.cells.toArray 27)).alloc (.cells #[.slice none 0 0] 90)).heap[w.heap.size + 1]? = some (.cells #[.slice none 0 0] 90 (0, 0)) := by
    have h1 := heap_alloc_new (w.alloc (.cells r.cells.toArray 27)) (.cells #[.slice none 0 0] 90)
    rwa [hsz1] at h1
  have hI0 : IInv w (w.heap.size + 1) (fun j => decide (j = w.heap.size + 1)) [] ((w.alloc (.cells r.cells.toArray 27)).alloc (.cells #[.slice none 0 0] 90)) :=
    ⟨hx0, by omega, by simp, fun j hj => by simp at hj; subst hj; exact block_lt hbB, _, hbB, Own.nil _, fun g hg => by cases hg⟩
  have hev := everyIds (W0 := w) (fv := .pointer (some ⟨w.heap.size + 1, 0, none⟩)) (S := true) (Inv := IInv w (w.heap.size + 1)) (all := preF u) (fun _ _ _ h => h.ext) (fun _ _ _ _ h he => h.grow he) (fun _ _ _ h => h.lt)
    (fun p acc x rx w' _ hrx hin hI => visitIds w (w.heap.size + 1) (preF u) (by rw [preF_len]; exact hok.cnt) p acc x rx w' hrx hin hI)
    _ u r _ [] _ (Nat.le_refl _) hr hok ⟨[], by simp⟩ hI0
  obtain ⟨ra, ri, rn, rk, rl, hdA, hn, hc, wA, wn, wc, kA, kn, kc⟩ := r
  simp only [RUnit.cells] at hx0 hev ⊢
  have Hev := Lib.hid hev
  clear hev hI0 hbB hsz1 hr
  obtain ⟨wz, hwz⟩ : ∃ wz, (w.alloc (.cells #[.int .i64 ra, .int .i64 ri, .int .i64 rn, .int .i64 rk, .string rl, .slice hdA hn hc, .slice wA wn wc, .slice kA kn kc] 27)).alloc (.cells #[.slice none 0 0] 90) = wz := ⟨_, rfl⟩
  rw [hwz] at Hev hx0
  have Hwz := Lib.hid hwz
  clear hwz
  go_enter Tryz.func87, Tryz.ntmps87
  go_wp2_with fail
  rw [Hwz.out]
  refine (Hev.out).mono ?_
  rintro e w1 ⟨b1, p1, rfl, -, -, hI1, hS1⟩
  have hb1 : b1 = true := by simpa using hS1
  subst hb1
  replace hI1 := hI1 rfl
  obtain ⟨v1, hv1, ho1, -⟩ := hI1.out
  have hx1 := hI1.ext
  have hc1 : w1.cell? ⟨w.heap.size + 1, 0, none⟩ = some v1 := by simp [World.cell?, hv1]
  have Ho1 := Lib.hid ho1
  have Hx1 := Lib.hid hx1
  obtain ⟨A1, c1, rfl, -, -⟩ := ho1.form
  obtain ⟨Z, hZ⟩ : ∃ Z, List.map GUnit.id ([] ++ preF u) = Z := ⟨_, rfl⟩
  rw [hZ] at hc1 Ho1
  have HZ := Lib.hid hZ
  clear hI1 hv1 ho1 hx1 hZ hS1
  go_wp2
  go_ret
  exact ⟨_, rfl, by rw [← List.nil_append (preF u), HZ.out]; exact Ho1.out.mono (by omega), Hx1.out⟩
structure NInv (W0 : World) (B : Nat) (p : Nat → Bool) (acc : List GUnit) (w : World) : Prop where
  ext : Ext W0 w
  ge : W0.heap.size ≤ B
  dark : p B = true
  lt : ∀ j, p j = true → j < w.heap.size
  out : w.heap[B]? = some (.cells #[.int .i64 (acc.length : Int)] 3 (0, 0))
theorem NInv.grow {W0 w w' : World} {B : Nat} {p : Nat → Bool} {acc : List GUnit} (h : NInv W0 B p acc w) (he : Ext w w') : NInv W0 B p acc w' :=
  ⟨h.ext.trans he, h.ge, h.dark, fun j hj => Nat.lt_of_lt_of_le (h.lt j hj) he.size, (he.block (block_lt h.out)).trans h.out⟩
set_option maxRecDepth 100000 in
set_option maxHeartbeats 1600000 in
theorem visitCnt (W0 : World) (B : Nat) (all : List GUnit) (hall : all.length ≤ 1000) (p : Nat → Bool) (acc : List GUnit) (x : GUnit) (rx : RUnit) (w : World) (hin : ∃ rest, all = acc ++ x :: rest) (hI : NInv W0 B p acc w) :
    Calls Tryz.prog 167 #[.agg rx.cells.toArray, .pointer (some ⟨B, 0, none⟩)] w fun e w' => ∃ (b : Bool) (p' : Nat → Bool), e = .returned (.bool b) ∧ CIn (mask p w) (mask p' w') ∧ Ext W0 w' ∧ (b = true → NInv W0 B p' (acc ++ [x]) w') ∧ (true = true → b = true) := by
  obtain ⟨rest, hrest⟩ := hin
  have hla : acc.length ≤ 1000 := by rw [hrest] at hall; simp at hall ⊢; omega
  have hO1 := hI.out
  obtain ⟨Z, hZ⟩ : ∃ Z, acc.length = Z := ⟨_, rfl⟩
  rw [hZ] at hla hO1
  have HZ := Lib.hid hZ
  have hx0 : Ext w (w.alloc (.cells rx.cells.toArray 27)) := (Ext.refl w).alloc _
  have hBw := block_lt hO1
  have hbO := (hx0.block hBw).trans hO1
  have hgeB := hI.ge
  obtain ⟨wb, hwb⟩ : ∃ wb, w.alloc (.cells rx.cells.toArray 27) = wb := ⟨_, rfl⟩
  rw [hwb] at hx0 hbO
  have hcO : wb.cell? ⟨B, 0, none⟩ = some (.int .i64 (Z : Int)) := by simp [World.cell?, hbO]
  have HbO := Lib.hid hbO
  have HI := Lib.hid hI
  have Hx0 := Lib.hid hx0
  clear hrest hO1 hI hbO hZ hx0 hall
  go_enter Tryz.func167, Tryz.ntmps167
  go_wp2_with (refine wpList_put rfl 3 (.tmp 1) (.tmp 5) rfl B 0 (.int .i64 ((Z : Int) + 1)) rfl rfl [.int .i64 ((Z : Int) + 1)] rfl Tryz.sizeOf3 (by simp [Value.oneCell']) 3 _ HbO.out (by simp) ?_; intro w3 hw3 hos3 htp3 hou3 hs3 hbk3)
  go_ret
  have hx0 := Hx0.out
  have hI := HI.out
  have hxe : Ext W0 w3 := Ext.put (hI.ext.trans hx0) hI.ge hw3 hos3 htp3 hou3 hs3
  have hb3 : w3.heap[B]? = some (.cells #[.int .i64 (((acc ++ [x]).length : Nat) : Int)] 3 (0, 0)) := by
    rw [hbk3, List.length_append, HZ.out]
    simp
  refine ⟨rfl, p, ?_, hxe, hxe, hI.ge, hI.dark, fun j hj => (by have := hI.lt j hj; have := hx0.size; omega), hb3⟩
  refine CIn.keep (by have := hx0.size; omega) fun k hk hpk => ⟨?_, hpk⟩
  have hkB : k ≠ B := fun h => by subst h; rw [hI.dark] at hpk; cases hpk
  rw [hw3 k hkB]
  exact hx0.block hk
set_option maxRecDepth 100000 in
set_option maxHeartbeats 1600000 in
theorem count_any (u : GUnit) (r : RUnit) (w : World) (hr : Reads w u r) (hok : OkU u) :
    Calls Tryz.prog 128 #[.agg r.cells.toArray] w fun e w' => e = .returned (.int .i64 ((cntF u : Nat) : Int)) ∧ Ext w w' := by
  have hx0 : Ext w ((w.alloc (.cells r.cells.toArray 27)).alloc (.cells #[.int .i64 0] 3)) := ((Ext.refl w).alloc _).alloc _
  have hsz1 : (w.alloc (.cells r.cells.toArray 27)).heap.size = w.heap.size + 1 := by simp
  have hbB : ((w.alloc (.cells r.cells.toArray 27)).alloc (.cells #[.int .i64 0] 3)).heap[w.heap.size + 1]? = some (.cells #[.int .i64 0] 3 (0, 0)) := by
    have h1 := heap_alloc_new (w.alloc (.cells r.cells.toArray 27)) (.cells #[.int .i64 0] 3)
    rwa [hsz1] at h1
  have hI0 : NInv w (w.heap.size + 1) (fun j => decide (j = w.heap.size + 1)) [] ((w.alloc (.cells r.cells.toArray 27)).alloc (.cells #[.int .i64 0] 3)) :=
    ⟨hx0, by omega, by simp, fun j hj => by simp at hj; subst hj; exact block_lt hbB, hbB⟩
  have hev := everyCnt (W0 := w) (fv := .pointer (some ⟨w.heap.size + 1, 0, none⟩)) (S := true) (Inv := NInv w (w.heap.size + 1)) (all := preF u) (fun _ _ _ h => h.ext) (fun _ _ _ _ h he => h.grow he) (fun _ _ _ h => h.lt)
    (fun p acc x rx w' _ hrx hin hI => visitCnt w (w.heap.size + 1) (preF u) (by rw [preF_len]; exact hok.cnt) p acc x rx w' hin hI)
    _ u r _ [] _ (Nat.le_refl _) hr hok ⟨[], by simp⟩ hI0
  obtain ⟨ra, ri, rn, rk, rl, hdA, hn, hc, wA, wn, wc, kA, kn, kc⟩ := r
  simp only [RUnit.cells] at hx0 hev ⊢
  have Hev := Lib.hid hev
  have Hcnt := Lib.hid (preF_len u)
  clear hev hI0 hbB hsz1 hr
  obtain ⟨wz, hwz⟩ : ∃ wz, (w.alloc (.cells #[.int .i64 ra, .int .i64 ri, .int .i64 rn, .int .i64 rk, .string rl, .slice hdA hn hc, .slice wA wn wc, .slice kA kn kc] 27)).alloc (.cells #[.int .i64 0] 3) = wz := ⟨_, rfl⟩
  rw [hwz] at Hev hx0
  have Hwz := Lib.hid hwz
  clear hwz
  go_enter Tryz.func128, Tryz.ntmps128
  go_wp2_with fail
  try rw [Hwz.out]
  refine (Hev.out).mono ?_
  rintro e w1 ⟨b1, p1, rfl, -, -, hI1, hS1⟩
  have hb1 : b1 = true := by simpa using hS1
  subst hb1
  replace hI1 := hI1 rfl
  have hv1 := hI1.out
  rw [List.nil_append, Hcnt.out] at hv1
  have hx1 := hI1.ext
  have hc1 : w1.cell? ⟨w.heap.size + 1, 0, none⟩ = some (.int .i64 ((cntF u : Nat) : Int)) := by simp [World.cell?, hv1]
  have Hx1 := Lib.hid hx1
  clear hI1 hv1 hx1 hS1
  go_wp2
  go_ret
  exact ⟨rfl, Hx1.out⟩
end Go.Proofs.YtjhdamjbljafhaaGreatDoor
namespace Go.Proofs.YtjhdamjbljafhaaGreatDoor
open Go.RowKit
def RetNum (n : Nat) (w : World) (e : Ending) (w' : World) : Prop := ∃ d : Nat, e = .returned (.int .i64 (d : Int)) ∧ d ≤ n ∧ Ext w w'
def DepthAt (N : Nat) : Prop := ∀ (u : GUnit) (r : RUnit) (w : World), SizeOf.sizeOf u ≤ N → Reads w u r → OkU u → Calls Tryz.prog 127 #[.agg r.cells.toArray] w (RetNum (cntF u) w)
set_option maxRecDepth 100000 in
set_option maxHeartbeats 3200000 in
theorem depth_step (N : Nat) (ih : DepthAt N) : DepthAt (N + 1) := by
  intro u r w hN hr hok
  obtain ⟨-, -, -, -, -, -, -, -, -, hkn, hkc, rs, hrs, hall, hrl⟩ := hr.flds
  have hcu := hok.cnt
  rw [cntF_kids] at hcu
  have hkl := cntL_len u.kids
  have Hrec := Lib.hid (show ∀ (k : Nat) (h : k < u.kids.length) (h2 : k < rs.length) (wq : World), Ext w wq → Calls Tryz.prog 127 #[.agg rs[k].cells.toArray] wq (RetNum (cntL u.kids) wq) from fun k h h2 wq hq => (ih u.kids[k] rs[k] wq (sizeKid hN h) (Reads.ext hq _ _ (ReadsAll.get hall k h h2)) (hok.kid (List.getElem_mem h))).mono (fun e w' ⟨d, h1, h3, h4⟩ => ⟨d, h1, Nat.le_trans h3 (cntL_mem (List.getElem_mem h)), h4⟩))
  rw [cntF_kids u]
  have hb := BoxU.new r w
  have hx0 : Ext w (w.alloc (.cells r.cells.toArray 27)) := (Ext.refl w).alloc _
  obtain ⟨M, hM⟩ : ∃ M, cntL u.kids = M := ⟨_, rfl⟩
  rw [hM] at Hrec hkl hcu ⊢
  obtain ⟨ra, ri, rn, rk, rl, hdA, hn, hc, wA, wn, wc, kA, kn, kc⟩ := r
  dsimp only at hkn hkc hrs
  rw [← hrl] at hkn hkc
  subst hkn
  simp only [RUnit.cells] at hb hx0 Hrec ⊢
  obtain ⟨wb, hwb⟩ : ∃ wb, w.alloc (.cells #[.int .i64 ra, .int .i64 ri, .int .i64 rn, .int .i64 rk, .string rl, .slice hdA hn hc, .slice wA wn wc, .slice kA rs.length kc] 27) = wb := ⟨_, rfl⟩
  rw [hwb] at hb hx0
  obtain ⟨kl, hkk⟩ : ∃ kl, u.kids.length = kl := ⟨_, rfl⟩
  have hrb : rs.length ≤ 1000 := by omega
  have Hrl := Lib.hid hrl
  have Hx0 := Lib.hid hx0
  have Hsl := Lib.hid (hrs.ext hx0)
  have c7 := hb.c7
  dsimp only at c7
  clear hN hr hok hkc hrs hall hrl hb hx0 hkk ih hkl
  go_enter Tryz.func127, Tryz.ntmps127
  go_wp2
  go_loopw [3, 9] (fun vd vk wr => ∃ (d k : Nat), k ≤ rs.length ∧ vk = .int .i64 (k : Nat) ∧ vd = .int .i64 (d : Nat) ∧ d ≤ M + 1 ∧ Ext wb wr) (fun _ vk _ => rs.length - (intOf vk).toNat)
  case atStart => exact ⟨0, 0, Nat.zero_le _, rfl, rfl, by omega, Ext.refl _⟩
  case round =>
    obtain ⟨d, k, hk, rfl, rfl, hd, hext⟩ := hrel
    by_cases hlt : k < rs.length
    · obtain ⟨q, hq⟩ : ∃ q, rs[k] = q := ⟨_, rfl⟩
      obtain ⟨b, off, hAe, hbk, u0, u1, u2, u3, u4, u5, u6, u7⟩ := unitAtK (Hsl.out.ext hext) hlt hq
      subst hAe
      have hxa : Ext wr (wr.alloc (.cells #[.int .i64 q.a, .int .i64 q.i, .int .i64 q.n, .int .i64 q.kind, .string q.label, .slice q.hA q.hn q.hc, .slice q.wA q.wn q.wc, .slice q.kA q.kn q.kc] 27)) := (Ext.refl _).alloc _
      have hrec := Hrec.out k (by rw [← Hrl.out]; exact hlt) hlt (wr.alloc (.cells #[.int .i64 q.a, .int .i64 q.i, .int .i64 q.n, .int .i64 q.kind, .string q.label, .slice q.hA q.hn q.hc, .slice q.wA q.wn q.wc, .slice q.kA q.kn q.kc] 27)) ((Hx0.out.trans hext).trans hxa)
      simp only [hq] at hrec
      have Hrec2 := Lib.hid hrec
      have Hexa := Lib.hid (hext.trans hxa)
      have d1 : decide ((k : Int) < (rs.length : Int)) = true := decide_eq_true (by omega)
      clear hrec hq hxa hext
      go_wp2_with fail
      refine (Hrec2.out).mono ?_
      rintro e w2 ⟨d2, rfl, hd2, hx2⟩
      have Hx2 := Lib.hid hx2
      clear hx2 u0 u1 u2 u3 u4 u5 u6 u7
      go_wp2
      go_roundw
      case rel => exact ⟨max d (1 + d2), k + 1, by omega, by go_num, by go_num, by omega, Hexa.out.trans Hx2.out⟩
      case measure => simp [intOf]; omega
    · have d1 : decide ((k : Int) < (rs.length : Int)) = false := decide_eq_false (by omega)
      go_wp2
      go_ret
      exact ⟨_, rfl, by omega, Hx0.out.trans hext⟩
theorem depth_rec : ∀ N, DepthAt N
  | 0 => fun u _ _ h => (size0 h).elim
  | N + 1 => depth_step N (depth_rec N)
theorem depth_any (u : GUnit) (r : RUnit) (w : World) (hr : Reads w u r) (hok : OkU u) : Calls Tryz.prog 127 #[.agg r.cells.toArray] w (RetNum (cntF u) w) := depth_rec _ u r w (Nat.le_refl _) hr hok
end Go.Proofs.YtjhdamjbljafhaaGreatDoor
namespace Go.Proofs.YtjhdamjbljafhaaGreatDoor
open Go.RowKit
theorem u8_at {s : ByteArray} {bs : List UInt8} (h : s.data.toList = bs) {k : Nat} (hk : k < s.size) (hb : k < bs.length) : s[k] = bs[k] := by subst h; rfl
def wordC (c : UInt8) : Prop := 33 ≤ c.toNat ∧ c.toNat ≤ 126
def wordOk (s : ByteArray) : Prop := 1 ≤ s.size ∧ s.size ≤ 24 ∧ ∀ c ∈ s.data.toList, wordC c
theorem mem_take_succ {α : Type} {l : List α} {k : Nat} (hk : k < l.length) {P : α → Prop} (h : ∀ x ∈ l.take k, P x) (hx : P l[k]) : ∀ x ∈ l.take (k + 1), P x := by
  intro x hm
  rw [List.take_succ_eq_append_getElem hk] at hm
  rcases List.mem_append.1 hm with hm | hm
  · exact h x hm
  · rw [List.mem_singleton.1 hm]; exact hx
set_option maxRecDepth 100000 in
set_option maxHeartbeats 800000 in
theorem word4_any (s : ByteArray) (w : World) (hs : s.size ≤ 1048576) : Calls Tryz.prog 164 #[.string s] w (RetIf (wordOk s) w) := by
  have hl : s.data.toList.length = s.size := Array.length_toList
  obtain ⟨bs, hbs⟩ : ∃ bs, s.data.toList = bs := ⟨_, rfl⟩
  rw [hbs] at hl
  have Hbs := Lib.hid hbs
  clear hbs
  by_cases h1 : s.size < 1
  · have d1 : decide ((s.size : Int) < 1) = true := decide_eq_true (by omega)
    go_enter Tryz.func164, Tryz.ntmps164
    go_wp2
    go_ret
    exact ⟨false, rfl, by simp, Ext.refl _⟩
  have d1 : decide ((s.size : Int) < 1) = false := decide_eq_false (by omega)
  by_cases h2 : s.size ≤ 24
  case neg =>
    have d2 : decide ((s.size : Int) > 24) = true := decide_eq_true (by omega)
    go_enter Tryz.func164, Tryz.ntmps164
    go_wp2
    go_ret
    exact ⟨false, rfl, by simp, Ext.refl _⟩
  have d2 : decide ((s.size : Int) > 24) = false := decide_eq_false (by omega)
  go_enter Tryz.func164, Tryz.ntmps164
  go_wp2
  go_loopw [3] (fun vk wr => ∃ k : Nat, k ≤ bs.length ∧ vk = .int .i64 (k : Nat) ∧ Hid (∀ c ∈ bs.take k, wordC c) ∧ wr = w) (fun vk _ => bs.length - (intOf vk).toNat)
  case atStart => exact ⟨0, Nat.zero_le _, rfl, Lib.hid (by simp), rfl⟩
  case round =>
    obtain ⟨k, hk, rfl, Hk, rfl⟩ := hrel
    by_cases hlt : k < bs.length
    · have hks : k < s.size := by omega
      obtain ⟨x, hbx⟩ : ∃ x, bs[k] = x := ⟨_, rfl⟩
      have hsx : s[k] = x := by rw [← hbx]; exact u8_at Hbs.out hks hlt
      have Hx := Lib.hid hbx
      have e1 : decide ((k : Int) < (s.size : Int)) = true := decide_eq_true (by omega)
      clear hbx
      by_cases q1 : 33 ≤ x.toNat
      · have e2 : decide ((x.toNat : Int) < 33) = false := decide_eq_false (by omega)
        by_cases q2 : x.toNat ≤ 126
        · have e3 : decide ((x.toNat : Int) > 126) = false := decide_eq_false (by omega)
          have HK2 := Lib.hid (mem_take_succ hlt Hk.out (by rw [Hx.out]; exact ⟨q1, q2⟩))
          clear q1 q2
          go_wp2
          go_roundw
          case rel => exact ⟨k + 1, by omega, by go_num, HK2, trivial⟩
          case measure => simp [intOf] <;> omega
        · have e3 : decide ((x.toNat : Int) > 126) = true := decide_eq_true (by omega)
          clear q1 q2
          go_wp2
          go_ret
          exact ⟨false, rfl, by simp, Ext.refl _⟩
      · have e2 : decide ((x.toNat : Int) < 33) = true := decide_eq_true (by omega)
        clear q1
        go_wp2
        go_ret
        exact ⟨false, rfl, by simp, Ext.refl _⟩
    · obtain rfl : k = bs.length := by omega
      have e1 : decide ((bs.length : Int) < (s.size : Int)) = false := decide_eq_false (by omega)
      have hk2 := Hk.out
      rw [List.take_length] at hk2
      have HK2 := Lib.hid (show wordOk s from ⟨by omega, h2, by rw [Hbs.out]; exact hk2⟩)
      clear hk2
      go_wp2
      go_ret
      exact ⟨true, rfl, fun _ => HK2.out, Ext.refl _⟩
set_option maxRecDepth 100000 in
set_option maxHeartbeats 800000 in
theorem may4_any (A : Option Addr) (c : Nat) (l : List ByteArray) (w : World) (hs : Sl strEl w A l) (hn : l.length ≤ 1048576) (hb : ∀ s ∈ l, s.size ≤ 1048576) :
    Calls Tryz.prog 121 #[.slice A l.length c] w (RetIf (l.length ≤ 256 ∧ ∀ s ∈ l, wordOk s) w) := by
  by_cases h1 : l.length ≤ 256
  case neg =>
    have d1 : decide ((l.length : Int) > 256) = true := decide_eq_true (by omega)
    go_enter Tryz.func121, Tryz.ntmps121
    go_wp2
    go_ret
    exact ⟨false, rfl, by simp, Ext.refl _⟩
  have d1 : decide ((l.length : Int) > 256) = false := decide_eq_false (by omega)
  have Hb := Lib.hid hb
  clear hb
  go_enter Tryz.func121, Tryz.ntmps121
  go_wp2
  go_loopw [3] (fun vk wr => ∃ k : Nat, k ≤ l.length ∧ vk = .int .i64 (k : Nat) ∧ Hid (∀ s ∈ l.take k, wordOk s) ∧ Ext w wr) (fun vk _ => l.length - (intOf vk).toNat)
  case atStart => exact ⟨0, Nat.zero_le _, rfl, Lib.hid (by simp), Ext.refl _⟩
  case round =>
    obtain ⟨k, hk, rfl, Hk, hext⟩ := hrel
    by_cases hlt : k < l.length
    · obtain ⟨b, off, rfl, hb, hc⟩ := strAt hs hlt
      have hcr := (hext.cell (p := ⟨b, off + k, none⟩) hb).trans hc
      have Hw := Lib.hid (word4_any l[k] wr (Hb.out _ (List.getElem_mem hlt)))
      have Hstep := Lib.hid (fun h => mem_take_succ (P := wordOk) hlt Hk.out h)
      obtain ⟨s, hsk⟩ : ∃ s, l[k] = s := ⟨_, rfl⟩
      rw [hsk] at hcr Hw Hstep
      have e1 : decide ((k : Int) < (l.length : Int)) = true := decide_eq_true (by omega)
      clear hc hsk
      go_wp2_with fail
      refine (Hw.out).mono ?_
      rintro e w2 ⟨b, rfl, hb2, hx2⟩
      cases b with
      | true =>
        have HB := Lib.hid (Hstep.out (hb2 rfl))
        clear hb2
        go_wp2
        go_roundw
        case rel => exact ⟨k + 1, by omega, by go_num, HB, hext.trans hx2⟩
        case measure => simp [intOf]; omega
      | false =>
        go_wp2
        go_ret
        exact ⟨false, rfl, by simp, hext.trans hx2⟩
    · obtain rfl : k = l.length := by omega
      have e1 : decide ((l.length : Int) < (l.length : Int)) = false := decide_eq_false (by omega)
      have hk2 := Hk.out
      rw [List.take_length] at hk2
      have HK2 := Lib.hid hk2
      clear hk2
      go_wp2
      go_ret
      exact ⟨true, rfl, fun _ => ⟨h1, HK2.out⟩, hext⟩
theorem map_take_succ' {α β : Type} (f : α → β) (l : List α) (k : Nat) (hk : k < l.length) : (l.take (k + 1)).map f = (l.take k).map f ++ [f l[k]] := by
  rw [List.take_succ_eq_append_getElem hk, List.map_append]; rfl
set_option maxRecDepth 100000 in
set_option maxHeartbeats 400000 in
theorem texts6_any (A : Option Addr) (c : Nat) (l : List GWord) (w : World) (hs : Sl wordEl w A l) (hn : l.length ≤ 1048576) :
    Calls Tryz.prog 122 #[.slice A l.length c] w fun e w' => ∃ v, e = .returned v ∧ Own strEl w.heap.size w' v (l.map GWord.t) ∧ Ext w w' := by
  go_enter Tryz.func122, Tryz.ntmps122
  go_wp2
  go_loopw [3, 4] (fun out i wr => ∃ k : Nat, k ≤ l.length ∧ i = .int .i64 k ∧ Own strEl w.heap.size wr out ((l.take k).map GWord.t) ∧ Ext w wr) (fun _ i _ => l.length - (intOf i).toNat)
  case atStart => exact ⟨0, Nat.zero_le _, rfl, Own.made strEl (Nat.le_refl _), (Ext.refl _).alloc _⟩
  case round =>
    obtain ⟨k, hk, rfl, hown, hext⟩ := hrel
    by_cases hlt : k < l.length
    · obtain ⟨b, off, rfl, hb, hc, _, _, _⟩ := wordAt hs hlt
      have hcr := (hext.cell (p := ⟨b, off + k * 4, none⟩) hb).trans hc
      have hsz := hext.size
      obtain ⟨s, hsk⟩ : ∃ s, l[k].t = s := ⟨_, rfl⟩
      rw [hsk] at hcr
      have Hs := Lib.hid hsk
      clear hc hsk
      have hc1 : ((l.take k).map GWord.t).length + 1 ≤ 68719476736 := by rw [List.length_map, List.length_take]; omega
      go_wp2_with (at_builtin; refine wpList_app strEl rfl _ _ rfl 1 rfl (hown.ext (Ext.alloc (Ext.refl _) _)) (ys := [s]) rfl (Sl.new strEl rfl) hc1 (by simp; omega) ?_; intro v' w1 hown' hb1 hg1)
      have hext' : Ext w w1 := (hext.alloc _).trans' hb1
      go_wp2
      go_roundw
      case rel => exact ⟨k + 1, by omega, by go_num, by rw [map_take_succ' _ _ _ hlt, Hs.out]; exact hown', hext'⟩
      case measure => simp [intOf]; omega
    · obtain rfl : k = l.length := by omega
      rw [List.take_length] at hown
      go_wp2
      go_ret
      exact ⟨_, rfl, hown, hext⟩
def rowOk (l : List GWord) : Prop := l.length ≤ 256 ∧ ∀ x ∈ l, wordOk x.t
set_option maxRecDepth 100000 in
set_option maxHeartbeats 400000 in
theorem row6_any (A : Option Addr) (c : Nat) (l : List GWord) (w : World) (hs : Sl wordEl w A l) (hn : l.length ≤ 1048576) (hb : ∀ x ∈ l, x.t.size ≤ 1048576) :
    Calls Tryz.prog 84 #[.slice A l.length c] w (RetIf (rowOk l) w) := by
  by_cases h1 : l.length ≤ 256
  case neg =>
    have d1 : decide ((l.length : Int) ≤ 256) = false := decide_eq_false (by omega)
    go_enter Tryz.func84, Tryz.ntmps84
    go_wp2
    go_ret
    exact ⟨false, rfl, by simp, Ext.refl _⟩
  have d1 : decide ((l.length : Int) ≤ 256) = true := decide_eq_true (by omega)
  have Ht := Lib.hid (texts6_any A c l w hs hn)
  have Hm := Lib.hid (fun (B : Option Addr) (cb : Nat) (ws : List ByteArray) (wq : World) (h : ws = l.map GWord.t) (hsl : Sl strEl wq B ws) => may4_any B cb ws wq hsl (by rw [h, List.length_map]; exact hn) (by rw [h]; intro s hs; obtain ⟨x, hx, rfl⟩ := List.mem_map.1 hs; exact hb x hx))
  clear hb
  go_enter Tryz.func84, Tryz.ntmps84
  go_wp2_with fail
  refine (Ht.out).mono ?_
  rintro e w2 ⟨v, rfl, hown, hx2⟩
  obtain ⟨B, cb, rfl, hcb, hsb⟩ := hown.form
  obtain ⟨ws, hws⟩ : ∃ ws, l.map GWord.t = ws := ⟨_, rfl⟩
  rw [hws] at hsb hcb ⊢
  have Hm2 := Lib.hid (Hm.out B cb ws w2 hws.symm hsb)
  have Hws := Lib.hid hws
  clear hown hws
  go_wp2_with fail
  refine (Hm2.out).mono ?_
  rintro e w3 ⟨b, rfl, hb2, hx3⟩
  go_wp2
  go_ret
  refine ⟨b, rfl, fun h => ⟨h1, fun x hx => (hb2 h).2 _ ?_⟩, hx2.trans hx3⟩
  rw [← Hws.out]
  exact List.mem_map.2 ⟨x, hx, rfl⟩
def nestsB (p k : Int) : Bool := if p = 0 then decide (k = 1) || decide (k = 2) else if p = 1 then decide (k = 2) else if p = 2 ∨ p = 3 then decide (k = 3) || decide (k = 4) || decide (k = 7) else if p = 4 then decide (k = 5) else if p = 5 then decide (k = 6) else false
theorem nests_cases (p : Int) : p = 0 ∨ p = 1 ∨ p = 2 ∨ p = 3 ∨ p = 4 ∨ p = 5 ∨ ((p == 0) = false ∧ (p == 1) = false ∧ (p == 2) = false ∧ (p == 3) = false ∧ (p == 4) = false ∧ (p == 5) = false) := by
  simp only [beq_eq_false_iff_ne, ne_eq]; omega
theorem nests_kinds (k : Int) : k = 1 ∨ k = 2 ∨ k = 3 ∨ k = 4 ∨ k = 5 ∨ k = 6 ∨ k = 7 ∨ ((k == 1) = false ∧ (k == 2) = false ∧ (k == 3) = false ∧ (k == 4) = false ∧ (k == 5) = false ∧ (k == 6) = false ∧ (k == 7) = false) := by
  simp only [beq_eq_false_iff_ne, ne_eq]; omega
set_option maxRecDepth 100000 in
set_option maxHeartbeats 3200000 in
theorem nests_any (p k : Int) (w : World) : Calls Tryz.prog 48 #[.int .i64 p, .int .i64 k] w fun e w' => e = .returned (.bool (nestsB p k)) ∧ w' = w := by
  rcases nests_cases p with rfl | rfl | rfl | rfl | rfl | rfl | ⟨a0, a1, a2, a3, a4, a5⟩
  case inr.inr.inr.inr.inr.inr =>
    have hr : nestsB p k = false := by
      simp only [beq_eq_false_iff_ne, ne_eq] at a0 a1 a2 a3 a4 a5
      simp [nestsB, a0, a1, a2, a3, a4, a5]
    rw [hr]
    clear hr
    go_enter Tryz.func48, Tryz.ntmps48
    go_wp2
    go_ret
    exact ⟨rfl, rfl⟩
  all_goals
    rcases nests_kinds k with rfl | rfl | rfl | rfl | rfl | rfl | rfl | ⟨b1, b2, b3, b4, b5, b6, b7⟩
    case inr.inr.inr.inr.inr.inr.inr =>
      have hr : ∀ q, nestsB q k = false := fun q => by
        simp only [beq_eq_false_iff_ne, ne_eq] at b1 b2 b3 b4 b5 b6 b7
        simp [nestsB, b1, b2, b3, b4, b5, b6, b7]
      rw [hr]
      clear hr
      go_enter Tryz.func48, Tryz.ntmps48
      go_wp2
      go_ret
      exact ⟨rfl, rfl⟩
    all_goals
      go_enter Tryz.func48, Tryz.ntmps48
      go_wp2
      go_ret
      exact ⟨rfl, rfl⟩
end Go.Proofs.YtjhdamjbljafhaaGreatDoor
