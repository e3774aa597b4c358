/- Check, Valid: the walks. -/
import Derived.Test.YtiacmahfjcolaaaDoorEvery10
namespace Go.Proofs.YtiacmahfjcolaaaDoor
open Go.RowKit

/-- a block of one cell, seen by later worlds -/
theorem cellT {w w' : World} {B : Nat} {v : Value} {t : TypeId} {f : Nat × Nat} (h : w.heap[B]? = some (.cells #[v] t f)) (he : Ext w w') : (TCells [v]).p (.pointer (some ⟨B, 0, none⟩)) w' := by
  have hb := block_lt h
  refine ⟨B, 0, rfl, Nat.lt_of_lt_of_le hb he.size, fun j u hu => ?_⟩
  rw [he.cell (p := ⟨B, 0 + j, none⟩) hb]
  simp only [World.cell?, h, Nat.zero_add]
  simpa using hu
theorem flatMap_len {α β : Type} {F : α → List β} {m : Nat} : ∀ {l : List α}, (∀ x ∈ l, (F x).length ≤ m) → (l.flatMap F).length ≤ m * l.length
  | [], _ => by simp
  | x :: r, h => by
    have h1 := h x (by simp)
    have h2 := flatMap_len (l := r) fun y hy => h y (by simp [hy])
    rw [List.flatMap_cons, List.length_append, List.length_cons, Nat.mul_succ]
    omega
/-- where a walk through a tree stands whose visitor appends to a captured variable: block B -/
structure CInv {α : Type} (D : El Tryd.prog α) (W0 : World) (B : Nat) (F : GUnit → List α) (p : Nat → Bool) (acc : List GUnit) (w : World) : Prop where
  ext : Ext W0 w
  ge : W0.heap.size ≤ B
  dark : p B = true
  lt : ∀ j, p j = true → j < w.heap.size
  out : ∃ v, w.heap[B]? = some (.cells #[v] D.t (0, 0)) ∧ Own D (B + 1) w v (acc.flatMap F) ∧ ∀ g, v.ownBlock = some g → p g = true ∧ g ≠ B
section
variable {α : Type} {D : El Tryd.prog α} {W0 w w' wq w2 w3 : World} {B : Nat} {F : GUnit → List α} {p : Nat → Bool} {acc : List GUnit}
theorem CInv.grow (h : CInv D W0 B F p acc w) (he : Ext w w') : CInv D W0 B F p acc w' := by
  obtain ⟨v, h1, h2, h3⟩ := h.out
  exact ⟨h.ext.trans he, h.ge, h.dark, fun j hj => Nat.lt_of_lt_of_le (h.lt j hj) he.size, v, (he.block (block_lt h1)).trans h1, h2.ext he, h3⟩
/-- the visitor's step: what was appended, and where the row lies now -/
theorem CInv.step {x : GUnit} {v v' : Value} (h : CInv D W0 B F p acc w) (he : Ext w wq) (hown : Own D (B + 1) w v (acc.flatMap F)) (hpo : ∀ g, v.ownBlock = some g → p g = true ∧ g ≠ B) (hg2 : wq.grownBy w2 v.ownBlock) (hloc : v'.ownBlock = v.ownBlock ∨ v'.ownBlock = some wq.heap.size)
    (hown2 : Own D (B + 1) w2 v' (acc.flatMap F ++ F x)) (hw3 : ∀ k, k ≠ B → w3.heap[k]? = w2.heap[k]?) (hos : w3.os = w2.os) (htp : w3.tape = w2.tape) (hou : w3.output = w2.output) (hs : w3.heap.size = w2.heap.size) (hbk : w3.heap[B]? = some (.cells #[v'] D.t (0, 0))) :
    ∃ p', CInv D W0 B F p' (acc ++ [x]) w3 ∧ CIn (mask p w) (mask p' w3) := by
  obtain ⟨p', a1, a2, a3, a4, _, a6, a7⟩ := Own.step (B := W0.heap.size) he hown h.dark h.lt hpo hg2 hloc hown2 hw3 hos htp hou hs h.ge (by have := h.ge; omega) h.ext.size
  refine ⟨p', ⟨h.ext.trans' a7, h.ge, a1 _ h.dark, a2, v', hbk, ?_, a3⟩, a4⟩
  rw [List.flatMap_append, List.flatMap_singleton]
  exact a6
end

/-- a unit's own lists are short -/
def shortU (u : GUnit) : Prop := shortW u.words ∧ u.words.length ≤ 310 ∧ u.kids.length ≤ 1000 ∧ ∀ x ∈ u.kids, x.label.size ≤ 1048576
theorem findW_len (id : GId) (ks : List (Int × ByteArray)) : ∀ (l : List GWord) (i : Nat) (seen : List ByteArray), (findW id ks i seen l).length ≤ l.length
  | [], _, _ => by simp [findW]
  | x :: r, i, seen => by
    have h1 := findW_len id ks r (i + 1) (seen ++ [ancT x.t])
    have h2 := findW_len id ks r (i + 1) seen
    rw [findW]
    split
    · rw [List.length_append, List.length_cons]
      split
      · simp; omega
      · split <;> simp <;> omega
    · simp; omega
theorem findK_len (ks : List (Int × ByteArray)) (seen : List ByteArray) : ∀ (l : List GUnit) (i : Nat), (findK ks seen i l).length ≤ l.length
  | [], _ => by simp [findK]
  | x :: r, i => by
    have h1 := findK_len ks seen r (i + 1)
    rw [findK, List.length_append, List.length_cons]
    split <;> simp <;> omega
theorem ownF_len {u : GUnit} (h : shortU u) : (ownF u).length ≤ 1310 := by
  have h1 := findW_len u.id u.keys u.words 0 []
  have h2 := findK_len u.keys u.anchs u.kids 0
  obtain ⟨-, h3, h4, -⟩ := h
  unfold ownF
  rw [List.length_append]
  omega

set_option maxRecDepth 100000 in
set_option maxHeartbeats 1600000 in
theorem visitCheck (W0 : World) (B : Nat) (all : List GUnit) (hall : all.length ≤ 1000) (hsh : ∀ x ∈ all, shortU x) (p : Nat → Bool) (acc : List GUnit) (x : GUnit) (rx : RUnit) (w : World) (hin : ∃ rest, all = acc ++ x :: rest) (hr : Reads W0 x rx) (hI : CInv findEl W0 B ownF p acc w) :
    Calls Tryd.prog 41 #[.agg rx.cells.toArray, .pointer (some ⟨B, 0, none⟩)] w fun e w' => e = .returned (.tuple #[]) ∧ ∃ p', CInv findEl W0 B ownF p' (acc ++ [x]) w' ∧ CIn (mask p w) (mask p' w') := by
  obtain ⟨rest, hrest⟩ := hin
  have hsx := hsh x (by rw [hrest]; simp)
  have hla : (acc.flatMap ownF).length ≤ 1310 * acc.length := flatMap_len fun y hy => ownF_len (hsh y (by rw [hrest]; simp [hy]))
  have hal : acc.length ≤ 1000 := by rw [hrest] at hall; simp at hall; omega
  have hlx := ownF_len hsx
  obtain ⟨vO, hO1, hO2, hO3⟩ := hI.out
  have Hown := Lib.hid (show ∀ wq, Ext w wq → _ from fun wq he => own_any x rx wq (Reads.ext (hI.ext.trans he) _ _ hr) hsx.1 (by have := hsx.2.1; omega) (by have := hsx.2.2.1; omega) hsx.2.2.2)
  obtain ⟨L, hL⟩ : ∃ L, ownF x = L := ⟨_, rfl⟩
  rw [hL] at Hown hlx
  have HL := Lib.hid hL
  obtain ⟨Z, hZ⟩ : ∃ Z, acc.flatMap ownF = Z := ⟨_, rfl⟩
  rw [hZ] at hO2 hla
  have HZ := Lib.hid hZ
  have hx0 : Ext w (w.alloc (.cells rx.cells.toArray 27)) := (Ext.refl w).alloc _
  have hbx := fun w' he => boxT (w' := w') rx (w := w) he
  obtain ⟨ra, ri, rn, rk, rl, hdA, hn, hc, wA, wn, wc, kA, kn, kc⟩ := rx
  simp only [RUnit.cells] at Hown hx0 hbx ⊢
  obtain ⟨wb, hwb⟩ : ∃ wb, w.alloc (.cells #[.int .i64 ra, .int .i64 ri, .int .i64 rn, .int .i64 rk, .string rl, .slice hdA hn hc, .slice wA wn wc, .slice kA kn kc] 27) = wb := ⟨_, rfl⟩
  rw [hwb] at hx0 hbx
  have Hwb := Lib.hid hwb
  have Hbx := Lib.hid hbx
  have HO1 := Lib.hid hO1
  have HO2 := Lib.hid hO2
  have HO3 := Lib.hid hO3
  have HI := Lib.hid hI
  have Hx0 := Lib.hid hx0
  clear hwb hbx hL hZ hr hsx hsh hrest hO1 hO2 hO3 hI hx0
  go_enter Tryd.func41, Tryd.ntmps41
  go_wp2
  rw [Hwb.out]
  refine wp_drawn_tail 3 (fun i => match i with | 0 => Ty.is vO | 1 => Ty.is (.agg #[.int .i64 ra, .int .i64 ri, .int .i64 rn, .int .i64 rk, .string rl, .slice hdA hn hc, .slice wA wn wc, .slice kA kn kc]) | 2 => TOwn findEl wb.heap.size L | _ => Ty.any) (by kernel_rfl) (by kernel_rfl) (by kernel_rfl) (by decide) rfl ?_
  intro v
  refine ⟨?_, ?_, ?_, ?_⟩
  · intro wq hq hd
    refine ob_plain rfl ?_
    exact yld_loadOne 36 (.tmp 1) rfl Tryd.isAgg36 (c := vO) (cellT HO1.out (Hx0.out.trans hq)) rfl
  · intro wq hq hd
    refine ob_plain rfl ?_
    exact yld_loadAgg 27 (.tmp 2) rfl Tryd.isAgg27 8 Tryd.sizeOf27 [.int .i64 ra, .int .i64 ri, .int .i64 rn, .int .i64 rk, .string rl, .slice hdA hn hc, .slice wA wn wc, .slice kA kn kc] rfl (Hbx.out _ hq) rfl
  · intro wq hq hd
    obtain ⟨h0, -⟩ := hd
    change v 1 = _ at h0
    refine ob_plain rfl ?_
    refine yld_call 42 Tryd.call42 _ _ rfl rfl [_] ⟨h0, trivial⟩ ?_
    refine (Hown.out _ (Hx0.out.trans hq)).mono ?_
    rintro e w' ⟨v', rfl, ho, hx⟩
    exact ⟨_, rfl, hx, ho.mono hq.size⟩
  · intro wq hq hT
    have k0 := hT 0 (by decide)
    change v 0 = _ at k0
    have k2 := hT 2 (by decide)
    change Own findEl wb.heap.size wq (v 2) L at k2
    clear hT
    simp only [List.drop_succ_cons, List.drop_zero, putE, setsE, List.set_cons_succ, List.set_cons_zero, Nat.reduceAdd]
    rw [k0]
    generalize v 2 = x2 at k2 ⊢
    obtain ⟨A2, c2, rfl, hc2, hs2⟩ := k2.form
    have hxq := Hx0.out.trans hq
    have hBlt := block_lt HO1.out
    have hownq := HO2.out.ext hxq
    have hblk := (hxq.block hBlt).trans HO1.out
    have hsq := hxq.size
    clear k0 k2 hc2
    go_wp2_with (first | (at_builtin; refine wpList_appAt findEl rfl (.tmp 3) (.tmp 5) rfl c2 rfl hownq rfl hs2 (by omega) (by omega) ?_; intro v2 w2 hown2 hg2 hloc; have hblk2 := (hg2.block B (by omega) (fun h => (HO3.out _ h.symm).2 rfl)).trans hblk; obtain ⟨Z2, hZ2⟩ : ∃ Z2, Z ++ L = Z2 := ⟨_, rfl⟩; rw [hZ2] at hown2; have HZ2 := Lib.hid hZ2; clear hZ2; obtain ⟨A3, c3, hv3, -, -⟩ := hown2.form; subst hv3) |
      (refine wpList_put rfl 36 (.tmp 1) (.tmp 6) rfl B 0 (.slice A3 Z2.length c3) rfl rfl [.slice A3 Z2.length c3] rfl Tryd.sizeOf36 (by simp [Value.oneCell']) 36 _ hblk2 (by simp) ?_; intro w3 hw3 hos3 htp3 hou3 hs3 hbk3))
    (try simp only [Exit.inBlock, Exit.then])
    refine bodyPost_end (results_none rfl _ _ _) rfl ?_
    refine ⟨rfl, HI.out.step (x := x) hxq (by rw [HZ.out]; exact HO2.out) HO3.out hg2 hloc (by rw [HL.out, HZ.out, HZ2.out]; exact hown2) hw3 hos3 htp3 hou3 hs3 ?_⟩
    rw [hbk3]
    simp [findEl]

end Go.Proofs.YtiacmahfjcolaaaDoor
