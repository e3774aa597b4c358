/- paginate.Paginate: the pages of a tree. -/
import Derived.Test.YtjhdamjbljafhaaGreatDoorP45
namespace Go.Proofs.YtjhdamjbljafhaaGreatDoor
open Go.RowKit
def RetPag (w : World) (W H : Int) (N : Nat) (e : Ending) (w' : World) : Prop := ∃ (z : Int) (A : Option Addr) (c : Nat) (L : List (GPage × RPage)), e = .returned (.tuple #[.slice A (L.map Prod.snd).length c, .int .i64 z]) ∧ (L.map Prod.snd).length ≤ c ∧ Sl pageEl w' A (L.map Prod.snd) ∧ (∀ x ∈ L, PageO w' x.1 x.2) ∧ Ext w w' ∧ (z ≠ 0 → L = []) ∧ (z = 0 → PgOk W H (L.map Prod.fst) ∧ psum (L.map Prod.fst) = N ∧ (∀ p ∈ L.map Prod.fst, 1 ≤ pW p) ∧ W ≤ 200 ∧ H ≤ 200)
theorem groups_any (A : Option Addr) (n c : Nat) (w : World) : Calls Tryz.prog 13 #[.slice A n c] w fun e w' => e = .returned (.func (.func 32) #[] #[.pointer (some ⟨w.heap.size, 0, none⟩)]) ∧ w' = w.alloc (.cells #[.slice A n c] 47) := by
  go_enter Tryz.func13, Tryz.ntmps13
  go_wp2
  go_ret
  exact ⟨rfl, rfl⟩
theorem results_pag (tmps : Array Value) (w : World) (b6 b7 : Nat) (v6 v7 : Value) (h6 : tmps.getD 6 undef = .pointer (some ⟨b6, 0, none⟩)) (h7 : tmps.getD 7 undef = .pointer (some ⟨b7, 0, none⟩)) (c6 : w.cell? ⟨b6, 0, none⟩ = some v6) (c7 : w.cell? ⟨b7, 0, none⟩ = some v7) :
    (results Tryz.f5 tmps).run Tryz.prog w = .ok (.tuple #[v6, v7]) w := by
  have e6 : tmps[6]?.getD undef = .pointer (some ⟨b6, 0, none⟩) := by simpa using h6
  have e7 : tmps[7]?.getD undef = .pointer (some ⟨b7, 0, none⟩) := by simpa using h7
  have a1 := Tryz.isAgg29
  have a2 := Tryz.isAgg30
  simp [results, Tryz.f5, go_sem, c6, c7, e6, e7, a1, a2]
theorem wpList_end {P : Program} {ops : Array Oper} {R : Act → World → Prop} {a : Act} {w : World} (h : R a w) : wpList P ops (Qn R) [] a w := h
theorem kf_ext {B : Nat} {W W' : World} (h : Ext W W') : KeepsFrom B W W' := ⟨h.size, fun k o _ hk _ => (h.block (Array.getElem?_eq_some_iff.1 hk).1).trans hk⟩
theorem kf_put {B g : Nat} {W W' : World} {cs : Array Value} {t : TypeId} {fr : Nat × Nat} (hg : W.heap[g]? = some (.cells cs t fr)) (hw : ∀ k, k ≠ g → W'.heap[k]? = W.heap[k]?) (hs : W'.heap.size = W.heap.size) : KeepsFrom B W W' :=
  ⟨by omega, fun k o _ hk ho => (hw k (by rintro rfl; rw [hg] at hk; cases hk; cases ho)).trans hk⟩
theorem kf_own {P : Program} {α : Type} {D : El P α} {B base : Nat} {W W' : World} {v : Value} {xs : List α} (hown : Own D base W v xs) (hg : W.grownBy W' v.ownBlock) : KeepsFrom B W W' :=
  ⟨hg.size, fun k o _ hk ho => (hg.block k (Array.getElem?_eq_some_iff.1 hk).1 (fun e => by
    obtain ⟨-, cur, hc⟩ := hown.bd e.symm
    rw [hc] at hk
    cases hk
    cases ho)).trans hk⟩
def TPgO (p : GPage) : Ty := ⟨fun v w => ∃ r : RPage, v = .agg r.cells.toArray ∧ PageO w p r, fun _ _ _ he ⟨r, h1, h2⟩ => ⟨r, h1, h2.ext he⟩⟩
def TPgR (p : GPage) : Ty := ⟨fun v w => ∃ r : RPage, Own pageEl 0 w v [r] ∧ PageO w p r, fun _ _ _ he ⟨r, h1, h2⟩ => ⟨r, h1.ext he, h2.ext he⟩⟩
theorem yld_buildPg {ρ : Operand → Value} {o : Oper} {w : World} {p : GPage} {r : RPage} (x : Operand) (ho : o.op = .buildSlice 29 1 #[(0, x)]) (hx : ρ x = .agg r.cells.toArray) (hp : PageO w p r) : Yld Tryz.prog ρ o w (TPgR p).p := by
  refine yld_run (w' := w.alloc (.cells (pageEl.flat [r]).toArray pageEl.e)) (v := .slice (some ⟨w.heap.size, 0, none⟩) 1 1) ?_ ((Ext.refl _).alloc _) ⟨r, Own.lit pageEl (Nat.zero_le _) (by simp) (by simp), hp.ext ((Ext.refl _).alloc _)⟩
  obtain ⟨n, h, lA, ln, lc, nA, nn, nc⟩ := r
  simp only [execOp, ho, List.map_toArray, List.map_cons, List.map_nil, hx, El.flat, List.flatMap_cons, List.flatMap_nil, List.append_nil, pageEl, RPage.cells]
  go_simp
theorem chain_cast {n m : Nat} (h : n = m) {l : List (Nat × Nat)} (hc : Chain n 0 l n) : Chain m 0 l m := h ▸ hc
structure PFin (w : World) (L : List (GPage × RPage)) (vo : Value) (W : World) : Prop where
  ext : Ext w W
  out : Own pageEl 0 W vo (L.map Prod.snd)
  pgs : ∀ x ∈ L, PageO W x.1 x.2
theorem PFin.keep {w W W' : World} {L : List (GPage × RPage)} {vo : Value} (h : PFin w L vo W) (he : Ext w W') (hk : ∀ {k : Nat} {cs : Array Value} {t : TypeId} {fr : Nat × Nat}, (t = 37 ∨ t = 9) → W.heap[k]? = some (.cells cs t fr) → W'.heap[k]? = W.heap[k]?) : PFin w L vo W' := by
  have ho : ∀ {P : Program} {α : Type} {D : El P α} {v : Value} {base : Nat} {xs : List α}, Own D base W v xs → (D.e = 37 ∨ D.e = 9) → Own D base W' v xs := fun {P α D v base xs} h ht => h.keep fun k e => hk ht (h.bd e).2.choose_spec
  exact ⟨he, ho h.out (.inl rfl), fun x hx => (h.pgs x hx).keep (ho (h.pgs x hx).l (.inr rfl)) (ho (h.pgs x hx).f (.inr rfl))⟩
theorem PFin.put {w W W' : World} {L : List (GPage × RPage)} {vo : Value} (h : PFin w L vo W) {g : Nat} {cs : Array Value} {t : TypeId} {fr : Nat × Nat} (hg : W.heap[g]? = some (.cells cs t fr)) (ht : t = 29 ∨ t = 30) (hl : w.heap.size ≤ g) (hw : ∀ k, k ≠ g → W'.heap[k]? = W.heap[k]?) (hos : W'.os = W.os) (htp : W'.tape = W.tape) (hou : W'.output = W.output) (hs : W'.heap.size = W.heap.size) : PFin w L vo W' :=
  h.keep (h.ext.put hl hw hos htp hou hs) fun {k cs2 t2 fr2} ht2 hk => hw k fun e => by
    subst e
    rw [hg] at hk
    cases hk
    rcases ht with rfl | rfl <;> rcases ht2 with e | e <;> exact absurd e (by decide)
theorem PFin.obj {w W : World} {L : List (GPage × RPage)} {vo : Value} (h : PFin w L vo W) {D : Nat} {o o' : Obj} (hD : W.heap[D]? = some o) (hc : o.isCells = false) (hl : w.heap.size ≤ D) : PFin w L vo (W.putObj D o') :=
  h.keep (h.ext.grown (grownBy_putObj' W D o') h.ext.size (fun k e => by cases e; exact hl)) fun {k cs2 t2 fr2} _ hk => (grownBy_putObj' W D o').block k (block_lt hk) (fun e => by
    cases e
    rw [hD] at hk
    cases hk
    cases hc)
def PInv (w0 ws : World) (b9 b10 : Nat) (W H : Int) (xs : List GLn) (pre : List (Pc (xs.map Prod.fst).length)) (w : World) : Prop := ∃ (L : List (GPage × RPage)) (now : List GLn) (vo vn : Value), PSt w0 ws b9 b10 L now vo vn w ∧ PgOk W H (L.map Prod.fst) ∧ (∀ p ∈ L.map Prod.fst, 1 ≤ pW p) ∧ (∀ x ∈ now, LnOk W x) ∧ psum (L.map Prod.fst) + wsum now = piecesW xs (pre.map Subtype.val) ∧ (now ≠ [] → (highF now : Int) ≤ H) ∧ L.length ≤ pre.length ∧ L.length ≤ xs.length + 1
def PEx (w : World) (b6 b7 : Nat) (n : Nat) (c : Code) (_ : List (Pc n)) (W : World) : Prop := c = .ret ∧ Ext w W ∧ b6 < W.heap.size ∧ b7 < W.heap.size ∧ W.heap[b6]? = some (.cells #[.slice none 0 0] 29 (0, 0)) ∧ W.heap[b7]? = some (.cells #[.int .i64 6] 30 (0, 0))
theorem PInv.own {w0 ws : World} {b9 b10 : Nat} {W H : Int} {xs : List GLn} : OwnFrom ws.heap.size (PInv w0 ws b9 b10 W H xs) := fun pre A B row h hg hr => by
  obtain ⟨L, now, vo, vn, h1, h2⟩ := h
  exact ⟨L, now, vo, vn, h1.other hg hr, h2⟩
theorem PEx.own {w : World} {B b6 b7 n : Nat} (hB : w.heap.size ≤ B) (c : Code) : OwnFrom B (PEx w b6 b7 n c) := fun pre X Y row h hg hr => by
  obtain ⟨rfl, h1, h2, h3, h4, h5⟩ := h
  have hb : ∀ {k : Nat} {cs : Array Value} {t : TypeId} {fr : Nat × Nat}, X.heap[k]? = some (.cells cs t fr) → Y.heap[k]? = X.heap[k]? := fun {k cs t fr} hk => hg.block k (block_lt hk) (fun e => by
    obtain ⟨-, o, ho, hc⟩ := hr k e.symm
    rw [hk] at ho
    cases ho
    cases hc)
  exact ⟨rfl, h1.grown hg h1.size (fun k e => Nat.le_trans hB (hr k e).1), Nat.lt_of_lt_of_le h2 hg.size, Nat.lt_of_lt_of_le h3 hg.size, (hb h4).trans h4, (hb h5).trans h5⟩
theorem GIn.book {Bx : Nat} {A : Option Addr} {c : Nat} {rs : List RLine} (W : World) (l : Nat) (o o' : Obj) {B : Nat} (_ : B ≤ l) (h : W.heap[l]? = some o) (hc : o.isCells = false) (_ : o.isWalk = false) (hG : GIn Bx A c rs W) : GIn Bx A c rs (W.putObj l o') := by
  have hci : CIn W (W.putObj l o') := by
    have hg := grownBy_putObj' W l o'
    refine ⟨hg.size, fun p v hv => ?_⟩
    have hlt := World.block_lt_of_cell? W p hv
    have hne : p.block ≠ l := by
      rintro rfl
      unfold World.cell? at hv
      rw [h] at hv
      cases o <;> first | (simp at hv; done) | (cases hc)
    have hb := hg.block _ hlt (fun e => hne (by cases e; rfl))
    unfold World.cell? at hv ⊢
    rw [hb]
    exact hv
  exact ⟨Nat.lt_of_lt_of_le hG.1 hci.size, hci.cell _ _ hG.2.1, hG.2.2.cin hci⟩
set_option maxRecDepth 100000 in
set_option maxHeartbeats 12800000 in
theorem paginate_any (u : GUnit) (r : RUnit) (W H : Int) (w : World) (hr : Reads w u r) (hok : OkU u) (hT : Tabs w) (hid : idsOk u) (hv : AllU ValidP u) : Calls Tryz.prog 5 #[.agg r.cells.toArray, .int .i64 W, .int .i64 H] w (RetPag w W H (totL u.kids)) := by
  have hbx := BoxU.new r w
  have hx0 : Ext w (w.alloc (.cells r.cells.toArray 27)) := (Ext.refl w).alloc _
  obtain ⟨w1, hw1⟩ : ∃ w1, w.alloc (.cells r.cells.toArray 27) = w1 := ⟨_, rfl⟩
  have hs1 : w1.heap.size = w.heap.size + 1 := by rw [← hw1]; simp
  rw [hw1] at hbx hx0
  have hHb := heap_alloc_new w1 (.cells #[.int .i64 H] 3)
  have hx1 : Ext w1 (w1.alloc (.cells #[.int .i64 H] 3)) := (Ext.refl w1).alloc _
  obtain ⟨w2, hw2⟩ : ∃ w2, w1.alloc (.cells #[.int .i64 H] 3) = w2 := ⟨_, rfl⟩
  have hs2 : w2.heap.size = w.heap.size + 2 := by rw [← hw2]; simp; omega
  rw [hw2, hs1] at hHb
  rw [hw2] at hx1
  have hb6 := heap_alloc_new w2 (.cells #[.slice none 0 0] 29)
  have hx2 : Ext w2 (w2.alloc (.cells #[.slice none 0 0] 29)) := (Ext.refl w2).alloc _
  obtain ⟨w3, hw3⟩ : ∃ w3, w2.alloc (.cells #[.slice none 0 0] 29) = w3 := ⟨_, rfl⟩
  have hs3 : w3.heap.size = w.heap.size + 3 := by rw [← hw3]; simp; omega
  rw [hw3, hs2] at hb6
  rw [hw3] at hx2
  have hb7 := heap_alloc_new w3 (.cells #[.int .i64 0] 30)
  have hx3 : Ext w3 (w3.alloc (.cells #[.int .i64 0] 30)) := (Ext.refl w3).alloc _
  obtain ⟨wb, hwb⟩ : ∃ wb, w3.alloc (.cells #[.int .i64 0] 30) = wb := ⟨_, rfl⟩
  have hsb : wb.heap.size = w.heap.size + 4 := by rw [← hwb]; simp; omega
  rw [hwb, hs3] at hb7
  rw [hwb] at hx3
  have Hx0 := Lib.hid (hx0.trans (hx1.trans (hx2.trans hx3)))
  have Hut := Lib.hid (hbx.ext (hx1.trans (hx2.trans hx3)))
  have HHb := Lib.hid (((hx2.trans hx3).block (by omega)).trans hHb)
  have Hb6 := Lib.hid ((hx3.block (by omega)).trans hb6)
  have Hb7 := Lib.hid hb7
  rw [← hw3, ← hw2, ← hw1] at hwb
  have Hwb := Lib.hid hwb
  have Hwr := Lib.hid (fun wq (he : Ext wb wq) => wrongP_any u r W wq (Reads.ext (Hx0.out.trans he) u r hr) hok (hT.ext (Hx0.out.trans he)) hid)
  have Hbody := Lib.hid (fun (h1 : 24 ≤ W) (h2 : W ≤ 200) wq (he : Ext wb wq) => body_any (SizeOf.sizeOf u) u r W true wq (Nat.le_refl _) (Reads.ext (Hx0.out.trans he) u r hr) hok (hT.ext (Hx0.out.trans he)) hv h1 h2)
  have Hpage := Lib.hid (fun (num : Nat) (A : Option Addr) (c : Nat) (xs : List GLn) wq (he : Ext wb wq) (hs : Sl lineEl wq A (xs.map Prod.fst)) (hn : ∀ x ∈ xs, NoteO wq x) (h1 : 1 ≤ xs.length) (hb : xs.length + nsum xs ≤ 10000000) => page_any u r num A c xs wq (Reads.ext (Hx0.out.trans he) u r hr) hok (hT.ext (Hx0.out.trans he)) hs hn h1 hb)
  have Htot := Lib.hid (body_true u hv)
  have hbnd := body_bound (root := true) hok hv
  have Hbnd := Lib.hid hbnd
  clear hr hok hT hid hv hbx hx0 hx1 hx2 hx3 hHb hb6 hb7 hw1 hw2 hw3 hwb hbnd hs1 hs2 hs3
  obtain ⟨ra, ri, rn, rk, rl, hdA, hn, hc, wA, wn, wc', kA, kn, kc⟩ := r
  simp only [RUnit.cells] at Hwb Hwr Hbody Hpage ⊢
  refine (callsIn_wide (n := 8)).1 (callsIn_of_wp_marks Tryz.func5 rfl trivial ?_ rfl)
  simp only [Tryz.ntmps5, List.size_toArray, List.length_cons, List.length_nil, Nat.reduceAdd, Nat.reduceSub, Array.replicate_succ, Array.replicate_zero, List.push_toArray, List.append_toArray, List.nil_append, List.cons_append]
  refine wpIn_wide.2 ?_
  go_wp2_with fail
  rw [Hwb.out]
  refine (Hwr.out wb (Ext.refl _)).mono ?_
  rintro e w4 ⟨z, rfl, hx4, hz⟩
  have Hz := Lib.hid hz
  clear hz
  have H6 := Lib.hid ((hx4.block (block_lt Hb6.out)).trans Hb6.out)
  have H7 := Lib.hid ((hx4.block (block_lt Hb7.out)).trans Hb7.out)
  have hH4 := (hx4.block (block_lt HHb.out)).trans HHb.out
  have Hx4 := Lib.hid hx4
  have hs4 := hx4.size
  clear hx4
  by_cases hz0 : z = 0
  · subst hz0
    obtain ⟨hW1, hW2⟩ := Hz.out rfl
    clear Hz
    have hut4 := (Hut.out.ext Hx4.out).t
    have hHc : w4.cell? ⟨w.heap.size + 1, 0, none⟩ = some (.int .i64 H) := by simp [World.cell?, hH4]
    by_cases hh : H < 2
    · have e2 : decide (H < 2) = true := decide_eq_true hh
      have h6 := H6.out
      have h7 := H7.out
      go_wp2_with (first | (refine wpList_put rfl 29 (.tmp 6) _ rfl (w.heap.size + 2) 0 (.slice none 0 0) rfl rfl [.slice none 0 0] rfl Tryz.sizeOf29 (by simp [Value.oneCell']) 29 _ h6 (by simp) ?_; intro wy hwy hosy htpy houy hsy hbky; have h7y := (hwy (w.heap.size + 3) (by omega)).trans h7; have hxy := Ext.put (Hx0.out.trans Hx4.out) (by omega) hwy hosy htpy houy hsy; clear hwy hosy htpy houy hsy) |
        (refine wpList_put rfl 30 (.tmp 7) _ rfl (w.heap.size + 3) 0 (.int .i64 3) rfl rfl [.int .i64 3] rfl Tryz.sizeOf30 (by simp [Value.oneCell']) 30 _ h7y (by simp) ?_; intro wz hwz hosz htpz houz hsz hbkz; have h6z := (hwz (w.heap.size + 2) (by omega)).trans hbky; have hxz := Ext.put hxy (by omega) hwz hosz htpz houz hsz; clear hwz hosz htpz houz hsz hbky h7y hxy))
      have q6 : wz.cell? ⟨w.heap.size + 2, 0, none⟩ = some (.slice none 0 0) := by simp [World.cell?, h6z]
      have q7 : wz.cell? ⟨w.heap.size + 3, 0, none⟩ = some (.int .i64 3) := by simp [World.cell?, hbkz]
      exact ⟨_, results_pag _ _ (w.heap.size + 2) (w.heap.size + 3) _ _ rfl rfl q6 q7, 3, none, 0, [], rfl, Nat.zero_le _, Sl.nil, by simp, hxz, fun _ => rfl, fun h => absurd h (by decide)⟩
    by_cases hh2 : H > 200
    · have e2 : decide (H < 2) = false := decide_eq_false hh
      have e3 : decide (H > 200) = true := decide_eq_true hh2
      have e4 : decide (200 < H) = true := decide_eq_true hh2
      have h6 := H6.out
      have h7 := H7.out
      go_wp2_with (first | (refine wpList_put rfl 29 (.tmp 6) _ rfl (w.heap.size + 2) 0 (.slice none 0 0) rfl rfl [.slice none 0 0] rfl Tryz.sizeOf29 (by simp [Value.oneCell']) 29 _ h6 (by simp) ?_; intro wy hwy hosy htpy houy hsy hbky; have h7y := (hwy (w.heap.size + 3) (by omega)).trans h7; have hxy := Ext.put (Hx0.out.trans Hx4.out) (by omega) hwy hosy htpy houy hsy; clear hwy hosy htpy houy hsy) |
        (refine wpList_put rfl 30 (.tmp 7) _ rfl (w.heap.size + 3) 0 (.int .i64 3) rfl rfl [.int .i64 3] rfl Tryz.sizeOf30 (by simp [Value.oneCell']) 30 _ h7y (by simp) ?_; intro wz hwz hosz htpz houz hsz hbkz; have h6z := (hwz (w.heap.size + 2) (by omega)).trans hbky; have hxz := Ext.put hxy (by omega) hwz hosz htpz houz hsz; clear hwz hosz htpz houz hsz hbky h7y hxy))
      have q6 : wz.cell? ⟨w.heap.size + 2, 0, none⟩ = some (.slice none 0 0) := by simp [World.cell?, h6z]
      have q7 : wz.cell? ⟨w.heap.size + 3, 0, none⟩ = some (.int .i64 3) := by simp [World.cell?, hbkz]
      exact ⟨_, results_pag _ _ (w.heap.size + 2) (w.heap.size + 3) _ _ rfl rfl q6 q7, 3, none, 0, [], rfl, Nat.zero_le _, Sl.nil, by simp, hxz, fun _ => rfl, fun h => absurd h (by decide)⟩
    have e2 : decide (H < 2) = false := decide_eq_false hh
    have e3 : decide (H > 200) = false := decide_eq_false hh2
    have e4 : decide (200 < H) = false := decide_eq_false hh2
    have hc9 := heap_alloc_new w4 (.cells #[.slice none 0 0] 29)
    have hxa : Ext w4 (w4.alloc (.cells #[.slice none 0 0] 29)) := (Ext.refl w4).alloc _
    have hcx := heap_alloc_new (w4.alloc (.cells #[.slice none 0 0] 29)) (.cells #[.slice none 0 0] 47)
    have hxb : Ext (w4.alloc (.cells #[.slice none 0 0] 29)) ((w4.alloc (.cells #[.slice none 0 0] 29)).alloc (.cells #[.slice none 0 0] 47)) := (Ext.refl _).alloc _
    rw [World.size_alloc] at hcx
    have hc9b := (hxb.block (by simp)).trans hc9
    have hut5 := (((Hut.out.ext Hx4.out).ext hxa).ext hxb)
    obtain ⟨w5, hw5⟩ : ∃ w5, (w4.alloc (.cells #[.slice none 0 0] 29)).alloc (.cells #[.slice none 0 0] 47) = w5 := ⟨_, rfl⟩
    obtain ⟨hbu, f0, f1, f2, f3, f4, f5, f6, f7⟩ := hut5
    dsimp only at f0 f1 f2 f3 f4 f5 f6 f7
    have hx5 := hxa.trans hxb
    rw [hw5] at hx5 hcx hc9b
    have Hc9 := Lib.hid hc9b
    have Hc10 := Lib.hid hcx
    have Hx5 := Lib.hid hx5
    have Hw5 := Lib.hid hw5
    have hs5 := hx5.size
    clear hc9 hxa hcx hxb hc9b hx5 hw5 hut4
    go_wp2_with fail
    rw [Hw5.out]
    refine (Hbody.out hW1 hW2 w5 (Hx4.out.trans Hx5.out)).mono ?_
    rintro e w6 ⟨A, c, xs, rfl, hcc, hs, hn, hl, hsum, hx6⟩
    have Hs := Lib.hid hs
    have Hn := Lib.hid hn
    have Hl := Lib.hid hl
    have Hsum := Lib.hid hsum
    have Hx6 := Lib.hid hx6
    have Hga := Lib.hid (groups_any A xs.length c w6)
    clear hs hn hl hsum hx6 f0 f1 f2 f3 f4 f5 f6 f7 Hbody Hwr hHc
    go_wp2_with fail
    refine (Hga.out).mono ?_
    rintro e w7 ⟨rfl, rfl⟩
    go_wp2_with fail
    obtain ⟨ws, hws⟩ : ∃ ws, w6.alloc (.cells #[.slice A xs.length c] 47) = ws := ⟨_, rfl⟩
    have hx7 : Ext w6 ws := hws ▸ (Ext.refl w6).alloc _
    have hG0 : GIn w6.heap.size A c (xs.map Prod.fst) ws := by
      have h1 := heap_alloc_new w6 (.cells #[.slice A xs.length c] 47)
      rw [hws] at h1
      refine ⟨block_lt h1, ?_, Hs.out.ext hx7⟩
      rw [List.length_map]
      simp [World.cell?, h1]
    have Hx7 := Lib.hid hx7
    have hsz6 := Hx6.out.size
    have hsz7 := hx7.size
    have Hc9s := Lib.hid ((hx7.block (by have := block_lt Hc9.out; omega)).trans ((Hx6.out.block (block_lt Hc9.out)).trans Hc9.out))
    have Hc10s := Lib.hid ((hx7.block (by have := block_lt Hc10.out; omega)).trans ((Hx6.out.block (block_lt Hc10.out)).trans Hc10.out))
    have HXs := Lib.hid (((Hx4.out.trans Hx5.out).trans Hx6.out).trans hx7)
    have Hxl := Lib.hid (show (xs.map Prod.fst).length = xs.length from List.length_map _)
    have HG0 := Lib.hid hG0
    have HSls := Lib.hid (Hs.out.ext hx7)
    have Hns := Lib.hid (fun x hx => (Hn.out x hx).ext hx7)
    have hlen := wsum_len xs Hl.out
    have Hsum2 := Lib.hid (Hsum.out.trans Htot.out)
    have hxs6 : xs.length + nsum xs ≤ 602000 := by have h1 := Hbnd.out; have h2 := Hsum.out; unfold nsum; omega
    rw [hws]
    have Hgin := Lib.hid (fun W' (hl : Lo ws w4.heap.size (w4.heap.size + 1) W') => (⟨Nat.lt_of_lt_of_le HG0.out.1 hl.size, (hl.cell (p := ⟨w6.heap.size, 0, none⟩) HG0.out.1 (by have := block_lt Hc10.out; dsimp only; omega) (by have := block_lt Hc10.out; dsimp only; omega)).trans HG0.out.2.1, hl.sl HSls.out fun hne a ha => ⟨lines_ne HSls.out Hc9s.out hne a ha, lines_ne HSls.out Hc10s.out hne a ha⟩⟩ : GIn w6.heap.size A c (xs.map Prod.fst) W'))
    clear hx7 hG0 Hs Hn hws
    refine wpIn_wide.1 (wpIn_rangeFunc_ownG (n := 8) rfl (by omega) (gf := 32) (lb := #[.pointer (some ⟨w6.heap.size, 0, none⟩)]) rfl trivial (enters_of Tryz.func32 (by kernel_rfl) rfl)
      (groups_stops 7 w6.heap.size A c (xs.map Prod.fst) ws (by omega) HG0.out (by rw [List.length_map]; exact hcc) (by rw [List.length_map]; omega) (fun W W' => GIn w6.heap.size A c (xs.map Prod.fst) W → GIn w6.heap.size A c (xs.map Prod.fst) W') (fun W W' h k => k h))
      (fun h k => fun g => k (h g)) (fun W l o o' h1 h2 h3 h4 => GIn.book W l o o' h1 h2 h3 h4) (Below.refl _ _) (fun _ => rfl)
      (PInv wb ws w4.heap.size (w4.heap.size + 1) W H xs) (PEx w (w.heap.size + 2) (w.heap.size + 3) _) PInv.own (PEx.own (by omega)) (⟨[], [], _, _, ⟨HXs.out, Lo.refl _ _ _, by omega, by omega, by omega, by omega, Hc9s.out, Hc10s.out, Own.nil _, by simp, Own.nil _, by simp⟩, PgOk.nil, by simp, by simp, by simp [psum, wsum, piecesW], fun h => absurd rfl h, by simp, by simp⟩) ?a1 ?assign ?body ?done ?stop)
    case assign =>
      intro l x W K hK
      refine wpIn_text (by kernel_rfl) ?_
      go_wp2
      exact hK
    case body =>
      rintro l pre ⟨⟨pa, pb⟩, hpab, hpbn⟩ Wr ⟨L, now, vo, vn, hS, hP1, hP2, hP3, hP4, hP5, hP6, hP7⟩ hpl
      dsimp only at hpab hpbn ⊢
      have hpb2 : pb ≤ xs.length := by have := Hxl.out; omega
      have hpl2 : pre.length < xs.length + 1 := by have := Hxl.out; omega
      have hsx : Sl lineEl Wr A (xs.map Prod.fst) := hS.lo.sl HSls.out fun hne a ha => ⟨lines_ne HSls.out Hc9s.out hne a ha, lines_ne HSls.out Hc10s.out hne a ha⟩
      have hnx : ∀ x ∈ xs, NoteO Wr x := fun x hx => ⟨hS.lo.own (Hns.out x hx).1 (fun e => (Hns.out x hx).1.ne Hc9s.out (by decide) _ e rfl) (fun e => (Hns.out x hx).1.ne Hc10s.out (by decide) _ e rfl), (Hns.out x hx).2⟩
      obtain ⟨A1, hpv, hsgs⟩ := piece_sl HSls.out hpab hpbn (by rw [Hxl.out]; exact hcc)
      rw [← pieceL_fst xs (pa, pb)] at hpv hsgs
      have hsgw : ∀ W', Lo ws w4.heap.size (w4.heap.size + 1) W' → Sl lineEl W' A1 ((pieceL xs (pa, pb)).map Prod.fst) := fun W' hl => hl.sl hsgs fun hne a ha => ⟨lines_ne hsgs Hc9s.out hne a ha, lines_ne hsgs Hc10s.out hne a ha⟩
      have hgnw : ∀ W', Lo ws w4.heap.size (w4.heap.size + 1) W' → ∀ x ∈ pieceL xs (pa, pb), NoteO W' x := fun W' hl x hx => ⟨hl.own (Hns.out x (pieceL_mem hx)).1 (fun e => (Hns.out x (pieceL_mem hx)).1.ne Hc9s.out (by decide) _ e rfl) (fun e => (Hns.out x (pieceL_mem hx)).1.ne Hc10s.out (by decide) _ e rfl), (Hns.out x (pieceL_mem hx)).2⟩
      have hsg := hsgw Wr hS.lo
      have hgn : ∀ x ∈ pieceL xs (pa, pb), NoteO Wr x := fun x hx => hnx x (pieceL_mem hx)
      have hgl : ∀ x ∈ pieceL xs (pa, pb), LnOk W x := fun x hx => Hl.out x (pieceL_mem hx)
      have hgw := wsum_piece xs (pa, pb)
      have hgsz := wsum_len _ hgl
      have Hst := Lib.hid (show piecesW xs ((pre ++ [(⟨(pa, pb), hpab, hpbn⟩ : Pc (xs.map Prod.fst).length)]).map Subtype.val) = piecesW xs (pre.map Subtype.val) + wsum (pieceL xs (pa, pb)) by simp [piecesW])
      have Hpre := Lib.hid (show (pre ++ [(⟨(pa, pb), hpab, hpbn⟩ : Pc (xs.map Prod.fst).length)]).length = pre.length + 1 by simp)
      obtain ⟨pre', hpre'⟩ : ∃ pre', pre ++ [(⟨(pa, pb), hpab, hpbn⟩ : Pc (xs.map Prod.fst).length)] = pre' := ⟨_, rfl⟩
      rw [hpre'] at Hst Hpre ⊢
      rw [hpv]
      obtain ⟨g, hg⟩ : ∃ g, pieceL xs (pa, pb) = g := ⟨_, rfl⟩
      rw [hg] at hsg hgn hgl hgw hgsz Hst hsgw hgnw ⊢
      have Hsgw := Lib.hid hsgw
      have Hgnw := Lib.hid hgnw
      clear hsgw hgnw hsgs
      have hgb : g.length + nsum g ≤ 602000 := by have h1 := Hbnd.out; have h2 := Hsum.out; unfold nsum; omega
      have Hhg := Lib.hid (fun wq (he : Ext Wr wq) => high_any A1 (c - pa) g wq (hsg.ext he) (fun x hx => (hgn x hx).2) (by omega))
      obtain ⟨gl, hgl2⟩ : ∃ gl, (g.map Prod.fst).length = gl := ⟨_, rfl⟩
      have Hgl := Lib.hid hgl2
      rw [hgl2]
      rw [List.length_map] at hgl2
      rw [hgl2] at Hhg
      obtain ⟨cc, hcc2⟩ : ∃ cc, c - pa = cc := ⟨_, rfl⟩
      rw [hcc2] at Hhg ⊢
      obtain ⟨hg', hhg⟩ : ∃ k, highF g = k := ⟨_, rfl⟩
      have HhF := Lib.hid hhg
      rw [hhg] at Hhg
      have hH4 : Wr.cell? ⟨w.heap.size + 1, 0, none⟩ = some (.int .i64 H) := by
        have := (hS.ext.block (block_lt HHb.out)).trans HHb.out
        simp [World.cell?, this]
      have HHq := Lib.hid (fun wq (he : Ext Wr wq) => (show (TCells [.int .i64 H]).p (.pointer (some ⟨w.heap.size + 1, 0, none⟩)) wq from boxT_of (cs := [.int .i64 H]) (((hS.ext.trans he).block (block_lt HHb.out)).trans HHb.out)))
      have HS := Lib.hid hS
      have Hgn := Lib.hid hgn
      have HgL := Lib.hid hgl
      have Hsg := Lib.hid hsg
      have HP1 := Lib.hid hP1
      have HP2 := Lib.hid hP2
      have HP3 := Lib.hid hP3
      have HP4 := Lib.hid hP4
      have HP5 := Lib.hid hP5
      have hb9 := block_lt hS.h9
      have hhb : hg' ≤ 602002 := by
        have h1 := HhF.out
        have h2 := Hbnd.out
        have h3 := Hsum.out
        unfold highF at h1
        have h4 : nsum g = (g.map fun x => x.2.length).sum := rfl
        split at h1 <;> omega
      clear hpl hS hsx hnx hpv hg hsg hgn hgl hP1 hP2 hP3 hP4 hP5 hhg hpre' hcc2 hH4
      gi_wp2
      refine wpIn_drawn_tailV 4 (fun _ i => match i with | 0 => Ty.is (.slice A1 gl cc) | 1 => Ty.is (.int .i64 (hg' : Nat)) | 2 => Ty.is (.int .i64 H) | 3 => Ty.is (.bool (decide (((hg' : Nat) : Int) > H))) | _ => Ty.any) (looks_const _) (by kernel_rfl) (by kernel_rfl) (by kernel_rfl) (by decide) rfl (by kernel_rfl) ?_
      intro v
      refine ⟨?_, ?_, ?_, ?_, ?_⟩
      · intro wq hq hd
        refine ob_plain rfl ?_
        exact yld_move (.tmp 11) rfl rfl rfl
      · intro wq hq hd
        obtain ⟨h0, -⟩ := hd
        change v 0 = _ at h0
        refine ob_plain rfl ?_
        refine yld_call 15 Tryz.call15 _ _ rfl rfl [_] ⟨h0, trivial⟩ ?_
        refine (Hhg.out _ hq).mono ?_
        rintro e w' ⟨rfl, hx'⟩
        exact ⟨_, rfl, hx', rfl⟩
      · intro wq hq hd
        refine ob_plain rfl ?_
        exact yld_loadOne 3 (.tmp 5) rfl Tryz.isAgg3 (c := .int .i64 H) (HHq.out _ hq) rfl
      · intro wq hq hd
        obtain ⟨h0, h1, -⟩ := hd
        change v 1 = _ at h0
        change v 2 = _ at h1
        refine ob_plain rfl ?_
        exact yld_binInt .gtr 3 3 (.tmp 30) (.tmp 31) rfl _ _ h0 h1 (run_gtr_i64 _ _ _) rfl
      · intro wq hq hT
        have k3 := hT 3 (by decide)
        change v 3 = _ at k3
        clear hT
        simp only [List.drop_succ_cons, List.drop_zero, putE, setsE, List.set_cons_succ, List.set_cons_zero, Nat.reduceAdd]
        rw [k3]
        refine wpList_end ?_
        by_cases hgt : (hg' : Int) > H
        · have e5 : decide ((hg' : Int) > H) = true := decide_eq_true hgt
          rw [e5]
          have Hsq := Lib.hid (HS.out.grow hq)
          have h6 := (Hsq.out.ext.block (block_lt Hb6.out)).trans Hb6.out
          have h7 := (Hsq.out.ext.block (block_lt Hb7.out)).trans Hb7.out
          gi_step
          gi_step
          refine wpIn_cond_true rfl ?_
          refine wpIn_seq ?_
          refine wpIn_text (by kernel_rfl) ?_
          go_wp2_with (first | (refine wpList_put rfl 29 (.tmp 6) _ rfl (w.heap.size + 2) 0 (.slice none 0 0) rfl rfl [.slice none 0 0] rfl Tryz.sizeOf29 (by simp [Value.oneCell']) 29 _ h6 (by simp) ?_; intro wy hwy hosy htpy houy hsy hbky; have h7y := (hwy (w.heap.size + 3) (by omega)).trans h7; have hxy := Ext.put (Hx0.out.trans Hsq.out.ext) (by omega) hwy hosy htpy houy hsy; have kfy := Lib.hid (kf_put (B := ws.heap.size) h6 hwy hsy); clear hwy hosy htpy houy hsy) |
            (refine wpList_put rfl 30 (.tmp 7) _ rfl (w.heap.size + 3) 0 (.int .i64 6) rfl rfl [.int .i64 6] rfl Tryz.sizeOf30 (by simp [Value.oneCell']) 30 _ h7y (by simp) ?_; intro wz hwz hosz htpz houz hsz hbkz; have h6z := (hwz (w.heap.size + 2) (by omega)).trans hbky; have hxz := Ext.put hxy (by omega) hwz hosz htpz houz hsz; have kfz := Lib.hid (kf_put (B := ws.heap.size) h7y hwz hsz); clear hwz hosz htpz houz hsz hbky h7y hxy))
          have q6 : wz.cell? ⟨w.heap.size + 2, 0, none⟩ = some (.slice none 0 0) := by simp [World.cell?, h6z]
          have q7 : wz.cell? ⟨w.heap.size + 3, 0, none⟩ = some (.int .i64 6) := by simp [World.cell?, hbkz]
          refine wpIn_ret ?_
          show KeepsFrom ws.heap.size Wr wz ∧ PEx w (w.heap.size + 2) (w.heap.size + 3) _ .ret pre' wz
          exact ⟨(kf_ext hq).trans (kfy.out.trans kfz.out), rfl, hxz, block_lt h6z, block_lt hbkz, h6z.trans (by simp), hbkz.trans (by simp)⟩
        · have e5 : decide ((hg' : Int) > H) = false := decide_eq_false hgt
          rw [e5]
          gi_step
          gi_step
          refine wpIn_cond_false rfl ?_
          refine wpIn_skip ?_
          gi_step
          gi_step
          refine wpIn_seq ?_
          refine wpIn_seq ?_
          have hnw : now.length + nsum now ≤ 200 := by
            rcases Nat.eq_zero_or_pos now.length with h0 | h0
            · have : now = [] := List.eq_nil_of_length_eq_zero h0
              subst this
              simp [nsum]
            · have h1 := HP5.out (by intro e; rw [e] at h0; simp at h0)
              unfold highF at h1
              split at h1 <;> omega
          obtain ⟨An, cn, rfl, hcn, hsn⟩ := HS.out.cur.form
          obtain ⟨Ao, co, rfl, hco, -⟩ := HS.out.out.form
          have Hsq := Lib.hid (HS.out.grow hq)
          have hkf := kf_ext (B := ws.heap.size) hq
          have HKf := Lib.hid hkf
          obtain ⟨nf, hnf⟩ : ∃ nf, now.map Prod.fst = nf := ⟨_, rfl⟩
          obtain ⟨gf, hgf⟩ : ∃ gf, g.map Prod.fst = gf := ⟨_, rfl⟩
          have hnfl : nf.length = now.length := by rw [← hnf, List.length_map]
          have hgfl : gf.length = gl := by rw [← hgf]; exact Hgl.out
          have hgll : g.length = gl := by rw [← Hgl.out, List.length_map]
          have Hng := Lib.hid (show nf ++ gf = (now ++ g).map Prod.fst by rw [← hnf, ← hgf, List.map_append])
          have hsn2 : Sl lineEl wq An nf := by rw [← hnf]; exact hsn.ext hq
          have hsg2 : Sl lineEl wq A1 gf := by rw [← hgf]; exact Hsg.out.ext hq
          have Hgq := Lib.hid (fun x hx => (Hgn.out x hx).ext hq)
          have Hnq := Lib.hid Hsq.out.nts
          have Hbn2 := Lib.hid (show (now ++ g).length + nsum (now ++ g) ≤ 10000000 by have e : nsum (now ++ g) = nsum now + nsum g := (by simp [nsum]); rw [e, List.length_append]; omega)
          have Hcat := Lib.hid (fun W3 (he : Ext wq W3) A6 c6 (hs : Sl slsLEl W3 A6 [(An, cn, nf), (A1, cc, gf)]) => show Calls Tryz.prog 16 #[.slice A6 2 c6] W3 (RetOwn lineEl W3 (cat [(An, cn, nf), (A1, cc, gf)])) from concatL_any A6 c6 [(An, cn, nf), (A1, cc, gf)] W3 hs (fun x hx => by
            simp only [List.mem_cons, List.not_mem_nil, or_false] at hx
            rcases hx with rfl | rfl
            · exact hsn2.ext he
            · exact hsg2.ext he) (by simp) (by have e : cat [(An, cn, nf), (A1, cc, gf)] = nf ++ gf := (by simp [cat]); rw [e, List.length_append]; omega))
          have Hce := Lib.hid (show cat [(An, cn, nf), (A1, cc, gf)] = nf ++ gf by simp [cat])
          rw [Hce.out] at Hcat
          have Hhi := Lib.hid (fun W3 (he : Ext wq W3) A7 c7 (hs : Sl lineEl W3 A7 (nf ++ gf)) => show Calls Tryz.prog 15 #[.slice A7 (nf ++ gf).length c7] W3 (fun e w' => e = .returned (.int .i64 (highF (now ++ g) : Nat)) ∧ Ext W3 w') from by
            have h := high_any A7 c7 (now ++ g) W3 (by rw [← Hng.out]; exact hs) (fun x hx => by
              rcases List.mem_append.1 hx with hx | hx
              · exact (Hnq.out x hx).2
              · exact (Hgq.out x hx).2) Hbn2.out
            rw [show (now ++ g).length = (nf ++ gf).length by rw [List.length_append, List.length_append, hnfl, hgfl, hgll]] at h
            exact h)
          have hbk : highF (now ++ g) ≤ 20000000 := by
            have h1 := Hbn2.out
            unfold highF
            split <;> omega
          obtain ⟨hk, hhk⟩ : ∃ hk, highF (now ++ g) = hk := ⟨_, rfl⟩
          have Hhk := Lib.hid hhk
          rw [hhk] at Hhi hbk
          have Hnf := Lib.hid hnf
          have Hgf := Lib.hid hgf
          have HHr := Lib.hid (fun W3 (he : Ext wq W3) => HHq.out W3 (hq.trans he))
          obtain ⟨nl, hnl⟩ : ∃ nl, (now.map Prod.fst).length = nl := ⟨_, rfl⟩
          have Hnl := Lib.hid (show nf.length = nl by rw [← hnf]; exact hnl)
          have Hgl3 := Lib.hid hgfl
          have hnl2 : nl = now.length := by rw [← hnl, List.length_map]
          rw [hnl] at HS Hsq
          obtain ⟨Ll, hLl⟩ : ∃ Ll, (L.map Prod.snd).length = Ll := ⟨_, rfl⟩
          rw [hLl] at HS Hsq
          have hLl2 : Ll = L.length := by rw [← hLl, List.length_map]
          have HLl := Lib.hid hLl
          have Ht10 := Lib.hid (fun W3 (he : Ext wq W3) => (show (TCells [.slice An nl cn]).p (.pointer (some ⟨w4.heap.size + 1, 0, none⟩)) W3 from boxT_of (cs := [.slice An nl cn]) ((he.block (block_lt Hsq.out.h10)).trans Hsq.out.h10)))
          have Ht9 := Lib.hid (fun W3 (he : Ext wq W3) => (show (TCells [.slice Ao Ll co]).p (.pointer (some ⟨w4.heap.size, 0, none⟩)) W3 from boxT_of (cs := [.slice Ao Ll co]) ((he.block (block_lt Hsq.out.h9)).trans Hsq.out.h9)))
          have Hnl2 := Lib.hid hnl2
          have Hsn2 := Lib.hid hsn2
          have HLl2 := Lib.hid hLl2
          clear hnl2 hLl2 hnf hgf hsn hhk hcn hco hLl hnl hkf hnfl hgll hsn2 hsg2 hgfl
          have hqw := Lib.hid hq
          clear hq
          by_cases h0 : nl = 0
          · have e6 : decide ((0 : Int) < (nl : Int)) = false := decide_eq_false (by omega)
            have H0 := Lib.hid h0
            clear h0
            refine wpIn_drawn_tailV 12 (fun _ i => match i with | 0 => Ty.is (.slice An nl cn) | 1 => Ty.is (.int .i64 nl) | 2 => Ty.is (.bool false) | 3 => Ty.is (.bool false) | 4 => TGd (false = true) (Ty.any) | 5 => TGd (false = true) (Ty.any) | 6 => TGd (false = true) (Ty.any) | 7 => TGd (false = true) (Ty.any) | 8 => TGd (false = true) (Ty.any) | 9 => TGd (false = true) (Ty.any) | 10 => TGd (false = true) (Ty.any) | 11 => Ty.is (.bool false) | _ => Ty.any) (looks_const _) (by kernel_rfl) (by kernel_rfl) (by kernel_rfl) (by decide) rfl (by kernel_rfl) ?_
            intro v
            refine ⟨?_, ?_, ?_, ?_, ?_, ?_, ?_, ?_, ?_, ?_, ?_, ?_, ?_⟩
            · intro wq hq hd
              refine ob_plain rfl ?_
              exact yld_loadOne 47 (.tmp 10) rfl Tryz.isAgg47 (c := .slice An nl cn) (Ht10.out _ hq) rfl
            · intro wq hq hd
              obtain ⟨h0, -⟩ := hd
              change v 0 = _ at h0
              refine ob_plain rfl ?_
              exact yld_len (.tmp 33) 47 _ Tryz.underlying47 rfl _ _ _ h0 rfl
            · intro wq hq hd
              obtain ⟨h0, -⟩ := hd
              change v 1 = _ at h0
              refine ob_plain rfl ?_
              exact yld_binInt .gtr 3 3 (.tmp 34) _ rfl _ _ h0 rfl (fun w => by rw [run_gtr_i64 _ _ _, e6]) rfl
            · intro wq hq hd
              obtain ⟨h0, -⟩ := hd
              change v 2 = _ at h0
              refine ob_plain rfl ?_
              exact yld_move (.tmp 35) rfl h0 rfl
            · intro wq hq hd
              obtain ⟨h0, -⟩ := hd
              change v 3 = _ at h0
              refine ob_guard 3 true (false) rfl (yields_of rfl h0) (fun hg => ?_) (fun hg => ?_)
              · refine Yld.gd (p := false = true) (T := Ty.any) ?_
                cases hg
              · intro hn; rw [hn] at hg; cases hg
            · intro wq hq hd
              obtain ⟨h0, -⟩ := hd
              change v 3 = _ at h0
              refine ob_guard 3 true (false) rfl (yields_of rfl h0) (fun hg => ?_) (fun hg => ?_)
              · refine Yld.gd (p := false = true) (T := Ty.any) ?_
                cases hg
              · intro hn; rw [hn] at hg; cases hg
            · intro wq hq hd
              obtain ⟨h0, h1, h2, -⟩ := hd
              change v 3 = _ at h2
              refine ob_guard 3 true (false) rfl (yields_of rfl h2) (fun hg => ?_) (fun hg => ?_)
              · refine Yld.gd (p := false = true) (T := Ty.any) ?_
                cases hg
              · intro hn; rw [hn] at hg; cases hg
            · intro wq hq hd
              obtain ⟨h0, h1, h2, -⟩ := hd
              change v 3 = _ at h1
              refine ob_guard 3 true (false) rfl (yields_of rfl h1) (fun hg => ?_) (fun hg => ?_)
              · refine Yld.gd (p := false = true) (T := Ty.any) ?_
                cases hg
              · intro hn; rw [hn] at hg; cases hg
            · intro wq hq hd
              obtain ⟨h0, h1, h2, -⟩ := hd
              change v 3 = _ at h2
              refine ob_guard 3 true (false) rfl (yields_of rfl h2) (fun hg => ?_) (fun hg => ?_)
              · refine Yld.gd (p := false = true) (T := Ty.any) ?_
                cases hg
              · intro hn; rw [hn] at hg; cases hg
            · intro wq hq hd
              obtain ⟨h0, -⟩ := hd
              change v 3 = _ at h0
              refine ob_guard 3 true (false) rfl (yields_of rfl h0) (fun hg => ?_) (fun hg => ?_)
              · refine Yld.gd (p := false = true) (T := Ty.any) ?_
                cases hg
              · intro hn; rw [hn] at hg; cases hg
            · intro wq hq hd
              obtain ⟨h0, h1, h2, -⟩ := hd
              change v 3 = _ at h2
              refine ob_guard 3 true (false) rfl (yields_of rfl h2) (fun hg => ?_) (fun hg => ?_)
              · refine Yld.gd (p := false = true) (T := Ty.any) ?_
                cases hg
              · intro hn; rw [hn] at hg; cases hg
            · intro wq hq hd
              obtain ⟨h0, h1, -⟩ := hd
              change v 3 = _ at h0
              refine ob_plain rfl ?_
              exact yld_pick (.tmp 36) (.tmp 43) _ rfl false h0 (fun h => by cases h) (fun _ => rfl) rfl
            · intro wq hq hT
              have k11 := hT 11 (by decide)
              change v 11 = _ at k11
              clear hT
              simp only [List.drop_succ_cons, List.drop_zero, putE, setsE, List.set_cons_succ, List.set_cons_zero, Nat.reduceAdd]
              rw [k11]
              have Hs2 := Lib.hid (Hsq.out.grow hq)
              have Hkf2 := Lib.hid (HKf.out.trans (kf_ext (B := ws.heap.size) hq))
              refine wpList_end ?_
              gi_step
              refine wpIn_cond_false rfl ?_
              refine wpIn_skip ?_
              gi_step
              refine wpIn_text (by kernel_rfl) ?_
              have c10 : wq.cell? ⟨w4.heap.size + 1, 0, none⟩ = some (.slice An nl cn) := by simp [World.cell?, Hs2.out.h10]
              have hxq := (Ext.refl wq).alloc (.cells #[.slice An nl cn, .slice A1 gl cc] 47)
              go_wp2_with fail
              refine (Hcat.out _ (hq.trans hxq) (some ⟨wq.heap.size, 0, none⟩) 2 (Sl.new slsLEl (by simp [El.flat, slsLEl, Hnl.out, Hgl3.out]))).mono ?_
              rintro e w8 ⟨v8, rfl, hown8, hx8⟩
              obtain ⟨A8, c8, rfl, -, -⟩ := hown8.form
              have Hs8 := Lib.hid (Hs2.out.grow (hxq.trans hx8))
              have Hk8 := Lib.hid (Hkf2.out.trans (kf_ext (B := ws.heap.size) (hxq.trans hx8)))
              have Hset := Lib.hid (Hs8.out.set (now' := (now ++ g)) (by rw [← Hng.out]; exact hown8.mono (Nat.zero_le _)) (fun x hx => (by rcases List.mem_append.1 hx with hx | hx <;> first | exact Hs8.out.nts x hx | exact (Hgq.out x hx).ext (hq.trans (hxq.trans hx8)))))
              have hb10 := Hs8.out.h10
              obtain ⟨n8, hn8⟩ : ∃ n, (nf ++ gf).length = n := ⟨_, rfl⟩
              rw [hn8] at Hset ⊢
              clear c10 hown8 hx8 hxq hn8
              go_wp2_with (refine wpList_put rfl 47 (.tmp 10) (.tmp 57) rfl (w4.heap.size + 1) 0 (.slice A8 n8 c8) rfl rfl [.slice A8 n8 c8] rfl Tryz.sizeOf47 (by simp [Value.oneCell']) 47 _ hb10 (by simp) ?_; intro w9 hw9 hos9 htp9 hou9 hs9 hbk9; have Hk9 := Lib.hid (Hk8.out.trans (kf_put (B := ws.heap.size) hb10 hw9 hs9)); have Hs9 := Lib.hid (Hset.out w9 hw9 hos9 htp9 hou9 hs9 (hbk9.trans (by simp))); clear hw9 hos9 htp9 hou9 hs9 hbk9)
              show KeepsFrom ws.heap.size Wr w9 ∧ (GIn w6.heap.size A c (xs.map Prod.fst) Wr → GIn w6.heap.size A c (xs.map Prod.fst) w9) ∧ PInv wb ws w4.heap.size (w4.heap.size + 1) W H xs pre' w9
              refine ⟨Hk9.out, fun _ => Hgin.out w9 Hs9.out.lo, L, (now ++ g), _, _, Hs9.out, ?_⟩
              refine ⟨HP1.out, HP2.out, fun x hx => ?_, ?_, fun _ => ?_, ?_, hP7⟩
              · rcases List.mem_append.1 hx with hx | hx
                · exact HP3.out x hx
                · exact HgL.out x hx
              · rw [wsum_append, Hst.out, ← HP4.out]; omega
              · rw [Hhk.out]; exact (by have h9 : now = [] := List.eq_nil_of_length_eq_zero (by have := Hnl2.out; have := H0.out; omega); have h8 := Hhk.out; rw [h9, List.nil_append, HhF.out] at h8; omega)
              · rw [Hpre.out]; omega
          · have e6 : decide ((0 : Int) < (nl : Int)) = true := decide_eq_true (by omega)
            refine wpIn_drawn_tailV 12 (fun _ i => match i with | 0 => Ty.is (.slice An nl cn) | 1 => Ty.is (.int .i64 nl) | 2 => Ty.is (.bool true) | 3 => Ty.is (.bool true) | 4 => TGd (true = true) (Ty.is (.slice An nl cn)) | 5 => TGd (true = true) (Ty.is (.slice A1 gl cc)) | 6 => TGd (true = true) (TOwn slsLEl 0 [(An, cn, nf), (A1, cc, gf)]) | 7 => TGd (true = true) (TOwn lineEl 0 (nf ++ gf)) | 8 => TGd (true = true) (Ty.is (.int .i64 (hk : Nat))) | 9 => TGd (true = true) (Ty.is (.int .i64 H)) | 10 => TGd (true = true) (Ty.is (.bool (decide (((hk : Nat) : Int) > H)))) | 11 => Ty.is (.bool (true && (decide (((hk : Nat) : Int) > H)))) | _ => Ty.any) (looks_const _) (by kernel_rfl) (by kernel_rfl) (by kernel_rfl) (by decide) rfl (by kernel_rfl) ?_
            intro v
            refine ⟨?_, ?_, ?_, ?_, ?_, ?_, ?_, ?_, ?_, ?_, ?_, ?_, ?_⟩
            · intro wq hq hd
              refine ob_plain rfl ?_
              exact yld_loadOne 47 (.tmp 10) rfl Tryz.isAgg47 (c := .slice An nl cn) (Ht10.out _ hq) rfl
            · intro wq hq hd
              obtain ⟨h0, -⟩ := hd
              change v 0 = _ at h0
              refine ob_plain rfl ?_
              exact yld_len (.tmp 33) 47 _ Tryz.underlying47 rfl _ _ _ h0 rfl
            · intro wq hq hd
              obtain ⟨h0, -⟩ := hd
              change v 1 = _ at h0
              refine ob_plain rfl ?_
              exact yld_binInt .gtr 3 3 (.tmp 34) _ rfl _ _ h0 rfl (fun w => by rw [run_gtr_i64 _ _ _, e6]) rfl
            · intro wq hq hd
              obtain ⟨h0, -⟩ := hd
              change v 2 = _ at h0
              refine ob_plain rfl ?_
              exact yld_move (.tmp 35) rfl h0 rfl
            · intro wq hq hd
              obtain ⟨h0, -⟩ := hd
              change v 3 = _ at h0
              refine ob_guard 3 true (true) rfl (yields_of rfl h0) (fun hg => ?_) (fun hg => ?_)
              · refine Yld.gd (p := true = true) (T := Ty.is (.slice An nl cn)) ?_
                exact yld_loadOne 47 (.tmp 10) rfl Tryz.isAgg47 (c := .slice An nl cn) (Ht10.out _ hq) rfl
              · intro hn; rw [hn] at hg; cases hg
            · intro wq hq hd
              obtain ⟨h0, -⟩ := hd
              change v 3 = _ at h0
              refine ob_guard 3 true (true) rfl (yields_of rfl h0) (fun hg => ?_) (fun hg => ?_)
              · refine Yld.gd (p := true = true) (T := Ty.is (.slice A1 gl cc)) ?_
                exact yld_move (.tmp 11) rfl rfl rfl
              · intro hn; rw [hn] at hg; cases hg
            · intro wq hq hd
              obtain ⟨h0, h1, h2, -⟩ := hd
              change (true = true) → v 4 = _ at h0
              change (true = true) → v 5 = _ at h1
              change v 3 = _ at h2
              refine ob_guard 3 true (true) rfl (yields_of rfl h2) (fun hg => ?_) (fun hg => ?_)
              · refine Yld.gd (p := true = true) (T := TOwn slsLEl 0 [(An, cn, nf), (A1, cc, gf)]) ?_
                replace h0 := h0 hg
                replace h1 := h1 hg
                exact yld_buildSlice slsLEl 2 [(0, _), (1, _)] rfl [(0, .slice An nl cn), (1, .slice A1 gl cc)] ⟨⟨rfl, h0⟩, ⟨rfl, h1⟩, trivial⟩ 0 (Nat.zero_le _) [(An, cn, nf), (A1, cc, gf)] rfl (by decide) (fun w => by rw [← Hnl.out, ← Hgl3.out]; change (Instr.buildSlice 73 2 _).run _ w = _; go_simp; rfl)
              · intro hn; rw [hn] at hg; cases hg
            · intro wq hq hd
              obtain ⟨h0, h1, h2, -⟩ := hd
              change (true = true) → (TOwn slsLEl 0 [(An, cn, nf), (A1, cc, gf)]).p (v 6) wq at h0
              change v 3 = _ at h1
              refine ob_guard 3 true (true) rfl (yields_of rfl h1) (fun hg => ?_) (fun hg => ?_)
              · refine Yld.gd (p := true = true) (T := TOwn lineEl 0 (nf ++ gf)) ?_
                replace h0 := h0 hg
                obtain ⟨A6, c6, h6, -, hs6⟩ := Own.form (show Own slsLEl 0 wq (v 6) [(An, cn, nf), (A1, cc, gf)] from h0)
                refine yld_call 16 Tryz.call16 _ _ rfl rfl [_] ⟨h6, trivial⟩ ?_
                refine (Hcat.out wq hq A6 c6 hs6).mono ?_
                rintro e w' ⟨v', rfl, hown, hx'⟩
                exact ⟨_, rfl, hx', hown.mono (Nat.zero_le _)⟩
              · intro hn; rw [hn] at hg; cases hg
            · intro wq hq hd
              obtain ⟨h0, h1, h2, -⟩ := hd
              change (true = true) → (TOwn lineEl 0 (nf ++ gf)).p (v 7) wq at h0
              change v 3 = _ at h2
              refine ob_guard 3 true (true) rfl (yields_of rfl h2) (fun hg => ?_) (fun hg => ?_)
              · refine Yld.gd (p := true = true) (T := Ty.is (.int .i64 (hk : Nat))) ?_
                replace h0 := h0 hg
                obtain ⟨A7, c7, h7, -, hs7⟩ := Own.form (show Own lineEl 0 wq (v 7) (nf ++ gf) from h0)
                refine yld_call 15 Tryz.call15 _ _ rfl rfl [_] ⟨h7, trivial⟩ ?_
                refine (Hhi.out wq hq A7 c7 hs7).mono ?_
                rintro e w' ⟨rfl, hx'⟩
                exact ⟨_, rfl, hx', rfl⟩
              · intro hn; rw [hn] at hg; cases hg
            · intro wq hq hd
              obtain ⟨h0, -⟩ := hd
              change v 3 = _ at h0
              refine ob_guard 3 true (true) rfl (yields_of rfl h0) (fun hg => ?_) (fun hg => ?_)
              · refine Yld.gd (p := true = true) (T := Ty.is (.int .i64 H)) ?_
                exact yld_loadOne 3 (.tmp 5) rfl Tryz.isAgg3 (c := .int .i64 H) (HHr.out _ hq) rfl
              · intro hn; rw [hn] at hg; cases hg
            · intro wq hq hd
              obtain ⟨h0, h1, h2, -⟩ := hd
              change (true = true) → v 8 = _ at h0
              change (true = true) → v 9 = _ at h1
              change v 3 = _ at h2
              refine ob_guard 3 true (true) rfl (yields_of rfl h2) (fun hg => ?_) (fun hg => ?_)
              · refine Yld.gd (p := true = true) (T := Ty.is (.bool (decide (((hk : Nat) : Int) > H)))) ?_
                replace h0 := h0 hg
                replace h1 := h1 hg
                exact yld_binInt .gtr 3 3 (.tmp 41) (.tmp 42) rfl _ _ h0 h1 (run_gtr_i64 _ _ _) rfl
              · intro hn; rw [hn] at hg; cases hg
            · intro wq hq hd
              obtain ⟨h0, h1, -⟩ := hd
              change v 3 = _ at h0
              change (true = true) → v 10 = _ at h1
              refine ob_plain rfl ?_
              exact yld_and (.tmp 36) (.tmp 43) rfl rfl _ _ h0 (fun hgd => h1 hgd) rfl
            · intro wq hq hT
              have k11 := hT 11 (by decide)
              change v 11 = _ at k11
              clear hT
              simp only [List.drop_succ_cons, List.drop_zero, putE, setsE, List.set_cons_succ, List.set_cons_zero, Nat.reduceAdd]
              rw [k11]
              have Hs2 := Lib.hid (Hsq.out.grow hq)
              have Hkf2 := Lib.hid (HKf.out.trans (kf_ext (B := ws.heap.size) hq))
              have hn1 : 1 ≤ now.length := by have := Hnl2.out; omega
              clear h0
              refine wpList_end ?_
              by_cases hgt2 : (hk : Int) > H
              · have e7 : decide ((hk : Int) > H) = true := decide_eq_true hgt2
                rw [e7]
                have Hpg := Lib.hid (fun W3 (he : Ext wq W3) => (by
                  have h := Hpage.out (Ll + 1) An cn now W3 (Hs2.out.ext.trans he) (by rw [Hnf.out]; exact (Hsn2.out.ext hq).ext he) (fun x hx => (Hs2.out.nts x hx).ext he) hn1 (by omega)
                  rw [← Hnl2.out] at h
                  exact h))
                have hLlb : Ll ≤ 602001 := by have := HLl2.out; omega
                have hqa := hq
                gi_step
                refine wpIn_cond_true rfl ?_
                refine wpIn_seq ?_
                refine wpIn_drawn_tailV 8 (fun _ i => match i with | 0 => Ty.is (.slice Ao Ll co) | 1 => Ty.is (.agg #[.int .i64 ra, .int .i64 ri, .int .i64 rn, .int .i64 rk, .string rl, .slice hdA hn hc, .slice wA wn wc', .slice kA kn kc]) | 2 => Ty.is (.slice Ao Ll co) | 3 => Ty.is (.int .i64 Ll) | 4 => Ty.is (.int .i64 (Ll + 1 : Nat)) | 5 => Ty.is (.slice An nl cn) | 6 => TPgO (pageOf (Ll + 1) now) | 7 => TPgR (pageOf (Ll + 1) now) | _ => Ty.any) (looks_const _) (by kernel_rfl) (by kernel_rfl) (by kernel_rfl) (by decide) rfl (by kernel_rfl) ?_
                intro v
                refine ⟨?_, ?_, ?_, ?_, ?_, ?_, ?_, ?_, ?_⟩
                · intro wq hq hd
                  refine ob_plain rfl ?_
                  exact yld_loadOne 29 (.tmp 9) rfl Tryz.isAgg29 (c := .slice Ao Ll co) (Ht9.out _ (hqa.trans hq)) rfl
                · intro wq hq hd
                  refine ob_plain rfl ?_
                  exact yld_loadAgg 27 (.tmp 3) rfl Tryz.isAgg27 8 Tryz.sizeOf27 [.int .i64 ra, .int .i64 ri, .int .i64 rn, .int .i64 rk, .string rl, .slice hdA hn hc, .slice wA wn wc', .slice kA kn kc] rfl ((Hut.out.ext (Hs2.out.ext.trans hq)).t) rfl
                · intro wq hq hd
                  refine ob_plain rfl ?_
                  exact yld_loadOne 29 (.tmp 9) rfl Tryz.isAgg29 (c := .slice Ao Ll co) (Ht9.out _ (hqa.trans hq)) rfl
                · intro wq hq hd
                  obtain ⟨h0, -⟩ := hd
                  change v 2 = _ at h0
                  refine ob_plain rfl ?_
                  exact yld_len (.tmp 47) 29 _ Tryz.underlying29 rfl _ _ _ h0 rfl
                · intro wq hq hd
                  obtain ⟨h0, -⟩ := hd
                  change v 3 = _ at h0
                  refine ob_plain rfl ?_
                  exact yld_binInt (c := .int .i64 (Ll + 1 : Nat)) .add 3 3 (.tmp 48) _ rfl _ _ h0 rfl (fun w => by rw [run_add_i64 _ _ _ (by omega) (by omega)]; congr 2) rfl
                · intro wq hq hd
                  refine ob_plain rfl ?_
                  exact yld_loadOne 47 (.tmp 10) rfl Tryz.isAgg47 (c := .slice An nl cn) (Ht10.out _ (hqa.trans hq)) rfl
                · intro wq hq hd
                  obtain ⟨h0, h1, h2, -⟩ := hd
                  change v 1 = _ at h0
                  change v 4 = _ at h1
                  change v 5 = _ at h2
                  refine ob_plain rfl ?_
                  refine yld_call 17 Tryz.call17 _ _ rfl rfl [_, _, _] ⟨h0, h1, h2, trivial⟩ ?_
                  refine (Hpg.out _ hq).mono ?_
                  rintro e w' ⟨r, rfl, hp, hx'⟩
                  exact ⟨_, rfl, hx', r, rfl, hp⟩
                · intro wq hq hd
                  obtain ⟨h0, -⟩ := hd
                  change (TPgO (pageOf (Ll + 1) now)).p (v 6) wq at h0
                  refine ob_plain rfl ?_
                  obtain ⟨r, h0, hp⟩ := h0
                  exact yld_buildPg (.tmp 51) rfl h0 hp
                · intro wq hq hT
                  have k0 := hT 0 (by decide)
                  change v 0 = _ at k0
                  have k7 := hT 7 (by decide)
                  change (TPgR (pageOf (Ll + 1) now)).p (v 7) wq at k7
                  clear hT
                  simp only [List.drop_succ_cons, List.drop_zero, putE, setsE, List.set_cons_succ, List.set_cons_zero, Nat.reduceAdd]
                  rw [k0]
                  generalize v 7 = x7 at k7 ⊢
                  obtain ⟨r7, hown7, hp7⟩ := k7
                  obtain ⟨A7, c7, rfl, -, hs7⟩ := hown7.form
                  have Hs3 := Lib.hid (Hs2.out.grow hq)
                  refine wpList_appAt pageEl rfl (.tmp 45) (.tmp 52) rfl c7 rfl Hs3.out.out (ys := [r7]) (A := A7) rfl hs7 (by have h9 := HLl.out; rw [h9]; simp; omega) (Hs3.out.lo.size) ?_
                  intro v8 w8 h1 h2 h3
                  obtain ⟨hb9', hset⟩ := Hs3.out.page hp7 h1 h2
                  obtain ⟨A8, c8, rfl, -, -⟩ := h1.form
                  have Hkf3 := Lib.hid (Hkf2.out.trans ((kf_ext (B := ws.heap.size) hq).trans (kf_own (B := ws.heap.size) Hs3.out.out h2)))
                  have Hset := Lib.hid hset
                  obtain ⟨n8, hn8⟩ : ∃ n, (L.map Prod.snd ++ [r7]).length = n := ⟨_, rfl⟩
                  rw [hn8] at Hset ⊢
                  clear h1 h2 h3 hset hn8 hown7 hs7 hp7
                  refine wpList_put rfl 29 (.tmp 9) (.tmp 53) rfl w4.heap.size 0 (.slice A8 n8 c8) rfl rfl [.slice A8 n8 c8] rfl Tryz.sizeOf29 (by simp [Value.oneCell']) 29 _ hb9' (by simp) ?_
                  intro w9 hw9 hos9 htp9 hou9 hs9 hbk9
                  have Hs4 := Lib.hid (Hset.out w9 hw9 hos9 htp9 hou9 hs9 (hbk9.trans (by simp)))
                  have Hkf4 := Lib.hid (Hkf3.out.trans (kf_put (B := ws.heap.size) hb9' hw9 hs9))
                  clear hw9 hos9 htp9 hou9 hs9 hbk9 hb9' hqa hq
                  refine wpList_end ?_
                  gi_step
                  refine wpIn_text (by kernel_rfl) ?_
                  have hb10' := Hs4.out.h10
                  go_wp2_with (refine wpList_put rfl 47 (.tmp 10) _ rfl (w4.heap.size + 1) 0 (.slice none 0 0) rfl rfl [.slice none 0 0] rfl Tryz.sizeOf47 (by simp [Value.oneCell']) 47 _ hb10' (by simp) ?_; intro w11 hw11 hos11 htp11 hou11 hs11 hbk11; have Hs5 := Lib.hid (Hs4.out.set (now' := []) (Own.nil _) (by simp) w11 hw11 hos11 htp11 hou11 hs11 (hbk11.trans (by simp))); have Hkf5 := Lib.hid (Hkf4.out.trans (kf_put (B := ws.heap.size) hb10' hw11 hs11)); clear hw11 hos11 htp11 hou11 hs11 hbk11)
                  have hsg5 := Hsgw.out w11 Hs5.out.lo
                  rw [Hgf.out] at hsg5
                  have Hgn5 := Lib.hid (fun x hx W3 (he : Ext w11 W3) => (Hgnw.out w11 Hs5.out.lo x hx).ext he)
                  have Hcat2 := Lib.hid (fun W3 (he : Ext w11 W3) A6 c6 (hs : Sl slsLEl W3 A6 [(none, 0, []), (A1, cc, gf)]) => show Calls Tryz.prog 16 #[.slice A6 2 c6] W3 (RetOwn lineEl W3 gf) from by
                    have h := concatL_any A6 c6 [(none, 0, []), (A1, cc, gf)] W3 hs (fun x hx => by
                      simp only [List.mem_cons, List.not_mem_nil, or_false] at hx
                      rcases hx with rfl | rfl
                      · exact Sl.nil
                      · exact hsg5.ext he) (by simp) (by have e : cat [((none : Option Addr), 0, ([] : List RLine)), (A1, cc, gf)] = gf := (by simp [cat]); rw [e]; have := Hgl3.out; omega)
                    have e : cat [((none : Option Addr), 0, ([] : List RLine)), (A1, cc, gf)] = gf := (by simp [cat])
                    rw [e] at h
                    exact h)
                  clear hsg5 hb10'
                  refine wpIn_text (by kernel_rfl) ?_
                  have c10 : w11.cell? ⟨w4.heap.size + 1, 0, none⟩ = some (.slice none 0 0) := by simp [World.cell?, Hs5.out.h10]
                  have hxq := (Ext.refl w11).alloc (.cells #[.slice none 0 0, .slice A1 gl cc] 47)
                  go_wp2_with fail
                  refine (Hcat2.out _ hxq (some ⟨w11.heap.size, 0, none⟩) 2 (Sl.new slsLEl (by simp [El.flat, slsLEl, Hgl3.out]))).mono ?_
                  rintro e w8 ⟨v8, rfl, hown8, hx8⟩
                  obtain ⟨A8, c8, rfl, -, -⟩ := hown8.form
                  have Hs8 := Lib.hid (Hs5.out.grow (hxq.trans hx8))
                  have Hk8 := Lib.hid (Hkf5.out.trans (kf_ext (B := ws.heap.size) (hxq.trans hx8)))
                  have Hset := Lib.hid (Hs8.out.set (now' := g) (by rw [← Hgf.out.symm]; exact hown8.mono (Nat.zero_le _)) (fun x hx => Hgn5.out x hx _ (hxq.trans hx8)))
                  have hb10 := Hs8.out.h10
                  obtain ⟨n8, hn8⟩ : ∃ n, (gf).length = n := ⟨_, rfl⟩
                  rw [hn8] at Hset ⊢
                  clear c10 hown8 hx8 hxq hn8
                  go_wp2_with (refine wpList_put rfl 47 (.tmp 10) (.tmp 57) rfl (w4.heap.size + 1) 0 (.slice A8 n8 c8) rfl rfl [.slice A8 n8 c8] rfl Tryz.sizeOf47 (by simp [Value.oneCell']) 47 _ hb10 (by simp) ?_; intro w9 hw9 hos9 htp9 hou9 hs9 hbk9; have Hk9 := Lib.hid (Hk8.out.trans (kf_put (B := ws.heap.size) hb10 hw9 hs9)); have Hs9 := Lib.hid (Hset.out w9 hw9 hos9 htp9 hou9 hs9 (hbk9.trans (by simp))); clear hw9 hos9 htp9 hou9 hs9 hbk9)
                  show KeepsFrom ws.heap.size Wr w9 ∧ (GIn w6.heap.size A c (xs.map Prod.fst) Wr → GIn w6.heap.size A c (xs.map Prod.fst) w9) ∧ PInv wb ws w4.heap.size (w4.heap.size + 1) W H xs pre' w9
                  refine ⟨Hk9.out, fun _ => Hgin.out w9 Hs9.out.lo, (L ++ [(pageOf (Ll + 1) now, r7)]), g, _, _, Hs9.out, ?_⟩
                  refine ⟨?_, ?_, HgL.out, ?_, fun _ => by rw [HhF.out]; omega, ?_, ?_⟩
                  · rw [List.map_append]
                    refine HP1.out.snoc ?_ (pgOk_of hn1 HP3.out (HP5.out (by intro e; rw [e] at hn1; simp at hn1)))
                    rw [List.length_map]
                    exact congrArg (· + 1) HLl2.out
                  · intro p hp
                    rw [List.map_append] at hp
                    rcases List.mem_append.1 hp with hp | hp
                    · exact HP2.out p hp
                    · simp only [List.map_cons, List.map_nil, List.mem_singleton] at hp
                      subst hp
                      rw [pW_of]
                      exact wsum_pos hn1 HP3.out
                  · have e : psum ((L ++ [(pageOf (Ll + 1) now, r7)]).map Prod.fst) = psum (L.map Prod.fst) + wsum now := by
                      rw [List.map_append, psum_append]
                      simp only [psum, List.map_cons, List.map_nil, List.sum_cons, List.sum_nil, Nat.add_zero, pW_of]
                    rw [e, Hst.out, ← HP4.out]
                  · rw [Hpre.out, List.length_append, List.length_singleton]; omega
                  · rw [List.length_append, List.length_singleton]; omega
              · have e7 : decide ((hk : Int) > H) = false := decide_eq_false hgt2
                rw [e7]
                gi_step
                refine wpIn_cond_false rfl ?_
                refine wpIn_skip ?_
                gi_step
                refine wpIn_text (by kernel_rfl) ?_
                have c10 : wq.cell? ⟨w4.heap.size + 1, 0, none⟩ = some (.slice An nl cn) := by simp [World.cell?, Hs2.out.h10]
                have hxq := (Ext.refl wq).alloc (.cells #[.slice An nl cn, .slice A1 gl cc] 47)
                go_wp2_with fail
                refine (Hcat.out _ (hq.trans hxq) (some ⟨wq.heap.size, 0, none⟩) 2 (Sl.new slsLEl (by simp [El.flat, slsLEl, Hnl.out, Hgl3.out]))).mono ?_
                rintro e w8 ⟨v8, rfl, hown8, hx8⟩
                obtain ⟨A8, c8, rfl, -, -⟩ := hown8.form
                have Hs8 := Lib.hid (Hs2.out.grow (hxq.trans hx8))
                have Hk8 := Lib.hid (Hkf2.out.trans (kf_ext (B := ws.heap.size) (hxq.trans hx8)))
                have Hset := Lib.hid (Hs8.out.set (now' := (now ++ g)) (by rw [← Hng.out]; exact hown8.mono (Nat.zero_le _)) (fun x hx => (by rcases List.mem_append.1 hx with hx | hx <;> first | exact Hs8.out.nts x hx | exact (Hgq.out x hx).ext (hq.trans (hxq.trans hx8)))))
                have hb10 := Hs8.out.h10
                obtain ⟨n8, hn8⟩ : ∃ n, (nf ++ gf).length = n := ⟨_, rfl⟩
                rw [hn8] at Hset ⊢
                clear c10 hown8 hx8 hxq hn8
                go_wp2_with (refine wpList_put rfl 47 (.tmp 10) (.tmp 57) rfl (w4.heap.size + 1) 0 (.slice A8 n8 c8) rfl rfl [.slice A8 n8 c8] rfl Tryz.sizeOf47 (by simp [Value.oneCell']) 47 _ hb10 (by simp) ?_; intro w9 hw9 hos9 htp9 hou9 hs9 hbk9; have Hk9 := Lib.hid (Hk8.out.trans (kf_put (B := ws.heap.size) hb10 hw9 hs9)); have Hs9 := Lib.hid (Hset.out w9 hw9 hos9 htp9 hou9 hs9 (hbk9.trans (by simp))); clear hw9 hos9 htp9 hou9 hs9 hbk9)
                show KeepsFrom ws.heap.size Wr w9 ∧ (GIn w6.heap.size A c (xs.map Prod.fst) Wr → GIn w6.heap.size A c (xs.map Prod.fst) w9) ∧ PInv wb ws w4.heap.size (w4.heap.size + 1) W H xs pre' w9
                refine ⟨Hk9.out, fun _ => Hgin.out w9 Hs9.out.lo, L, (now ++ g), _, _, Hs9.out, ?_⟩
                refine ⟨HP1.out, HP2.out, fun x hx => ?_, ?_, fun _ => ?_, ?_, hP7⟩
                · rcases List.mem_append.1 hx with hx | hx
                  · exact HP3.out x hx
                  · exact HgL.out x hx
                · rw [wsum_append, Hst.out, ← HP4.out]; omega
                · rw [Hhk.out]; exact (by omega)
                · rw [Hpre.out]; omega
    case done =>
      rintro D pres W1 hD hch ⟨L, now, vo, vn, hS, hP1, hP2, hP3, hP4, hP5, hP6, hP7⟩ hK
      have hnw : now.length + nsum now ≤ 200 := by
        rcases Nat.eq_zero_or_pos now.length with h0 | h0
        · have : now = [] := List.eq_nil_of_length_eq_zero h0
          subst this
          simp [nsum]
        · have h1 := hP5 (by intro e; rw [e] at h0; simp at h0)
          unfold highF at h1
          split at h1 <;> omega
      have hch2 : Chain xs.length 0 (pres.map Subtype.val) xs.length := chain_cast Hxl.out hch
      have htot : psum (L.map Prod.fst) + wsum now = totL u.kids := by rw [hP4, chain_sum xs _ 0 hch2, List.drop_zero]; exact Hsum2.out
      obtain ⟨An, cn, rfl, hcn, hsn⟩ := hS.cur.form
      obtain ⟨Ao, co, rfl, hco, -⟩ := hS.out.form
      have HS := Lib.hid hS
      obtain ⟨nl, hnl⟩ : ∃ nl, (now.map Prod.fst).length = nl := ⟨_, rfl⟩
      obtain ⟨Ll, hLl⟩ : ∃ Ll, (L.map Prod.snd).length = Ll := ⟨_, rfl⟩
      rw [hnl, hLl] at HS
      have Hnl2 := Lib.hid (show nl = now.length by rw [← hnl, List.length_map])
      have HLl2 := Lib.hid (show Ll = L.length by rw [← hLl, List.length_map])
      have Hsn := Lib.hid hsn
      have HLl := Lib.hid hLl
      have Htot := Lib.hid htot
      have HP1 := Lib.hid hP1
      have HP2 := Lib.hid hP2
      have HP3 := Lib.hid hP3
      have HP5 := Lib.hid hP5
      have HK := Lib.hid hK
      have c10 : W1.cell? ⟨w4.heap.size + 1, 0, none⟩ = some (.slice An nl cn) := by simp [World.cell?, HS.out.h10]
      have c9 : W1.cell? ⟨w4.heap.size, 0, none⟩ = some (.slice Ao Ll co) := by simp [World.cell?, HS.out.h9]
      clear hS hsn hnl hLl hcn hco htot hP1 hP2 hP3 hP4 hP5 hK hch hch2
      by_cases h0 : nl = 0
      · have e6 : decide ((0 : Int) < (nl : Int)) = false := decide_eq_false (by omega)
        have e6' : decide ((nl : Int) > 0) = false := decide_eq_false (by omega)
        have e6n : decide (0 < nl) = false := decide_eq_false (by omega)
        have hn0 : ¬ 0 < nl := by omega
        have HN0 := Lib.hid hn0
        clear hn0
        have H0 := Lib.hid h0
        clear h0
        have hF := Lib.hid (show PFin w L (.slice Ao Ll co) W1 from ⟨Hx0.out.trans HS.out.ext, HS.out.out.mono (Nat.zero_le _), HS.out.pgs⟩)
        have h6 := (HS.out.ext.block (block_lt Hb6.out)).trans Hb6.out
        have h7 := (HS.out.ext.block (block_lt Hb7.out)).trans Hb7.out
        have Hkf := Lib.hid (KeepsFrom.refl ws.heap.size W1)
        go_wp2_with (first | (refine wpList_put rfl 29 (.tmp 6) (.tmp 70) rfl (w.heap.size + 2) 0 (.slice Ao Ll co) rfl rfl [.slice Ao Ll co] rfl Tryz.sizeOf29 (by simp [Value.oneCell']) 29 _ h6 (by simp) ?_; intro wy hwy hosy htpy houy hsy hbky; have h7y := (hwy (w.heap.size + 3) (by omega)).trans h7; have hFy := Lib.hid (hF.out.put h6 (.inl rfl) (by omega) hwy hosy htpy houy hsy); have kfy := Lib.hid (Hkf.out.trans (kf_put (B := ws.heap.size) h6 hwy hsy)); clear hwy hosy htpy houy hsy) |
          (refine wpList_put rfl 30 (.tmp 7) _ rfl (w.heap.size + 3) 0 (.int .i64 0) rfl rfl [.int .i64 0] rfl Tryz.sizeOf30 (by simp [Value.oneCell']) 30 _ h7y (by simp) ?_; intro wz hwz hosz htpz houz hsz hbkz; have h6z := (hwz (w.heap.size + 2) (by omega)).trans hbky; have hFz := Lib.hid (hFy.out.put h7y (.inr rfl) (by omega) hwz hosz htpz houz hsz); have kfz := Lib.hid (kfy.out.trans (kf_put (B := ws.heap.size) h7y hwz hsz)); clear hwz hosz htpz houz hsz hbky h7y))
        have hKz := kfz.out.same D _ hD HK.out rfl
        refine ⟨by simp, .inl ⟨_, _, rfl, run_takeDeferred hKz, ?_⟩⟩
        have k6 := cell_kept (show wz.cell? ⟨w.heap.size + 2, 0, none⟩ = some (.slice Ao Ll co) by simp [World.cell?, h6z]) (grownBy_putObj' _ D (.deferred none)) (fun r e => by cases e; exact ⟨_, hKz, rfl⟩)
        have k7 := cell_kept (show wz.cell? ⟨w.heap.size + 3, 0, none⟩ = some (.int .i64 0) by simp [World.cell?, hbkz]) (grownBy_putObj' _ D (.deferred none)) (fun r e => by cases e; exact ⟨_, hKz, rfl⟩)
        have hFF := hFz.out.obj (o' := .deferred none) hKz rfl (by omega)
        obtain ⟨A9, c9', hv9, hc9', hs9⟩ := hFF.out.form
        have hL9 : (L.map Prod.snd).length = Ll := HLl.out
        rw [hL9, Value.slice.injEq] at hv9
        obtain ⟨rfl, -, rfl⟩ := hv9
        refine ⟨_, results_pag _ _ (w.heap.size + 2) (w.heap.size + 3) _ _ rfl rfl k6 k7, 0, _, _, L, by rw [hL9], hc9', hs9, hFF.pgs, hFF.ext, fun h => absurd rfl h, fun _ => ?_⟩
        have hn0 : now = [] := List.eq_nil_of_length_eq_zero (by have := Hnl2.out; have := H0.out; omega)
        refine ⟨HP1.out, ?_, HP2.out, hW2, by omega⟩
        have h9 := Htot.out
        rw [hn0] at h9
        exact h9
      · have e6 : decide ((0 : Int) < (nl : Int)) = true := decide_eq_true (by omega)
        have e6' : decide ((nl : Int) > 0) = true := decide_eq_true (by omega)
        have e6n : decide (0 < nl) = true := decide_eq_true (by omega)
        have hn1 : 1 ≤ now.length := by have := Hnl2.out; omega
        clear h0
        have Hs2 := HS
        have hLlb : Ll ≤ 602001 := by have := HLl2.out; omega
        have Hpg := Lib.hid (fun W3 (he : Ext W1 W3) => (by
          have h := Hpage.out (Ll + 1) An cn now W3 (Hs2.out.ext.trans he) (Hsn.out.ext he) (fun x hx => (Hs2.out.nts x hx).ext he) hn1 (by omega)
          rw [← Hnl2.out] at h
          exact h))
        have Ht10 := Lib.hid (fun W3 (he : Ext W1 W3) => (show (TCells [.slice An nl cn]).p (.pointer (some ⟨w4.heap.size + 1, 0, none⟩)) W3 from boxT_of (cs := [.slice An nl cn]) ((he.block (block_lt Hs2.out.h10)).trans Hs2.out.h10)))
        have Ht9 := Lib.hid (fun W3 (he : Ext W1 W3) => (show (TCells [.slice Ao Ll co]).p (.pointer (some ⟨w4.heap.size, 0, none⟩)) W3 from boxT_of (cs := [.slice Ao Ll co]) ((he.block (block_lt Hs2.out.h9)).trans Hs2.out.h9)))
        have hqa := Ext.refl W1
        clear hlen
        go_wp2
        refine wp_drawn_tail 8 (fun i => match i with | 0 => Ty.is (.slice Ao Ll co) | 1 => Ty.is (.agg #[.int .i64 ra, .int .i64 ri, .int .i64 rn, .int .i64 rk, .string rl, .slice hdA hn hc, .slice wA wn wc', .slice kA kn kc]) | 2 => Ty.is (.slice Ao Ll co) | 3 => Ty.is (.int .i64 Ll) | 4 => Ty.is (.int .i64 (Ll + 1 : Nat)) | 5 => Ty.is (.slice An nl cn) | 6 => TPgO (pageOf (Ll + 1) now) | 7 => TPgR (pageOf (Ll + 1) now) | _ => Ty.any) (by kernel_rfl) (by kernel_rfl) (by kernel_rfl) (by decide) rfl ?_
        intro v
        refine ⟨?_, ?_, ?_, ?_, ?_, ?_, ?_, ?_, ?_⟩
        · intro wq hq hd
          refine ob_plain rfl ?_
          exact yld_loadOne 29 (.tmp 9) rfl Tryz.isAgg29 (c := .slice Ao Ll co) (Ht9.out _ (hqa.trans hq)) rfl
        · intro wq hq hd
          refine ob_plain rfl ?_
          exact yld_loadAgg 27 (.tmp 3) rfl Tryz.isAgg27 8 Tryz.sizeOf27 [.int .i64 ra, .int .i64 ri, .int .i64 rn, .int .i64 rk, .string rl, .slice hdA hn hc, .slice wA wn wc', .slice kA kn kc] rfl ((Hut.out.ext (Hs2.out.ext.trans hq)).t) rfl
        · intro wq hq hd
          refine ob_plain rfl ?_
          exact yld_loadOne 29 (.tmp 9) rfl Tryz.isAgg29 (c := .slice Ao Ll co) (Ht9.out _ (hqa.trans hq)) rfl
        · intro wq hq hd
          obtain ⟨h0, -⟩ := hd
          change v 2 = _ at h0
          refine ob_plain rfl ?_
          exact yld_len (.tmp 63) 29 _ Tryz.underlying29 rfl _ _ _ h0 rfl
        · intro wq hq hd
          obtain ⟨h0, -⟩ := hd
          change v 3 = _ at h0
          refine ob_plain rfl ?_
          exact yld_binInt (c := .int .i64 (Ll + 1 : Nat)) .add 3 3 (.tmp 64) _ rfl _ _ h0 rfl (fun w => by rw [run_add_i64 _ _ _ (by omega) (by omega)]; congr 2) rfl
        · intro wq hq hd
          refine ob_plain rfl ?_
          exact yld_loadOne 47 (.tmp 10) rfl Tryz.isAgg47 (c := .slice An nl cn) (Ht10.out _ (hqa.trans hq)) rfl
        · intro wq hq hd
          obtain ⟨h0, h1, h2, -⟩ := hd
          change v 1 = _ at h0
          change v 4 = _ at h1
          change v 5 = _ at h2
          refine ob_plain rfl ?_
          refine yld_call 17 Tryz.call17 _ _ rfl rfl [_, _, _] ⟨h0, h1, h2, trivial⟩ ?_
          refine (Hpg.out _ hq).mono ?_
          rintro e w' ⟨r, rfl, hp, hx'⟩
          exact ⟨_, rfl, hx', r, rfl, hp⟩
        · intro wq hq hd
          obtain ⟨h0, -⟩ := hd
          change (TPgO (pageOf (Ll + 1) now)).p (v 6) wq at h0
          refine ob_plain rfl ?_
          obtain ⟨r, h0, hp⟩ := h0
          exact yld_buildPg (.tmp 67) rfl h0 hp
        · intro wq hq hT
          have k0 := hT 0 (by decide)
          change v 0 = _ at k0
          have k7 := hT 7 (by decide)
          change (TPgR (pageOf (Ll + 1) now)).p (v 7) wq at k7
          clear hT
          simp only [List.drop_succ_cons, List.drop_zero, putE, setsE, List.set_cons_succ, List.set_cons_zero, Nat.reduceAdd]
          rw [k0]
          generalize v 7 = x7 at k7 ⊢
          obtain ⟨r7, hown7, hp7⟩ := k7
          obtain ⟨A7, c7, rfl, -, hs7⟩ := hown7.form
          have Hs3 := Lib.hid (Hs2.out.grow hq)
          refine wpList_appAt pageEl rfl (.tmp 61) (.tmp 68) rfl c7 rfl Hs3.out.out (ys := [r7]) (A := A7) rfl hs7 (by have h9 := HLl.out; rw [h9]; simp; omega) (Hs3.out.lo.size) ?_
          intro v8 w8 h1 h2 h3
          obtain ⟨hb9', hset⟩ := Hs3.out.page hp7 h1 h2
          obtain ⟨A8, c8, rfl, -, -⟩ := h1.form
          have Hkf3 := Lib.hid ((KeepsFrom.refl ws.heap.size W1).trans ((kf_ext (B := ws.heap.size) hq).trans (kf_own (B := ws.heap.size) Hs3.out.out h2)))
          have Hset := Lib.hid hset
          obtain ⟨n8, hn8⟩ : ∃ n, (L.map Prod.snd ++ [r7]).length = n := ⟨_, rfl⟩
          rw [hn8] at Hset ⊢
          have Hn8 := Lib.hid hn8
          clear h1 h2 h3 hset hn8 hown7 hs7 hp7
          refine wpList_put rfl 29 (.tmp 9) (.tmp 69) rfl w4.heap.size 0 (.slice A8 n8 c8) rfl rfl [.slice A8 n8 c8] rfl Tryz.sizeOf29 (by simp [Value.oneCell']) 29 _ hb9' (by simp) ?_
          intro w9 hw9 hos9 htp9 hou9 hs9 hbk9
          have Hs4 := Lib.hid (Hset.out w9 hw9 hos9 htp9 hou9 hs9 (hbk9.trans (by simp)))
          have Hkf4 := Lib.hid (Hkf3.out.trans (kf_put (B := ws.heap.size) hb9' hw9 hs9))
          clear hw9 hos9 htp9 hou9 hs9 hbk9 hb9' hqa hq c9 c10
          have h6 := (Hs4.out.ext.block (block_lt Hb6.out)).trans Hb6.out
          have h7 := (Hs4.out.ext.block (block_lt Hb7.out)).trans Hb7.out
          have hF := Lib.hid (show PFin w (L ++ [(pageOf (Ll + 1) now, r7)]) (.slice A8 n8 c8) w9 from ⟨Hx0.out.trans Hs4.out.ext, Hs4.out.out.mono (Nat.zero_le _), Hs4.out.pgs⟩)
          have Hkf := Hkf4
          have c9 : w9.cell? ⟨w4.heap.size, 0, none⟩ = some (.slice A8 n8 c8) := by simp [World.cell?, Hs4.out.h9]
          go_wp2_with (first | (refine wpList_put rfl 29 (.tmp 6) (.tmp 70) rfl (w.heap.size + 2) 0 (.slice A8 n8 c8) rfl rfl [.slice A8 n8 c8] rfl Tryz.sizeOf29 (by simp [Value.oneCell']) 29 _ h6 (by simp) ?_; intro wy hwy hosy htpy houy hsy hbky; have h7y := (hwy (w.heap.size + 3) (by omega)).trans h7; have hFy := Lib.hid (hF.out.put h6 (.inl rfl) (by omega) hwy hosy htpy houy hsy); have kfy := Lib.hid (Hkf.out.trans (kf_put (B := ws.heap.size) h6 hwy hsy)); clear hwy hosy htpy houy hsy) |
            (refine wpList_put rfl 30 (.tmp 7) _ rfl (w.heap.size + 3) 0 (.int .i64 0) rfl rfl [.int .i64 0] rfl Tryz.sizeOf30 (by simp [Value.oneCell']) 30 _ h7y (by simp) ?_; intro wz hwz hosz htpz houz hsz hbkz; have h6z := (hwz (w.heap.size + 2) (by omega)).trans hbky; have hFz := Lib.hid (hFy.out.put h7y (.inr rfl) (by omega) hwz hosz htpz houz hsz); have kfz := Lib.hid (kfy.out.trans (kf_put (B := ws.heap.size) h7y hwz hsz)); clear hwz hosz htpz houz hsz hbky h7y))
          have hKz := kfz.out.same D _ hD HK.out rfl
          refine ⟨by simp, .inl ⟨_, _, rfl, run_takeDeferred hKz, ?_⟩⟩
          have k6 := cell_kept (show wz.cell? ⟨w.heap.size + 2, 0, none⟩ = some (.slice A8 n8 c8) by simp [World.cell?, h6z]) (grownBy_putObj' _ D (.deferred none)) (fun r e => by cases e; exact ⟨_, hKz, rfl⟩)
          have k7 := cell_kept (show wz.cell? ⟨w.heap.size + 3, 0, none⟩ = some (.int .i64 0) by simp [World.cell?, hbkz]) (grownBy_putObj' _ D (.deferred none)) (fun r e => by cases e; exact ⟨_, hKz, rfl⟩)
          have hFF := hFz.out.obj (o' := .deferred none) hKz rfl (by omega)
          obtain ⟨A9, c9', hv9, hc9', hs9⟩ := hFF.out.form
          have hL9 : ((L ++ [(pageOf (Ll + 1) now, r7)]).map Prod.snd).length = n8 := (by rw [List.map_append]; exact Hn8.out)
          rw [hL9, Value.slice.injEq] at hv9
          obtain ⟨rfl, -, rfl⟩ := hv9
          refine ⟨_, results_pag _ _ (w.heap.size + 2) (w.heap.size + 3) _ _ rfl rfl k6 k7, 0, _, _, (L ++ [(pageOf (Ll + 1) now, r7)]), by rw [hL9], hc9', hs9, hFF.pgs, hFF.ext, fun h => absurd rfl h, fun _ => ?_⟩
          refine ⟨?_, ?_, ?_, hW2, by omega⟩
          · rw [List.map_append]
            refine HP1.out.snoc ?_ (pgOk_of hn1 HP3.out (HP5.out (by intro e; rw [e] at hn1; simp at hn1)))
            rw [List.length_map]
            exact congrArg (· + 1) HLl2.out
          · rw [List.map_append, psum_append]
            have h9 := Htot.out
            simp only [psum, List.map_cons, List.map_nil, List.sum_cons, List.sum_nil, Nat.add_zero, pW_of] at h9 ⊢
            exact h9
          · intro p hp
            rw [List.map_append] at hp
            rcases List.mem_append.1 hp with hp | hp
            · exact HP2.out p hp
            · simp only [List.map_cons, List.map_nil, List.mem_singleton] at hp
              subst hp
              rw [pW_of]
              exact wsum_pos hn1 HP3.out
    case stop =>
      rintro D c' pre W1 hD - ⟨rfl, hx, hl6, hl7, h6, h7⟩ hK
      refine wpIn_ret ?_
      refine ⟨by simp, .inl ⟨_, _, rfl, run_takeDeferred hK, ?_⟩⟩
      have k6 := cell_kept (show W1.cell? ⟨w.heap.size + 2, 0, none⟩ = some (.slice none 0 0) by simp [World.cell?, h6]) (grownBy_putObj' _ D (.deferred none)) (fun r e => by cases e; exact ⟨_, hK, rfl⟩)
      have k7 := cell_kept (show W1.cell? ⟨w.heap.size + 3, 0, none⟩ = some (.int .i64 6) by simp [World.cell?, h7]) (grownBy_putObj' _ D (.deferred none)) (fun r e => by cases e; exact ⟨_, hK, rfl⟩)
      exact ⟨_, results_pag _ _ (w.heap.size + 2) (w.heap.size + 3) _ _ rfl rfl k6 k7, 6, none, 0, [], rfl, Nat.zero_le _, Sl.nil, by simp, hx.grown (grownBy_putObj' _ D (.deferred none)) hx.size (fun k e => by cases e; omega), fun _ => rfl, fun h => absurd h (by decide)⟩
  · have e1 : decide (z ≠ 0) = true := decide_eq_true hz0
    have h6 := H6.out
    have h7 := H7.out
    go_wp2_with (first | (refine wpList_put rfl 29 (.tmp 6) _ rfl (w.heap.size + 2) 0 (.slice none 0 0) rfl rfl [.slice none 0 0] rfl Tryz.sizeOf29 (by simp [Value.oneCell']) 29 _ h6 (by simp) ?_; intro wy hwy hosy htpy houy hsy hbky; have h7y := (hwy (w.heap.size + 3) (by omega)).trans h7; have hxy := Ext.put (Hx0.out.trans Hx4.out) (by omega) hwy hosy htpy houy hsy; clear hwy hosy htpy houy hsy) |
      (refine wpList_put rfl 30 (.tmp 7) _ rfl (w.heap.size + 3) 0 (.int .i64 z) rfl rfl [.int .i64 z] rfl Tryz.sizeOf30 (by simp [Value.oneCell']) 30 _ h7y (by simp) ?_; intro wz hwz hosz htpz houz hsz hbkz; have h6z := (hwz (w.heap.size + 2) (by omega)).trans hbky; have hxz := Ext.put hxy (by omega) hwz hosz htpz houz hsz; clear hwz hosz htpz houz hsz hbky h7y hxy))
    have q6 : wz.cell? ⟨w.heap.size + 2, 0, none⟩ = some (.slice none 0 0) := by simp [World.cell?, h6z]
    have q7 : wz.cell? ⟨w.heap.size + 3, 0, none⟩ = some (.int .i64 z) := by simp [World.cell?, hbkz]
    exact ⟨_, results_pag _ _ (w.heap.size + 2) (w.heap.size + 3) _ _ rfl rfl q6 q7, z, none, 0, [], rfl, Nat.zero_le _, Sl.nil, by simp, hxz, fun _ => rfl, fun h => absurd h hz0⟩
end Go.Proofs.YtjhdamjbljafhaaGreatDoor
