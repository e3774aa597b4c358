/- Comparisons of strings, marks, words; small laws on lists. Views of memory in which chosen blocks are dark: what reads there outlives writes to the dark blocks. Stores into a block of the call's own; append with the place of the new row. Trees of units: what a unit's eight cells and all that hangs below them read as. -/
import Derived.Test.YtjhdamjbljafhaaGreatDoorP03
import Derived.Maps.AppendAt
namespace Go.Proofs.YtjhdamjbljafhaaGreatDoor
open Go.RowKit
instance : DecidableEq GWord := fun x y => by
  rcases x with ⟨a, b, c, d⟩
  rcases y with ⟨a', b', c', d'⟩
  exact decidable_of_iff (a = a' ∧ b = b' ∧ c = c' ∧ d = d') (by simp)
theorem bytes_inj {a b : ByteArray} (h : a.toList = b.toList) : a = b := by
  rw [ByteArray.toList_eq, ByteArray.toList_eq] at h
  cases a; cases b
  simpa using h
theorem beq_bytes (a b : ByteArray) : (a.toList == b.toList) = decide (a = b) := by
  rw [Bool.eq_iff_iff]
  simp only [beq_iff_eq, decide_eq_true_eq]
  exact ⟨bytes_inj, fun h => by rw [h]⟩
theorem ret_bool {a b : Bool} (h : a = b) : Ending.returned (.bool a) = .returned (.bool b) := by rw [h]
@[go_sem] theorem eqMark (a b c a' b' c' : Int) (w : World) : (Op.equalIn 9999 103 (.agg #[.int .i64 a, .int .i64 b, .int .i64 c]) (.agg #[.int .i64 a', .int .i64 b', .int .i64 c'])).run Tryz.prog w = .ok (decide (a = a' ∧ b = b' ∧ c = c')) w := by
  have u3 := Tryz.underlying3
  have hS : Tryz.prog.underlying 103 = some (.struct (Tryz.prog.fieldsOf 103)) := by kernel_rfl
  rw [show (9999 : Nat) = 9998 + 1 from rfl, run_equalIn_agg w 9998 103 _ _ hS (by kernel_rfl)]
  simp only [Program.fieldsOf, Tryz.underlying103]
  go_simp
  by_cases h1 : a = a' <;> by_cases h2 : b = b' <;> by_cases h3 : c = c' <;> simp [h1, h2, h3]
@[go_sem] theorem eqWord (s s' : ByteArray) (a b c a' b' c' : Int) (w : World) : (Op.equalIn 10000 105 (.agg #[.string s, .int .i64 a, .int .i64 b, .int .i64 c]) (.agg #[.string s', .int .i64 a', .int .i64 b', .int .i64 c'])).run Tryz.prog w =
    .ok (decide (s = s' ∧ a = a' ∧ b = b' ∧ c = c')) w := by
  have u3 := Tryz.underlying9
  have hS : Tryz.prog.underlying 105 = some (.struct (Tryz.prog.fieldsOf 105)) := by kernel_rfl
  rw [show (10000 : Nat) = 9999 + 1 from rfl, run_equalIn_agg w 9999 105 _ _ hS (by kernel_rfl)]
  simp only [Program.fieldsOf, Tryz.underlying105]
  go_simp
  by_cases h1 : s = s'
  · subst h1
    by_cases h1 : a = a' <;> by_cases h2 : b = b' <;> by_cases h3 : c = c' <;> simp [h1, h2, h3]
  · have hn : ¬ s.toList = s'.toList := fun h => h1 (bytes_inj h)
    simp [h1, hn]
theorem all_take_succ {α : Type} (p : α → Bool) (l : List α) (k : Nat) (hk : k < l.length) : (l.take (k + 1)).all p = ((l.take k).all p && p l[k]) := by
  rw [List.take_succ_eq_append_getElem hk, List.all_append]
  simp
theorem all_false_of {α : Type} {p : α → Bool} {l : List α} {k : Nat} (hk : k < l.length) (h : p l[k] = false) : l.all p = false := by
  rw [List.all_eq_false]
  exact ⟨l[k], List.getElem_mem hk, by simp [h]⟩
end Go.Proofs.YtjhdamjbljafhaaGreatDoor
namespace Go.Proofs.YtjhdamjbljafhaaGreatDoor
open Go.RowKit
def mask (p : Nat → Bool) (w : World) : World := { w with heap := w.heap.mapIdx fun k o => if p k then .pending #[] 0 else o }
theorem mask_size (p : Nat → Bool) (w : World) : (mask p w).heap.size = w.heap.size := by simp [mask]
theorem mask_block (p : Nat → Bool) (w : World) (k : Nat) : (mask p w).heap[k]? = (w.heap[k]?).map fun o => if p k then .pending #[] 0 else o := by simp [mask]
theorem mask_cell {p : Nat → Bool} {w : World} {q : Addr} {c : Value} (h : (mask p w).cell? q = some c) : p q.block = false ∧ w.cell? q = some c := by
  unfold World.cell? at h ⊢
  rw [mask_block] at h
  cases hw : w.heap[q.block]? with
  | none => rw [hw] at h; cases h
  | some o =>
    rw [hw] at h
    cases hp : p q.block with
    | true => simp [hp] at h
    | false => simp only [hp, Option.map_some, Bool.false_eq_true, if_false] at h; exact ⟨rfl, h⟩
theorem mask_cell_of {p : Nat → Bool} {w : World} {q : Addr} {c : Value} (hp : p q.block = false) (h : w.cell? q = some c) : (mask p w).cell? q = some c := by
  unfold World.cell? at h ⊢
  rw [mask_block]
  cases hw : w.heap[q.block]? with
  | none => rw [hw] at h; cases h
  | some o => rw [hw] at h; simpa [hp] using h
structure CIn (w w' : World) : Prop where
  size : w.heap.size ≤ w'.heap.size
  cell : ∀ q c, w.cell? q = some c → w'.cell? q = some c
theorem CIn.refl (w : World) : CIn w w := ⟨Nat.le_refl _, fun _ _ h => h⟩
theorem CIn.trans {a b c : World} (h : CIn a b) (k : CIn b c) : CIn a c := ⟨Nat.le_trans h.size k.size, fun q v hv => k.cell q v (h.cell q v hv)⟩
theorem CIn.of_ext {w w' : World} (h : Ext w w') : CIn w w' := ⟨h.size, fun q c hc => (h.cell (World.block_lt_of_cell? w q hc)).trans hc⟩
theorem CIn.unmask (p : Nat → Bool) (w : World) : CIn (mask p w) w := ⟨by rw [mask_size]; exact Nat.le_refl _, fun _ _ h => (mask_cell h).2⟩
theorem CIn.weaken {p q : Nat → Bool} (w : World) (h : ∀ k, q k = true → p k = true) : CIn (mask p w) (mask q w) := by
  refine ⟨by rw [mask_size, mask_size]; exact Nat.le_refl _, fun a c hc => ?_⟩
  obtain ⟨h1, h2⟩ := mask_cell hc
  refine mask_cell_of ?_ h2
  cases hq : q a.block with
  | false => rfl
  | true => rw [h _ hq] at h1; cases h1
theorem CIn.keep {p q : Nat → Bool} {w w' : World} (hs : w.heap.size ≤ w'.heap.size) (hb : ∀ k, k < w.heap.size → p k = false → w'.heap[k]? = w.heap[k]? ∧ q k = false) : CIn (mask p w) (mask q w') := by
  refine ⟨by rw [mask_size, mask_size]; exact hs, fun a c hc => ?_⟩
  obtain ⟨h1, h2⟩ := mask_cell hc
  obtain ⟨h3, h4⟩ := hb a.block (World.block_lt_of_cell? w a h2) h1
  refine mask_cell_of h4 ?_
  rw [← h2]
  exact World.cell?_of_block h3
theorem CIn.keepExt {p q : Nat → Bool} {w w' : World} (he : Ext w w') (hb : ∀ k, k < w.heap.size → p k = false → q k = false) : CIn (mask p w) (mask q w') :=
  CIn.keep he.size fun k hk hp => ⟨he.block hk, hb k hk hp⟩
theorem CIn.ext {p : Nat → Bool} {w w' : World} (he : Ext w w') : CIn (mask p w) (mask p w') := CIn.keepExt he fun _ _ h => h
theorem Ext.put {a w w' : World} {b : Nat} (h : Ext a w) (hb : a.heap.size ≤ b) (hw : ∀ k, k ≠ b → w'.heap[k]? = w.heap[k]?) (hos : w'.os = w.os) (htp : w'.tape = w.tape) (hou : w'.output = w.output) (hs : w'.heap.size = w.heap.size) : Ext a w' :=
  ⟨hos.trans h.os, htp.trans h.tape, hou.trans h.output, by rw [hs]; exact h.size, fun k hk => (hw k (by omega)).trans (h.block hk)⟩
def fresh (n : Nat) : Nat → Bool := fun k => decide (k < n)
section
variable {P : Program} {α : Type} {D : El P α} {w w' : World} {A : Option Addr} {v : Value} {base : Nat} {xs ys : List α}
theorem Sl.cin (h : Sl D w A xs) (hc : CIn w w') : Sl D w' A xs := fun hn => by
  obtain ⟨b, off, hA, hb, hq⟩ := h hn
  exact ⟨b, off, hA, Nat.lt_of_lt_of_le hb hc.size, fun j u hu => hc.cell _ _ (hq j u hu)⟩
theorem Own.formMask {p : Nat → Bool} (h : Own D base w v xs) (hp : ∀ k, base ≤ k → v.ownBlock = some k → p k = false) : ∃ A c, v = .slice A xs.length c ∧ xs.length ≤ c ∧ c ≤ 281474976710656 * 32768 ∧ Sl D (mask p w) A xs := by
  rcases h.2 with ⟨hv, h0⟩ | ⟨g, cap, cur, hv, hg, hh, hn, hc, hs, ht⟩
  · have : xs = [] := List.eq_nil_of_length_eq_zero h0
    subst this
    exact ⟨none, 0, hv, Nat.le_refl _, Nat.zero_le _, Sl.nil⟩
  · refine ⟨some ⟨g, 0, none⟩, cap, hv, hn, by unfold maxLen at hc; omega, fun _ => ⟨g, 0, rfl, ?_, fun j u hu => ?_⟩⟩
    · rw [mask_size]
      rcases Nat.lt_or_ge g w.heap.size with hlt | hge
      · exact hlt
      · rw [Array.getElem?_eq_none hge] at hh; cases hh
    · refine mask_cell_of (hp g hg (by rw [hv]; rfl)) ?_
      rw [Nat.zero_add]
      simp only [World.cell?, hh]
      have : (cur.toList.take (xs.length * D.m))[j]? = some u := by rw [ht]; exact hu
      rw [List.getElem?_take] at this
      split at this
      · simpa using this
      · cases this
theorem Own.keep (h : Own D base w v xs) (hs : ∀ k, v.ownBlock = some k → w'.heap[k]? = w.heap[k]?) : Own D base w' v xs := by
  refine ⟨h.1, ?_⟩
  rcases h.2 with h2 | ⟨g, cap, cur, hv, hg, hh, r⟩
  · exact .inl h2
  · exact .inr ⟨g, cap, cur, hv, hg, (hs g (by rw [hv]; rfl)).trans hh, r⟩
end
theorem Own.step {P : Program} {α : Type} {D : El P α} {base bo B : Nat} {wr wq w2 w3 : World} {v v' : Value} {xs ys : List α} {p : Nat → Bool} (he : Ext wr wq) (hown : Own D base wr v xs) (hp2 : p bo = true) (hp3 : ∀ j, p j = true → j < wr.heap.size)
    (hpo : ∀ g, v.ownBlock = some g → p g = true ∧ g ≠ bo) (hg2 : wq.grownBy w2 v.ownBlock) (hloc : v'.ownBlock = v.ownBlock ∨ v'.ownBlock = some wq.heap.size) (hown2 : Own D base w2 v' ys)
    (hw3 : ∀ k, k ≠ bo → w3.heap[k]? = w2.heap[k]?) (hos : w3.os = w2.os) (htp : w3.tape = w2.tape) (hou : w3.output = w2.output) (hs : w3.heap.size = w2.heap.size) (hB1 : B ≤ bo) (hB2 : B ≤ base) (hB3 : B ≤ wr.heap.size) :
    ∃ p' : Nat → Bool, (∀ j, p j = true → p' j = true) ∧ (∀ j, p' j = true → j < w3.heap.size) ∧ (∀ g, v'.ownBlock = some g → p' g = true ∧ g ≠ bo) ∧ CIn (mask p wr) (mask p' w3) ∧ CIn (mask (fresh wr.heap.size) wq) (mask p' w3) ∧ Own D base w3 v' ys ∧ Below B wr w3 := by
  have hbo : bo < wr.heap.size := hp3 bo hp2
  have hsz := he.size
  have hsz2 := hg2.size
  have hne : ∀ g, v'.ownBlock = some g → g ≠ bo := by
    intro g hg
    rcases hloc with h | h
    · rw [h] at hg; exact (hpo g hg).2
    · rw [h] at hg
      cases hg
      omega
  have hnot : ∀ k, k ≠ wq.heap.size → v.ownBlock ≠ some k → v'.ownBlock ≠ some k := by
    intro k h1 h2 h3
    rcases hloc with h | h
    · rw [h] at h3; exact h2 h3
    · rw [h] at h3
      cases h3
      exact h1 rfl
  refine ⟨fun j => p j || decide (v'.ownBlock = some j), fun j hj => by simp [hj], fun j hj => ?_, fun g hg => ⟨by simp [hg], hne g hg⟩, ?_, ?_, hown2.keep fun g hg => hw3 g (hne g hg), ?_⟩
  · simp only [Bool.or_eq_true, decide_eq_true_eq] at hj
    rcases hj with h | h
    · have := hp3 j h; omega
    · have := (hown2.lt j h).2; omega
  · refine CIn.keep (by omega) fun k hk hpk => ?_
    have h1 : k ≠ bo := by rintro rfl; rw [hp2] at hpk; cases hpk
    have h2 : v.ownBlock ≠ some k := fun h => by rw [(hpo k h).1] at hpk; cases hpk
    refine ⟨(hw3 k h1).trans ((hg2.block k (by omega) (fun h => h2 h.symm)).trans (he.block hk)), ?_⟩
    simp [hpk, hnot k (by omega) h2]
  · refine CIn.keep (by omega) fun k hk hpk => ?_
    simp only [fresh, decide_eq_false_iff_not, Nat.not_lt] at hpk
    have h2 : v.ownBlock ≠ some k := fun h => by have := (hown.lt k h).2; omega
    refine ⟨(hw3 k (by omega)).trans (hg2.block k hk (fun h => h2 h.symm)), ?_⟩
    have h3 : p k = false := by
      cases h : p k with
      | false => rfl
      | true => have := hp3 k h; omega
    simp [h3, hnot k (by omega) h2]
  · refine ⟨hos.trans (hg2.os.trans he.os), htp.trans (hg2.tape.trans he.tape), hou.trans (hg2.output.trans he.output), by omega, fun k hk => ?_⟩
    have h2 : v.ownBlock ≠ some k := fun h => by have := (hown.lt k h).1; omega
    exact (hw3 k (by omega)).trans ((hg2.block k (by omega) (fun h => h2 h.symm)).trans (he.block (by omega)))
section
variable {P : Program} {w : World} {ops : Array Oper} {rest : List Oper} {o : Oper} {a : Act} {Q : Exit → Act → World → Prop}
theorem wpList_put (hgd : o.guard = none) (ty : TypeId) (x y : Operand) (ho : o.op = .store ty x y) (g off : Nat) (v : Value) (hx : a.eval x = .pointer (some ⟨g, off, none⟩)) (hy : a.eval y = v) (vs : List Value) (hv : v.cells.toList = vs)
    (hsz : ∀ w, (sizeOf ty).run P w = .ok vs.length w) (h1 : ∀ u ∈ vs, u.oneCell' = true) (t : TypeId) (cur : Array Value) (hg : w.heap[g]? = some (.cells cur t (0, 0))) (hoff : off + vs.length ≤ cur.size)
    (h : ∀ w', (∀ k, k ≠ g → w'.heap[k]? = w.heap[k]?) → w'.os = w.os → w'.tape = w.tape → w'.output = w.output → w'.heap.size = w.heap.size → w'.heap[g]? = some (.cells (cur.toList.take off ++ vs ++ cur.toList.drop (off + vs.length)).toArray t (0, 0)) →
      wpList P ops Q rest (a.put o.dst undef) w') : wpList P ops Q (o :: rest) a w := by
  refine wpList_plain hgd fun K hK => ?_
  have hrun := run_storeCells_at (P := P) g off t vs 0 cur w hg (by simpa using hoff) h1
  have hr : (storeVar ty ⟨g, off, none⟩ v).run P w = .ok () (w.setRow g (cur.toList.take (off + 0) ++ vs ++ cur.toList.drop (off + 0 + vs.length)).toArray) := by
    have hl : v.cells.size = vs.length := by rw [← hv]; simp
    simp [storeVar, hsz, hl, hv, hrun]
  unfold Oper.wp execOp
  simp only [ho, hx, hy, Instr.storeAt, Instr.sureAddr, Sem.run_bind, Sem.run_pure, Result.andThen_ok, hr]
  refine hK _ _ (h _ (fun k hk => setRow_other w g k _ hk) rfl rfl rfl (by simp) ?_)
  simp only [Nat.add_zero]
  exact setRow_heap w g cur _ t _ hg
variable {α : Type} (D : El P α) {A : Option Addr} {v : Value} {base : Nat} {xs ys : List α}
theorem run_appAt (ty : TypeId) (hown : Own D base w v xs) (c : Nat) (hsl : Sl D w A ys) (hn : xs.length + ys.length ≤ 68719476736) (hbase : base ≤ w.heap.size) :
    ∃ v' w', (Builtin.append_ #[D.t, D.t] ty #[v, .slice A ys.length c]).run P w = .ok v' w' ∧ Own D base w' v' (xs ++ ys) ∧ w.grownBy w' v.ownBlock ∧ (v'.ownBlock = v.ownBlock ∨ v'.ownBlock = some w.heap.size) := by
  obtain ⟨i, hi, hz0, hz1, hz2⟩ := info_parts D.hi
  have nilcase : ys = [] → (A = none) → ∃ v' w', (Builtin.append_ #[D.t, D.t] ty #[v, .slice A ys.length c]).run P w = .ok v' w' ∧ Own D base w' v' (xs ++ ys) ∧ w.grownBy w' v.ownBlock ∧ (v'.ownBlock = v.ownBlock ∨ v'.ownBlock = some w.heap.size) := by
    rintro rfl rfl
    exact ⟨v, w, run_app_nil D ty hown c, by simpa using hown, ⟨rfl, rfl, rfl, Nat.le_refl _, fun _ _ _ => rfl⟩, .inl rfl⟩
  have main : ∀ ad : Addr, A = some ad → (∀ j u, (D.flat ys)[j]? = some u → w.cell? (ad.add j) = some u) → ∃ v' w', (Builtin.append_ #[D.t, D.t] ty #[v, .slice A ys.length c]).run P w = .ok v' w' ∧ Own D base w' v' (xs ++ ys) ∧ w.grownBy w' v.ownBlock ∧ (v'.ownBlock = v.ownBlock ∨ v'.ownBlock = some w.heap.size) := by
    rintro ad rfl hc
    have hb := D.hb
    obtain ⟨v', w', hr, h2, h3, _, h5⟩ := run_append_own_at (P := P) w base D.t ty D.e i D.z D.m D.bytes D.ht hi hz0 hz1 hz2 D.hz D.hm v xs.length (D.flat xs) hown ad ys.length c (D.flat ys) (D.flat_length ys) hc D.flat_mem
      (by unfold maxLen; omega) (Nat.le_trans (Nat.mul_le_mul hn hb) (by decide)) hbase
    refine ⟨v', w', hr, ?_, h3, h5⟩
    unfold Own
    rw [List.length_append, D.flat_append]
    exact h2
  rcases A with _ | ad
  · cases ys with
    | nil => exact nilcase rfl rfl
    | cons y ys => obtain ⟨_, _, h, _⟩ := hsl (by simp); cases h
  · refine main ad rfl fun j u hu => ?_
    cases ys with
    | nil => simp [El.flat] at hu
    | cons y ys =>
      obtain ⟨b, off, h, _, hc⟩ := hsl (by simp)
      cases h
      have := hc j u hu
      unfold Addr.add
      split
      · rename_i h0; subst h0; simpa using this
      · exact this
theorem wpList_appAt (hgd : o.guard = none) (s x : Operand) (ho : o.op = .call { callee := .builtin .append, args := #[s, x], argTypes := #[D.t, D.t] })
    (c : Nat) (hs : a.eval s = v) (hown : Own D base w v xs) (hx : a.eval x = .slice A ys.length c) (hsl : Sl D w A ys) (hn : xs.length + ys.length ≤ 68719476736) (hbase : base ≤ w.heap.size)
    (h : ∀ v' w', Own D base w' v' (xs ++ ys) → w.grownBy w' v.ownBlock → (v'.ownBlock = v.ownBlock ∨ v'.ownBlock = some w.heap.size) → wpList P ops Q rest (a.put o.dst v') w') : wpList P ops Q (o :: rest) a w :=
  wpList_plain hgd fun _ hK => by
    obtain ⟨v', w', hr, h2, h3, h4⟩ := run_appAt D o.type hown c hsl hn hbase
    unfold Oper.wp execOp
    simp only [ho, resolve, invoke, builtin, Sem.run_bind, Sem.run_pure, Result.andThen_ok, List.map_toArray, List.map_cons, List.map_nil, hs, hx, hr]
    exact hK _ _ (h v' w' h2 h3 h4)
theorem wpList_putOwn (hgd : o.guard = none) (x y : Operand) (ho : o.op = .store D.e x y) (g c k off : Nat) (r : α) (u : Value) (hx : a.eval x = .pointer (some ⟨g, off, none⟩)) (hoff : off = k * D.m) (hy : a.eval y = u) (hu : u.cells.toList = D.E r)
    (hown : Own D base w (.slice (some ⟨g, 0, none⟩) xs.length c) xs) (hk : k < xs.length)
    (h : ∀ w', (∀ k, k ≠ g → w'.heap[k]? = w.heap[k]?) → w'.os = w.os → w'.tape = w.tape → w'.output = w.output → w'.heap.size = w.heap.size → Own D base w' (.slice (some ⟨g, 0, none⟩) xs.length c) (xs.set k r) → wpList P ops Q rest (a.put o.dst undef) w') :
    wpList P ops Q (o :: rest) a w := by
  obtain ⟨i, hi, _, hsz, _⟩ := info_parts D.hi
  have hs : ∀ w, (sizeOf D.e).run P w = .ok D.m w := fun w => by simp [sizeOf, typeInfo, hi, hsz]
  rcases hown.2 with ⟨hv, h0⟩ | ⟨g', cap, cur, hv, hg, hh, hn, hc, hcs, ht⟩
  · cases hv
  · cases hv
    have hkm : k * D.m + D.m ≤ xs.length * D.m := by rw [← Nat.succ_mul]; exact Nat.mul_le_mul_right _ hk
    have hcm : xs.length * D.m ≤ cur.size := by rw [hcs]; exact Nat.mul_le_mul_right _ hn
    refine wpList_put hgd D.e x y ho g off u hx hy (D.E r) hu (fun w => by rw [D.hE]; exact hs w) (fun v hv => D.h1 r v hv) D.e cur hh (by rw [D.hE, hoff]; omega) fun w' h1 h2 h3 h4 h5 h6 => h w' h1 h2 h3 h4 h5 ?_
    subst hoff
    have hl : (D.flat (xs.set k r)).length = xs.length * D.m := by rw [D.flat_length, List.length_set]
    have hdec : xs.set k r = xs.take k ++ r :: xs.drop (k + 1) := by rw [List.set_eq_take_append_cons_drop, if_pos hk]
    have hdec0 : xs = xs.take k ++ xs[k] :: xs.drop (k + 1) := by rw [← List.drop_eq_getElem_cons hk, List.take_append_drop]
    have hlk : (D.flat (xs.take k)).length = k * D.m := by rw [D.flat_length, List.length_take, Nat.min_eq_left (by omega)]
    have hlr : (D.flat (xs.drop (k + 1))).length = xs.length * D.m - (k * D.m + D.m) := by
      rw [D.flat_length, List.length_drop, Nat.sub_mul, Nat.succ_mul]
    have hcurr : cur.toList = D.flat (xs.take k) ++ (D.E xs[k] ++ (D.flat (xs.drop (k + 1)) ++ cur.toList.drop (xs.length * D.m))) := by
      have e0 : cur.toList = D.flat xs ++ cur.toList.drop (xs.length * D.m) := by
        conv => lhs; rw [← List.take_append_drop (xs.length * D.m) cur.toList, ht]
      have e1 : D.flat xs = D.flat (xs.take k) ++ (D.E xs[k] ++ D.flat (xs.drop (k + 1))) := by
        conv => lhs; rw [hdec0, D.flat_append]
        simp only [El.flat, List.flatMap_cons]
      rw [e1] at e0
      conv => lhs; rw [e0]
      simp only [List.append_assoc]
    have e2 : cur.toList.take (k * D.m) = D.flat (xs.take k) := by
      rw [hcurr, ← hlk]; exact List.take_left
    have e3 : cur.toList.drop (k * D.m + (D.E r).length) = D.flat (xs.drop (k + 1)) ++ cur.toList.drop (xs.length * D.m) := by
      rw [D.hE]
      conv => lhs; rw [hcurr]
      rw [← List.append_assoc, List.drop_left' (by rw [List.length_append, hlk, D.hE])]
    unfold Own World.ownsRow
    rw [List.length_set]
    refine ⟨hl, .inr ⟨g, c, _, rfl, hg, h6, hn, hc, ?_, ?_⟩⟩
    · simp only [List.size_toArray, List.length_append, List.length_take, List.length_drop, Array.length_toList, D.hE]
      omega
    · rw [List.toList_toArray, e2, e3]
      have e4 : D.flat (xs.set k r) = D.flat (xs.take k) ++ D.E r ++ D.flat (xs.drop (k + 1)) := by
        rw [hdec, D.flat_append]
        simp [El.flat]
      rw [← List.append_assoc, ← e4, ← hl]
      exact List.take_left
end
end Go.Proofs.YtjhdamjbljafhaaGreatDoor
namespace Go.Proofs.YtjhdamjbljafhaaGreatDoor
open Go.RowKit
structure RUnit where
  a : Int
  i : Int
  n : Int
  kind : Int
  label : ByteArray
  hA : Option Addr
  hn : Nat
  hc : Nat
  wA : Option Addr
  wn : Nat
  wc : Nat
  kA : Option Addr
  kn : Nat
  kc : Nat
def RUnit.cells (r : RUnit) : List Value := [.int .i64 r.a, .int .i64 r.i, .int .i64 r.n, .int .i64 r.kind, .string r.label, .slice r.hA r.hn r.hc, .slice r.wA r.wn r.wc, .slice r.kA r.kn r.kc]
def unitEl : El Tryz.prog RUnit := { t := 25, e := 27, m := 8, bytes := 120, z := .agg #[.int .i64 0, .int .i64 0, .int .i64 0, .int .i64 0, .string ByteArray.empty, .slice none 0 0, .slice none 0 0, .slice none 0 0], E := RUnit.cells, hE := fun _ => rfl, h1 := by simp [RUnit.cells, Value.oneCell'], ht := by kernel_rfl, hi := by kernel_rfl, hz := rfl, hm := by decide, hb := by decide, agg := true, hagg := Tryz.isAgg27 }
inductive GUnit where
  | mk (a i n kind : Int) (label : ByteArray) (head words : List GWord) (kids : List GUnit)
mutual

def Reads (w : World) : GUnit → RUnit → Prop
  | .mk a i n k l hd wd kids, r => (r.a = a ∧ r.i = i ∧ r.n = n ∧ r.kind = k ∧ r.label = l) ∧ (r.hn = hd.length ∧ hd.length ≤ r.hc ∧ Sl wordEl w r.hA hd) ∧ (r.wn = wd.length ∧ wd.length ≤ r.wc ∧ Sl wordEl w r.wA wd) ∧
    (r.kn = kids.length ∧ kids.length ≤ r.kc ∧ ∃ rs, Sl unitEl w r.kA rs ∧ ReadsAll w kids rs)
def ReadsAll (w : World) : List GUnit → List RUnit → Prop
  | [], [] => True
  | u :: us, r :: rs => Reads w u r ∧ ReadsAll w us rs
  | [], _ :: _ => False
  | _ :: _, [] => False
end
mutual
theorem Reads.cin {w w' : World} (he : CIn w w') : ∀ (u : GUnit) (r : RUnit), Reads w u r → Reads w' u r
  | .mk a i n k l hd wd kids, r, h => by
    rw [Reads] at h ⊢
    obtain ⟨h1, ⟨h2, h3, h4⟩, ⟨h5, h6, h7⟩, h8, h9, rs, h10, h11⟩ := h
    exact ⟨h1, ⟨h2, h3, h4.cin he⟩, ⟨h5, h6, h7.cin he⟩, h8, h9, rs, h10.cin he, ReadsAll.cin he kids rs h11⟩
theorem ReadsAll.cin {w w' : World} (he : CIn w w') : ∀ (us : List GUnit) (rs : List RUnit), ReadsAll w us rs → ReadsAll w' us rs
  | [], [], _ => by rw [ReadsAll]; trivial
  | u :: us, r :: rs, h => by
    rw [ReadsAll] at h ⊢
    exact ⟨Reads.cin he u r h.1, ReadsAll.cin he us rs h.2⟩
  | [], _ :: _, h => by rw [ReadsAll] at h; exact h.elim
  | _ :: _, [], h => by rw [ReadsAll] at h; exact h.elim
end
theorem Reads.ext {w w' : World} (he : Ext w w') (u : GUnit) (r : RUnit) (h : Reads w u r) : Reads w' u r := Reads.cin (CIn.of_ext he) u r h
theorem ReadsAll.ext {w w' : World} (he : Ext w w') (us : List GUnit) (rs : List RUnit) (h : ReadsAll w us rs) : ReadsAll w' us rs := ReadsAll.cin (CIn.of_ext he) us rs h
theorem ReadsAll.length {w : World} : ∀ {us : List GUnit} {rs : List RUnit}, ReadsAll w us rs → rs.length = us.length
  | [], [], _ => rfl
  | u :: us, r :: rs, h => by
    rw [ReadsAll] at h
    simp [ReadsAll.length h.2]
  | [], _ :: _, h => by rw [ReadsAll] at h; exact h.elim
  | _ :: _, [], h => by rw [ReadsAll] at h; exact h.elim
theorem ReadsAll.get {w : World} : ∀ {us : List GUnit} {rs : List RUnit}, ReadsAll w us rs → ∀ (k : Nat) (h1 : k < us.length) (h2 : k < rs.length), Reads w us[k] rs[k]
  | u :: us, r :: rs, h, 0, _, _ => by rw [ReadsAll] at h; exact h.1
  | u :: us, r :: rs, h, k + 1, h1, h2 => by
    rw [ReadsAll] at h
    exact ReadsAll.get h.2 k (by simpa using h1) (by simpa using h2)
theorem ReadsAll.snoc {w : World} : ∀ {us : List GUnit} {rs : List RUnit} {u : GUnit} {r : RUnit}, ReadsAll w us rs → Reads w u r → ReadsAll w (us ++ [u]) (rs ++ [r])
  | [], [], u, r, _, h2 => by rw [List.nil_append, List.nil_append, ReadsAll, ReadsAll]; exact ⟨h2, trivial⟩
  | v :: us, q :: rs, u, r, h, h2 => by
    rw [ReadsAll] at h
    rw [List.cons_append, List.cons_append, ReadsAll]
    exact ⟨h.1, ReadsAll.snoc h.2 h2⟩
  | [], _ :: _, _, _, h, _ => by rw [ReadsAll] at h; exact h.elim
  | _ :: _, [], _, _, h, _ => by rw [ReadsAll] at h; exact h.elim
mutual

def AllU (p : GUnit → Prop) : GUnit → Prop
  | .mk a i n k l hd wd kids => p (.mk a i n k l hd wd kids) ∧ AllUs p kids
def AllUs (p : GUnit → Prop) : List GUnit → Prop
  | [] => True
  | u :: us => AllU p u ∧ AllUs p us
end
theorem AllUs.get {p : GUnit → Prop} : ∀ {us : List GUnit}, AllUs p us → ∀ (k : Nat) (h : k < us.length), AllU p us[k]
  | u :: us, h, 0, _ => by rw [AllUs] at h; exact h.1
  | u :: us, h, k + 1, hk => by
    rw [AllUs] at h
    exact AllUs.get h.2 k (by simpa using hk)
mutual
theorem AllU.mono {p q : GUnit → Prop} (hpq : ∀ u, p u → q u) : ∀ u, AllU p u → AllU q u
  | .mk a i n k l hd wd kids, h => by
    rw [AllU] at h ⊢
    exact ⟨hpq _ h.1, AllUs.mono hpq kids h.2⟩
theorem AllUs.mono {p q : GUnit → Prop} (hpq : ∀ u, p u → q u) : ∀ us, AllUs p us → AllUs q us
  | [], _ => by rw [AllUs]; trivial
  | u :: us, h => by
    rw [AllUs] at h ⊢
    exact ⟨AllU.mono hpq u h.1, AllUs.mono hpq us h.2⟩
end
def lensLe (m q : Nat) : GUnit → Prop
  | .mk _ _ _ _ _ hd wd kids => hd.length ≤ m ∧ wd.length ≤ m ∧ kids.length ≤ q
mutual
def cntF : GUnit → Nat
  | .mk _ _ _ _ _ _ _ kids => 1 + cntL kids
def cntL : List GUnit → Nat
  | [] => 0
  | u :: us => cntF u + cntL us
end
theorem cnt_pos : ∀ (u : GUnit), 1 ≤ cntF u
  | .mk _ _ _ _ _ _ _ kids => by rw [cntF]; omega
theorem cntL_len : ∀ (us : List GUnit), us.length ≤ cntL us
  | [] => by simp
  | u :: us => by
    have h1 := cnt_pos u
    have h2 := cntL_len us
    rw [cntL, List.length_cons]
    omega
theorem cntL_take {kids : List GUnit} {k : Nat} (hk : k < kids.length) : cntL (kids.take (k + 1)) = cntL (kids.take k) + cntF kids[k] := by
  induction kids generalizing k with
  | nil => simp at hk
  | cons u us ih =>
    cases k with
    | zero => simp [cntL]
    | succ k =>
      have := ih (k := k) (by simpa using hk)
      simp only [List.take_succ_cons, cntL, this, List.getElem_cons_succ]
      omega
theorem unitAt {w : World} {A : Option Addr} {xs : List RUnit} (h : Sl unitEl w A xs) {k : Nat} (hk : k < xs.length) : ∃ b off, A = some ⟨b, off, none⟩ ∧ b < w.heap.size ∧
    w.cell? ⟨b, off + k * 8, none⟩ = some (.int .i64 xs[k].a) ∧ w.cell? ⟨b, off + k * 8 + 1, none⟩ = some (.int .i64 xs[k].i) ∧ w.cell? ⟨b, off + k * 8 + 2, none⟩ = some (.int .i64 xs[k].n) ∧ w.cell? ⟨b, off + k * 8 + 3, none⟩ = some (.int .i64 xs[k].kind) ∧
    w.cell? ⟨b, off + k * 8 + 4, none⟩ = some (.string xs[k].label) ∧ w.cell? ⟨b, off + k * 8 + 5, none⟩ = some (.slice xs[k].hA xs[k].hn xs[k].hc) ∧ w.cell? ⟨b, off + k * 8 + 6, none⟩ = some (.slice xs[k].wA xs[k].wn xs[k].wc) ∧ w.cell? ⟨b, off + k * 8 + 7, none⟩ = some (.slice xs[k].kA xs[k].kn xs[k].kc) := by
  obtain ⟨b, off, hA, hb, hc⟩ := h.at_ hk
  exact ⟨b, off, hA, hb, by simpa [unitEl] using hc 0 _ rfl, hc 1 _ rfl, hc 2 _ rfl, hc 3 _ rfl, hc 4 _ rfl, hc 5 _ rfl, hc 6 _ rfl, hc 7 _ rfl⟩
theorem unitBlock {w : World} {b : Nat} {r : RUnit} (h : w.heap[b]? = some (.cells r.cells.toArray 27 (0, 0))) : 
    w.cell? ⟨b, 0, none⟩ = some (.int .i64 r.a) ∧ w.cell? ⟨b, 1, none⟩ = some (.int .i64 r.i) ∧ w.cell? ⟨b, 2, none⟩ = some (.int .i64 r.n) ∧ w.cell? ⟨b, 3, none⟩ = some (.int .i64 r.kind) ∧
    w.cell? ⟨b, 4, none⟩ = some (.string r.label) ∧ w.cell? ⟨b, 5, none⟩ = some (.slice r.hA r.hn r.hc) ∧ w.cell? ⟨b, 6, none⟩ = some (.slice r.wA r.wn r.wc) ∧ w.cell? ⟨b, 7, none⟩ = some (.slice r.kA r.kn r.kc) := by
  simp [World.cell?, h, RUnit.cells]
theorem boxUnit (r : RUnit) {w w' : World} (he : Ext (w.alloc (.cells r.cells.toArray 27)) w') : w.heap.size < w'.heap.size ∧
    w'.cell? ⟨w.heap.size, 0, none⟩ = some (.int .i64 r.a) ∧ w'.cell? ⟨w.heap.size, 1, none⟩ = some (.int .i64 r.i) ∧ w'.cell? ⟨w.heap.size, 2, none⟩ = some (.int .i64 r.n) ∧ w'.cell? ⟨w.heap.size, 3, none⟩ = some (.int .i64 r.kind) ∧
    w'.cell? ⟨w.heap.size, 4, none⟩ = some (.string r.label) ∧ w'.cell? ⟨w.heap.size, 5, none⟩ = some (.slice r.hA r.hn r.hc) ∧ w'.cell? ⟨w.heap.size, 6, none⟩ = some (.slice r.wA r.wn r.wc) ∧ w'.cell? ⟨w.heap.size, 7, none⟩ = some (.slice r.kA r.kn r.kc) := by
  obtain ⟨b, off, h1, h2, h3⟩ := unitAt ((Sl.new unitEl (w := w) (xs := [r]) (by simp [El.flat, unitEl])).ext he) (k := 0) (by simp)
  simp only [Option.some.injEq, Addr.mk.injEq] at h1
  obtain ⟨rfl, rfl, -⟩ := h1
  simp only [Nat.zero_mul, Nat.zero_add, List.getElem_cons_zero] at h3
  exact ⟨h2, h3⟩
end Go.Proofs.YtjhdamjbljafhaaGreatDoor
