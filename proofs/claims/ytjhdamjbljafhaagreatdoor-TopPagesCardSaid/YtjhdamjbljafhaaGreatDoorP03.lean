/- append and its kin, said of lists: onto the call's own row, from whatever slice. -/
import Derived.Test.YtjhdamjbljafhaaGreatDoorP02
namespace Go.Proofs.YtjhdamjbljafhaaGreatDoor
open Go.RowKit
section
variable {P : Program} {α : Type} (D : El P α) {w w' : World} {A : Option Addr} {v : Value} {base : Nat} {xs ys : List α}
theorem Sl.new {cs : Array Value} {e : TypeId} (h : cs.toList = D.flat xs) : Sl D (w.alloc (.cells cs e)) (some ⟨w.heap.size, 0, none⟩) xs := fun _ =>
  ⟨w.heap.size, 0, rfl, by simp, fun j u hu => by
    rw [Nat.zero_add, World.cell?_alloc_new, ← hu, ← h]
    simp⟩
theorem Sl.new' {cs : Array Value} {e : TypeId} {n : Nat} (hn : n = w.heap.size) (h : cs.toList = D.flat xs) : Sl D (w.alloc (.cells cs e)) (some ⟨n, 0, none⟩) xs := by
  subst hn
  exact Sl.new D h
theorem run_app_nil (ty : TypeId) (hown : Own D base w v xs) (c : Nat) : (Builtin.append_ #[D.t, D.t] ty #[v, .slice none 0 c]).run P w = .ok v w := by
  obtain ⟨i, hi, _⟩ := info_parts D.hi
  rcases hown.2 with ⟨rfl, _⟩ | ⟨g, cap, cur, rfl, _, _, hnc, _⟩
  · simp [Builtin.append_, run_underlying D.ht, sizeOf, typeInfo, hi, Builtin.lenOf, Builtin.firstCells]
  · simp [Builtin.append_, run_underlying D.ht, sizeOf, typeInfo, hi, Builtin.lenOf, Builtin.firstCells, hnc, storeCells]
theorem run_app (ty : TypeId) (hown : Own D base w v xs) (c : Nat) (hsl : Sl D w A ys) (hn : xs.length + ys.length ≤ 68719476736) (hbase : base ≤ w.heap.size) :
    ∃ v' w', (Builtin.append_ #[D.t, D.t] ty #[v, .slice A ys.length c]).run P w = .ok v' w' ∧ Own D base w' v' (xs ++ ys) ∧ Below base w w' ∧ w.grownBy w' v.ownBlock := by
  obtain ⟨i, hi, hz0, hz1, hz2⟩ := info_parts D.hi
  have nilcase : ys = [] → (A = none) → ∃ v' w', (Builtin.append_ #[D.t, D.t] ty #[v, .slice A ys.length c]).run P w = .ok v' w' ∧ Own D base w' v' (xs ++ ys) ∧ Below base w w' ∧ w.grownBy w' v.ownBlock := by
    rintro rfl rfl
    exact ⟨v, w, run_app_nil D ty hown c, by simpa using hown, Below.refl _ _, ⟨rfl, rfl, rfl, Nat.le_refl _, fun _ _ _ => rfl⟩⟩
  have main : ∀ ad : Addr, A = some ad → (∀ j u, (D.flat ys)[j]? = some u → w.cell? (ad.add j) = some u) → ∃ v' w', (Builtin.append_ #[D.t, D.t] ty #[v, .slice A ys.length c]).run P w = .ok v' w' ∧ Own D base w' v' (xs ++ ys) ∧ Below base w w' ∧ w.grownBy w' v.ownBlock := by
    rintro ad rfl hc
    have hb := D.hb
    obtain ⟨v', w', hr, h2, h3, _⟩ := run_append_own (P := P) w base D.t ty D.e i D.z D.m D.bytes D.ht hi hz0 hz1 hz2 D.hz D.hm v xs.length (D.flat xs) hown ad ys.length c (D.flat ys) (D.flat_length ys) hc D.flat_mem
      (by unfold maxLen; omega) (Nat.le_trans (Nat.mul_le_mul hn hb) (by decide)) hbase
    refine ⟨v', w', hr, ?_, (Below.refl _ _).grown h3 hbase (fun k hk => (hown.lt k hk).1), h3⟩
    unfold Own
    rw [List.length_append, D.flat_append]
    exact h2
  rcases A with _ | ad
  · cases ys with
    | nil => exact nilcase rfl rfl
    | cons y ys => obtain ⟨_, _, h, _⟩ := hsl (by simp); cases h
  · refine main ad rfl fun j u hu => ?_
    cases ys with
    | nil => simp [El.flat] at hu
    | cons y ys =>
      obtain ⟨b, off, h, _, hc⟩ := hsl (by simp)
      cases h
      have := hc j u hu
      unfold Addr.add
      split
      · rename_i h0; subst h0; simpa using this
      · exact this
theorem wp_app {o : Oper} {a : Act} {K : Act → World → Prop} {Q : Exit → Act → World → Prop} (s x : Operand)
    (ho : o.op = .call { callee := .builtin .append, args := #[s, x], argTypes := #[D.t, D.t] })
    (c : Nat) (hs : a.eval s = v) (hown : Own D base w v xs) (hx : a.eval x = .slice A ys.length c) (hsl : Sl D w A ys) (hn : xs.length + ys.length ≤ 68719476736) (hbase : base ≤ w.heap.size)
    (h : ∀ v' w', Own D base w' v' (xs ++ ys) → Below base w w' → w.grownBy w' v.ownBlock → K (a.put o.dst v') w') : o.wp P a w K Q := by
  obtain ⟨v', w', hr, h2, h3, h4⟩ := run_app D o.type hown c hsl hn hbase
  unfold Oper.wp execOp
  simp only [ho, resolve, invoke, builtin, Sem.run_bind, Sem.run_pure, Result.andThen_ok, List.map_toArray, List.map_cons, List.map_nil, hs, hx, hr]
  exact h v' w' h2 h3 h4
theorem wpList_app {ops : Array Oper} {rest : List Oper} {o : Oper} {a : Act} {Q : Exit → Act → World → Prop} (hgd : o.guard = none) (s x : Operand)
    (ho : o.op = .call { callee := .builtin .append, args := #[s, x], argTypes := #[D.t, D.t] })
    (c : Nat) (hs : a.eval s = v) (hown : Own D base w v xs) (hx : a.eval x = .slice A ys.length c) (hsl : Sl D w A ys) (hn : xs.length + ys.length ≤ 68719476736) (hbase : base ≤ w.heap.size)
    (h : ∀ v' w', Own D base w' v' (xs ++ ys) → Below base w w' → w.grownBy w' v.ownBlock → wpList P ops Q rest (a.put o.dst v') w') : wpList P ops Q (o :: rest) a w :=
  wpList_plain hgd fun _ hK => wp_app D s x ho c hs hown hx hsl hn hbase fun v' w' h2 h3 h4 => hK _ _ (h v' w' h2 h3 h4)
end
section
variable {P : Program} {α : Type} (D : El P α) {w w' : World} {A : Option Addr} {xs : List α} {c : Nat}
theorem Sl.cut (h : Sl D w A xs) (l hh : Nat) (hl : l ≤ hh) (hn : hh ≤ xs.length) (hc : xs.length ≤ c) : Sl D w (if c = l then A else A.map (·.add (l * D.m))) ((xs.drop l).take (hh - l)) :=
  (Sl.drop h l c (by omega) hc).take _
theorem run_slice_any (n l hh m : Nat) (lo hi mx : Option Value) (hlo : (match lo with | some v => v = .int .i64 (l : Int) | none => l = 0)) (hhi : (match hi with | some v => v = .int .i64 (hh : Int) | none => hh = n))
    (hmx : (match mx with | some v => v = .int .i64 (m : Int) ∧ hi.isSome = true | none => m = c)) (h1 : l ≤ hh) (h2 : hh ≤ m) (h3 : m ≤ c) (h4 : n ≤ c) :
    (Instr.sliceAt D.t (.slice A n c) lo hi mx).run P w = .ok (.slice (if m = l then A else A.map (·.add (l * D.m))) (hh - l) (m - l)) w := by
  obtain ⟨i, hi', _, hsz, _⟩ := info_parts D.hi
  have hs : ∀ w, (sizeOf D.e).run P w = .ok D.m w := fun w => by simp [sizeOf, typeInfo, hi', hsz]
  have hsb : ∀ (x y : Nat) (code : BoundsCode) (w : World), x ≤ y → (Instr.sliceBound (.int .i64 (x : Int)) y code).run P w = .ok x w := fun x y code w hxy => by
    simp [Instr.sliceBound, asIntOf, hxy]
  have hb : (Instr.sliceBounds true n c lo hi mx).run P w = .ok (l, hh, m) w := by
    cases mx with
    | none =>
      rcases lo with _ | lo <;> rcases hi with _ | hi <;> simp only [] at hlo hhi hmx <;> subst hlo <;> subst hhi <;> subst hmx <;> simp [Instr.sliceBounds, hsb, h1, h2, h4]
    | some mx =>
      simp only [] at hmx
      obtain ⟨hm, hq⟩ := hmx
      rcases hi with _ | hi
      · cases hq
      · rcases lo with _ | lo <;> simp only [] at hlo hhi <;> subst hlo <;> subst hhi <;> subst hm <;> simp [Instr.sliceBounds, hsb, h1, h2, h3]
  simp [Instr.sliceAt, run_underlying D.ht, Instr.slice, hb, hs]
theorem wp_slice_any {o : Oper} {a : Act} {K : Act → World → Prop} {Q : Exit → Act → World → Prop} (x : Operand) (lo hi mx : Option Operand) (ho : o.op = .slice D.t x lo hi mx) (n l hh m : Nat)
    (hx : a.eval x = .slice A n c) (hlo : (match lo.map a.eval with | some v => v = .int .i64 (l : Int) | none => l = 0)) (hhi : (match hi.map a.eval with | some v => v = .int .i64 (hh : Int) | none => hh = n))
    (hmx : (match mx.map a.eval with | some v => v = .int .i64 (m : Int) ∧ (hi.map a.eval).isSome = true | none => m = c)) (h1 : l ≤ hh) (h2 : hh ≤ m) (h3 : m ≤ c) (h4 : n ≤ c)
    (h : K (a.put o.dst (.slice (if m = l then A else A.map (·.add (l * D.m))) (hh - l) (m - l))) w) : o.wp P a w K Q := by
  have hr := run_slice_any D (w := w) (A := A) n l hh m _ _ _ hlo hhi hmx h1 h2 h3 h4
  unfold Oper.wp execOp
  simp only [ho, hx, Sem.run_bind, Sem.run_pure, hr, Result.andThen_ok]
  exact h
variable {ops : Array Oper} {rest : List Oper} {o : Oper} {a : Act} {Q : Exit → Act → World → Prop}
theorem wpList_sl (hgd : o.guard = none) (x lo hi : Operand) (ho : o.op = .slice D.t x (some lo) (some hi) none) (hx : a.eval x = .slice A xs.length c) (L H : Int) (hlo : a.eval lo = .int .i64 L) (hhi : a.eval hi = .int .i64 H)
    (hsl : Sl D w A xs) (l hh : Nat) (hL : L = l) (hH : H = hh) (h1 : l ≤ hh) (h2 : hh ≤ xs.length) (h3 : xs.length ≤ c)
    (h : ∀ A' ys c', Hid (ys = (xs.drop l).take (hh - l)) → ys.length ≤ c' → Sl D w A' ys → wpList P ops Q rest (a.put o.dst (.slice A' ys.length c')) w) : wpList P ops Q (o :: rest) a w := by
  subst hL; subst hH
  refine wpList_plain hgd fun K hK => wp_slice_any D x (some lo) (some hi) none ho xs.length l hh c hx hlo hhi rfl h1 (by omega) (Nat.le_refl _) h3 (hK _ _ ?_)
  have := h _ ((xs.drop l).take (hh - l)) (c - l) rfl (by simp; omega) (Sl.cut D hsl l hh h1 h2 h3)
  rwa [show ((xs.drop l).take (hh - l)).length = hh - l from by simp; omega] at this
end
theorem Own.made {P : Program} {α : Type} (D : El P α) {w : World} {base : Nat} (hb : base ≤ w.heap.size) : Own D base (w.alloc (.cells #[] D.e)) (.slice (some ⟨w.heap.size, 0, none⟩) 0 0) [] :=
  World.ownsRow_made w #[] 0 hb (by unfold maxLen; omega) (by simp)
theorem Own.lit {P : Program} {α : Type} (D : El P α) {w : World} {base : Nat} {xs : List α} {cs : Array Value} (hb : base ≤ w.heap.size) (hn : xs.length ≤ 1048576) (h : cs.toList = D.flat xs) :
    Own D base (w.alloc (.cells cs D.e)) (.slice (some ⟨w.heap.size, 0, none⟩) xs.length xs.length) xs := by
  refine ⟨D.flat_length xs, .inr ⟨w.heap.size, xs.length, cs, rfl, hb, heap_alloc_new w _, Nat.le_refl _, by unfold maxLen; omega, ?_, ?_⟩⟩
  · rw [← Array.length_toList, h, D.flat_length]
  · rw [h, List.take_of_length_le (by rw [D.flat_length]; omega)]
section
variable {P : Program} {α : Type} (D : El P α) {w w' : World} {A B : Option Addr} {xs ys : List α}
theorem Sl.addr (h : Sl D w B ys) (hy : ys ≠ []) : ∃ ad, B = some ad ∧ ∀ j u, (D.flat ys)[j]? = some u → w.cell? (ad.add j) = some u := by
  obtain ⟨b, off, rfl, _, hc⟩ := h hy
  refine ⟨_, rfl, fun j u hu => ?_⟩
  have := hc j u hu
  unfold Addr.add
  split
  · rename_i h0; subst h0; simpa using this
  · exact this
theorem run_appFull (ty : TypeId) (c : Nat) (hs : Sl D w A xs) (hy : Sl D w B ys) (hn : xs.length + ys.length ≤ 68719476736) :
    (ys = [] ∧ (Builtin.append_ #[D.t, D.t] ty #[.slice A xs.length xs.length, .slice B ys.length c]).run P w = .ok (.slice A xs.length xs.length) w) ∨
    (ys ≠ [] ∧ ∃ v' w', (Builtin.append_ #[D.t, D.t] ty #[.slice A xs.length xs.length, .slice B ys.length c]).run P w = .ok v' w' ∧ Own D w.heap.size w' v' (xs ++ ys) ∧ Ext w w') := by
  obtain ⟨i, hi, hz0, hsz, hby⟩ := info_parts D.hi
  by_cases hy0 : ys = []
  · refine .inl ⟨hy0, ?_⟩
    subst hy0
    cases A <;> cases B <;> simp [Builtin.append_, run_underlying D.ht, sizeOf, typeInfo, hi, Builtin.lenOf, Builtin.firstCells, storeCells, loadCells, loadCellsFrom]
  · refine .inr ⟨hy0, ?_⟩
    obtain ⟨ad, rfl, hc⟩ := hy.addr D hy0
    have hyl : 0 < ys.length := List.length_pos_iff.2 hy0
    have hb := D.hb
    have hbytes : (xs.length + ys.length) * i.bytes ≤ 140737488355328 := by rw [hby]; exact Nat.le_trans (Nat.mul_le_mul hn hb) (by decide)
    have hlen : (D.flat xs ++ D.flat ys).length = (xs.length + ys.length) * D.m := by rw [List.length_append, D.flat_length, D.flat_length, Nat.add_mul]
    have fin : ∀ old : Nat, Own D w.heap.size (w.drew.alloc (.cells ((D.flat xs).toArray ++ (D.flat ys).toArray ++ Builtin.zeroCells D.z.cells (grownCap w (xs.length + ys.length) old D.e - (xs.length + ys.length))) D.e))
        (.slice (some ⟨w.heap.size, 0, none⟩) (xs.length + ys.length) (grownCap w (xs.length + ys.length) old D.e)) (xs ++ ys) := by
      intro old
      have hge := grownCap_ge w (xs.length + ys.length) old D.e
      have hcm : grownCap w (xs.length + ys.length) old D.e ≤ maxLen := grownCap_le_maxLen w (xs.length + ys.length) old D.e (by unfold maxLen; omega)
      unfold Own
      rw [List.length_append, D.flat_append]
      refine ⟨hlen, .inr ⟨w.heap.size, _, _, rfl, Nat.le_refl _, heap_alloc_new w.drew _, hge, hcm, ?_, ?_⟩⟩
      · simp only [Array.size_append, List.size_toArray, size_zeroCells, D.hz, D.flat_length, ← Nat.add_mul]
        congr 1
        omega
      · simp only [Array.toList_append, List.append_assoc]
        rw [← List.append_assoc, ← hlen]
        exact List.take_left
    cases A with
    | none =>
      have hx0 : xs = [] := by
        cases xs with
        | nil => rfl
        | cons x xs => obtain ⟨_, _, h, _⟩ := hs (by simp); cases h
      subst hx0
      have hr := run_append_nil (P := P) w D.t ty D.e i D.z D.ht hi hz0 ad ys.length c (D.flat ys) (by rw [D.flat_length, hsz]) hc hyl (by simp at hn; omega) (by simp at hbytes; omega)
      have hf := fin 0
      simp only [List.length_nil, Nat.zero_add, show D.flat ([] : List α) = [] from rfl, List.nil_append] at hf ⊢
      exact ⟨_, _, hr, by simpa using hf, (Ext.refl w).drew.alloc _⟩
    | some b =>
      have holds : ∀ j u, (D.flat xs)[j]? = some u → w.cell? (b.add j) = some u := by
        intro j u hu
        by_cases hx0 : xs = []
        · subst hx0; simp [El.flat] at hu
        · obtain ⟨b', h, hc'⟩ := hs.addr D hx0
          cases h
          exact hc' j u hu
      have hr := run_append_grow (P := P) w D.t ty D.e i D.z D.ht hi hz0 b xs.length xs.length (D.flat xs) (by rw [D.flat_length, hsz]) holds ad ys.length c (D.flat ys) (by rw [D.flat_length, hsz]) hc (by omega) (by omega)
        (growslice_fits (by omega) hbytes)
      exact ⟨_, _, hr, fin xs.length, (Ext.refl w).drew.alloc _⟩
end
section
variable {P : Program} {α : Type} (D : El P α) {w w' : World} {A : Option Addr} {base g n : Nat} {xs : List α} {zs : List Value}
end
def RetSl {P : Program} {α : Type} (D : El P α) (w : World) (xs : List α) (e : Ending) (w' : World) : Prop := ∃ A c, e = .returned (.slice A xs.length c) ∧ xs.length ≤ c ∧ Sl D w' A xs ∧ Ext w w'
def RetOwn {P : Program} {α : Type} (D : El P α) (w : World) (xs : List α) (e : Ending) (w' : World) : Prop := ∃ v, e = .returned v ∧ Own D w.heap.size w' v xs ∧ Ext w w'
theorem RetOwn.sl {P : Program} {α : Type} {D : El P α} {w w' : World} {xs : List α} {e : Ending} (h : RetOwn D w xs e w') : RetSl D w xs e w' := by
  obtain ⟨v, rfl, h1, h2⟩ := h
  obtain ⟨A, c, rfl, h3, h4⟩ := h1.form
  exact ⟨A, c, rfl, h3, h4, h2⟩
theorem Own.head {P : Program} {α : Type} {D : El P α} {w : World} {base : Nat} {v : Value} {xs : List α} (h : Own D base w v xs) (hx : xs ≠ []) : ∃ g c, v = .slice (some ⟨g, 0, none⟩) xs.length c ∧ base ≤ g ∧ g < w.heap.size ∧ xs.length ≤ c := by
  rcases h.2 with ⟨_, h0⟩ | ⟨g, cap, cur, hv, hg, hh, hn, _⟩
  · exact absurd (List.eq_nil_of_length_eq_zero h0) hx
  · refine ⟨g, cap, hv, hg, ?_, hn⟩
    rcases Nat.lt_or_ge g w.heap.size with hlt | hge
    · exact hlt
    · rw [Array.getElem?_eq_none hge] at hh; cases hh
theorem flat_int (xs : List Int) : intEl.flat xs = xs.map (Value.int .i64) := by
  induction xs with
  | nil => rfl
  | cons x xs ih =>
    simp only [El.flat, List.flatMap_cons, List.map_cons] at ih ⊢
    rw [ih]
    rfl
def TFull {P : Program} {α : Type} (D : El P α) (xs : List α) : Ty := ⟨fun v w => ∃ A, v = .slice A xs.length xs.length ∧ Sl D w A xs, fun _ _ _ he ⟨A, h1, h3⟩ => ⟨A, h1, h3.ext he⟩⟩
def TOwn {P : Program} {α : Type} (D : El P α) (base : Nat) (xs : List α) : Ty := ⟨fun v w => Own D base w v xs, fun _ _ _ he h => h.ext he⟩
def TGrown {P : Program} {α : Type} (D : El P α) (base : Nat) (xs ys : List α) : Ty :=
  ⟨fun v w => (ys ≠ [] ∧ Own D base w v (xs ++ ys)) ∨ (ys = [] ∧ ∃ A, v = .slice A xs.length xs.length ∧ Sl D w A xs), fun _ _ _ he h => h.elim (fun h => .inl ⟨h.1, h.2.ext he⟩) (fun ⟨h0, A, h1, h3⟩ => .inr ⟨h0, A, h1, h3.ext he⟩)⟩
section
variable {P : Program} {w w' : World} {ρ : Operand → Value} {o : Oper} {T : Value → World → Prop} {c : Value}
theorem ob_plain {y : Nat → Option Bool} {X Y : Prop} (hg : o.guard = none) (h : X) : if Region.wanted o y = true then X else Y := by
  rw [if_pos (by simp [Region.wanted, hg])]
  exact h
theorem ob_guard {y : Nat → Option Bool} {X Y : Prop} (j : Nat) (want g : Bool) (hg : o.guard = some (j, want)) (hy : y j = some g) (h1 : g = want → X) (h2 : g = !want → Y) : if Region.wanted o y = true then X else Y := by
  by_cases h : g = want
  · rw [if_pos (by simp [Region.wanted, hg, hy, h])]
    exact h1 h
  · rw [if_neg (by simp [Region.wanted, hg, hy, h])]
    exact h2 (by cases g <;> cases want <;> simp_all)
theorem yields_of {ops : List Oper} {env : List (Nat × Value)} {a0 : List Value} {j t : Nat} {g : Bool} (hd : (ops[j]?).bind (·.dst) = some t) (hx : lookE env a0 t = .bool g) : yieldedE ops env a0 j = some g := by
  unfold yieldedE
  rw [hd]
  simp only [hx, boolOf]
theorem run_add_i64 (t : TypeId) (a b : Int) (h1 : -9223372036854775808 ≤ a + b) (h2 : a + b ≤ 9223372036854775807) (w : World) : (binOp .add t (.int .i64 a) (.int .i64 b)).run P w = .ok (.int .i64 (a + b)) w := by
  simp [binOp, Op.intArith, IntWalk.i64_in _ ⟨h1, h2⟩]
theorem run_sub_i64 (t : TypeId) (a b : Int) (h1 : -9223372036854775808 ≤ a - b) (h2 : a - b ≤ 9223372036854775807) (w : World) : (binOp .sub t (.int .i64 a) (.int .i64 b)).run P w = .ok (.int .i64 (a - b)) w := by
  simp [binOp, Op.intArith, IntWalk.i64_in _ ⟨h1, h2⟩]
theorem run_lss_i64 (t : TypeId) (a b : Int) (w : World) : (binOp .lss t (.int .i64 a) (.int .i64 b)).run P w = .ok (.bool (decide (a < b))) w := by simp [binOp, Op.intCmp]
theorem run_gtr_i64 (t : TypeId) (a b : Int) (w : World) : (binOp .gtr t (.int .i64 a) (.int .i64 b)).run P w = .ok (.bool (decide (b < a))) w := by simp [binOp, Op.intCmp]
theorem run_eql_i64 (t : TypeId) (a b : Int) (w : World) : (binOp .eql t (.int .i64 a) (.int .i64 b)).run P w = .ok (.bool (decide (a = b))) w := by
  have : (a == b) = decide (a = b) := rfl
  simp [binOp, Op.intCmp, this]
theorem run_neq_i64 (t : TypeId) (a b : Int) (w : World) : (binOp .neq t (.int .i64 a) (.int .i64 b)).run P w = .ok (.bool (decide (a ≠ b))) w := by
  have : (a != b) = decide (a ≠ b) := by rw [Bool.eq_iff_iff]; simp
  simp [binOp, Op.intCmp, this]
theorem yld_run {v : Value} (hr : (execOp ρ o).run P w = .ok (.value v) w') (he : Ext w w') (h : T v w') : Yld P ρ o w T := by
  unfold Yld
  rw [hr]
  exact ⟨he, h⟩
theorem yld_move (x : Operand) (ho : o.op = .move x) (hx : ρ x = c) (h : T c w) : Yld P ρ o w T := yld_run (w' := w) (v := c) (by simp [execOp, ho, hx]) (Ext.refl _) h
theorem yld_assign (x : Operand) (ho : o.op = .assign x) (hx : ρ x = c) (h : T c w) : Yld P ρ o w T := yld_run (w' := w) (v := c) (by simp [execOp, ho, hx]) (Ext.refl _) h
theorem yld_pick (x y z : Operand) (ho : o.op = .pick x y z) (b : Bool) (hx : ρ x = .bool b) (hy : b = true → ρ y = c) (hz : b = false → ρ z = c) (h : T c w) : Yld P ρ o w T :=
  yld_run (w' := w) (v := c) (by cases b <;> simp [execOp, ho, hx, asBool, hy, hz]) (Ext.refl _) h
theorem yld_not (x : Operand) (t : TypeId) (ho : o.op = .unOp .not t x) (b : Bool) (hx : ρ x = .bool b) (h : T (.bool (!b)) w) : Yld P ρ o w T :=
  yld_run (w' := w) (v := .bool (!b)) (by simp [execOp, ho, hx, Op.unary]) (Ext.refl _) h
theorem yld_len (x : Operand) (t e : TypeId) (ht : P.underlying t = some (.slice e)) (ho : o.op = .call { callee := .builtin .len, args := #[x], argTypes := #[t] }) (A : Option Addr) (n k : Nat) (hx : ρ x = .slice A n k) (h : T (.int .i64 n) w) : Yld P ρ o w T :=
  yld_run (w' := w) (v := .int .i64 n) (by simp [execOp, ho, hx, resolve, invoke, builtin, Builtin.len_, goInt, run_underlying ht]) (Ext.refl _) h
theorem yld_extract (x : Operand) (i : Nat) (ho : o.op = .extract x i) (vs : Array Value) (hx : ρ x = .tuple vs) (hv : vs[i]? = some c) (h : T c w) : Yld P ρ o w T :=
  yld_run (w' := w) (v := c) (by simp [execOp, ho, hx, Instr.extract, hv]) (Ext.refl _) h
theorem yld_binInt (op : BinOp) (t t' : TypeId) (x y : Operand) (ho : o.op = .binOp op t x y t') (a b : Int) (hx : ρ x = .int .i64 a) (hy : ρ y = .int .i64 b) (hr : ∀ w, (binOp op t (.int .i64 a) (.int .i64 b)).run P w = .ok c w) (h : T c w) : Yld P ρ o w T :=
  yld_run (w' := w) (v := c) (by cases op <;> simp [execOp, ho, hx, hy, eqGuard, hr]) (Ext.refl _) h
theorem yld_binStr (op : BinOp) (t t' : TypeId) (x y : Operand) (ho : o.op = .binOp op t x y t') (a b : ByteArray) (hx : ρ x = .string a) (hy : ρ y = .string b) (hr : ∀ w, (binOp op t (.string a) (.string b)).run P w = .ok c w) (h : T c w) : Yld P ρ o w T :=
  yld_run (w' := w) (v := c) (by cases op <;> simp [execOp, ho, hx, hy, eqGuard, hr]) (Ext.refl _) h
theorem yld_binAgg (op : BinOp) (t t' : TypeId) (x y : Operand) (ho : o.op = .binOp op t x y t') (a b : Array Value) (hx : ρ x = .agg a) (hy : ρ y = .agg b) (hm : P.eqGuardType P.depth t = false) (hr : ∀ w, (binOp op t (.agg a) (.agg b)).run P w = .ok c w) (h : T c w) : Yld P ρ o w T :=
  yld_run (w' := w) (v := c) (by simp [execOp, ho, hx, hy, run_eqGuard_agg w op t x y a b hm, hr]) (Ext.refl _) h
def OpVals (ρ : Operand → Value) : List Operand → List Value → Prop
  | [], [] => True
  | x :: xs, v :: vs => ρ x = v ∧ OpVals ρ xs vs
  | _, _ => False
theorem OpVals.map {ρ : Operand → Value} : ∀ {xs : List Operand} {vs : List Value}, OpVals ρ xs vs → xs.map ρ = vs
  | [], [], _ => rfl
  | _ :: _, _ :: _, h => by rw [List.map_cons, h.1, OpVals.map h.2]
  | [], _ :: _, h => h.elim
  | _ :: _, [], h => h.elim
theorem yld_call (f : FuncId) (hf : ∀ args w, (callFunc f args).run P w = .ok (.enter f args) w) (xs : List Operand) (ts : Array TypeId) (ho : o.op = .call { callee := .value (.func f), args := xs.toArray, argTypes := ts }) (hfn : ρ (.func f) = .func (.func f) #[] #[])
    (vs : List Value) (hv : OpVals ρ xs vs) (h : Calls P f vs.toArray w fun e w'' => ∃ v, e = .returned v ∧ Ext w w'' ∧ T v w'') : Yld P ρ o w T := by
  have hr : (execOp ρ o).run P w = .ok (.enter f vs.toArray) w := by
    have := hv.map
    simp [execOp, ho, resolve, Deferred.ofValue, hfn, invoke, this, hf]
  unfold Yld
  rw [hr]
  exact h
end
section
variable {P : Program} {α : Type} (D : El P α) {w w' : World} {A B : Option Addr} {xs ys : List α} {ρ : Operand → Value} {o : Oper}
theorem yld_appFull (s x : Operand) (ho : o.op = .call { callee := .builtin .append, args := #[s, x], argTypes := #[D.t, D.t] }) (c base : Nat) (hs : ρ s = .slice A xs.length xs.length) (hx : ρ x = .slice B ys.length c)
    (h1 : Sl D w A xs) (h2 : Sl D w B ys) (hn : xs.length + ys.length ≤ 68719476736) (hbase : base ≤ w.heap.size) : Yld P ρ o w (TGrown D base xs ys).p := by
  have hr := run_appFull D o.type c h1 h2 hn
  unfold Yld execOp
  simp only [ho, resolve, invoke, builtin, Sem.run_bind, Sem.run_pure, Result.andThen_ok, List.map_toArray, List.map_cons, List.map_nil, hs, hx]
  rcases hr with ⟨h0, hr⟩ | ⟨h0, v', w', hr, hown, hext⟩
  · simp only [hr, Result.andThen_ok]
    exact ⟨Ext.refl _, .inr ⟨h0, _, rfl, h1⟩⟩
  · simp only [hr, Result.andThen_ok]
    exact ⟨hext, .inl ⟨h0, hown.mono hbase⟩⟩
end
def TCells (cs : List Value) : Ty := ⟨fun v w => ∃ b off, v = .pointer (some ⟨b, off, none⟩) ∧ b < w.heap.size ∧ ∀ j u, cs[j]? = some u → w.cell? ⟨b, off + j, none⟩ = some u,
  fun _ _ _ he ⟨b, off, h1, h2, h3⟩ => ⟨b, off, h1, Nat.lt_of_lt_of_le h2 he.size, fun j u hu => (he.cell (p := ⟨b, off + j, none⟩) h2).trans (h3 j u hu)⟩⟩
def TGd (p : Prop) (T : Ty) : Ty := ⟨fun v w => p → T.p v w, fun _ _ _ he h hp => T.mono _ _ _ he (h hp)⟩
section
variable {P : Program} {w w' : World} {ρ : Operand → Value} {o : Oper} {T : Value → World → Prop} {c : Value}
theorem Yld.imp {T' : Value → World → Prop} (h : Yld P ρ o w T) (hi : ∀ v w', T v w' → T' v w') : Yld P ρ o w T' := by
  unfold Yld at h ⊢
  generalize (execOp ρ o).run P w = r at h ⊢
  cases r with
  | halt x w' => exact h
  | ok x w' =>
    cases x <;> simp only at h ⊢ <;> first | exact h.elim | skip
    · exact ⟨h.1, hi _ _ h.2⟩
    · exact ⟨h.1, hi _ _ h.2⟩
    · refine Calls.mono h ?_
      rintro e w'' ⟨x, rfl, h1, h2⟩
      exact ⟨x, rfl, h1, hi _ _ h2⟩
theorem Yld.gd {p : Prop} {T : Ty} (h : Yld P ρ o w T.p) : Yld P ρ o w (TGd p T).p := h.imp fun _ _ h _ => h
theorem yld_and (x y : Operand) (ho : o.op = .pick x y (.const (.bool false))) (hf : ρ (.const (.bool false)) = .bool false) (G X : Bool) (hx : ρ x = .bool G) (hy : G = true → ρ y = .bool X) (h : T (.bool (G && X)) w) : Yld P ρ o w T :=
  yld_pick x y _ ho G hx (fun e => (hy e).trans (by rw [e]; rfl)) (fun e => hf.trans (by rw [e]; rfl)) h
theorem yld_indexAt {α : Type} (D : El P α) (x i : Operand) (ho : o.op = .indexAddr D.t x i) (A : Option Addr) (xs : List α) (k' : Nat) (hx : ρ x = .slice A xs.length k') (k : Nat) (hi : ρ i = .int .i64 k) (hsl : Sl D w A xs) (y : α) (hk : xs[k]? = some y) :
    Yld P ρ o w (TCells (D.E y)).p := by
  obtain ⟨i', hi', _, hsz, _⟩ := info_parts D.hi
  have hs : ∀ w, (sizeOf D.e).run P w = .ok D.m w := fun w => by simp [sizeOf, typeInfo, hi', hsz]
  have hlt := (List.getElem?_eq_some_iff.1 hk).1
  obtain ⟨b, off, rfl, hb, hc⟩ := hsl.at_ hlt
  have hky : xs[k] = y := (List.getElem?_eq_some_iff.1 hk).2
  rw [hky] at hc
  have hr : (execOp ρ o).run P w = .ok (.value (.pointer (some ((⟨b, off, none⟩ : Addr).add (k * D.m))))) w := by
    simp [execOp, ho, hx, hi, Instr.indexAt, asIntOf, run_underlying D.ht, hs, hlt]
  refine yld_run hr (Ext.refl _) ?_
  have ea : ((⟨b, off, none⟩ : Addr).add (k * D.m)) = ⟨b, off + k * D.m, none⟩ := by
    unfold Addr.add
    split
    · rename_i h0; simp [h0]
    · rfl
  rw [ea]
  exact ⟨b, off + k * D.m, rfl, hb, hc⟩
theorem yld_loadOne (t : TypeId) (x : Operand) (ho : o.op = .load t x) (ha : ∀ w, (isAgg t).run P w = .ok false w) (hp : (TCells [c]).p (ρ x) w) (h : T c w) : Yld P ρ o w T := by
  obtain ⟨b, off, hx, _, hc⟩ := hp
  have hcell : w.cell? ⟨b, off, none⟩ = some c := hc 0 c rfl
  refine yld_run (w' := w) (v := c) ?_ (Ext.refl _) h
  simp [execOp, ho, hx, Instr.loadAt, Instr.sureAddr, loadVar, ha, load, Sem.run, hcell]
theorem yld_loadAgg (t : TypeId) (x : Operand) (ho : o.op = .load t x) (ha : ∀ w, (isAgg t).run P w = .ok true w) (n : Nat) (hn : ∀ w, (sizeOf t).run P w = .ok n w) (cs : List Value) (hcs : cs.length = n) (hp : (TCells cs).p (ρ x) w) (h : T (.agg cs.toArray) w) : Yld P ρ o w T := by
  obtain ⟨b, off, hx, _, hc⟩ := hp
  subst hcs
  have hl := run_loadCells_list (P := P) w ⟨b, off, none⟩ cs (fun j u hu => by
    have := hc j u hu
    unfold Addr.add
    split
    · rename_i h0; subst h0; simpa using this
    · exact this)
  refine yld_run (w' := w) (v := .agg cs.toArray) ?_ (Ext.refl _) h
  simp [execOp, ho, hx, Instr.loadAt, Instr.sureAddr, loadVar, ha, hn, hl]
theorem TCells.drop {cs : List Value} {v : Value} {n : Nat} (h : (TCells cs).p v w) : ∃ b off, v = .pointer (some ⟨b, off, none⟩) ∧ (TCells (cs.drop n)).p (.pointer (some ⟨b, off + n, none⟩)) w := by
  obtain ⟨b, off, rfl, hb, hc⟩ := h
  refine ⟨b, off, rfl, b, off + n, rfl, hb, fun j u hu => ?_⟩
  rw [List.getElem?_drop] at hu
  have := hc _ u hu
  rwa [← Nat.add_assoc] at this
theorem TCells.take {cs : List Value} {v : Value} (n : Nat) (h : (TCells cs).p v w) : (TCells (cs.take n)).p v w := by
  obtain ⟨b, off, rfl, hb, hc⟩ := h
  refine ⟨b, off, rfl, hb, fun j u hu => hc j u ?_⟩
  rw [List.getElem?_take] at hu
  split at hu
  · exact hu
  · cases hu
theorem yld_field (s f : Nat) (x : Operand) (ho : o.op = .fieldAddr s x f) (fs : Array Field) (hs : P.underlying s = some (.struct fs)) (fld : Field) (hf : fs[f]? = some fld) (m : Nat) (hm : ∀ w, (sizeOf fld.type).run P w = .ok m w) (hm0 : m ≠ 0)
    (cs : List Value) (hp : (TCells cs).p (ρ x) w) : Yld P ρ o w (TCells ((cs.drop fld.offset).take m)).p := by
  obtain ⟨b, off, hx, hq⟩ := TCells.drop (n := fld.offset) hp
  have hr : (execOp ρ o).run P w = .ok (.value (.pointer (some ((⟨b, off, none⟩ : Addr).add fld.offset)))) w := by
    simp [execOp, ho, hx, Instr.fieldAt, run_underlying hs, hf, Instr.sureAddr, fieldPlace, hm, hm0]
  refine yld_run hr (Ext.refl _) ?_
  have ea : ((⟨b, off, none⟩ : Addr).add fld.offset) = ⟨b, off + fld.offset, none⟩ := by
    unfold Addr.add
    split
    · rename_i h0; simp [h0]
    · rfl
  rw [ea]
  exact TCells.take m hq
def PartVals (ρ : Operand → Value) : List (Nat × Operand) → List (Nat × Value) → Prop
  | [], [] => True
  | p :: ps, q :: qs => (p.1 = q.1 ∧ ρ p.2 = q.2) ∧ PartVals ρ ps qs
  | _, _ => False
theorem PartVals.map {ρ : Operand → Value} : ∀ {ps : List (Nat × Operand)} {qs : List (Nat × Value)}, PartVals ρ ps qs → ps.map (fun x => (x.1, ρ x.2)) = qs
  | [], [], _ => rfl
  | p :: _, q :: _, h => by
    rw [List.map_cons, PartVals.map h.2, h.1.1, h.1.2]
  | [], _ :: _, h => h.elim
  | _ :: _, [], h => h.elim
theorem yld_build (t : TypeId) (ps : List (Nat × Operand)) (ho : o.op = .build t ps.toArray) (qs : List (Nat × Value)) (hv : PartVals ρ ps qs) (hr : ∀ w, (Instr.build t qs.toArray).run P w = .ok c w) (h : T c w) : Yld P ρ o w T := by
  have := hv.map
  refine yld_run (w' := w) (v := c) ?_ (Ext.refl _) h
  simp [execOp, ho, this, hr]
theorem yld_buildSlice {α : Type} (D : El P α) (n : Nat) (ps : List (Nat × Operand)) (ho : o.op = .buildSlice D.t n ps.toArray) (qs : List (Nat × Value)) (hv : PartVals ρ ps qs) (base : Nat) (hb : base ≤ w.heap.size) (xs : List α) (hn : xs.length = n) (h20 : n ≤ 1048576)
    (hr : ∀ w, (Instr.buildSlice D.t n qs.toArray).run P w = .ok (.slice (some ⟨w.heap.size, 0, none⟩) n n) (w.alloc (.cells (D.flat xs).toArray D.e))) : Yld P ρ o w (TOwn D base xs).p := by
  have := hv.map
  refine yld_run (w' := w.alloc (.cells (D.flat xs).toArray D.e)) (v := .slice (some ⟨w.heap.size, 0, none⟩) n n) ?_ ((Ext.refl _).alloc _) ?_
  · simp [execOp, ho, this, hr]
  · subst hn
    exact Own.lit D hb h20 (by simp)
end
section
variable {w w' : World} {A : Option Addr}
theorem strAt {xs : List ByteArray} (h : Sl strEl w A xs) {k : Nat} (hk : k < xs.length) : ∃ b off, A = some ⟨b, off, none⟩ ∧ b < w.heap.size ∧ w.cell? ⟨b, off + k, none⟩ = some (.string xs[k]) := by
  obtain ⟨b, off, hA, hb, hc⟩ := h.at_ hk
  refine ⟨b, off, hA, hb, ?_⟩
  have := hc 0 _ rfl
  simpa [strEl] using this
theorem intAt {xs : List Int} (h : Sl intEl w A xs) {k : Nat} (hk : k < xs.length) : ∃ b off, A = some ⟨b, off, none⟩ ∧ b < w.heap.size ∧ w.cell? ⟨b, off + k, none⟩ = some (.int .i64 xs[k]) := by
  obtain ⟨b, off, hA, hb, hc⟩ := h.at_ hk
  refine ⟨b, off, hA, hb, ?_⟩
  have := hc 0 _ rfl
  simpa [intEl] using this
theorem wordAt {xs : List GWord} (h : Sl wordEl w A xs) {k : Nat} (hk : k < xs.length) : ∃ b off, A = some ⟨b, off, none⟩ ∧ b < w.heap.size ∧ w.cell? ⟨b, off + k * 4, none⟩ = some (.string xs[k].t) ∧
    w.cell? ⟨b, off + k * 4 + 1, none⟩ = some (.int .i64 xs[k].a) ∧ w.cell? ⟨b, off + k * 4 + 2, none⟩ = some (.int .i64 xs[k].i) ∧ w.cell? ⟨b, off + k * 4 + 3, none⟩ = some (.int .i64 xs[k].k) := by
  obtain ⟨b, off, hA, hb, hc⟩ := h.at_ hk
  exact ⟨b, off, hA, hb, by simpa [wordEl] using hc 0 _ rfl, hc 1 _ rfl, hc 2 _ rfl, hc 3 _ rfl⟩
end
end Go.Proofs.YtjhdamjbljafhaaGreatDoor
