/- Laws on units in memory: boxes, blocks of the call's own, the result's cell. Trees of units in lists: accessors, small trees, IDs; answers of which only so much is said. The two tables: the kinds' names, and what may stand in what; KindName, CanContain. -/
import Derived.Test.YtjhdamjbljafhaaGreatDoorP04
import Derived.Test.YtjhdamjbljafhaaGreatDoorP05
namespace Go.Proofs.YtjhdamjbljafhaaGreatDoor
open Go.RowKit
theorem block_lt {w : World} {b : Nat} {o : Obj} (h : w.heap[b]? = some o) : b < w.heap.size := by
  rcases Nat.lt_or_ge b w.heap.size with h' | h'
  · exact h'
  · rw [Array.getElem?_eq_none h'] at h; cases h
theorem fresh_le {m n : Nat} (h : m ≤ n) : ∀ k, fresh m k = true → fresh n k = true := by
  intro k hk
  simp only [fresh, decide_eq_true_eq] at hk ⊢
  omega
def unit0 : RUnit := ⟨0, 0, 0, 0, ⟨#[]⟩, none, 0, 0, none, 0, 0, none, 0, 0⟩
def TUnit0 (n : Nat) : Ty := ⟨fun v w => ∃ b, v = .pointer (some ⟨b, 0, none⟩) ∧ n ≤ b ∧ b < w.heap.size ∧ w.heap[b]? = some (.cells unit0.cells.toArray 27 (0, 0)),
  fun _ _ _ he ⟨b, h1, h2, h3, h4⟩ => ⟨b, h1, h2, Nat.lt_of_lt_of_le h3 he.size, (he.block h3).trans h4⟩⟩
section
variable {ρ : Operand → Value} {o : Oper} {w : World} {n : Nat}
theorem yld_alloc0 (hn : n ≤ w.heap.size) (ho : o.op = .alloc 27) : Yld Tryz.prog ρ o w (TUnit0 n).p := by
  refine yld_run (w' := w.alloc (.cells unit0.cells.toArray 27)) (v := .pointer (some ⟨w.heap.size, 0, none⟩)) ?_ ((Ext.refl _).alloc _) ⟨_, rfl, hn, by simp, heap_alloc_new w _⟩
  simp only [execOp, ho]
  go_simp
  rfl
end
theorem results_cell1 {fn : Func} {t : Tmp} (h : fn.results = #[.cell t 27]) (tmps : Array Value) (w : World) (b : Nat) (r : RUnit) (hp : tmps.getD t undef = .pointer (some ⟨b, 0, none⟩)) (hc : w.heap[b]? = some (.cells r.cells.toArray 27 (0, 0))) :
    (results fn tmps).run Tryz.prog w = .ok (.agg r.cells.toArray) w := by
  have hl := run_loadCells_list (P := Tryz.prog) w ⟨b, 0, none⟩ r.cells (fun j u hu => by
    have hadd : (⟨b, 0, none⟩ : Addr).add j = ⟨b, j, none⟩ := by unfold Addr.add; split <;> simp_all
    rw [hadd]
    simp only [World.cell?, hc]
    simpa using hu)
  have hp' : tmps[t]?.getD undef = .pointer (some ⟨b, 0, none⟩) := by simpa using hp
  have hn : ∀ w, (sizeOf 27).run Tryz.prog w = .ok r.cells.length w := Tryz.sizeOf27
  simp [results, h, hp', asAddr, loadVar, Tryz.isAgg27, hn, hl]
theorem Own.ne {P : Program} {α : Type} {D : El P α} {w : World} {v : Value} {base : Nat} {xs : List α} (h : Own D base w v xs) {b : Nat} {cs : Array Value} {t : TypeId} {fr : Nat × Nat} (hb : w.heap[b]? = some (.cells cs t fr)) (ht : t ≠ D.e) : ∀ k, v.ownBlock = some k → k ≠ b := by
  rintro k hk rfl
  rcases h.2 with ⟨rfl, _⟩ | ⟨g, cap, cur, rfl, _, hh, _⟩
  · cases hk
  · cases hk
    rw [hb] at hh
    cases hh
    exact ht rfl
theorem wpList_fld {P : Program} {w : World} {ops : Array Oper} {rest : List Oper} {o : Oper} {a : Act} {Q : Exit → Act → World → Prop} (hgd : o.guard = none) (s f : Nat) (x : Operand) (ho : o.op = .fieldAddr s x f) (fs : Array Field) (hs : P.underlying s = some (.struct fs)) (fld : Field) (hf : fs[f]? = some fld)
    (m : Nat) (hm : ∀ w, (sizeOf fld.type).run P w = .ok m w) (hm0 : m ≠ 0) (b off : Nat) (hx : a.eval x = .pointer (some ⟨b, off, none⟩)) (h : wpList P ops Q rest (a.put o.dst (.pointer (some ⟨b, off + fld.offset, none⟩))) w) : wpList P ops Q (o :: rest) a w := by
  have ea : ((⟨b, off, none⟩ : Addr).add fld.offset) = ⟨b, off + fld.offset, none⟩ := by
    unfold Addr.add
    split
    · rename_i h0; simp [h0]
    · rfl
  refine wpList_plain hgd fun K hK => ?_
  unfold Oper.wp
  simp [execOp, ho, hx, Instr.fieldAt, run_underlying hs, hf, Instr.sureAddr, fieldPlace, hm, hm0, ea, Result.andThen]
  exact hK _ _ h
theorem TCells.cell {cs : List Value} {b off : Nat} {w : World} (h : (TCells cs).p (.pointer (some ⟨b, off, none⟩)) w) (j : Nat) (u : Value) (hj : cs[j]? = some u) : w.cell? ⟨b, off + j, none⟩ = some u := by
  obtain ⟨b', off', h1, _, h3⟩ := h
  cases h1
  exact h3 j u hj
theorem boxT (r : RUnit) {w w' : World} (he : Ext (w.alloc (.cells r.cells.toArray 27)) w') : (TCells r.cells).p (.pointer (some ⟨w.heap.size, 0, none⟩)) w' := by
  have h := (Sl.new unitEl (w := w) (xs := [r]) (by simp [El.flat, unitEl])).ext he
  obtain ⟨b, off, h1, h2, h3⟩ := h (by simp)
  simp only [Option.some.injEq, Addr.mk.injEq] at h1
  obtain ⟨rfl, rfl, -⟩ := h1
  refine ⟨_, _, rfl, h2, fun j u hu => h3 j u ?_⟩
  simpa [El.flat, unitEl] using hu
theorem blockT {r : RUnit} {w w' : World} {b : Nat} (h : w.heap[b]? = some (.cells r.cells.toArray 27 (0, 0))) (hb : b < w.heap.size) (he : Ext w w') : (TCells r.cells).p (.pointer (some ⟨b, 0, none⟩)) w' := by
  refine ⟨b, 0, rfl, Nat.lt_of_lt_of_le hb he.size, fun j u hu => ?_⟩
  rw [he.cell (p := ⟨b, 0 + j, none⟩) hb]
  simp only [World.cell?, h, Nat.zero_add]
  simpa using hu
end Go.Proofs.YtjhdamjbljafhaaGreatDoor
namespace Go.Proofs.YtjhdamjbljafhaaGreatDoor
open Go.RowKit
structure GId where
  a : Int
  i : Int
  n : Int
deriving DecidableEq
def GId.cells (x : GId) : List Value := [.int .i64 x.a, .int .i64 x.i, .int .i64 x.n]
def idEl : El Tryz.prog GId := { t := 90, e := 23, m := 3, bytes := 24, z := .agg #[.int .i64 0, .int .i64 0, .int .i64 0], E := GId.cells, hE := fun _ => rfl, h1 := by simp [GId.cells, Value.oneCell'], ht := by kernel_rfl, hi := by kernel_rfl, hz := rfl, hm := by decide, hb := by decide, agg := true, hagg := Tryz.isAgg23 }
theorem idAt {w : World} {A : Option Addr} {xs : List GId} (h : Sl idEl w A xs) {k : Nat} (hk : k < xs.length) : ∃ b off, A = some ⟨b, off, none⟩ ∧ b < w.heap.size ∧
    w.cell? ⟨b, off + k * 3, none⟩ = some (.int .i64 xs[k].a) ∧ w.cell? ⟨b, off + k * 3 + 1, none⟩ = some (.int .i64 xs[k].i) ∧ w.cell? ⟨b, off + k * 3 + 2, none⟩ = some (.int .i64 xs[k].n) := by
  obtain ⟨b, off, hA, hb, hc⟩ := h.at_ hk
  exact ⟨b, off, hA, hb, by simpa [idEl] using hc 0 _ rfl, hc 1 _ rfl, hc 2 _ rfl⟩
def GUnit.kind : GUnit → Int | .mk _ _ _ k _ _ _ _ => k
def GUnit.label : GUnit → ByteArray | .mk _ _ _ _ l _ _ _ => l
def GUnit.head : GUnit → List GWord | .mk _ _ _ _ _ h _ _ => h
def GUnit.words : GUnit → List GWord | .mk _ _ _ _ _ _ w _ => w
def GUnit.kids : GUnit → List GUnit | .mk _ _ _ _ _ _ _ k => k
def GUnit.id : GUnit → GId | .mk a i n _ _ _ _ _ => ⟨a, i, n⟩
def RUnit.id (r : RUnit) : GId := ⟨r.a, r.i, r.n⟩
theorem Reads.flds {w : World} {u : GUnit} {r : RUnit} (h : Reads w u r) : r.id = u.id ∧ r.kind = u.kind ∧ r.label = u.label ∧ r.hn = u.head.length ∧ u.head.length ≤ r.hc ∧ Sl wordEl w r.hA u.head ∧ r.wn = u.words.length ∧ u.words.length ≤ r.wc ∧ Sl wordEl w r.wA u.words ∧
    r.kn = u.kids.length ∧ u.kids.length ≤ r.kc ∧ ∃ rs, Sl unitEl w r.kA rs ∧ ReadsAll w u.kids rs ∧ rs.length = u.kids.length := by
  obtain ⟨a, i, n, k, l, hd, wd, kids⟩ := u
  rw [Reads] at h
  obtain ⟨⟨h1, h2, h3, h4, h5⟩, ⟨h6, h7, h8⟩, ⟨h9, h10, h11⟩, h12, h13, rs, h14, h15⟩ := h
  exact ⟨by simp [RUnit.id, GUnit.id, h1, h2, h3], h4, h5, h6, h7, h8, h9, h10, h11, h12, h13, rs, h14, h15, ReadsAll.length h15⟩
mutual

def preF : GUnit → List GUnit
  | .mk a i n k l hd wd kids => .mk a i n k l hd wd kids :: preL kids
def preL : List GUnit → List GUnit
  | [] => []
  | u :: us => preF u ++ preL us
end
theorem preF_cons (u : GUnit) : preF u = u :: preL u.kids := by cases u; rw [preF]; rfl
mutual
theorem preF_len : ∀ u : GUnit, (preF u).length = cntF u
  | .mk _ _ _ _ _ _ _ kids => by rw [preF, cntF, List.length_cons, preL_len kids]; omega
theorem preL_len : ∀ us : List GUnit, (preL us).length = cntL us
  | [] => by rw [preL, cntL]; rfl
  | u :: us => by rw [preL, cntL, List.length_append, preF_len u, preL_len us]
end
theorem preL_append : ∀ (us vs : List GUnit), preL (us ++ vs) = preL us ++ preL vs
  | [], vs => by rw [preL]; rfl
  | u :: us, vs => by rw [List.cons_append, preL, preL, preL_append us vs, List.append_assoc]
theorem preL_drop {kids : List GUnit} {k : Nat} (hk : k < kids.length) : preL (kids.drop k) = preF kids[k] ++ preL (kids.drop (k + 1)) := by
  rw [List.drop_eq_getElem_cons hk, preL]
theorem preL_take {kids : List GUnit} {k : Nat} (hk : k < kids.length) : preL (kids.take (k + 1)) = preL (kids.take k) ++ preF kids[k] := by
  rw [List.take_succ_eq_append_getElem hk, preL_append, preL, preL, List.append_nil]
def okP (u : GUnit) : Prop := u.label.size ≤ 30 ∧ u.head.length ≤ 300 ∧ u.words.length ≤ 300 ∧ u.kids.length ≤ 1000 ∧ (∀ x ∈ u.head, x.t.size ≤ 100) ∧ (∀ x ∈ u.words, x.t.size ≤ 100)
structure OkU (u : GUnit) : Prop where
  all : AllU okP u
  cnt : cntF u ≤ 1000
theorem AllU.head {p : GUnit → Prop} {u : GUnit} (h : AllU p u) : p u := by
  cases u
  rw [AllU] at h
  exact h.1
theorem AllU.kids {p : GUnit → Prop} {u : GUnit} (h : AllU p u) : AllUs p u.kids := by
  cases u
  rw [AllU] at h
  exact h.2
theorem AllU.mk' {p : GUnit → Prop} {u : GUnit} (h : p u) (hk : AllUs p u.kids) : AllU p u := by
  cases u
  rw [AllU]
  exact ⟨h, hk⟩
theorem AllUs.mem {p : GUnit → Prop} : ∀ {us : List GUnit}, AllUs p us → ∀ x ∈ us, AllU p x
  | u :: us, h, x, hx => by
    rw [AllUs] at h
    rcases List.mem_cons.1 hx with rfl | hx
    · exact h.1
    · exact AllUs.mem h.2 x hx
theorem AllUs.of {p : GUnit → Prop} : ∀ {us : List GUnit}, (∀ x ∈ us, AllU p x) → AllUs p us
  | [], _ => by rw [AllUs]; trivial
  | u :: us, h => by
    rw [AllUs]
    exact ⟨h u (by simp), AllUs.of fun x hx => h x (by simp [hx])⟩
theorem cntL_mem : ∀ {us : List GUnit} {x : GUnit}, x ∈ us → cntF x ≤ cntL us
  | u :: us, x, h => by
    rw [cntL]
    rcases List.mem_cons.1 h with rfl | h
    · omega
    · have := cntL_mem h; omega
theorem cntF_kids (u : GUnit) : cntF u = 1 + cntL u.kids := by cases u; rw [cntF]; rfl
theorem OkU.kid {u x : GUnit} (h : OkU u) (hx : x ∈ u.kids) : OkU x := ⟨AllUs.mem h.all.kids x hx, by
  have h1 := h.cnt
  have h2 := cntL_mem hx
  rw [cntF_kids] at h1
  omega⟩
theorem OkU.lens {u : GUnit} (h : OkU u) : AllU (lensLe 9223372036854775807 9223372036854775807) u := AllU.mono (fun u h => by
  obtain ⟨a, i, n, k, l, hd, wd, kids⟩ := u
  obtain ⟨h1, h2, h3, h4, _⟩ := h
  simp only [GUnit.head, GUnit.words, GUnit.kids] at h2 h3 h4
  exact ⟨by omega, by omega, by omega⟩) u h.all
theorem AllU.pre {p : GUnit → Prop} : ∀ (N : Nat) (u : GUnit), SizeOf.sizeOf u ≤ N → AllU p u → ∀ x ∈ preF u, p x
  | 0, u, h, _, _, _ => by cases u; simp at h
  | N + 1, .mk a i n k l hd wd kids, h, hA, x, hx => by
    rw [preF] at hx
    rcases List.mem_cons.1 hx with rfl | hx
    · exact hA.head
    · have go : ∀ us : List GUnit, (∀ y ∈ us, SizeOf.sizeOf y ≤ N ∧ AllU p y) → x ∈ preL us → p x := by
        intro us
        induction us with
        | nil => intro _ hx; rw [preL] at hx; simp at hx
        | cons v us ih =>
          intro hus hx
          rw [preL] at hx
          rcases List.mem_append.1 hx with hx | hx
          · exact AllU.pre N v (hus v (by simp)).1 (hus v (by simp)).2 x hx
          · exact ih (fun y hy => hus y (by simp [hy])) hx
      exact go kids (fun y hy => ⟨by
        have := List.sizeOf_lt_of_mem hy
        simp at h
        omega, AllUs.mem hA.kids y hy⟩) hx
theorem sizeL_ge : ∀ (us : List GUnit) (deep most n : Int), 0 ≤ most → n ≤ sizeL us deep most n
  | [], deep, most, n, _ => by rw [sizeL]; exact Int.le_refl _
  | u :: us, deep, most, n, h => by
    rw [sizeL]
    split
    · have := sizeF_le u (deep + 1) (most - n) (by omega)
      have := sizeL_ge us deep most (n + sizeF u (deep + 1) (most - n)) h
      omega
    · exact Int.le_refl _
mutual
theorem sizeF_cnt : ∀ (u : GUnit) (deep most : Int), 0 ≤ most → sizeF u deep most ≤ most → (cntF u : Int) = sizeF u deep most
  | .mk _ _ _ _ _ _ _ kids, deep, most, h0, h => by
    rw [sizeF] at h ⊢
    rw [cntF]
    split at h
    · omega
    · rename_i hd
      rw [if_neg hd]
      have := sizeL_cnt kids deep most 1 h0 h
      omega
theorem sizeL_cnt : ∀ (us : List GUnit) (deep most n : Int), 0 ≤ most → sizeL us deep most n ≤ most → (cntL us : Int) + n = sizeL us deep most n
  | [], deep, most, n, _, _ => by rw [sizeL, cntL]; simp
  | u :: us, deep, most, n, h0, h => by
    rw [sizeL] at h ⊢
    rw [cntL]
    split at h
    · rename_i hn
      rw [if_pos hn]
      have h1 := sizeL_ge us deep most (n + sizeF u (deep + 1) (most - n)) h0
      have h2 := sizeF_cnt u (deep + 1) (most - n) (by omega) (by omega)
      have h3 := sizeL_cnt us deep most (n + sizeF u (deep + 1) (most - n)) h0 h
      omega
    · omega
end
mutual
theorem words_ok : ∀ (u : GUnit), wordsF u = true → cntF u ≤ 1000 → AllU okP u
  | .mk a i n k l hd wd kids, h, hc => by
    rw [wordsF] at h
    simp only [Bool.and_eq_true, decide_eq_true_eq] at h
    obtain ⟨⟨⟨h1, h2⟩, h3⟩, h4⟩ := h
    rw [cntF] at hc
    have hk := cntL_len kids
    rw [AllU]
    refine ⟨⟨h1, shortB_len h2, shortB_len h3, ?_, shortB_size h2, shortB_size h3⟩, wordsL_ok kids h4 (by omega)⟩
    show kids.length ≤ 1000
    omega
theorem wordsL_ok : ∀ (us : List GUnit), wordsL us = true → cntL us ≤ 1000 → AllUs okP us
  | [], _, _ => by rw [AllUs]; trivial
  | u :: us, h, hc => by
    rw [wordsL, Bool.and_eq_true] at h
    rw [cntL] at hc
    rw [AllUs]
    exact ⟨words_ok u h.1 (by omega), wordsL_ok us h.2 (by omega)⟩
end
theorem few_cnt {u : GUnit} {m : Int} (h0 : 0 ≤ m) (h : fewF u m = true) : (cntF u : Int) ≤ m := by
  rw [fewF, Bool.and_eq_true, decide_eq_true_eq] at h
  rw [sizeF_cnt u 0 m h0 h.1]
  exact h.1
theorem few_ok {u : GUnit} {m : Int} (h0 : 0 ≤ m) (h1 : m ≤ 1000) (h : fewF u m = true) : OkU u := by
  have hc := few_cnt h0 h
  rw [fewF, Bool.and_eq_true, decide_eq_true_eq] at h
  exact ⟨words_ok u h.2 (by omega), by omega⟩
def RetIf (P : Prop) (w : World) (e : Ending) (w' : World) : Prop := ∃ b : Bool, e = .returned (.bool b) ∧ (b = true → P) ∧ Ext w w'
def RetB (w : World) (e : Ending) (w' : World) : Prop := ∃ b : Bool, e = .returned (.bool b) ∧ Ext w w'
def idxI {α : Type} (q : α → Bool) : List α → Nat → Int
  | [], _ => -1
  | x :: r, k => if q x = true then (k : Int) else idxI q r (k + 1)
theorem idxI_drop {α : Type} {q : α → Bool} {l : List α} {k : Nat} (h : k < l.length) : idxI q (l.drop k) k = if q l[k] = true then (k : Int) else idxI q (l.drop (k + 1)) (k + 1) := by
  rw [List.drop_eq_getElem_cons h, idxI]
theorem idxI_end {α : Type} {q : α → Bool} {l : List α} {k : Nat} (h : l.length ≤ k) : idxI q (l.drop k) k = -1 := by
  rw [List.drop_of_length_le h, idxI]
theorem idxI_range {α : Type} (q : α → Bool) : ∀ (l : List α) (k : Nat), idxI q l k = -1 ∨ ∃ j : Nat, idxI q l k = ((k + j : Nat) : Int) ∧ ∃ h : j < l.length, q l[j] = true
  | [], k => .inl rfl
  | x :: r, k => by
    rw [idxI]
    split
    · rename_i h; exact .inr ⟨0, by simp, by simp, h⟩
    · rcases idxI_range q r (k + 1) with h | ⟨j, h1, h2, h3⟩
      · exact .inl h
      · exact .inr ⟨j + 1, by rw [h1]; congr 1; omega, by simpa using h2, by simpa using h3⟩
theorem idxI_neg {α : Type} (q : α → Bool) : ∀ (l : List α) (k : Nat), idxI q l k < 0 ↔ ∀ x ∈ l, q x = false
  | [], k => by simp [idxI]
  | x :: r, k => by
    rw [idxI]
    split
    · rename_i h
      simp only [List.mem_cons, forall_eq_or_imp, h, Bool.true_eq_false, false_and, iff_false]
      omega
    · rename_i h
      rw [idxI_neg q r (k + 1)]
      simp only [List.mem_cons, forall_eq_or_imp]
      simp at h
      simp [h]
theorem sizeKid {u : GUnit} {N k : Nat} (hN : SizeOf.sizeOf u ≤ N + 1) (h : k < u.kids.length) : SizeOf.sizeOf u.kids[k] ≤ N := by
  have a1 := List.sizeOf_lt_of_mem (List.getElem_mem h)
  have a2 : SizeOf.sizeOf u.kids < SizeOf.sizeOf u := by obtain ⟨a, i, n, kk, l, hd, wd, kids⟩ := u; simp [GUnit.kids]; omega
  omega
theorem size0 {u : GUnit} (h : SizeOf.sizeOf u ≤ 0) : False := by cases u; simp at h
structure BoxU (b : Nat) (r : RUnit) (w : World) : Prop where
  lt : b < w.heap.size
  c0 : w.cell? ⟨b, 0, none⟩ = some (.int .i64 r.a)
  c1 : w.cell? ⟨b, 1, none⟩ = some (.int .i64 r.i)
  c2 : w.cell? ⟨b, 2, none⟩ = some (.int .i64 r.n)
  c3 : w.cell? ⟨b, 3, none⟩ = some (.int .i64 r.kind)
  c4 : w.cell? ⟨b, 4, none⟩ = some (.string r.label)
  c5 : w.cell? ⟨b, 5, none⟩ = some (.slice r.hA r.hn r.hc)
  c6 : w.cell? ⟨b, 6, none⟩ = some (.slice r.wA r.wn r.wc)
  c7 : w.cell? ⟨b, 7, none⟩ = some (.slice r.kA r.kn r.kc)
theorem BoxU.new (r : RUnit) (w : World) : BoxU w.heap.size r (w.alloc (.cells r.cells.toArray 27)) := by
  obtain ⟨h0, h1, h2, h3, h4, h5, h6, h7, h8⟩ := boxUnit r (w := w) (Ext.refl _)
  exact ⟨h0, h1, h2, h3, h4, h5, h6, h7, h8⟩
theorem BoxU.ext {b : Nat} {r : RUnit} {w w' : World} (h : BoxU b r w) (he : Ext w w') : BoxU b r w' :=
  ⟨Nat.lt_of_lt_of_le h.lt he.size, (he.cell (p := ⟨b, 0, none⟩) h.lt).trans h.c0, (he.cell (p := ⟨b, 1, none⟩) h.lt).trans h.c1, (he.cell (p := ⟨b, 2, none⟩) h.lt).trans h.c2, (he.cell (p := ⟨b, 3, none⟩) h.lt).trans h.c3, (he.cell (p := ⟨b, 4, none⟩) h.lt).trans h.c4, (he.cell (p := ⟨b, 5, none⟩) h.lt).trans h.c5, (he.cell (p := ⟨b, 6, none⟩) h.lt).trans h.c6, (he.cell (p := ⟨b, 7, none⟩) h.lt).trans h.c7⟩
theorem unitAtK {w : World} {A : Option Addr} {xs : List RUnit} (h : Sl unitEl w A xs) {k : Nat} (hk : k < xs.length) {q : RUnit} (hq : xs[k] = q) : ∃ b off, A = some ⟨b, off, none⟩ ∧ b < w.heap.size ∧
    w.cell? ⟨b, off + k * 8, none⟩ = some (.int .i64 q.a) ∧ w.cell? ⟨b, off + k * 8 + 1, none⟩ = some (.int .i64 q.i) ∧ w.cell? ⟨b, off + k * 8 + 2, none⟩ = some (.int .i64 q.n) ∧ w.cell? ⟨b, off + k * 8 + 3, none⟩ = some (.int .i64 q.kind) ∧
    w.cell? ⟨b, off + k * 8 + 4, none⟩ = some (.string q.label) ∧ w.cell? ⟨b, off + k * 8 + 5, none⟩ = some (.slice q.hA q.hn q.hc) ∧ w.cell? ⟨b, off + k * 8 + 6, none⟩ = some (.slice q.wA q.wn q.wc) ∧ w.cell? ⟨b, off + k * 8 + 7, none⟩ = some (.slice q.kA q.kn q.kc) := by
  subst hq; exact unitAt h hk
theorem BoxU.t {b : Nat} {r : RUnit} {w : World} (h : BoxU b r w) : (TCells r.cells).p (.pointer (some ⟨b, 0, none⟩)) w := by
  refine ⟨b, 0, rfl, h.lt, fun j u hj => ?_⟩
  obtain ⟨h0, h1, h2, h3, h4, h5, h6, h7, h8⟩ := h
  rw [Nat.zero_add]
  simp only [RUnit.cells] at hj
  match j with
  | 0 => simp at hj; rw [← hj]; exact h1
  | 1 => simp at hj; rw [← hj]; exact h2
  | 2 => simp at hj; rw [← hj]; exact h3
  | 3 => simp at hj; rw [← hj]; exact h4
  | 4 => simp at hj; rw [← hj]; exact h5
  | 5 => simp at hj; rw [← hj]; exact h6
  | 6 => simp at hj; rw [← hj]; exact h7
  | 7 => simp at hj; rw [← hj]; exact h8
  | j + 8 => simp at hj
end Go.Proofs.YtjhdamjbljafhaaGreatDoor
namespace Go.Proofs.YtjhdamjbljafhaaGreatDoor
open Go.RowKit
def nameL : List ByteArray := [⟨#[98, 111, 111, 107]⟩, ⟨#[112, 97, 114, 116]⟩, ⟨#[115, 101, 99, 116, 105, 111, 110]⟩, ⟨#[112, 97, 114, 97, 103, 114, 97, 112, 104]⟩, ⟨#[116, 97, 98, 108, 101]⟩, ⟨#[114, 111, 119]⟩, ⟨#[99, 101, 108, 108]⟩, ⟨#[110, 111, 116, 101]⟩]
def kindS (k : Int) : ByteArray := if k < 0 then ⟨#[]⟩ else nameL.getD k.toNat ⟨#[]⟩
structure Tabs (w : World) : Prop where
  n : ∀ k, k < 8 → w.cell? ⟨0, k, none⟩ = some (.string (nameL.getD k ⟨#[]⟩))
  nlt : 0 < w.heap.size
  b : ∀ k, k < 8 → ∃ A l c, w.cell? ⟨3, k, none⟩ = some (.slice A (List.length l) c) ∧ Sl intEl w A l ∧ l.length ≤ 8
  blt : 3 < w.heap.size
theorem Tabs.ext {w w' : World} (h : Tabs w) (he : Ext w w') : Tabs w' :=
  ⟨fun k hk => (he.cell (p := ⟨_, k, none⟩) h.nlt).trans (h.n k hk), Nat.lt_of_lt_of_le h.nlt he.size, fun k hk => by
    obtain ⟨A, l, c, h1, h2, h3⟩ := h.b k hk
    exact ⟨A, l, c, (he.cell (p := ⟨_, k, none⟩) h.blt).trans h1, h2.ext he, h3⟩, Nat.lt_of_lt_of_le h.blt he.size⟩
theorem kindS_big {k : Int} (h : 8 ≤ k) : kindS k = ⟨#[]⟩ := by
  rw [kindS, if_neg (by omega), List.getD_eq_getElem?_getD, List.getElem?_eq_none (by simp [nameL]; omega)]; rfl
theorem kindS_size (k : Int) : (kindS k).size ≤ 9 := by
  by_cases h : k < 0
  · rw [kindS, if_pos h]; decide
  · by_cases h8 : 8 ≤ k
    · rw [kindS_big h8]; decide
    · obtain ⟨n, rfl⟩ : ∃ n : Nat, k = n := ⟨k.toNat, by omega⟩
      rw [kindS, if_neg h]
      have : n = 0 ∨ n = 1 ∨ n = 2 ∨ n = 3 ∨ n = 4 ∨ n = 5 ∨ n = 6 ∨ n = 7 := by omega
      rcases this with rfl | rfl | rfl | rfl | rfl | rfl | rfl | rfl <;> decide
set_option maxRecDepth 100000 in
set_option maxHeartbeats 800000 in
theorem kindName_any (k : Int) (w : World) (hT : Tabs w) : Calls Tryz.prog 70 #[.int .i64 k] w fun e w' => e = .returned (.string (kindS k)) ∧ w' = w := by
  by_cases h : k < 0
  · have d1 : decide (k < 0) = true := decide_eq_true h
    have hk : kindS k = ⟨#[]⟩ := by rw [kindS, if_pos h]
    rw [hk]
    clear hk hT
    go_enter Tryz.func70, Tryz.ntmps70
    go_wp2
    go_ret
    exact ⟨rfl, rfl⟩
  have d1 : decide (k < 0) = false := decide_eq_false h
  by_cases h8 : 8 ≤ k
  · have d2 : decide (k ≥ 8) = true := decide_eq_true h8
    have d3 : decide (8 ≤ k) = true := decide_eq_true h8
    rw [kindS_big h8]
    clear hT
    go_enter Tryz.func70, Tryz.ntmps70
    go_wp2
    go_ret
    exact ⟨rfl, rfl⟩
  · have d2 : decide (k ≥ 8) = false := decide_eq_false h8
    have d3 : decide (8 ≤ k) = false := decide_eq_false h8
    obtain ⟨n, rfl⟩ : ∃ n : Nat, k = n := ⟨k.toNat, by omega⟩
    have hn : n < 8 := by omega
    have hc := hT.n n hn
    have hS : kindS (n : Int) = nameL.getD n ⟨#[]⟩ := by rw [kindS, if_neg h]; rfl
    rw [← hS] at hc
    obtain ⟨S, hS2⟩ : ∃ S, kindS (n : Int) = S := ⟨_, rfl⟩
    rw [hS2] at hc ⊢
    clear hS hS2 hT h h8
    go_enter Tryz.func70, Tryz.ntmps70
    go_wp2
    go_ret
    exact ⟨rfl, rfl⟩
set_option maxRecDepth 100000 in
set_option maxHeartbeats 1600000 in
theorem idxInt_any (A : Option Addr) (c : Nat) (l : List Int) (x : Int) (w : World) (hs : Sl intEl w A l) (hn : l.length ≤ 1000000) :
    Calls Tryz.prog 198 #[.slice A l.length c, .int .i64 x] w fun e w' => ∃ z : Int, e = .returned (.int .i64 z) ∧ Ext w w' := by
  go_enter Tryz.func198, Tryz.ntmps198
  go_wp2
  go_loopw [5, 8] (fun _ vk wr => ∃ k : Nat, k ≤ l.length ∧ vk = .int .i64 (k : Nat) ∧ Ext w wr) (fun _ vk _ => l.length - (intOf vk).toNat)
  case atStart => exact ⟨0, Nat.zero_le _, rfl, Ext.refl _⟩
  case round =>
    obtain ⟨k, hk, rfl, hext⟩ := hrel
    by_cases hlt : k < l.length
    · obtain ⟨b, off, hAe, hb, u0⟩ := intAt (hs.ext hext) hlt
      subst hAe
      obtain ⟨y, hy⟩ : ∃ y, l[k] = y := ⟨_, rfl⟩
      rw [hy] at u0
      have d1 : decide ((k : Int) < (l.length : Int)) = true := decide_eq_true (by omega)
      clear hy
      cases he : (x == y) with
      | true =>
        go_wp2
        go_ret
        exact ⟨_, rfl, hext⟩
      | false =>
        go_wp2
        go_roundw
        case rel => exact ⟨k + 1, by omega, by go_num, hext⟩
        case measure => simp [intOf]; omega
    · have d1 : decide ((k : Int) < (l.length : Int)) = false := decide_eq_false (by omega)
      go_wp2
      go_ret
      exact ⟨_, rfl, hext⟩
set_option maxRecDepth 100000 in
set_option maxHeartbeats 800000 in
theorem hasInt_any (A : Option Addr) (c : Nat) (l : List Int) (x : Int) (w : World) (hs : Sl intEl w A l) (hn : l.length ≤ 1000000) :
    Calls Tryz.prog 188 #[.slice A l.length c, .int .i64 x] w (RetB w) := by
  have Hi := Lib.hid (idxInt_any A c l x w hs hn)
  clear hs
  go_enter Tryz.func188, Tryz.ntmps188
  go_wp2_with fail
  refine (Hi.out).mono ?_
  rintro e w2 ⟨z, rfl, hx2⟩
  go_wp2
  go_ret
  exact ⟨_, rfl, hx2⟩
set_option maxRecDepth 100000 in
set_option maxHeartbeats 800000 in
theorem canContain_any (k x : Int) (w : World) (hT : Tabs w) : Calls Tryz.prog 166 #[.int .i64 k, .int .i64 x] w (RetB w) := by
  by_cases h : 0 ≤ k
  case neg =>
    have d1 : decide (0 ≤ k) = false := decide_eq_false h
    have d2 : decide (k ≥ 0) = false := decide_eq_false h
    clear hT
    go_enter Tryz.func166, Tryz.ntmps166
    go_wp2
    go_ret
    exact ⟨_, rfl, Ext.refl _⟩
  have d1 : decide (0 ≤ k) = true := decide_eq_true h
  have d2 : decide (k ≥ 0) = true := decide_eq_true h
  by_cases h8 : k < 8
  case neg =>
    have d3 : decide (k < 8) = false := decide_eq_false h8
    clear hT
    go_enter Tryz.func166, Tryz.ntmps166
    go_wp2
    go_ret
    exact ⟨_, rfl, Ext.refl _⟩
  have d3 : decide (k < 8) = true := decide_eq_true h8
  obtain ⟨n, rfl⟩ : ∃ n : Nat, k = n := ⟨k.toNat, by omega⟩
  have hn : n < 8 := by omega
  obtain ⟨A, l, c, hc, hs, hl⟩ := hT.b n hn
  have Hi := Lib.hid (hasInt_any A c l x w hs (by omega))
  clear hT hs h h8
  go_enter Tryz.func166, Tryz.ntmps166
  go_wp2_with fail
  refine (Hi.out).mono ?_
  rintro e w2 ⟨z, rfl, hx2⟩
  go_wp2
  go_ret
  exact ⟨_, rfl, hx2⟩
end Go.Proofs.YtjhdamjbljafhaaGreatDoor
