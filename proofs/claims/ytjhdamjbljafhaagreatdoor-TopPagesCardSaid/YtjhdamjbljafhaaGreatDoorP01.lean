/- A region of operations, drawn or not, walked once in the order of the text: each operation leaves the old memory alone and yields a value of a type that outlives later growth of memory. -/
import Derived.WalkKit
import Derived.Deep.Draws
namespace Go.Proofs.YtjhdamjbljafhaaGreatDoor
open Go.RowKit
def Ext (w w' : World) : Prop := Below w.heap.size w w'
theorem Ext.refl (w : World) : Ext w w := Below.refl _ _
theorem Ext.trans {a b c : World} (h : Ext a b) (k : Ext b c) : Ext a c := Below.trans h (Below.mono k h.size)
theorem Ext.trans' {a b c : World} {base : Nat} (h : Ext a b) (k : Below base b c) (hb : a.heap.size ≤ base := by first | exact Nat.le_refl _ | omega) : Ext a c := Below.trans h (Below.mono k hb)
theorem Ext.drew {a w : World} (h : Ext a w) : Ext a w.drew := Below.drew h
theorem Ext.drewN {a w : World} (h : Ext a w) (n : Nat) : Ext a (w.drewN n) := ⟨h.os, h.tape, h.output, h.size, fun k hk => Below.block h k hk⟩
theorem Ext.alloc {a w : World} (h : Ext a w) (o : Obj) : Ext a (w.alloc o) := Below.alloc h h.size o
theorem Ext.size {a w : World} (h : Ext a w) : a.heap.size ≤ w.heap.size := Below.size h
theorem Ext.block {a w : World} (h : Ext a w) {k : Nat} (hk : k < a.heap.size) : w.heap[k]? = a.heap[k]? := Below.block h k hk
theorem Ext.cell {a w : World} (h : Ext a w) {p : Addr} (hp : p.block < a.heap.size) : w.cell? p = a.cell? p := Below.cell h hp
theorem Ext.frozen {a w : World} (h : Ext a w) {p : Addr} (hp : p.block < a.heap.size) : w.frozen? p = a.frozen? p := Below.frozen h hp
structure Ty where
  p : Value → World → Prop
  mono : ∀ v w w', Ext w w' → p v w → p v w'
def Ty.is (c : Value) : Ty := ⟨fun v _ => v = c, fun _ _ _ _ h => h⟩
def Ty.any : Ty := ⟨fun _ _ => True, fun _ _ _ _ h => h⟩
def aft (o : Oper) : List Edge := o.after.toList.filter (Region.binds .any)
theorem mem_aft {o : Oper} {e : Edge} : e ∈ aft o ↔ e ∈ o.after ∧ Region.binds .any e = true := by simp [aft]
def Yld (P : Program) (ρ : Operand → Value) (o : Oper) (w : World) (T : Value → World → Prop) : Prop :=
  match (execOp ρ o).run P w with
  | .ok (.value v) w' => Ext w w' ∧ T v w'
  | .ok .skip w' => Ext w w' ∧ T undef w'
  | .ok (.enter f args) w' => Calls P f args w' fun e w'' => ∃ v, e = .returned v ∧ Ext w w'' ∧ T v w''
  | _ => False
def DepsHold (T : Nat → Ty) (v : Nat → Value) (w : World) : List Edge → Prop
  | [] => True
  | e :: r => (T e.on).p (v e.on) w ∧ DepsHold T v w r
def Obls (P : Program) (ops : Array Oper) (T : Nat → Ty) (w0 : World) (Q : Act → World → Prop) (v : Nat → Value) : Nat → List Oper → Act → Prop
  | i, [], a => ∀ w, Ext w0 w → (∀ j, j < i → (T j).p (v j) w) → Q a w
  | i, o :: rest, a =>
    (∀ w, Ext w0 w → DepsHold T v w (aft o) → if Region.wanted o (yielded ops a.tmps) = true then Yld P a.eval o w (T i).p else (T i).p undef w) ∧
    Obls P ops T w0 Q v (i + 1) rest (a.put o.dst (v i))
def ancs (ops : List Oper) : List (List Nat) :=
  ops.foldl (init := []) fun acc o => acc ++ [(aft o).flatMap fun e => e.on :: acc.getD e.on []]
def regionChk (ops : List Oper) : Bool :=
  let A := ancs ops
  (List.range ops.length).all fun i =>
    match ops[i]? with
    | none => false
    | some o =>
      ((aft o).all fun e => decide (e.on < i)) &&
      (match o.op with | .select .. => false | _ => true) &&
      (List.range ops.length).all fun j =>
        match (ops[j]?).bind (·.dst) with
        | none => true
        | some d =>
          if (o.looksAt ops.toArray).contains d || o.dst == some d then
            i == j || (if j < i then (A.getD i []).contains j else (A.getD j []).contains i)
          else true
inductive Anc (ops : List Oper) : Nat → Nat → Prop
  | one {i : Nat} {o : Oper} {e : Edge} : ops[i]? = some o → e ∈ aft o → Anc ops i e.on
  | more {i j : Nat} {o : Oper} {e : Edge} : ops[i]? = some o → e ∈ aft o → Anc ops e.on j → Anc ops i j
theorem ancs_aux (ops : List Oper) : ∀ (l : List Oper) (acc : List (List Nat)), (∀ k, l[k]? = ops[acc.length + k]?) →
    (∀ i j, j ∈ acc.getD i [] → Anc ops i j) →
    ∀ i j, j ∈ (l.foldl (fun acc o => acc ++ [(aft o).flatMap fun e => e.on :: acc.getD e.on []]) acc).getD i [] → Anc ops i j
  | [], acc, _, h, i, j, hj => h i j hj
  | o :: l, acc, hl, h, i, j, hj => by
    refine ancs_aux ops l _ (fun k => ?_) ?_ i j hj
    · have := hl (k + 1)
      simp only [List.getElem?_cons_succ] at this
      rw [this, List.length_append]
      congr 1
      simp
      omega
    · intro i j hj
      have h0 : ops[acc.length]? = some o := by simpa using (hl 0).symm
      rw [List.getD_eq_getElem?_getD] at hj
      rcases Nat.lt_trichotomy i acc.length with hi | hi | hi
      · rw [List.getElem?_append_left hi] at hj
        exact h i j (by rwa [List.getD_eq_getElem?_getD])
      · subst hi
        simp at hj
        obtain ⟨e, he, hje⟩ := hj
        rcases hje with rfl | hje
        · exact .one h0 he
        · refine .more h0 he (h _ _ ?_)
          rwa [List.getD_eq_getElem?_getD]
      · rw [List.getElem?_eq_none (by simp; omega)] at hj
        simp at hj
theorem ancs_spec {ops : List Oper} {i j : Nat} (h : j ∈ (ancs ops).getD i []) : Anc ops i j :=
  ancs_aux ops ops [] (fun k => by simp) (fun i j hj => by simp at hj) i j h
structure Chk (ops : List Oper) : Prop where
  edge : ∀ (i : Nat) (o : Oper), ops[i]? = some o → ∀ e ∈ aft o, e.on < i
  sel : ∀ (i : Nat) (o : Oper), ops[i]? = some o → ∀ cs b, o.op ≠ Op.select cs b
  name : ∀ (i : Nat) (o : Oper), ops[i]? = some o → ∀ (j : Nat) (o' : Oper) (d : Tmp), ops[j]? = some o' → o'.dst = some d → (d ∈ o.looksAt ops.toArray ∨ o.dst = some d) → i = j ∨ (j < i ∧ Anc ops i j) ∨ (i < j ∧ Anc ops j i)
theorem regionChk_spec {ops : List Oper} (h : regionChk ops = true) : Chk ops := by
  simp only [regionChk, List.all_eq_true, List.mem_range] at h
  refine ⟨?_, ?_, ?_⟩
  · intro i o ho e he
    have hi : i < ops.length := (List.getElem?_eq_some_iff.1 ho).1
    have := h i hi
    simp only [ho, Bool.and_eq_true, List.all_eq_true] at this
    have h1 := this.1.1 e (by simpa using he)
    simpa using h1
  · intro i o ho cs b hs
    have hi : i < ops.length := (List.getElem?_eq_some_iff.1 ho).1
    have := h i hi
    simp [ho, hs] at this
  · intro i o ho j o' d ho' hd hn
    have hi : i < ops.length := (List.getElem?_eq_some_iff.1 ho).1
    have hj : j < ops.length := (List.getElem?_eq_some_iff.1 ho').1
    have := h i hi
    simp only [ho, Bool.and_eq_true, List.all_eq_true, List.mem_range] at this
    have h2 := this.2 j hj
    simp only [ho', Option.bind_some, hd] at h2
    rw [if_pos (by
      rcases hn with hn | hn
      · simp [hn]
      · simp [hn])] at h2
    by_cases e : i = j
    · exact .inl e
    · right
      simp only [Bool.or_eq_true, beq_iff_eq, e, false_or] at h2
      split at h2
      · rename_i hlt
        exact .inl ⟨hlt, ancs_spec (by simpa using h2)⟩
      · exact .inr ⟨by omega, ancs_spec (by simpa using h2)⟩
def putsL (L : Nat → Bool) (v : Nat → Value) : Nat → List Oper → Act → Act
  | _, [], a => a
  | k, o :: r, a => putsL L v (k + 1) r (if L k then a.put o.dst (v k) else a)
theorem putsL_append (L : Nat → Bool) (v : Nat → Value) : ∀ (l r : List Oper) (k : Nat) (a : Act), putsL L v k (l ++ r) a = putsL L v (k + l.length) r (putsL L v k l a)
  | [], r, k, a => by simp [putsL]
  | o :: l, r, k, a => by
    simp only [List.cons_append, putsL, List.length_cons]
    rw [putsL_append L v l r (k + 1)]
    congr 1
    omega
theorem putsL_congr {L L' : Nat → Bool} {v v' : Nat → Value} : ∀ (l : List Oper) (k : Nat) (a : Act), (∀ j, k ≤ j → j < k + l.length → L j = L' j ∧ (L j = true → v j = v' j)) → putsL L v k l a = putsL L' v' k l a
  | [], _, _, _ => rfl
  | o :: l, k, a, h => by
    simp only [putsL]
    have h0 := h k (Nat.le_refl _) (by simp)
    have e : (if L k = true then a.put o.dst (v k) else a) = (if L' k = true then a.put o.dst (v' k) else a) := by
      rw [← h0.1]
      cases hL : L k
      · rfl
      · rw [h0.2 hL]
    rw [e]
    exact putsL_congr l (k + 1) _ (fun j h1 h2 => h j (by omega) (by simp; omega))
theorem putsL_put {L : Nat → Bool} {v : Nat → Value} {d : Option Tmp} {x : Value} : ∀ (l : List Oper) (k : Nat) (a : Act),
    (∀ j o, l[j]? = some o → L (k + j) = true → ∀ t, d = some t → o.dst ≠ some t) → putsL L v k l (a.put d x) = (putsL L v k l a).put d x
  | [], _, _, _ => rfl
  | o :: l, k, a, h => by
    simp only [putsL]
    have hr : ∀ j o', l[j]? = some o' → L (k + 1 + j) = true → ∀ t, d = some t → o'.dst ≠ some t := fun j o' hj hL => h (j + 1) o' (by simpa using hj) (by rwa [show k + (j + 1) = k + 1 + j from by omega])
    cases hL : L k
    · simp only [Bool.false_eq_true, if_false]
      exact putsL_put l (k + 1) a hr
    · simp only [if_true]
      rw [Act.put_comm a x (v k) (fun t ht => h 0 o (by simp) (by simpa using hL) t ht)]
      exact putsL_put l (k + 1) _ hr
theorem Act.size_put (a : Act) (d : Option Tmp) (x : Value) : (a.put d x).tmps.size = a.tmps.size := by cases d <;> simp [Act.put]
theorem putsL_read {L L' : Nat → Bool} {v : Nat → Value} {t : Nat} : ∀ (l : List Oper) (k : Nat) (a a' : Act), a.tmps.size = a'.tmps.size → a.tmps[t]? = a'.tmps[t]? →
    (∀ j o, l[j]? = some o → o.dst = some t → L (k + j) = L' (k + j)) → (putsL L v k l a).tmps[t]? = (putsL L' v k l a').tmps[t]?
  | [], _, _, _, _, h, _ => h
  | o :: l, k, a, a', hs, h, hw => by
    simp only [putsL]
    have hr : ∀ j o', l[j]? = some o' → o'.dst = some t → L (k + 1 + j) = L' (k + 1 + j) := fun j o' hj hd => by
      have := hw (j + 1) o' (by simpa using hj) hd
      rwa [show k + (j + 1) = k + 1 + j from by omega] at this
    refine putsL_read l (k + 1) _ _ ?_ ?_ hr
    · split <;> split <;> simp [Act.size_put, hs]
    · by_cases hd : o.dst = some t
      · have := hw 0 o (by simp) hd
        simp only [Nat.add_zero] at this
        rw [this]
        split
        · simp [hd, Act.put, Array.getElem?_setIfInBounds, hs]
        · exact h
      · have hp : ∀ (b : Act), (b.put o.dst (v k)).tmps[t]? = b.tmps[t]? := fun b => by
          cases hdo : o.dst with
          | none => rfl
          | some d =>
            have : d ≠ t := fun e => hd (by rw [hdo, e])
            simp [Act.put, Array.getElem?_setIfInBounds_ne this]
        split <;> split <;> simp only [hp, h]
section
variable {P : Program} {ops : List Oper} {T : Nat → Ty} {w0 : World} {a0 : Act}
structure Stand (ops : List Oper) (T : Nat → Ty) (w0 : World) (a0 : Act) (listed : Array Bool) (a : Act) (w : World) (v : Nat → Value) : Prop where
  size : listed.size = ops.length
  down : ∀ (i : Nat) (o : Oper), listed.getD i false = true → ops[i]? = some o → ∀ e ∈ aft o, listed.getD e.on false = true
  ext : Ext w0 w
  ty : ∀ j, listed.getD j false = true → (T j).p (v j) w
  fr : a = putsL (fun j => listed.getD j false) v 0 ops a0
theorem Stand.anc {listed : Array Bool} {a : Act} {w : World} {v : Nat → Value} (h : Stand ops T w0 a0 listed a w v) {i j : Nat} (ha : Anc ops i j)
    (hi : (∃ o, ops[i]? = some o ∧ ∀ e ∈ aft o, listed.getD e.on false = true)) : listed.getD j false = true := by
  induction ha with
  | one ho he =>
    obtain ⟨o', ho', hl⟩ := hi
    rw [ho] at ho'
    cases ho'
    exact hl _ he
  | more ho he ha ih =>
    obtain ⟨o', ho', hl⟩ := hi
    rw [ho] at ho'
    cases ho'
    have he' := hl _ he
    cases ha with
    | one ho2 he2 => exact h.down _ _ he' ho2 _ he2
    | more ho2 he2 ha2 => exact ih ⟨_, ho2, fun e h3 => h.down _ _ he' ho2 _ h3⟩
theorem mem_ready {listed : Array Bool} {i : Nat} : i ∈ Region.ready .any ops.toArray listed ↔ i < ops.length ∧ listed.getD i true = false ∧ ∃ o, ops[i]? = some o ∧ ∀ e ∈ o.after, Region.binds .any e = true → listed.getD e.on false = true := by
  simp only [Region.ready, List.size_toArray, List.mem_filter, List.mem_range, Bool.and_eq_true, Bool.not_eq_true']
  constructor
  · rintro ⟨h1, h2, h3⟩
    refine ⟨h1, h2, ?_⟩
    cases ho : ops[i]? with
    | none => rw [List.getElem?_eq_none_iff] at ho; omega
    | some o =>
      refine ⟨o, rfl, fun e he hb => ?_⟩
      simp only [List.getElem?_toArray, ho, Option.map_some, Option.getD_some, Array.all_eq_true'] at h3
      have := h3 e he
      rw [hb] at this
      simpa using this
  · rintro ⟨h1, h2, o, ho, h3⟩
    refine ⟨h1, h2, ?_⟩
    simp only [List.getElem?_toArray, ho, Option.map_some, Option.getD_some, Array.all_eq_true']
    intro e he
    cases hb : Region.binds .any e
    · rfl
    · simp [h3 e he hb]
theorem frame_read (hc : Chk ops) {listed : Array Bool} {a : Act} {w : World} {v : Nat → Value} (h : Stand ops T w0 a0 listed a w v) {i : Nat} {o : Oper} (ho : ops[i]? = some o)
    (hi : listed.getD i false = false) (ha : ∀ e ∈ aft o, listed.getD e.on false = true) {t : Tmp} (ht : t ∈ o.looksAt ops.toArray ∨ o.dst = some t) :
    a.tmps[t]? = (putsL (fun _ => true) v 0 (ops.take i) a0).tmps[t]? := by
  have hlt : i < ops.length := (List.getElem?_eq_some_iff.1 ho).1
  have e1 : putsL (fun _ => true) v 0 (ops.take i) a0 = putsL (fun j => decide (j < i)) v 0 ops a0 := by
    conv => rhs; rw [← List.take_append_drop i ops, putsL_append]
    have h2 : putsL (fun j => decide (j < i)) v 0 (ops.take i) a0 = putsL (fun _ => true) v 0 (ops.take i) a0 :=
      putsL_congr _ _ _ fun j _ hj => ⟨by simp at hj; simp; omega, fun _ => rfl⟩
    rw [h2]
    have h3 : ∀ (b : Act), putsL (fun j => decide (j < i)) v (0 + (ops.take i).length) (ops.drop i) b = putsL (fun _ => false) v (0 + (ops.take i).length) (ops.drop i) b := fun b =>
      putsL_congr _ _ _ fun j hj _ => ⟨by simp at hj; simp; omega, fun hh => by simp at hj; simp at hh; omega⟩
    rw [h3]
    have h4 : ∀ (l : List Oper) (k : Nat) (b : Act), putsL (fun _ => false) v k l b = b := by
      intro l
      induction l with
      | nil => intro k b; rfl
      | cons x l ih => intro k b; simp [putsL, ih]
    rw [h4]
  rw [e1, h.fr]
  refine putsL_read ops 0 a0 a0 rfl rfl fun j o' hj hd => ?_
  simp only [Nat.zero_add]
  rcases hc.name i o ho j o' t hj hd ht with rfl | ⟨hji, hanc⟩ | ⟨hij, hanc⟩
  · rw [hi]; simp
  · rw [h.anc hanc ⟨o, ho, ha⟩]; simp [hji]
  · cases hL : listed.getD j false
    · simp; omega
    · exact absurd (h.anc hanc ⟨o', hj, fun e he => h.down _ _ hL hj _ he⟩) (by rw [hi]; simp)
theorem eval_of_read {a a' : Act} {o : Oper} {opsA : Array Oper} (h : ∀ t, t ∈ o.looksAt opsA → a.tmps[t]? = a'.tmps[t]?) : ∀ x ∈ o.op.operands, a.eval x = a'.eval x := by
  intro x hx
  cases x with
  | tmp t =>
    have := h t (List.mem_append_left _ (List.mem_filterMap.2 ⟨.tmp t, by simpa using hx, rfl⟩))
    simp only [Act.eval, Array.getD_eq_getD_getElem?, this]
  | _ => rfl
theorem wanted_of_read {a a' : Act} {o : Oper} {opsA : Array Oper} (h : ∀ t, t ∈ o.looksAt opsA → a.tmps[t]? = a'.tmps[t]?) : Region.wanted o (yielded opsA a.tmps) = Region.wanted o (yielded opsA a'.tmps) := by
  cases hg : o.guard with
  | none => simp [Region.wanted, hg]
  | some g =>
    obtain ⟨j, want⟩ := g
    have e : yielded opsA a.tmps j = yielded opsA a'.tmps j := by
      unfold yielded
      cases hd : (opsA[j]?).bind (·.dst) with
      | none => rfl
      | some t =>
        have := h t (List.mem_append_right _ (by simp [hg, hd]))
        simp only [Option.bind_some, this]
    simp [Region.wanted, hg, e]
theorem step_typed {Q : Exit → Act → World → Prop} {K : Act → World → Prop} (hc : Chk ops) {listed : Array Bool} {a : Act} {w : World} {v : Nat → Value} (h : Stand ops T w0 a0 listed a w v) {i : Nat} {o : Oper} (ho : ops[i]? = some o)
    (hi : listed.getD i true = false) (ha : ∀ e ∈ aft o, listed.getD e.on false = true)
    (hob : ∀ w, Ext w0 w → DepsHold T v w (aft o) → if Region.wanted o (yielded ops.toArray (putsL (fun _ => true) v 0 (ops.take i) a0).tmps) = true then Yld P (putsL (fun _ => true) v 0 (ops.take i) a0).eval o w (T i).p else (T i).p undef w)
    (hK : ∀ a' w' v', (∀ j, j ≠ i → v' j = v j) → Stand ops T w0 a0 (listed.setIfInBounds i true) a' w' v' → K a' w') : wpOp P ops.toArray Q i K a w := by
  have hlt : i < ops.length := (List.getElem?_eq_some_iff.1 ho).1
  have hif : listed.getD i false = false := by
    have hs := h.size
    simp only [Array.getD_eq_getD_getElem?] at hi ⊢
    rw [Array.getElem?_eq_getElem (by omega)] at hi ⊢
    simpa using hi
  have hd : DepsHold T v w (aft o) := by
    have : ∀ l : List Edge, (∀ e ∈ l, listed.getD e.on false = true) → DepsHold T v w l := by
      intro l
      induction l with
      | nil => intro _; trivial
      | cons e l ih => intro hh; exact ⟨h.ty _ (hh e (by simp)), ih fun e' h' => hh e' (by simp [h'])⟩
    exact this _ fun e he => ha e (by simpa using he)
  have hread : ∀ t, t ∈ o.looksAt ops.toArray → a.tmps[t]? = (putsL (fun _ => true) v 0 (ops.take i) a0).tmps[t]? := fun t ht => frame_read hc h ho hif ha (.inl ht)
  have hob' := hob w h.ext hd
  have hLi : ∀ j, (listed.setIfInBounds i true).getD j false = if j = i then true else listed.getD j false := by
    have hsz : i < listed.size := by rw [h.size]; exact hlt
    intro j
    simp only [Array.getD_eq_getD_getElem?, Array.getElem?_setIfInBounds]
    by_cases hji : j = i
    · subst hji; simp [hsz]
    · rw [if_neg (fun hh => hji hh.symm), if_neg hji]
  have next : ∀ (x : Value) (w' : World), Ext w w' → (T i).p x w' → K (a.put o.dst x) w' := by
    intro x w' he hx
    have d1 : ∀ (j : Nat) (o' : Oper), (listed.setIfInBounds i true).getD j false = true → ops[j]? = some o' → ∀ e ∈ aft o', (listed.setIfInBounds i true).getD e.on false = true := by
      intro j o' hj ho' e he'
      rw [hLi] at hj ⊢
      by_cases hji : j = i
      · subst hji
        rw [ho] at ho'
        cases ho'
        split
        · rfl
        · exact ha e he'
      · rw [if_neg hji] at hj
        split
        · rfl
        · exact h.down j o' hj ho' e he'
    have d2 : ∀ j, (listed.setIfInBounds i true).getD j false = true → (T j).p (if j = i then x else v j) w' := by
      intro j hj
      rw [hLi] at hj
      by_cases hji : j = i
      · subst hji; simpa using hx
      · rw [if_neg hji] at hj ⊢
        exact (T j).mono _ _ _ he (h.ty j hj)
    have d3 : a.put o.dst x = putsL (fun j => (listed.setIfInBounds i true).getD j false) (fun j => if j = i then x else v j) 0 ops a0 := by
      rw [h.fr]
      have hlen : (ops.take i).length = i := by simp; omega
      have hdrop : ops.drop i = o :: ops.drop (i + 1) := by
        rw [List.drop_eq_getElem_cons hlt]
        congr 1
        have := List.getElem?_eq_getElem hlt
        rw [ho] at this
        exact (Option.some.inj this).symm
      have spl : ∀ (L : Nat → Bool) (u : Nat → Value), putsL L u 0 ops a0 = putsL L u (i + 1) (ops.drop (i + 1)) (if L i then (putsL L u 0 (ops.take i) a0).put o.dst (u i) else putsL L u 0 (ops.take i) a0) := by
        intro L u
        conv => lhs; rw [← List.take_append_drop i ops, putsL_append, hlen, hdrop]
        simp only [putsL, Nat.zero_add]
      rw [spl, spl]
      have e1 : putsL (fun j => (listed.setIfInBounds i true).getD j false) (fun j => if j = i then x else v j) 0 (ops.take i) a0 = putsL (fun j => listed.getD j false) v 0 (ops.take i) a0 :=
        putsL_congr _ _ _ fun j _ hj => by
          have : j ≠ i := by rw [hlen] at hj; omega
          exact ⟨by rw [hLi, if_neg this], fun _ => by simp [this]⟩
      rw [e1, hLi, if_pos rfl, hif]
      simp only [if_true, Bool.false_eq_true, if_false]
      rw [← putsL_put]
      · refine putsL_congr _ _ _ fun j hj _ => ?_
        have : j ≠ i := by omega
        exact ⟨by rw [hLi, if_neg this], fun _ => by simp [this]⟩
      · intro j o' hj hL t ht hdo
        have hj' : ops[i + 1 + j]? = some o' := by rw [← List.getElem?_drop]; exact hj
        rcases hc.name i o ho (i + 1 + j) o' t hj' hdo (.inr ht) with hh | ⟨hh, _⟩ | ⟨_, hanc⟩
        · omega
        · omega
        · exact absurd (h.anc hanc ⟨o', hj', fun e he => h.down _ _ hL hj' _ he⟩) (by rw [hif]; simp)
    exact hK _ _ (fun j => if j = i then x else v j) (fun j hj => by simp [hj]) ⟨by simp [h.size], d1, h.ext.trans he, d2, d3⟩
  unfold wpOp
  simp only [List.getElem?_toArray, ho]
  rw [wanted_of_read hread]
  split
  · rename_i hw
    rw [if_pos hw] at hob'
    left
    unfold Oper.wp
    rw [execOp_congr o (hc.sel i o ho) (eval_of_read hread)]
    unfold Yld at hob'
    generalize (execOp (putsL (fun _ => true) v 0 (ops.take i) a0).eval o).run P w = r at hob' ⊢
    cases r with
    | halt x w' => exact hob'.elim
    | ok x w' =>
      cases x <;> simp only at hob' <;> first | exact hob'.elim | skip
      · exact next _ _ hob'.1 hob'.2
      · exact next _ _ hob'.1 hob'.2
      · refine Calls.mono hob' ?_
        rintro e w'' ⟨x, rfl, h1, h2⟩
        exact next _ _ h1 h2
  · rename_i hw
    rw [if_neg hw] at hob'
    exact next _ _ (Ext.refl w) hob'
end
section
variable {P : Program} {ops : List Oper} {T : Nat → Ty} {w0 : World} {a0 : Act} {Q : Exit → Act → World → Prop}
theorem Obls_at {Q' : Act → World → Prop} {v : Nat → Value} : ∀ (l : List Oper) (k : Nat) (a : Act) (opsA : Array Oper), Obls P opsA T w0 Q' v k l a →
    (∀ i o, l[i]? = some o → ∀ w, Ext w0 w → DepsHold T v w (aft o) → if Region.wanted o (yielded opsA (putsL (fun _ => true) v k (l.take i) a).tmps) = true then Yld P (putsL (fun _ => true) v k (l.take i) a).eval o w (T (k + i)).p else (T (k + i)).p undef w) ∧
    (∀ w, Ext w0 w → (∀ j, j < k + l.length → (T j).p (v j) w) → Q' (putsL (fun _ => true) v k l a) w)
  | [], k, a, opsA, h => ⟨fun i o hi => by simp at hi, fun w hw hj => by simpa [putsL] using h w hw (by simpa using hj)⟩
  | o :: l, k, a, opsA, h => by
    have ih := Obls_at l (k + 1) (a.put o.dst (v k)) opsA h.2
    refine ⟨fun i o' hi => ?_, fun w hw hj => ?_⟩
    · cases i with
      | zero =>
        simp only [List.getElem?_cons_zero, Option.some.injEq] at hi
        subst hi
        exact h.1
      | succ i =>
        have := ih.1 i o' (by simpa using hi)
        rw [show k + 1 + i = k + (i + 1) from by omega] at this
        simpa [putsL] using this
    · have := ih.2 w hw (fun j hjj => hj j (by simp; omega))
      simpa [putsL] using this
theorem listed_all {listed : Array Bool} {a : Act} {w : World} {v : Nat → Value} (hc : Chk ops) (h : Stand ops T w0 a0 listed a w v) (hr : Region.ready .any ops.toArray listed = []) : ∀ i, i < ops.length → listed.getD i false = true := by
  intro i
  induction i using Nat.strongRecOn with
  | _ i ih =>
    intro hi
    cases hL : listed.getD i false with
    | true => rfl
    | false =>
      exfalso
      have ho := List.getElem?_eq_getElem hi
      have : i ∈ Region.ready .any ops.toArray listed := mem_ready.2 ⟨hi, by
        have hs := h.size
        simp only [Array.getD_eq_getD_getElem?] at hL ⊢
        rw [Array.getElem?_eq_getElem (by omega)] at hL ⊢
        simpa using hL, _, ho, fun e he hb => by
          have := hc.edge i _ ho e (mem_aft.2 ⟨he, hb⟩)
          exact ih e.on this (by omega)⟩
      rw [hr] at this
      cases this
theorem done_typed {listed : Array Bool} {a : Act} {w : World} {v : Nat → Value} (h : Stand ops T w0 a0 listed a w v) (hall : ∀ i, i < ops.length → listed.getD i false = true)
    (ho : Obls P ops.toArray T w0 (fun a' w' => Q .normal a' w') v 0 ops a0) : Q .normal a w := by
  have := (Obls_at ops 0 a0 _ ho).2 w h.ext (fun j hj => h.ty j (hall j (by simpa using hj)))
  rw [h.fr]
  rw [show putsL (fun j => listed.getD j false) v 0 ops a0 = putsL (fun _ => true) v 0 ops a0 from putsL_congr _ _ _ fun j _ hj => ⟨hall j (by simpa using hj), fun _ => rfl⟩]
  exact this
def undone (n : Nat) (listed : Array Bool) : List Nat := (List.range n).filter fun j => !(listed.getD j false)
theorem undone_set {n : Nat} {listed : Array Bool} {i : Nat} (hs : i < listed.size) (hi : i < n) (hl : listed.getD i false = false) : (undone n (listed.setIfInBounds i true)).length + 1 = (undone n listed).length := by
  have e : undone n (listed.setIfInBounds i true) = (undone n listed).erase i := by
    have nd : (undone n listed).Nodup := List.Pairwise.filter _ List.nodup_range
    rw [nd.erase_eq_filter]
    unfold undone
    rw [List.filter_filter]
    refine List.filter_congr fun j hj => ?_
    simp only [Array.getD_eq_getD_getElem?, Array.getElem?_setIfInBounds]
    by_cases hji : i = j
    · subst hji; simp [hs]
    · simp [hji, Ne.symm hji]
  have hm : i ∈ undone n listed := by simp only [undone, List.mem_filter, List.mem_range, hi, hl, Bool.not_false, and_self]
  rw [e, List.length_erase_of_mem hm]
  have := List.length_pos_of_mem hm
  omega
theorem wpAny_typed (hc : Chk ops) (ho : ∀ v, Obls P ops.toArray T w0 (fun a' w' => Q .normal a' w') v 0 ops a0) : ∀ (fuel : Nat) (listed : Array Bool) (a : Act) (w : World) (v : Nat → Value),
    (undone ops.length listed).length ≤ fuel → Stand ops T w0 a0 listed a w v → wpAny P .any ops.toArray Q fuel listed a w
  | 0, listed, a, w, v, hf, h => by
    have hu : undone ops.length listed = [] := List.eq_nil_of_length_eq_zero (by omega)
    have hall : ∀ i, i < ops.length → listed.getD i false = true := fun i hi => by
      cases hL : listed.getD i false with
      | true => rfl
      | false =>
        have : i ∈ undone ops.length listed := by simp only [undone, List.mem_filter, List.mem_range, hi, hL, Bool.not_false, and_self]
        rw [hu] at this
        cases this
    refine ⟨?_, done_typed h hall (ho v)⟩
    cases hr : Region.ready .any ops.toArray listed with
    | nil => rfl
    | cons i r =>
      have hm : i ∈ Region.ready .any ops.toArray listed := by rw [hr]; simp
      obtain ⟨h1, h2, _⟩ := mem_ready.1 hm
      have := hall i h1
      simp only [Array.getD_eq_getD_getElem?] at this h2
      rw [Array.getElem?_eq_getElem (by rw [h.size]; exact h1)] at this h2
      simp at this h2
      rw [this] at h2
      cases h2
  | fuel + 1, listed, a, w, v, hf, h => by
    refine ⟨fun hr => done_typed h (listed_all hc h hr) (ho v), fun i hi => ?_⟩
    obtain ⟨h1, h2, o, h3, h4⟩ := mem_ready.1 hi
    have hb : ∀ e ∈ aft o, listed.getD e.on false = true := fun e he => h4 e (mem_aft.1 he).1 (mem_aft.1 he).2
    have := (Obls_at ops 0 a0 _ (ho v)).1 i o h3
    rw [Nat.zero_add] at this
    have hlf : listed.getD i false = false := by
      have hs := h.size
      simp only [Array.getD_eq_getD_getElem?] at h2 ⊢
      rw [Array.getElem?_eq_getElem (by omega)] at h2 ⊢
      simpa using h2
    refine step_typed hc h h3 h2 hb this fun a' w' v' _ hs => ?_
    have := undone_set (by rw [h.size]; exact h1) h1 hlf
    exact wpAny_typed hc ho fuel _ a' w' v' (by omega) hs
theorem stand_start {w : World} (he : Ext w0 w) (v : Nat → Value) : Stand ops T w0 a0 (Array.replicate ops.length false) a0 w v := by
  have hf : ∀ j, (Array.replicate ops.length false).getD j false = false := fun j => by
    simp only [Array.getD_eq_getD_getElem?, Array.getElem?_replicate]
    split <;> rfl
  refine ⟨by simp, (fun i o hi => by rw [hf] at hi; cases hi), he, (fun j hj => by rw [hf] at hj; cases hj), ?_⟩
  have h4 : ∀ (l : List Oper) (k : Nat) (b : Act), putsL (fun _ => false) v k l b = b := by
    intro l
    induction l with
    | nil => intro k b; rfl
    | cons x l ih => intro k b; simp [putsL, ih]
  rw [putsL_congr (L' := fun _ => false) (v' := v) ops 0 a0 (fun j _ _ => ⟨hf j, fun _ => rfl⟩), h4]
theorem wp_typed_draw {id : Nat} (hm : P.follows .mixedOrders = true) (T : Nat → Ty) (hchk : regionChk ops = true) (h : ∀ v, Obls P ops.toArray T w0 (fun a' w' => Q .normal a' w') v 0 ops a0) :
    (Code.region id ops.toArray true).wp P Q a0 w0 := by
  refine wp_region_any hm (wpAny_typed (regionChk_spec hchk) h _ _ _ _ (fun _ => undef) ?_ (by
    have := stand_start (ops := ops) (T := T) (w0 := w0) (a0 := a0) (w := w0.drew) (Ext.drew (Ext.refl w0)) (fun _ => undef)
    simpa using this))
  unfold undone
  refine Nat.le_trans (List.length_filter_le _ _) ?_
  simp
end
section
variable {P : Program} {ops : List Oper} {T : Nat → Ty} {w0 : World} {a0 : Act} {Q : Exit → Act → World → Prop}
end
section
variable {P : Program} {l1 l2 : List Oper} {T : Nat → Ty} {w0 : World} {a0 : Act} {Q : Exit → Act → World → Prop}
def tailChk (ops : List Oper) (m : Nat) : Bool :=
  let A := ancs ops
  (List.range ops.length).all fun k => k < m || (List.range k).all fun j => (A.getD k []).contains j
theorem tailChk_spec {ops : List Oper} {m : Nat} (h : tailChk ops m = true) : ∀ k j, m ≤ k → k < ops.length → j < k → Anc ops k j := by
  intro k j hk hl hj
  simp only [tailChk, List.all_eq_true, List.mem_range, Bool.or_eq_true, decide_eq_true_eq] at h
  rcases h k hl with h | h
  · omega
  · exact ancs_spec (by simpa using h j hj)
def Down (ops : List Oper) (listed : Array Bool) : Prop := ∀ (i : Nat) (o : Oper), listed.getD i false = true → ops[i]? = some o → ∀ e ∈ aft o, listed.getD e.on false = true
theorem Down.anc {ops : List Oper} {listed : Array Bool} (h : Down ops listed) {i j : Nat} (ha : Anc ops i j) (hi : (∃ o, ops[i]? = some o ∧ ∀ e ∈ aft o, listed.getD e.on false = true)) : listed.getD j false = true := by
  induction ha with
  | one ho he =>
    obtain ⟨o', ho', hl⟩ := hi
    rw [ho] at ho'
    cases ho'
    exact hl _ he
  | more ho he ha ih =>
    obtain ⟨o', ho', hl⟩ := hi
    rw [ho] at ho'
    cases ho'
    have he' := hl _ he
    cases ha with
    | one ho2 he2 => exact h _ _ he' ho2 _ he2
    | more ho2 he2 ha2 => exact ih ⟨_, ho2, fun e h3 => h _ _ he' ho2 _ h3⟩
theorem wpAny_forced {ops : List Oper} (hc : Chk ops) {m : Nat} (ht : ∀ k j, m ≤ k → k < ops.length → j < k → Anc ops k j) : ∀ (r k fuel : Nat) (listed : Array Bool) (a : Act) (w : World),
    k + r = ops.length → m ≤ k → r ≤ fuel → listed.size = ops.length → (∀ j, listed.getD j false = decide (j < k)) → wpOps P ops.toArray Q (List.range' k r) a w → wpAny P .any ops.toArray Q fuel listed a w
  | r, k, fuel, listed, a, w, hk, hm, hf, hs, hl, h => by
    have hdown : Down ops listed := fun i o hi ho e he => by
      rw [hl] at hi ⊢
      have := (hc.edge i o ho e he)
      simp at hi ⊢
      omega
    have hready : ∀ i ∈ Region.ready .any ops.toArray listed, i = k ∧ k < ops.length := by
      intro i hi
      obtain ⟨h1, h2, o, h3, h4⟩ := mem_ready.1 hi
      have hb : ∀ e ∈ aft o, listed.getD e.on false = true := fun e he => h4 e (mem_aft.1 he).1 (mem_aft.1 he).2
      have hlf : ¬ i < k := by
        intro hik
        have := hl i
        simp only [Array.getD_eq_getD_getElem?] at this h2
        rw [Array.getElem?_eq_getElem (by omega)] at this h2
        simp [hik] at this
        simp [this] at h2
      rcases Nat.lt_or_ge k i with hki | hki
      · have := hdown.anc (ht i k (by omega) h1 hki) ⟨o, h3, hb⟩
        rw [hl] at this
        simp at this
      · exact ⟨by omega, by omega⟩
    have hnil : Region.ready .any ops.toArray listed = [] → r = 0 := by
      intro hr
      rcases Nat.eq_zero_or_pos r with h0 | h0
      · exact h0
      · exfalso
        have hklt : k < ops.length := by omega
        have ho := List.getElem?_eq_getElem hklt
        have : k ∈ Region.ready .any ops.toArray listed := mem_ready.2 ⟨hklt, by
          have := hl k
          simp only [Array.getD_eq_getD_getElem?] at this ⊢
          rw [Array.getElem?_eq_getElem (by omega)] at this ⊢
          simpa using this, _, ho, fun e he hb => by
            rw [hl]
            simpa using hc.edge k _ ho e (mem_aft.2 ⟨he, hb⟩)⟩
        rw [hr] at this
        cases this
    match fuel, hf with
    | 0, hf =>
      obtain rfl : r = 0 := by omega
      refine ⟨?_, by simpa [wpOps] using h⟩
      cases hr : Region.ready .any ops.toArray listed with
      | nil => rfl
      | cons i x =>
        have := hready i (by rw [hr]; simp)
        omega
    | fuel + 1, hf =>
      refine ⟨fun hr => ?_, fun i hi => ?_⟩
      · obtain rfl := hnil hr
        simpa [wpOps] using h
      · obtain ⟨rfl, hlt⟩ := hready i hi
        match r, hk, hf, h with
        | 0, hk, _, _ => omega
        | r + 1, hk, hf, h =>
          rw [List.range'_succ, wpOps_cons] at h
          refine wpOp_mono (fun a' w' h' => ?_) h
          refine wpAny_forced hc ht r (i + 1) fuel _ a' w' (by omega) (by omega) (by omega) (by simp [hs]) (fun j => ?_) h'
          have hj := hl j
          simp only [Array.getD_eq_getD_getElem?, Array.getElem?_setIfInBounds] at hj ⊢
          by_cases hji : i = j
          · subst hji; simp [hs, hlt]
          · rw [if_neg hji, hj]
            congr 1
            exact propext ⟨fun h => by omega, fun h => by omega⟩
termination_by r => r
theorem wpAny_head (hc : Chk (l1 ++ l2)) (ht : ∀ k j, l1.length ≤ k → k < (l1 ++ l2).length → j < k → Anc (l1 ++ l2) k j)
    (ho : ∀ v, Obls P (l1 ++ l2).toArray T w0 (fun a' w' => wpOps P (l1 ++ l2).toArray Q (List.range' l1.length l2.length) a' w') v 0 l1 a0) : ∀ (fuel : Nat) (listed : Array Bool) (a : Act) (w : World) (v : Nat → Value),
    (undone l1.length listed).length + l2.length ≤ fuel → (∀ j, l1.length ≤ j → listed.getD j false = false) → Stand (l1 ++ l2) T w0 a0 listed a w v → wpAny P .any (l1 ++ l2).toArray Q fuel listed a w := by
  have all : ∀ (fuel : Nat) (listed : Array Bool) (a : Act) (w : World) (v : Nat → Value), l2.length ≤ fuel → (∀ j, l1.length ≤ j → listed.getD j false = false) → (∀ i, i < l1.length → listed.getD i false = true) →
      Stand (l1 ++ l2) T w0 a0 listed a w v → wpAny P .any (l1 ++ l2).toArray Q fuel listed a w := by
    intro fuel listed a w v hf hm hall h
    refine wpAny_forced hc ht l2.length l1.length fuel listed a w (by simp) (Nat.le_refl _) hf h.size (fun j => ?_) ?_
    · rcases Nat.lt_or_ge j l1.length with hj | hj
      · rw [hall j hj]; simp [hj]
      · rw [hm j hj]; simp; omega
    · have := (Obls_at l1 0 a0 _ (ho v)).2 w h.ext (fun j hj => h.ty j (hall j (by simpa using hj)))
      rw [h.fr, putsL_append, putsL_congr (L' := fun _ => true) (v' := v) l1 0 a0 (fun j _ hj => ⟨hall j (by simpa using hj), fun _ => rfl⟩),
        putsL_congr (L' := fun _ => false) (v' := v) l2 _ _ (fun j hj _ => ⟨hm j (by simpa using hj), fun _ => rfl⟩)]
      have h4 : ∀ (l : List Oper) (k : Nat) (b : Act), putsL (fun _ => false) v k l b = b := by
        intro l
        induction l with
        | nil => intro k b; rfl
        | cons x l ih => intro k b; simp [putsL, ih]
      rw [h4]
      exact this
  have notyet : ∀ (listed : Array Bool), undone l1.length listed = [] → ∀ i, i < l1.length → listed.getD i false = true := fun listed hu i hi => by
    cases hL : listed.getD i false with
    | true => rfl
    | false =>
      have : i ∈ undone l1.length listed := by simp only [undone, List.mem_filter, List.mem_range, hi, hL, Bool.not_false, and_self]
      rw [hu] at this
      cases this
  intro fuel
  induction fuel with
  | zero =>
    intro listed a w v hf hm h
    exact all 0 listed a w v (by omega) hm (notyet listed (List.eq_nil_of_length_eq_zero (by omega))) h
  | succ fuel ih =>
    intro listed a w v hf hm h
    cases hu : undone l1.length listed with
    | nil => exact all _ listed a w v (by omega) hm (notyet listed hu) h
    | cons x r =>
      have hx : x < l1.length ∧ listed.getD x false = false := by
        have : x ∈ undone l1.length listed := by rw [hu]; simp
        simpa [undone] using this
      have hlen : l1.length ≤ (l1 ++ l2).length := by simp
      refine ⟨fun hr => ?_, fun i hi => ?_⟩
      · have := listed_all hc h hr x (by omega)
        rw [hx.2] at this
        cases this
      · obtain ⟨h1, h2, o, h3, h4⟩ := mem_ready.1 hi
        have hb : ∀ e ∈ aft o, listed.getD e.on false = true := fun e he => h4 e (mem_aft.1 he).1 (mem_aft.1 he).2
        rcases Nat.lt_or_ge i l1.length with him | him
        · have h3' : l1[i]? = some o := by rw [← h3, List.getElem?_append_left him]
          have := (Obls_at l1 0 a0 _ (ho v)).1 i o h3'
          rw [Nat.zero_add] at this
          have hlf : listed.getD i false = false := by
            have hs := h.size
            simp only [Array.getD_eq_getD_getElem?] at h2 ⊢
            rw [Array.getElem?_eq_getElem (by omega)] at h2 ⊢
            simpa using h2
          have htk : (l1 ++ l2).take i = l1.take i := List.take_append_of_le_length (by omega)
          rw [← htk] at this
          refine step_typed hc h h3 h2 hb this fun a' w' v' _ hs => ?_
          have hund := undone_set (n := l1.length) (by rw [h.size]; exact h1) him hlf
          refine ih _ a' w' v' (by omega) (fun j hj => ?_) hs
          have := hm j hj
          simp only [Array.getD_eq_getD_getElem?, Array.getElem?_setIfInBounds] at this ⊢
          rwa [if_neg (by omega)]
        · have := h.anc (ht i x him h1 (by omega)) ⟨o, h3, hb⟩
          rw [hx.2] at this
          cases this
theorem wp_typed_tail {id : Nat} (hm : P.follows .mixedOrders = true) (T : Nat → Ty) (hchk : regionChk (l1 ++ l2) = true) (htail : tailChk (l1 ++ l2) l1.length = true)
    (h : ∀ v, Obls P (l1 ++ l2).toArray T w0 (fun a' w' => wpList P (l1 ++ l2).toArray Q l2 a' w') v 0 l1 a0) :
    (Code.region id (l1 ++ l2).toArray true).wp P Q a0 w0 := by
  have e : wpOps P (l1 ++ l2).toArray Q (List.range' l1.length l2.length) = wpList P (l1 ++ l2).toArray Q l2 := wpOps_eq_wpList l2 l1.length (fun j => by rw [List.getElem?_toArray, List.getElem?_append_right (by omega)]; congr 1; omega)
  refine wp_region_any hm (wpAny_head (regionChk_spec hchk) (tailChk_spec htail) (by rw [e]; exact h) _ _ _ _ (fun _ => undef) ?_ (fun j _ => ?_) (by
    have := stand_start (ops := l1 ++ l2) (T := T) (w0 := w0) (a0 := a0) (w := w0.drew) (Ext.drew (Ext.refl w0)) (fun _ => undef)
    simpa using this))
  · have : (undone l1.length (Array.replicate (l1 ++ l2).toArray.size false)).length ≤ l1.length := by
      unfold undone
      refine Nat.le_trans (List.length_filter_le _ _) ?_
      simp
    simp only [List.size_toArray, List.length_append] at this ⊢
    omega
  · simp only [Array.getD_eq_getD_getElem?, Array.getElem?_replicate]
    split <;> rfl
end
def evalL (l : List Value) : Operand → Value
  | .tmp t => l.getD t undef
  | .const v => v
  | .global g => .pointer (some ⟨g, 0, none⟩)
  | .func f => .func (.func f) #[] #[]
def putL (l : List Value) (dst : Option Tmp) (v : Value) : List Value :=
  match dst with
  | some d => l.set d v
  | none => l
def yieldedL (ops : List Oper) (l : List Value) (j : Nat) : Option Bool :=
  match ((ops[j]?).bind (·.dst)).bind (l[·]?) with
  | some (.bool b) => some b
  | _ => none
theorem eval_toArray (l : List Value) (ds : List Deferred) : (Act.mk l.toArray ds).eval = evalL l := by
  funext x
  cases x <;> simp [Act.eval, evalL]
theorem put_toArray (l : List Value) (ds : List Deferred) (dst : Option Tmp) (v : Value) : (Act.mk l.toArray ds).put dst v = ⟨(putL l dst v).toArray, ds⟩ := by
  cases dst <;> simp [Act.put, putL]
theorem yielded_toArray (ops : List Oper) (l : List Value) : yielded ops.toArray l.toArray = yieldedL ops l := by
  funext j
  simp only [yielded, yieldedL, List.getElem?_toArray]
  rfl
def lookE : List (Nat × Value) → List Value → Nat → Value
  | [], a0, t => a0.getD t undef
  | (d, x) :: r, a0, t => bif Nat.beq t d then x else lookE r a0 t
def evalE (env : List (Nat × Value)) (a0 : List Value) : Operand → Value
  | .tmp t => lookE env a0 t
  | .const v => v
  | .global g => .pointer (some ⟨g, 0, none⟩)
  | .func f => .func (.func f) #[] #[]
def putE (env : List (Nat × Value)) (dst : Option Tmp) (v : Value) : List (Nat × Value) :=
  match dst with
  | some d => (d, v) :: env
  | none => env
def setsE : List (Nat × Value) → List Value → List Value
  | [], a0 => a0
  | (d, x) :: r, a0 => (setsE r a0).set d x
def boolOf : Value → Option Bool
  | .bool b => some b
  | _ => none
def yieldedE (ops : List Oper) (env : List (Nat × Value)) (a0 : List Value) (j : Nat) : Option Bool :=
  match (ops[j]?).bind (·.dst) with
  | some t => boolOf (lookE env a0 t)
  | none => none
def dstsIn (n : Nat) : List Oper → Bool
  | [] => true
  | o :: r => (match o.dst with | some d => Nat.blt d n | none => true) && dstsIn n r
theorem length_setsE : ∀ (env : List (Nat × Value)) (a0 : List Value), (setsE env a0).length = a0.length
  | [], _ => rfl
  | (d, x) :: r, a0 => by simp [setsE, length_setsE r a0]
theorem lookE_eq : ∀ (env : List (Nat × Value)) (a0 : List Value) (t : Nat), (∀ p ∈ env, p.1 < a0.length) → lookE env a0 t = (setsE env a0).getD t undef
  | [], _, _, _ => rfl
  | (d, x) :: r, a0, t, h => by
    have hd := h (d, x) (by simp)
    have ih := lookE_eq r a0 t (fun p hp => h p (by simp [hp]))
    simp only [lookE, setsE]
    rw [List.getD_eq_getElem?_getD, List.getElem?_set]
    by_cases e : t = d
    · subst e
      have : Nat.beq t t = true := Nat.beq_refl t
      simp [length_setsE, hd]
    · have : Nat.beq t d = false := by
        cases hb : Nat.beq t d
        · rfl
        · exact absurd (Nat.eq_of_beq_eq_true hb) e
      rw [this, if_neg (fun h => e h.symm), ih, List.getD_eq_getElem?_getD]
      rfl
def OblsE (P : Program) (ops : List Oper) (T : Nat → Ty) (w0 : World) (a0 : List Value) (Q : List Value → World → Prop) (v : Nat → Value) : Nat → List Oper → List (Nat × Value) → Prop
  | i, [], env => ∀ w, Ext w0 w → (∀ j, j < i → (T j).p (v j) w) → Q (setsE env a0) w
  | i, o :: rest, env =>
    (∀ w, Ext w0 w → DepsHold T v w (aft o) → if Region.wanted o (yieldedE ops env a0) = true then Yld P (evalE env a0) o w (T i).p else (T i).p undef w) ∧
    OblsE P ops T w0 a0 Q v (i + 1) rest (putE env o.dst (v i))
theorem OblsE.obls {P : Program} {ops : List Oper} {T : Nat → Ty} {w0 : World} {a0 : List Value} {Q : Act → World → Prop} {v : Nat → Value} {ds : List Deferred} (hall : dstsIn a0.length ops = true) : ∀ (rest : List Oper) (i : Nat) (env : List (Nat × Value)),
    (∀ p ∈ env, p.1 < a0.length) → dstsIn a0.length rest = true → OblsE P ops T w0 a0 (fun l w => Q ⟨l.toArray, ds⟩ w) v i rest env → Obls P ops.toArray T w0 Q v i rest ⟨(setsE env a0).toArray, ds⟩
  | [], _, _, _, _, h => h
  | o :: rest, i, env, henv, hr, h => by
    simp only [dstsIn, Bool.and_eq_true] at hr
    have hev : evalL (setsE env a0) = evalE env a0 := by
      funext x
      cases x with
      | tmp t => exact (lookE_eq env a0 t henv).symm
      | _ => rfl
    have hin : ∀ (l : List Oper), dstsIn a0.length l = true → ∀ (j : Nat) (t : Tmp), (l[j]?).bind (·.dst) = some t → t < a0.length := by
      intro l
      induction l with
      | nil => intro _ j t hh; simp at hh
      | cons o' l ih =>
        intro hl j t hh
        simp only [dstsIn, Bool.and_eq_true] at hl
        cases j with
        | zero =>
          simp only [List.getElem?_cons_zero, Option.bind_some] at hh
          rw [hh] at hl
          simpa [Nat.blt_eq] using hl.1
        | succ j => exact ih hl.2 j t (by simpa using hh)
    have hyi : yieldedL ops (setsE env a0) = yieldedE ops env a0 := by
      funext j
      unfold yieldedL yieldedE
      cases hd : (ops[j]?).bind (·.dst) with
      | none => rfl
      | some t =>
        have ht := hin ops hall j t hd
        have hl : (setsE env a0)[t]? = some (lookE env a0 t) := by
          rw [lookE_eq env a0 t henv, List.getD_eq_getElem?_getD, List.getElem?_eq_getElem (by rw [length_setsE]; exact ht)]
          rfl
        rw [Option.bind_some, hl]
        show (match some (lookE env a0 t) with | some (Value.bool b) => some b | _ => none) = boolOf (lookE env a0 t)
        generalize lookE env a0 t = x
        cases x <;> rfl
    refine ⟨?_, ?_⟩
    · rw [eval_toArray, yielded_toArray, hev, hyi]
      exact h.1
    · rw [put_toArray]
      have e : putL (setsE env a0) o.dst (v i) = setsE (putE env o.dst (v i)) a0 := by
        cases hd : o.dst <;> rfl
      rw [e]
      refine OblsE.obls hall rest (i + 1) _ ?_ hr.2 h.2
      intro p hp
      unfold putE at hp
      cases hd : o.dst with
      | none => rw [hd] at hp; exact henv p hp
      | some d =>
        rw [hd] at hp
        simp only [List.mem_cons] at hp
        rcases hp with rfl | hp
        · rw [hd] at hr
          simpa [Nat.blt_eq] using hr.1
        · exact henv p hp
theorem dstsIn_take {n : Nat} : ∀ (l : List Oper) (k : Nat), dstsIn n l = true → dstsIn n (l.take k) = true
  | [], _, _ => by simp [dstsIn]
  | o :: l, 0, _ => rfl
  | o :: l, k + 1, h => by
    simp only [dstsIn, Bool.and_eq_true, List.take_succ_cons] at h ⊢
    exact ⟨h.1, dstsIn_take l k h.2⟩
theorem wp_drawn {P : Program} {Q : Exit → Act → World → Prop} {w0 : World} {a0 : List Value} {ds : List Deferred} {id : Nat} {ops : List Oper} (hm : P.follows .mixedOrders = true) (T : Nat → Ty) (hchk : regionChk ops = true) (hin : dstsIn a0.length ops = true)
    (h : ∀ v, OblsE P ops T w0 a0 (fun l w' => Q .normal ⟨l.toArray, ds⟩ w') v 0 ops []) : (Code.region id ops.toArray true).wp P Q ⟨a0.toArray, ds⟩ w0 :=
  wp_typed_draw hm T hchk fun v => OblsE.obls (Q := fun a w => Q .normal a w) hin ops 0 [] (by simp) hin (h v)
theorem wp_typed_tail_at {P : Program} {Q : Exit → Act → World → Prop} {w0 : World} {a0 : Act} {id : Nat} {l : List Oper} (n : Nat) (T : Nat → Ty) (hm : P.follows .mixedOrders = true) (hchk : regionChk l = true) (htail : tailChk l n = true) (hn : n ≤ l.length)
    (h : ∀ v, Obls P l.toArray T w0 (fun a' w' => wpList P l.toArray Q (l.drop n) a' w') v 0 (l.take n) a0) : (Code.region id l.toArray true).wp P Q a0 w0 := by
  have e : l.take n ++ l.drop n = l := List.take_append_drop n l
  have hl : (l.take n).length = n := by simp; omega
  have := wp_typed_tail (P := P) (l1 := l.take n) (l2 := l.drop n) (T := T) (w0 := w0) (a0 := a0) (Q := Q) (id := id) hm (by rw [e]; exact hchk) (by rw [e, hl]; exact htail) (by rw [e]; exact h)
  rwa [e] at this
theorem wp_drawn_tail {P : Program} {Q : Exit → Act → World → Prop} {w0 : World} {a0 : List Value} {ds : List Deferred} {id : Nat} {l : List Oper} (n : Nat) (T : Nat → Ty) (hm : P.follows .mixedOrders = true) (hchk : regionChk l = true) (htail : tailChk l n = true) (hn : n ≤ l.length) (hin : dstsIn a0.length l = true)
    (h : ∀ v, OblsE P l T w0 a0 (fun l' w' => wpList P l.toArray Q (l.drop n) ⟨l'.toArray, ds⟩ w') v 0 (l.take n) []) : (Code.region id l.toArray true).wp P Q ⟨a0.toArray, ds⟩ w0 := by
  refine wp_typed_tail_at n T hm hchk htail hn fun v => ?_
  have := h v
  refine OblsE.obls (Q := fun a w => wpList P l.toArray Q (l.drop n) a w) hin (l.take n) 0 [] (by simp) (dstsIn_take l n hin) this
end Go.Proofs.YtjhdamjbljafhaaGreatDoor
