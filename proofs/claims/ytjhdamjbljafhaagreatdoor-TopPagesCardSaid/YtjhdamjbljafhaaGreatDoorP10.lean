/- Maps of the call's own whose keys are IDs or pairs of a kind and a label: enough to know that nothing fails. A drawn region whose types may look at the values of the operations they wait for. A drawn region whose guards are known by their types alone. -/
import Derived.Test.YtjhdamjbljafhaaGreatDoorP09
import Derived.MapKept
import Derived.Maps.OwnSet
import Derived.WideKeyRuns
import Derived.Test.YtjhdamjbljafhaaGreatDoorP03
namespace Go.Proofs.YtjhdamjbljafhaaGreatDoor
open Go.RowKit
structure GKey where
  k : Int
  l : ByteArray
deriving DecidableEq
def GKey.cells (x : GKey) : List Value := [.int .i64 x.k, .string x.l]
theorem checkId (w : World) (b : Bool) (x : GId) : (Instr.checkKey b 10000 23 (.agg x.cells.toArray)).run Tryz.prog w = .ok () w := by
  have u := Tryz.underlying23
  have v := Tryz.underlying3
  have hk := fun (z : Int) => MapKept.run_checkKey (P := Tryz.prog) (w := w) (kt := 3) v (k := .int .i64 z) (by simp [MapKept.IsKey]) b 9998
  obtain ⟨a, i, n⟩ := x
  simp only [GId.cells]
  rw [show (10000 : Nat) = (9998 + 1) + 1 from rfl, Instr.checkKey]
  generalize 9998 + 1 = N at hk ⊢
  simp only [Sem.run_bind, run_underlying u, Result.andThen_ok]
  go_simp
theorem checkCl (w : World) (b : Bool) (x : GKey) : (Instr.checkKey b 10000 197 (.agg x.cells.toArray)).run Tryz.prog w = .ok () w := by
  have u := Tryz.underlying197
  have v := Tryz.underlying3
  have v2 := Tryz.underlying9
  have hk := fun (z : Int) => MapKept.run_checkKey (P := Tryz.prog) (w := w) (kt := 3) v (k := .int .i64 z) (by simp [MapKept.IsKey]) b 9998
  have hk2 := fun (z : ByteArray) => MapKept.run_checkKey (P := Tryz.prog) (w := w) (kt := 9) v2 (k := .string z) (by simp [MapKept.IsKey]) b 9998
  obtain ⟨a, i⟩ := x
  simp only [GKey.cells]
  rw [show (10000 : Nat) = (9998 + 1) + 1 from rfl, Instr.checkKey]
  generalize 9998 + 1 = N at hk hk2 ⊢
  simp only [Sem.run_bind, run_underlying u, Result.andThen_ok]
  go_simp
theorem eqIdK (w : World) (x y : GId) : (Op.equal 23 (.agg x.cells.toArray) (.agg y.cells.toArray)).run Tryz.prog w = .ok (decide (x = y)) w := by
  obtain ⟨a, b, c⟩ := x
  obtain ⟨a', b', c'⟩ := y
  have h := eqId0 a b c a' b' c' w
  simp only [GId.cells, Op.equal, Op.maxDepth, h]
theorem eqCl0 (a : Int) (b : ByteArray) (a' : Int) (b' : ByteArray) (w : World) : (Op.equalIn 10000 197 (.agg #[.int .i64 a, .string b]) (.agg #[.int .i64 a', .string b'])).run Tryz.prog w = .ok (decide ((⟨a, b⟩ : GKey) = ⟨a', b'⟩)) w := by
  have u3 := Tryz.underlying3
  have u4 := Tryz.underlying9
  have hS : Tryz.prog.underlying 197 = some (.struct (Tryz.prog.fieldsOf 197)) := by kernel_rfl
  rw [show (10000 : Nat) = 9999 + 1 from rfl, run_equalIn_agg w 9999 197 _ _ hS (by kernel_rfl)]
  simp only [Program.fieldsOf, Tryz.underlying197]
  go_simp
  have hb : (b.toList = b'.toList) ↔ b = b' := ⟨fun h => bytes_inj (by simpa only [ByteArray.toList_eq] using h), fun h => by rw [h]⟩
  by_cases h1 : a = a' <;> by_cases h2 : b = b' <;> simp [h1, h2, hb]
theorem eqClK (w : World) (x y : GKey) : (Op.equal 197 (.agg x.cells.toArray) (.agg y.cells.toArray)).run Tryz.prog w = .ok (decide (x = y)) w := by
  obtain ⟨a, b⟩ := x
  obtain ⟨a', b'⟩ := y
  have h := eqCl0 a b a' b' w
  simp only [GKey.cells, Op.equal, Op.maxDepth, h]
structure KOk {κ : Type} [DecidableEq κ] (mt kt : TypeId) (K : κ → Value) : Prop where
  ht : Tryz.prog.underlying mt = some (.map kt 4)
  wide : (match Tryz.prog.underlying kt with | some (.array _ _) | some (.struct _) => true | _ => false) = true
  chk : ∀ (w : World) (b : Bool) (x : κ), (Instr.checkKey b 10000 kt (K x)).run Tryz.prog w = .ok () w
  eq : ∀ (w : World) (x y : κ), (Op.equal kt (K x) (K y)).run Tryz.prog w = .ok (decide (x = y)) w
  same : ∀ x : κ, Instr.sameBits 10000 (K x) (K x) = true
def MapB {κ : Type} (K : κ → Value) (B : Nat) (w : World) : Prop := ∃ es clock, w.heap[B]? = some (.map es clock) ∧ ∀ e ∈ es.toList, (∃ x, e.key = K x) ∧ ∃ b, e.val = .bool b
section
variable {κ : Type} {K : κ → Value} {w w' : World} {B : Nat}
theorem MapB.made (w : World) : MapB K w.heap.size (w.alloc (.map #[] 0)) := ⟨#[], 0, heap_alloc_new _ _, by simp⟩
theorem MapB.lt (h : MapB K B w) : B < w.heap.size := by
  obtain ⟨es, clock, h1, _⟩ := h
  exact block_lt h1
theorem MapB.keep (h : MapB K B w) (hb : w'.heap[B]? = w.heap[B]?) : MapB K B w' := by
  obtain ⟨es, clock, h1, h2⟩ := h
  exact ⟨es, clock, hb.trans h1, h2⟩
theorem MapB.ext (h : MapB K B w) (he : Ext w w') : MapB K B w' := h.keep (he.block h.lt)
variable [DecidableEq κ] {mt kt : TypeId}
theorem run_asking (hk : KOk mt kt K) (w : World) (x : κ) : ∀ (es : List MapEntry) (i : Nat), (∀ e ∈ es, (∃ y, e.key = K y) ∧ ∃ b, e.val = .bool b) →
    (Instr.findAsking kt (K x) es i).run Tryz.prog w = .ok none w ∨ ∃ j b, (Instr.findAsking kt (K x) es i).run Tryz.prog w = .ok (some (i + j, .bool b)) w ∧ ∃ e, es[j]? = some e ∧ e.key = K x
  | [], i, _ => .inl rfl
  | e :: es, i, h => by
    obtain ⟨⟨y, hy⟩, b, hb⟩ := h e (by simp)
    have he := hk.eq w x y
    by_cases hxy : x = y
    · refine .inr ⟨0, b, ?_, e, rfl, by rw [hy, hxy]⟩
      rw [Instr.findAsking, Sem.run_bind, hy, he, Result.andThen_ok, decide_eq_true hxy, hb]
      rfl
    · have hr : (Instr.findAsking kt (K x) (e :: es) i).run Tryz.prog w = (Instr.findAsking kt (K x) es (i + 1)).run Tryz.prog w := by
        rw [Instr.findAsking, Sem.run_bind, hy, he, Result.andThen_ok, decide_eq_false hxy]
        rfl
      rw [hr]
      rcases run_asking hk w x es (i + 1) (fun e he => h e (by simp [he])) with h1 | ⟨j, b, h1, e', h2, h3⟩
      · exact .inl h1
      · exact .inr ⟨j + 1, b, by rw [h1, show i + 1 + j = i + (j + 1) by omega], e', by simpa using h2, h3⟩
set_option maxRecDepth 100000 in
theorem MapB.look (hk : KOk mt kt K) (h : MapB K B w) (x : κ) : ∃ b, (Instr.lookup mt (.map (some B)) (K x) false).run Tryz.prog w = .ok (.bool b) w := by
  obtain ⟨es, clock, h1, h2⟩ := h
  have hz : (zeroValue 4).run Tryz.prog w = .ok (.bool false) w := by
    have u := Tryz.underlying4
    go_simp
  rcases run_asking hk w x es.toList 0 h2 with hf | ⟨j, b, hf, -⟩
  · refine ⟨false, ?_⟩
    simp only [Instr.lookup, Sem.run_bind, run_underlying hk.ht, MapKept.run_getObj_map h1, hk.chk w, run_findKey_eq w hk.wide, hf, Result.andThen, hz, Sem.run_pure]
    simp only [Bool.false_eq_true, ↓reduceIte]
  · exact ⟨b, by simp [Instr.lookup, run_underlying hk.ht, MapKept.run_getObj_map h1, hk.chk w, run_findKey_eq w hk.wide, hf, Result.andThen]⟩
set_option maxRecDepth 100000 in
theorem MapB.set (hk : KOk mt kt K) (h : MapB K B w) (x : κ) (c : Bool) : ∃ w', (Instr.mapUpdate mt (.map (some B)) (K x) (.bool c)).run Tryz.prog w = .ok () w' ∧ MapB K B w' ∧ (∀ j, j ≠ B → w'.heap[j]? = w.heap[j]?) ∧ w'.heap.size = w.heap.size ∧ w'.os = w.os ∧ w'.tape = w.tape ∧ w'.output = w.output := by
  obtain ⟨es, clock, h1, h2⟩ := h
  rcases run_asking hk w x es.toList 0 h2 with hf | ⟨j, b, hf, e, he, hek⟩
  · refine ⟨{ w with heap := w.heap.setIfInBounds B (.map (es.push ⟨K x, .bool c, clock⟩) (clock + 1)) }, ?_, ⟨_, _, (MapKept.heap_set h1).1, ?_⟩, fun j hj => (MapKept.heap_set h1).2 j hj, by simp, rfl, rfl, rfl⟩
    · simp [Instr.mapUpdate, run_underlying hk.ht, MapKept.run_getObj_map h1, hk.chk w, run_findKey_eq w hk.wide, hf, MapKept.run_setObj_map _ h1, Result.andThen]
    · intro e he
      simp only [Array.toList_push, List.mem_append, List.mem_singleton] at he
      rcases he with he | rfl
      · exact h2 e he
      · exact ⟨⟨x, rfl⟩, c, rfl⟩
  · have hj : es[j]? = some e := by simpa using he
    refine ⟨{ w with heap := w.heap.setIfInBounds B (.map (es.modify j fun e => { e with key := K x, val := .bool c }) clock) }, ?_, ⟨_, _, (MapKept.heap_set h1).1, ?_⟩, fun j hj => (MapKept.heap_set h1).2 j hj, by simp, rfl, rfl, rfl⟩
    · simp [Instr.mapUpdate, run_underlying hk.ht, MapKept.run_getObj_map h1, hk.chk w, run_findKey_eq w hk.wide, hf, hj, hek, Instr.keyThatStays, hk.same x, MapKept.run_setObj_map _ h1, Result.andThen]
    · intro e' he'
      rw [Array.mem_toList_iff, Array.mem_iff_getElem] at he'
      obtain ⟨n, hn, rfl⟩ := he'
      rw [Array.getElem_modify]
      split
      · exact ⟨⟨x, rfl⟩, c, rfl⟩
      · exact h2 _ (by simp)
variable {ops : Array Oper} {rest : List Oper} {o : Oper} {a : Act} {Q : Exit → Act → World → Prop}
set_option maxRecDepth 100000 in
theorem wpList_lookB (hk : KOk mt kt K) (hg : o.guard = none) (m x : Operand) (hop : o.op = .lookup mt m x false) (h : MapB K B w) (hm : a.eval m = .map (some B)) (k : κ) (hx : a.eval x = K k)
    (hK : ∀ b : Bool, wpList Tryz.prog ops Q rest (a.put o.dst (.bool b)) w) : wpList Tryz.prog ops Q (o :: rest) a w := by
  obtain ⟨b, hb⟩ := h.look hk k
  refine wpList_plain hg fun K' hK' => ?_
  unfold Oper.wp
  simp [execOp, hop, hm, hx, hb, Result.andThen]
  exact hK' _ _ (hK b)
set_option maxRecDepth 100000 in
theorem wpList_setB (hk : KOk mt kt K) (hg : o.guard = none) (m x v : Operand) (hop : o.op = .mapUpdate mt m x v) (h : MapB K B w) (hm : a.eval m = .map (some B)) (k : κ) (hx : a.eval x = K k) (c : Bool) (hv : a.eval v = .bool c)
    (hK : ∀ w', MapB K B w' → (∀ j, j ≠ B → w'.heap[j]? = w.heap[j]?) → w'.heap.size = w.heap.size → w'.os = w.os → w'.tape = w.tape → w'.output = w.output → wpList Tryz.prog ops Q rest (a.put o.dst undef) w') : wpList Tryz.prog ops Q (o :: rest) a w := by
  obtain ⟨w', h1, h2, h3, h4, h5, h6, h7⟩ := h.set hk k c
  refine wpList_plain hg fun K' hK' => ?_
  unfold Oper.wp
  simp [execOp, hop, hm, hx, hv, h1, Result.andThen]
  exact hK' _ _ (hK w' h2 h3 h4 h5 h6 h7)
end
theorem kId : KOk 198 23 (fun x : GId => Value.agg x.cells.toArray) := ⟨Tryz.underlying198, by simp only [Tryz.underlying23], checkId, eqIdK, fun x => by obtain ⟨a, b, c⟩ := x; simp [GId.cells, Instr.sameBits]⟩
theorem kCl : KOk 195 197 (fun x : GKey => Value.agg x.cells.toArray) := ⟨Tryz.underlying195, by simp only [Tryz.underlying197], checkCl, eqClK, fun x => by obtain ⟨a, b⟩ := x; simp [GKey.cells, Instr.sameBits, MapKept.bytes_beq]⟩
end Go.Proofs.YtjhdamjbljafhaaGreatDoor
namespace Go.Proofs.YtjhdamjbljafhaaGreatDoor
open Go.RowKit
def Looks (ops : List Oper) (T : (Nat → Value) → Nat → Ty) : Prop := ∀ (v v' : Nat → Value) (j : Nat), (∀ k, Anc ops j k → v k = v' k) → T v j = T v' j
theorem looks_one {ops : List Oper} (T0 : Nat → Ty) (i k : Nat) (F : Value → Ty) (h : ((ancs ops).getD i []).contains k = true) : Looks ops (fun v j => bif Nat.beq j i then F (v k) else T0 j) := by
  intro v v' j hv
  cases hb : Nat.beq j i with
  | false => simp only [hb, cond_false]
  | true =>
    have := Nat.eq_of_beq_eq_true hb
    subst this
    simp only [hb, cond_true]
    rw [hv k (ancs_spec (by simpa using h))]
theorem Anc.lt {ops : List Oper} (hc : Chk ops) {i j : Nat} (h : Anc ops i j) : j < i := by
  induction h with
  | one ho he => exact hc.edge _ _ ho _ he
  | more ho he _ ih => exact Nat.lt_trans ih (hc.edge _ _ ho _ he)
theorem Anc.has {ops : List Oper} {i j : Nat} (h : Anc ops i j) : ∃ o, ops[i]? = some o := by
  cases h with
  | one ho _ => exact ⟨_, ho⟩
  | more ho _ _ => exact ⟨_, ho⟩
theorem Stand.shift {ops : List Oper} {T : (Nat → Value) → Nat → Ty} {w0 : World} {a0 : Act} (hc : Chk ops) (hd : Looks ops T) {listed : Array Bool} {a a' : Act} {w w' : World} {v v' : Nat → Value} (h : Stand ops (T v) w0 a0 listed a w v) {i : Nat} (hi : listed.getD i false = false)
    (hv : ∀ j, j ≠ i → v' j = v j) (hs : Stand ops (T v) w0 a0 (listed.setIfInBounds i true) a' w' v') : Stand ops (T v') w0 a0 (listed.setIfInBounds i true) a' w' v' := by
  refine ⟨hs.size, hs.down, hs.ext, fun j hj => ?_, hs.fr⟩
  have e : T v' j = T v j := by
    refine hd v' v j fun k hk => hv k fun hki => ?_
    subst hki
    obtain ⟨o, ho⟩ := hk.has
    by_cases hji : j = k
    · have := hk.lt hc
      omega
    · have hl : listed.getD j false = true := by
        simp only [Array.getD_eq_getD_getElem?, Array.getElem?_setIfInBounds] at hj ⊢
        rwa [if_neg (fun h => hji h.symm)] at hj
      have := h.anc hk ⟨o, ho, h.down j o hl ho⟩
      rw [hi] at this
      cases this
  rw [e]
  exact hs.ty j hj
section
variable {P : Program} {l1 l2 : List Oper} {T : (Nat → Value) → Nat → Ty} {w0 : World} {a0 : Act} {Q : Exit → Act → World → Prop}
theorem wpAny_headV (hc : Chk (l1 ++ l2)) (hd : Looks (l1 ++ l2) T) (ht : ∀ k j, l1.length ≤ k → k < (l1 ++ l2).length → j < k → Anc (l1 ++ l2) k j)
    (ho : ∀ v, Obls P (l1 ++ l2).toArray (T v) w0 (fun a' w' => wpOps P (l1 ++ l2).toArray Q (List.range' l1.length l2.length) a' w') v 0 l1 a0) : ∀ (fuel : Nat) (listed : Array Bool) (a : Act) (w : World) (v : Nat → Value),
    (undone l1.length listed).length + l2.length ≤ fuel → (∀ j, l1.length ≤ j → listed.getD j false = false) → Stand (l1 ++ l2) (T v) w0 a0 listed a w v → wpAny P .any (l1 ++ l2).toArray Q fuel listed a w := by
  have all : ∀ (fuel : Nat) (listed : Array Bool) (a : Act) (w : World) (v : Nat → Value), l2.length ≤ fuel → (∀ j, l1.length ≤ j → listed.getD j false = false) → (∀ i, i < l1.length → listed.getD i false = true) →
      Stand (l1 ++ l2) (T v) w0 a0 listed a w v → wpAny P .any (l1 ++ l2).toArray Q fuel listed a w := by
    intro fuel listed a w v hf hm hall h
    refine wpAny_forced hc ht l2.length l1.length fuel listed a w (by simp) (Nat.le_refl _) hf h.size (fun j => ?_) ?_
    · rcases Nat.lt_or_ge j l1.length with hj | hj
      · rw [hall j hj]; simp [hj]
      · rw [hm j hj]; simp; omega
    · have := (Obls_at l1 0 a0 _ (ho v)).2 w h.ext (fun j hj => h.ty j (hall j (by simpa using hj)))
      rw [h.fr, putsL_append, putsL_congr (L' := fun _ => true) (v' := v) l1 0 a0 (fun j _ hj => ⟨hall j (by simpa using hj), fun _ => rfl⟩),
        putsL_congr (L' := fun _ => false) (v' := v) l2 _ _ (fun j hj _ => ⟨hm j (by simpa using hj), fun _ => rfl⟩)]
      have h4 : ∀ (l : List Oper) (k : Nat) (b : Act), putsL (fun _ => false) v k l b = b := by
        intro l
        induction l with
        | nil => intro k b; rfl
        | cons x l ih => intro k b; simp [putsL, ih]
      rw [h4]
      exact this
  have notyet : ∀ (listed : Array Bool), undone l1.length listed = [] → ∀ i, i < l1.length → listed.getD i false = true := fun listed hu i hi => by
    cases hL : listed.getD i false with
    | true => rfl
    | false =>
      have : i ∈ undone l1.length listed := by simp only [undone, List.mem_filter, List.mem_range, hi, hL, Bool.not_false, and_self]
      rw [hu] at this
      cases this
  intro fuel
  induction fuel with
  | zero =>
    intro listed a w v hf hm h
    exact all 0 listed a w v (by omega) hm (notyet listed (List.eq_nil_of_length_eq_zero (by omega))) h
  | succ fuel ih =>
    intro listed a w v hf hm h
    cases hu : undone l1.length listed with
    | nil => exact all _ listed a w v (by omega) hm (notyet listed hu) h
    | cons x r =>
      have hx : x < l1.length ∧ listed.getD x false = false := by
        have : x ∈ undone l1.length listed := by rw [hu]; simp
        simpa [undone] using this
      have hlen : l1.length ≤ (l1 ++ l2).length := by simp
      refine ⟨fun hr => ?_, fun i hi => ?_⟩
      · have := listed_all hc h hr x (by omega)
        rw [hx.2] at this
        cases this
      · obtain ⟨h1, h2, o, h3, h4⟩ := mem_ready.1 hi
        have hb : ∀ e ∈ aft o, listed.getD e.on false = true := fun e he => h4 e (mem_aft.1 he).1 (mem_aft.1 he).2
        rcases Nat.lt_or_ge i l1.length with him | him
        · have h3' : l1[i]? = some o := by rw [← h3, List.getElem?_append_left him]
          have := (Obls_at l1 0 a0 _ (ho v)).1 i o h3'
          rw [Nat.zero_add] at this
          have hlf : listed.getD i false = false := by
            have hs := h.size
            simp only [Array.getD_eq_getD_getElem?] at h2 ⊢
            rw [Array.getElem?_eq_getElem (by omega)] at h2 ⊢
            simpa using h2
          have htk : (l1 ++ l2).take i = l1.take i := List.take_append_of_le_length (by omega)
          rw [← htk] at this
          refine step_typed hc h h3 h2 hb this fun a' w' v' hv hs => ?_
          have hund := undone_set (n := l1.length) (by rw [h.size]; exact h1) him hlf
          refine ih _ a' w' v' (by omega) (fun j hj => ?_) (h.shift hc hd hlf hv hs)
          have := hm j hj
          simp only [Array.getD_eq_getD_getElem?, Array.getElem?_setIfInBounds] at this ⊢
          rwa [if_neg (by omega)]
        · have := h.anc (ht i x him h1 (by omega)) ⟨o, h3, hb⟩
          rw [hx.2] at this
          cases this
theorem wp_typed_tailV {id : Nat} (hm : P.follows .mixedOrders = true) (T : (Nat → Value) → Nat → Ty) (hd : Looks (l1 ++ l2) T) (hchk : regionChk (l1 ++ l2) = true) (htail : tailChk (l1 ++ l2) l1.length = true)
    (h : ∀ v, Obls P (l1 ++ l2).toArray (T v) w0 (fun a' w' => wpList P (l1 ++ l2).toArray Q l2 a' w') v 0 l1 a0) :
    (Code.region id (l1 ++ l2).toArray true).wp P Q a0 w0 := by
  have e : wpOps P (l1 ++ l2).toArray Q (List.range' l1.length l2.length) = wpList P (l1 ++ l2).toArray Q l2 := wpOps_eq_wpList l2 l1.length (fun j => by rw [List.getElem?_toArray, List.getElem?_append_right (by omega)]; congr 1; omega)
  refine wp_region_any hm (wpAny_headV (regionChk_spec hchk) hd (tailChk_spec htail) (by rw [e]; exact h) _ _ _ _ (fun _ => undef) ?_ (fun j _ => ?_) (by
    have := stand_start (ops := l1 ++ l2) (T := T (fun _ => undef)) (w0 := w0) (a0 := a0) (w := w0.drew) (Ext.drew (Ext.refl w0)) (fun _ => undef)
    simpa using this))
  · have : (undone l1.length (Array.replicate (l1 ++ l2).toArray.size false)).length ≤ l1.length := by
      unfold undone
      refine Nat.le_trans (List.length_filter_le _ _) ?_
      simp
    simp only [List.size_toArray, List.length_append] at this ⊢
    omega
  · simp only [Array.getD_eq_getD_getElem?, Array.getElem?_replicate]
    split <;> rfl
end
theorem wp_drawn_tailV {P : Program} {Q : Exit → Act → World → Prop} {w0 : World} {a0 : List Value} {ds : List Deferred} {id : Nat} {l : List Oper} (n : Nat) (T : (Nat → Value) → Nat → Ty) (hd : Looks l T) (hm : P.follows .mixedOrders = true) (hchk : regionChk l = true) (htail : tailChk l n = true) (hn : n ≤ l.length) (hin : dstsIn a0.length l = true)
    (h : ∀ v, OblsE P l (T v) w0 a0 (fun l' w' => wpList P l.toArray Q (l.drop n) ⟨l'.toArray, ds⟩ w') v 0 (l.take n) []) : (Code.region id l.toArray true).wp P Q ⟨a0.toArray, ds⟩ w0 := by
  have e : l.take n ++ l.drop n = l := List.take_append_drop n l
  have hl : (l.take n).length = n := by simp; omega
  have := wp_typed_tailV (P := P) (l1 := l.take n) (l2 := l.drop n) (w0 := w0) (a0 := ⟨a0.toArray, ds⟩) (Q := Q) (id := id) hm T (by rw [e]; exact hd) (by rw [e]; exact hchk) (by rw [e, hl]; exact htail) (by
    rw [e]
    intro v
    exact OblsE.obls (Q := fun a w => wpList P l.toArray Q (l.drop n) a w) hin (l.take n) 0 [] (by simp) (dstsIn_take l n hin) (h v))
  rwa [e] at this
end Go.Proofs.YtjhdamjbljafhaaGreatDoor
namespace Go.Proofs.YtjhdamjbljafhaaGreatDoor
open Go.RowKit
def TGu (p : Prop) (T : Ty) : Ty := ⟨fun v w => (p ∧ T.p v w) ∨ (¬ p ∧ v = undef), fun _ _ _ he h => h.imp (fun ⟨a, b⟩ => ⟨a, T.mono _ _ _ he b⟩) id⟩
theorem TGu.of {p : Prop} {T : Ty} {v : Value} {w : World} (h : (TGu p T).p v w) (hp : p) : T.p v w := h.elim (fun h => h.2) (fun h => absurd hp h.1)
theorem TGu.bool {p : Prop} {T : Ty} {v : Value} {w : World} {b : Bool} (h : (TGu p T).p v w) (hv : v = .bool b) : p ∧ T.p v w := h.elim id (fun h => by rw [h.2] at hv; cases hv)
def gfind : List (Nat × Nat × Bool) → Nat → Option (Nat × Bool)
  | [], _ => none
  | (i, g, c) :: r, j => bif Nat.beq i j then some (g, c) else gfind r j
theorem gfind_mem : ∀ {gs : List (Nat × Nat × Bool)} {j g : Nat} {c : Bool}, gfind gs j = some (g, c) → (j, g, c) ∈ gs
  | (i, g', c') :: r, j, g, c, h => by
    unfold gfind at h
    cases hb : Nat.beq i j with
    | true =>
      have := Nat.eq_of_beq_eq_true hb
      rw [hb, cond_true] at h
      cases h
      subst this
      simp
    | false =>
      rw [hb, cond_false] at h
      exact List.mem_cons_of_mem _ (gfind_mem h)
def gdT (gs : List (Nat × Nat × Bool)) (T0 : Nat → Ty) (v : Nat → Value) (j : Nat) : Ty :=
  match gfind gs j with
  | some (g, c) => TGu (v g = .bool c) (T0 j)
  | none => T0 j
theorem looks_gd {ops : List Oper} (gs : List (Nat × Nat × Bool)) (T0 : Nat → Ty) (h : (gs.all fun x => ((ancs ops).getD x.1 []).contains x.2.1) = true) : Looks ops (gdT gs T0) := by
  intro v v' j hv
  unfold gdT
  cases hf : gfind gs j with
  | none => rfl
  | some q =>
    obtain ⟨g, c⟩ := q
    have hm := gfind_mem hf
    have := List.all_eq_true.1 h _ hm
    simp only at this
    simp only [hv g (ancs_spec (by simpa using this))]
theorem yields_eq {ops : List Oper} {env : List (Nat × Value)} {a0 : List Value} {j t : Nat} {x : Value} (hd : (ops[j]?).bind (·.dst) = some t) (hx : lookE env a0 t = x) : yieldedE ops env a0 j = boolOf x := by
  unfold yieldedE
  rw [hd]
  simp only [hx]
theorem Yld.gu {P : Program} {ρ : Operand → Value} {o : Oper} {w : World} {p : Prop} {T : Ty} (hp : p) (h : Yld P ρ o w T.p) : Yld P ρ o w (TGu p T).p := h.imp fun _ _ h => .inl ⟨hp, h⟩
theorem ob_gv {P : Program} {ρ : Operand → Value} {o : Oper} {w : World} {y : Nat → Option Bool} {T : Ty} {x : Value} (g : Nat) (c : Bool) (hg : o.guard = some (g, c)) (hy : y g = boolOf x) (h : x = .bool c → Yld P ρ o w T.p) :
    if Region.wanted o y = true then Yld P ρ o w (TGu (x = .bool c) T).p else (TGu (x = .bool c) T).p undef w := by
  by_cases hx : x = .bool c
  · subst hx
    refine ob_guard g c c hg hy (fun _ => Yld.gu rfl (h rfl)) (fun e => ?_)
    cases c <;> cases e
  · have hw : Region.wanted o y = false := by
      unfold Region.wanted
      rw [hg]
      simp only [hy]
      cases x with
      | bool b => 
        have : b ≠ c := fun e => hx (by rw [e])
        cases b <;> cases c <;> first | exact absurd rfl this | rfl
      | _ => rfl
    rw [hw]
    simp only [Bool.false_eq_true, if_false]
    exact .inr ⟨hx, rfl⟩
theorem wp_drawn_gv {P : Program} {Q : Exit → Act → World → Prop} {w0 : World} {a0 : List Value} {ds : List Deferred} {id : Nat} {l : List Oper} (gs : List (Nat × Nat × Bool)) (T0 : Nat → Ty) (hgs : (gs.all fun x => ((ancs l).getD x.1 []).contains x.2.1) = true) (hm : P.follows .mixedOrders = true) (hchk : regionChk l = true) (hin : dstsIn a0.length l = true) (n : Nat) (hn : n = l.length)
    (htail : tailChk l n = true) (h : ∀ v, OblsE P l (gdT gs T0 v) w0 a0 (fun l' w' => Q .normal ⟨l'.toArray, ds⟩ w') v 0 l []) : (Code.region id l.toArray true).wp P Q ⟨a0.toArray, ds⟩ w0 := by
  subst hn
  refine wp_drawn_tailV l.length (gdT gs T0) (looks_gd gs T0 hgs) hm hchk htail (Nat.le_refl _) hin fun v => ?_
  rw [List.drop_length, List.take_length]
  exact h v
def TBoolIf (P : Prop) : Ty := ⟨fun v _ => ∃ b : Bool, v = .bool b ∧ (b = true → P), fun _ _ _ _ h => h⟩
def TBoolIfN (P : Prop) : Ty := ⟨fun v _ => ∃ b : Bool, v = .bool b ∧ (b = false → P), fun _ _ _ _ h => h⟩
theorem TBoolIf.yes {P : Prop} {v : Value} {w : World} (h : (TBoolIf P).p v w) (hv : v = .bool true) : P := by
  obtain ⟨b, rfl, h⟩ := h
  cases hv
  exact h rfl
theorem yld_andIf {P : Program} {ρ : Operand → Value} {o : Oper} {w : World} (x y : Operand) (ho : o.op = .pick x y (.const (.bool false))) (hf : ρ (.const (.bool false)) = .bool false) {A B : Prop} (hx : (TBoolIf A).p (ρ x) w) (hy : ρ x = .bool true → (TBoolIf B).p (ρ y) w) : Yld P ρ o w (TBoolIf (A ∧ B)).p := by
  obtain ⟨b, hb, ha⟩ := hx
  cases b with
  | false => exact yld_pick (c := .bool false) x y _ ho false hb (fun h => by cases h) (fun _ => hf) ⟨false, rfl, fun h => by cases h⟩
  | true =>
    obtain ⟨c, hc, hB⟩ := hy hb
    exact yld_pick (c := .bool c) x y _ ho true hb (fun _ => hc) (fun h => by cases h) ⟨c, rfl, fun h => ⟨ha rfl, hB h⟩⟩
end Go.Proofs.YtjhdamjbljafhaaGreatDoor
