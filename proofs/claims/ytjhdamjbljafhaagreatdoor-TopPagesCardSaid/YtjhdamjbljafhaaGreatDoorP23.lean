/- As EngT; what stands ahead of the turning operation gets its new type from that operation's own proof. -/
import Derived.Test.YtjhdamjbljafhaaGreatDoorP22
namespace Go.Proofs.YtjhdamjbljafhaaGreatDoor
open Go.RowKit
section
variable {P : Program} {ops : List Oper} {T T2 : Nat → Ty} {w0 : World} {a0 : Act}
theorem step_turnU {Q : Exit → Act → World → Prop} {K : Act → World → Prop} (hc : Chk ops) {listed : Array Bool} {a : Act} {w : World} {v : Nat → Value} (h : Stand ops T w0 a0 listed a w v) {i : Nat} {o : Oper} (ho : ops[i]? = some o) (hg : o.guard = none)
    (hi : listed.getD i true = false) (ha : ∀ e ∈ aft o, listed.getD e.on false = true) (early : List Nat) (hT : ∀ j, j ≠ i → early.contains j = false → ∀ x w w', (T j).p x w → (T2 j).p x w')
    (hob : YldW P (putsL (fun _ => true) v 0 (ops.take i) a0).eval o w0 w fun x w' => (T2 i).p x w' ∧ ∀ j, early.contains j = true → (T2 j).p (v j) w')
    (hK : ∀ a' w' v', (∀ j, j ≠ i → v' j = v j) → Stand ops T2 w0 a0 (listed.setIfInBounds i true) a' w' v' → K a' w') : wpOp P ops.toArray Q i K a w := by
  have hlt : i < ops.length := (List.getElem?_eq_some_iff.1 ho).1
  have hif : listed.getD i false = false := by
    have hs := h.size
    simp only [Array.getD_eq_getD_getElem?] at hi ⊢
    rw [Array.getElem?_eq_getElem (by omega)] at hi ⊢
    simpa using hi
  have hread : ∀ t, t ∈ o.looksAt ops.toArray → a.tmps[t]? = (putsL (fun _ => true) v 0 (ops.take i) a0).tmps[t]? := fun t ht => frame_read hc h ho hif ha (.inl ht)
  have hLi : ∀ j, (listed.setIfInBounds i true).getD j false = if j = i then true else listed.getD j false := by
    have hsz : i < listed.size := by rw [h.size]; exact hlt
    intro j
    simp only [Array.getD_eq_getD_getElem?, Array.getElem?_setIfInBounds]
    by_cases hji : j = i
    · subst hji; simp [hsz]
    · rw [if_neg (fun hh => hji hh.symm), if_neg hji]
  have next : ∀ (x : Value) (w' : World), Ext w0 w' → ((T2 i).p x w' ∧ ∀ j, early.contains j = true → (T2 j).p (v j) w') → K (a.put o.dst x) w' := by
    rintro x w' he ⟨hx, hearl⟩
    have d1 : ∀ (j : Nat) (o' : Oper), (listed.setIfInBounds i true).getD j false = true → ops[j]? = some o' → ∀ e ∈ aft o', (listed.setIfInBounds i true).getD e.on false = true := by
      intro j o' hj ho' e he'
      rw [hLi] at hj ⊢
      by_cases hji : j = i
      · subst hji
        rw [ho] at ho'
        cases ho'
        split
        · rfl
        · exact ha e he'
      · rw [if_neg hji] at hj
        split
        · rfl
        · exact h.down j o' hj ho' e he'
    have d2 : ∀ j, (listed.setIfInBounds i true).getD j false = true → (T2 j).p (if j = i then x else v j) w' := by
      intro j hj
      rw [hLi] at hj
      by_cases hji : j = i
      · subst hji; simpa using hx
      · rw [if_neg hji] at hj ⊢
        cases hej : early.contains j with
        | true => exact hearl j hej
        | false => exact hT j hji hej _ _ _ (h.ty j hj)
    have d3 : a.put o.dst x = putsL (fun j => (listed.setIfInBounds i true).getD j false) (fun j => if j = i then x else v j) 0 ops a0 := by
      rw [h.fr]
      have hlen : (ops.take i).length = i := by simp; omega
      have hdrop : ops.drop i = o :: ops.drop (i + 1) := by
        rw [List.drop_eq_getElem_cons hlt]
        congr 1
        have := List.getElem?_eq_getElem hlt
        rw [ho] at this
        exact (Option.some.inj this).symm
      have spl : ∀ (L : Nat → Bool) (u : Nat → Value), putsL L u 0 ops a0 = putsL L u (i + 1) (ops.drop (i + 1)) (if L i then (putsL L u 0 (ops.take i) a0).put o.dst (u i) else putsL L u 0 (ops.take i) a0) := by
        intro L u
        conv => lhs; rw [← List.take_append_drop i ops, putsL_append, hlen, hdrop]
        simp only [putsL, Nat.zero_add]
      rw [spl, spl]
      have e1 : putsL (fun j => (listed.setIfInBounds i true).getD j false) (fun j => if j = i then x else v j) 0 (ops.take i) a0 = putsL (fun j => listed.getD j false) v 0 (ops.take i) a0 :=
        putsL_congr _ _ _ fun j _ hj => by
          have : j ≠ i := by rw [hlen] at hj; omega
          exact ⟨by rw [hLi, if_neg this], fun _ => by simp [this]⟩
      rw [e1, hLi, if_pos rfl, hif]
      simp only [if_true, Bool.false_eq_true, if_false]
      rw [← putsL_put]
      · refine putsL_congr _ _ _ fun j hj _ => ?_
        have : j ≠ i := by omega
        exact ⟨by rw [hLi, if_neg this], fun _ => by simp [this]⟩
      · intro j o' hj hL t ht hdo
        have hj' : ops[i + 1 + j]? = some o' := by rw [← List.getElem?_drop]; exact hj
        rcases hc.name i o ho (i + 1 + j) o' t hj' hdo (.inr ht) with hh | ⟨hh, _⟩ | ⟨_, hanc⟩
        · omega
        · omega
        · exact absurd (h.anc hanc ⟨o', hj', fun e he => h.down _ _ hL hj' _ he⟩) (by rw [hif]; simp)
    exact hK _ _ (fun j => if j = i then x else v j) (fun j hj => by simp [hj]) ⟨by simp [h.size], d1, he, d2, d3⟩
  unfold wpOp
  simp only [List.getElem?_toArray, ho]
  rw [show Region.wanted o (yielded ops.toArray a.tmps) = true by simp [Region.wanted, hg], if_pos rfl]
  left
  unfold Oper.wp
  rw [execOp_congr o (hc.sel i o ho) (eval_of_read hread)]
  unfold YldW at hob
  generalize (execOp (putsL (fun _ => true) v 0 (ops.take i) a0).eval o).run P w = r at hob ⊢
  cases r with
  | halt x w' => exact hob.elim
  | ok x w' =>
    cases x <;> simp only at hob <;> first | exact hob.elim | skip
    · exact next _ _ hob.1 hob.2
    · exact next _ _ hob.1 hob.2
    · refine Calls.mono hob ?_
      rintro e w'' ⟨x, rfl, h1, h2⟩
      exact next _ _ h1 h2
end
def OblsU (P : Program) (T T2 : Nat → Ty) (w0 : World) (s : Nat) (early : List Nat) (Q : Act → World → Prop) (v : Nat → Value) : Nat → List Oper → Act → Prop
  | i, [], a => ∀ w, Ext w0 w → (∀ j, j < i → (T2 j).p (v j) w) → Q a w
  | i, o :: rest, a => o.guard = none ∧ (if i = s then (∀ w, Ext w0 w → (∀ j, early.contains j = true → (T j).p (v j) w) → YldW P a.eval o w0 w fun x w' => (T2 i).p x w' ∧ ∀ j, early.contains j = true → (T2 j).p (v j) w') else
      ((∀ w, Ext w0 w → DepsHold T v w (aft o) → Yld P a.eval o w (T i).p) ∧ (early.contains i = false → ∀ w, Ext w0 w → DepsHold T2 v w (aft o) → Yld P a.eval o w (T2 i).p))) ∧
      OblsU P T T2 w0 s early Q v (i + 1) rest (a.put o.dst (v i))
section
variable {P : Program} {T T2 : Nat → Ty} {w0 : World} {s : Nat} {early : List Nat}
theorem OblsU_at {Q' : Act → World → Prop} {v : Nat → Value} : ∀ (l : List Oper) (k : Nat) (a : Act), OblsU P T T2 w0 s early Q' v k l a →
    (∀ i o, l[i]? = some o → o.guard = none ∧ (if k + i = s then (∀ w, Ext w0 w → (∀ j, early.contains j = true → (T j).p (v j) w) → YldW P (putsL (fun _ => true) v k (l.take i) a).eval o w0 w fun x w' => (T2 (k + i)).p x w' ∧ ∀ j, early.contains j = true → (T2 j).p (v j) w') else
      ((∀ w, Ext w0 w → DepsHold T v w (aft o) → Yld P (putsL (fun _ => true) v k (l.take i) a).eval o w (T (k + i)).p) ∧ (early.contains (k + i) = false → ∀ w, Ext w0 w → DepsHold T2 v w (aft o) → Yld P (putsL (fun _ => true) v k (l.take i) a).eval o w (T2 (k + i)).p)))) ∧
    (∀ w, Ext w0 w → (∀ j, j < k + l.length → (T2 j).p (v j) w) → Q' (putsL (fun _ => true) v k l a) w)
  | [], k, a, h => ⟨fun i o hi => by simp at hi, fun w hw hj => by simpa [putsL] using h w hw (by simpa using hj)⟩
  | o :: l, k, a, h => by
    have ih := OblsU_at l (k + 1) (a.put o.dst (v k)) h.2.2
    refine ⟨fun i o' hi => ?_, fun w hw hj => ?_⟩
    · cases i with
      | zero =>
        simp only [List.getElem?_cons_zero, Option.some.injEq] at hi
        subst hi
        exact ⟨h.1, h.2.1⟩
      | succ i =>
        have := ih.1 i o' (by simpa using hi)
        rw [show k + 1 + i = k + (i + 1) from by omega] at this
        simpa [putsL] using this
    · have := ih.2 w hw (fun j hjj => hj j (by simp; omega))
      simpa [putsL] using this
end
section
variable {P : Program} {l1 l2 : List Oper} {T T2 : Nat → Ty} {w0 : World} {a0 : Act} {Q : Exit → Act → World → Prop} {s : Nat} {early : List Nat}
theorem wpAny_turnedU (hc : Chk (l1 ++ l2)) (ht : ∀ k j, l1.length ≤ k → k < (l1 ++ l2).length → j < k → Anc (l1 ++ l2) k j) (hs : s < l1.length) (hea : ∀ j, early.contains j = true → Anc (l1 ++ l2) s j)
    (ho : ∀ v, OblsU P T T2 w0 s early (fun a' w' => wpOps P (l1 ++ l2).toArray Q (List.range' l1.length l2.length) a' w') v 0 l1 a0) : ∀ (fuel : Nat) (listed : Array Bool) (a : Act) (w : World) (v : Nat → Value),
    (undone l1.length listed).length + l2.length ≤ fuel → (∀ j, l1.length ≤ j → listed.getD j false = false) → listed.getD s false = true → Stand (l1 ++ l2) T2 w0 a0 listed a w v → wpAny P .any (l1 ++ l2).toArray Q fuel listed a w := by
  have all : ∀ (fuel : Nat) (listed : Array Bool) (a : Act) (w : World) (v : Nat → Value), l2.length ≤ fuel → (∀ j, l1.length ≤ j → listed.getD j false = false) → (∀ i, i < l1.length → listed.getD i false = true) →
      Stand (l1 ++ l2) T2 w0 a0 listed a w v → wpAny P .any (l1 ++ l2).toArray Q fuel listed a w := by
    intro fuel listed a w v hf hm hall h
    refine wpAny_forced hc ht l2.length l1.length fuel listed a w (by simp) (Nat.le_refl _) hf h.size (fun j => ?_) ?_
    · rcases Nat.lt_or_ge j l1.length with hj | hj
      · rw [hall j hj]; simp [hj]
      · rw [hm j hj]; simp; omega
    · have := (OblsU_at l1 0 a0 (ho v)).2 w h.ext (fun j hj => h.ty j (hall j (by simpa using hj)))
      rw [h.fr, putsL_append, putsL_congr (L' := fun _ => true) (v' := v) l1 0 a0 (fun j _ hj => ⟨hall j (by simpa using hj), fun _ => rfl⟩),
        putsL_congr (L' := fun _ => false) (v' := v) l2 _ _ (fun j hj _ => ⟨hm j (by simpa using hj), fun _ => rfl⟩)]
      have h4 : ∀ (l : List Oper) (k : Nat) (b : Act), putsL (fun _ => false) v k l b = b := by
        intro l
        induction l with
        | nil => intro k b; rfl
        | cons x l ih => intro k b; simp [putsL, ih]
      rw [h4]
      exact this
  have notyet : ∀ (listed : Array Bool), undone l1.length listed = [] → ∀ i, i < l1.length → listed.getD i false = true := fun listed hu i hi => by
    cases hL : listed.getD i false with
    | true => rfl
    | false =>
      have : i ∈ undone l1.length listed := by simp only [undone, List.mem_filter, List.mem_range, hi, hL, Bool.not_false, and_self]
      rw [hu] at this
      cases this
  intro fuel
  induction fuel with
  | zero =>
    intro listed a w v hf hm hsl h
    exact all 0 listed a w v (by omega) hm (notyet listed (List.eq_nil_of_length_eq_zero (by omega))) h
  | succ fuel ih =>
    intro listed a w v hf hm hsl h
    cases hu : undone l1.length listed with
    | nil => exact all _ listed a w v (by omega) hm (notyet listed hu) h
    | cons x r =>
      have hx : x < l1.length ∧ listed.getD x false = false := by
        have : x ∈ undone l1.length listed := by rw [hu]; simp
        simpa [undone] using this
      have hlen : l1.length ≤ (l1 ++ l2).length := by simp
      refine ⟨fun hr => ?_, fun i hi => ?_⟩
      · have := listed_all hc h hr x (by omega)
        rw [hx.2] at this
        cases this
      · obtain ⟨h1, h2, o, h3, h4⟩ := mem_ready.1 hi
        have hb : ∀ e ∈ aft o, listed.getD e.on false = true := fun e he => h4 e (mem_aft.1 he).1 (mem_aft.1 he).2
        rcases Nat.lt_or_ge i l1.length with him | him
        · have h3' : l1[i]? = some o := by rw [← h3, List.getElem?_append_left him]
          obtain ⟨hgd, this⟩ := (OblsU_at l1 0 a0 (ho v)).1 i o h3'
          rw [Nat.zero_add] at this
          have hlf : listed.getD i false = false := by
            have hs := h.size
            simp only [Array.getD_eq_getD_getElem?] at h2 ⊢
            rw [Array.getElem?_eq_getElem (by omega)] at h2 ⊢
            simpa using h2
          have his : i ≠ s := fun e => by rw [e, hsl] at hlf; cases hlf
          have hne : early.contains i = false := by
            cases he : early.contains i with
            | false => rfl
            | true =>
              have hso : (l1 ++ l2)[s]? = some ((l1 ++ l2)[s]'(by omega)) := List.getElem?_eq_getElem (by omega)
              have := h.anc (hea i he) ⟨_, hso, fun e he => h.down s _ hsl hso e he⟩
              rw [hlf] at this
              cases this
          rw [if_neg his] at this
          have htk : (l1 ++ l2).take i = l1.take i := List.take_append_of_le_length (by omega)
          rw [← htk] at this
          have hob := this.2 hne
          have hwt : ∀ u, Region.wanted o u = true := fun u => by simp [Region.wanted, hgd]
          refine step_typed hc h h3 h2 hb (fun w hw hd => by rw [if_pos (hwt _)]; exact hob w hw hd) fun a' w' v' _ hs' => ?_
          have hund := undone_set (n := l1.length) (by rw [h.size]; exact h1) him hlf
          refine ih _ a' w' v' (by omega) (fun j hj => ?_) ?_ hs'
          · have := hm j hj
            simp only [Array.getD_eq_getD_getElem?, Array.getElem?_setIfInBounds] at this ⊢
            rwa [if_neg (by omega)]
          · simp only [Array.getD_eq_getD_getElem?, Array.getElem?_setIfInBounds] at hsl ⊢
            rwa [if_neg his]
        · have := h.anc (ht i x him h1 (by omega)) ⟨o, h3, hb⟩
          rw [hx.2] at this
          cases this
theorem wpAny_turnU (hc : Chk (l1 ++ l2)) (ht : ∀ k j, l1.length ≤ k → k < (l1 ++ l2).length → j < k → Anc (l1 ++ l2) k j) (hs : s < l1.length) (hea : ∀ j, early.contains j = true → Anc (l1 ++ l2) s j)
    (hT : ∀ j, j ≠ s → early.contains j = false → ∀ x w w', (T j).p x w → (T2 j).p x w')
    (ho : ∀ v, OblsU P T T2 w0 s early (fun a' w' => wpOps P (l1 ++ l2).toArray Q (List.range' l1.length l2.length) a' w') v 0 l1 a0) : ∀ (fuel : Nat) (listed : Array Bool) (a : Act) (w : World) (v : Nat → Value),
    (undone l1.length listed).length + l2.length ≤ fuel → (∀ j, l1.length ≤ j → listed.getD j false = false) → listed.getD s false = false → Stand (l1 ++ l2) T w0 a0 listed a w v → wpAny P .any (l1 ++ l2).toArray Q fuel listed a w := by
  have sin : ∀ (listed : Array Bool), listed.getD s false = false → s ∈ undone l1.length listed := fun listed hL => by
    simp only [undone, List.mem_filter, List.mem_range, hs, hL, Bool.not_false, and_self]
  intro fuel
  induction fuel with
  | zero =>
    intro listed a w v hf hm hsl h
    have := sin listed hsl
    rw [List.eq_nil_of_length_eq_zero (show (undone l1.length listed).length = 0 by omega)] at this
    cases this
  | succ fuel ih =>
    intro listed a w v hf hm hsl h
    have hlen : l1.length ≤ (l1 ++ l2).length := by simp
    refine ⟨fun hr => ?_, fun i hi => ?_⟩
    · have := listed_all hc h hr s (by omega)
      rw [hsl] at this
      cases this
    · obtain ⟨h1, h2, o, h3, h4⟩ := mem_ready.1 hi
      have hb : ∀ e ∈ aft o, listed.getD e.on false = true := fun e he => h4 e (mem_aft.1 he).1 (mem_aft.1 he).2
      rcases Nat.lt_or_ge i l1.length with him | him
      · have h3' : l1[i]? = some o := by rw [← h3, List.getElem?_append_left him]
        obtain ⟨hgd, this⟩ := (OblsU_at l1 0 a0 (ho v)).1 i o h3'
        rw [Nat.zero_add] at this
        have hlf : listed.getD i false = false := by
          have hs := h.size
          simp only [Array.getD_eq_getD_getElem?] at h2 ⊢
          rw [Array.getElem?_eq_getElem (by omega)] at h2 ⊢
          simpa using h2
        have htk : (l1 ++ l2).take i = l1.take i := List.take_append_of_le_length (by omega)
        rw [← htk] at this
        have hund := undone_set (n := l1.length) (by rw [h.size]; exact h1) him hlf
        have hm' : ∀ j, l1.length ≤ j → (listed.setIfInBounds i true).getD j false = false := fun j hj => by
          have := hm j hj
          simp only [Array.getD_eq_getD_getElem?, Array.getElem?_setIfInBounds] at this ⊢
          rwa [if_neg (by omega)]
        by_cases his : i = s
        · subst his
          rw [if_pos rfl] at this
          have hob := this w h.ext fun j hj => h.ty j (h.anc (hea j hj) ⟨o, h3, hb⟩)
          refine step_turnU hc h h3 hgd h2 hb early hT hob fun a' w' v' _ hs' => ?_
          refine wpAny_turnedU hc ht hs hea ho fuel _ a' w' v' (by omega) hm' ?_ hs'
          simp only [Array.getD_eq_getD_getElem?, Array.getElem?_setIfInBounds]
          simp [show i < listed.size by rw [h.size]; exact h1]
        · rw [if_neg his] at this
          have hwt : ∀ u, Region.wanted o u = true := fun u => by simp [Region.wanted, hgd]
          refine step_typed hc h h3 h2 hb (fun w hw hd => by rw [if_pos (hwt _)]; exact this.1 w hw hd) fun a' w' v' _ hs' => ?_
          refine ih _ a' w' v' (by omega) hm' ?_ hs'
          simp only [Array.getD_eq_getD_getElem?, Array.getElem?_setIfInBounds] at hsl ⊢
          rwa [if_neg his]
      · have := h.anc (ht i s him h1 (by omega)) ⟨o, h3, hb⟩
        rw [hsl] at this
        cases this
end
def OblsUE (P : Program) (T T2 : Nat → Ty) (w0 : World) (s : Nat) (early : List Nat) (a0 : List Value) (Q : List Value → World → Prop) (v : Nat → Value) : Nat → List Oper → List (Nat × Value) → Prop
  | i, [], env => ∀ w, Ext w0 w → (∀ j, j < i → (T2 j).p (v j) w) → Q (setsE env a0) w
  | i, o :: rest, env => o.guard = none ∧ (if i = s then (∀ w, Ext w0 w → (∀ j, early.contains j = true → (T j).p (v j) w) → YldW P (evalE env a0) o w0 w fun x w' => (T2 i).p x w' ∧ ∀ j, early.contains j = true → (T2 j).p (v j) w') else
      ((∀ w, Ext w0 w → DepsHold T v w (aft o) → Yld P (evalE env a0) o w (T i).p) ∧ (early.contains i = false → ∀ w, Ext w0 w → DepsHold T2 v w (aft o) → Yld P (evalE env a0) o w (T2 i).p))) ∧
      OblsUE P T T2 w0 s early a0 Q v (i + 1) rest (putE env o.dst (v i))
theorem OblsUE.obls {P : Program} {T T2 : Nat → Ty} {w0 : World} {s : Nat} {early : List Nat} {a0 : List Value} {Q : Act → World → Prop} {v : Nat → Value} {ds : List Deferred} : ∀ (rest : List Oper) (i : Nat) (env : List (Nat × Value)),
    (∀ p ∈ env, p.1 < a0.length) → dstsIn a0.length rest = true → OblsUE P T T2 w0 s early a0 (fun l w => Q ⟨l.toArray, ds⟩ w) v i rest env → OblsU P T T2 w0 s early Q v i rest ⟨(setsE env a0).toArray, ds⟩
  | [], _, _, _, _, h => h
  | o :: rest, i, env, henv, hr, h => by
    simp only [dstsIn, Bool.and_eq_true] at hr
    have hev : evalL (setsE env a0) = evalE env a0 := by
      funext x
      cases x with
      | tmp t => exact (lookE_eq env a0 t henv).symm
      | _ => rfl
    refine ⟨h.1, ?_, ?_⟩
    · rw [eval_toArray, hev]
      exact h.2.1
    · rw [put_toArray]
      have e : putL (setsE env a0) o.dst (v i) = setsE (putE env o.dst (v i)) a0 := by
        cases hd : o.dst <;> rfl
      rw [e]
      refine OblsUE.obls rest (i + 1) _ ?_ hr.2 h.2.2
      intro p hp
      unfold putE at hp
      cases hd : o.dst with
      | none => rw [hd] at hp; exact henv p hp
      | some d =>
        rw [hd] at hp
        simp only [List.mem_cons] at hp
        rcases hp with rfl | hp
        · rw [hd] at hr
          simpa [Nat.blt_eq] using hr.1
        · exact henv p hp
def earlyChkU (ops : List Oper) (s : Nat) (early : List Nat) : Bool := early.all fun j => ((ancs ops).getD s []).contains j
theorem wp_drawn_turnU {P : Program} {Q : Exit → Act → World → Prop} {w0 : World} {a0 : List Value} {ds : List Deferred} {id : Nat} {l : List Oper} (n s : Nat) (early : List Nat) (T T2 : Nat → Ty) (hm : P.follows .mixedOrders = true) (hchk : regionChk l = true) (htail : tailChk l n = true) (hearly : earlyChkU l s early = true) (hn : n ≤ l.length) (hsn : s < n) (hin : dstsIn a0.length l = true)
    (hT : ∀ j, j ≠ s → early.contains j = false → ∀ x w w', (T j).p x w → (T2 j).p x w')
    (h : ∀ v, OblsUE P T T2 w0 s early a0 (fun l' w' => wpList P l.toArray Q (l.drop n) ⟨l'.toArray, ds⟩ w') v 0 (l.take n) []) : (Code.region id l.toArray true).wp P Q ⟨a0.toArray, ds⟩ w0 := by
  have e : l.take n ++ l.drop n = l := List.take_append_drop n l
  have hl : (l.take n).length = n := by simp; omega
  have eo : wpOps P l.toArray Q (List.range' n (l.drop n).length) = wpList P l.toArray Q (l.drop n) := wpOps_eq_wpList (l.drop n) n (fun j => by rw [List.getElem?_toArray, List.getElem?_drop])
  refine wp_region_any hm ?_
  have key := wpAny_turnU (P := P) (l1 := l.take n) (l2 := l.drop n) (T := T) (T2 := T2) (w0 := w0) (a0 := ⟨a0.toArray, ds⟩) (Q := Q) (s := s) (early := early) (by rw [e]; exact regionChk_spec hchk) (by rw [e, hl]; exact tailChk_spec htail) (by omega)
    (by
      intro j hj
      rw [e]
      have := List.all_eq_true.1 hearly j (by simpa using hj)
      exact ancs_spec (by simpa using this)) hT
    (by
      intro v
      rw [e, hl, eo]
      exact OblsUE.obls (Q := fun a w => wpList P l.toArray Q (l.drop n) a w) (l.take n) 0 [] (by simp) (dstsIn_take l n hin) (h v))
  rw [e, hl] at key
  have hf : ∀ j, (Array.replicate l.length false).getD j false = false := fun j => by
    simp only [Array.getD_eq_getD_getElem?, Array.getElem?_replicate]
    split <;> rfl
  have := key (l.toArray.size) (Array.replicate l.length false) ⟨a0.toArray, ds⟩ w0.drew (fun _ => undef) ?_ (fun j _ => hf j) (hf s) (stand_start (Ext.drew (Ext.refl w0)) _)
  · simpa using this
  · have : (undone n (Array.replicate l.length false)).length ≤ n := by
      unfold undone
      refine Nat.le_trans (List.length_filter_le _ _) ?_
      simp
    simp only [List.size_toArray, List.length_drop]
    omega
end Go.Proofs.YtjhdamjbljafhaaGreatDoor
