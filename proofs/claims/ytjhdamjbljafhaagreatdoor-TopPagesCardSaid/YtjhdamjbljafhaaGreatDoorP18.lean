/- A region whose order is drawn, whose operations have exact outcomes, and one of whose head's operations is a store: what is not ahead of the store may come before or after it. -/
import Derived.Test.YtjhdamjbljafhaaGreatDoorP04
namespace Go.Proofs.YtjhdamjbljafhaaGreatDoor
open Go.RowKit
def RunsTo (P : Program) (ρ : Operand → Value) (o : Oper) (w : World) (x : Value) (w' : World) : Prop :=
  (execOp ρ o).run P w = .ok (.value x) w' ∨ ((execOp ρ o).run P w = .ok .skip w' ∧ x = undef)
section
variable {P : Program} {ops : List Oper} {c : Nat → Value} {a0 : Act}
abbrev StandC (ops : List Oper) (c : Nat → Value) (a0 : Act) (listed : Array Bool) (a : Act) (w : World) : Prop := Stand ops (fun _ => Ty.any) w a0 listed a w c
theorem step_exact {Q : Exit → Act → World → Prop} {K : Act → World → Prop} (hc : Chk ops) {listed : Array Bool} {a : Act} {w w' : World} (h : StandC ops c a0 listed a w) {i : Nat} {o : Oper} (ho : ops[i]? = some o) (hg : o.guard = none)
    (hi : listed.getD i true = false) (ha : ∀ e ∈ aft o, listed.getD e.on false = true) (hr : RunsTo P (putsL (fun _ => true) c 0 (ops.take i) a0).eval o w (c i) w')
    (hK : ∀ a', StandC ops c a0 (listed.setIfInBounds i true) a' w' → K a' w') : wpOp P ops.toArray Q i K a w := by
  have hlt : i < ops.length := (List.getElem?_eq_some_iff.1 ho).1
  have hif : listed.getD i false = false := by
    have hs := h.size
    simp only [Array.getD_eq_getD_getElem?] at hi ⊢
    rw [Array.getElem?_eq_getElem (by omega)] at hi ⊢
    simpa using hi
  have hread : ∀ t, t ∈ o.looksAt ops.toArray → a.tmps[t]? = (putsL (fun _ => true) c 0 (ops.take i) a0).tmps[t]? := fun t ht => frame_read hc h ho hif ha (.inl ht)
  have hLi : ∀ j, (listed.setIfInBounds i true).getD j false = if j = i then true else listed.getD j false := by
    have hsz : i < listed.size := by rw [h.size]; exact hlt
    intro j
    simp only [Array.getD_eq_getD_getElem?, Array.getElem?_setIfInBounds]
    by_cases hji : j = i
    · subst hji; simp [hsz]
    · rw [if_neg (fun hh => hji hh.symm), if_neg hji]
  have next : K (a.put o.dst (c i)) w' := by
    have d1 : ∀ (j : Nat) (o' : Oper), (listed.setIfInBounds i true).getD j false = true → ops[j]? = some o' → ∀ e ∈ aft o', (listed.setIfInBounds i true).getD e.on false = true := by
      intro j o' hj ho' e he'
      rw [hLi] at hj ⊢
      by_cases hji : j = i
      · subst hji
        rw [ho] at ho'
        cases ho'
        split
        · rfl
        · exact ha e he'
      · rw [if_neg hji] at hj
        split
        · rfl
        · exact h.down j o' hj ho' e he'
    have d3 : a.put o.dst (c i) = putsL (fun j => (listed.setIfInBounds i true).getD j false) c 0 ops a0 := by
      rw [h.fr]
      have hlen : (ops.take i).length = i := by simp; omega
      have hdrop : ops.drop i = o :: ops.drop (i + 1) := by
        rw [List.drop_eq_getElem_cons hlt]
        congr 1
        have := List.getElem?_eq_getElem hlt
        rw [ho] at this
        exact (Option.some.inj this).symm
      have spl : ∀ (L : Nat → Bool) (u : Nat → Value), putsL L u 0 ops a0 = putsL L u (i + 1) (ops.drop (i + 1)) (if L i then (putsL L u 0 (ops.take i) a0).put o.dst (u i) else putsL L u 0 (ops.take i) a0) := by
        intro L u
        conv => lhs; rw [← List.take_append_drop i ops, putsL_append, hlen, hdrop]
        simp only [putsL, Nat.zero_add]
      rw [spl, spl]
      have e1 : putsL (fun j => (listed.setIfInBounds i true).getD j false) c 0 (ops.take i) a0 = putsL (fun j => listed.getD j false) c 0 (ops.take i) a0 :=
        putsL_congr _ _ _ fun j _ hj => by
          have : j ≠ i := by rw [hlen] at hj; omega
          exact ⟨by rw [hLi, if_neg this], fun _ => rfl⟩
      rw [e1, hLi, if_pos rfl, hif]
      simp only [if_true, Bool.false_eq_true, if_false]
      rw [← putsL_put]
      · refine putsL_congr _ _ _ fun j hj _ => ?_
        have : j ≠ i := by omega
        exact ⟨by rw [hLi, if_neg this], fun _ => rfl⟩
      · intro j o' hj hL t ht hdo
        have hj' : ops[i + 1 + j]? = some o' := by rw [← List.getElem?_drop]; exact hj
        rcases hc.name i o ho (i + 1 + j) o' t hj' hdo (.inr ht) with hh | ⟨hh, _⟩ | ⟨_, hanc⟩
        · omega
        · omega
        · exact absurd (h.anc hanc ⟨o', hj', fun e he => h.down _ _ hL hj' _ he⟩) (by rw [hif]; simp)
    exact hK _ ⟨by simp [h.size], d1, Ext.refl _, fun _ _ => trivial, d3⟩
  unfold wpOp
  simp only [List.getElem?_toArray, ho]
  rw [show Region.wanted o (yielded ops.toArray a.tmps) = true by simp [Region.wanted, hg], if_pos rfl]
  left
  unfold Oper.wp
  rw [execOp_congr o (hc.sel i o ho) (eval_of_read hread)]
  rcases hr with hr | ⟨hr, hu⟩
  · rw [hr]; exact next
  · rw [hr]
    show K (a.put o.dst undef) w'
    rw [← hu]
    exact next
end
def OblsS (P : Program) (c : Nat → Value) (s : Nat) (early : List Nat) (W W1 : World) (Q : Act → Prop) : Nat → List Oper → Act → Prop
  | _, [], a => Q a
  | i, o :: rest, a => o.guard = none ∧ (if i = s then RunsTo P a.eval o W (c i) W1 else RunsTo P a.eval o W (c i) W ∧ (early.contains i = false → RunsTo P a.eval o W1 (c i) W1)) ∧ OblsS P c s early W W1 Q (i + 1) rest (a.put o.dst (c i))
theorem OblsS_at {P : Program} {c : Nat → Value} {s : Nat} {early : List Nat} {W W1 : World} {Q : Act → Prop} : ∀ (l : List Oper) (k : Nat) (a : Act), OblsS P c s early W W1 Q k l a →
    (∀ i o, l[i]? = some o → o.guard = none ∧ (if k + i = s then RunsTo P (putsL (fun _ => true) c k (l.take i) a).eval o W (c (k + i)) W1 else RunsTo P (putsL (fun _ => true) c k (l.take i) a).eval o W (c (k + i)) W ∧ (early.contains (k + i) = false → RunsTo P (putsL (fun _ => true) c k (l.take i) a).eval o W1 (c (k + i)) W1))) ∧
    Q (putsL (fun _ => true) c k l a)
  | [], k, a, h => ⟨fun i o hi => by simp at hi, by simpa [putsL, OblsS] using h⟩
  | o :: l, k, a, h => by
    have ih := OblsS_at l (k + 1) (a.put o.dst (c k)) h.2.2
    refine ⟨fun i o' hi => ?_, ?_⟩
    · cases i with
      | zero =>
        simp only [List.getElem?_cons_zero, Option.some.injEq] at hi
        subst hi
        exact ⟨h.1, h.2.1⟩
      | succ i =>
        have := ih.1 i o' (by simpa using hi)
        rw [show k + 1 + i = k + (i + 1) from by omega] at this
        simpa [putsL] using this
    · simpa [putsL] using ih.2
section
variable {P : Program} {l1 l2 : List Oper} {c : Nat → Value} {a0 : Act} {Q : Exit → Act → World → Prop} {W W1 : World} {s : Nat} {early : List Nat}
theorem wpAny_store (hc : Chk (l1 ++ l2)) (ht : ∀ k j, l1.length ≤ k → k < (l1 ++ l2).length → j < k → Anc (l1 ++ l2) k j) (hs : s < l1.length) (hea : ∀ j, early.contains j = true → Anc (l1 ++ l2) s j)
    (ho : OblsS P c s early W W1 (fun a' => wpOps P (l1 ++ l2).toArray Q (List.range' l1.length l2.length) a' W1) 0 l1 a0) : ∀ (fuel : Nat) (listed : Array Bool) (a : Act) (w : World),
    (undone l1.length listed).length + l2.length ≤ fuel → (∀ j, l1.length ≤ j → listed.getD j false = false) → StandC (l1 ++ l2) c a0 listed a w → w = (if listed.getD s false = true then W1 else W) → wpAny P .any (l1 ++ l2).toArray Q fuel listed a w := by
  have all : ∀ (fuel : Nat) (listed : Array Bool) (a : Act) (w : World), l2.length ≤ fuel → (∀ j, l1.length ≤ j → listed.getD j false = false) → (∀ i, i < l1.length → listed.getD i false = true) →
      StandC (l1 ++ l2) c a0 listed a w → w = (if listed.getD s false = true then W1 else W) → wpAny P .any (l1 ++ l2).toArray Q fuel listed a w := by
    intro fuel listed a w hf hm hall h hw
    refine wpAny_forced hc ht l2.length l1.length fuel listed a w (by simp) (Nat.le_refl _) hf h.size (fun j => ?_) ?_
    · rcases Nat.lt_or_ge j l1.length with hj | hj
      · rw [hall j hj]; simp [hj]
      · rw [hm j hj]; simp; omega
    · have := (OblsS_at l1 0 a0 ho).2
      rw [hall s hs, if_pos rfl] at hw
      subst hw
      rw [h.fr, putsL_append, putsL_congr (L' := fun _ => true) (v' := c) l1 0 a0 (fun j _ hj => ⟨hall j (by simpa using hj), fun _ => rfl⟩),
        putsL_congr (L' := fun _ => false) (v' := c) l2 _ _ (fun j hj _ => ⟨hm j (by simpa using hj), fun _ => rfl⟩)]
      have h4 : ∀ (l : List Oper) (k : Nat) (b : Act), putsL (fun _ => false) c k l b = b := by
        intro l
        induction l with
        | nil => intro k b; rfl
        | cons x l ih => intro k b; simp [putsL, ih]
      rw [h4]
      exact this
  have notyet : ∀ (listed : Array Bool), undone l1.length listed = [] → ∀ i, i < l1.length → listed.getD i false = true := fun listed hu i hi => by
    cases hL : listed.getD i false with
    | true => rfl
    | false =>
      have : i ∈ undone l1.length listed := by simp only [undone, List.mem_filter, List.mem_range, hi, hL, Bool.not_false, and_self]
      rw [hu] at this
      cases this
  intro fuel
  induction fuel with
  | zero =>
    intro listed a w hf hm h hw
    exact all 0 listed a w (by omega) hm (notyet listed (List.eq_nil_of_length_eq_zero (by omega))) h hw
  | succ fuel ih =>
    intro listed a w hf hm h hw
    cases hu : undone l1.length listed with
    | nil => exact all _ listed a w (by omega) hm (notyet listed hu) h hw
    | cons x r =>
      have hx : x < l1.length ∧ listed.getD x false = false := by
        have : x ∈ undone l1.length listed := by rw [hu]; simp
        simpa [undone] using this
      have hlen : l1.length ≤ (l1 ++ l2).length := by simp
      refine ⟨fun hr => ?_, fun i hi => ?_⟩
      · have := listed_all hc h hr x (by omega)
        rw [hx.2] at this
        cases this
      · obtain ⟨h1, h2, o, h3, h4⟩ := mem_ready.1 hi
        have hb : ∀ e ∈ aft o, listed.getD e.on false = true := fun e he => h4 e (mem_aft.1 he).1 (mem_aft.1 he).2
        rcases Nat.lt_or_ge i l1.length with him | him
        · have h3' : l1[i]? = some o := by rw [← h3, List.getElem?_append_left him]
          obtain ⟨hg, hob⟩ := (OblsS_at l1 0 a0 ho).1 i o h3'
          simp only [Nat.zero_add] at hob
          have hlf : listed.getD i false = false := by
            have hs := h.size
            simp only [Array.getD_eq_getD_getElem?] at h2 ⊢
            rw [Array.getElem?_eq_getElem (by omega)] at h2 ⊢
            simpa using h2
          have htk : (l1 ++ l2).take i = l1.take i := List.take_append_of_le_length (by omega)
          rw [← htk] at hob
          have hund := undone_set (n := l1.length) (by rw [h.size]; exact h1) him hlf
          have hLs : ∀ j, (listed.setIfInBounds i true).getD j false = if j = i then true else listed.getD j false := by
            have hsz : i < listed.size := by rw [h.size]; exact h1
            intro j
            simp only [Array.getD_eq_getD_getElem?, Array.getElem?_setIfInBounds]
            by_cases hji : j = i
            · subst hji; simp [hsz]
            · rw [if_neg (fun hh => hji hh.symm), if_neg hji]
          have hm' : ∀ j, l1.length ≤ j → (listed.setIfInBounds i true).getD j false = false := fun j hj => by
            rw [hLs, if_neg (by omega)]
            exact hm j hj
          by_cases his : i = s
          · subst his
            rw [if_pos rfl] at hob
            rw [hlf, if_neg (by simp)] at hw
            subst hw
            refine step_exact hc h h3 hg h2 hb hob fun a' hs' => ?_
            exact ih _ a' _ (by omega) hm' hs' (by rw [hLs, if_pos rfl, if_pos rfl])
          · rw [if_neg his] at hob
            have hsel : RunsTo P (putsL (fun _ => true) c 0 ((l1 ++ l2).take i) a0).eval o w (c i) w := by
              cases hls : listed.getD s false with
              | false => rw [hls, if_neg (by simp)] at hw; subst hw; exact hob.1
              | true =>
                rw [hls, if_pos rfl] at hw
                subst hw
                refine hob.2 ?_
                cases he : early.contains i with
                | false => rfl
                | true =>
                  have hso : (l1 ++ l2)[s]? = some ((l1 ++ l2)[s]'(by omega)) := List.getElem?_eq_getElem (by omega)
                  have := h.anc (hea i he) ⟨_, hso, fun e he => h.down s _ hls hso e he⟩
                  rw [hlf] at this
                  cases this
            refine step_exact hc h h3 hg h2 hb hsel fun a' hs' => ?_
            exact ih _ a' _ (by omega) hm' hs' (by rw [show (listed.setIfInBounds i true).getD s false = listed.getD s false from by rw [hLs, if_neg (fun e => his e.symm)]]; exact hw)
        · have := h.anc (ht i x him h1 (by omega)) ⟨o, h3, hb⟩
          rw [hx.2] at this
          cases this
end
def OblsSE (P : Program) (c : Nat → Value) (s : Nat) (early : List Nat) (W W1 : World) (a0 : List Value) (Q : List Value → Prop) : Nat → List Oper → List (Nat × Value) → Prop
  | _, [], env => Q (setsE env a0)
  | i, o :: rest, env => o.guard = none ∧ (if i = s then RunsTo P (evalE env a0) o W (c i) W1 else RunsTo P (evalE env a0) o W (c i) W ∧ (early.contains i = false → RunsTo P (evalE env a0) o W1 (c i) W1)) ∧ OblsSE P c s early W W1 a0 Q (i + 1) rest (putE env o.dst (c i))
theorem OblsSE.nil {P : Program} {c : Nat → Value} {s : Nat} {early : List Nat} {W W1 : World} {a0 : List Value} {Q : List Value → Prop} {i : Nat} {env : List (Nat × Value)} (h : Q (setsE env a0)) : OblsSE P c s early W W1 a0 Q i [] env := h
theorem OblsSE.obls {P : Program} {c : Nat → Value} {s : Nat} {early : List Nat} {W W1 : World} {a0 : List Value} {Q : Act → Prop} {ds : List Deferred} : ∀ (rest : List Oper) (i : Nat) (env : List (Nat × Value)),
    (∀ p ∈ env, p.1 < a0.length) → dstsIn a0.length rest = true → OblsSE P c s early W W1 a0 (fun l => Q ⟨l.toArray, ds⟩) i rest env → OblsS P c s early W W1 Q i rest ⟨(setsE env a0).toArray, ds⟩
  | [], _, _, _, _, h => h
  | o :: rest, i, env, henv, hr, h => by
    simp only [dstsIn, Bool.and_eq_true] at hr
    have hev : evalL (setsE env a0) = evalE env a0 := by
      funext x
      cases x with
      | tmp t => exact (lookE_eq env a0 t henv).symm
      | _ => rfl
    refine ⟨h.1, ?_, ?_⟩
    · rw [eval_toArray, hev]
      exact h.2.1
    · rw [put_toArray]
      have e : putL (setsE env a0) o.dst (c i) = setsE (putE env o.dst (c i)) a0 := by
        cases hd : o.dst <;> rfl
      rw [e]
      refine OblsSE.obls rest (i + 1) _ ?_ hr.2 h.2.2
      intro p hp
      unfold putE at hp
      cases hd : o.dst with
      | none => rw [hd] at hp; exact henv p hp
      | some d =>
        rw [hd] at hp
        simp only [List.mem_cons] at hp
        rcases hp with rfl | hp
        · rw [hd] at hr
          simpa [Nat.blt_eq] using hr.1
        · exact henv p hp
def earlyChk (ops : List Oper) (s : Nat) (early : List Nat) : Bool := early.all fun j => ((ancs ops).getD s []).contains j
theorem wp_drawn_store {P : Program} {Q : Exit → Act → World → Prop} {w0 : World} {a0 : List Value} {ds : List Deferred} {id : Nat} {l : List Oper} (n s : Nat) (early : List Nat) (c : Nat → Value) (hm : P.follows .mixedOrders = true) (hchk : regionChk l = true) (htail : tailChk l n = true) (hearly : earlyChk l s early = true) (hn : n ≤ l.length) (hsn : s < n) (hin : dstsIn a0.length l = true)
    (h : ∀ W, Ext w0 W → ∃ W1, OblsSE P c s early W W1 a0 (fun l' => wpList P l.toArray Q (l.drop n) ⟨l'.toArray, ds⟩ W1) 0 (l.take n) []) : (Code.region id l.toArray true).wp P Q ⟨a0.toArray, ds⟩ w0 := by
  have e : l.take n ++ l.drop n = l := List.take_append_drop n l
  have hl : (l.take n).length = n := by simp; omega
  obtain ⟨W1, hW⟩ := h w0.drew (Ext.drew (Ext.refl w0))
  have hO := OblsSE.obls (Q := fun a => wpList P l.toArray Q (l.drop n) a W1) (ds := ds) (l.take n) 0 [] (by simp) (dstsIn_take l n hin) hW
  have ew : wpOps P (l.take n ++ l.drop n).toArray Q (List.range' (l.take n).length (l.drop n).length) = wpList P (l.take n ++ l.drop n).toArray Q (l.drop n) := wpOps_eq_wpList (l.drop n) (l.take n).length (fun j => by rw [List.getElem?_toArray, List.getElem?_append_right (by omega)]; congr 1; omega)
  have hea : ∀ j, early.contains j = true → Anc (l.take n ++ l.drop n) s j := by
    intro j hj
    rw [e]
    simp only [earlyChk, List.all_eq_true] at hearly
    exact ancs_spec (by simpa using hearly j (by simpa using hj))
  have main := wpAny_store (P := P) (l1 := l.take n) (l2 := l.drop n) (c := c) (a0 := ⟨a0.toArray, ds⟩) (Q := Q) (W := w0.drew) (W1 := W1) (s := s) (early := early) (regionChk_spec (by rw [e]; exact hchk)) (tailChk_spec (by rw [e, hl]; exact htail)) (by rw [hl]; exact hsn) hea
    (by rw [ew, e]; exact hO) l.length (Array.replicate l.length false) ⟨a0.toArray, ds⟩ w0.drew
  rw [e] at main
  refine wp_region_any hm ?_
  have hf : ∀ j, (Array.replicate l.length false).getD j false = false := fun j => by
    simp only [Array.getD_eq_getD_getElem?, Array.getElem?_replicate]
    split <;> rfl
  have := main ?_ ?_ ?_ ?_
  · simpa using this
  · have : (undone (l.take n).length (Array.replicate l.length false)).length ≤ (l.take n).length := by
      unfold undone
      refine Nat.le_trans (List.length_filter_le _ _) ?_
      simp
    simp only [List.length_take, List.length_drop] at this ⊢
    omega
  · exact fun j _ => hf j
  · refine ⟨by simp, (fun i o hi => by rw [hf] at hi; cases hi), Ext.refl _, fun _ _ => trivial, ?_⟩
    have h4 : ∀ (l : List Oper) (k : Nat) (b : Act), putsL (fun _ => false) c k l b = b := by
      intro l
      induction l with
      | nil => intro k b; rfl
      | cons x l ih => intro k b; simp [putsL, ih]
    rw [putsL_congr (L' := fun _ => false) (v' := c) l 0 _ (fun j _ _ => ⟨hf j, fun _ => rfl⟩), h4]
  · rw [hf, if_neg (by simp)]
end Go.Proofs.YtjhdamjbljafhaaGreatDoor
