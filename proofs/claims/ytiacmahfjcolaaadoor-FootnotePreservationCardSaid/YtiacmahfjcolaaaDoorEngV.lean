/- A drawn region whose types may look at the values of the operations they wait for. -/
import Derived.Test.YtiacmahfjcolaaaDoorLaws
namespace Go.Proofs.YtiacmahfjcolaaaDoor
open Go.RowKit

/-- the type of place j looks at the values of j's ancestors alone -/
def Looks (ops : List Oper) (T : (Nat → Value) → Nat → Ty) : Prop := ∀ (v v' : Nat → Value) (j : Nat), (∀ k, Anc ops j k → v k = v' k) → T v j = T v' j
theorem looks_one {ops : List Oper} (T0 : Nat → Ty) (i k : Nat) (F : Value → Ty) (h : ((ancs ops).getD i []).contains k = true) : Looks ops (fun v j => bif Nat.beq j i then F (v k) else T0 j) := by
  intro v v' j hv
  cases hb : Nat.beq j i with
  | false => simp only [hb, cond_false]
  | true =>
    have := Nat.eq_of_beq_eq_true hb
    subst this
    simp only [hb, cond_true]
    rw [hv k (ancs_spec (by simpa using h))]
theorem Anc.lt {ops : List Oper} (hc : Chk ops) {i j : Nat} (h : Anc ops i j) : j < i := by
  induction h with
  | one ho he => exact hc.edge _ _ ho _ he
  | more ho he _ ih => exact Nat.lt_trans ih (hc.edge _ _ ho _ he)
theorem Anc.has {ops : List Oper} {i j : Nat} (h : Anc ops i j) : ∃ o, ops[i]? = some o := by
  cases h with
  | one ho _ => exact ⟨_, ho⟩
  | more ho _ _ => exact ⟨_, ho⟩
theorem Stand.shift {ops : List Oper} {T : (Nat → Value) → Nat → Ty} {w0 : World} {a0 : Act} (hc : Chk ops) (hd : Looks ops T) {listed : Array Bool} {a a' : Act} {w w' : World} {v v' : Nat → Value} (h : Stand ops (T v) w0 a0 listed a w v) {i : Nat} (hi : listed.getD i false = false)
    (hv : ∀ j, j ≠ i → v' j = v j) (hs : Stand ops (T v) w0 a0 (listed.setIfInBounds i true) a' w' v') : Stand ops (T v') w0 a0 (listed.setIfInBounds i true) a' w' v' := by
  refine ⟨hs.size, hs.down, hs.ext, fun j hj => ?_, hs.fr⟩
  have e : T v' j = T v j := by
    refine hd v' v j fun k hk => hv k fun hki => ?_
    subst hki
    obtain ⟨o, ho⟩ := hk.has
    by_cases hji : j = k
    · have := hk.lt hc
      omega
    · have hl : listed.getD j false = true := by
        simp only [Array.getD_eq_getD_getElem?, Array.getElem?_setIfInBounds] at hj ⊢
        rwa [if_neg (fun h => hji h.symm)] at hj
      have := h.anc hk ⟨o, ho, h.down j o hl ho⟩
      rw [hi] at this
      cases this
  rw [e]
  exact hs.ty j hj

section
variable {P : Program} {l1 l2 : List Oper} {T : (Nat → Value) → Nat → Ty} {w0 : World} {a0 : Act} {Q : Exit → Act → World → Prop}
theorem wpAny_headV (hc : Chk (l1 ++ l2)) (hd : Looks (l1 ++ l2) T) (ht : ∀ k j, l1.length ≤ k → k < (l1 ++ l2).length → j < k → Anc (l1 ++ l2) k j)
    (ho : ∀ v, Obls P (l1 ++ l2).toArray (T v) w0 (fun a' w' => wpOps P (l1 ++ l2).toArray Q (List.range' l1.length l2.length) a' w') v 0 l1 a0) : ∀ (fuel : Nat) (listed : Array Bool) (a : Act) (w : World) (v : Nat → Value),
    (undone l1.length listed).length + l2.length ≤ fuel → (∀ j, l1.length ≤ j → listed.getD j false = false) → Stand (l1 ++ l2) (T v) w0 a0 listed a w v → wpAny P .any (l1 ++ l2).toArray Q fuel listed a w := by
  have all : ∀ (fuel : Nat) (listed : Array Bool) (a : Act) (w : World) (v : Nat → Value), l2.length ≤ fuel → (∀ j, l1.length ≤ j → listed.getD j false = false) → (∀ i, i < l1.length → listed.getD i false = true) →
      Stand (l1 ++ l2) (T v) w0 a0 listed a w v → wpAny P .any (l1 ++ l2).toArray Q fuel listed a w := by
    intro fuel listed a w v hf hm hall h
    refine wpAny_forced hc ht l2.length l1.length fuel listed a w (by simp) (Nat.le_refl _) hf h.size (fun j => ?_) ?_
    · rcases Nat.lt_or_ge j l1.length with hj | hj
      · rw [hall j hj]; simp [hj]
      · rw [hm j hj]; simp; omega
    · have := (Obls_at l1 0 a0 _ (ho v)).2 w h.ext (fun j hj => h.ty j (hall j (by simpa using hj)))
      rw [h.fr, putsL_append, putsL_congr (L' := fun _ => true) (v' := v) l1 0 a0 (fun j _ hj => ⟨hall j (by simpa using hj), fun _ => rfl⟩),
        putsL_congr (L' := fun _ => false) (v' := v) l2 _ _ (fun j hj _ => ⟨hm j (by simpa using hj), fun _ => rfl⟩)]
      have h4 : ∀ (l : List Oper) (k : Nat) (b : Act), putsL (fun _ => false) v k l b = b := by
        intro l
        induction l with
        | nil => intro k b; rfl
        | cons x l ih => intro k b; simp [putsL, ih]
      rw [h4]
      exact this
  have notyet : ∀ (listed : Array Bool), undone l1.length listed = [] → ∀ i, i < l1.length → listed.getD i false = true := fun listed hu i hi => by
    cases hL : listed.getD i false with
    | true => rfl
    | false =>
      have : i ∈ undone l1.length listed := by simp only [undone, List.mem_filter, List.mem_range, hi, hL, Bool.not_false, and_self]
      rw [hu] at this
      cases this
  intro fuel
  induction fuel with
  | zero =>
    intro listed a w v hf hm h
    exact all 0 listed a w v (by omega) hm (notyet listed (List.eq_nil_of_length_eq_zero (by omega))) h
  | succ fuel ih =>
    intro listed a w v hf hm h
    cases hu : undone l1.length listed with
    | nil => exact all _ listed a w v (by omega) hm (notyet listed hu) h
    | cons x r =>
      have hx : x < l1.length ∧ listed.getD x false = false := by
        have : x ∈ undone l1.length listed := by rw [hu]; simp
        simpa [undone] using this
      have hlen : l1.length ≤ (l1 ++ l2).length := by simp
      refine ⟨fun hr => ?_, fun i hi => ?_⟩
      · have := listed_all hc h hr x (by omega)
        rw [hx.2] at this
        cases this
      · obtain ⟨h1, h2, o, h3, h4⟩ := mem_ready.1 hi
        have hb : ∀ e ∈ aft o, listed.getD e.on false = true := fun e he => h4 e (mem_aft.1 he).1 (mem_aft.1 he).2
        rcases Nat.lt_or_ge i l1.length with him | him
        · have h3' : l1[i]? = some o := by rw [← h3, List.getElem?_append_left him]
          have := (Obls_at l1 0 a0 _ (ho v)).1 i o h3'
          rw [Nat.zero_add] at this
          have hlf : listed.getD i false = false := by
            have hs := h.size
            simp only [Array.getD_eq_getD_getElem?] at h2 ⊢
            rw [Array.getElem?_eq_getElem (by omega)] at h2 ⊢
            simpa using h2
          have htk : (l1 ++ l2).take i = l1.take i := List.take_append_of_le_length (by omega)
          rw [← htk] at this
          refine step_typed hc h h3 h2 hb this fun a' w' v' hv hs => ?_
          have hund := undone_set (n := l1.length) (by rw [h.size]; exact h1) him hlf
          refine ih _ a' w' v' (by omega) (fun j hj => ?_) (h.shift hc hd hlf hv hs)
          have := hm j hj
          simp only [Array.getD_eq_getD_getElem?, Array.getElem?_setIfInBounds] at this ⊢
          rwa [if_neg (by omega)]
        · have := h.anc (ht i x him h1 (by omega)) ⟨o, h3, hb⟩
          rw [hx.2] at this
          cases this
theorem wp_typed_tailV {id : Nat} (hm : P.follows .mixedOrders = true) (T : (Nat → Value) → Nat → Ty) (hd : Looks (l1 ++ l2) T) (hchk : regionChk (l1 ++ l2) = true) (htail : tailChk (l1 ++ l2) l1.length = true)
    (h : ∀ v, Obls P (l1 ++ l2).toArray (T v) w0 (fun a' w' => wpList P (l1 ++ l2).toArray Q l2 a' w') v 0 l1 a0) :
    (Code.region id (l1 ++ l2).toArray true).wp P Q a0 w0 := by
  have e : wpOps P (l1 ++ l2).toArray Q (List.range' l1.length l2.length) = wpList P (l1 ++ l2).toArray Q l2 := wpOps_eq_wpList l2 l1.length (fun j => by rw [List.getElem?_toArray, List.getElem?_append_right (by omega)]; congr 1; omega)
  refine wp_region_any hm (wpAny_headV (regionChk_spec hchk) hd (tailChk_spec htail) (by rw [e]; exact h) _ _ _ _ (fun _ => undef) ?_ (fun j _ => ?_) (by
    have := stand_start (ops := l1 ++ l2) (T := T (fun _ => undef)) (w0 := w0) (a0 := a0) (w := w0.drew) (Ext.drew (Ext.refl w0)) (fun _ => undef)
    simpa using this))
  · have : (undone l1.length (Array.replicate (l1 ++ l2).toArray.size false)).length ≤ l1.length := by
      unfold undone
      refine Nat.le_trans (List.length_filter_le _ _) ?_
      simp
    simp only [List.size_toArray, List.length_append] at this ⊢
    omega
  · simp only [Array.getD_eq_getD_getElem?, Array.getElem?_replicate]
    split <;> rfl
end
theorem wp_drawn_tailV {P : Program} {Q : Exit → Act → World → Prop} {w0 : World} {a0 : List Value} {ds : List Deferred} {id : Nat} {l : List Oper} (n : Nat) (T : (Nat → Value) → Nat → Ty) (hd : Looks l T) (hm : P.follows .mixedOrders = true) (hchk : regionChk l = true) (htail : tailChk l n = true) (hn : n ≤ l.length) (hin : dstsIn a0.length l = true)
    (h : ∀ v, OblsE P l (T v) w0 a0 (fun l' w' => wpList P l.toArray Q (l.drop n) ⟨l'.toArray, ds⟩ w') v 0 (l.take n) []) : (Code.region id l.toArray true).wp P Q ⟨a0.toArray, ds⟩ w0 := by
  have e : l.take n ++ l.drop n = l := List.take_append_drop n l
  have hl : (l.take n).length = n := by simp; omega
  have := wp_typed_tailV (P := P) (l1 := l.take n) (l2 := l.drop n) (w0 := w0) (a0 := ⟨a0.toArray, ds⟩) (Q := Q) (id := id) hm T (by rw [e]; exact hd) (by rw [e]; exact hchk) (by rw [e, hl]; exact htail) (by
    rw [e]
    intro v
    exact OblsE.obls (Q := fun a w => wpList P l.toArray Q (l.drop n) a w) hin (l.take n) 0 [] (by simp) (dstsIn_take l n hin) (h v))
  rwa [e] at this

/-- a row of the call's own that shares no block with the row y -/
def TAway {P : Program} {α : Type} (D : El P α) (base : Nat) (xs : List α) (y : Value) : Ty := ⟨fun v w => Own D base w v xs ∧ ∀ g, v.ownBlock = some g → y.ownBlock ≠ some g, fun _ _ _ he h => ⟨h.1.ext he, h.2⟩⟩
theorem away_of {P : Program} {α β : Type} {D : El P α} {D' : El P β} {base base' : Nat} {w w' : World} {v y : Value} {xs : List α} {ys : List β} (h : Own D w.heap.size w' v xs) (hy : Own D' base' w y ys) (hb : base ≤ w.heap.size) : (TAway D base xs y).p v w' :=
  ⟨h.mono hb, fun g hg hg' => by have h1 := (h.lt g hg).1; have h2 := (hy.lt g hg').2; omega⟩

end Go.Proofs.YtiacmahfjcolaaaDoor
