/- From a walk to the given statement: a list of integers opened, the form's post closed; the listed tables. -/
import Derived.Test.YtdglijpooodlnaaRows
import Derived.Test.YtdglijpooodlnaaBase
import Derived.WalkKit
import Derived.ProofKit
import Derived.OpenShut
import Derived.Deep.Slices
import Derived.JoinedCond
import Derived.Carry
import Derived.Lib.LaidTab
import Derived.Handed
namespace Go.Proofs.Ytdglijpooodlnaa
open Go.ChangeShapes Go.WideShapes Go.ChangeAt Go.RowKit Go.Deep

section
variable {H : Type} {enc : TypeId × Value → H} {P : Program} {W W' : World}

theorem below_trodAll (hl : laidOutB P = true) : ∀ (ts : List TypeId) (vs : List Value) (ds : List (DataW H)) (ps : List MemPlace), (∀ t ∈ ts, P.readableRec t = true ∧ t < P.types.size) →
    DataW.TrodAll enc P W 0 (fun _ => true) true ts vs ds ps → Ext W W' → (∀ x ∈ ps, x.block < W.heap.size) → DataW.TrodAll enc P W' 0 (fun b => decide (b < W.heap.size)) true ts vs ds ps
  | [], vs, ds, ps, _, h, _, _ => by
    obtain ⟨rfl, rfl, rfl⟩ := trodAll_nil h
    exact trodAll_mk0
  | t :: ts, vs, ds, ps, hr, h, he, hlt => by
    obtain ⟨v, vs', d, ds', p, q, rfl, rfl, rfl, h1, h2⟩ := trodAll_cons h
    exact trodAll_cons_mk (Below.trod hl (hr t (by simp)).1 (hr t (by simp)).2 h1 he (fun x hx => hlt x (by simp [hx]))) (below_trodAll hl ts vs' ds' q (fun t ht => hr t (by simp [ht])) h2 he (fun x hx => hlt x (by simp [hx])))

/-- a law that returned true and left old memory alone meets its form -/
theorem law_post {f : Func} {s : ChangeSpec} {b : TypeId} {apart fresh handsOn : Bool} {args : Array Value} {ds gs : List (DataW H)} {before : List MemPlace} (hl : laidOutB P = true) (hr : f.params.toList.all (fun t => P.readableRec t && decide (t < P.types.size)) = true)
    (hres : f.resultTypes = #[b]) (hb : P.underlying b = some .bool) (hv : s.vars = []) (hs : s.fn H (ds ++ gs) = { results := [.lit (.bool true)], args := ds }) (hW : DataW.Whole enc P f.params.toList s.vars apart W args.toList ds gs before) (he : Ext W W') :
    s.post enc P f apart fresh handsOn false W args (.bool true) W' := by
  have hlt := hW.lt
  obtain ⟨p, q, hA, hV, rfl, hfz, hnd⟩ := id hW
  rw [hv] at hV
  obtain ⟨rfl, rfl⟩ := trodVars_none hV
  rw [List.append_nil] at hs
  have e1 : (s.fn H ds).results = [.lit (.bool true)] := by rw [hs]
  have e2 : (s.fn H ds).args = ds := by rw [hs]
  have e3 : (s.fn H ds).vars = [] := by rw [hs]
  refine ⟨ds, [], _, [], p, [], hW, ?_, ?_, ?_, he.frame _, fun h => by cases h⟩
  · rw [List.append_nil, e1, hres]
    exact trodAll_mk1 (shut_bool hb _)
  · rw [List.append_nil, e2]
    refine below_trodAll hl _ _ _ _ (fun t ht => ?_) hA he (fun x hx => hlt x (by simp [hx]))
    have := List.all_eq_true.1 hr t ht
    simpa using this
  · rw [List.append_nil, e3, hv]
    rfl

theorem El.cells {α : Type} (D : El P α) : P.cellsOf D.e = D.m := by
  have h := D.hi
  unfold Program.cellsOf
  cases hi : P.info? D.e with
  | none => rw [hi] at h; simp at h
  | some i =>
    rw [hi] at h
    simp only [Option.map_some, Option.some.injEq, Prod.mk.injEq] at h
    simp [h.2.1]

/-- a slice among the arguments, opened as a list; R: what is known of each element beside what it reads as -/
theorem open_sl {α : Type} (D : El P α) (R : α → DataW H → Prop) (hRd : ∀ n cs d pl, cs.length = D.m → DataW.trod enc P W 0 (fun _ => true) true n D.e cs = some (d, pl) → ∃ x, cs = D.E x ∧ R x d)
    {n : Nat} {cs : List Value} {d : DataW H} {pl : List MemPlace} (h : DataW.trod enc P W 0 (fun _ => true) true n D.t cs = some (d, pl)) :
    ∃ (A : Option Addr) (c : Nat) (xs : List α) (ds sp : List (DataW H)), cs = [.slice A xs.length c] ∧ xs.length ≤ c ∧ c ≤ maxLen ∧ Sl D W A xs ∧ (d = .nil ∧ xs = [] ∧ ds = [] ∧ sp = [] ∧ A = none ∧ c = 0 ∨ d = .slice ds sp) ∧ ds.length = xs.length ∧ sp.length = c - xs.length ∧ ∀ (k : Nat) (x : α) (y : DataW H), xs[k]? = some x → ds[k]? = some y → R x y := by
  rcases open_slice D.ht h with ⟨rfl, hx⟩ | ⟨a, len, cap, m, n', Ds, Pl, rfl, -, hl, hm, hmm, hx, hel⟩
  · simp only [Prod.mk.injEq] at hx
    exact ⟨none, 0, [], [], [], rfl, Nat.le_refl _, by decide, Sl.nil, .inl ⟨hx.1, rfl, rfl, rfl, rfl, rfl⟩, rfl, rfl, fun k x y h => by simp at h⟩
  · simp only [if_true] at hmm
    subst hmm
    have key : ∀ i, i < len → ∃ x, W.cells? 0 (a.add (i * P.cellsOf D.e)) (P.cellsOf D.e) = some (D.E x) ∧ R x (Ds i) := by
      intro i hi
      obtain ⟨cs', h1, h2⟩ := hel i (by omega)
      obtain ⟨-, h3, -⟩ := World.cells?_some h1
      obtain ⟨x, rfl, hx'⟩ := hRd _ _ _ _ (by rw [h3, El.cells]) h2
      exact ⟨x, h1, hx'⟩
    simp only [Prod.mk.injEq] at hx
    rcases Nat.eq_zero_or_pos len with h0 | h0
    · subst h0
      exact ⟨some a, m, [], [], (List.range (m - 0)).map fun j => Ds (0 + j), rfl, hl, hm, Sl.nil, .inr hx.1, rfl, by simp, fun k x y h => by simp at h⟩
    · obtain ⟨x0, hx0, -⟩ := key 0 h0
      haveI : Inhabited α := ⟨x0⟩
      obtain ⟨X, hX⟩ := choose_lt key
      obtain ⟨-, -, hc0⟩ := World.cells?_some hx0
      have hsp : a.spot = none := by
        have h1 := hc0 0 (by rw [El.cells]; exact D.hm)
        have hlen := D.hE x0
        have hm0 := D.hm
        rw [List.getElem?_eq_getElem (by omega)] at h1
        have := World.cell?_spot h1
        simpa [Addr.add] using this
      obtain ⟨b, off, spot⟩ := a
      simp only at hsp
      subst hsp
      have hcell : ∀ i, i < len → ∀ j u, (D.E (X i))[j]? = some u → W.cell? ⟨b, off + (i * D.m + j), none⟩ = some u := by
        intro i hi j u hu
        have h1 := (hX i hi).1
        obtain ⟨-, h3, h4⟩ := World.cells?_some h1
        have hj : j < P.cellsOf D.e := by
          have := (List.getElem?_eq_some_iff.1 hu).1
          omega
        have h5 := h4 j hj
        rw [hu, El.cells, add_plain, add_plain, Nat.add_assoc] at h5
        exact h5
      refine ⟨some ⟨b, off, none⟩, m, (List.range len).map X, (List.range len).map Ds, (List.range (m - len)).map fun j => Ds (len + j), by simp, by simpa using hl, hm, ?_, .inr hx.1, by simp, by simp, ?_⟩
      · intro _
        refine ⟨b, off, rfl, ?_, ?_⟩
        · have hm0 := D.hm
          have hlen := D.hE (X 0)
          have h6 := hcell 0 h0 0 _ (List.getElem?_eq_getElem (by omega))
          unfold World.cell? at h6
          simp only at h6
          rcases Nat.lt_or_ge b W.heap.size with hlt | hge
          · exact hlt
          · rw [Array.getElem?_eq_none hge] at h6; simp at h6
        · intro j u hu
          have hm0 := D.hm
          have hjl : j < len * D.m := by
            have := (List.getElem?_eq_some_iff.1 hu).1
            rw [D.flat_length] at this
            simpa using this
          have hi : j / D.m < len := Nat.div_lt_of_lt_mul (by rw [Nat.mul_comm]; exact hjl)
          have hj : j = j / D.m * D.m + j % D.m := by rw [Nat.mul_comm]; exact (Nat.div_add_mod j D.m).symm
          have hjm : j % D.m < D.m := Nat.mod_lt _ hm0
          have hlen := D.hE (X (j / D.m))
          have h7 := D.flat_get ((List.range len).map X) (j / D.m) (j % D.m) (X (j / D.m)) _ (by simp [hi]) (List.getElem?_eq_getElem (by omega))
          rw [← hj, hu] at h7
          have h8 := hcell _ hi (j % D.m) u (by rw [List.getElem?_eq_getElem (by omega), ← h7])
          rw [← hj] at h8
          exact h8
      · intro k x y hx1 hy1
        rw [List.getElem?_map] at hx1 hy1
        cases hk : (List.range len)[k]? with
        | none => rw [hk] at hx1; simp at hx1
        | some i =>
          rw [hk] at hx1 hy1
          simp only [Option.map_some, Option.some.injEq] at hx1 hy1
          subst hx1; subst hy1
          have : i < len := by
            have := List.mem_of_getElem? hk
            simpa using this
          exact (hX i this).2
end

/-- an int's reading -/
def RInt {H : Type} (n : Int) (d : DataW H) : Prop := d = .lit (.int .i64 n) ∧ -9223372036854775808 ≤ n ∧ n ≤ 9223372036854775807
theorem wf_i64 {n : Int} (h : (Lit.int .i64 n).wf = true) : -9223372036854775808 ≤ n ∧ n ≤ 9223372036854775807 := by
  simpa [Lit.wf, IntKind.min, IntKind.max, IntKind.signed, IntKind.bits] using h
theorem rd_int {H : Type} {enc : TypeId × Value → H} {W : World} : ∀ n cs (d : DataW H) pl, cs.length = intEl.m → DataW.trod enc Try.prog W 0 (fun _ => true) true n intEl.e cs = some (d, pl) → ∃ x, cs = intEl.E x ∧ RInt x d := fun _ _ _ _ _ h => by
  obtain ⟨s, rfl, hx, hs⟩ := DataW.trod_int Try.underlying3 h
  simp only [Prod.mk.injEq] at hx
  exact ⟨s, rfl, hx.1, wf_i64 hs⟩
theorem own : ownKnob Try.prog.godebug = none := by kernel_rfl
theorem laidOut : laidOutB Try.prog = true := by kernel_rfl

end Go.Proofs.Ytdglijpooodlnaa
