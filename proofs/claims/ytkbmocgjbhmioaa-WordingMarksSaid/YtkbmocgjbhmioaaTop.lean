/- From a walk to the given statement: the arguments' readings opened as lists, the form's post closed. -/
import Derived.Test.YtkbmocgjbhmioaaRows
import Derived.Test.YtkbmocgjbhmioaaBase
import Derived.WalkKit
import Derived.ProofKit
import Derived.OpenShut
import Derived.Deep.Slices
import Derived.JoinedCond
import Derived.Carry
namespace Go.Proofs.Ytkbmocgjbhmioaa
open Go.ChangeShapes Go.WideShapes Go.ChangeAt Go.RowKit Go.Deep

section
variable {H : Type} {enc : TypeId × Value → H} {P : Program} {W W' : World}

theorem below_trodAll (hl : laidOutB P = true) : ∀ (ts : List TypeId) (vs : List Value) (ds : List (DataW H)) (ps : List MemPlace), (∀ t ∈ ts, P.readableRec t = true ∧ t < P.types.size) →
    DataW.TrodAll enc P W 0 (fun _ => true) true ts vs ds ps → Ext W W' → (∀ x ∈ ps, x.block < W.heap.size) → DataW.TrodAll enc P W' 0 (fun b => decide (b < W.heap.size)) true ts vs ds ps
  | [], vs, ds, ps, _, h, _, _ => by
    obtain ⟨rfl, rfl, rfl⟩ := trodAll_nil h
    exact trodAll_mk0
  | t :: ts, vs, ds, ps, hr, h, he, hlt => by
    obtain ⟨v, vs', d, ds', p, q, rfl, rfl, rfl, h1, h2⟩ := trodAll_cons h
    exact trodAll_cons_mk (Below.trod hl (hr t (by simp)).1 (hr t (by simp)).2 h1 he (fun x hx => hlt x (by simp [hx]))) (below_trodAll hl ts vs' ds' q (fun t ht => hr t (by simp [ht])) h2 he (fun x hx => hlt x (by simp [hx])))

/-- a law that returned true and left old memory alone meets its form -/
theorem law_post {f : Func} {s : ChangeSpec} {b : TypeId} {apart fresh handsOn : Bool} {args : Array Value} {ds gs : List (DataW H)} {before : List MemPlace} (hl : laidOutB P = true) (hr : f.params.toList.all (fun t => P.readableRec t && decide (t < P.types.size)) = true)
    (hres : f.resultTypes = #[b]) (hb : P.underlying b = some .bool) (hv : s.vars = []) (hs : s.fn H (ds ++ gs) = { results := [.lit (.bool true)], args := ds }) (hW : DataW.Whole enc P f.params.toList s.vars apart W args.toList ds gs before) (he : Ext W W') :
    s.post enc P f apart fresh handsOn false W args (.bool true) W' := by
  have hlt := hW.lt
  obtain ⟨p, q, hA, hV, rfl, hfz, hnd⟩ := id hW
  rw [hv] at hV
  obtain ⟨rfl, rfl⟩ := trodVars_none hV
  rw [List.append_nil] at hs
  have e1 : (s.fn H ds).results = [.lit (.bool true)] := by rw [hs]
  have e2 : (s.fn H ds).args = ds := by rw [hs]
  have e3 : (s.fn H ds).vars = [] := by rw [hs]
  refine ⟨ds, [], _, [], p, [], hW, ?_, ?_, ?_, he.frame _, fun h => by cases h⟩
  · rw [List.append_nil, e1, hres]
    exact trodAll_mk1 (shut_bool hb _)
  · rw [List.append_nil, e2]
    refine below_trodAll hl _ _ _ _ (fun t ht => ?_) hA he (fun x hx => hlt x (by simp [hx]))
    have := List.all_eq_true.1 hr t ht
    simpa using this
  · rw [List.append_nil, e3, hv]
    rfl

theorem El.cells {α : Type} (D : El P α) : P.cellsOf D.e = D.m := by
  have h := D.hi
  unfold Program.cellsOf
  cases hi : P.info? D.e with
  | none => rw [hi] at h; simp at h
  | some i =>
    rw [hi] at h
    simp only [Option.map_some, Option.some.injEq, Prod.mk.injEq] at h
    simp [h.2.1]

/-- a slice among the arguments, opened as a list; R: what is known of each element beside what it reads as -/
theorem open_sl {α : Type} (D : El P α) (R : α → DataW H → Prop) (hRd : ∀ n cs d pl, cs.length = D.m → DataW.trod enc P W 0 (fun _ => true) true n D.e cs = some (d, pl) → ∃ x, cs = D.E x ∧ R x d)
    {n : Nat} {cs : List Value} {d : DataW H} {pl : List MemPlace} (h : DataW.trod enc P W 0 (fun _ => true) true n D.t cs = some (d, pl)) :
    ∃ (A : Option Addr) (c : Nat) (xs : List α) (ds sp : List (DataW H)), cs = [.slice A xs.length c] ∧ xs.length ≤ c ∧ c ≤ maxLen ∧ Sl D W A xs ∧ (d = .nil ∧ xs = [] ∧ ds = [] ∧ sp = [] ∧ A = none ∧ c = 0 ∨ d = .slice ds sp) ∧ ds.length = xs.length ∧ sp.length = c - xs.length ∧ ∀ (k : Nat) (x : α) (y : DataW H), xs[k]? = some x → ds[k]? = some y → R x y := by
  rcases open_slice D.ht h with ⟨rfl, hx⟩ | ⟨a, len, cap, m, n', Ds, Pl, rfl, -, hl, hm, hmm, hx, hel⟩
  · simp only [Prod.mk.injEq] at hx
    exact ⟨none, 0, [], [], [], rfl, Nat.le_refl _, by decide, Sl.nil, .inl ⟨hx.1, rfl, rfl, rfl, rfl, rfl⟩, rfl, rfl, fun k x y h => by simp at h⟩
  · simp only [if_true] at hmm
    subst hmm
    have key : ∀ i, i < len → ∃ x, W.cells? 0 (a.add (i * P.cellsOf D.e)) (P.cellsOf D.e) = some (D.E x) ∧ R x (Ds i) := by
      intro i hi
      obtain ⟨cs', h1, h2⟩ := hel i (by omega)
      obtain ⟨-, h3, -⟩ := World.cells?_some h1
      obtain ⟨x, rfl, hx'⟩ := hRd _ _ _ _ (by rw [h3, El.cells]) h2
      exact ⟨x, h1, hx'⟩
    simp only [Prod.mk.injEq] at hx
    rcases Nat.eq_zero_or_pos len with h0 | h0
    · subst h0
      exact ⟨some a, m, [], [], (List.range (m - 0)).map fun j => Ds (0 + j), rfl, hl, hm, Sl.nil, .inr hx.1, rfl, by simp, fun k x y h => by simp at h⟩
    · obtain ⟨x0, hx0, -⟩ := key 0 h0
      haveI : Inhabited α := ⟨x0⟩
      obtain ⟨X, hX⟩ := choose_lt key
      obtain ⟨-, -, hc0⟩ := World.cells?_some hx0
      have hsp : a.spot = none := by
        have h1 := hc0 0 (by rw [El.cells]; exact D.hm)
        have hlen := D.hE x0
        have hm0 := D.hm
        rw [List.getElem?_eq_getElem (by omega)] at h1
        have := World.cell?_spot h1
        simpa [Addr.add] using this
      obtain ⟨b, off, spot⟩ := a
      simp only at hsp
      subst hsp
      have hcell : ∀ i, i < len → ∀ j u, (D.E (X i))[j]? = some u → W.cell? ⟨b, off + (i * D.m + j), none⟩ = some u := by
        intro i hi j u hu
        have h1 := (hX i hi).1
        obtain ⟨-, h3, h4⟩ := World.cells?_some h1
        have hj : j < P.cellsOf D.e := by
          have := (List.getElem?_eq_some_iff.1 hu).1
          omega
        have h5 := h4 j hj
        rw [hu, El.cells, add_plain, add_plain, Nat.add_assoc] at h5
        exact h5
      refine ⟨some ⟨b, off, none⟩, m, (List.range len).map X, (List.range len).map Ds, (List.range (m - len)).map fun j => Ds (len + j), by simp, by simpa using hl, hm, ?_, .inr hx.1, by simp, by simp, ?_⟩
      · intro _
        refine ⟨b, off, rfl, ?_, ?_⟩
        · have hm0 := D.hm
          have hlen := D.hE (X 0)
          have h6 := hcell 0 h0 0 _ (List.getElem?_eq_getElem (by omega))
          unfold World.cell? at h6
          simp only at h6
          rcases Nat.lt_or_ge b W.heap.size with hlt | hge
          · exact hlt
          · rw [Array.getElem?_eq_none hge] at h6; simp at h6
        · intro j u hu
          have hm0 := D.hm
          have hjl : j < len * D.m := by
            have := (List.getElem?_eq_some_iff.1 hu).1
            rw [D.flat_length] at this
            simpa using this
          have hi : j / D.m < len := Nat.div_lt_of_lt_mul (by rw [Nat.mul_comm]; exact hjl)
          have hj : j = j / D.m * D.m + j % D.m := by rw [Nat.mul_comm]; exact (Nat.div_add_mod j D.m).symm
          have hjm : j % D.m < D.m := Nat.mod_lt _ hm0
          have hlen := D.hE (X (j / D.m))
          have h7 := D.flat_get ((List.range len).map X) (j / D.m) (j % D.m) (X (j / D.m)) _ (by simp [hi]) (List.getElem?_eq_getElem (by omega))
          rw [← hj, hu] at h7
          have h8 := hcell _ hi (j % D.m) u (by rw [List.getElem?_eq_getElem (by omega), ← h7])
          rw [← hj] at h8
          exact h8
      · intro k x y hx1 hy1
        rw [List.getElem?_map] at hx1 hy1
        cases hk : (List.range len)[k]? with
        | none => rw [hk] at hx1; simp at hx1
        | some i =>
          rw [hk] at hx1 hy1
          simp only [Option.map_some, Option.some.injEq] at hx1 hy1
          subst hx1; subst hy1
          have : i < len := by
            have := List.mem_of_getElem? hk
            simpa using this
          exact (hX i this).2
end

/-- a string's reading -/
def RStr {H : Type} (s : ByteArray) (d : DataW H) : Prop := d = .lit (.string s.data.toList) ∧ s.size ≤ maxLen
/-- an int's reading -/
def RInt {H : Type} (n : Int) (d : DataW H) : Prop := d = .lit (.int .i64 n) ∧ -9223372036854775808 ≤ n ∧ n ≤ 9223372036854775807
theorem wf_i64 {n : Int} (h : (Lit.int .i64 n).wf = true) : -9223372036854775808 ≤ n ∧ n ≤ 9223372036854775807 := by
  simpa [Lit.wf, IntKind.min, IntKind.max, IntKind.signed, IntKind.bits] using h

section
variable {H : Type} {enc : TypeId × Value → H} {W : World}
theorem rd_str : ∀ n cs (d : DataW H) pl, cs.length = strEl.m → DataW.trod enc Try.prog W 0 (fun _ => true) true n strEl.e cs = some (d, pl) → ∃ x, cs = strEl.E x ∧ RStr x d := by
  intro n cs d pl _ h
  obtain ⟨s, rfl, hx, hs⟩ := DataW.trod_string Try.underlying9 h
  simp only [Prod.mk.injEq] at hx
  exact ⟨s, rfl, hx.1, hs⟩
theorem rd_int : ∀ n cs (d : DataW H) pl, cs.length = intEl.m → DataW.trod enc Try.prog W 0 (fun _ => true) true n intEl.e cs = some (d, pl) → ∃ x, cs = intEl.E x ∧ RInt x d := by
  intro n cs d pl _ h
  obtain ⟨s, rfl, hx, hs⟩ := DataW.trod_int Try.underlying3 h
  simp only [Prod.mk.injEq] at hx
  exact ⟨s, rfl, hx.1, wf_i64 hs⟩

/-- a word's reading -/
def RWord (x : GWord) (d : DataW H) : Prop := d = .agg [.lit (.string x.t.data.toList), .agg [.lit (.int .i64 x.a), .lit (.int .i64 x.i), .lit (.int .i64 x.k)]] ∧ x.t.size ≤ maxLen ∧ (-9223372036854775808 ≤ x.a ∧ x.a ≤ 9223372036854775807) ∧ (-9223372036854775808 ≤ x.i ∧ x.i ≤ 9223372036854775807) ∧ (-9223372036854775808 ≤ x.k ∧ x.k ≤ 9223372036854775807)
set_option maxRecDepth 100000 in
theorem rd_mark (n : Nat) (cs : List Value) (x : DataW H × List MemPlace) (h : DataW.trod enc Try.prog W 0 (fun _ => true) true n 57 cs = some x) :
    ∃ a i k, cs = [.int .i64 a, .int .i64 i, .int .i64 k] ∧ x.1 = .agg [.lit (.int .i64 a), .lit (.int .i64 i), .lit (.int .i64 k)] ∧ (-9223372036854775808 ≤ a ∧ a ≤ 9223372036854775807) ∧ (-9223372036854775808 ≤ i ∧ i ≤ 9223372036854775807) ∧ (-9223372036854775808 ≤ k ∧ k ≤ 9223372036854775807) := by
  obtain ⟨xs, m, rfl, rfl, hlen, hxl, hf⟩ := DataW.trod_struct Try.underlying57 h
  have hc : Try.prog.cellsOf 57 = 3 := by kernel_rfl
  have hi : Try.prog.cellsOf 3 = 1 := by kernel_rfl
  rw [hc] at hlen
  match cs, hlen with
  | [c0, c1, c2], _ =>
    match xs, hxl with
    | [x0, x1, x2], _ =>
      have f0 : DataW.trod enc Try.prog W 0 (fun _ => true) true m 3 (([c0, c1, c2].drop 0).take (Try.prog.cellsOf 3)) = some x0 := hf 0 _ rfl
      have f1 : DataW.trod enc Try.prog W 0 (fun _ => true) true m 3 (([c0, c1, c2].drop 1).take (Try.prog.cellsOf 3)) = some x1 := hf 1 _ rfl
      have f2 : DataW.trod enc Try.prog W 0 (fun _ => true) true m 3 (([c0, c1, c2].drop 2).take (Try.prog.cellsOf 3)) = some x2 := hf 2 _ rfl
      rw [hi] at f0 f1 f2
      obtain ⟨a, ha, rfl, wa⟩ := DataW.trod_int Try.underlying3 f0
      obtain ⟨i, hi', rfl, wi⟩ := DataW.trod_int Try.underlying3 f1
      obtain ⟨k, hk, rfl, wk⟩ := DataW.trod_int Try.underlying3 f2
      simp only [List.drop_zero, List.drop_succ_cons, List.take_succ_cons, List.take_zero, List.cons.injEq, and_true] at ha hi' hk
      subst ha; subst hi'; subst hk
      exact ⟨a, i, k, rfl, rfl, wf_i64 wa, wf_i64 wi, wf_i64 wk⟩
set_option maxRecDepth 100000 in
theorem rd_word : ∀ n cs (d : DataW H) pl, cs.length = wordEl.m → DataW.trod enc Try.prog W 0 (fun _ => true) true n wordEl.e cs = some (d, pl) → ∃ x, cs = wordEl.E x ∧ RWord x d := by
  intro n cs d pl hcs h
  obtain ⟨xs, m, rfl, hx, hlen, hxl, hf⟩ := DataW.trod_struct Try.underlying59 h
  have hi : Try.prog.cellsOf 9 = 1 := by kernel_rfl
  have hm : Try.prog.cellsOf 57 = 3 := by kernel_rfl
  change cs.length = 4 at hcs
  match cs, hcs with
  | [c0, c1, c2, c3], _ =>
    match xs, hxl with
    | [x0, x1], _ =>
      have f0 : DataW.trod enc Try.prog W 0 (fun _ => true) true m 9 (([c0, c1, c2, c3].drop 0).take (Try.prog.cellsOf 9)) = some x0 := hf 0 _ rfl
      have f1 : DataW.trod enc Try.prog W 0 (fun _ => true) true m 57 (([c0, c1, c2, c3].drop 1).take (Try.prog.cellsOf 57)) = some x1 := hf 1 _ rfl
      rw [hi] at f0
      rw [hm] at f1
      obtain ⟨s, hs, rfl, ws⟩ := DataW.trod_string Try.underlying9 f0
      obtain ⟨a, i, k, hc, hd, wa, wi, wk⟩ := rd_mark _ _ _ f1
      simp only [List.drop_zero, List.drop_succ_cons, List.take_succ_cons, List.take_zero, List.cons.injEq, and_true] at hs hc
      obtain ⟨rfl, rfl, rfl⟩ := hc
      subst hs
      simp only [Prod.mk.injEq, List.map_cons, List.map_nil, hd] at hx
      exact ⟨⟨s, a, i, k⟩, rfl, hx.1, ws, wa, wi, wk⟩
end

/-! ### the second form's bound -/
theorem bulk_pos {H : Type} (d : DataW H) : 0 < Rows.uptoBulk d := by
  cases d with
  | lit l => cases l <;> simp [Rows.uptoBulk]
  | _ => simp [Rows.uptoBulk]
theorem bulk_len {H : Type} : ∀ l : List (DataW H), l.length ≤ Rows.uptoBulkAll l
  | [] => Nat.zero_le _
  | d :: l => by
    have := bulk_len l
    have := bulk_pos d
    simp only [Rows.uptoBulkAll, List.length_cons]
    omega
theorem bulk_mem {H : Type} {d : DataW H} : ∀ {l : List (DataW H)}, d ∈ l → Rows.uptoBulk d ≤ Rows.uptoBulkAll l
  | [], h => by cases h
  | e :: l, h => by
    simp only [Rows.uptoBulkAll]
    rcases List.mem_cons.1 h with rfl | h
    · omega
    · have := bulk_mem h
      omega
theorem bulk_of {H : Type} {l : List (DataW H)} (hk : Rows.uptoSmall H l = true) : Rows.uptoBulkAll l ≤ 1048576 := of_decide_eq_true hk
theorem bulk_sl {H : Type} {d : DataW H} {ds sp : List (DataW H)} {l : List (DataW H)} {p : Prop} {n B : Nat} (hd : d = .nil ∧ p ∨ d = .slice ds sp) (hn : ds.length = n) (h0 : p → n = 0) (hb : Rows.uptoBulkAll l ≤ B) (hm : d ∈ l) : n ≤ B := by
  rcases hd with ⟨rfl, hp⟩ | rfl
  · rw [h0 hp]; exact Nat.zero_le _
  · have h1 := bulk_mem hm
    have h2 := bulk_len ds
    simp only [Rows.uptoBulk] at h1
    omega
theorem own : ownKnob Try.prog.godebug = none := by kernel_rfl
theorem laidOut : laidOutB Try.prog = true := by kernel_rfl

end Go.Proofs.Ytkbmocgjbhmioaa
