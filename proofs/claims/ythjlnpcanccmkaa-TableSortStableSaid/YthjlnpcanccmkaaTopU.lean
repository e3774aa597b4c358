/- A unit among the arguments, opened as a tree. -/
import Derived.Test.YthjlnpcanccmkaaTop
import Derived.Test.YthjlnpcanccmkaaTree
namespace Go.Proofs.Ythjlnpcanccmkaa
open Go.ChangeShapes Go.WideShapes Go.ChangeAt Go.RowKit Go.Deep

section
variable {H : Type} {enc : TypeId × Value → H} {W : World}

theorem slice_cells {α : Type} (D : El Try.prog α) {n : Nat} {cs : List Value} {x : DataW H × List MemPlace} (h : DataW.trod enc Try.prog W 0 (fun _ => true) true n D.t cs = some x) : ∃ A l c, cs = [.slice A l c] := by
  rcases open_slice D.ht h with ⟨rfl, _⟩ | ⟨a, len, cap, _, _, _, _, rfl, _⟩
  · exact ⟨_, _, _, rfl⟩
  · exact ⟨_, _, _, rfl⟩
set_option maxRecDepth 100000 in
theorem rd_id (n : Nat) (cs : List Value) (x : DataW H × List MemPlace) (h : DataW.trod enc Try.prog W 0 (fun _ => true) true n 23 cs = some x) :
    ∃ a i k, cs = [.int .i64 a, .int .i64 i, .int .i64 k] := by
  obtain ⟨xs, m, rfl, rfl, hlen, hxl, hf⟩ := DataW.trod_struct Try.underlying23 h
  have hc : Try.prog.cellsOf 23 = 3 := by kernel_rfl
  have hi : Try.prog.cellsOf 3 = 1 := by kernel_rfl
  rw [hc] at hlen
  match cs, hlen with
  | [c0, c1, c2], _ =>
    match xs, hxl with
    | [x0, x1, x2], _ =>
      have f0 : DataW.trod enc Try.prog W 0 (fun _ => true) true m 3 (([c0, c1, c2].drop 0).take (Try.prog.cellsOf 3)) = some x0 := hf 0 _ rfl
      have f1 : DataW.trod enc Try.prog W 0 (fun _ => true) true m 3 (([c0, c1, c2].drop 1).take (Try.prog.cellsOf 3)) = some x1 := hf 1 _ rfl
      have f2 : DataW.trod enc Try.prog W 0 (fun _ => true) true m 3 (([c0, c1, c2].drop 2).take (Try.prog.cellsOf 3)) = some x2 := hf 2 _ rfl
      rw [hi] at f0 f1 f2
      obtain ⟨a, ha, rfl, wa⟩ := DataW.trod_int Try.underlying3 f0
      obtain ⟨i, hi', rfl, wi⟩ := DataW.trod_int Try.underlying3 f1
      obtain ⟨k, hk, rfl, wk⟩ := DataW.trod_int Try.underlying3 f2
      simp only [List.drop_zero, List.drop_succ_cons, List.take_succ_cons, List.take_zero, List.cons.injEq, and_true] at ha hi' hk
      subst ha; subst hi'; subst hk
      exact ⟨a, i, k, rfl⟩

/-- a unit's cells, and what is read of its three slices -/
def UnitParts (enc : TypeId × Value → H) (W : World) (r : RUnit) (d : DataW H) : Prop :=
  ∃ d0 d1 d2 dh dw dk, d = .agg [d0, d1, d2, dh, dw, dk] ∧ (∃ m p, DataW.trod enc Try.prog W 0 (fun _ => true) true m wordEl.t [.slice r.hA r.hn r.hc] = some (dh, p)) ∧ (∃ m p, DataW.trod enc Try.prog W 0 (fun _ => true) true m wordEl.t [.slice r.wA r.wn r.wc] = some (dw, p)) ∧
    (∃ m p, DataW.trod enc Try.prog W 0 (fun _ => true) true m unitEl.t [.slice r.kA r.kn r.kc] = some (dk, p))
set_option maxRecDepth 100000 in
theorem unit_parts (n : Nat) (cs : List Value) (d : DataW H) (pl : List MemPlace) (hcs : cs.length = 8) (h : DataW.trod enc Try.prog W 0 (fun _ => true) true n 27 cs = some (d, pl)) :
    ∃ r : RUnit, cs = r.cells ∧ UnitParts enc W r d := by
  obtain ⟨xs, m, rfl, hx, hlen, hxl, hf⟩ := DataW.trod_struct Try.underlying27 h
  have hI : Try.prog.cellsOf 23 = 3 := by kernel_rfl
  have hi : Try.prog.cellsOf 3 = 1 := by kernel_rfl
  have hs : Try.prog.cellsOf 9 = 1 := by kernel_rfl
  have hw : Try.prog.cellsOf 24 = 1 := by kernel_rfl
  have hu : Try.prog.cellsOf 25 = 1 := by kernel_rfl
  match cs, hcs with
  | [c0, c1, c2, c3, c4, c5, c6, c7], _ =>
    match xs, hxl with
    | [x0, x1, x2, x3, x4, x5], _ =>
      have f0 : DataW.trod enc Try.prog W 0 (fun _ => true) true m 23 (([c0, c1, c2, c3, c4, c5, c6, c7].drop 0).take (Try.prog.cellsOf 23)) = some x0 := hf 0 _ rfl
      have f1 : DataW.trod enc Try.prog W 0 (fun _ => true) true m 3 (([c0, c1, c2, c3, c4, c5, c6, c7].drop 3).take (Try.prog.cellsOf 3)) = some x1 := hf 1 _ rfl
      have f2 : DataW.trod enc Try.prog W 0 (fun _ => true) true m 9 (([c0, c1, c2, c3, c4, c5, c6, c7].drop 4).take (Try.prog.cellsOf 9)) = some x2 := hf 2 _ rfl
      have f3 : DataW.trod enc Try.prog W 0 (fun _ => true) true m wordEl.t (([c0, c1, c2, c3, c4, c5, c6, c7].drop 5).take (Try.prog.cellsOf 24)) = some x3 := hf 3 _ rfl
      have f4 : DataW.trod enc Try.prog W 0 (fun _ => true) true m wordEl.t (([c0, c1, c2, c3, c4, c5, c6, c7].drop 6).take (Try.prog.cellsOf 24)) = some x4 := hf 4 _ rfl
      have f5 : DataW.trod enc Try.prog W 0 (fun _ => true) true m unitEl.t (([c0, c1, c2, c3, c4, c5, c6, c7].drop 7).take (Try.prog.cellsOf 25)) = some x5 := hf 5 _ rfl
      rw [hI] at f0
      rw [hi] at f1
      rw [hs] at f2
      rw [hw] at f3 f4
      rw [hu] at f5
      simp only [List.drop_zero, List.drop_succ_cons, List.take_succ_cons, List.take_zero] at f0 f1 f2 f3 f4 f5
      obtain ⟨a, i, k, h0⟩ := rd_id _ _ _ f0
      obtain ⟨kd, h1, rfl, _⟩ := DataW.trod_int Try.underlying3 f1
      obtain ⟨lb, h2, rfl, _⟩ := DataW.trod_string Try.underlying9 f2
      obtain ⟨hA, hn, hc, h3⟩ := slice_cells wordEl f3
      obtain ⟨wA, wn, wc, h4⟩ := slice_cells wordEl f4
      obtain ⟨kA, kn, kc, h5⟩ := slice_cells unitEl f5
      simp only [List.cons.injEq, and_true] at h0 h1 h2 h3 h4 h5
      obtain ⟨rfl, rfl, rfl⟩ := h0
      subst h1 h2 h3 h4 h5
      simp only [Prod.mk.injEq, List.map_cons, List.map_nil] at hx
      obtain ⟨x3a, x3b⟩ := x3
      obtain ⟨x4a, x4b⟩ := x4
      obtain ⟨x5a, x5b⟩ := x5
      exact ⟨⟨a, i, k, kd, lb, hA, hn, hc, wA, wn, wc, kA, kn, kc⟩, rfl, _, _, _, _, _, _, hx.1, ⟨m, _, f3⟩, ⟨m, _, f4⟩, ⟨m, _, f5⟩⟩

theorem readsAll_of {p : GUnit → Prop} : ∀ (rs : List RUnit), (∀ (k : Nat) (r : RUnit), rs[k]? = some r → ∃ u, Reads W u r ∧ AllU p u) → ∃ us, ReadsAll W us rs ∧ AllUs p us
  | [], _ => ⟨[], by rw [ReadsAll]; trivial, by rw [AllUs]; trivial⟩
  | r :: rs, h => by
    obtain ⟨u, h1, h2⟩ := h 0 r rfl
    obtain ⟨us, h3, h4⟩ := readsAll_of rs fun k q hq => h (k + 1) q (by simpa using hq)
    exact ⟨u :: us, by rw [ReadsAll]; exact ⟨h1, h3⟩, by rw [AllUs]; exact ⟨h2, h4⟩⟩

theorem maxLen_le : maxLen ≤ 9223372036854775807 := by decide
theorem parts_tree : ∀ (N : Nat) (d : DataW H) (r : RUnit), SizeOf.sizeOf d ≤ N → UnitParts enc W r d → ∃ u, Reads W u r ∧ AllU (lensLe 9223372036854775807 9223372036854775807) u
  | 0, d, r, hN, h => by
    obtain ⟨_, _, _, _, _, _, rfl, _⟩ := h
    simp at hN
  | N + 1, d, r, hN, h => by
    obtain ⟨d0, d1, d2, dh, dw, dk, rfl, ⟨m1, p1, h1⟩, ⟨m2, p2, h2⟩, m3, p3, h3⟩ := h
    obtain ⟨A1, c1, l1, ds1, sp1, e1, hc1, hm1, hs1, -⟩ := open_sl wordEl RWord rd_word h1
    obtain ⟨A2, c2, l2, ds2, sp2, e2, hc2, hm2, hs2, -⟩ := open_sl wordEl RWord rd_word h2
    obtain ⟨A3, c3, l3, ds3, sp3, e3, hc3, hm3, hs3, hd3, hdl3, -, hR3⟩ := open_sl unitEl (UnitParts enc W) (fun n cs d pl hcs h => unit_parts n cs d pl hcs h) h3
    simp only [List.cons.injEq, and_true, Value.slice.injEq] at e1 e2 e3
    obtain ⟨us, hall, hau⟩ := readsAll_of (W := W) (p := lensLe 9223372036854775807 9223372036854775807) l3 fun k q hq => by
      have hk : k < ds3.length := by rw [hdl3]; exact (List.getElem?_eq_some_iff.1 hq).1
      have hdk := List.getElem?_eq_getElem hk
      refine parts_tree N ds3[k] q ?_ (hR3 k q _ hq hdk)
      rcases hd3 with ⟨_, _, h, _⟩ | h
      · subst h; simp at hk
      · subst h
        have a1 := List.sizeOf_lt_of_mem (List.getElem_mem hk)
        simp at hN
        omega
    have hlen := ReadsAll.length hall
    have hmx := maxLen_le
    refine ⟨.mk r.a r.i r.n r.kind r.label l1 l2 us, ?_, ?_⟩
    · rw [Reads]
      exact ⟨⟨rfl, rfl, rfl, rfl, rfl⟩, ⟨e1.2.1, by rw [e1.2.2]; exact hc1, by rw [e1.1]; exact hs1⟩, ⟨e2.2.1, by rw [e2.2.2]; exact hc2, by rw [e2.1]; exact hs2⟩, by rw [e3.2.1, hlen], by rw [e3.2.2, ← hlen]; exact hc3, l3, by rw [e3.1]; exact hs3, hall⟩
    · rw [AllU]
      exact ⟨⟨by omega, by omega, by omega⟩, hau⟩
set_option maxRecDepth 100000 in
theorem open_unit {base : Nat} {v : Value} {d : DataW H} {pl : List MemPlace} (hv : Value.okWide Try.prog W .any base 27 v) (h : ∃ n, DataW.trod enc Try.prog W 0 (fun _ => true) true n 27 v.cells.toList = some (d, pl)) :
    ∃ (r : RUnit) (u : GUnit), v = .agg r.cells.toArray ∧ Reads W u r ∧ AllU (lensLe 9223372036854775807 9223372036854775807) u := by
  obtain ⟨cs, rfl, hsz⟩ := okWide_struct Try.underlying27 hv
  have hc : Try.prog.cellsOf 27 = 8 := by kernel_rfl
  rw [hc] at hsz
  obtain ⟨n, hn⟩ := h
  obtain ⟨r, hr, hp⟩ := unit_parts n _ d pl (by simpa [Value.cells] using hsz) hn
  obtain ⟨u, h1, h2⟩ := parts_tree _ d r (Nat.le_refl _) hp
  refine ⟨r, u, ?_, h1, h2⟩
  rw [← hr]
  simp [Value.cells]
end

end Go.Proofs.Ythjlnpcanccmkaa
