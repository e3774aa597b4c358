/- A map of the call's own from strings to rows of integers. concordance.Index, Find: the pages of every word. -/
import Derived.Test.YtjhdamjbljafhaaGreatDoorP48
import Derived.Maps.GroupsBeside
import Derived.Shelf.SlIter.Nil
namespace Go.Proofs.YtjhdamjbljafhaaGreatDoor
open Go.RowKit Go.Maps Go.WideMaps Go.ChangeShapes Go.ChangeMaps
theorem key_inj8 {s t : ByteArray} (h : t ≠ s) : (Lit.string t.data.toList) ≠ .string s.data.toList := fun e => h (bytesList_inj (by injection e))
theorem strKeyed8 : Keyed Tryz.prog 9 := string_keyed Tryz.underlying9
theorem strKey8 {s : ByteArray} (hs : s.size ≤ maxLen) : keyOf Tryz.prog 9 (.string s) = some (.string s.data.toList) := keyOf_string_mk Tryz.underlying9 hs
theorem isKeyStr8 (l : List UInt8) : WideAt.IsKeyLit (.string l) := by first | trivial | simp [WideAt.IsKeyLit]
def gd (zs : List Int) : DataW Unit := match zs with | [] => .nil | _ => .slice (lits .i64 zs) []
structure GrpS (w : World) (B base n : Nat) (g : ByteArray → List Int) : Prop where
  ex : ∃ D : DataW Unit, w.ownsGroups Tryz.prog 9 base 3 .i64 B n D ∧ (∀ s : ByteArray, D.atKey (.string s.data.toList) .nil = gd (g s)) ∧ ∀ s : ByteArray, has D (.string s.data.toList) = true ↔ g s ≠ []
theorem lits_inj {a b : List Int} (h : lits (H := Unit) .i64 a = lits .i64 b) : a = b := by
  unfold lits at h
  exact (List.map_inj_right (fun x y e => by simpa using e)).1 h
theorem grown_of {w w' : World} (h : Ext w w') : w.grownBy w' none := ⟨h.os, h.tape, h.output, h.size, fun k hk _ => h.block hk⟩
theorem GrpS.lt {w : World} {B base n : Nat} {g : ByteArray → List Int} (h : GrpS w B base n g) : B < w.heap.size ∧ B < base ∧ ∃ es clock, w.heap[B]? = some (.map es clock) := by
  obtain ⟨D, ⟨es, clock, hb, -, -, -, hbb, -⟩, -⟩ := h.ex
  exact ⟨(Array.getElem?_eq_some_iff.1 hb).1, hbb, es, clock, hb⟩
theorem GrpS.kept {w w' : World} {B base n : Nat} {g : ByteArray → List Int} {row : Option Nat} (h : GrpS w B base n g) (hg : w.grownBy w' row) (hr : ∀ k, row = some k → ∃ cur t fr, w.heap[k]? = some (.cells cur t fr) ∧ t ≠ 3) : GrpS w' B base n g := by
  obtain ⟨D, h1, h2, h3⟩ := h.ex
  obtain ⟨-, -, es0, clock0, hb0⟩ := h.lt
  refine ⟨D, h1.kept hg (fun e => ?_) (fun es clock hb x hx => ?_), h2, h3⟩
  · obtain ⟨cur, t, fr, hc, -⟩ := hr B e.symm
    rw [hb0] at hc
    cases hc
  · obtain ⟨es', clock', hb', F, -⟩ := h1
    rw [hb] at hb'
    cases hb'
    obtain ⟨y, hy⟩ := F.reads x hx
    obtain ⟨z, hz, _⟩ := WideElems.rd_val hy
    obtain ⟨zs, hoi, _⟩ := rowElem_inv hz
    cases ho : x.val.ownBlock with
    | none => exact .inl rfl
    | some j =>
      right
      intro e
      obtain ⟨cur, t, fr, hc, ht⟩ := hr j e.symm
      rcases hoi.1.2 with ⟨hv, -⟩ | ⟨j', cap, cur', hv, -, hh, -⟩
      · rw [hv] at ho; cases ho
      · rw [hv] at ho
        cases ho
        rw [hh] at hc
        cases hc
        exact ht rfl
theorem GrpS.ext {w w' : World} {B base n : Nat} {g : ByteArray → List Int} (h : GrpS w B base n g) (he : Ext w w') : GrpS w' B base n g := h.kept (grown_of he) (fun k e => by cases e)
theorem GrpS.made (w : World) : GrpS (w.alloc (.map #[] 0)) w.heap.size (w.heap.size + 1) 0 (fun _ => []) := ⟨_, World.ownsGroups_made _ _ _ _ _, fun _ => rfl, fun _ => by simp [has]⟩
theorem gd_of {q : Value} {zs zs2 : List Int} {w : World} {base : Nat} (h : gd zs2 = rowDatum .i64 q zs) (ho : w.ownsInts base 3 .i64 q zs) : zs = zs2 := by
  rcases ho.datum (H := Unit) with ⟨h1, h2⟩ | h1
  · rw [h1] at h
    cases zs2 with
    | nil => exact h2
    | cons z t => simp [gd] at h
  · rw [h1] at h
    cases zs2 with
    | nil => simp [gd] at h
    | cons z t =>
      simp only [gd, DataW.slice.injEq, and_true] at h
      exact (lits_inj h).symm
theorem ints_own {w : World} {base : Nat} {v : Value} {zs : List Int} : w.ownsInts base 3 .i64 v zs ↔ Own intEl base w v zs ∧ ∀ z ∈ zs, (Lit.int .i64 z).wf = true := by
  unfold World.ownsInts Own
  rw [flat_int]
  exact Iff.rfl
section
variable {w : World} {B base n : Nat} {g : ByteArray → List Int} {ops : Array Oper} {rest : List Oper} {o : Oper} {a : Act} {Q : Exit → Act → World → Prop}
theorem wpList_lookGrp (hg : o.guard = none) (m x : Operand) (hop : o.op = .lookup 59 m x false) (h : GrpS w B base n g) (hn : n ≤ 1000000) (hm : a.eval m = .map (some B)) (s : ByteArray) (hx : a.eval x = .string s) (hs : s.size ≤ 1000000)
    (hK : ∀ v, Own intEl base w v (g s) → (g s).length ≤ n → (∀ z ∈ g s, (Lit.int .i64 z).wf = true) →
      (∀ (w1 : World) (v' : Value) (z : Int), w.grownBy w1 v.ownBlock → Own intEl base w1 v' (g s ++ [z]) → (Lit.int .i64 z).wf = true → (v'.ownBlock = v.ownBlock ∨ ∃ j, v'.ownBlock = some j ∧ w.heap.size ≤ j) →
        ∃ w2, (Instr.mapUpdate 59 (.map (some B)) (.string s) v').run Tryz.prog w1 = .ok () w2 ∧ GrpS w2 B base (n + 1) (fun t => if t = s then g s ++ [z] else g t) ∧ w1.grownBy w2 (some B)) →
      wpList Tryz.prog ops Q rest (a.put o.dst v) w) : wpList Tryz.prog ops Q (o :: rest) a w := by
  obtain ⟨D, h1, h2, h3⟩ := h.ex
  refine wpList_lookup_groups w hg m x _ hop _ _ _ _ strKeyed8 Tryz.underlying59 (by kernel_rfl) base B n D hm h1 (by unfold maxLen; omega) _ _ hx (strKey8 (by unfold maxLen; omega)) fun v zs hat hoi hzl hback => ?_
  rw [h2 s] at hat
  obtain rfl := gd_of hat hoi
  have hoo := ints_own.1 hoi
  refine hK v hoo.1 hzl hoo.2 fun w1 v' z hgr hown hwf hloc => ?_
  obtain ⟨w2, r1, r2, r3⟩ := hback w1 v' (g s ++ [z]) hgr (ints_own.2 ⟨hown, fun y hy => (List.mem_append.1 hy).elim (hoo.2 y) (fun e => by rw [List.mem_singleton.1 e]; exact hwf)⟩) (by rw [List.length_append, List.length_singleton]; omega) hloc
  have hmap : IsMap D := by obtain ⟨es, clock, -, -, -, hD, -⟩ := h1; exact ⟨_, hD⟩
  have hv' : ∃ j c', v' = .slice (some ⟨j, 0, none⟩) (g s ++ [z]).length c' := by
    rcases hown.2 with ⟨-, h0⟩ | ⟨j, cap, cur, hv, -⟩
    · simp at h0
    · exact ⟨j, cap, hv⟩
  refine ⟨w2, r1, ⟨_, r2, fun t => ?_, fun t => ?_⟩, r3⟩
  · by_cases e : t = s
    · subst e
      rw [if_pos rfl, atKey_put_same hmap (isKeyStr8 _)]
      obtain ⟨j, c', rfl⟩ := hv'
      unfold rowDatum gd
      cases hgs : g t <;> rfl
    · rw [if_neg e, atKey_put_other (key_inj8 e)]
      exact h2 t
  · by_cases e : t = s
    · subst e
      rw [if_pos rfl, has_put_same hmap (isKeyStr8 _)]
      simp
    · rw [if_neg e, has_put_other (key_inj8 e)]
      exact h3 t
end
theorem GrpS.map {w : World} {B base n : Nat} {g : ByteArray → List Int} (h : GrpS w B base n g) : ∃ (D : DataW Unit) (R : Value → Option (DataW Unit × List MemPlace)), w.ownsMap Tryz.prog 9 R B n D ∧ ∀ s : ByteArray, s.data.toList ∈ strKeys D ↔ g s ≠ [] := by
  obtain ⟨D, h1, h2, h3⟩ := h.ex
  obtain ⟨es, clock, hb, F, hs, hD, -⟩ := h1
  have hm : w.ownsMap Tryz.prog 9 (rowElem (H := Unit) w base 3 .i64) B n D := ⟨es, clock, hb, F, hs, hD⟩
  refine ⟨D, _, hm, fun s => ?_⟩
  rw [← h3 s]
  obtain ⟨es', rfl, hko⟩ := hm.keysOf
  have hk : ∀ p ∈ es', ∃ x, p.1 = .string x := fun p hp => by
    obtain ⟨v, hv⟩ := hko p hp
    obtain ⟨x, _, hx, _⟩ := Maps.keyOf_str Tryz.underlying9 hv
    exact ⟨x, hx⟩
  rw [has_eq, List.any_eq_true]
  show (s.data.toList ∈ es'.map fun p => strOf p.1) ↔ _
  rw [List.mem_map]
  constructor
  · rintro ⟨p, hp', hs⟩
    obtain ⟨x, ha⟩ := hk p hp'
    exact ⟨p, hp', by rw [ha] at hs ⊢; simpa [Lit.sameKey, strOf] using hs⟩
  · rintro ⟨p, hp', hs⟩
    obtain ⟨x, ha⟩ := hk p hp'
    exact ⟨p, hp', by rw [ha] at hs ⊢; simpa [Lit.sameKey, strOf] using hs⟩
end Go.Proofs.YtjhdamjbljafhaaGreatDoor
namespace Go.Proofs.YtjhdamjbljafhaaGreatDoor
open Go.RowKit Go.Maps Go.WideMaps Go.ChangeShapes Go.ChangeMaps
theorem keys_any (B : Nat) (w : World) : Calls Tryz.prog 23 #[.map (some B)] w fun e w' => e = .returned (.func (.func 42) #[] #[.pointer (some ⟨w.heap.size, 0, none⟩)]) ∧ w' = w.alloc (.cells #[.map (some B)] 59) := by
  have h := (callsIn_wide (n := 5)).1 (AnyZ.keys_in Tryz.keysS Fence.wide 5 trivial rfl (some B) w)
  exact h
theorem sortS_in (m : Nat) : AnyZ.SortsIn Tryz.prog Tryz.sortedS_ren Fence.wide m :=
  ⟨fun blk off cap ss W hH hblk hsz => callsIn_wide.2 (AnyM.slices_Sort_string Tryz.sortS blk off cap ss W hH hblk hsz),
   fun p cap W => callsIn_wide.2 (AnyM.slices_Sort_string_none Tryz.sortS p cap W)⟩
theorem sortedK_any (B base n Bm : Nat) (g : ByteArray → List Int) (w : World) (h : GrpS w B base n g) (hn : n ≤ 1000000) (hBm : Bm < w.heap.size) (hm : w.cell? ⟨Bm, 0, none⟩ = some (.map (some B))) :
    Calls Tryz.prog 22 #[.func (.func 42) #[] #[.pointer (some ⟨Bm, 0, none⟩)]] w fun e w' => ∃ v ks, e = .returned v ∧ Own strEl w.heap.size w' v ks ∧ (∀ s, s ∈ ks ↔ g s ≠ []) ∧ ks.length ≤ n ∧ Ext w w' := by
  obtain ⟨D, R, hown, hk⟩ := h.map
  have hsz : Maps.size D ≤ n := by
    obtain ⟨es, clock, hb, F, hs, rfl⟩ := hown
    rw [size_eq, length_sorted]
    simpa using hs
  have hseq : SeqGives Fence.wide 2 Tryz.prog 42 #[.pointer (some ⟨Bm, 0, none⟩)] encStr (fun ss => ss.Perm (strKeys D)) (Maps.size D) w :=
    AnyZ.keys_gives (ρ := Tryz.keysS_ren) { Tryz.keysS with } Fence.wide _ trivial rfl (by omega) Bm B n D w hBm hm hown
  have cS := AnyZ.sorted_in Tryz.sortedS Fence.wide 5 trivial trivial trivial trivial rfl (by omega) (sortS_in _) (enters_of Tryz.func41 (by kernel_rfl) rfl) 42 #[.pointer (some ⟨Bm, 0, none⟩)] trivial (enters_of Tryz.func42 (by kernel_rfl) rfl) _ _ (by unfold maxLen; omega) (by omega) _ hseq
  change CallsIn _ _ Tryz.prog 22 _ _ _ at cS
  refine ((callsIn_wide (n := 5)).1 cS).mono ?_
  rintro e w' ⟨v, ss, rfl, hS, hrow, -, hb⟩
  refine ⟨v, (ss.mergeSort fun x y => decide (x ≤ y)).map fun l => ⟨l.toArray⟩, rfl, ?_, fun s => ?_, ?_, hb⟩
  · unfold Own
    rw [flat_str, List.length_map, List.length_mergeSort, List.map_map]
    exact hrow
  · rw [← hk s, ← hS.mem_iff, List.mem_map]
    constructor
    · rintro ⟨l, hl, rfl⟩
      simpa using (List.mergeSort_perm ss _).mem_iff.1 hl
    · intro hs
      exact ⟨_, (List.mergeSort_perm ss _).mem_iff.2 hs, by simp⟩
  · rw [List.length_map, List.length_mergeSort, hS.length_eq]
    have : (strKeys D).length = Maps.size D := by
      obtain ⟨es, clock, hb, F, hs, rfl⟩ := hown
      show (List.map _ _).length = _
      rw [List.length_map, size_eq]
    omega
def pushW (n : Int) (g : ByteArray → List Int) (x : ByteArray) : ByteArray → List Int := fun s => if bareF x ≠ ⟨#[]⟩ ∧ s = bareF x then g s ++ [n] else g s
def pushP (g : ByteArray → List Int) (p : GPage) : ByteArray → List Int := (pgWords p).foldl (pushW (p.n : Int)) g
def idxG (ps : List GPage) : ByteArray → List Int := ps.foldl pushP (fun _ => [])
theorem idxG_take {ps : List GPage} {k : Nat} (hk : k < ps.length) : idxG (ps.take (k + 1)) = pushP (idxG (ps.take k)) ps[k] := by
  rw [List.take_succ_eq_append_getElem hk]
  unfold idxG
  rw [List.foldl_append]
  rfl
theorem push_take {n : Int} {g : ByteArray → List Int} {l : List ByteArray} {k : Nat} (hk : k < l.length) : (l.take (k + 1)).foldl (pushW n) g = pushW n ((l.take k).foldl (pushW n) g) l[k] := by
  rw [List.take_succ_eq_append_getElem hk, List.foldl_append]
  rfl
theorem pushW_mem {n : Int} {g : ByteArray → List Int} {l : List ByteArray} {s : ByteArray} {z : Int} (h : z ∈ l.foldl (pushW n) g s) : z ∈ g s ∨ z = n := by
  induction l generalizing g with
  | nil => exact .inl h
  | cons x l ih =>
    rcases ih h with h | h
    · unfold pushW at h
      split at h
      · rcases List.mem_append.1 h with h | h
        · exact .inl h
        · exact .inr (List.mem_singleton.1 h)
      · exact .inl h
    · exact .inr h
theorem idxG_mem {ps : List GPage} {g : ByteArray → List Int} {s : ByteArray} {z : Int} (h : z ∈ ps.foldl pushP g s) : z ∈ g s ∨ ∃ p ∈ ps, z = (p.n : Int) := by
  induction ps generalizing g with
  | nil => exact .inl h
  | cons p ps ih =>
    rcases ih h with h | ⟨q, hq, h⟩
    · rcases pushW_mem h with h | h
      · exact .inl h
      · exact .inr ⟨p, List.mem_cons_self, h⟩
    · exact .inr ⟨q, List.mem_cons_of_mem _ hq, h⟩
def IdxOk (g : ByteArray → List Int) (l : List (ByteArray × List Int)) : Prop := (∀ x ∈ l, g x.1 ≠ [] ∧ x.2 = onceF (g x.1)) ∧ ∀ s, g s ≠ [] → ∃ x ∈ l, x.1 = s
structure REnt where
  t : ByteArray
  pA : Option Addr
  pn : Nat
  pc : Nat
def REnt.cells (r : REnt) : List Value := [.string r.t, .slice r.pA r.pn r.pc]
def entEl : El Tryz.prog REnt := { t := 38, e := 43, m := 2, bytes := 40, z := .agg #[.string ByteArray.empty, .slice none 0 0], E := REnt.cells, hE := fun _ => rfl, h1 := by simp [REnt.cells, Value.oneCell'], ht := by kernel_rfl, hi := by kernel_rfl, hz := rfl, hm := by decide, hb := by decide, agg := true, hagg := Tryz.isAgg43 }
theorem entAt {w : World} {A : Option Addr} {xs : List REnt} (h : Sl entEl w A xs) {k : Nat} (hk : k < xs.length) : ∃ b off, A = some ⟨b, off, none⟩ ∧ b < w.heap.size ∧ w.cell? ⟨b, off + k * 2, none⟩ = some (.string xs[k].t) ∧ w.cell? ⟨b, off + k * 2 + 1, none⟩ = some (.slice xs[k].pA xs[k].pn xs[k].pc) := by
  obtain ⟨b, off, hA, hb, hc⟩ := h.at_ hk
  exact ⟨b, off, hA, hb, by simpa [entEl] using hc 0 _ rfl, hc 1 _ rfl⟩
structure EntO (w : World) (x : ByteArray × List Int) (r : REnt) : Prop where
  t : r.t = x.1
  n : r.pn = x.2.length
  p : Own intEl 0 w (.slice r.pA r.pn r.pc) x.2
theorem EntO.ext {w w' : World} {x : ByteArray × List Int} {r : REnt} (h : EntO w x r) (he : Ext w w') : EntO w' x r := ⟨h.t, h.n, h.p.ext he⟩
def RetIdx (w : World) (g : ByteArray → List Int) (e : Ending) (w' : World) : Prop := ∃ (A : Option Addr) (c : Nat) (E : List ((ByteArray × List Int) × REnt)), e = .returned (.slice A (E.map Prod.snd).length c) ∧ (E.map Prod.snd).length ≤ c ∧ Sl entEl w' A (E.map Prod.snd) ∧ (∀ x ∈ E, EntO w' x.1 x.2) ∧ IdxOk g (E.map Prod.fst) ∧ E.length ≤ 1000000 ∧ Ext w w'
end Go.Proofs.YtjhdamjbljafhaaGreatDoor
