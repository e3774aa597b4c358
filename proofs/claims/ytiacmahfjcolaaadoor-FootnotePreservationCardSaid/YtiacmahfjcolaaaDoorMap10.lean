/- Maps of the call's own with strings for keys: what a block of bools or of strings holds. -/
import Derived.Test.YtiacmahfjcolaaaDoorNoted10
import Derived.Maps.OwnSet
namespace Go.Proofs.YtiacmahfjcolaaaDoor
open Go.RowKit Go.Maps Go.WideMaps

theorem key_inj {s t : ByteArray} (h : t ≠ s) : (Lit.string t.data.toList) ≠ .string s.data.toList := fun e => h (bytesList_inj (by injection e))
theorem strKeyed : Keyed Tryd.prog 9 := string_keyed Tryd.underlying9
theorem strKey {s : ByteArray} (hs : s.size ≤ maxLen) : keyOf Tryd.prog 9 (.string s) = some (.string s.data.toList) := keyOf_string_mk Tryd.underlying9 hs
theorem isKeyStr (l : List UInt8) : WideAt.IsKeyLit (.string l) := by first | trivial | simp [WideAt.IsKeyLit]

/-- block B is a map of strings to bools of at most n entries that holds g -/
def SetB (w : World) (B n : Nat) (g : ByteArray → Bool) : Prop := ∃ D : DataW Unit, w.ownsMap Tryd.prog 9 (plainElem Tryd.prog 4) B n D ∧ ∀ s : ByteArray, D.atKey (.string s.data.toList) (.lit (.bool false)) = .lit (.bool (g s))
/-- block B is a map of strings to strings of at most n entries that holds f -/
def TabS (w : World) (B n : Nat) (f : ByteArray → ByteArray) : Prop := ∃ D : DataW Unit, w.ownsMap Tryd.prog 9 (plainElem Tryd.prog 9) B n D ∧ ∀ s : ByteArray, D.atKey (.string s.data.toList) (.lit (.string [])) = .lit (.string (f s).data.toList)

section
variable {w w' : World} {B n : Nat} {g : ByteArray → Bool} {f : ByteArray → ByteArray}
theorem ownsMap_keep {R : Value → Option (DataW Unit × List MemPlace)} {k : TypeId} {D : DataW Unit} (h : w.ownsMap Tryd.prog k R B n D) (hb : w'.heap[B]? = w.heap[B]?) : w'.ownsMap Tryd.prog k R B n D := by
  obtain ⟨es, clock, h1, h2⟩ := h
  exact ⟨es, clock, hb.trans h1, h2⟩
theorem SetB.made (w : World) : SetB (w.alloc (.map #[] 0)) w.heap.size 0 (fun _ => false) := ⟨_, World.ownsMap_made _ _ _ _, fun _ => rfl⟩
theorem TabS.made (w : World) : TabS (w.alloc (.map #[] 0)) w.heap.size 0 (fun _ => ⟨#[]⟩) := ⟨_, World.ownsMap_made _ _ _ _, fun _ => rfl⟩
theorem SetB.lt (h : SetB w B n g) : B < w.heap.size := by obtain ⟨D, h1, _⟩ := h; exact h1.lt
theorem TabS.lt (h : TabS w B n f) : B < w.heap.size := by obtain ⟨D, h1, _⟩ := h; exact h1.lt
theorem SetB.keep (h : SetB w B n g) (hb : w'.heap[B]? = w.heap[B]?) : SetB w' B n g := by
  obtain ⟨D, h1, h2⟩ := h
  exact ⟨D, ownsMap_keep h1 hb, h2⟩
theorem TabS.keep (h : TabS w B n f) (hb : w'.heap[B]? = w.heap[B]?) : TabS w' B n f := by
  obtain ⟨D, h1, h2⟩ := h
  exact ⟨D, ownsMap_keep h1 hb, h2⟩
theorem SetB.ext (h : SetB w B n g) (he : Ext w w') : SetB w' B n g := h.keep (he.block h.lt)
theorem TabS.ext (h : TabS w B n f) (he : Ext w w') : TabS w' B n f := h.keep (he.block h.lt)
theorem SetB.congr {g' : ByteArray → Bool} (h : SetB w B n g) (e : ∀ s, g s = g' s) : SetB w B n g' := by rwa [show g' = g from funext fun s => (e s).symm]
theorem TabS.congr {f' : ByteArray → ByteArray} (h : TabS w B n f) (e : ∀ s, f s = f' s) : TabS w B n f' := by rwa [show f' = f from funext fun s => (e s).symm]
theorem plain_bool {v : Value} {z : DataW Unit × List MemPlace} (h : plainElem Tryd.prog 4 v = some z) : ∃ b, v = .bool b ∧ z = (.lit (.bool b), []) := by
  unfold plainElem at h
  rw [Tryd.underlying4] at h
  cases v <;> simp at h
  exact ⟨_, rfl, h.symm⟩
theorem plain_str {v : Value} {z : DataW Unit × List MemPlace} (h : plainElem Tryd.prog 9 v = some z) : ∃ b, v = .string b ∧ z = (.lit (.string b.data.toList), []) := by
  unfold plainElem at h
  rw [Tryd.underlying9] at h
  cases v <;> simp at h
  exact ⟨_, rfl, h.2.symm⟩
theorem SetB.look (h : SetB w B n g) {s : ByteArray} (hs : s.size ≤ maxLen) : (Instr.lookup 65 (.map (some B)) (.string s) false).run Tryd.prog w = .ok (.bool (g s)) w := by
  obtain ⟨D, h1, h2⟩ := h
  obtain ⟨v, ps, h3, h4⟩ := h1.lookup strKeyed Tryd.underlying65 (z := .bool false) (by kernel_rfl) (zd := .lit (.bool false)) (zp := []) (plainElem_bool Tryd.underlying4 false) (strKey hs)
  obtain ⟨b, rfl, hb⟩ := plain_bool h4
  rw [h2 s] at hb
  simp only [Prod.mk.injEq, DataW.lit.injEq, Lit.bool.injEq] at hb
  rw [h3, hb.1]
theorem TabS.look (h : TabS w B n f) {s : ByteArray} (hs : s.size ≤ maxLen) : (Instr.lookup 77 (.map (some B)) (.string s) false).run Tryd.prog w = .ok (.string (f s)) w := by
  obtain ⟨D, h1, h2⟩ := h
  obtain ⟨v, ps, h3, h4⟩ := h1.lookup strKeyed Tryd.underlying77 (z := .string ByteArray.empty) (by kernel_rfl) (zd := .lit (.string [])) (zp := []) (plainElem_string Tryd.underlying9 (by decide)) (strKey hs)
  obtain ⟨b, rfl, hb⟩ := plain_str h4
  rw [h2 s] at hb
  simp only [Prod.mk.injEq, DataW.lit.injEq, Lit.string.injEq] at hb
  rw [h3, bytesList_inj hb.1.symm]
variable {ops : Array Oper} {rest : List Oper} {o : Oper} {a : Act} {Q : Exit → Act → World → Prop}
theorem wpList_lookSet (hg : o.guard = none) (m x : Operand) (hop : o.op = .lookup 65 m x false) (h : SetB w B n g) (hm : a.eval m = .map (some B)) (s : ByteArray) (hx : a.eval x = .string s) (hs : s.size ≤ maxLen) (b : Bool) (hb : g s = b)
    (hK : wpList Tryd.prog ops Q rest (a.put o.dst (.bool b)) w) : wpList Tryd.prog ops Q (o :: rest) a w := by
  refine wpList_plain hg fun K' hK' => ?_
  unfold Oper.wp
  simp [execOp, hop, hm, hx, h.look hs, hb, Result.andThen]
  exact hK' _ _ hK
theorem wpList_lookTab (hg : o.guard = none) (m x : Operand) (hop : o.op = .lookup 77 m x false) (h : TabS w B n f) (hm : a.eval m = .map (some B)) (s : ByteArray) (hx : a.eval x = .string s) (hs : s.size ≤ maxLen)
    (hK : wpList Tryd.prog ops Q rest (a.put o.dst (.string (f s))) w) : wpList Tryd.prog ops Q (o :: rest) a w := by
  refine wpList_plain hg fun K' hK' => ?_
  unfold Oper.wp
  simp [execOp, hop, hm, hx, h.look hs, Result.andThen]
  exact hK' _ _ hK
theorem wpList_putSet (hg : o.guard = none) (m x v : Operand) (hop : o.op = .mapUpdate 65 m x v) (h : SetB w B n g) (hn : n < maxLen) (hm : a.eval m = .map (some B)) (s : ByteArray) (b : Bool) (hx : a.eval x = .string s) (hv : a.eval v = .bool b) (hs : s.size ≤ maxLen)
    (hK : ∀ w', SetB w' B (n + 1) (fun t => if t = s then b else g t) → w.grownBy w' (some B) → wpList Tryd.prog ops Q rest (a.put o.dst undef) w') : wpList Tryd.prog ops Q (o :: rest) a w := by
  obtain ⟨D, h1, h2⟩ := h
  refine wpList_mapUpdate_own w hg m x v _ hop _ _ strKeyed Tryd.underlying65 _ B n D hm h1 hn _ _ _ hx hv (strKey hs) _ [] (plainElem_bool Tryd.underlying4 b) fun w' h3 h4 => hK w' ⟨_, h3, fun t => ?_⟩ h4
  simp only
  by_cases e : t = s
  · subst e
    rw [if_pos rfl, atKey_put_same h1.isMap (isKeyStr _)]
  · rw [if_neg e, atKey_put_other (key_inj e), h2 t]
theorem wpList_putTab (hg : o.guard = none) (m x v : Operand) (hop : o.op = .mapUpdate 77 m x v) (h : TabS w B n f) (hn : n < maxLen) (hm : a.eval m = .map (some B)) (s b : ByteArray) (hx : a.eval x = .string s) (hv : a.eval v = .string b) (hs : s.size ≤ maxLen) (hbs : b.size ≤ maxLen)
    (hK : ∀ w', TabS w' B (n + 1) (fun t => if t = s then b else f t) → w.grownBy w' (some B) → wpList Tryd.prog ops Q rest (a.put o.dst undef) w') : wpList Tryd.prog ops Q (o :: rest) a w := by
  obtain ⟨D, h1, h2⟩ := h
  refine wpList_mapUpdate_own w hg m x v _ hop _ _ strKeyed Tryd.underlying77 _ B n D hm h1 hn _ _ _ hx hv (strKey hs) _ [] (plainElem_string Tryd.underlying9 hbs) fun w' h3 h4 => hK w' ⟨_, h3, fun t => ?_⟩ h4
  simp only
  by_cases e : t = s
  · subst e
    rw [if_pos rfl, atKey_put_same h1.isMap (isKeyStr _)]
  · rw [if_neg e, atKey_put_other (key_inj e), h2 t]
end

end Go.Proofs.YtiacmahfjcolaaaDoor
