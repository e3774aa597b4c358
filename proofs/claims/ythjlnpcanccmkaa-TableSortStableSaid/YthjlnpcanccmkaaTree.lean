/- Trees of units: what a unit's eight cells and all that hangs below them read as. -/
import Derived.Test.YthjlnpcanccmkaaCmp
import Derived.Test.YthjlnpcanccmkaaMask
namespace Go.Proofs.Ythjlnpcanccmkaa
open Go.RowKit

/-- a unit's own cells: the ID, kind, label, three slices by their address, length, capacity -/
structure RUnit where
  a : Int
  i : Int
  n : Int
  kind : Int
  label : ByteArray
  hA : Option Addr
  hn : Nat
  hc : Nat
  wA : Option Addr
  wn : Nat
  wc : Nat
  kA : Option Addr
  kn : Nat
  kc : Nat
def RUnit.cells (r : RUnit) : List Value := [.int .i64 r.a, .int .i64 r.i, .int .i64 r.n, .int .i64 r.kind, .string r.label, .slice r.hA r.hn r.hc, .slice r.wA r.wn r.wc, .slice r.kA r.kn r.kc]
def unitEl : El Try.prog RUnit := { t := 25, e := 27, m := 8, bytes := 120, z := .agg #[.int .i64 0, .int .i64 0, .int .i64 0, .int .i64 0, .string ByteArray.empty, .slice none 0 0, .slice none 0 0, .slice none 0 0], E := RUnit.cells, hE := fun _ => rfl, h1 := by simp [RUnit.cells, Value.oneCell'], ht := by kernel_rfl, hi := by kernel_rfl, hz := rfl, hm := by decide, hb := by decide, agg := true, hagg := Try.isAgg27 }

inductive GUnit where
  | mk (a i n kind : Int) (label : ByteArray) (head words : List GWord) (kids : List GUnit)

mutual
/-- the tree that a unit's cells read as -/
def Reads (w : World) : GUnit → RUnit → Prop
  | .mk a i n k l hd wd kids, r => (r.a = a ∧ r.i = i ∧ r.n = n ∧ r.kind = k ∧ r.label = l) ∧ (r.hn = hd.length ∧ hd.length ≤ r.hc ∧ Sl wordEl w r.hA hd) ∧ (r.wn = wd.length ∧ wd.length ≤ r.wc ∧ Sl wordEl w r.wA wd) ∧
    (r.kn = kids.length ∧ kids.length ≤ r.kc ∧ ∃ rs, Sl unitEl w r.kA rs ∧ ReadsAll w kids rs)
def ReadsAll (w : World) : List GUnit → List RUnit → Prop
  | [], [] => True
  | u :: us, r :: rs => Reads w u r ∧ ReadsAll w us rs
  | [], _ :: _ => False
  | _ :: _, [] => False
end

mutual
theorem Reads.cin {w w' : World} (he : CIn w w') : ∀ (u : GUnit) (r : RUnit), Reads w u r → Reads w' u r
  | .mk a i n k l hd wd kids, r, h => by
    rw [Reads] at h ⊢
    obtain ⟨h1, ⟨h2, h3, h4⟩, ⟨h5, h6, h7⟩, h8, h9, rs, h10, h11⟩ := h
    exact ⟨h1, ⟨h2, h3, h4.cin he⟩, ⟨h5, h6, h7.cin he⟩, h8, h9, rs, h10.cin he, ReadsAll.cin he kids rs h11⟩
theorem ReadsAll.cin {w w' : World} (he : CIn w w') : ∀ (us : List GUnit) (rs : List RUnit), ReadsAll w us rs → ReadsAll w' us rs
  | [], [], _ => by rw [ReadsAll]; trivial
  | u :: us, r :: rs, h => by
    rw [ReadsAll] at h ⊢
    exact ⟨Reads.cin he u r h.1, ReadsAll.cin he us rs h.2⟩
  | [], _ :: _, h => by rw [ReadsAll] at h; exact h.elim
  | _ :: _, [], h => by rw [ReadsAll] at h; exact h.elim
end
theorem Reads.ext {w w' : World} (he : Ext w w') (u : GUnit) (r : RUnit) (h : Reads w u r) : Reads w' u r := Reads.cin (CIn.of_ext he) u r h
theorem ReadsAll.ext {w w' : World} (he : Ext w w') (us : List GUnit) (rs : List RUnit) (h : ReadsAll w us rs) : ReadsAll w' us rs := ReadsAll.cin (CIn.of_ext he) us rs h
theorem ReadsAll.length {w : World} : ∀ {us : List GUnit} {rs : List RUnit}, ReadsAll w us rs → rs.length = us.length
  | [], [], _ => rfl
  | u :: us, r :: rs, h => by
    rw [ReadsAll] at h
    simp [ReadsAll.length h.2]
  | [], _ :: _, h => by rw [ReadsAll] at h; exact h.elim
  | _ :: _, [], h => by rw [ReadsAll] at h; exact h.elim
theorem ReadsAll.get {w : World} : ∀ {us : List GUnit} {rs : List RUnit}, ReadsAll w us rs → ∀ (k : Nat) (h1 : k < us.length) (h2 : k < rs.length), Reads w us[k] rs[k]
  | u :: us, r :: rs, h, 0, _, _ => by rw [ReadsAll] at h; exact h.1
  | u :: us, r :: rs, h, k + 1, h1, h2 => by
    rw [ReadsAll] at h
    exact ReadsAll.get h.2 k (by simpa using h1) (by simpa using h2)
theorem ReadsAll.snoc {w : World} : ∀ {us : List GUnit} {rs : List RUnit} {u : GUnit} {r : RUnit}, ReadsAll w us rs → Reads w u r → ReadsAll w (us ++ [u]) (rs ++ [r])
  | [], [], u, r, _, h2 => by rw [List.nil_append, List.nil_append, ReadsAll, ReadsAll]; exact ⟨h2, trivial⟩
  | v :: us, q :: rs, u, r, h, h2 => by
    rw [ReadsAll] at h
    rw [List.cons_append, List.cons_append, ReadsAll]
    exact ⟨h.1, ReadsAll.snoc h.2 h2⟩
  | [], _ :: _, _, _, h, _ => by rw [ReadsAll] at h; exact h.elim
  | _ :: _, [], _, _, h, _ => by rw [ReadsAll] at h; exact h.elim

mutual
/-- a property at every unit of a tree -/
def AllU (p : GUnit → Prop) : GUnit → Prop
  | .mk a i n k l hd wd kids => p (.mk a i n k l hd wd kids) ∧ AllUs p kids
def AllUs (p : GUnit → Prop) : List GUnit → Prop
  | [] => True
  | u :: us => AllU p u ∧ AllUs p us
end
theorem AllUs.get {p : GUnit → Prop} : ∀ {us : List GUnit}, AllUs p us → ∀ (k : Nat) (h : k < us.length), AllU p us[k]
  | u :: us, h, 0, _ => by rw [AllUs] at h; exact h.1
  | u :: us, h, k + 1, hk => by
    rw [AllUs] at h
    exact AllUs.get h.2 k (by simpa using hk)
mutual
theorem AllU.mono {p q : GUnit → Prop} (hpq : ∀ u, p u → q u) : ∀ u, AllU p u → AllU q u
  | .mk a i n k l hd wd kids, h => by
    rw [AllU] at h ⊢
    exact ⟨hpq _ h.1, AllUs.mono hpq kids h.2⟩
theorem AllUs.mono {p q : GUnit → Prop} (hpq : ∀ u, p u → q u) : ∀ us, AllUs p us → AllUs q us
  | [], _ => by rw [AllUs]; trivial
  | u :: us, h => by
    rw [AllUs] at h ⊢
    exact ⟨AllU.mono hpq u h.1, AllUs.mono hpq us h.2⟩
end
mutual
theorem AllU.and {p q : GUnit → Prop} : ∀ u, AllU p u → AllU q u → AllU (fun u => p u ∧ q u) u
  | .mk a i n k l hd wd kids, h, h' => by
    rw [AllU] at h h' ⊢
    exact ⟨⟨h.1, h'.1⟩, AllUs.and kids h.2 h'.2⟩
theorem AllUs.and {p q : GUnit → Prop} : ∀ us, AllUs p us → AllUs q us → AllUs (fun u => p u ∧ q u) us
  | [], _, _ => by rw [AllUs]; trivial
  | u :: us, h, h' => by
    rw [AllUs] at h h' ⊢
    exact ⟨AllU.and u h.1 h'.1, AllUs.and us h.2 h'.2⟩
end

/-- the lists of a unit have at most so many elements -/
def lensLe (m q : Nat) : GUnit → Prop
  | .mk _ _ _ _ _ hd wd kids => hd.length ≤ m ∧ wd.length ≤ m ∧ kids.length ≤ q

mutual
def cntF : GUnit → Nat
  | .mk _ _ _ _ _ _ _ kids => 1 + cntL kids
def cntL : List GUnit → Nat
  | [] => 0
  | u :: us => cntF u + cntL us
end
theorem cntL_drop {kids : List GUnit} {k : Nat} (hk : k < kids.length) : cntL (kids.drop k) = cntF kids[k] + cntL (kids.drop (k + 1)) := by
  rw [List.drop_eq_getElem_cons hk, cntL]

theorem cnt_pos : ∀ (u : GUnit), 1 ≤ cntF u
  | .mk _ _ _ _ _ _ _ kids => by rw [cntF]; omega
theorem cntL_len : ∀ (us : List GUnit), us.length ≤ cntL us
  | [] => by simp
  | u :: us => by
    have h1 := cnt_pos u
    have h2 := cntL_len us
    rw [cntL, List.length_cons]
    omega
theorem cntL_take {kids : List GUnit} {k : Nat} (hk : k < kids.length) : cntL (kids.take (k + 1)) = cntL (kids.take k) + cntF kids[k] := by
  induction kids generalizing k with
  | nil => simp at hk
  | cons u us ih =>
    cases k with
    | zero => simp [cntL]
    | succ k =>
      have := ih (k := k) (by simpa using hk)
      simp only [List.take_succ_cons, cntL, this, List.getElem_cons_succ]
      omega

/-- a unit among a list's elements: its eight cells -/
theorem unitAt {w : World} {A : Option Addr} {xs : List RUnit} (h : Sl unitEl w A xs) {k : Nat} (hk : k < xs.length) : ∃ b off, A = some ⟨b, off, none⟩ ∧ b < w.heap.size ∧
    w.cell? ⟨b, off + k * 8, none⟩ = some (.int .i64 xs[k].a) ∧ w.cell? ⟨b, off + k * 8 + 1, none⟩ = some (.int .i64 xs[k].i) ∧ w.cell? ⟨b, off + k * 8 + 2, none⟩ = some (.int .i64 xs[k].n) ∧ w.cell? ⟨b, off + k * 8 + 3, none⟩ = some (.int .i64 xs[k].kind) ∧
    w.cell? ⟨b, off + k * 8 + 4, none⟩ = some (.string xs[k].label) ∧ w.cell? ⟨b, off + k * 8 + 5, none⟩ = some (.slice xs[k].hA xs[k].hn xs[k].hc) ∧ w.cell? ⟨b, off + k * 8 + 6, none⟩ = some (.slice xs[k].wA xs[k].wn xs[k].wc) ∧ w.cell? ⟨b, off + k * 8 + 7, none⟩ = some (.slice xs[k].kA xs[k].kn xs[k].kc) := by
  obtain ⟨b, off, hA, hb, hc⟩ := h.at_ hk
  exact ⟨b, off, hA, hb, by simpa [unitEl] using hc 0 _ rfl, hc 1 _ rfl, hc 2 _ rfl, hc 3 _ rfl, hc 4 _ rfl, hc 5 _ rfl, hc 6 _ rfl, hc 7 _ rfl⟩

/-- a block of the call's own that holds one unit: its eight cells -/
theorem unitBlock {w : World} {b : Nat} {r : RUnit} (h : w.heap[b]? = some (.cells r.cells.toArray 27 (0, 0))) : 
    w.cell? ⟨b, 0, none⟩ = some (.int .i64 r.a) ∧ w.cell? ⟨b, 1, none⟩ = some (.int .i64 r.i) ∧ w.cell? ⟨b, 2, none⟩ = some (.int .i64 r.n) ∧ w.cell? ⟨b, 3, none⟩ = some (.int .i64 r.kind) ∧
    w.cell? ⟨b, 4, none⟩ = some (.string r.label) ∧ w.cell? ⟨b, 5, none⟩ = some (.slice r.hA r.hn r.hc) ∧ w.cell? ⟨b, 6, none⟩ = some (.slice r.wA r.wn r.wc) ∧ w.cell? ⟨b, 7, none⟩ = some (.slice r.kA r.kn r.kc) := by
  simp [World.cell?, h, RUnit.cells]

/-- a boxed unit: its eight cells, in every later world -/
theorem boxUnit (r : RUnit) {w w' : World} (he : Ext (w.alloc (.cells r.cells.toArray 27)) w') : w.heap.size < w'.heap.size ∧
    w'.cell? ⟨w.heap.size, 0, none⟩ = some (.int .i64 r.a) ∧ w'.cell? ⟨w.heap.size, 1, none⟩ = some (.int .i64 r.i) ∧ w'.cell? ⟨w.heap.size, 2, none⟩ = some (.int .i64 r.n) ∧ w'.cell? ⟨w.heap.size, 3, none⟩ = some (.int .i64 r.kind) ∧
    w'.cell? ⟨w.heap.size, 4, none⟩ = some (.string r.label) ∧ w'.cell? ⟨w.heap.size, 5, none⟩ = some (.slice r.hA r.hn r.hc) ∧ w'.cell? ⟨w.heap.size, 6, none⟩ = some (.slice r.wA r.wn r.wc) ∧ w'.cell? ⟨w.heap.size, 7, none⟩ = some (.slice r.kA r.kn r.kc) := by
  obtain ⟨b, off, h1, h2, h3⟩ := unitAt ((Sl.new unitEl (w := w) (xs := [r]) (by simp [El.flat, unitEl])).ext he) (k := 0) (by simp)
  simp only [Option.some.injEq, Addr.mk.injEq] at h1
  obtain ⟨rfl, rfl, -⟩ := h1
  simp only [Nat.zero_mul, Nat.zero_add, List.getElem_cons_zero] at h3
  exact ⟨h2, h3⟩

end Go.Proofs.Ythjlnpcanccmkaa
