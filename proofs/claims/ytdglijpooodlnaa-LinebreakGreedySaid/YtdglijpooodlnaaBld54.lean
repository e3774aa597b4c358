/- The builder's writing methods: the shelf's contracts, laid by hand (the layer passes over them, for the structure names types that the bodies do not). -/
import Derived.Test.YtdglijpooodlnaaText54
namespace Go.Proofs.Ytdglijpooodlnaa
open Go.RowKit Go.Shelf

def bldRen : Go.Shelf.Ren := ⟨fun | 240 => 47 | 276 => 54 | 167 => 37 | 166 => 38 | n => n, fun | 0 => 0 | 3 => 3 | 4 => 4 | 5 => 5 | 9 => 9 | 20 => 20 | 37 => 54 | 70 => 53 | 72 => 56 | 75 => 58 | 80 => 63 | 164 => 75 | n => n, fun | n => n⟩
theorem bldExtra : Builder.Extra Try.prog bldRen := {
  sizeBuilder := by kernel_rfl
  liesBuilder := by kernel_rfl
  t5 := Try.underlying5
  a5 := Try.isAgg5
  z5 := Try.sizeOf5
  v5 := Try.zeroValue5
  infoByte := by kernel_rfl
  cellsByte := by kernel_rfl
  sizeByte := by kernel_rfl
  neB5 := by decide }
theorem lays167 : Lays.n167 Try.prog bldRen := {
  mixed := by kernel_rfl
  f167 := Try.func37.trans (congrArg some (by kernel_rfl))
  f240 := Try.func47.trans (congrArg some (by kernel_rfl))
  f276 := Try.func54.trans (congrArg some (by kernel_rfl))
  t0 := Try.underlying0
  a0 := Try.isAgg0
  z0 := Try.sizeOf0
  v0 := Try.zeroValue0
  t4 := Try.underlying4
  a4 := Try.isAgg4
  z4 := Try.sizeOf4
  v4 := Try.zeroValue4
  t5 := Try.underlying5
  a5 := Try.isAgg5
  z5 := Try.sizeOf5
  v5 := Try.zeroValue5
  t9 := Try.underlying9
  a9 := Try.isAgg9
  z9 := Try.sizeOf9
  v9 := Try.zeroValue9
  t20 := Try.underlying20
  a20 := Try.isAgg20
  z20 := Try.sizeOf20
  v20 := Try.zeroValue20
  t37 := Try.underlying54
  a37 := Try.isAgg54
  z37 := Try.sizeOf54
  v37 := Try.zeroValue54
  t70 := Try.underlying53
  a70 := Try.isAgg53
  z70 := Try.sizeOf53
  v70 := Try.zeroValue53
  t72 := Try.underlying56
  a72 := Try.isAgg56
  z72 := Try.sizeOf56
  v72 := Try.zeroValue56
  t75 := Try.underlying58
  a75 := Try.isAgg58
  z75 := Try.sizeOf58
  v75 := Try.zeroValue58
  t164 := Try.underlying75
  a164 := Try.isAgg75
  z164 := Try.sizeOf75
  v164 := Try.zeroValue75 }
theorem lays166 : Lays.n166 Try.prog bldRen := { lays167 with
  f166 := Try.func38.trans (congrArg some (by kernel_rfl))
  t3 := Try.underlying3
  a3 := Try.isAgg3
  z3 := Try.sizeOf3
  v3 := Try.zeroValue3 }
theorem lays240 : Lays.n240 Try.prog bldRen := { lays167 with }

/-- rows of bytes that bear a frozen mark are as they were -/
def KeptF (w w' : World) : Prop := ∀ (k : Nat) (cs : Array Value) (fz : Nat × Nat), w.heap[k]? = some (Obj.cells cs 5 fz) → fz ≠ (0, 0) → w'.heap[k]? = some (Obj.cells cs 5 fz)
theorem KeptF.refl (w : World) : KeptF w w := fun _ _ _ h _ => h
theorem KeptF.trans {a b c : World} (h : KeptF a b) (k : KeptF b c) : KeptF a c := fun i cs fz hi hf => k i cs fz (h i cs fz hi hf) hf
theorem KeptF.of_ext {a b : World} (h : Ext a b) : KeptF a b := fun _ _ _ hi _ => (h.block (lt_of_block hi)).trans hi
/-- the block of a builder's bytes bears no mark -/
theorem own_unmarked {w : World} {B : Nat} {v : Value} {n : Nat} {xs : List Value} {k : Nat} {cs : Array Value} {fz : Nat × Nat} (hown : w.ownsRow B 5 1 v n xs) (hk : w.heap[k]? = some (.cells cs 5 fz)) (hf : fz ≠ (0, 0)) : v.ownBlock ≠ some k := by
  rcases hown.2 with ⟨rfl, _⟩ | ⟨g, cap, cur, rfl, _, hg, _⟩
  · simp [Value.ownBlock]
  · intro h
    simp only [Value.ownBlock, Option.some.injEq] at h
    subst h
    rw [hg] at hk
    simp only [Option.some.injEq, Obj.cells.injEq] at hk
    exact hf hk.2.2.symm
theorem copyCheck_any (B b : Nat) (bs : List Value) (w : World) (h : Lib.IsBuilder 56 5 B b bs w) :
    Calls Try.prog 47 #[.pointer (some ⟨b, 0, none⟩)] w fun e w' => e = .returned (.tuple #[]) ∧ Lib.BuilderAt 56 5 B b (.pointer (some ⟨b, 0, none⟩)) bs w' ∧ Below B w w' ∧ KeptF w w' := by
  rcases h with h | h
  · refine (Any.Builder_copyCheck_fresh lays240 bldExtra.toX72 b w h.cell0 h.shape h.frozen0).mono ?_
    rintro e w' ⟨rfl, rfl⟩
    refine ⟨rfl, h.used _, (Below.refl B w).setCell (p := ⟨b, 0, none⟩) h.1 _, fun k cs fz hk hf => ?_⟩
    obtain ⟨_, v, hb, _⟩ := h
    refine (heap_setCell_other _ _ _ _ (fun e => ?_)).trans hk
    simp only at e
    subst e
    rw [hk] at hb
    simp at hb
  · refine (Any.Builder_copyCheck_used lays240 bldExtra.toX72 b w h.cell0).mono ?_
    rintro e w' ⟨rfl, rfl⟩
    exact ⟨rfl, h, Below.refl B _, KeptF.refl _⟩

/-- what a write leaves, out of what the append leaves -/
theorem bld_put {B b : Nat} {w1 w1' w2 : World} {v v' : Value} {bs bs' : List Value} (hB : B ≤ b) (hbk : w1.heap[b]? = some (.cells #[.pointer (some ⟨b, 0, none⟩), v] 56 (0, 0))) (hown : w1.ownsRow B 5 1 v bs.length bs) (hne : v.ownBlock ≠ some b) (hx : Ext w1 w1')
    (hown' : w2.ownsRow B 5 1 v' bs'.length bs') (hg : w1'.grownBy w2 v.ownBlock) (hBw : B ≤ w1.heap.size) :
    w2.heap[b]? = some (.cells #[.pointer (some ⟨b, 0, none⟩), v] 56 (0, 0)) ∧
    Lib.BuilderAt 56 5 B b (.pointer (some ⟨b, 0, none⟩)) bs' (w2.setCell ⟨b, 1, none⟩ v') ∧ Below B w1 (w2.setCell ⟨b, 1, none⟩ v') ∧ KeptF w1 (w2.setCell ⟨b, 1, none⟩ v') := by
  have hlt := lt_of_block hbk
  have hsz := hx.size
  have hk : ∀ k ob, v.ownBlock ≠ some k → w1.heap[k]? = some ob → w2.heap[k]? = some ob := fun k ob h1 h2 =>
    (hg.block k (Nat.lt_of_lt_of_le (lt_of_block h2) hsz) (fun h => h1 h.symm)).trans ((hx.block (lt_of_block h2)).trans h2)
  have hb2 := hk b _ hne hbk
  refine ⟨hb2, Lib.BuilderAt.put hB hb2 hown' (by decide), ?_, fun k cs fz hc hf => ?_⟩
  · refine Below.setCell (p := ⟨b, 1, none⟩) ⟨hg.os.trans hx.os, hg.tape.trans hx.tape, hg.output.trans hx.output, Nat.le_trans hsz hg.size, fun k hk2 => ?_⟩ hB _
    refine (hg.block k (by omega) (fun h => ?_)).trans (hx.block (by omega))
    have := (hown.lt k h.symm).1
    omega
  · refine (heap_setCell_other _ _ _ _ (fun e => ?_)).trans (hk k _ (own_unmarked hown hc hf) hc)
    simp only at e
    subst e
    rw [hc] at hbk
    simp at hbk

set_option maxRecDepth 100000 in
set_option maxHeartbeats 1600000 in
theorem writeByte (B b : Nat) (bs : List Value) (c : Int) (w : World) (h : Lib.IsBuilder 56 5 B b bs w) (hlen : bs.length + 1 ≤ 140737488355328) (hBw : B ≤ w.heap.size) :
    Calls Try.prog 37 #[.pointer (some ⟨b, 0, none⟩), .int .u8 c] w fun e w' => e = .returned .nilIface ∧ Lib.BuilderAt 56 5 B b (.pointer (some ⟨b, 0, none⟩)) (bs ++ [.int .u8 c]) w' ∧ Below B w w' ∧ KeptF w w' := by
  obtain ⟨i0, hi, hz0, hz1, hz2⟩ := info_parts bldExtra.infoByte
  have Hc := Lib.hid (copyCheck_any B b bs w h)
  clear h
  go_enter Try.func37, Try.ntmps37
  go_wp2_with fail
  refine (Hc.out).mono ?_
  rintro e w1 ⟨rfl, ⟨hB, v, hbk, hown, hne⟩, hb1, hk1⟩
  have c0 : w1.cell? ⟨b, 0, none⟩ = some (.pointer (some ⟨b, 0, none⟩)) := by rw [Lib.cell_of_heap hbk]; rfl
  have c1 : w1.cell? ⟨b, 1, none⟩ = some v := by rw [Lib.cell_of_heap hbk]; rfl
  have hsz := hb1.size
  have hrow := hown.alloc (.cells #[.int .u8 c] 5)
  have hne2 : (Value.int .u8 c).oneCell' = true := rfl
  go_wp2_with (at_builtin; refine wpList_append_own _ rfl _ _ 54 rfl B 5 i0 (.int .u8 0) 1 1 Try.underlying54 hi hz0 hz1 hz2 rfl (by decide) _ _ _ rfl hrow ⟨w1.heap.size, 0, none⟩ 1 1 [.int .u8 c] rfl rfl ?a1 ?a2 ?a3 ?a4 ?a5 ?_)
  case a1 =>
    intro j u hj
    match j, hj with
    | 0, hj => simp at hj; subst hj; simp [Addr.add]
  case a2 => intro u hu; simp at hu; subst hu; exact hne2
  case a3 => unfold maxLen; omega
  case a4 => omega
  case a5 => simp; omega
  intro v' w2 hown' hgrow _
  obtain ⟨q1, q2, q3, q4⟩ := bld_put (bs' := bs ++ [.int .u8 c]) hB hbk hown hne ((Ext.refl w1).alloc (.cells #[.int .u8 c] 5)) (by simpa using hown') hgrow (by omega)
  have d0 : w2.cell? ⟨b, 0, none⟩ = some (.pointer (some ⟨b, 0, none⟩)) := by rw [Lib.cell_of_heap q1]; rfl
  have d1 : w2.cell? ⟨b, 1, none⟩ = some v := by rw [Lib.cell_of_heap q1]; rfl
  have f1 : w2.frozen? ⟨b, 1, none⟩ = false := Lib.frozen_of_heap q1 1
  obtain ⟨ao, n', cap, rfl⟩ : ∃ ao n' cap, v' = .slice ao n' cap := by
    rcases hown'.2 with ⟨hv, _⟩ | ⟨g, cap, cur, hv, _⟩
    · exact ⟨_, _, _, hv⟩
    · exact ⟨_, _, _, hv⟩
  go_wp2
  go_ret
  exact ⟨rfl, q2, hb1.trans q3, hk1.trans q4⟩
set_option maxRecDepth 100000 in
set_option maxHeartbeats 1600000 in
theorem writeString (B b : Nat) (bs : List Value) (s : ByteArray) (w : World) (h : Lib.IsBuilder 56 5 B b bs w) (hlen : bs.length + s.size ≤ 140737488355328) (hBw : B ≤ w.heap.size) :
    Calls Try.prog 38 #[.pointer (some ⟨b, 0, none⟩), .string s] w fun e w' => e = .returned (.tuple #[.int .i64 s.size, .nilIface]) ∧ Lib.BuilderAt 56 5 B b (.pointer (some ⟨b, 0, none⟩)) (bs ++ Lib.strCells s) w' ∧ Below B w w' ∧ KeptF w w' := by
  obtain ⟨i0, hi, hz0, hz1, hz2⟩ := info_parts bldExtra.infoByte
  have Hc := Lib.hid (copyCheck_any B b bs w h)
  clear h
  go_enter Try.func38, Try.ntmps38
  go_wp2_with fail
  refine (Hc.out).mono ?_
  rintro e w1 ⟨rfl, ⟨hB, v, hbk, hown, hne⟩, hb1, hk1⟩
  have c0 : w1.cell? ⟨b, 0, none⟩ = some (.pointer (some ⟨b, 0, none⟩)) := by rw [Lib.cell_of_heap hbk]; rfl
  have c1 : w1.cell? ⟨b, 1, none⟩ = some v := by rw [Lib.cell_of_heap hbk]; rfl
  have hsz := hb1.size
  go_wp2_with (at_builtin; refine Lib.wpList_append_own_string _ rfl _ _ 54 9 rfl B 5 i0 Try.underlying54 Try.underlying9 hi hz0 hz1 hz2 _ _ _ rfl hown s rfl ?a3 ?a4 ?a5 ?_)
  case a3 => unfold maxLen; omega
  case a4 => omega
  case a5 => omega
  intro v' w2 hown' hgrow _
  obtain ⟨q1, q2, q3, q4⟩ := bld_put (bs' := bs ++ Lib.strCells s) hB hbk hown hne (Ext.refl w1) (by simpa [Lib.strCells_length] using hown') hgrow (by omega)
  have d0 : w2.cell? ⟨b, 0, none⟩ = some (.pointer (some ⟨b, 0, none⟩)) := by rw [Lib.cell_of_heap q1]; rfl
  have d1 : w2.cell? ⟨b, 1, none⟩ = some v := by rw [Lib.cell_of_heap q1]; rfl
  have f1 : w2.frozen? ⟨b, 1, none⟩ = false := Lib.frozen_of_heap q1 1
  obtain ⟨ao, n', cap, rfl⟩ : ∃ ao n' cap, v' = .slice ao n' cap := by
    rcases hown'.2 with ⟨hv, _⟩ | ⟨g, cap, cur, hv, _⟩
    · exact ⟨_, _, _, hv⟩
    · exact ⟨_, _, _, hv⟩
  go_wp2
  go_ret2
  exact ⟨rfl, q2, hb1.trans q3, hk1.trans q4⟩

end Go.Proofs.Ytdglijpooodlnaa
