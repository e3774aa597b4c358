/- A line's cells; slices.Concat, Grow of strings, words and lines. -/
import Derived.Test.YtjhdamjbljafhaaGreatDoorP06
import Derived.Lib.AppendZerosOnto
import Derived.Deep.DeepAppendWide
namespace Go.Proofs.YtjhdamjbljafhaaGreatDoor
open Go.RowKit
structure RLine where
  t : ByteArray
  a : Int
  i : Int
  n : Int
  h : Bool
  nA : Option Addr
  nn : Nat
  nc : Nat
def RLine.cells (r : RLine) : List Value := [.string r.t, .int .i64 r.a, .int .i64 r.i, .int .i64 r.n, .bool r.h, .slice r.nA r.nn r.nc]
def lineEl : El Tryz.prog RLine := { t := 47, e := 54, m := 6, bytes := 72, z := .agg #[.string ByteArray.empty, .int .i64 0, .int .i64 0, .int .i64 0, .bool false, .slice none 0 0], E := RLine.cells, hE := fun _ => rfl, h1 := by simp [RLine.cells, Value.oneCell'], ht := by kernel_rfl, hi := by kernel_rfl, hz := rfl, hm := by decide, hb := by decide, agg := true, hagg := Tryz.isAgg54 }
theorem lineAt {w : World} {A : Option Addr} {xs : List RLine} (h : Sl lineEl w A xs) {k : Nat} (hk : k < xs.length) : ∃ b off, A = some ⟨b, off, none⟩ ∧ b < w.heap.size ∧ w.cell? ⟨b, off + k * 6, none⟩ = some (.string xs[k].t) ∧
    w.cell? ⟨b, off + k * 6 + 1, none⟩ = some (.int .i64 xs[k].a) ∧ w.cell? ⟨b, off + k * 6 + 2, none⟩ = some (.int .i64 xs[k].i) ∧ w.cell? ⟨b, off + k * 6 + 3, none⟩ = some (.int .i64 xs[k].n) ∧ w.cell? ⟨b, off + k * 6 + 4, none⟩ = some (.bool xs[k].h) ∧ w.cell? ⟨b, off + k * 6 + 5, none⟩ = some (.slice xs[k].nA xs[k].nn xs[k].nc) := by
  obtain ⟨b, off, hA, hb, hc⟩ := h.at_ hk
  exact ⟨b, off, hA, hb, by simpa [lineEl] using hc 0 _ rfl, hc 1 _ rfl, hc 2 _ rfl, hc 3 _ rfl, hc 4 _ rfl, hc 5 _ rfl⟩
theorem wp_appMake {P : Program} {α : Type} (D : El P α) {w : World} {a : Act} {K : Act → World → Prop} {Q : Exit → Act → World → Prop} {o : Oper} (s x : Operand) (tn : TypeId) (htn : P.underlying tn = some (.int .i64))
    (ho : o.op = .call { callee := .builtin .append, args := #[s, x], argTypes := #[D.t, tn] }) (k : Nat) (hs : a.eval s = .slice none 0 0) (hx : a.eval x = .int .i64 k) (h0 : 0 < k) (hk : k ≤ 1073741824)
    (h : ∀ G w', k ≤ G → (∀ base, base ≤ w.heap.size → Own D base w' (.slice (some ⟨w.heap.size, 0, none⟩) 0 G) []) → Ext w w' → K (a.put o.dst (.slice (some ⟨w.heap.size, 0, none⟩) k G)) w') : o.wp P a w K Q := by
  obtain ⟨i, hi, hz, hsz, hb⟩ := info_parts D.hi
  have hm := D.hm
  have hb2 := D.hb
  have hkb : k * i.bytes ≤ 1073741824 * 1024 := Nat.mul_le_mul hk (by omega)
  have hkb2 : (0 + k + (0 + k) / 4 + 192) * i.bytes ≤ 1610612736 * 1024 := Nat.mul_le_mul (by omega) (by omega)
  have hr := fun ty => Lib.run_append_grow_zeros w D.t tn ty D.e i D.z .i64 .i64 D.ht htn hi hz none 0 0 [] (run_firstCells_none w.drew i.size 0 0 0) k h0 (by omega) (by omega) (by omega) (by omega) (growslice_fits_wide (by omega) (by omega))
  have hG : 0 + k ≤ grownCap w (0 + k) 0 D.e := grownCap_ge w _ _ _
  have hG2 : grownCap w (0 + k) 0 D.e ≤ maxLen := grownCap_le_maxLen w (0 + k) 0 D.e (by unfold maxLen; omega)
  generalize grownCap w (0 + k) 0 D.e = G at hr hG hG2
  have hzc : D.z.cells.size = D.m := D.hz
  unfold Oper.wp execOp
  simp only [ho, resolve, invoke, builtin, Sem.run_bind, Sem.run_pure, Result.andThen_ok, List.map_toArray, List.map_cons, List.map_nil, hs, hx, hr]
  rw [Nat.zero_add] at hG ⊢
  refine h G _ hG (fun base hbase => ?_) ((Ext.drew (Ext.refl _)).alloc _)
  refine World.ownsRow_made w.drew _ G hbase hG2 ?_
  simp only [Array.size_append, size_zeroCells, hzc, ← Nat.add_mul, List.size_toArray, List.length_nil, Nat.zero_add]
  congr 1
  omega
theorem wpList_appMake {P : Program} {α : Type} (D : El P α) {w : World} {a : Act} {ops : Array Oper} {rest : List Oper} {Q : Exit → Act → World → Prop} {o : Oper} (hgd : o.guard = none) (s x : Operand) (tn : TypeId) (htn : P.underlying tn = some (.int .i64))
    (ho : o.op = .call { callee := .builtin .append, args := #[s, x], argTypes := #[D.t, tn] }) (k : Nat) (hs : a.eval s = .slice none 0 0) (hx : a.eval x = .int .i64 k) (h0 : 0 < k) (hk : k ≤ 1073741824)
    (h : ∀ G w', k ≤ G → (∀ base, base ≤ w.heap.size → Own D base w' (.slice (some ⟨w.heap.size, 0, none⟩) 0 G) []) → Ext w w' → wpList P ops Q rest (a.put o.dst (.slice (some ⟨w.heap.size, 0, none⟩) k G)) w') : wpList P ops Q (o :: rest) a w :=
  wpList_plain hgd fun _ hK => wp_appMake D s x tn htn ho k hs hx h0 hk fun G w' h1 h2 h3 => hK _ _ (h G w' h1 h2 h3)
def cat {α : Type} (xs : List (Option Addr × Nat × List α)) : List α := xs.flatMap (·.2.2)
theorem cat_take {α : Type} {xs : List (Option Addr × Nat × List α)} {k : Nat} (hk : k < xs.length) : cat (xs.take (k + 1)) = cat (xs.take k) ++ xs[k].2.2 := by
  unfold cat
  rw [List.take_succ_eq_append_getElem hk, List.flatMap_append]
  simp
theorem cat_take_le {α : Type} (xs : List (Option Addr × Nat × List α)) (k : Nat) : (cat (xs.take k)).length ≤ (cat xs).length := by
  have h : cat xs = cat (xs.take k) ++ cat (xs.drop k) := by
    unfold cat
    rw [← List.flatMap_append, List.take_append_drop]
  rw [h, List.length_append]
  omega
def slsSEl : El Tryz.prog (Option Addr × Nat × List ByteArray) := { t := 76, e := 34, m := 1, bytes := 24, z := .slice none 0 0, E := fun x => [.slice x.1 x.2.2.length x.2.1], hE := fun _ => rfl, h1 := by simp [Value.oneCell'], ht := by kernel_rfl, hi := by kernel_rfl, hz := rfl, hm := by decide, hb := by decide, agg := false, hagg := Tryz.isAgg34 }
theorem slsAtS {w : World} {A : Option Addr} {xs : List (Option Addr × Nat × List ByteArray)} (h : Sl slsSEl w A xs) {k : Nat} (hk : k < xs.length) : ∃ b off, A = some ⟨b, off, none⟩ ∧ b < w.heap.size ∧ w.cell? ⟨b, off + k, none⟩ = some (.slice xs[k].1 xs[k].2.2.length xs[k].2.1) := by
  obtain ⟨b, off, hA, hb, hc⟩ := h.at_ hk
  refine ⟨b, off, hA, hb, ?_⟩
  have := hc 0 _ rfl
  simpa [slsSEl] using this
set_option maxRecDepth 100000 in
set_option maxHeartbeats 800000 in
theorem growS_any (n : Nat) (w : World) (hn : n ≤ 1073741824) :
    Calls Tryz.prog 37 #[.slice none 0 0, .int .i64 n] w (RetOwn strEl w []) := by
  have h1 : decide ((n : Int) < 0) = false := decide_eq_false (by omega)
  rcases Nat.eq_zero_or_pos n with rfl | h0
  · go_enter Tryz.func37, Tryz.ntmps37
    go_wp2
    go_ret
    exact ⟨_, rfl, Own.nil _, Ext.refl _⟩
  · have h2 : decide ((n : Int) > 0) = true := decide_eq_true (by omega)
    go_enter Tryz.func37, Tryz.ntmps37
    go_wp2_with (at_builtin; refine wpList_appMake strEl rfl _ _ 3 Tryz.underlying3 rfl n rfl rfl h0 hn ?_; intro G w1 hG hown hext)
    go_ret
    exact ⟨_, rfl, hown _ (Nat.le_refl _), hext⟩
set_option maxRecDepth 100000 in
set_option maxHeartbeats 1600000 in
theorem concatS_any (A : Option Addr) (c : Nat) (xs : List (Option Addr × Nat × List ByteArray)) (w : World) (hs : Sl slsSEl w A xs) (hxs : ∀ x ∈ xs, Sl strEl w x.1 x.2.2) (hn : xs.length ≤ 1048576) (hm : (cat xs).length ≤ 1073741824) :
    Calls Tryz.prog 18 #[.slice A xs.length c] w (RetOwn strEl w (cat xs)) := by
  have Hxs := Lib.hid hxs
  clear hxs
  go_enter Tryz.func18, Tryz.ntmps18
  go_wp2
  go_loopw [3, 11] (fun z i wr => ∃ k m : Nat, k ≤ xs.length ∧ i = .int .i64 k ∧ z = .int .i64 m ∧ Hid ((cat (xs.take k)).length = m) ∧ m ≤ 1073741824 ∧ w = wr) (fun _ i _ => xs.length - (intOf i).toNat)
  case atStart => exact ⟨0, 0, Nat.zero_le _, rfl, rfl, rfl, by omega, rfl⟩
  case round =>
    obtain ⟨k, m, hk, rfl, rfl, Hm, hm2, rfl⟩ := hrel
    by_cases hlt : k < xs.length
    · obtain ⟨b, off, rfl, hb, hc⟩ := slsAtS hs hlt
      have hct := congrArg List.length (cat_take hlt)
      have hle := cat_take_le xs (k + 1)
      rw [List.length_append, Hm.out] at hct
      rw [hct] at hle
      obtain ⟨Ak, hAk⟩ : ∃ s, xs[k].1 = s := ⟨_, rfl⟩
      obtain ⟨ck, hck⟩ : ∃ s, xs[k].2.1 = s := ⟨_, rfl⟩
      obtain ⟨lk, hlk⟩ : ∃ s, xs[k].2.2 = s := ⟨_, rfl⟩
      rw [hAk, hck, hlk] at hc
      rw [hlk] at hct hle
      have Hct := Lib.hid hct
      have hz : decide ((m : Int) + (lk.length : Int) < 0) = false := decide_eq_false (by omega)
      clear hAk hck hlk hct
      go_wp2
      go_roundw
      case rel => exact ⟨k + 1, m + lk.length, by omega, by go_num, by go_num, Hct, by omega, trivial⟩
      case measure => simp [intOf]; omega
    · obtain rfl : k = xs.length := by omega
      clear Hm
      go_wp2_with (go_at_call 37; refine (growS_any _ _ hm2).mono ?_; rintro e w1 ⟨v, rfl, hown, hext⟩)
      go_loopw [6, 27] (fun out i wr => ∃ k : Nat, k ≤ xs.length ∧ i = .int .i64 k ∧ Own strEl w.heap.size wr out (cat (xs.take k)) ∧ Ext w wr) (fun _ i _ => xs.length - (intOf i).toNat)
      case atStart => exact ⟨0, Nat.zero_le _, rfl, hown, hext⟩
      case round =>
        obtain ⟨k, hk, rfl, hown, hext⟩ := hrel
        have hsz := hext.size
        by_cases hlt : k < xs.length
        · obtain ⟨b, off, rfl, hb, hc⟩ := slsAtS (hs.ext hext) hlt
          have hct := cat_take hlt
          have hle := cat_take_le xs (k + 1)
          have hsk := Hxs.out xs[k] (List.getElem_mem hlt)
          rw [hct] at hle
          obtain ⟨Ak, hAk⟩ : ∃ s, xs[k].1 = s := ⟨_, rfl⟩
          obtain ⟨ck, hck⟩ : ∃ s, xs[k].2.1 = s := ⟨_, rfl⟩
          obtain ⟨lk, hlk⟩ : ∃ s, xs[k].2.2 = s := ⟨_, rfl⟩
          rw [hAk, hck, hlk] at hc
          rw [hAk, hlk] at hsk
          rw [hlk] at hct hle
          rw [List.length_append] at hle
          have Hct := Lib.hid hct
          clear hAk hck hlk hct
          go_wp2_with (at_builtin; refine wpList_app strEl rfl _ _ rfl ck rfl hown rfl (hsk.ext hext) (by omega) (by omega) ?_; intro v' w2 hown' hb1 hg1)
          go_roundw
          case rel => exact ⟨k + 1, by omega, by go_num, by rw [Hct.out]; exact hown', hext.trans' hb1⟩
          case measure => simp [intOf]; omega
        · obtain rfl : k = xs.length := by omega
          rw [List.take_length] at hown
          go_wp2
          go_ret
          exact ⟨_, rfl, hown, hext⟩
def slsWEl : El Tryz.prog (Option Addr × Nat × List GWord) := { t := 200, e := 24, m := 1, bytes := 24, z := .slice none 0 0, E := fun x => [.slice x.1 x.2.2.length x.2.1], hE := fun _ => rfl, h1 := by simp [Value.oneCell'], ht := by kernel_rfl, hi := by kernel_rfl, hz := rfl, hm := by decide, hb := by decide, agg := false, hagg := Tryz.isAgg24 }
theorem slsAtW {w : World} {A : Option Addr} {xs : List (Option Addr × Nat × List GWord)} (h : Sl slsWEl w A xs) {k : Nat} (hk : k < xs.length) : ∃ b off, A = some ⟨b, off, none⟩ ∧ b < w.heap.size ∧ w.cell? ⟨b, off + k, none⟩ = some (.slice xs[k].1 xs[k].2.2.length xs[k].2.1) := by
  obtain ⟨b, off, hA, hb, hc⟩ := h.at_ hk
  refine ⟨b, off, hA, hb, ?_⟩
  have := hc 0 _ rfl
  simpa [slsWEl] using this
set_option maxRecDepth 100000 in
set_option maxHeartbeats 800000 in
theorem growW_any (n : Nat) (w : World) (hn : n ≤ 1073741824) :
    Calls Tryz.prog 171 #[.slice none 0 0, .int .i64 n] w (RetOwn wordEl w []) := by
  have h1 : decide ((n : Int) < 0) = false := decide_eq_false (by omega)
  rcases Nat.eq_zero_or_pos n with rfl | h0
  · go_enter Tryz.func171, Tryz.ntmps171
    go_wp2
    go_ret
    exact ⟨_, rfl, Own.nil _, Ext.refl _⟩
  · have h2 : decide ((n : Int) > 0) = true := decide_eq_true (by omega)
    go_enter Tryz.func171, Tryz.ntmps171
    go_wp2_with (at_builtin; refine wpList_appMake wordEl rfl _ _ 3 Tryz.underlying3 rfl n rfl rfl h0 hn ?_; intro G w1 hG hown hext)
    go_ret
    exact ⟨_, rfl, hown _ (Nat.le_refl _), hext⟩
set_option maxRecDepth 100000 in
set_option maxHeartbeats 1600000 in
theorem concatW_any (A : Option Addr) (c : Nat) (xs : List (Option Addr × Nat × List GWord)) (w : World) (hs : Sl slsWEl w A xs) (hxs : ∀ x ∈ xs, Sl wordEl w x.1 x.2.2) (hn : xs.length ≤ 1048576) (hm : (cat xs).length ≤ 1073741824) :
    Calls Tryz.prog 138 #[.slice A xs.length c] w (RetOwn wordEl w (cat xs)) := by
  have Hxs := Lib.hid hxs
  clear hxs
  go_enter Tryz.func138, Tryz.ntmps138
  go_wp2
  go_loopw [3, 11] (fun z i wr => ∃ k m : Nat, k ≤ xs.length ∧ i = .int .i64 k ∧ z = .int .i64 m ∧ Hid ((cat (xs.take k)).length = m) ∧ m ≤ 1073741824 ∧ w = wr) (fun _ i _ => xs.length - (intOf i).toNat)
  case atStart => exact ⟨0, 0, Nat.zero_le _, rfl, rfl, rfl, by omega, rfl⟩
  case round =>
    obtain ⟨k, m, hk, rfl, rfl, Hm, hm2, rfl⟩ := hrel
    by_cases hlt : k < xs.length
    · obtain ⟨b, off, rfl, hb, hc⟩ := slsAtW hs hlt
      have hct := congrArg List.length (cat_take hlt)
      have hle := cat_take_le xs (k + 1)
      rw [List.length_append, Hm.out] at hct
      rw [hct] at hle
      obtain ⟨Ak, hAk⟩ : ∃ s, xs[k].1 = s := ⟨_, rfl⟩
      obtain ⟨ck, hck⟩ : ∃ s, xs[k].2.1 = s := ⟨_, rfl⟩
      obtain ⟨lk, hlk⟩ : ∃ s, xs[k].2.2 = s := ⟨_, rfl⟩
      rw [hAk, hck, hlk] at hc
      rw [hlk] at hct hle
      have Hct := Lib.hid hct
      have hz : decide ((m : Int) + (lk.length : Int) < 0) = false := decide_eq_false (by omega)
      clear hAk hck hlk hct
      go_wp2
      go_roundw
      case rel => exact ⟨k + 1, m + lk.length, by omega, by go_num, by go_num, Hct, by omega, trivial⟩
      case measure => simp [intOf]; omega
    · obtain rfl : k = xs.length := by omega
      clear Hm
      go_wp2_with (go_at_call 171; refine (growW_any _ _ hm2).mono ?_; rintro e w1 ⟨v, rfl, hown, hext⟩)
      go_loopw [6, 27] (fun out i wr => ∃ k : Nat, k ≤ xs.length ∧ i = .int .i64 k ∧ Own wordEl w.heap.size wr out (cat (xs.take k)) ∧ Ext w wr) (fun _ i _ => xs.length - (intOf i).toNat)
      case atStart => exact ⟨0, Nat.zero_le _, rfl, hown, hext⟩
      case round =>
        obtain ⟨k, hk, rfl, hown, hext⟩ := hrel
        have hsz := hext.size
        by_cases hlt : k < xs.length
        · obtain ⟨b, off, rfl, hb, hc⟩ := slsAtW (hs.ext hext) hlt
          have hct := cat_take hlt
          have hle := cat_take_le xs (k + 1)
          have hsk := Hxs.out xs[k] (List.getElem_mem hlt)
          rw [hct] at hle
          obtain ⟨Ak, hAk⟩ : ∃ s, xs[k].1 = s := ⟨_, rfl⟩
          obtain ⟨ck, hck⟩ : ∃ s, xs[k].2.1 = s := ⟨_, rfl⟩
          obtain ⟨lk, hlk⟩ : ∃ s, xs[k].2.2 = s := ⟨_, rfl⟩
          rw [hAk, hck, hlk] at hc
          rw [hAk, hlk] at hsk
          rw [hlk] at hct hle
          rw [List.length_append] at hle
          have Hct := Lib.hid hct
          clear hAk hck hlk hct
          go_wp2_with (at_builtin; refine wpList_app wordEl rfl _ _ rfl ck rfl hown rfl (hsk.ext hext) (by omega) (by omega) ?_; intro v' w2 hown' hb1 hg1)
          go_roundw
          case rel => exact ⟨k + 1, by omega, by go_num, by rw [Hct.out]; exact hown', hext.trans' hb1⟩
          case measure => simp [intOf]; omega
        · obtain rfl : k = xs.length := by omega
          rw [List.take_length] at hown
          go_wp2
          go_ret
          exact ⟨_, rfl, hown, hext⟩
def slsLEl : El Tryz.prog (Option Addr × Nat × List RLine) := { t := 73, e := 47, m := 1, bytes := 24, z := .slice none 0 0, E := fun x => [.slice x.1 x.2.2.length x.2.1], hE := fun _ => rfl, h1 := by simp [Value.oneCell'], ht := by kernel_rfl, hi := by kernel_rfl, hz := rfl, hm := by decide, hb := by decide, agg := false, hagg := Tryz.isAgg47 }
theorem slsAtL {w : World} {A : Option Addr} {xs : List (Option Addr × Nat × List RLine)} (h : Sl slsLEl w A xs) {k : Nat} (hk : k < xs.length) : ∃ b off, A = some ⟨b, off, none⟩ ∧ b < w.heap.size ∧ w.cell? ⟨b, off + k, none⟩ = some (.slice xs[k].1 xs[k].2.2.length xs[k].2.1) := by
  obtain ⟨b, off, hA, hb, hc⟩ := h.at_ hk
  refine ⟨b, off, hA, hb, ?_⟩
  have := hc 0 _ rfl
  simpa [slsLEl] using this
set_option maxRecDepth 100000 in
set_option maxHeartbeats 800000 in
theorem growL_any (n : Nat) (w : World) (hn : n ≤ 1073741824) :
    Calls Tryz.prog 35 #[.slice none 0 0, .int .i64 n] w (RetOwn lineEl w []) := by
  have h1 : decide ((n : Int) < 0) = false := decide_eq_false (by omega)
  rcases Nat.eq_zero_or_pos n with rfl | h0
  · go_enter Tryz.func35, Tryz.ntmps35
    go_wp2
    go_ret
    exact ⟨_, rfl, Own.nil _, Ext.refl _⟩
  · have h2 : decide ((n : Int) > 0) = true := decide_eq_true (by omega)
    go_enter Tryz.func35, Tryz.ntmps35
    go_wp2_with (at_builtin; refine wpList_appMake lineEl rfl _ _ 3 Tryz.underlying3 rfl n rfl rfl h0 hn ?_; intro G w1 hG hown hext)
    go_ret
    exact ⟨_, rfl, hown _ (Nat.le_refl _), hext⟩
set_option maxRecDepth 100000 in
set_option maxHeartbeats 1600000 in
theorem concatL_any (A : Option Addr) (c : Nat) (xs : List (Option Addr × Nat × List RLine)) (w : World) (hs : Sl slsLEl w A xs) (hxs : ∀ x ∈ xs, Sl lineEl w x.1 x.2.2) (hn : xs.length ≤ 1048576) (hm : (cat xs).length ≤ 1073741824) :
    Calls Tryz.prog 16 #[.slice A xs.length c] w (RetOwn lineEl w (cat xs)) := by
  have Hxs := Lib.hid hxs
  clear hxs
  go_enter Tryz.func16, Tryz.ntmps16
  go_wp2
  go_loopw [3, 11] (fun z i wr => ∃ k m : Nat, k ≤ xs.length ∧ i = .int .i64 k ∧ z = .int .i64 m ∧ Hid ((cat (xs.take k)).length = m) ∧ m ≤ 1073741824 ∧ w = wr) (fun _ i _ => xs.length - (intOf i).toNat)
  case atStart => exact ⟨0, 0, Nat.zero_le _, rfl, rfl, rfl, by omega, rfl⟩
  case round =>
    obtain ⟨k, m, hk, rfl, rfl, Hm, hm2, rfl⟩ := hrel
    by_cases hlt : k < xs.length
    · obtain ⟨b, off, rfl, hb, hc⟩ := slsAtL hs hlt
      have hct := congrArg List.length (cat_take hlt)
      have hle := cat_take_le xs (k + 1)
      rw [List.length_append, Hm.out] at hct
      rw [hct] at hle
      obtain ⟨Ak, hAk⟩ : ∃ s, xs[k].1 = s := ⟨_, rfl⟩
      obtain ⟨ck, hck⟩ : ∃ s, xs[k].2.1 = s := ⟨_, rfl⟩
      obtain ⟨lk, hlk⟩ : ∃ s, xs[k].2.2 = s := ⟨_, rfl⟩
      rw [hAk, hck, hlk] at hc
      rw [hlk] at hct hle
      have Hct := Lib.hid hct
      have hz : decide ((m : Int) + (lk.length : Int) < 0) = false := decide_eq_false (by omega)
      clear hAk hck hlk hct
      go_wp2
      go_roundw
      case rel => exact ⟨k + 1, m + lk.length, by omega, by go_num, by go_num, Hct, by omega, trivial⟩
      case measure => simp [intOf]; omega
    · obtain rfl : k = xs.length := by omega
      clear Hm
      go_wp2_with (go_at_call 35; refine (growL_any _ _ hm2).mono ?_; rintro e w1 ⟨v, rfl, hown, hext⟩)
      go_loopw [6, 27] (fun out i wr => ∃ k : Nat, k ≤ xs.length ∧ i = .int .i64 k ∧ Own lineEl w.heap.size wr out (cat (xs.take k)) ∧ Ext w wr) (fun _ i _ => xs.length - (intOf i).toNat)
      case atStart => exact ⟨0, Nat.zero_le _, rfl, hown, hext⟩
      case round =>
        obtain ⟨k, hk, rfl, hown, hext⟩ := hrel
        have hsz := hext.size
        by_cases hlt : k < xs.length
        · obtain ⟨b, off, rfl, hb, hc⟩ := slsAtL (hs.ext hext) hlt
          have hct := cat_take hlt
          have hle := cat_take_le xs (k + 1)
          have hsk := Hxs.out xs[k] (List.getElem_mem hlt)
          rw [hct] at hle
          obtain ⟨Ak, hAk⟩ : ∃ s, xs[k].1 = s := ⟨_, rfl⟩
          obtain ⟨ck, hck⟩ : ∃ s, xs[k].2.1 = s := ⟨_, rfl⟩
          obtain ⟨lk, hlk⟩ : ∃ s, xs[k].2.2 = s := ⟨_, rfl⟩
          rw [hAk, hck, hlk] at hc
          rw [hAk, hlk] at hsk
          rw [hlk] at hct hle
          rw [List.length_append] at hle
          have Hct := Lib.hid hct
          clear hAk hck hlk hct
          go_wp2_with (at_builtin; refine wpList_app lineEl rfl _ _ rfl ck rfl hown rfl (hsk.ext hext) (by omega) (by omega) ?_; intro v' w2 hown' hb1 hg1)
          go_roundw
          case rel => exact ⟨k + 1, by omega, by go_num, by rw [Hct.out]; exact hown', hext.trans' hb1⟩
          case measure => simp [intOf]; omega
        · obtain rfl : k = xs.length := by omega
          rw [List.take_length] at hown
          go_wp2
          go_ret
          exact ⟨_, rfl, hown, hext⟩
end Go.Proofs.YtjhdamjbljafhaaGreatDoor
