/- Concat, Grow, Clone of strings; wordseq's chosen, each, Replace, InsertAfter. -/
import Derived.Test.YtkbmocgjbhmioaaOccur
import Derived.Lib.AppendZerosOnto
import Derived.Deep.DeepAppendWide
namespace Go.Proofs.Ytkbmocgjbhmioaa
open Go.RowKit

/-- append(nil, make(n)..) -/
theorem wp_appMake {P : Program} {α : Type} (D : El P α) {w : World} {a : Act} {K : Act → World → Prop} {Q : Exit → Act → World → Prop} {o : Oper} (s x : Operand) (tn : TypeId) (htn : P.underlying tn = some (.int .i64))
    (ho : o.op = .call { callee := .builtin .append, args := #[s, x], argTypes := #[D.t, tn] }) (k : Nat) (hs : a.eval s = .slice none 0 0) (hx : a.eval x = .int .i64 k) (h0 : 0 < k) (hk : k ≤ 1073741824)
    (h : ∀ G w', k ≤ G → (∀ base, base ≤ w.heap.size → Own D base w' (.slice (some ⟨w.heap.size, 0, none⟩) 0 G) []) → Ext w w' → K (a.put o.dst (.slice (some ⟨w.heap.size, 0, none⟩) k G)) w') : o.wp P a w K Q := by
  obtain ⟨i, hi, hz, hsz, hb⟩ := info_parts D.hi
  have hm := D.hm
  have hb2 := D.hb
  have hkb : k * i.bytes ≤ 1073741824 * 1024 := Nat.mul_le_mul hk (by omega)
  have hkb2 : (0 + k + (0 + k) / 4 + 192) * i.bytes ≤ 1610612736 * 1024 := Nat.mul_le_mul (by omega) (by omega)
  have hr := fun ty => Lib.run_append_grow_zeros w D.t tn ty D.e i D.z .i64 .i64 D.ht htn hi hz none 0 0 [] (run_firstCells_none w.drew i.size 0 0 0) k h0 (by omega) (by omega) (by omega) (by omega) (growslice_fits_wide (by omega) (by omega))
  have hG : 0 + k ≤ grownCap w (0 + k) 0 D.e := grownCap_ge w _ _ _
  have hG2 : grownCap w (0 + k) 0 D.e ≤ maxLen := grownCap_le_maxLen w (0 + k) 0 D.e (by unfold maxLen; omega)
  generalize grownCap w (0 + k) 0 D.e = G at hr hG hG2
  have hzc : D.z.cells.size = D.m := D.hz
  unfold Oper.wp execOp
  simp only [ho, resolve, invoke, builtin, Sem.run_bind, Sem.run_pure, Result.andThen_ok, List.map_toArray, List.map_cons, List.map_nil, hs, hx, hr]
  rw [Nat.zero_add] at hG ⊢
  refine h G _ hG (fun base hbase => ?_) ((Ext.drew (Ext.refl _)).alloc _)
  refine World.ownsRow_made w.drew _ G hbase hG2 ?_
  simp only [Array.size_append, size_zeroCells, hzc, ← Nat.add_mul, List.size_toArray, List.length_nil, Nat.zero_add]
  congr 1
  omega

theorem wpList_appMake {P : Program} {α : Type} (D : El P α) {w : World} {a : Act} {ops : Array Oper} {rest : List Oper} {Q : Exit → Act → World → Prop} {o : Oper} (hgd : o.guard = none) (s x : Operand) (tn : TypeId) (htn : P.underlying tn = some (.int .i64))
    (ho : o.op = .call { callee := .builtin .append, args := #[s, x], argTypes := #[D.t, tn] }) (k : Nat) (hs : a.eval s = .slice none 0 0) (hx : a.eval x = .int .i64 k) (h0 : 0 < k) (hk : k ≤ 1073741824)
    (h : ∀ G w', k ≤ G → (∀ base, base ≤ w.heap.size → Own D base w' (.slice (some ⟨w.heap.size, 0, none⟩) 0 G) []) → Ext w w' → wpList P ops Q rest (a.put o.dst (.slice (some ⟨w.heap.size, 0, none⟩) k G)) w') : wpList P ops Q (o :: rest) a w :=
  wpList_plain hgd fun _ hK => wp_appMake D s x tn htn ho k hs hx h0 hk fun G w' h1 h2 h3 => hK _ _ (h G w' h1 h2 h3)

set_option maxRecDepth 100000 in
set_option maxHeartbeats 800000 in
theorem grow_any (n : Nat) (w : World) (hn : n ≤ 1073741824) :
    Calls Try.prog 65 #[.slice none 0 0, .int .i64 n] w (RetOwn strEl w []) := by
  have h1 : decide ((n : Int) < 0) = false := decide_eq_false (by omega)
  rcases Nat.eq_zero_or_pos n with rfl | h0
  · go_enter Try.func65, Try.ntmps65
    go_wp2
    go_ret
    exact ⟨_, rfl, Own.nil _, Ext.refl _⟩
  · have h2 : decide ((n : Int) > 0) = true := decide_eq_true (by omega)
    go_enter Try.func65, Try.ntmps65
    go_wp2_with (at_builtin; refine wpList_appMake strEl rfl _ _ 3 Try.underlying3 rfl n rfl rfl h0 hn ?_; intro G w1 hG hown hext)
    go_ret
    exact ⟨_, rfl, hown _ (Nat.le_refl _), hext⟩

/-- the strings of the first k lists -/
def cat (xs : List (Option Addr × Nat × List ByteArray)) : List ByteArray := xs.flatMap (·.2.2)
theorem cat_take {xs : List (Option Addr × Nat × List ByteArray)} {k : Nat} (hk : k < xs.length) : cat (xs.take (k + 1)) = cat (xs.take k) ++ xs[k].2.2 := by
  unfold cat
  rw [List.take_succ_eq_append_getElem hk, List.flatMap_append]
  simp
theorem cat_take_le (xs : List (Option Addr × Nat × List ByteArray)) (k : Nat) : (cat (xs.take k)).length ≤ (cat xs).length := by
  have h : cat xs = cat (xs.take k) ++ cat (xs.drop k) := by
    unfold cat
    rw [← List.flatMap_append, List.take_append_drop]
  rw [h, List.length_append]
  omega

set_option maxRecDepth 100000 in
set_option maxHeartbeats 1600000 in
theorem concat_any (A : Option Addr) (c : Nat) (xs : List (Option Addr × Nat × List ByteArray)) (w : World) (hs : Sl slsEl w A xs) (hxs : ∀ x ∈ xs, Sl strEl w x.1 x.2.2) (hn : xs.length ≤ 1048576) (hm : (cat xs).length ≤ 1073741824) :
    Calls Try.prog 53 #[.slice A xs.length c] w (RetOwn strEl w (cat xs)) := by
  have Hxs := Lib.hid hxs
  clear hxs
  go_enter Try.func53, Try.ntmps53
  go_wp2
  go_loopw [3, 11] (fun z i wr => ∃ k m : Nat, k ≤ xs.length ∧ i = .int .i64 k ∧ z = .int .i64 m ∧ Hid ((cat (xs.take k)).length = m) ∧ m ≤ 1073741824 ∧ w = wr) (fun _ i _ => xs.length - (intOf i).toNat)
  case atStart => exact ⟨0, 0, Nat.zero_le _, rfl, rfl, rfl, by omega, rfl⟩
  case round =>
    obtain ⟨k, m, hk, rfl, rfl, Hm, hm2, rfl⟩ := hrel
    by_cases hlt : k < xs.length
    · obtain ⟨b, off, rfl, hb, hc⟩ := slsAt hs hlt
      have hct := congrArg List.length (cat_take hlt)
      have hle := cat_take_le xs (k + 1)
      rw [List.length_append, Hm.out] at hct
      rw [hct] at hle
      obtain ⟨Ak, hAk⟩ : ∃ s, xs[k].1 = s := ⟨_, rfl⟩
      obtain ⟨ck, hck⟩ : ∃ s, xs[k].2.1 = s := ⟨_, rfl⟩
      obtain ⟨lk, hlk⟩ : ∃ s, xs[k].2.2 = s := ⟨_, rfl⟩
      rw [hAk, hck, hlk] at hc
      rw [hlk] at hct hle
      have Hct := Lib.hid hct
      have hz : decide ((m : Int) + (lk.length : Int) < 0) = false := decide_eq_false (by omega)
      clear hAk hck hlk hct
      go_wp2
      go_roundw
      case rel => exact ⟨k + 1, m + lk.length, by omega, by go_num, by go_num, Hct, by omega, trivial⟩
      case measure => simp [intOf]; omega
    · obtain rfl : k = xs.length := by omega
      clear Hm
      go_wp2_with (go_at_call 65; refine (grow_any _ _ hm2).mono ?_; rintro e w1 ⟨v, rfl, hown, hext⟩)
      go_loopw [6, 27] (fun out i wr => ∃ k : Nat, k ≤ xs.length ∧ i = .int .i64 k ∧ Own strEl w.heap.size wr out (cat (xs.take k)) ∧ Ext w wr) (fun _ i _ => xs.length - (intOf i).toNat)
      case atStart => exact ⟨0, Nat.zero_le _, rfl, hown, hext⟩
      case round =>
        obtain ⟨k, hk, rfl, hown, hext⟩ := hrel
        have hsz := hext.size
        by_cases hlt : k < xs.length
        · obtain ⟨b, off, rfl, hb, hc⟩ := slsAt (hs.ext hext) hlt
          have hct := cat_take hlt
          have hle := cat_take_le xs (k + 1)
          have hsk := Hxs.out xs[k] (List.getElem_mem hlt)
          rw [hct] at hle
          obtain ⟨Ak, hAk⟩ : ∃ s, xs[k].1 = s := ⟨_, rfl⟩
          obtain ⟨ck, hck⟩ : ∃ s, xs[k].2.1 = s := ⟨_, rfl⟩
          obtain ⟨lk, hlk⟩ : ∃ s, xs[k].2.2 = s := ⟨_, rfl⟩
          rw [hAk, hck, hlk] at hc
          rw [hAk, hlk] at hsk
          rw [hlk] at hct hle
          rw [List.length_append] at hle
          have Hct := Lib.hid hct
          clear hAk hck hlk hct
          go_wp2_with (at_builtin; refine wpList_app strEl rfl _ _ rfl ck rfl hown rfl (hsk.ext hext) (by omega) (by omega) ?_; intro v' w2 hown' hb1 hg1)
          go_roundw
          case rel => exact ⟨k + 1, by omega, by go_num, by rw [Hct.out]; exact hown', hext.trans' hb1⟩
          case measure => simp [intOf]; omega
        · obtain rfl : k = xs.length := by omega
          rw [List.take_length] at hown
          go_wp2
          go_ret
          exact ⟨_, rfl, hown, hext⟩

/-! ### chosen, each -/
set_option maxRecDepth 100000 in
set_option maxHeartbeats 800000 in
theorem seqChosen_any (A B : Option Addr) (c d : Nat) (l part : List ByteArray) (nth : Int) (w : World) (hs : Sl strEl w A l) (hy : Sl strEl w B part) (hn : l.length ≤ 1048576) (hm : part.length ≤ 1048576) (hc : l.length ≤ c) :
    Calls Try.prog 50 #[.slice A l.length c, .slice B part.length d, .int .i64 nth] w (RetSl intEl w (chosenF (findF l part) nth)) := by
  have hfl := findF_length l part
  obtain ⟨P0, hP⟩ : ∃ P0, findF l part = P0 := ⟨_, rfl⟩
  rw [hP] at hfl ⊢
  have HP := Lib.hid hP
  clear hP
  by_cases h1 : nth = 0
  · subst h1
    go_enter Try.func50, Try.ntmps50
    go_wp2_with fail
    refine (findAll_any A B c d l part _ hs hy hn hm hc).mono ?_
    rintro e w2 ⟨v2, rfl, hown2, hext2⟩
    obtain ⟨A2, c2, rfl, hc2, hs2⟩ := hown2.form
    rw [HP.out] at hs2 hc2 ⊢
    clear hown2
    go_wp2
    go_ret
    rw [show chosenF P0 0 = P0 from rfl]
    exact ⟨_, _, rfl, hc2, hs2, hext2⟩
  · have hb : (nth == 0) = false := beq_eq_false_iff_ne.2 h1
    have H1 := Lib.hid h1
    clear h1
    by_cases h2 : nth < 0
    · have e1 : chosenF P0 nth = [] := by unfold chosenF; rw [if_neg H1.out, if_pos h2]
      rw [e1]
      have e2 : decide (nth < 0) = true := decide_eq_true h2
      clear e1
      go_enter Try.func50, Try.ntmps50
      go_wp2_with fail
      refine (findAll_any A B c d l part _ hs hy hn hm hc).mono ?_
      rintro e w2 ⟨v2, rfl, hown2, hext2⟩
      obtain ⟨A2, c2, rfl, hc2, hs2⟩ := hown2.form
      rw [HP.out] at hs2 hc2 ⊢
      clear hown2
      go_wp2
      go_ret
      exact ⟨_, _, rfl, Nat.le_refl _, Sl.nil, hext2⟩
    · have e2 : decide (nth < 0) = false := decide_eq_false h2
      by_cases h3 : (P0.length : Int) < nth
      · rw [chosenF_past h3]
        have e3 : decide (nth > (P0.length : Int)) = true := decide_eq_true h3
        go_enter Try.func50, Try.ntmps50
        go_wp2_with fail
        refine (findAll_any A B c d l part _ hs hy hn hm hc).mono ?_
        rintro e w2 ⟨v2, rfl, hown2, hext2⟩
        obtain ⟨A2, c2, rfl, hc2, hs2⟩ := hown2.form
        rw [HP.out] at hs2 hc2 ⊢
        clear hown2
        go_wp2
        go_ret
        exact ⟨_, _, rfl, Nat.le_refl _, Sl.nil, hext2⟩
      · have h1 := H1.out
        obtain ⟨n, rfl⟩ : ∃ n : Nat, nth = (n : Int) + 1 := ⟨(nth - 1).toNat, by omega⟩
        have e1 : chosenF P0 ((n : Int) + 1) = (P0.drop n).take (n + 1 - n) := by
          unfold chosenF
          rw [if_neg (by omega), if_neg (by omega)]
          rw [show ((n : Int) + 1 - 1).toNat = n from by omega, show n + 1 - n = 1 from by omega]
        rw [e1]
        have e3 : decide ((n : Int) + 1 > (P0.length : Int)) = false := decide_eq_false h3
        clear h1 e1
        go_enter Try.func50, Try.ntmps50
        go_wp2_with fail
        refine (findAll_any A B c d l part _ hs hy hn hm hc).mono ?_
        rintro e w2 ⟨v2, rfl, hown2, hext2⟩
        obtain ⟨A2, c2, rfl, hc2, hs2⟩ := hown2.form
        rw [HP.out] at hs2 hc2 ⊢
        clear hown2
        go_wp2_with (refine wpList_sl intEl rfl _ _ _ rfl rfl _ _ rfl rfl hs2 n (n + 1) (by omega) (by omega) (by omega) (by omega) hc2 ?_; intro A1 ys c1 Hy hl1 hs1)
        go_ret
        have e2 := Hy.out
        rw [Nat.add_sub_cancel_left] at e2
        rw [Nat.add_sub_cancel_left, ← e2]
        exact ⟨_, _, rfl, hl1, hs1, hext2⟩

set_option maxRecDepth 100000 in
set_option maxHeartbeats 1600000 in
theorem eachRep_any (A B C : Option Addr) (c d e : Nat) (l part X : List ByteArray) (ps : List Nat) (xs : List Int) (bx : Nat) (w : World) (hl : Sl strEl w A l) (hx : Sl intEl w C xs) (Hx : Hid (xs = ps.map (fun n : Nat => (n : Int))))
    (hdoes : ∀ (w' : World) (A' : Option Addr) (c' : Nat) (ys : List ByteArray), Ext w w' → Sl strEl w' A' ys → ys = part → ys.length ≤ c' → Calls Try.prog 51 #[.slice A' ys.length c', .pointer (some ⟨bx, 0, none⟩)] w' (RetSl strEl w' X))
    (hn : l.length ≤ 1048576) (hpn : xs.length ≤ 1048576) (hX : X.length ≤ 1024) (hc : l.length ≤ c) (hgood : goodP l.length part.length 0 ps) (hst : ∀ p ∈ ps, stands l part p) :
    Calls Try.prog 49 #[.slice A l.length c, .slice B part.length d, .slice C xs.length e, .func (.func 51) #[] #[.pointer (some ⟨bx, 0, none⟩)]] w
      fun r w' => ∃ v, r = .returned (.tuple #[v, .int .i64 (ps.length : Nat)]) ∧ Own strEl w.heap.size w' v (edT l part.length X 0 ps) ∧ Ext w w' := by
  have hpl : xs.length = ps.length := by rw [Hx.out, List.length_map]
  have Hpl := Lib.hid hpl
  have Hst := Lib.hid hst
  have Hdoes := Lib.hid hdoes
  clear hpl hst hdoes
  go_enter Try.func49, Try.ntmps49
  go_wp2
  go_loopw [10, 11, 16] (fun out frm i wr => ∃ (k b : Nat) (acc : List ByteArray), k ≤ xs.length ∧ i = .int .i64 k ∧ frm = .int .i64 b ∧ Hid (edT l part.length X 0 ps = acc ++ edT l part.length X b (ps.drop k)) ∧ Hid (goodP l.length part.length b (ps.drop k)) ∧ acc.length ≤ b + k * 1024 ∧ Own strEl w.heap.size wr out acc ∧ Ext w wr) (fun _ _ i _ => xs.length - (intOf i).toNat)
  case atStart => exact ⟨0, 0, [], Nat.zero_le _, rfl, rfl, by simp [Hid], hgood, by simp, Own.nil _, Ext.refl _⟩
  case round =>
    obtain ⟨k, b, acc, hk, rfl, rfl, Hacc, Hg, hal, hown, hext⟩ := hrel
    have hsz := hext.size
    by_cases hlt : k < xs.length
    · have hltp : k < ps.length := by rw [← Hpl.out]; exact hlt
      obtain ⟨p, hp⟩ : ∃ p, ps[k]? = some p := ⟨_, List.getElem?_eq_getElem hltp⟩
      have hdk : ps.drop k = p :: ps.drop (k + 1) := by
        rw [List.drop_eq_getElem_cons hltp]
        rw [List.getElem?_eq_getElem hltp] at hp
        simp only [Option.some.injEq] at hp
        rw [hp]
      have hxk : xs[k]? = some (p : Int) := by rw [Hx.out, List.getElem?_map, hp]; rfl
      have hxk' : xs[k] = (p : Int) := by
        rw [List.getElem?_eq_getElem hlt] at hxk
        simpa using hxk
      have hg := Hg.out
      rw [hdk] at hg
      have g1 : b ≤ p := hg.1
      have g2 : p + part.length ≤ l.length := hg.2.1
      have g3 := Lib.hid hg.2.2
      have hsp := (Hst.out p (List.mem_of_getElem? hp)).2
      have Hsp := Lib.hid hsp
      have hacc := Hacc.out
      rw [hdk, edT] at hacc
      have Hacc2 := Lib.hid hacc
      obtain ⟨bc, oc, rfl, hbc, hcx⟩ := intAt (hx.ext hext) hlt
      rw [hxk'] at hcx
      clear hp hdk hxk hxk' hg Hg hsp hacc Hacc hltp
      go_wp2_with (first |
        (refine wpList_sl strEl rfl _ _ _ rfl rfl _ _ rfl rfl (hl.ext hext) b p (by omega) (by omega) g1 (by omega) hc ?_; intro A1 ys1 c1 Hy1 hl1 hs1) |
        (at_builtin; refine wpList_app strEl rfl _ _ rfl c1 rfl hown rfl hs1 (by rw [Hy1.out]; simp; omega) hsz ?_; intro v1 w1 hown1 hb1 hg1; have hext1 := hext.trans' hb1) |
        (refine wpList_sl strEl rfl _ _ _ rfl rfl _ _ rfl rfl (hl.ext hext1) p (p + part.length) (by omega) (by omega) (by omega) g2 hc ?_; intro A2 ys2 c2 Hy2 hl2 hs2) |
        (go_at_call 51; refine (Hdoes.out _ A2 c2 ys2 hext1 hs2 (by rw [Hy2.out, Nat.add_sub_cancel_left]; exact Hsp.out) hl2).mono ?_; rintro e w2 ⟨A3, c3, rfl, hl3, hs3, hext2⟩) |
        (at_builtin; refine wpList_app strEl rfl _ _ rfl c3 rfl (hown1.ext hext2) rfl hs3 (by rw [Hy1.out]; simp; omega) (Nat.le_trans hext1.size hext2.size) ?_; intro v3 w3 hown3 hb3 hg3))
      go_roundw
      case rel =>
        refine ⟨k + 1, p + part.length, _, by omega, by go_num, by go_num, Lib.hid ?_, g3, ?_, hown3, (hext1.trans hext2).trans' hb3⟩
        · rw [Hacc2.out, Hy1.out]
          simp only [List.append_assoc]
        · rw [Hy1.out]; simp; omega
      case measure => simp [intOf]; omega
    · obtain rfl : k = xs.length := by omega
      have hacc := Hacc.out
      rw [List.drop_eq_nil_of_le (by rw [Hpl.out]; exact Nat.le_refl _), edT] at hacc
      have hg := Hg.out
      have g1 := goodP_le hg
      have Hacc2 := Lib.hid hacc
      clear hg Hg hacc Hacc
      go_wp2_with (first |
        (refine wpList_slFrom strEl rfl _ _ rfl rfl _ rfl (hl.ext hext) b (by omega) g1 hc ?_; intro A1 ys1 c1 Hy1 hl1 hs1) |
        (at_builtin; refine wpList_app strEl rfl _ _ rfl c1 rfl hown rfl hs1 (by rw [Hy1.out]; simp; omega) hsz ?_; intro v1 w1 hown1 hb1 hg1; have hext1 := hext.trans' hb1))
      go_ret2
      refine ⟨v1, ?_, ?_, hext1⟩
      · rw [← Hpl.out]; rfl
      · rw [Hacc2.out, ← Hy1.out]
        exact hown1

set_option maxRecDepth 100000 in
set_option maxHeartbeats 1600000 in
theorem eachIns_any (A B C : Option Addr) (c d e : Nat) (l part X : List ByteArray) (ps : List Nat) (xs : List Int) (bx : Nat) (w : World) (hl : Sl strEl w A l) (hx : Sl intEl w C xs) (Hx : Hid (xs = ps.map (fun n : Nat => (n : Int))))
    (hdoes : ∀ (w' : World) (A' : Option Addr) (c' : Nat) (ys : List ByteArray), Ext w w' → Sl strEl w' A' ys → ys = part → ys.length ≤ c' → Calls Try.prog 54 #[.slice A' ys.length c', .pointer (some ⟨bx, 0, none⟩)] w' (RetSl strEl w' X))
    (hn : l.length ≤ 1048576) (hpn : xs.length ≤ 1048576) (hX : X.length ≤ 1024) (hc : l.length ≤ c) (hgood : goodP l.length part.length 0 ps) (hst : ∀ p ∈ ps, stands l part p) :
    Calls Try.prog 49 #[.slice A l.length c, .slice B part.length d, .slice C xs.length e, .func (.func 54) #[] #[.pointer (some ⟨bx, 0, none⟩)]] w
      fun r w' => ∃ v, r = .returned (.tuple #[v, .int .i64 (ps.length : Nat)]) ∧ Own strEl w.heap.size w' v (edT l part.length X 0 ps) ∧ Ext w w' := by
  have hpl : xs.length = ps.length := by rw [Hx.out, List.length_map]
  have Hpl := Lib.hid hpl
  have Hst := Lib.hid hst
  have Hdoes := Lib.hid hdoes
  clear hpl hst hdoes
  go_enter Try.func49, Try.ntmps49
  go_wp2
  go_loopw [10, 11, 16] (fun out frm i wr => ∃ (k b : Nat) (acc : List ByteArray), k ≤ xs.length ∧ i = .int .i64 k ∧ frm = .int .i64 b ∧ Hid (edT l part.length X 0 ps = acc ++ edT l part.length X b (ps.drop k)) ∧ Hid (goodP l.length part.length b (ps.drop k)) ∧ acc.length ≤ b + k * 1024 ∧ Own strEl w.heap.size wr out acc ∧ Ext w wr) (fun _ _ i _ => xs.length - (intOf i).toNat)
  case atStart => exact ⟨0, 0, [], Nat.zero_le _, rfl, rfl, by simp [Hid], hgood, by simp, Own.nil _, Ext.refl _⟩
  case round =>
    obtain ⟨k, b, acc, hk, rfl, rfl, Hacc, Hg, hal, hown, hext⟩ := hrel
    have hsz := hext.size
    by_cases hlt : k < xs.length
    · have hltp : k < ps.length := by rw [← Hpl.out]; exact hlt
      obtain ⟨p, hp⟩ : ∃ p, ps[k]? = some p := ⟨_, List.getElem?_eq_getElem hltp⟩
      have hdk : ps.drop k = p :: ps.drop (k + 1) := by
        rw [List.drop_eq_getElem_cons hltp]
        rw [List.getElem?_eq_getElem hltp] at hp
        simp only [Option.some.injEq] at hp
        rw [hp]
      have hxk : xs[k]? = some (p : Int) := by rw [Hx.out, List.getElem?_map, hp]; rfl
      have hxk' : xs[k] = (p : Int) := by
        rw [List.getElem?_eq_getElem hlt] at hxk
        simpa using hxk
      have hg := Hg.out
      rw [hdk] at hg
      have g1 : b ≤ p := hg.1
      have g2 : p + part.length ≤ l.length := hg.2.1
      have g3 := Lib.hid hg.2.2
      have hsp := (Hst.out p (List.mem_of_getElem? hp)).2
      have Hsp := Lib.hid hsp
      have hacc := Hacc.out
      rw [hdk, edT] at hacc
      have Hacc2 := Lib.hid hacc
      obtain ⟨bc, oc, rfl, hbc, hcx⟩ := intAt (hx.ext hext) hlt
      rw [hxk'] at hcx
      clear hp hdk hxk hxk' hg Hg hsp hacc Hacc hltp
      go_wp2_with (first |
        (refine wpList_sl strEl rfl _ _ _ rfl rfl _ _ rfl rfl (hl.ext hext) b p (by omega) (by omega) g1 (by omega) hc ?_; intro A1 ys1 c1 Hy1 hl1 hs1) |
        (at_builtin; refine wpList_app strEl rfl _ _ rfl c1 rfl hown rfl hs1 (by rw [Hy1.out]; simp; omega) hsz ?_; intro v1 w1 hown1 hb1 hg1; have hext1 := hext.trans' hb1) |
        (refine wpList_sl strEl rfl _ _ _ rfl rfl _ _ rfl rfl (hl.ext hext1) p (p + part.length) (by omega) (by omega) (by omega) g2 hc ?_; intro A2 ys2 c2 Hy2 hl2 hs2) |
        (go_at_call 54; refine (Hdoes.out _ A2 c2 ys2 hext1 hs2 (by rw [Hy2.out, Nat.add_sub_cancel_left]; exact Hsp.out) hl2).mono ?_; rintro e w2 ⟨A3, c3, rfl, hl3, hs3, hext2⟩) |
        (at_builtin; refine wpList_app strEl rfl _ _ rfl c3 rfl (hown1.ext hext2) rfl hs3 (by rw [Hy1.out]; simp; omega) (Nat.le_trans hext1.size hext2.size) ?_; intro v3 w3 hown3 hb3 hg3))
      go_roundw
      case rel =>
        refine ⟨k + 1, p + part.length, _, by omega, by go_num, by go_num, Lib.hid ?_, g3, ?_, hown3, (hext1.trans hext2).trans' hb3⟩
        · rw [Hacc2.out, Hy1.out]
          simp only [List.append_assoc]
        · rw [Hy1.out]; simp; omega
      case measure => simp [intOf]; omega
    · obtain rfl : k = xs.length := by omega
      have hacc := Hacc.out
      rw [List.drop_eq_nil_of_le (by rw [Hpl.out]; exact Nat.le_refl _), edT] at hacc
      have hg := Hg.out
      have g1 := goodP_le hg
      have Hacc2 := Lib.hid hacc
      clear hg Hg hacc Hacc
      go_wp2_with (first |
        (refine wpList_slFrom strEl rfl _ _ rfl rfl _ rfl (hl.ext hext) b (by omega) g1 hc ?_; intro A1 ys1 c1 Hy1 hl1 hs1) |
        (at_builtin; refine wpList_app strEl rfl _ _ rfl c1 rfl hown rfl hs1 (by rw [Hy1.out]; simp; omega) hsz ?_; intro v1 w1 hown1 hb1 hg1; have hext1 := hext.trans' hb1))
      go_ret2
      refine ⟨v1, ?_, ?_, hext1⟩
      · rw [← Hpl.out]; rfl
      · rw [Hacc2.out, ← Hy1.out]
        exact hown1

end Go.Proofs.Ytkbmocgjbhmioaa
