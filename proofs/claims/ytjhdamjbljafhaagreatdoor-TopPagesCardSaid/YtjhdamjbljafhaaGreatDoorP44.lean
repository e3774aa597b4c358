/- paginate.high, page. -/
import Derived.Test.YtjhdamjbljafhaaGreatDoorP27
import Derived.Test.YtjhdamjbljafhaaGreatDoorP43
namespace Go.Proofs.YtjhdamjbljafhaaGreatDoor
open Go.RowKit
def nsum (xs : List GLn) : Nat := (xs.map fun x => x.2.length).sum
def highF (xs : List GLn) : Nat := 1 + xs.length + nsum xs + if 0 < nsum xs then 1 else 0
theorem nsum_take {xs : List GLn} {k : Nat} (hk : k < xs.length) : nsum (xs.take (k + 1)) = nsum (xs.take k) + xs[k].2.length := by
  rw [List.take_succ_eq_append_getElem hk]
  simp only [nsum, List.map_append, List.sum_append, List.map_cons, List.map_nil, List.sum_cons, List.sum_nil]
  omega
theorem nsum_take_le (xs : List GLn) (k : Nat) : nsum (xs.take k) ≤ nsum xs := by
  have h : nsum xs = nsum (xs.take k) + nsum (xs.drop k) := by
    conv => lhs; rw [← List.take_append_drop k xs]
    simp only [nsum, List.map_append, List.sum_append]
  omega
set_option maxRecDepth 100000 in
set_option maxHeartbeats 1600000 in
theorem high_any (A : Option Addr) (c : Nat) (xs : List GLn) (w : World) (hs : Sl lineEl w A (xs.map Prod.fst)) (hn : ∀ x ∈ xs, x.1.nn = x.2.length) (hb : xs.length + nsum xs ≤ 10000000) :
    Calls Tryz.prog 15 #[.slice A xs.length c] w fun e w' => e = .returned (.int .i64 (highF xs : Nat)) ∧ Ext w w' := by
  have Hs := Lib.hid hs
  have Hn := Lib.hid hn
  have Hst := Lib.hid (fun k (hk : k < xs.length) => nsum_take hk)
  have Hle := Lib.hid (fun k => nsum_take_le xs k)
  have Hf := Lib.hid (show highF xs = 1 + xs.length + nsum xs + if 0 < nsum xs then 1 else 0 from rfl)
  obtain ⟨H, hH⟩ : ∃ H, highF xs = H := ⟨_, rfl⟩
  rw [hH] at Hf ⊢
  clear hs hn hH
  go_enter Tryz.func15, Tryz.ntmps15
  go_wp2
  go_loopw [4, 12] (fun vm vk wr => ∃ (k t : Nat), k ≤ xs.length ∧ vk = .int .i64 (k : Nat) ∧ vm = .int .i64 (t : Nat) ∧ Hid (t = nsum (xs.take k)) ∧ Ext w wr) (fun _ vk _ => xs.length - (intOf vk).toNat)
  case atStart => exact ⟨0, 0, Nat.zero_le _, rfl, rfl, Lib.hid rfl, Ext.refl _⟩
  case round =>
    obtain ⟨k, t, hk, rfl, rfl, Ht, hext⟩ := hrel
    have htl : t ≤ 10000000 := by have h1 := Hle.out k; have h2 := Ht.out; omega
    by_cases hlt : k < xs.length
    · obtain ⟨b, off, hAe, hbl, u0, u1, u2, u3, u4, u5⟩ := lineAt (Hs.out.ext hext) (k := k) (by simpa using hlt)
      obtain ⟨x, hx⟩ : ∃ x, xs[k] = x := ⟨_, rfl⟩
      rw [List.getElem_map, hx] at u0 u1 u2 u3 u4 u5
      have hnn := Hn.out xs[k] (List.getElem_mem hlt)
      have hstep := Hst.out k hlt
      have hle := Hle.out (k + 1)
      rw [hx] at hnn hstep
      rw [hnn] at u5
      obtain ⟨q, nts⟩ := x
      dsimp only at u0 u1 u2 u3 u4 u5 hstep
      have Hstep := Lib.hid hstep
      have hnl : nts.length ≤ 10000000 := by omega
      subst hAe
      have e1 : decide ((k : Int) < (xs.length : Int)) = true := decide_eq_true (by omega)
      have hxa : Ext wr (wr.alloc (.cells #[.string q.t, .int .i64 q.a, .int .i64 q.i, .int .i64 q.n, .bool q.h, .slice q.nA nts.length q.nc] 54)) := (Ext.refl wr).alloc _
      have Hext := Lib.hid (hext.trans hxa)
      clear hx hnn hstep hle hxa hext
      go_wp2
      go_roundw
      case rel => exact ⟨k + 1, t + nts.length, by omega, by go_num, by go_num, Lib.hid (by rw [Hstep.out, Ht.out]), Hext.out⟩
      case measure => simp [intOf]; omega
    · have e1 : decide ((k : Int) < (xs.length : Int)) = false := decide_eq_false (by omega)
      have hk2 : k = xs.length := by omega
      have Ht2 := Lib.hid (show t = nsum xs by rw [Ht.out, hk2, List.take_length])
      clear hk2
      by_cases h0 : 0 < t
      · have e2 : decide ((t : Int) > 0) = true := decide_eq_true (by omega)
        have e3 : decide (0 < (t : Int)) = true := decide_eq_true (by omega)
        have HH := Lib.hid (show (H : Int) = 1 + (xs.length : Int) + ((t : Int) + 1) by rw [Hf.out, ← Ht2.out, if_pos h0]; omega)
        go_wp2
        go_ret
        exact ⟨by simp; exact HH.out.symm, hext⟩
      · have e2 : decide ((t : Int) > 0) = false := decide_eq_false (by omega)
        have e3 : decide (0 < (t : Int)) = false := decide_eq_false (by omega)
        have HH := Lib.hid (show (H : Int) = 1 + (xs.length : Int) + (t : Int) by rw [Hf.out, ← Ht2.out, if_neg h0]; omega)
        go_wp2
        go_ret
        exact ⟨by simp; exact HH.out.symm, hext⟩
structure RPage where
  n : Int
  h : ByteArray
  lA : Option Addr
  ln : Nat
  lc : Nat
  nA : Option Addr
  nn : Nat
  nc : Nat
def RPage.cells (r : RPage) : List Value := [.int .i64 r.n, .string r.h, .slice r.lA r.ln r.lc, .slice r.nA r.nn r.nc]
def pageEl : El Tryz.prog RPage := { t := 29, e := 37, m := 4, bytes := 72, z := .agg #[.int .i64 0, .string ByteArray.empty, .slice none 0 0, .slice none 0 0], E := RPage.cells, hE := fun _ => rfl, h1 := by simp [RPage.cells, Value.oneCell'], ht := by kernel_rfl, hi := by kernel_rfl, hz := rfl, hm := by decide, hb := by decide, agg := true, hagg := Tryz.isAgg37 }
structure GPage where
  n : Nat
  l : List ByteArray
  f : List ByteArray
structure PageO (w : World) (p : GPage) (r : RPage) : Prop where
  n : r.n = p.n
  l : Own strEl 0 w (.slice r.lA r.ln r.lc) p.l
  ln : r.ln = p.l.length
  f : Own strEl 0 w (.slice r.nA r.nn r.nc) p.f
  fn : r.nn = p.f.length
theorem PageO.ext {w w' : World} {p : GPage} {r : RPage} (h : PageO w p r) (he : Ext w w') : PageO w' p r := ⟨h.n, h.l.ext he, h.ln, h.f.ext he, h.fn⟩
def pageOf (n : Nat) (xs : List GLn) : GPage := ⟨n, xs.map fun x => x.1.t, xs.flatMap Prod.snd⟩
def TPg (num : Nat) : Ty := ⟨fun v _ => ∃ s : ByteArray, v = .agg #[.int .i64 (num : Int), .string s, .slice none 0 0, .slice none 0 0], fun _ _ _ _ h => h⟩
def TPage0 (n : Nat) : Ty := ⟨fun v w => ∃ b, v = .pointer (some ⟨b, 0, none⟩) ∧ n ≤ b ∧ b < w.heap.size ∧ w.heap[b]? = some (.cells #[.int .i64 0, .string ⟨#[]⟩, .slice none 0 0, .slice none 0 0] 37 (0, 0)),
  fun _ _ _ he ⟨b, h1, h2, h3, h4⟩ => ⟨b, h1, h2, Nat.lt_of_lt_of_le h3 he.size, (he.block h3).trans h4⟩⟩
theorem yld_allocP {ρ : Operand → Value} {o : Oper} {w : World} {n : Nat} (hn : n ≤ w.heap.size) (ho : o.op = .alloc 37) : Yld Tryz.prog ρ o w (TPage0 n).p := by
  have hr : ∀ W : World, (execOp ρ o).run Tryz.prog W = .ok (.value (.pointer (some ⟨W.heap.size, 0, none⟩))) (W.alloc (.cells #[.int .i64 0, .string ⟨#[]⟩, .slice none 0 0, .slice none 0 0] 37)) := fun W => by
    have z := Tryz.zeroValue37
    simp [execOp, ho, z]
    go_simp
  unfold Yld
  rw [hr]
  exact ⟨(Ext.refl _).alloc _, _, rfl, hn, by simp, heap_alloc_new _ _⟩
structure PgSt (wb : World) (b num : Nat) (hd : ByteArray) (ls ns : List ByteArray) (vl vn : Value) (w : World) : Prop where
  ext : Ext wb w
  low : wb.heap.size ≤ b
  blk : w.heap[b]? = some (.cells #[.int .i64 (num : Int), .string hd, vl, vn] 37 (0, 0))
  ol : Own strEl wb.heap.size w vl ls
  on : Own strEl wb.heap.size w vn ns
  dif : ∀ g, vl.ownBlock = some g → vn.ownBlock ≠ some g
section
variable {wb w w2 : World} {b num : Nat} {hd : ByteArray} {ls ns ys : List ByteArray} {vl vn v' : Value}
theorem PgSt.grow (h : PgSt wb b num hd ls ns vl vn w) (he : Ext w w2) : PgSt wb b num hd ls ns vl vn w2 := ⟨h.ext.trans he, h.low, (he.block (block_lt h.blk)).trans h.blk, h.ol.ext he, h.on.ext he, h.dif⟩
theorem PgSt.line (h : PgSt wb b num hd ls ns vl vn w) (h1 : Own strEl wb.heap.size w2 v' (ls ++ ys)) (h2 : w.grownBy w2 vl.ownBlock) (h3 : v'.ownBlock = vl.ownBlock ∨ v'.ownBlock = some w.heap.size) :
    w2.heap[b]? = some (.cells #[.int .i64 (num : Int), .string hd, vl, vn] 37 (0, 0)) ∧ Ext wb w2 ∧
    ∀ w3 : World, (∀ k, k ≠ b → w3.heap[k]? = w2.heap[k]?) → w3.os = w2.os → w3.tape = w2.tape → w3.output = w2.output → w3.heap.size = w2.heap.size → w3.heap[b]? = some (.cells #[.int .i64 (num : Int), .string hd, v', vn] 37 (0, 0)) → PgSt wb b num hd (ls ++ ys) ns v' vn w3 := by
  have hx : Ext wb w2 := h.ext.grown h2 h.ext.size fun k hk => (h.ol.bd hk).1
  refine ⟨(h2.block _ (block_lt h.blk) (fun e => h.ol.ne h.blk (by decide) _ e.symm rfl)).trans h.blk, hx, fun w3 hw3 hos htp hou hs hbk => ?_⟩
  have hn2 : Own strEl wb.heap.size w2 vn ns := h.on.keep fun k hk => h2.block k (block_lt (h.on.bd hk).2.choose_spec) (fun e => h.dif k e.symm hk)
  have hb2 := (h2.block _ (block_lt h.blk) (fun e => h.ol.ne h.blk (by decide) _ e.symm rfl)).trans h.blk
  refine ⟨hx.put h.low hw3 hos htp hou hs, h.low, hbk, h1.keep fun k hk => hw3 k (h1.ne hb2 (by decide) k hk), hn2.keep fun k hk => hw3 k (hn2.ne hb2 (by decide) k hk), fun g hg hn => ?_⟩
  rcases h3 with e | e
  · exact h.dif g (by rw [← e]; exact hg) hn
  · rw [e] at hg
    cases hg
    have := block_lt (h.on.bd hn).2.choose_spec
    omega
theorem PgSt.note (h : PgSt wb b num hd ls ns vl vn w) (h1 : Own strEl wb.heap.size w2 v' (ns ++ ys)) (h2 : w.grownBy w2 vn.ownBlock) (h3 : v'.ownBlock = vn.ownBlock ∨ v'.ownBlock = some w.heap.size) :
    w2.heap[b]? = some (.cells #[.int .i64 (num : Int), .string hd, vl, vn] 37 (0, 0)) ∧ Ext wb w2 ∧
    ∀ w3 : World, (∀ k, k ≠ b → w3.heap[k]? = w2.heap[k]?) → w3.os = w2.os → w3.tape = w2.tape → w3.output = w2.output → w3.heap.size = w2.heap.size → w3.heap[b]? = some (.cells #[.int .i64 (num : Int), .string hd, vl, v'] 37 (0, 0)) → PgSt wb b num hd ls (ns ++ ys) vl v' w3 := by
  have hx : Ext wb w2 := h.ext.grown h2 h.ext.size fun k hk => (h.on.bd hk).1
  have hb2 := (h2.block _ (block_lt h.blk) (fun e => h.on.ne h.blk (by decide) _ e.symm rfl)).trans h.blk
  refine ⟨hb2, hx, fun w3 hw3 hos htp hou hs hbk => ?_⟩
  have hn2 : Own strEl wb.heap.size w2 vl ls := h.ol.keep fun k hk => h2.block k (block_lt (h.ol.bd hk).2.choose_spec) (fun e => h.dif k hk e.symm)
  refine ⟨hx.put h.low hw3 hos htp hou hs, h.low, hbk, hn2.keep fun k hk => hw3 k (hn2.ne hb2 (by decide) k hk), h1.keep fun k hk => hw3 k (h1.ne hb2 (by decide) k hk), fun g hg hn => ?_⟩
  rcases h3 with e | e
  · exact h.dif g hg (by rw [← e]; exact hn)
  · rw [e] at hn
    cases hn
    have := block_lt (h.ol.bd hg).2.choose_spec
    omega
theorem PgSt.cells (h : PgSt wb b num hd ls ns vl vn w) : b < w.heap.size ∧ w.cell? ⟨b, 0, none⟩ = some (.int .i64 (num : Int)) ∧ w.cell? ⟨b, 1, none⟩ = some (.string hd) ∧ w.cell? ⟨b, 2, none⟩ = some vl ∧ w.cell? ⟨b, 3, none⟩ = some vn :=
  ⟨block_lt h.blk, by simp [World.cell?, h.blk], by simp [World.cell?, h.blk], by simp [World.cell?, h.blk], by simp [World.cell?, h.blk]⟩
end
theorem results_cellP {fn : Func} {t : Tmp} (h : fn.results = #[.cell t 37]) (tmps : Array Value) (w : World) (b : Nat) (r : RPage) (hp : tmps.getD t undef = .pointer (some ⟨b, 0, none⟩)) (hc : w.heap[b]? = some (.cells r.cells.toArray 37 (0, 0))) :
    (results fn tmps).run Tryz.prog w = .ok (.agg r.cells.toArray) w := by
  have hl := run_loadCells_list (P := Tryz.prog) w ⟨b, 0, none⟩ r.cells (fun j u hu => by
    have hadd : (⟨b, 0, none⟩ : Addr).add j = ⟨b, j, none⟩ := by unfold Addr.add; split <;> simp_all
    rw [hadd]
    simp only [World.cell?, hc]
    simpa using hu)
  have hp' : tmps[t]?.getD undef = .pointer (some ⟨b, 0, none⟩) := by simpa using hp
  have hn : ∀ w, (sizeOf 37).run Tryz.prog w = .ok r.cells.length w := Tryz.sizeOf37
  simp [results, h, hp', asAddr, loadVar, Tryz.isAgg37, hn, hl]
def RetPage (w : World) (p : GPage) (e : Ending) (w' : World) : Prop := ∃ r : RPage, e = .returned (.agg r.cells.toArray) ∧ PageO w' p r ∧ Ext w w'
set_option maxRecDepth 100000 in
set_option maxHeartbeats 6400000 in
theorem page_any (u : GUnit) (r : RUnit) (num : Nat) (A : Option Addr) (c : Nat) (xs : List GLn) (w : World) (hr : Reads w u r) (hok : OkU u) (hT : Tabs w) (hs : Sl lineEl w A (xs.map Prod.fst)) (hn : ∀ x ∈ xs, NoteO w x) (h1 : 1 ≤ xs.length) (hb : xs.length + nsum xs ≤ 10000000) :
    Calls Tryz.prog 17 #[.agg r.cells.toArray, .int .i64 (num : Int), .slice A xs.length c] w (RetPage w (pageOf num xs)) := by
  have hrh := fun ida idb wq (he : Ext w wq) => runHead_any u r ida idb wq (Reads.ext he u r hr) hok (hT.ext he)
  have hbx := BoxU.new r w
  have hx0 : Ext w (w.alloc (.cells r.cells.toArray 27)) := (Ext.refl w).alloc _
  obtain ⟨w1, hw1⟩ : ∃ w1, w.alloc (.cells r.cells.toArray 27) = w1 := ⟨_, rfl⟩
  have hs1 : w1.heap.size = w.heap.size + 1 := by rw [← hw1]; simp
  rw [hw1] at hbx hx0
  have hx1 : Ext w1 (w1.alloc (.cells #[.int .i64 0, .string ⟨#[]⟩, .slice none 0 0, .slice none 0 0] 37)) := (Ext.refl _).alloc _
  have hrb := heap_alloc_new w1 (.cells #[.int .i64 0, .string ⟨#[]⟩, .slice none 0 0, .slice none 0 0] 37)
  rw [hs1] at hrb
  obtain ⟨wb, hwb⟩ : ∃ wb, w1.alloc (.cells #[.int .i64 0, .string ⟨#[]⟩, .slice none 0 0, .slice none 0 0] 37) = wb := ⟨_, rfl⟩
  rw [hwb] at hx1 hrb
  have Hut := Lib.hid (fun wq (he : Ext wb wq) => ((hbx.ext hx1).ext he).t)
  have Hx0 := Lib.hid (hx0.trans hx1)
  have Hrh := Lib.hid (fun ida idb wq (he : Ext wb wq) => hrh ida idb wq ((hx0.trans hx1).trans he))
  have Hrb := Lib.hid hrb
  have hwbs : wb.heap.size = w.heap.size + 2 := by rw [← hwb]; simp; omega
  rw [← hw1] at hwb
  have Hwb := Lib.hid hwb
  have Hsl := Lib.hid (hs.ext (hx0.trans hx1))
  have Hn := Lib.hid (fun x (hx : x ∈ xs) wq (he : Ext wb wq) => (hn x hx).ext ((hx0.trans hx1).trans he))
  have Hlen := Lib.hid (show xs.length + nsum xs ≤ 10000000 from hb)
  obtain ⟨m, hm⟩ : ∃ m, xs.length = m + 1 := ⟨xs.length - 1, by omega⟩
  have hmb : m + 1 ≤ 10000000 := by omega
  rw [hm]
  obtain ⟨rs, hrs⟩ : ∃ rs, xs.map Prod.fst = rs := ⟨_, rfl⟩
  have Hm : Hid (rs.length = m + 1) := Lib.hid (by rw [← hrs, List.length_map]; exact hm)
  have Hm2 : Hid (xs.length = m + 1) := Lib.hid hm
  rw [hrs] at Hsl
  obtain ⟨y0, hy0⟩ : ∃ y, rs[0]? = some y := ⟨_, List.getElem?_eq_getElem (by rw [Hm.out]; omega)⟩
  obtain ⟨y1, hy1⟩ : ∃ y, rs[m]? = some y := ⟨_, List.getElem?_eq_getElem (by rw [Hm.out]; omega)⟩
  have Hy0 := Lib.hid hy0
  have Hy1 := Lib.hid hy1
  have Hrs := Lib.hid hrs
  clear hy0 hy1 hbx hx0 hx1 hrb hrh hs hn hb h1 hm hwb hw1 hrs hr hok hT hs1
  go_enter Tryz.func17, Tryz.ntmps17
  go_wp2
  rw [Hwb.out]
  refine wp_drawn_tail 16 (fun i => match i with | 0 => Ty.is (.int .i64 (num : Int)) | 1 => Ty.is (.agg (RUnit.cells r).toArray) | 2 => Ty.is (.slice A (m + 1) c) | 3 => TCells [.string y0.t, .int .i64 y0.a, .int .i64 y0.i, .int .i64 y0.n, .bool y0.h, .slice y0.nA y0.nn y0.nc] | 4 => TCells [.int .i64 y0.a, .int .i64 y0.i, .int .i64 y0.n] | 5 => Ty.is (.agg #[.int .i64 y0.a, .int .i64 y0.i, .int .i64 y0.n]) | 6 => Ty.is (.slice A (m + 1) c) | 7 => Ty.is (.slice A (m + 1) c) | 8 => Ty.is (.int .i64 (m + 1 : Nat)) | 9 => Ty.is (.int .i64 (m : Nat)) | 10 => TCells [.string y1.t, .int .i64 y1.a, .int .i64 y1.i, .int .i64 y1.n, .bool y1.h, .slice y1.nA y1.nn y1.nc] | 11 => TCells [.int .i64 y1.a, .int .i64 y1.i, .int .i64 y1.n] | 12 => Ty.is (.agg #[.int .i64 y1.a, .int .i64 y1.i, .int .i64 y1.n]) | 13 => TStr 84 | 14 => TPg num | 15 => TPage0 wb.heap.size | _ => Ty.any) (by kernel_rfl) (by kernel_rfl) (by kernel_rfl) (by decide) rfl ?_
  intro v
  refine ⟨?_, ?_, ?_, ?_, ?_, ?_, ?_, ?_, ?_, ?_, ?_, ?_, ?_, ?_, ?_, ?_, ?_⟩
  · intro wq hq hd
    refine ob_plain rfl ?_
    exact yld_move (.tmp 1) rfl rfl rfl
  · intro wq hq hd
    refine ob_plain rfl ?_
    exact yld_loadAgg 27 (.tmp 3) rfl Tryz.isAgg27 8 Tryz.sizeOf27 (RUnit.cells r) rfl (Hut.out _ hq) rfl
  · intro wq hq hd
    refine ob_plain rfl ?_
    exact yld_move (.tmp 2) rfl rfl rfl
  · intro wq hq hd
    obtain ⟨h0, -⟩ := hd
    change v 2 = _ at h0
    refine ob_plain rfl ?_
    exact yld_indexAt lineEl (.tmp 12) _ rfl A rs c (by rw [Hm.out]; exact h0) 0 rfl (Hsl.out.ext hq) y0 Hy0.out
  · intro wq hq hd
    obtain ⟨h0, -⟩ := hd
    change (TCells [.string y0.t, .int .i64 y0.a, .int .i64 y0.i, .int .i64 y0.n, .bool y0.h, .slice y0.nA y0.nn y0.nc]).p (v 3) wq at h0
    refine ob_plain rfl ?_
    exact yld_field 54 1 (.tmp 13) rfl _ Tryz.underlying54 _ rfl 3 Tryz.sizeOf23 (by decide) [.string y0.t, .int .i64 y0.a, .int .i64 y0.i, .int .i64 y0.n, .bool y0.h, .slice y0.nA y0.nn y0.nc] (h0)
  · intro wq hq hd
    obtain ⟨h0, -⟩ := hd
    change (TCells [.int .i64 y0.a, .int .i64 y0.i, .int .i64 y0.n]).p (v 4) wq at h0
    refine ob_plain rfl ?_
    exact yld_loadAgg 23 (.tmp 14) rfl Tryz.isAgg23 3 Tryz.sizeOf23 [.int .i64 y0.a, .int .i64 y0.i, .int .i64 y0.n] rfl h0 rfl
  · intro wq hq hd
    refine ob_plain rfl ?_
    exact yld_move (.tmp 2) rfl rfl rfl
  · intro wq hq hd
    refine ob_plain rfl ?_
    exact yld_move (.tmp 2) rfl rfl rfl
  · intro wq hq hd
    obtain ⟨h0, -⟩ := hd
    change v 7 = _ at h0
    refine ob_plain rfl ?_
    exact yld_len (.tmp 17) 47 _ Tryz.underlying47 rfl _ _ _ h0 rfl
  · intro wq hq hd
    obtain ⟨h0, -⟩ := hd
    change v 8 = _ at h0
    refine ob_plain rfl ?_
    exact yld_binInt (c := .int .i64 (m : Nat)) .sub 3 3 (.tmp 18) _ rfl _ _ h0 rfl (fun w => by rw [run_sub_i64 _ _ _ (by omega) (by omega)]; congr 2; omega) rfl
  · intro wq hq hd
    obtain ⟨h0, h1, -⟩ := hd
    change v 6 = _ at h0
    change v 9 = _ at h1
    refine ob_plain rfl ?_
    exact yld_indexAt lineEl (.tmp 16) (.tmp 19) rfl A rs c (by rw [Hm.out]; exact h0) m h1 (Hsl.out.ext hq) y1 Hy1.out
  · intro wq hq hd
    obtain ⟨h0, -⟩ := hd
    change (TCells [.string y1.t, .int .i64 y1.a, .int .i64 y1.i, .int .i64 y1.n, .bool y1.h, .slice y1.nA y1.nn y1.nc]).p (v 10) wq at h0
    refine ob_plain rfl ?_
    exact yld_field 54 1 (.tmp 20) rfl _ Tryz.underlying54 _ rfl 3 Tryz.sizeOf23 (by decide) [.string y1.t, .int .i64 y1.a, .int .i64 y1.i, .int .i64 y1.n, .bool y1.h, .slice y1.nA y1.nn y1.nc] (h0)
  · intro wq hq hd
    obtain ⟨h0, -⟩ := hd
    change (TCells [.int .i64 y1.a, .int .i64 y1.i, .int .i64 y1.n]).p (v 11) wq at h0
    refine ob_plain rfl ?_
    exact yld_loadAgg 23 (.tmp 21) rfl Tryz.isAgg23 3 Tryz.sizeOf23 [.int .i64 y1.a, .int .i64 y1.i, .int .i64 y1.n] rfl h0 rfl
  · intro wq hq hd
    obtain ⟨h0, h1, h2, -⟩ := hd
    change v 1 = _ at h0
    change v 5 = _ at h1
    change v 12 = _ at h2
    refine ob_plain rfl ?_
    refine yld_call 36 Tryz.call36 _ _ rfl rfl [_, _, _] ⟨h0, h1, h2, trivial⟩ ?_
    refine (Hrh.out ⟨y0.a, y0.i, y0.n⟩ ⟨y1.a, y1.i, y1.n⟩ _ hq).mono ?_
    rintro e w' ⟨s, rfl, hs, hx2⟩
    exact ⟨_, rfl, hx2, s, rfl, hs⟩
  · intro wq hq hd
    obtain ⟨h0, h1, -⟩ := hd
    change v 0 = _ at h0
    change (TStr 84).p (v 13) wq at h1
    refine ob_plain rfl ?_
    obtain ⟨s, h1, hs⟩ := h1
    exact yld_build 37 [(0, _), (1, _)] rfl [(0, .int .i64 (num : Int)), (1, .string s)] ⟨⟨rfl, h0⟩, ⟨rfl, h1⟩, trivial⟩ (fun w => by go_simp) ⟨s, rfl⟩
  · intro wq hq hd
    refine ob_plain rfl ?_
    exact yld_allocP hq.size rfl
  · intro wq hq hT
    have k14 := hT 14 (by decide)
    change (TPg num).p (v 14) wq at k14
    have k15 := hT 15 (by decide)
    change (TPage0 wb.heap.size).p (v 15) wq at k15
    clear hT
    simp only [List.drop_succ_cons, List.drop_zero, putE, setsE, List.set_cons_succ, List.set_cons_zero, Nat.reduceAdd]
    generalize v 14 = x14 at k14 ⊢
    generalize v 15 = x15 at k15 ⊢
    obtain ⟨hd, rfl⟩ := k14
    obtain ⟨b7, rfl, hb7, hb7l, hb7b⟩ := k15
    have hxq := Lib.hid hq
    clear hq
    refine wpList_put rfl 37 (.tmp 7) (.tmp 24) rfl b7 0 (.agg #[.int .i64 (num : Int), .string hd, .slice none 0 0, .slice none 0 0]) rfl rfl [.int .i64 (num : Int), .string hd, .slice none 0 0, .slice none 0 0] rfl Tryz.sizeOf37 (by simp [Value.oneCell']) 37 _ hb7b (by simp) ?_
    intro w3 hw3 hos3 htp3 hou3 hs3 hbk3
    have HS := Lib.hid (show PgSt wb b7 num hd [] [] (.slice none 0 0) (.slice none 0 0) w3 from ⟨hxq.out.put hb7 hw3 hos3 htp3 hou3 hs3, hb7, hbk3.trans (by simp), Own.nil _, Own.nil _, fun g hg => by cases hg⟩)
    clear hw3 hos3 htp3 hou3 hs3 hbk3 hb7b hxq
    go_wp2
    go_loopw [27] (fun vk wr => ∃ (k : Nat) (vl vn : Value), k ≤ m + 1 ∧ vk = .int .i64 (k : Nat) ∧ Hid (PgSt wb b7 num hd ((xs.take k).map fun x => x.1.t) ((xs.take k).flatMap Prod.snd) vl vn wr)) (fun vk _ => m + 1 - (intOf vk).toNat)
    case atStart => exact ⟨0, _, _, Nat.zero_le _, rfl, HS⟩
    case round =>
      clear HS
      obtain ⟨k, vl, vn, hk, rfl, HS⟩ := hrel
      by_cases hlt : k < m + 1
      · have hltr : k < rs.length := by rw [Hm.out]; exact hlt
        have hltx : k < xs.length := by rw [Hm2.out]; exact hlt
        obtain ⟨b, off, hAe, hbl, u0, u1, u2, u3, u4, u5⟩ := lineAt (Hsl.out.ext HS.out.ext) hltr
        obtain ⟨x, hx⟩ : ∃ x, xs[k] = x := ⟨_, rfl⟩
        have e0 : rs[k] = x.1 := by
          have := Hrs.out
          subst this
          rw [List.getElem_map, hx]
        rw [e0] at u0 u1 u2 u3 u4 u5
        have hnx := Hn.out x (by rw [← hx]; exact List.getElem_mem hltx) wr HS.out.ext
        have hst1 : (xs.take (k + 1)).map (fun x => x.1.t) = (xs.take k).map (fun x => x.1.t) ++ [x.1.t] := by rw [List.take_succ_eq_append_getElem hltx, hx]; simp
        have hst2 : (xs.take (k + 1)).flatMap Prod.snd = (xs.take k).flatMap Prod.snd ++ x.2 := by rw [List.take_succ_eq_append_getElem hltx, hx]; simp
        have Hst1 := Lib.hid hst1
        have Hst2 := Lib.hid hst2
        have Hntl0 := Lib.hid (fun wq (he : Ext wb wq) => Hn.out x (by rw [← hx]; exact List.getElem_mem hltx) wq he)
        have hl1 : (((xs.take k).map (fun x => x.1.t)).length : Nat) ≤ 10000000 := by rw [List.length_map, List.length_take]; omega
        have hl2 : ((xs.take k).flatMap Prod.snd).length + x.2.length ≤ 10000000 := by
          have h1 := nsum_take hltx
          have h2 := nsum_take_le xs (k + 1)
          have h3 := Hlen.out
          rw [hx] at h1
          have h4 : ((xs.take k).flatMap Prod.snd).length = nsum (xs.take k) := by rw [List.length_flatMap]; rfl
          omega
        obtain ⟨lsk, hlk⟩ : ∃ l, (xs.take k).map (fun x => x.1.t) = l := ⟨_, rfl⟩
        obtain ⟨nsk, hnk⟩ : ∃ l, (xs.take k).flatMap Prod.snd = l := ⟨_, rfl⟩
        rw [hlk] at HS Hst1 hl1
        rw [hnk] at HS Hst2 hl2
        obtain ⟨q, nts⟩ := x
        dsimp only at u0 u1 u2 u3 u4 u5 Hst1 Hst2 hl2
        obtain ⟨hno, hnn⟩ := hnx
        unfold nV at hno
        dsimp only at hno hnn
        rw [hnn] at u5 hno
        have hnn2 := hnn
        clear hnn
        have Hntl := Lib.hid (show ∀ wq, Ext wb wq → Sl strEl wq q.nA nts from fun wq he => by
          have h := (Hntl0.out wq he).1
          unfold nV at h
          dsimp only at h
          rw [hnn2] at h
          obtain ⟨A', c', hv, -, hs⟩ := h.form
          rw [Value.slice.injEq] at hv
          obtain ⟨rfl, -, -⟩ := hv
          exact hs)
        clear Hntl0
        obtain ⟨hb7w, -⟩ := HS.out.cells
        subst hAe
        have e1 : decide ((k : Int) < (((m + 1 : Nat)) : Int)) = true := decide_eq_true (by omega)
        have e1' : decide ((k : Int) < (m : Int) + 1) = true := decide_eq_true (by omega)
        have hxa : Ext wr (wr.alloc (.cells #[.string q.t, .int .i64 q.a, .int .i64 q.i, .int .i64 q.n, .bool q.h, .slice q.nA nts.length q.nc] 54)) := (Ext.refl wr).alloc _
        have hxb := hxa.alloc (.cells #[.string q.t] 9)
        obtain ⟨hblt, p0, p1, p2, p3⟩ := (HS.out.grow hxa).cells
        have HSb := Lib.hid (HS.out.grow hxb)
        have Hno := Lib.hid (hno.ext hxb)
        have hzb := (HS.out.ext.trans hxb).size
        have Hxl := Lib.hid (show Ext wr _ from hxa)
        have hq3 := heap_alloc_new wr (.cells #[.string q.t, .int .i64 q.a, .int .i64 q.i, .int .i64 q.n, .bool q.h, .slice q.nA nts.length q.nc] 54)
        have Hq3 := Lib.hid (show _ ∧ _ from ⟨hxb.size, ((((Ext.refl _).alloc _).block (block_lt hq3)).trans hq3 : (World.alloc (wr.alloc (.cells #[.string q.t, .int .i64 q.a, .int .i64 q.i, .int .i64 q.n, .bool q.h, .slice q.nA nts.length q.nc] 54)) (.cells #[.string q.t] 9)).heap[wr.heap.size]? = _)⟩)
        have hq3' := Hq3.out.2
        clear hnn2
        clear hx hnk hlk hxa hxb hno hq3 hst1 hst2 HS e0 hltr hltx
        go_wp2_with (first | (refine wpList_fld rfl 37 2 (.tmp 7) rfl _ Tryz.underlying37 _ rfl 1 Tryz.sizeOf34 (by decide) b7 0 rfl ?_) |
          (refine wpList_appAt strEl rfl (.tmp 32) (.tmp 35) rfl 1 rfl HSb.out.ol (ys := [q.t]) (A := some ⟨wr.heap.size + 1, 0, none⟩) rfl (Sl.new' strEl (by simp) (by simp [El.flat, strEl])) (by simp; omega) hzb ?_; intro v1 w2 h1 h2 h3; obtain ⟨hb2, hx2, hput⟩ := HSb.out.line h1 h2 h3; have hqx := (h2.block _ (block_lt hq3') (fun e => HSb.out.ol.ne hq3' (by decide) _ e.symm rfl)).trans hq3'; obtain ⟨A1, c1, rfl, -, -⟩ := h1.form; have Hput := Lib.hid hput; have Hqx := Lib.hid hqx; clear h1 h2 h3 hput hqx hx2 p0 p1 p2 p3) |
          (refine wpList_put rfl 34 (.tmp 37) (.tmp 36) rfl b7 2 (.slice A1 (lsk ++ [q.t]).length c1) rfl rfl [.slice A1 (lsk ++ [q.t]).length c1] rfl Tryz.sizeOf34 (by simp [Value.oneCell']) 37 _ hb2 (by simp) ?_; intro w4 hw4 hos4 htp4 hou4 hs4 hbk4; have HS4 := Lib.hid (Hput.out w4 hw4 hos4 htp4 hou4 hs4 (hbk4.trans (by simp))); have hq4 := (hw4 wr.heap.size (by omega)).trans Hqx.out; clear hw4 hos4 htp4 hou4 hs4 hbk4 hb2; obtain ⟨-, p0, p1, p2, p3⟩ := HS4.out.cells; have f3 : w4.cell? ⟨wr.heap.size, 5, none⟩ = some (.slice q.nA nts.length q.nc) := (by simp [World.cell?, hq4]); have hz4 := HS4.out.ext.size; clear hq4) |
          (refine wpList_fld rfl 37 3 (.tmp 7) rfl _ Tryz.underlying37 _ rfl 1 Tryz.sizeOf34 (by decide) b7 0 rfl ?_) |
          (refine wpList_appAt strEl rfl (.tmp 39) (.tmp 41) rfl q.nc rfl HS4.out.on (ys := nts) (A := q.nA) rfl (Hntl.out w4 HS4.out.ext) (by omega) hz4 ?_; intro v2 w5 h1 h2 h3; obtain ⟨hb5, hx5, hput⟩ := HS4.out.note h1 h2 h3; obtain ⟨A2, c2, rfl, -, -⟩ := h1.form; have Hput2 := Lib.hid hput; clear h1 h2 h3 hput hx5 p0 p1 p2 p3 f3) |
          (refine wpList_put rfl 34 (.tmp 43) (.tmp 42) rfl b7 3 (.slice A2 (nsk ++ nts).length c2) rfl rfl [.slice A2 (nsk ++ nts).length c2] rfl Tryz.sizeOf34 (by simp [Value.oneCell']) 37 _ hb5 (by simp) ?_; intro w6 hw6 hos6 htp6 hou6 hs6 hbk6; have HS6 := Lib.hid (Hput2.out w6 hw6 hos6 htp6 hou6 hs6 (hbk6.trans (by simp))); clear hw6 hos6 htp6 hou6 hs6 hbk6 hb5))
        go_roundw
        case rel => exact ⟨k + 1, _, _, by omega, by go_num, by rw [Hst1.out, Hst2.out]; exact HS6⟩
        case measure => simp [intOf]; omega
      · have e1 : decide ((k : Int) < (((m + 1 : Nat)) : Int)) = false := decide_eq_false (by omega)
        have e1' : decide ((k : Int) < (m : Int) + 1) = false := decide_eq_false (by omega)
        have hkm : k = xs.length := by rw [Hm2.out]; omega
        subst hkm
        obtain ⟨A1, c1, rfl, hc1, -⟩ := HS.out.ol.form
        obtain ⟨A2, c2, rfl, hc2, -⟩ := HS.out.on.form
        obtain ⟨n1, hn1⟩ : ∃ n, ((xs.take xs.length).map fun x => x.1.t).length = n := ⟨_, rfl⟩
        obtain ⟨n2, hn2⟩ : ∃ n, ((xs.take xs.length).flatMap Prod.snd).length = n := ⟨_, rfl⟩
        rw [hn1] at HS
        rw [hn2] at HS
        have Hn1 := Lib.hid hn1
        have Hn2 := Lib.hid hn2
        clear hn1 hn2 hc1 hc2
        obtain ⟨hb7w, p0, p1, p2, p3⟩ := HS.out.cells
        have hrq := (HS.out.ext.block (block_lt Hrb.out)).trans Hrb.out
        go_wp2_with (refine wpList_put rfl 37 (.tmp 6) (.tmp 45) rfl (w.heap.size + 1) 0 (.agg #[.int .i64 (num : Int), .string hd, .slice A1 n1 c1, .slice A2 n2 c2]) rfl rfl [.int .i64 (num : Int), .string hd, .slice A1 n1 c1, .slice A2 n2 c2] rfl Tryz.sizeOf37 (by simp [Value.oneCell']) 37 _ hrq (by simp) ?_; intro w4 hw4 hos4 htp4 hou4 hs4 hbk4)
        have hfin : w4.heap[w.heap.size + 1]? = some (.cells (RPage.cells ⟨num, hd, A1, n1, c1, A2, n2, c2⟩).toArray 37 (0, 0)) := by
          rw [hbk4]
          simp [RPage.cells]
        refine bodyPost_ret (results_cellP rfl _ _ (w.heap.size + 1) _ rfl hfin) rfl ?_
        have hk1 := HS.out.ol.keep (w' := w4) fun j hj => hw4 j (by have := (HS.out.ol.bd hj).1; omega)
        have hk2 := HS.out.on.keep (w' := w4) fun j hj => hw4 j (by have := (HS.out.on.bd hj).1; omega)
        have hx4 := (Hx0.out.trans HS.out.ext).put (by omega) hw4 hos4 htp4 hou4 hs4
        have l1 := Hn1.out
        have l2 := Hn2.out
        rw [List.take_length] at hk1 hk2 l1 l2
        exact ⟨_, rfl, ⟨rfl, hk1.mono (Nat.zero_le _), l1.symm, hk2.mono (Nat.zero_le _), l2.symm⟩, hx4⟩
end Go.Proofs.YtjhdamjbljafhaaGreatDoor
