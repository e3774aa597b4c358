/- concordance.once: integers in order, none twice. The reference's list of the units of a tree: how many words each has. -/
import Derived.Test.YtjhdamjbljafhaaGreatDoorP47
import Derived.Lib.SlKeysI
import Derived.Sort.OwnSortedInts
namespace Go.Proofs.YtjhdamjbljafhaaGreatDoor
open Go.RowKit
def VIn (Bx : Nat) (A : Option Addr) (c : Nat) (zs : List Int) (W : World) : Prop := Bx < W.heap.size ∧ W.cell? ⟨Bx, 0, none⟩ = some (.slice A zs.length c) ∧ Sl intEl W A zs
theorem VIn.ext {Bx : Nat} {A : Option Addr} {c : Nat} {zs : List Int} {W W' : World} (h : VIn Bx A c zs W) (he : Ext W W') : VIn Bx A c zs W' := ⟨Nat.lt_of_lt_of_le h.1 he.size, (he.cell (p := ⟨Bx, 0, none⟩) h.1).trans h.2.1, h.2.2.ext he⟩
theorem VIn.low {Bx B : Nat} {A : Option Addr} {c : Nat} {zs : List Int} {W W' : World} (h : VIn Bx A c zs W) (hB : W.heap.size ≤ B) (he : Below B W W') : VIn Bx A c zs W' := h.ext ((Ext.refl W).trans' he hB)
set_option maxRecDepth 100000 in
set_option maxHeartbeats 3200000 in
theorem vals_stops (n Bx : Nat) (A : Option Addr) (c : Nat) (zs : List Int) (w : World) (hn : 1 ≤ n) (hG : VIn Bx A c zs w) (hl : zs.length ≤ 1000000) (Kp : World → World → Prop) (hK : ∀ W W', VIn Bx A c zs W → Kp W W' → VIn Bx A c zs W') :
    SeqStopsK Fence.wide n Tryz.prog 83 #[.pointer (some ⟨Bx, 0, none⟩)] (fun x : Int => #[.int .i64 x]) Kp (fun xs => xs = zs) (fun _ => True) zs.length w := by
  intro l J Jx W hW hJ hJx hY h0
  have hG0 := hG.ext (W' := W) hW
  refine callsIn_of_wp Tryz.func83 rfl trivial ?_ rfl
  obtain ⟨hG1, hG2, hG3⟩ := hG0
  have HY := Lib.hid hY
  have HK := Lib.hid hK
  have HG0 := Lib.hid (show VIn Bx A c zs W from ⟨hG1, hG2, hG3⟩)
  have H0 := Lib.hid h0
  clear hY hJ hJx hK hG hG3 h0 hW
  simp only [Tryz.ntmps83, List.size_toArray, List.length_cons, List.length_nil, Nat.reduceAdd, Nat.reduceSub, Array.replicate_succ, Array.replicate_zero, List.push_toArray, List.append_toArray, List.nil_append, List.cons_append]
  gi_wp2
  gi_loopw [7] (fun vk wr => ∃ (k : Nat), k ≤ zs.length ∧ vk = .int .i64 (k : Nat) ∧ Hid (J (zs.take k) wr) ∧ Hid (VIn Bx A c zs wr)) (fun vk _ => zs.length - (intOf vk).toNat)
  case atStart => exact ⟨0, Nat.zero_le _, rfl, H0, HG0⟩
  case round =>
    clear H0 HG0 hG1 hG2
    obtain ⟨k, hk, rfl, HJw, HGw⟩ := hrel
    by_cases hlt : k < zs.length
    · obtain ⟨b, off, hAe, hb, u0⟩ := intAt HGw.out.2.2 hlt
      have e1 : decide ((k : Int) < (zs.length : Int)) = true := decide_eq_true (by omega)
      obtain ⟨z, hz⟩ : ∃ z, zs[k] = z := ⟨_, rfl⟩
      have Hstep := Lib.hid (show zs.take k ++ [z] = zs.take (k + 1) by rw [List.take_succ_eq_append_getElem hlt, hz])
      rw [hz] at u0
      obtain ⟨fn, tmps, assign, body, hy, hR⟩ := HY.out (zs.take k) z _ HJw.out (by rw [List.length_take]; omega)
      have HR := Lib.hid hR
      subst hAe
      clear hR hz
      gi_wp2
      refine (HR.out).mono ?_
      rintro e W' (⟨rfl, hJ', hk'⟩ | ⟨rfl, hJx'⟩)
      · have HJ' := Lib.hid hJ'
        have HG' := Lib.hid (HK.out _ _ HGw.out hk')
        clear hk' hJ'
        gi_wp2
        go_roundw
        case rel => exact ⟨k + 1, by omega, by go_num, by rw [← Hstep.out]; exact HJ', HG'⟩
        case measure => simp [intOf]; omega
      · have HJx' := Lib.hid hJx'
        clear hJx'
        gi_wp2
        refine bodyPost_ret (results_none rfl _ _ _) rfl ?_
        exact ⟨⟨_, rfl⟩, .inr ⟨_, trivial, HJx'.out⟩⟩
    · have e1 : decide ((k : Int) < (zs.length : Int)) = false := decide_eq_false (by omega)
      have Hk := Lib.hid (show zs.take k = zs by rw [List.take_of_length_le (by omega)])
      gi_wp2
      go_end0
      exact ⟨⟨_, rfl⟩, .inl ⟨zs, rfl, by have := HJw.out; rw [Hk.out] at this; exact this⟩⟩
theorem values_any (A : Option Addr) (n c : Nat) (w : World) : Calls Tryz.prog 45 #[.slice A n c] w fun e w' => e = .returned (.func (.func 83) #[] #[.pointer (some ⟨w.heap.size, 0, none⟩)]) ∧ w' = w.alloc (.cells #[.slice A n c] 40) := by
  go_enter Tryz.func45, Tryz.ntmps45
  go_wp2
  go_ret
  exact ⟨rfl, rfl⟩
def AInv (w : World) (b : Nat) (pre : List Int) (W : World) : Prop := Ext w W ∧ w.heap.size ≤ b ∧ ∃ v, W.heap[b]? = some (.cells #[v] 40 (0, 0)) ∧ Own intEl (b + 1) W v pre
theorem AInv.grow {w W W' : World} {b : Nat} {pre : List Int} (h : AInv w b pre W) (he : Ext W W') : AInv w b pre W' := by
  obtain ⟨h1, h2, v, h3, h4⟩ := h
  exact ⟨h1.trans he, h2, v, (he.block (block_lt h3)).trans h3, h4.ext he⟩
theorem AInv.own {w : World} {b B : Nat} (hB : w.heap.size ≤ B) : OwnFrom B (AInv w b) := fun pre X Y row h hg hr => by
  obtain ⟨h1, h2, v, h3, h4⟩ := h
  have hb : ∀ {k : Nat} {cs : Array Value} {t : TypeId} {fr : Nat × Nat}, X.heap[k]? = some (.cells cs t fr) → Y.heap[k]? = X.heap[k]? := fun {k cs t fr} hk => hg.block k (block_lt hk) (fun e => by
    obtain ⟨-, o, ho, hc⟩ := hr k e.symm
    rw [hk] at ho
    cases ho
    cases hc)
  exact ⟨h1.grown hg h1.size (fun k e => Nat.le_trans hB (hr k e).1), h2, v, (hb h3).trans h3, h4.keep fun k hk => hb (h4.bd hk).2.choose_spec⟩
theorem VIn.book {Bx : Nat} {A : Option Addr} {c : Nat} {zs : List Int} (W : World) (l : Nat) (o o' : Obj) {B : Nat} (_ : B ≤ l) (h : W.heap[l]? = some o) (hc : o.isCells = false) (_ : o.isWalk = false) (hG : VIn Bx A c zs W) : VIn Bx A c zs (W.putObj l o') := by
  have hci : CIn W (W.putObj l o') := by
    have hg := grownBy_putObj' W l o'
    refine ⟨hg.size, fun p v hv => ?_⟩
    have hlt := World.block_lt_of_cell? W p hv
    have hne : p.block ≠ l := by
      rintro rfl
      unfold World.cell? at hv
      rw [h] at hv
      cases o <;> first | (simp at hv; done) | (cases hc)
    have hb := hg.block _ hlt (fun e => hne (by cases e; rfl))
    unfold World.cell? at hv ⊢
    rw [hb]
    exact hv
  exact ⟨Nat.lt_of_lt_of_le hG.1 hci.size, hci.cell _ _ hG.2.1, hG.2.2.cin hci⟩
set_option maxRecDepth 100000 in
set_option maxHeartbeats 3200000 in
theorem appSeq_any (Bx : Nat) (A : Option Addr) (c : Nat) (zs : List Int) (w : World) (hG : VIn Bx A c zs w) (hl : zs.length ≤ 1000000) : Calls Tryz.prog 119 #[.slice none 0 0, .func (.func 83) #[] #[.pointer (some ⟨Bx, 0, none⟩)]] w (RetOwn intEl w zs) := by
  have hx0 : Ext w (w.alloc (.cells #[.slice none 0 0] 40)) := (Ext.refl w).alloc _
  have hb0 := heap_alloc_new w (.cells #[.slice none 0 0] 40)
  have HG := Lib.hid hG
  clear hG
  refine (callsIn_wide (n := 8)).1 (callsIn_of_wp_marks Tryz.func119 rfl trivial ?_ rfl)
  simp only [Tryz.ntmps119, List.size_toArray, List.length_cons, List.length_nil, Nat.reduceAdd, Nat.reduceSub, Array.replicate_succ, Array.replicate_zero, List.push_toArray, List.append_toArray, List.nil_append, List.cons_append]
  refine wpIn_wide.2 ?_
  go_wp2_with fail
  obtain ⟨ws, hws⟩ : ∃ ws, w.alloc (.cells #[.slice none 0 0] 40) = ws := ⟨_, rfl⟩
  rw [hws] at hx0 hb0 ⊢
  have hss : ws.heap.size = w.heap.size + 1 := by rw [← hws]; simp
  have Hx0 := Lib.hid hx0
  have Hb0 := Lib.hid hb0
  have HGs := Lib.hid (HG.out.ext hx0)
  have Hss := Lib.hid hss
  clear hx0 hb0 hws hss
  refine wpIn_wide.1 (wpIn_rangeFunc_ownG (n := 8) rfl (by omega) (gf := 83) (lb := #[.pointer (some ⟨Bx, 0, none⟩)]) rfl trivial (enters_of Tryz.func83 (by kernel_rfl) rfl)
    (vals_stops 7 Bx A c zs ws (by omega) HGs.out hl (fun W W' => VIn Bx A c zs W → VIn Bx A c zs W') (fun W W' h k => k h))
    (fun h k => fun g => k (h g)) (fun W l o o' h1 h2 h3 h4 => VIn.book W l o o' h1 h2 h3 h4) (Below.refl _ _) (fun _ => rfl)
    (AInv w w.heap.size) (fun _ _ _ => False) (AInv.own (by have := Hss.out; omega)) (fun _ _ _ _ _ hs _ _ => hs) ⟨Hx0.out, Nat.le_refl _, _, Hb0.out, Own.nil _⟩ ?a1 ?assign ?body ?done ?stop)
  case assign =>
    intro l x W K hK
    refine wpIn_text (by kernel_rfl) ?_
    go_wp2
    exact hK
  case body =>
    rintro l pre x W ⟨hx, hle, v, hb, hown⟩ hpl
    obtain ⟨A1, c1, rfl, -, -⟩ := hown.form
    have hc0 : W.cell? ⟨w.heap.size, 0, none⟩ = some (.slice A1 pre.length c1) := by simp [World.cell?, hb]
    have hxa : Ext W (W.alloc (.cells #[.int .i64 x] 3)) := (Ext.refl W).alloc _
    have Ho := Lib.hid (hown.ext hxa)
    have Hb := Lib.hid ((hxa.block (block_lt hb)).trans hb)
    have hz := hx.size
    have hbl := block_lt hb
    have HX := Lib.hid (hx.trans hxa)
    have HK1 := Lib.hid (kf_ext (B := ws.heap.size) hxa)
    clear hb hx hxa hown
    refine wpIn_block ?_
    refine wpIn_text (by kernel_rfl) ?_
    go_wp2_with (first | (refine wpList_appAt intEl rfl (.tmp 8) (.tmp 10) rfl 1 rfl Ho.out (ys := [x]) (A := some ⟨W.heap.size, 0, none⟩) rfl (Sl.new intEl (by simp [El.flat, intEl])) (by simp; omega) (by simp; omega) ?_; intro v1 w2 h1 h2 h3; obtain ⟨A2, c2, rfl, -, -⟩ := h1.form; have hb2 := (h2.block _ (by simp; omega) (fun e => Ho.out.ne Hb.out (by decide) _ e.symm rfl)).trans Hb.out; have Hown2 := Lib.hid h1; have HX2 := Lib.hid (HX.out.grown h2 HX.out.size (fun k hk => Nat.le_trans (by omega) (Ho.out.bd hk).1)); have HK2 := Lib.hid (HK1.out.trans (kf_own (B := ws.heap.size) Ho.out h2)); obtain ⟨n2, hn2⟩ : ∃ n, (pre ++ [x]).length = n := ⟨_, rfl⟩; rw [hn2] at Hown2 ⊢; clear h1 h2 h3 hc0 hn2) |
      (refine wpList_put rfl 40 (.tmp 2) (.tmp 11) rfl w.heap.size 0 (.slice A2 n2 c2) rfl rfl [.slice A2 n2 c2] rfl Tryz.sizeOf40 (by simp [Value.oneCell']) 40 _ hb2 (by simp) ?_; intro w3 hw3 hos3 htp3 hou3 hs3 hbk3))
    have HX3 : Ext w w3 := Ext.put (show Ext w w2 from HX2.out) (Nat.le_refl _) hw3 hos3 htp3 hou3 hs3
    show KeepsFrom ws.heap.size W w3 ∧ (VIn Bx A c zs W → VIn Bx A c zs w3) ∧ AInv w w.heap.size (pre ++ [x]) w3
    exact ⟨HK2.out.trans (kf_put hb2 hw3 hs3), fun _ => HG.out.ext HX3, HX3, Nat.le_refl _, _, hbk3.trans (by simp), Hown2.out.keep fun k hk => hw3 k (Hown2.out.ne hb2 (by decide) k hk)⟩
  case done =>
    rintro D ys W1 hD rfl ⟨hx, hle, v, hb, hown⟩ hK
    obtain ⟨A1, c1, rfl, -, -⟩ := hown.form
    obtain ⟨n1, hn1⟩ : ∃ n, ys.length = n := ⟨_, rfl⟩
    rw [hn1] at hb hown
    have hc0 : W1.cell? ⟨w.heap.size, 0, none⟩ = some (.slice A1 n1 c1) := by simp [World.cell?, hb]
    have HX := Lib.hid hx
    have Hown := Lib.hid hown
    clear hb hx hown hn1
    go_wp2
    refine ⟨by simp, .inl ⟨_, _, rfl, run_takeDeferred hK, ?_⟩⟩
    refine ⟨_, results_tmp rfl _ _ _, _, rfl, (Hown.out.mono (by omega)).keep fun k hk => ?_, HX.out.grown (grownBy_putObj' _ D (.deferred none)) HX.out.size (fun k e => by cases e; have := Hss.out; omega)⟩
    refine (grownBy_putObj' W1 D (.deferred none)).block k (block_lt (Hown.out.bd hk).2.choose_spec) (fun e => ?_)
    cases e
    obtain ⟨cur, hcur⟩ := (Hown.out.bd hk).2
    rw [hK] at hcur
    cases hcur
  case stop =>
    rintro D c' pre W1 hD - h hK
    exact h.elim
theorem collect_any (Bx : Nat) (A : Option Addr) (c : Nat) (zs : List Int) (w : World) (hG : VIn Bx A c zs w) (hl : zs.length ≤ 1000000) : Calls Tryz.prog 81 #[.func (.func 83) #[] #[.pointer (some ⟨Bx, 0, none⟩)]] w (RetOwn intEl w zs) := by
  have H := Lib.hid (appSeq_any Bx A c zs w hG hl)
  go_enter Tryz.func81, Tryz.ntmps81
  go_wp2_with fail
  refine (H.out).mono ?_
  rintro e w2 ⟨v, rfl, hown, hx⟩
  have Hown := Lib.hid hown
  have Hx := Lib.hid hx
  clear hown hx
  go_wp2
  go_ret
  exact ⟨_, rfl, Hown.out, Hx.out⟩
def sortF (zs : List Int) : List Int := zs.mergeSort fun x y => decide (x ≤ y)
theorem sortF_len (zs : List Int) : (sortF zs).length = zs.length := List.length_mergeSort zs
theorem sortI_any (v : Value) (base : Nat) (zs : List Int) (w : World) (hown : Own intEl base w v zs) (hl : zs.length ≤ 1000000) :
    Calls Tryz.prog 82 #[v] w fun e w' => e = .returned (.tuple #[]) ∧ Own intEl base w' v (sortF zs) ∧ w.grownBy w' v.ownBlock := by
  have hfl := flat_int zs
  rcases hown.2 with ⟨rfl, hz⟩ | ⟨g, cap, cur, rfl, hbase, hgb, r1, r2, r3, r4⟩
  · have hzs : zs = [] := List.eq_nil_of_length_eq_zero hz
    subst hzs
    refine (AnyM.slices_Sort_int_none Tryz.sortI none 0 w).mono fun e w' ⟨h1, h2⟩ => ⟨h1, ?_, ?_⟩
    · subst h2
      rw [show sortF [] = [] from by simp [sortF]]
      exact hown
    · subst h2
      exact ⟨rfl, rfl, rfl, Nat.le_refl _, fun _ _ _ => rfl⟩
  · have r4' : cur.toList.take zs.length = zs.map (Value.int .i64) := by
      have h := r4
      rw [hfl] at h
      simpa [intEl] using h
    have hH := holds_of_blockI hgb r4'
    refine (AnyM.slices_Sort_int Tryz.sortI g 0 cap zs w hH (block_lt hgb) (by omega)).mono ?_
    rintro e w' ⟨rfl, n, os, rfl⟩
    refine ⟨rfl, ?_, grownBy_sortedI _⟩
    have h := ownsRow_sortedI (w := w) (n := n) (os := os) (ts := sortF zs) (sortF_len zs) hbase hgb r1 r2 (by simpa [intEl] using r3)
    unfold Own
    rw [flat_int, sortF_len]
    exact h
theorem Own.takeI {P : Program} {α : Type} {D : El P α} {w : World} {base g n c k : Nat} {xs : List α} (h : Own D base w (.slice (some ⟨g, 0, none⟩) n c) xs) (hk : k ≤ xs.length) : Own D base w (.slice (some ⟨g, 0, none⟩) k c) (xs.take k) := by
  rcases h.2 with ⟨hv, _⟩ | ⟨g', cap, cur, hv, hbase, hgb, r1, r2, r3, r4⟩
  · cases hv
  · simp only [Value.slice.injEq, Option.some.injEq, Addr.mk.injEq] at hv
    obtain ⟨⟨rfl, -⟩, rfl, rfl⟩ := hv
    have hkl : (xs.take k).length = k := by rw [List.length_take]; omega
    have e1 : D.flat (xs.take k) = (D.flat xs).take (k * D.m) := by
      have e : D.flat xs = D.flat (xs.take k) ++ D.flat (xs.drop k) := by rw [← D.flat_append, List.take_append_drop]
      rw [e, List.take_left' (by rw [D.flat_length, hkl])]
    refine ⟨by rw [D.flat_length], .inr ⟨g, c, cur, by rw [hkl], hbase, hgb, by omega, r2, r3, ?_⟩⟩
    rw [hkl, e1, ← r4, List.take_take, Nat.min_eq_left (Nat.mul_le_mul_right _ hk)]
theorem compact_le (zs : List Int) : (Lib.compact zs).length ≤ zs.length := by
  unfold Lib.compact Lib.compactUpTo
  rw [List.length_map]
  exact Nat.le_trans (List.length_filter_le _ _) (by simp)
theorem compact_any (v : Value) (base : Nat) (zs : List Int) (w : World) (hown : Own intEl base w v zs) (hl : zs.length ≤ 1000000) :
    Calls Tryz.prog 43 #[v] w fun e w' => ∃ v', e = .returned v' ∧ Own intEl base w' v' (Lib.compact zs) ∧ w.grownBy w' v.ownBlock := by
  rcases hown.2 with ⟨rfl, hz⟩ | ⟨g, cap, cur, rfl, hbase, hgb, r1, r2, r3, r4⟩
  · have hzs : zs = [] := List.eq_nil_of_length_eq_zero hz
    subst hzs
    exact (Tryz.slices_Compact_int_empty none 0 w).mono fun e w' ⟨h1, h2⟩ => ⟨_, h1, h2 ▸ hown, h2 ▸ ⟨rfl, rfl, rfl, Nat.le_refl _, fun _ _ _ => rfl⟩⟩
  · have r4' : cur.toList.take zs.length = zs.map (Value.int .i64) := by
      have h := r4
      rw [flat_int] at h
      simpa [intEl] using h
    have hH := holds_of_blockI hgb r4'
    have hcl := compact_le zs
    refine (Tryz.slices_Compact_int g 0 cap zs w hH (by omega) r1).mono ?_
    rintro e w' ⟨rfl, n, rfl⟩
    obtain ⟨ts, hts⟩ : ∃ ts, Lib.compact zs ++ List.replicate (zs.length - (Lib.compact zs).length) (0 : Int) = ts := ⟨_, rfl⟩
    have htl : ts.length = zs.length := by rw [← hts, List.length_append, List.length_replicate]; omega
    have htk : ts.take (Lib.compact zs).length = Lib.compact zs := by rw [← hts]; exact List.take_left
    rw [hts]
    have h := ownsRow_sortedI (w := w) (n := n) (os := #[]) (ts := ts) htl hbase hgb r1 r2 (by simpa [intEl] using r3)
    have hg := grownBy_sortedI (w := w) (g := g) (n := n) (os := #[]) ts.toArray
    rw [Sort.grow_empty] at h hg
    obtain ⟨W', hW'⟩ : ∃ W', Sort.putRow (Value.int .i64) (Sort.ahead w n) g 0 ts.toArray = W' := ⟨_, rfl⟩
    rw [hW'] at h hg ⊢
    refine ⟨_, rfl, ?_, hg⟩
    have ho : Own intEl base W' (.slice (some ⟨g, 0, none⟩) zs.length cap) ts := by
      unfold Own
      rw [flat_int, htl]
      exact h
    have h2 := ho.takeI (k := (Lib.compact zs).length) (by omega)
    rw [htk] at h2
    exact h2
theorem sorted_any (Bx : Nat) (A : Option Addr) (c : Nat) (zs : List Int) (w : World) (hG : VIn Bx A c zs w) (hl : zs.length ≤ 1000000) : Calls Tryz.prog 44 #[.func (.func 83) #[] #[.pointer (some ⟨Bx, 0, none⟩)]] w (RetOwn intEl w (sortF zs)) := by
  have H := Lib.hid (collect_any Bx A c zs w hG hl)
  go_enter Tryz.func44, Tryz.ntmps44
  go_wp2_with fail
  refine (H.out).mono ?_
  rintro e w2 ⟨v, rfl, hown, hx⟩
  have H2 := Lib.hid (sortI_any v _ zs w2 hown hl)
  have Hown := Lib.hid hown
  have Hx := Lib.hid hx
  clear hown hx H
  go_wp2_with fail
  refine (H2.out).mono ?_
  rintro e w3 ⟨rfl, hown3, hg⟩
  have Ho3 := Lib.hid hown3
  have Hx3 := Lib.hid (show Ext w w3 from Hx.out.grown hg Hx.out.size fun k hk => (Hown.out.bd hk).1)
  clear hown3 hg
  go_wp2
  go_ret
  exact ⟨_, rfl, Ho3.out, Hx3.out⟩
def onceF (zs : List Int) : List Int := Lib.compact (sortF zs)
theorem once_any (A : Option Addr) (c : Nat) (zs : List Int) (w : World) (hs : Sl intEl w A zs) (hl : zs.length ≤ 1000000) : Calls Tryz.prog 24 #[.slice A zs.length c] w (RetOwn intEl w (onceF zs)) := by
  have hx1 : Ext w (w.alloc (.cells #[.slice A zs.length c] 40)) := (Ext.refl w).alloc _
  have hb1 := heap_alloc_new w (.cells #[.slice A zs.length c] 40)
  have HV := Lib.hid (show VIn w.heap.size A c zs (w.alloc (.cells #[.slice A zs.length c] 40)) from ⟨block_lt hb1, by unfold World.cell?; rw [hb1]; rfl, hs.ext hx1⟩)
  have Hx1 := Lib.hid hx1
  have H1 := Lib.hid (values_any A zs.length c w)
  have Ho := Lib.hid (show onceF zs = Lib.compact (sortF zs) from rfl)
  clear hb1 hx1
  go_enter Tryz.func24, Tryz.ntmps24
  go_wp2_with fail
  refine (H1.out).mono ?_
  rintro e w2 ⟨rfl, rfl⟩
  have H2 := Lib.hid (sorted_any w.heap.size A c zs _ HV.out hl)
  clear H1
  go_wp2_with fail
  refine (H2.out).mono ?_
  rintro e w3 ⟨v3, rfl, hown, hx3⟩
  have H3 := Lib.hid (compact_any v3 _ (sortF zs) w3 hown (by rw [sortF_len]; exact hl))
  have Hown := Lib.hid hown
  have Hx3 := Lib.hid (Hx1.out.trans hx3)
  have hz1 := Hx1.out.size
  have hz3 := hx3.size
  clear hown hx3 H2
  go_wp2_with fail
  refine (H3.out).mono ?_
  rintro e w4 ⟨v4, rfl, hown4, hg⟩
  have Ho4 := Lib.hid hown4
  have Hx4 := Lib.hid (show Ext w w4 from Hx3.out.grown hg (Nat.le_trans hz1 hz3) fun k hk => Nat.le_trans hz1 (Hown.out.bd hk).1)
  clear hown4 hg
  go_wp2
  go_ret
  exact ⟨_, rfl, by rw [Ho.out]; exact Ho4.out.mono hz1, Hx4.out⟩
theorem onceF_mem {zs : List Int} {x : Int} (h : x ∈ onceF zs) : x ∈ zs := by
  unfold onceF Lib.compact Lib.compactUpTo at h
  simp only [List.mem_map, List.mem_filter, List.mem_range] at h
  obtain ⟨j, ⟨hj, -⟩, rfl⟩ := h
  have hj2 : j < (sortF zs).toArray.size := by simpa using hj
  rw [getElem!_pos _ j hj2]
  have : (sortF zs).toArray[j] ∈ sortF zs := by simp
  exact (List.mergeSort_perm zs _).mem_iff.1 this
theorem onceF_ne {zs : List Int} (h : zs ≠ []) : onceF zs ≠ [] := by
  unfold onceF Lib.compact Lib.compactUpTo
  intro e
  simp only [List.map_eq_nil_iff, List.filter_eq_nil_iff, List.mem_range] at e
  have hl : 0 < (sortF zs).length := by rw [sortF_len]; exact List.length_pos_iff.2 h
  exact e 0 hl (Lib.keeps_lt_one _ 0 (by omega))
end Go.Proofs.YtjhdamjbljafhaaGreatDoor
namespace Go.Proofs.YtjhdamjbljafhaaGreatDoor
open Go.RowKit
def wcnt (x : GUnit) : Nat × Nat := (x.head.length, x.words.length)
def rcnt (r : RUnit) : Nat × Nat := (r.hn, r.wn)
def RetPre (w : World) (l : List (Nat × Nat)) (e : Ending) (w' : World) : Prop := ∃ v rs, e = .returned v ∧ Own unitEl w.heap.size w' v rs ∧ rs.map rcnt = l ∧ Ext w w'
def PreAt (N : Nat) : Prop := ∀ (u : GUnit) (r : RUnit) (w : World), SizeOf.sizeOf u ≤ N → Reads w u r → OkU u → Calls Tryz.prog 6 #[.agg r.cells.toArray] w (RetPre w ((preF u).map wcnt))
set_option maxRecDepth 100000 in
set_option maxHeartbeats 3200000 in
theorem pre_step (N : Nat) (ih : PreAt N) : PreAt (N + 1) := by
  intro u r w hN hr hok
  obtain ⟨-, -, -, hhn, -, -, hwn, -, -, hkn, hkc, rs, hrs, hall, hrl⟩ := hr.flds
  have hkb := hok.all.head.2.2.2.1
  have hcnt := hok.cnt
  have hpl := preF_len u
  have Hkid := Lib.hid (fun (k : Nat) (h : k < u.kids.length) (h3 : k < rs.length) wq (he : Ext w wq) => ih u.kids[k] rs[k] wq (sizeKid hN h) (Reads.ext he _ _ (ReadsAll.get hall k h h3)) (hok.kid (List.getElem_mem h)))
  have hb := BoxU.new r w
  have hx0 : Ext w (w.alloc (.cells r.cells.toArray 27)) := (Ext.refl w).alloc _
  have Hr0 := Lib.hid (show rcnt r = wcnt u by unfold rcnt wcnt; rw [hhn, hwn])
  have Htk := Lib.hid (fun (k : Nat) (h : k < u.kids.length) => preL_take h)
  have Hle := Lib.hid (fun k => (show (preL (u.kids.take k)).length ≤ 1000 from by
    have h1 := preL_append (u.kids.take k) (u.kids.drop k)
    rw [List.take_append_drop] at h1
    have h2 := congrArg List.length (preF_cons u)
    rw [h1, List.length_cons, List.length_append] at h2
    omega))
  have Hfin := Lib.hid (show preF u = u :: preL (u.kids.take u.kids.length) by rw [List.take_length]; exact preF_cons u)
  obtain ⟨kids, hkk⟩ : ∃ kids, u.kids = kids := ⟨_, rfl⟩
  have Hkid := Lib.hid (show ∀ (k : Nat) (h : k < kids.length) (h3 : k < rs.length) wq (he : Ext w wq), Calls Tryz.prog 6 #[.agg rs[k].cells.toArray] wq (RetPre wq ((preF kids[k]).map wcnt)) by subst hkk; exact Hkid.out)
  rw [hkk] at hrl Htk Hle Hfin hkb hkn
  rw [← hrl] at hkn hkb
  have Hrl := Lib.hid hrl
  obtain ⟨ra, ri, rn, rk, rl, hdA, hn, hc, wA, wn, wc', kA, kn, kc⟩ := r
  dsimp only at hkn hkc hrs
  subst hkn
  simp only [RUnit.cells] at hb hx0 ⊢
  obtain ⟨wb, hwb⟩ : ∃ wb, w.alloc (.cells #[.int .i64 ra, .int .i64 ri, .int .i64 rn, .int .i64 rk, .string rl, .slice hdA hn hc, .slice wA wn wc', .slice kA rs.length kc] 27) = wb := ⟨_, rfl⟩
  rw [hwb] at hb hx0
  have Hwb := Lib.hid hwb
  have Hb := Lib.hid hb
  have Hx0 := Lib.hid hx0
  have Hrs := Lib.hid hrs
  obtain ⟨hbl, c0, c1, c2, c3, c4, c5, c6, c7⟩ := hb
  dsimp only at c0 c1 c2 c3 c4 c5 c6 c7
  have hwbs := hx0.size
  have hwb1 : wb.heap.size = w.heap.size + 1 := by rw [← Hwb.out]; simp
  have hz : Own unitEl (w.heap.size + 1) (wb.alloc (.cells #[.int .i64 ra, .int .i64 ri, .int .i64 rn, .int .i64 rk, .string rl, .slice hdA hn hc, .slice wA wn wc', .slice kA rs.length kc] 27)) (.slice (some ⟨w.heap.size + 1, 0, none⟩) 1 1) [⟨ra, ri, rn, rk, rl, hdA, hn, hc, wA, wn, wc', kA, rs.length, kc⟩] := by
    have h := Own.lit unitEl (w := wb) (base := wb.heap.size) (xs := [⟨ra, ri, rn, rk, rl, hdA, hn, hc, wA, wn, wc', kA, rs.length, kc⟩]) (cs := #[.int .i64 ra, .int .i64 ri, .int .i64 rn, .int .i64 rk, .string rl, .slice hdA hn hc, .slice wA wn wc', .slice kA rs.length kc]) (Nat.le_refl _) (by simp) (by simp [El.flat, unitEl, RUnit.cells])
    rw [hwb1] at h
    exact h
  have hxl : Ext wb (wb.alloc (.cells #[.int .i64 ra, .int .i64 ri, .int .i64 rn, .int .i64 rk, .string rl, .slice hdA hn hc, .slice wA wn wc', .slice kA rs.length kc] 27)) := (Ext.refl wb).alloc _
  have Hz := Lib.hid hz
  have Hxl := Lib.hid hxl
  clear hr hok hhn hwn hN ih hall hrs hkc hkk hwb hx0 hz hxl hrl hpl hcnt
  go_enter Tryz.func6, Tryz.ntmps6
  go_wp2_with fail
  try rw [Hwb.out]
  go_loopw [3, 4] (fun vo vk wr => ∃ (k : Nat) (xs : List RUnit), k ≤ rs.length ∧ vk = .int .i64 (k : Nat) ∧ Own unitEl (w.heap.size + 1) wr vo xs ∧ Hid (xs.map rcnt = (u :: preL (kids.take k)).map wcnt) ∧ Ext wb wr) (fun _ vk _ => rs.length - (intOf vk).toNat)
  case atStart => exact ⟨0, [⟨ra, ri, rn, rk, rl, hdA, hn, hc, wA, wn, wc', kA, rs.length, kc⟩], Nat.zero_le _, rfl, Hz.out, Lib.hid (by simp only [List.take_zero, preL, List.map_cons, List.map_nil]; rw [Hr0.out]), Hxl.out⟩
  case round =>
    clear c0 c1 c2 c3 c4 c5 c6 c7 Hz Hxl
    obtain ⟨k, xs, hk, rfl, hown, Hxs, hext⟩ := hrel
    obtain ⟨hbl2, c0, c1, c2, c3, c4, c5, c6, c7⟩ := Hb.out.ext hext
    dsimp only at c0 c1 c2 c3 c4 c5 c6 c7
    obtain ⟨A0, cc0, rfl, -, -⟩ := hown.form
    by_cases hlt : k < rs.length
    · have hltk : k < kids.length := by rw [← Hrl.out]; exact hlt
      obtain ⟨q, hq⟩ : ∃ q, rs[k] = q := ⟨_, rfl⟩
      obtain ⟨b, off, hAe, hbk, u0, u1, u2, u3, u4, u5, u6, u7⟩ := unitAtK ((Hrs.out.ext Hx0.out).ext hext) hlt hq
      subst hAe
      have hkc := Hkid.out k hltk hlt wr (Hx0.out.trans hext)
      rw [hq] at hkc
      simp only [RUnit.cells] at hkc
      have Hkc := Lib.hid hkc
      have Htk2 := Lib.hid (Htk.out k hltk)
      have hle2 := Hle.out (k + 1)
      rw [Htk2.out, List.length_append] at hle2
      have hxl2 := congrArg List.length Hxs.out
      simp only [List.length_map, List.length_cons] at hxl2
      obtain ⟨pk, hpk⟩ : ∃ pk, preF kids[k] = pk := ⟨_, rfl⟩
      obtain ⟨pp, hpp⟩ : ∃ pp, preL (kids.take k) = pp := ⟨_, rfl⟩
      rw [hpk] at Hkc Htk2 hle2
      rw [hpp] at Htk2 hle2 hxl2 Hxs
      have hxb : xs.length ≤ 1001 := by omega
      have e1 : decide ((k : Int) < (rs.length : Int)) = true := decide_eq_true (by omega)
      have Hown := Lib.hid hown
      have Hext := Lib.hid hext
      have hz0 := hext.size
      clear hkc hq hown hext hxl2 hpk hpp
      go_wp2_with fail
      refine (Hkc.out).mono ?_
      rintro e w2 ⟨v2, ys, rfl, hown2, hys, hx2⟩
      obtain ⟨A2, c2', rfl, -, hsl2⟩ := hown2.form
      have hyl := congrArg List.length hys
      simp only [List.length_map] at hyl
      have Ho2 := Lib.hid (Hown.out.ext hx2)
      have Hys := Lib.hid hys
      have Hsl := Lib.hid hsl2
      have Hx2 := Lib.hid hx2
      have hyb : ys.length ≤ 1000 := by omega
      have hz2 := (Hext.out.trans hx2).size
      clear hown2 hys hsl2 hx2 hyl hle2 u0 u1 u2 u3 u4 u5 u6 u7 c0 c1 c2 c3 c4 c5 c6 c7
      go_wp2_with (refine wpList_appAt unitEl rfl (.tmp 14) (.tmp 20) rfl c2' rfl Ho2.out rfl Hsl.out (by omega) (by omega) ?_; intro v3 w3 h1 h2 h3)
      go_roundw
      case rel =>
        refine ⟨k + 1, _, by omega, by go_num, h1, Lib.hid ?_, (Hext.out.trans Hx2.out).grown h2 hz2 fun g hg => ?_⟩
        · rw [List.map_append, Hxs.out, Hys.out, Htk2.out]
          simp
        · have := (Ho2.out.bd hg).1
          omega
      case measure => simp [intOf]; omega
    · have e1 : decide ((k : Int) < (rs.length : Int)) = false := decide_eq_false (by omega)
      have hkn : k = kids.length := by rw [← Hrl.out]; omega
      have Hfx := Lib.hid (show xs.map rcnt = (preF u).map wcnt by rw [Hxs.out, hkn, Hfin.out])
      clear hkn
      have Hown := Lib.hid hown
      have Hext := Lib.hid hext
      clear hown hext
      go_wp2
      go_ret
      exact ⟨_, xs, rfl, Hown.out.mono (by omega), Hfx.out, Hx0.out.trans Hext.out⟩
theorem pre_rec : ∀ N, PreAt N
  | 0 => fun _ _ _ h => (size0 h).elim
  | N + 1 => pre_step N (pre_rec N)
theorem pre_any (u : GUnit) (r : RUnit) (w : World) (hr : Reads w u r) (hok : OkU u) : Calls Tryz.prog 6 #[.agg r.cells.toArray] w (RetPre w ((preF u).map wcnt)) := pre_rec _ u r w (Nat.le_refl _) hr hok
end Go.Proofs.YtjhdamjbljafhaaGreatDoor
