/- row: a row with one cell for each string. -/
import Derived.Test.YthjlnpcanccmkaaSplit9
namespace Go.Proofs.Ythjlnpcanccmkaa
open Go.RowKit

def wordOf (s : ByteArray) : GWord := ⟨s, 0, 0, 0⟩
def cellF (s : ByteArray) : GUnit := .mk 0 0 0 6 ⟨#[]⟩ [] ((splitF s).map wordOf) []
def rowF (l : List ByteArray) : GUnit := .mk 0 0 0 5 ⟨#[]⟩ [] [] (l.map cellF)
theorem splitR_length (s : ByteArray) : ∀ (f i j : Nat), (splitR s f i j).length ≤ f
  | 0, _, _ => Nat.le_refl _
  | f + 1, i, j => by
    rw [splitR]
    split
    · have := splitR_length s f (i + 1) (i + 1)
      rw [List.length_cons]; omega
    · have := splitR_length s f (i + 1) j
      omega

set_option maxRecDepth 100000 in
set_option maxHeartbeats 3200000 in
theorem row9_any (A : Option Addr) (c : Nat) (l : List ByteArray) (w : World) (hs : Sl strEl w A l) (hn : l.length ≤ 10) (hz : ∀ s ∈ l, s.size ≤ 100) :
    Calls Try.prog 31 #[.slice A l.length c] w fun e w' => ∃ r' : RUnit, e = .returned (.agg r'.cells.toArray) ∧ Ext w w' ∧ Reads (mask (fresh w.heap.size) w') (rowF l) r' := by
  have Hz := Lib.hid hz
  clear hz
  go_enter Try.func31, Try.ntmps31
  go_wp2
  obtain ⟨ws, hwz⟩ : ∃ ws, w.alloc (.cells #[.int .i64 0, .int .i64 0, .int .i64 0, .int .i64 0, .string ⟨#[]⟩, .slice none 0 0, .slice none 0 0, .slice none 0 0] 27) = ws := ⟨_, rfl⟩
  have he1 : Ext w ws := by rw [← hwz]; exact (Ext.refl w).alloc _
  have hsz : ws.heap.size = w.heap.size + 1 := by rw [← hwz]; simp
  have hres : ws.heap[w.heap.size]? = some (.cells unit0.cells.toArray 27 (0, 0)) := by
    rw [← hwz]
    exact heap_alloc_new _ _
  rw [hwz]
  clear hwz
  obtain ⟨wb, hwb⟩ : ∃ wb, ws.alloc (.cells #[.int .i64 0, .int .i64 0, .int .i64 0, .int .i64 5, .string ⟨#[]⟩, .slice none 0 0, .slice none 0 0, .slice none 0 0] 27) = wb := ⟨_, rfl⟩
  have heb : Ext ws wb := by rw [← hwb]; exact (Ext.refl ws).alloc _
  have hsb : wb.heap.size = ws.heap.size + 1 := by rw [← hwb]; simp
  have hout : wb.heap[w.heap.size + 1]? = some (.cells (RUnit.cells ⟨0, 0, 0, 5, ⟨#[]⟩, none, 0, 0, none, 0, 0, none, ([] : List RUnit).length, 0⟩).toArray 27 (0, 0)) := by
    rw [← hwb, ← hsz]
    exact heap_alloc_new _ _
  rw [hwb]
  clear hwb
  obtain ⟨bo, hboe⟩ : ∃ bo, bo = w.heap.size + 1 := ⟨_, rfl⟩
  rw [← hboe] at hout ⊢
  have hbo1 : w.heap.size + 1 ≤ bo := by omega
  have hbo2 : bo ≤ w.heap.size + 1 := by omega
  have hbo3 : ws.heap.size ≤ bo := by omega
  have hbo4 : bo < wb.heap.size := by omega
  have hss1 : w.heap.size + 1 ≤ ws.heap.size := by omega
  have Hres := Lib.hid hres
  obtain ⟨p, hp⟩ : ∃ p, p = fresh wb.heap.size := ⟨_, rfl⟩
  have Hp1 := Lib.hid (show ∀ k, k < wb.heap.size → p k = true from fun k hk => by rw [hp]; simp [fresh, hk])
  have Hp3 := Lib.hid (show ∀ k, p k = true → k < wb.heap.size from fun k hk => by rw [hp] at hk; simpa [fresh] using hk)
  clear hboe hsb hsz hres hp
  go_loopw [12] (fun i wr => ∃ (k : Nat) (rs : List RUnit) (oA : Option Addr) (oc : Nat) (p : Nat → Bool), k ≤ l.length ∧ i = .int .i64 k ∧ wr.heap[bo]? = some (.cells (RUnit.cells ⟨0, 0, 0, 5, ⟨#[]⟩, none, 0, 0, none, 0, 0, oA, rs.length, oc⟩).toArray 27 (0, 0)) ∧ Own unitEl wb.heap.size wr (.slice oA rs.length oc) rs ∧
    Hid (∀ j, j < wb.heap.size → p j = true) ∧ Hid (∀ j, p j = true → j < wr.heap.size) ∧ Hid (∀ g, (Value.slice oA rs.length oc).ownBlock = some g → p g = true ∧ g ≠ bo) ∧ Hid (ReadsAll (mask p wr) ((l.take k).map cellF) rs) ∧ Ext ws wr ∧ wb.heap.size ≤ wr.heap.size) (fun i _ => l.length - (intOf i).toNat)
  case atStart => exact ⟨0, [], none, 0, p, Nat.zero_le _, rfl, hout, Own.nil _, Hp1, Hp3, Lib.hid (fun g hg => by cases hg), Lib.hid (by rw [List.take_zero]; show ReadsAll _ [] []; rw [ReadsAll]; trivial), heb, Nat.le_refl _⟩
  case round =>
    obtain ⟨k, rs, oA, oc, p, hk, rfl, hbk, hown, Hp1, Hp3, Hpo, Hrs, hext, hszr⟩ := hrel
    have hbor : bo < wr.heap.size := by omega
    have hrl : rs.length = k := by rw [ReadsAll.length Hrs.out, List.length_map, List.length_take]; omega
    have Hrl := Lib.hid hrl
    clear hrl
    by_cases hlt : k < l.length
    · obtain ⟨b, off, hA, hb, hcell⟩ := strAt ((hs.ext he1).ext hext) hlt
      have hsz1 := Hz.out _ (List.getElem_mem hlt)
      have Htk := Lib.hid (map_take_succ cellF l k hlt)
      obtain ⟨s, hsk⟩ : ∃ s, l[k] = s := ⟨_, rfl⟩
      rw [hsk] at hcell hsz1 Htk
      clear hsk
      obtain ⟨wo, hwo⟩ : ∃ wo, wo = wr := ⟨_, rfl⟩
      subst hwo
      obtain ⟨T, hT⟩ : ∃ T, splitF s = T := ⟨_, rfl⟩
      have hTl : T.length ≤ 101 := by
        rw [← hT]
        exact Nat.le_trans (splitR_length s _ _ _) (by omega)
      have hcf : cellF s = .mk 0 0 0 6 ⟨#[]⟩ [] (T.map wordOf) [] := by rw [← hT]; rfl
      have Hcf := Lib.hid hcf
      obtain ⟨w1, hw1⟩ : ∃ w1, wo.alloc (.cells #[.int .i64 0, .int .i64 0, .int .i64 0, .int .i64 6, .string ⟨#[]⟩, .slice none 0 0, .slice none 0 0, .slice none 0 0] 27) = w1 := ⟨_, rfl⟩
      have hx1 : Ext wo w1 := by rw [← hw1]; exact (Ext.refl _).alloc _
      have hbc1 : w1.heap[wo.heap.size]? = some (.cells (RUnit.cells ⟨0, 0, 0, 6, ⟨#[]⟩, none, 0, 0, none, ([] : List GWord).length, 0, none, 0, 0⟩).toArray 27 (0, 0)) := by rw [← hw1]; exact heap_alloc_new _ _
      have hw1s : wo.heap.size < w1.heap.size := block_lt hbc1
      have hsp := split_any s w1 hsz1
      rw [hT] at hsp
      have Hsp := Lib.hid hsp
      have Hw1 := Lib.hid hw1
      subst hA
      clear hT hcf hw1 hsp
      go_wp2_with fail
      rw [Hw1.out]
      refine (Hsp.out).mono ?_
      rintro e w2 ⟨v2, rfl, hown2, hx2⟩
      have hx12 := hx1.trans hx2
      have hbc2 := (hx2.block hw1s).trans hbc1
      obtain ⟨p2, hp2⟩ : ∃ p2 : Nat → Bool, p2 = fun j => decide (j = wo.heap.size) := ⟨_, rfl⟩
      obtain ⟨A2, c2, rfl, hc2, -, hs2⟩ := hown2.formMask (p := p2) (fun j hj _ => by rw [hp2]; simp; omega)
      have Hq2 := Lib.hid (show p2 wo.heap.size = true by rw [hp2]; simp)
      have Hq3 := Lib.hid (show ∀ j, p2 j = true → j < w2.heap.size from fun j hj => by rw [hp2] at hj; simp at hj; have := hx2.size; omega)
      clear hp2 hown2 hcell
      go_wp2
      go_loopw [20] (fun j wi => ∃ (m : Nat) (W : List GWord) (A3 : Option Addr) (c3 : Nat) (p2 : Nat → Bool), m ≤ T.length ∧ j = .int .i64 m ∧ Hid (W = (T.take m).map wordOf) ∧ W.length ≤ c3 ∧ wi.heap[wo.heap.size]? = some (.cells (RUnit.cells ⟨0, 0, 0, 6, ⟨#[]⟩, none, 0, 0, A3, W.length, c3, none, 0, 0⟩).toArray 27 (0, 0)) ∧ Own wordEl (wo.heap.size + 1) wi (.slice A3 W.length c3) W ∧
        Hid (p2 wo.heap.size = true) ∧ Hid (∀ j, p2 j = true → j < wi.heap.size) ∧ Hid (∀ g, (Value.slice A3 W.length c3).ownBlock = some g → p2 g = true ∧ g ≠ wo.heap.size) ∧ Sl strEl (mask p2 wi) A2 T ∧ Ext wo wi) (fun j _ => T.length - (intOf j).toNat)
      case atStart => exact ⟨0, [], none, 0, p2, Nat.zero_le _, rfl, Lib.hid rfl, Nat.le_refl _, hbc2, Own.nil _, Hq2, Hq3, Lib.hid (fun g hg => by cases hg), hs2, hx12⟩
      case round =>
        obtain ⟨m, W, A3, c3, p2, hm, rfl, HW, hWc, hbc, hownW, Hq2, Hq3, Hqo, hs2, hexi⟩ := hrel
        have hszi := hexi.size
        have hbcl := block_lt hbc
        have hWl : W.length = m := by rw [HW.out, List.length_map, List.length_take]; omega
        have HWl := Lib.hid hWl
        clear hWl
        by_cases hmt : m < T.length
        · obtain ⟨b2, off2, hA2, hb2, hcell2⟩ := strAt (hs2.cin (CIn.unmask _ _)) hmt
          have Hts := Lib.hid (map_take_succ wordOf T m hmt)
          obtain ⟨x, hx⟩ : ∃ x, T[m] = x := ⟨_, rfl⟩
          rw [hx] at hcell2 Hts
          have f6 := (unitBlock hbc).2.2.2.2.2.2.1
          dsimp only at f6
          subst hA2
          clear hx
          obtain ⟨W', HW'⟩ : ∃ W', Hid (W' = W ++ [⟨x, 0, 0, 0⟩]) := ⟨_, Lib.hid rfl⟩
          go_wp2_with (first | (at_builtin; refine wpList_appAt wordEl rfl _ _ rfl 1 rfl (hownW.ext ((Ext.refl _).alloc _)) (ys := [⟨x, 0, 0, 0⟩]) rfl (Sl.new wordEl rfl) (by rw [HWl.out]; simp; omega) (by simp; omega) ?_; intro v' w5 hown5 hg5 hloc; rw [← HW'.out] at hown5; obtain ⟨A', c', rfl, hcc', -⟩ := hown5.form) |
            (refine wpList_fld rfl 27 4 (.tmp 6) rfl _ Try.underlying27 _ rfl 1 Try.sizeOf24 (by decide) wo.heap.size 0 rfl ?_) |
            (refine wpList_put rfl 24 (.tmp 30) (.tmp 29) rfl wo.heap.size 6 (.slice A' W'.length c') rfl rfl [.slice A' W'.length c'] rfl Try.sizeOf24 (by simp [Value.oneCell']) 27 _ ((hg5.block wo.heap.size (by simp; omega) (fun h => (Hqo.out _ h.symm).2 rfl)).trans ((((Ext.refl _).alloc _).block hbcl).trans hbc)) (by simp [RUnit.cells]) ?_; intro w7 hw7 hos7 htp7 hou7 hs7 hbk7))
          obtain ⟨p', hp'1, hp'2, hp'3, hci1, hci2, hown7, hbel⟩ := Own.step (B := wo.heap.size) ((Ext.refl _).alloc _) hownW Hq2.out Hq3.out Hqo.out hg5 hloc hown5 hw7 hos7 htp7 hou7 hs7 (Nat.le_refl _) (Nat.le_succ _) hszi
          have hbk7' : w7.heap[wo.heap.size]? = some (.cells (RUnit.cells ⟨0, 0, 0, 6, ⟨#[]⟩, none, 0, 0, A', W'.length, c', none, 0, 0⟩).toArray 27 (0, 0)) := by
            rw [hbk7]
            simp [RUnit.cells]
          have Hq2' := Lib.hid (hp'1 _ Hq2.out)
          have Hq3' := Lib.hid hp'2
          have Hq4' := Lib.hid hp'3
          clear hp'1 hp'2 hp'3 hbk7 hw7 hloc hg5 f6
          go_wp2
          go_roundw
          case rel => exact ⟨m + 1, W', A', c', p', by omega, by go_num, Lib.hid (by rw [Hts.out, HW'.out, HW.out]; rfl), hcc', hbk7', hown7, Hq2', Hq3', Hq4', hs2.cin hci1, hexi.trans' hbel⟩
          case measure => simp [intOf]; omega
        · have hmT : m = T.length := by omega
          have hWT : W = T.map wordOf := by rw [HW.out, hmT, List.take_length]
          have HWT := Lib.hid hWT
          obtain ⟨_, _, hv3, -, hslW⟩ := (hownW.mono (base' := wo.heap.size) (Nat.le_succ _)).formFresh
          cases hv3
          have hrd : Reads (mask (fresh wo.heap.size) wr) (cellF s) ⟨0, 0, 0, 6, ⟨#[]⟩, none, 0, 0, A3, W.length, c3, none, 0, 0⟩ := by
            rw [Hcf.out, Reads]
            refine ⟨⟨rfl, rfl, rfl, rfl, rfl⟩, ⟨rfl, Nat.le_refl _, Sl.nil⟩, ⟨by rw [← HWT.out], by rw [← HWT.out]; exact hWc, by rw [← HWT.out]; exact hslW⟩, rfl, Nat.le_refl _, [], Sl.nil, by rw [ReadsAll]; trivial⟩
          have hbkw := (hexi.block hbor).trans hbk
          have f7 := (unitBlock hbkw).2.2.2.2.2.2.2
          dsimp only at f7
          obtain ⟨g0, g1, g2, g3, g4, g5, g6, g7⟩ := unitBlock hbc
          dsimp only at g0 g1 g2 g3 g4 g5 g6 g7
          have Hrd := Lib.hid hrd
          clear hmT hWT hrd hslW
          obtain ⟨rs', Hrs'⟩ : ∃ rs', Hid (rs' = rs ++ [⟨0, 0, 0, 6, ⟨#[]⟩, none, 0, 0, A3, W.length, c3, none, 0, 0⟩]) := ⟨_, Lib.hid rfl⟩
          go_wp2_with (first | (at_builtin; refine wpList_appAt unitEl rfl _ _ rfl 1 rfl ((hown.ext hexi).ext ((Ext.refl _).alloc _)) (ys := [⟨0, 0, 0, 6, ⟨#[]⟩, none, 0, 0, A3, W.length, c3, none, 0, 0⟩]) rfl (Sl.new unitEl rfl) (by rw [Hrl.out]; simp; omega) (by simp; omega) ?_; intro v' w5 hown5 hg5' hloc; rw [← Hrs'.out] at hown5; obtain ⟨A', c', rfl, -, -⟩ := hown5.form) |
            (refine wpList_fld rfl 27 5 (.tmp 3) rfl _ Try.underlying27 _ rfl 1 Try.sizeOf25 (by decide) bo 0 rfl ?_) |
            (refine wpList_put rfl 25 (.tmp 37) (.tmp 36) rfl bo 7 (.slice A' rs'.length c') rfl rfl [.slice A' rs'.length c'] rfl Try.sizeOf25 (by simp [Value.oneCell']) 27 _ ((hg5'.block bo (by simp; omega) (fun h => (Hpo.out bo h.symm).2 rfl)).trans ((((Ext.refl _).alloc _).block (by omega)).trans hbkw)) (by simp [RUnit.cells]) ?_; intro w7 hw7 hos7 htp7 hou7 hs7 hbk7))
          obtain ⟨p', hp'1, hp'2, hp'3, hci1, hci2, hown7, hbel⟩ := Own.step (B := ws.heap.size) (hexi.alloc _) hown (Hp1.out bo hbo4) Hp3.out Hpo.out hg5' hloc hown5 hw7 hos7 htp7 hou7 hs7 hbo3 heb.size hext.size
          have hbk7' : w7.heap[bo]? = some (.cells (RUnit.cells ⟨0, 0, 0, 5, ⟨#[]⟩, none, 0, 0, none, 0, 0, A', rs'.length, c'⟩).toArray 27 (0, 0)) := by
            rw [hbk7]
            simp [RUnit.cells]
          have hadd := ReadsAll.snoc (ReadsAll.cin hci1 _ _ Hrs.out) (Reads.cin hci2 _ _ (Reads.cin (CIn.ext ((Ext.refl _).alloc _)) _ _ Hrd.out))
          rw [← Htk.out, ← Hrs'.out] at hadd
          have Hadd := Lib.hid hadd
          have Hp1' := Lib.hid (fun j (hj : j < wb.heap.size) => hp'1 j (Hp1.out j hj))
          have Hp3' := Lib.hid hp'2
          have Hp4' := Lib.hid hp'3
          have hszf : wb.heap.size ≤ w7.heap.size := by have := hbel.size; omega
          clear hadd hp'1 hp'2 hp'3 hbk7 hw7 hloc hg5' g0 g1 g2 g3 g4 g5 g6 g7 f7
          go_wp2
          go_roundw
          case rel => exact ⟨k + 1, rs', A', c', p', by omega, by go_num, hbk7', hown7, Hp1', Hp3', Hp4', Hadd, hext.trans' hbel, hszf⟩
          case measure => simp [intOf]; omega
    · have hkl : k = l.length := by omega
      have hR := Hrs.out
      rw [hkl, List.take_length] at hR
      have HR := Lib.hid hR
      obtain ⟨f0, f1, f2, f3, f4, f5, f6, f7⟩ := unitBlock hbk
      have hresr : wr.heap[w.heap.size]? = some (.cells unit0.cells.toArray 27 (0, 0)) := (hext.block (by omega)).trans Hres.out
      dsimp only at f0 f1 f2 f3 f4 f5 f6 f7
      clear hR hkl
      go_wp2_with (refine wpList_put rfl 27 (.tmp 2) (.tmp 39) rfl w.heap.size 0 (.agg (RUnit.cells ⟨0, 0, 0, 5, ⟨#[]⟩, none, 0, 0, none, 0, 0, oA, rs.length, oc⟩).toArray) rfl rfl (RUnit.cells ⟨0, 0, 0, 5, ⟨#[]⟩, none, 0, 0, none, 0, 0, oA, rs.length, oc⟩) rfl Try.sizeOf27 (by simp [RUnit.cells, Value.oneCell']) 27 _ hresr (by simp [unit0, RUnit.cells]) ?_; intro w3 hw3 hos3 htp3 hou3 hs3 hbk3)
      have hfin : w3.heap[w.heap.size]? = some (.cells (RUnit.cells ⟨0, 0, 0, 5, ⟨#[]⟩, none, 0, 0, none, 0, 0, oA, rs.length, oc⟩).toArray 27 (0, 0)) := by
        rw [hbk3]
        simp [RUnit.cells, unit0]
      have hew : Ext w wr := he1.trans hext
      have hbz := heb.size
      have hci : CIn (mask p wr) (mask (fresh w.heap.size) w3) := CIn.keep (by rw [hs3]; exact Nat.le_refl _) fun k hk hpk => by
        have hnk : ¬ k < wb.heap.size := fun h => by rw [Hp1.out k h] at hpk; cases hpk
        exact ⟨hw3 k (by omega), by simp [fresh]; omega⟩
      have hown3 : Own unitEl wb.heap.size w3 (.slice oA rs.length oc) rs := hown.keep fun g hg => hw3 g (by have := (hown.lt g hg).1; omega)
      obtain ⟨_, _, hv3, hoc, -, hsl3⟩ := hown3.formMask (p := fresh w.heap.size) (fun g hg _ => by simp [fresh]; omega)
      cases hv3
      have hkl3 : rs.length = (l.map cellF).length := ReadsAll.length HR.out
      (try simp only [Exit.inBlock, Exit.then])
      refine bodyPost_ret (results_cell1 rfl _ _ w.heap.size _ rfl hfin) rfl ?_
      refine ⟨_, rfl, hew.put (Nat.le_refl _) hw3 hos3 htp3 hou3 hs3, ?_⟩
      unfold rowF
      rw [Reads]
      exact ⟨⟨rfl, rfl, rfl, rfl, rfl⟩, ⟨rfl, Nat.le_refl _, Sl.nil⟩, ⟨rfl, Nat.le_refl _, Sl.nil⟩, hkl3, by rw [← hkl3]; exact hoc, rs, hsl3, ReadsAll.cin hci _ _ HR.out⟩

end Go.Proofs.Ythjlnpcanccmkaa
