/- The closures that ask for a note with a label; slices.IndexFunc with each; noted: the walks. -/
import Derived.Test.YtiacmahfjcolaaaDoorAncB10
namespace Go.Proofs.YtiacmahfjcolaaaDoor
open Go.RowKit

set_option maxRecDepth 100000 in
set_option maxHeartbeats 800000 in
theorem noted1_any (q : RUnit) (s : ByteArray) (B : Nat) (w : World) (hB : B < w.heap.size) (hc : w.cell? ⟨B, 0, none⟩ = some (.string s)) :
    Calls Tryd.prog 57 #[.agg q.cells.toArray, .pointer (some ⟨B, 0, none⟩)] w fun e w' => e = .returned (.bool (isNote s (keyR q))) ∧ Ext w w' := by
  have he1 : Ext w (w.alloc (.cells q.cells.toArray 27)) := (Ext.refl w).alloc _
  have hcr := (he1.cell (p := ⟨B, 0, none⟩) hB).trans hc
  obtain ⟨ra, ri, rn, rk, rl, hdA, hn, hcc, wA, wn, wc, kA, kn, kc⟩ := q
  simp only [RUnit.cells] at he1 hcr ⊢
  rw [keyR, isNote]
  simp only
  by_cases h7 : rk = 7
  · subst h7
    by_cases hs : rl = s
    · have d2 : (rl.toList == s.toList) = true := by rw [beq_bytes]; simp [hs]
      have hr : (decide ((7 : Int) = 7) && decide (rl = s)) = true := by simp [hs]
      rw [hr]
      clear hr hs
      go_enter Tryd.func57, Tryd.ntmps57
      go_wp2
      go_ret
      exact ⟨rfl, he1⟩
    · have d2 : (rl.toList == s.toList) = false := by rw [beq_bytes]; simp [hs]
      have hr : (decide ((7 : Int) = 7) && decide (rl = s)) = false := by simp [hs]
      rw [hr]
      clear hr hs
      go_enter Tryd.func57, Tryd.ntmps57
      go_wp2
      go_ret
      exact ⟨rfl, he1⟩
  · have d2 : (rk == 7) = false := by simp [h7]
    have hr : (decide (rk = 7) && decide (rl = s)) = false := by simp [h7]
    rw [hr]
    clear hr h7
    go_enter Tryd.func57, Tryd.ntmps57
    go_wp2
    go_ret
    exact ⟨rfl, he1⟩

set_option maxRecDepth 100000 in
set_option maxHeartbeats 800000 in
theorem own1_any (q : RUnit) (s : ByteArray) (B : Nat) (w : World) (hB : B < w.heap.size) (hc : w.cell? ⟨B, 4, none⟩ = some (.string s)) :
    Calls Tryd.prog 56 #[.agg q.cells.toArray, .pointer (some ⟨B, 0, none⟩)] w fun e w' => e = .returned (.bool (isNote s (keyR q))) ∧ Ext w w' := by
  have he1 : Ext w (w.alloc (.cells q.cells.toArray 27)) := (Ext.refl w).alloc _
  have hcr := (he1.cell (p := ⟨B, 4, none⟩) hB).trans hc
  obtain ⟨ra, ri, rn, rk, rl, hdA, hn, hcc, wA, wn, wc, kA, kn, kc⟩ := q
  simp only [RUnit.cells] at he1 hcr ⊢
  rw [keyR, isNote]
  simp only
  by_cases h7 : rk = 7
  · subst h7
    by_cases hs : rl = s
    · have d2 : (rl.toList == s.toList) = true := by rw [beq_bytes]; simp [hs]
      have hr : (decide ((7 : Int) = 7) && decide (rl = s)) = true := by simp [hs]
      rw [hr]
      clear hr hs
      go_enter Tryd.func56, Tryd.ntmps56
      go_wp2
      go_ret
      exact ⟨rfl, he1⟩
    · have d2 : (rl.toList == s.toList) = false := by rw [beq_bytes]; simp [hs]
      have hr : (decide ((7 : Int) = 7) && decide (rl = s)) = false := by simp [hs]
      rw [hr]
      clear hr hs
      go_enter Tryd.func56, Tryd.ntmps56
      go_wp2
      go_ret
      exact ⟨rfl, he1⟩
  · have d2 : (rk == 7) = false := by simp [h7]
    have hr : (decide (rk = 7) && decide (rl = s)) = false := by simp [h7]
    rw [hr]
    clear hr h7
    go_enter Tryd.func56, Tryd.ntmps56
    go_wp2
    go_ret
    exact ⟨rfl, he1⟩

set_option maxRecDepth 100000 in
set_option maxHeartbeats 800000 in
theorem indexNoted_any (A : Option Addr) (c : Nat) (rs : List RUnit) (s : ByteArray) (B : Nat) (w : World) (hs : Sl unitEl w A rs) (hB : B < w.heap.size) (hc : w.cell? ⟨B, 0, none⟩ = some (.string s)) (hn : rs.length ≤ 9223372036854775807) :
    Calls Tryd.prog 55 #[.slice A rs.length c, .func (.func 57) #[] #[.pointer (some ⟨B, 0, none⟩)]] w fun e w' => e = .returned (.int .i64 (noteI (rs.map keyR) s)) ∧ Ext w w' := by
  have Hcl := Lib.hid (show ∀ q w', Ext w w' → _ from fun q w' he => noted1_any q s B w' (Nat.lt_of_lt_of_le hB he.size) ((he.cell (p := ⟨B, 0, none⟩) hB).trans hc))
  simp only [RUnit.cells] at Hcl
  obtain ⟨R, hR⟩ : ∃ R, noteI (rs.map keyR) s = R := ⟨_, rfl⟩
  have HR : Hid (idxI (isNote s) ((rs.map keyR).drop 0) 0 = R) := Lib.hid hR
  rw [hR]
  clear hR hc
  go_enter Tryd.func55, Tryd.ntmps55
  go_wp2
  go_loopw [5, 8] (fun _ vk wr => ∃ k : Nat, k ≤ rs.length ∧ vk = .int .i64 (k : Nat) ∧ Hid (idxI (isNote s) ((rs.map keyR).drop k) k = R) ∧ Ext w wr) (fun _ vk _ => rs.length - (intOf vk).toNat)
  case atStart => exact ⟨0, Nat.zero_le _, rfl, HR, Ext.refl _⟩
  case round =>
    obtain ⟨k, hk, rfl, Hk, hext⟩ := hrel
    by_cases hlt : k < rs.length
    · have hk2 := Hk.out
      rw [idxI_drop (by simpa using hlt), List.getElem_map] at hk2
      obtain ⟨b, off, rfl, hb, u0, u1, u2, u3, u4, u5, u6, u7⟩ := unitAt (hs.ext hext) hlt
      obtain ⟨q, hq⟩ : ∃ q, rs[k] = q := ⟨_, rfl⟩
      rw [hq] at u0 u1 u2 u3 u4 u5 u6 u7 hk2
      have Hc2 := Lib.hid (Hcl.out q wr hext)
      obtain ⟨N, hN⟩ : ∃ N, isNote s (keyR q) = N := ⟨_, rfl⟩
      rw [hN] at Hc2 hk2
      have d1 : decide ((k : Int) < (rs.length : Int)) = true := decide_eq_true (by omega)
      clear hq hN
      cases N with
      | true =>
        have HK2 := Lib.hid (show (k : Int) = R from hk2)
        clear hk2
        go_wp2_with fail
        refine (Hc2.out).mono ?_
        rintro e w2 ⟨rfl, hx2⟩
        go_wp2
        go_ret
        exact ⟨ret_int HK2.out, hext.trans hx2⟩
      | false =>
        have HK2 := Lib.hid (show idxI (isNote s) ((rs.map keyR).drop (k + 1)) (k + 1) = R from hk2)
        clear hk2
        go_wp2_with fail
        refine (Hc2.out).mono ?_
        rintro e w2 ⟨rfl, hx2⟩
        go_wp2
        go_roundw
        case rel => exact ⟨k + 1, by omega, by go_num, HK2, hext.trans hx2⟩
        case measure => simp [intOf]; omega
    · have hk2 := Hk.out
      rw [idxI_end (by simp; omega)] at hk2
      have HK2 := Lib.hid hk2
      have d1 : decide ((k : Int) < (rs.length : Int)) = false := decide_eq_false (by omega)
      clear hk2
      go_wp2
      go_ret
      exact ⟨ret_int HK2.out, hext⟩

set_option maxRecDepth 100000 in
set_option maxHeartbeats 800000 in
theorem indexOwn_any (A : Option Addr) (c : Nat) (rs : List RUnit) (s : ByteArray) (B : Nat) (w : World) (hs : Sl unitEl w A rs) (hB : B < w.heap.size) (hc : w.cell? ⟨B, 4, none⟩ = some (.string s)) (hn : rs.length ≤ 9223372036854775807) :
    Calls Tryd.prog 55 #[.slice A rs.length c, .func (.func 56) #[] #[.pointer (some ⟨B, 0, none⟩)]] w fun e w' => e = .returned (.int .i64 (noteI (rs.map keyR) s)) ∧ Ext w w' := by
  have Hcl := Lib.hid (show ∀ q w', Ext w w' → _ from fun q w' he => own1_any q s B w' (Nat.lt_of_lt_of_le hB he.size) ((he.cell (p := ⟨B, 4, none⟩) hB).trans hc))
  simp only [RUnit.cells] at Hcl
  obtain ⟨R, hR⟩ : ∃ R, noteI (rs.map keyR) s = R := ⟨_, rfl⟩
  have HR : Hid (idxI (isNote s) ((rs.map keyR).drop 0) 0 = R) := Lib.hid hR
  rw [hR]
  clear hR hc
  go_enter Tryd.func55, Tryd.ntmps55
  go_wp2
  go_loopw [5, 8] (fun _ vk wr => ∃ k : Nat, k ≤ rs.length ∧ vk = .int .i64 (k : Nat) ∧ Hid (idxI (isNote s) ((rs.map keyR).drop k) k = R) ∧ Ext w wr) (fun _ vk _ => rs.length - (intOf vk).toNat)
  case atStart => exact ⟨0, Nat.zero_le _, rfl, HR, Ext.refl _⟩
  case round =>
    obtain ⟨k, hk, rfl, Hk, hext⟩ := hrel
    by_cases hlt : k < rs.length
    · have hk2 := Hk.out
      rw [idxI_drop (by simpa using hlt), List.getElem_map] at hk2
      obtain ⟨b, off, rfl, hb, u0, u1, u2, u3, u4, u5, u6, u7⟩ := unitAt (hs.ext hext) hlt
      obtain ⟨q, hq⟩ : ∃ q, rs[k] = q := ⟨_, rfl⟩
      rw [hq] at u0 u1 u2 u3 u4 u5 u6 u7 hk2
      have Hc2 := Lib.hid (Hcl.out q wr hext)
      obtain ⟨N, hN⟩ : ∃ N, isNote s (keyR q) = N := ⟨_, rfl⟩
      rw [hN] at Hc2 hk2
      have d1 : decide ((k : Int) < (rs.length : Int)) = true := decide_eq_true (by omega)
      clear hq hN
      cases N with
      | true =>
        have HK2 := Lib.hid (show (k : Int) = R from hk2)
        clear hk2
        go_wp2_with fail
        refine (Hc2.out).mono ?_
        rintro e w2 ⟨rfl, hx2⟩
        go_wp2
        go_ret
        exact ⟨ret_int HK2.out, hext.trans hx2⟩
      | false =>
        have HK2 := Lib.hid (show idxI (isNote s) ((rs.map keyR).drop (k + 1)) (k + 1) = R from hk2)
        clear hk2
        go_wp2_with fail
        refine (Hc2.out).mono ?_
        rintro e w2 ⟨rfl, hx2⟩
        go_wp2
        go_roundw
        case rel => exact ⟨k + 1, by omega, by go_num, HK2, hext.trans hx2⟩
        case measure => simp [intOf]; omega
    · have hk2 := Hk.out
      rw [idxI_end (by simp; omega)] at hk2
      have HK2 := Lib.hid hk2
      have d1 : decide ((k : Int) < (rs.length : Int)) = false := decide_eq_false (by omega)
      clear hk2
      go_wp2
      go_ret
      exact ⟨ret_int HK2.out, hext⟩

theorem results_cell2 {fn : Func} {t u : Tmp} (h : fn.results = #[.cell t 27, .tmp u]) (tmps : Array Value) (w : World) (b : Nat) (r : RUnit) (hp : tmps.getD t undef = .pointer (some ⟨b, 0, none⟩)) (hc : w.heap[b]? = some (.cells r.cells.toArray 27 (0, 0))) :
    (results fn tmps).run Tryd.prog w = .ok (.tuple #[.agg r.cells.toArray, tmps.getD u undef]) w := by
  have hl := run_loadCells_list (P := Tryd.prog) w ⟨b, 0, none⟩ r.cells (fun j u hu => by
    have hadd : (⟨b, 0, none⟩ : Addr).add j = ⟨b, j, none⟩ := by unfold Addr.add; split <;> simp_all
    rw [hadd]
    simp only [World.cell?, hc]
    simpa using hu)
  have hp' : tmps[t]?.getD undef = .pointer (some ⟨b, 0, none⟩) := by simpa using hp
  have hn : ∀ w, (sizeOf 27).run Tryd.prog w = .ok r.cells.length w := Tryd.sizeOf27
  simp [results, h, hp', asAddr, loadVar, Tryd.isAgg27, hn, hl]
def RetNoted (u : GUnit) (s : ByteArray) (w : World) (e : Ending) (w' : World) : Prop := ∃ q : RUnit, e = .returned (.tuple #[.agg q.cells.toArray, .bool (decide (0 ≤ noteI u.keys s))]) ∧ Ext w w' ∧ (0 ≤ noteI u.keys s → (u.kids.map GUnit.id)[(noteI u.keys s).toNat]? = some ⟨q.a, q.i, q.n⟩)
theorem Reads.id {w : World} {u : GUnit} {r : RUnit} (h : Reads w u r) : u.id = ⟨r.a, r.i, r.n⟩ := by
  obtain ⟨a, i, n, k, l, hd, wd, kids⟩ := u
  rw [Reads] at h
  obtain ⟨⟨h1, h2, h3, -, -⟩, -⟩ := h
  simp [GUnit.id, h1, h2, h3]
theorem noteI_at {ks : List (Int × ByteArray)} {s : ByteArray} (h : 0 ≤ noteI ks s) : ∃ j : Nat, noteI ks s = (j : Int) ∧ j < ks.length := by
  rcases idxI_range (isNote s) ks 0 with h1 | ⟨j, h1, h2, -⟩
  · unfold noteI at h; omega
  · exact ⟨j, by unfold noteI; rw [h1]; omega, h2⟩

set_option maxRecDepth 100000 in
set_option maxHeartbeats 1600000 in
theorem noted_any (u : GUnit) (r : RUnit) (s : ByteArray) (w : World) (hr : Reads w u r) (hln : u.kids.length ≤ 9223372036854775807) :
    Calls Tryd.prog 44 #[.agg r.cells.toArray, .string s] w (RetNoted u s w) := by
  have hru := hr
  obtain ⟨a, i, n, kd, lb, hd, wd, kids⟩ := u
  rw [Reads] at hr
  obtain ⟨-, -, -, hkn, hkc, rs, hrs, hall⟩ := hr
  have hks := hall.keys
  have hrl := ReadsAll.length hall
  have hx0 : Ext w (((w.alloc (.cells r.cells.toArray 27)).alloc (.cells #[.string s] 9)).alloc (.cells unit0.cells.toArray 27)) := (((Ext.refl w).alloc _).alloc _).alloc _
  have hsz1 : ((w.alloc (.cells r.cells.toArray 27))).heap.size = w.heap.size + 1 := by simp
  have hsz2 : ((w.alloc (.cells r.cells.toArray 27)).alloc (.cells #[.string s] 9)).heap.size = w.heap.size + 2 := by simp
  have hbx := fun w' (he : Ext (((w.alloc (.cells r.cells.toArray 27)).alloc (.cells #[.string s] 9)).alloc (.cells unit0.cells.toArray 27)) w') => (boxUnit r (w := w) ((((Ext.refl _).alloc _).alloc _).trans he)).2.2.2.2.2.2.2.2
  have hst := fun w' (he : Ext (((w.alloc (.cells r.cells.toArray 27)).alloc (.cells #[.string s] 9)).alloc (.cells unit0.cells.toArray 27)) w') => by
    have h1 := heap_alloc_new (w.alloc (.cells r.cells.toArray 27)) (.cells #[.string s] 9)
    rw [hsz1] at h1
    have h2 := (((Ext.refl ((w.alloc (.cells r.cells.toArray 27)).alloc (.cells #[.string s] 9))).alloc (.cells unit0.cells.toArray 27)).trans he).block (k := w.heap.size + 1) (by rw [hsz2]; omega)
    have h3 : w'.heap[w.heap.size + 1]? = some (.cells #[.string s] 9 (0, 0)) := h2.trans h1
    show w'.cell? ⟨w.heap.size + 1, 0, none⟩ = some (.string s)
    simp [World.cell?, h3]
  have hrz := fun w' (he : Ext (((w.alloc (.cells r.cells.toArray 27)).alloc (.cells #[.string s] 9)).alloc (.cells unit0.cells.toArray 27)) w') => by
    have h1 := heap_alloc_new ((w.alloc (.cells r.cells.toArray 27)).alloc (.cells #[.string s] 9)) (.cells unit0.cells.toArray 27)
    rw [hsz2] at h1
    have h2 := he.block (k := w.heap.size + 2) (by simp)
    have h3 : w'.heap[w.heap.size + 2]? = some (.cells unit0.cells.toArray 27 (0, 0)) := h2.trans h1
    exact h3
  have hsz3 : (((w.alloc (.cells r.cells.toArray 27)).alloc (.cells #[.string s] 9)).alloc (.cells unit0.cells.toArray 27)).heap.size = w.heap.size + 3 := by simp
  obtain ⟨wz, hwz⟩ : ∃ wz, (((w.alloc (.cells r.cells.toArray 27)).alloc (.cells #[.string s] 9)).alloc (.cells unit0.cells.toArray 27)) = wz := ⟨_, rfl⟩
  rw [hwz] at hx0 hbx hst hrz hsz3
  obtain ⟨ra, ri, rn, rk, rl, hdA, hn, hc, wA, wn, wc, kA, kn, kc⟩ := r
  dsimp only at hkn hkc hrs hall hbx
  simp only [GUnit.kids] at hln
  simp only [RUnit.cells, unit0] at hwz
  rw [← hrl] at hkn
  subst hkn
  have hix := indexNoted_any kA kc rs s (w.heap.size + 1) wz (hrs.ext hx0) (by omega) (hst wz (Ext.refl _)) (by omega)
  rw [hks] at hix
  have hid : ∀ j : Nat, ∀ h : j < rs.length, (kids.map GUnit.id)[j]? = some ⟨rs[j].a, rs[j].i, rs[j].n⟩ := fun j h => by
    have hj : j < kids.length := by omega
    rw [List.getElem?_map, List.getElem?_eq_getElem hj, Option.map_some, Reads.id (ReadsAll.get hall j hj h)]
  have hkl : (kids.map keyU).length = rs.length := by simp [hrl]
  have hkeys : (GUnit.mk a i n kd lb hd wd kids).keys = kids.map keyU := rfl
  have hkids : (GUnit.mk a i n kd lb hd wd kids).kids = kids := rfl
  have hret : ∀ (q : RUnit) (b : Bool) w', b = decide (0 ≤ noteI (kids.map keyU) s) → Ext w w' → (0 ≤ noteI (kids.map keyU) s → (kids.map GUnit.id)[(noteI (kids.map keyU) s).toNat]? = some ⟨q.a, q.i, q.n⟩) → RetNoted (GUnit.mk a i n kd lb hd wd kids) s w (.returned (.tuple #[.agg q.cells.toArray, .bool b])) w' := fun q b w' h1 h2 h3 => ⟨q, by rw [h1]; rfl, h2, h3⟩
  have hat := @noteI_at (kids.map keyU) s
  obtain ⟨J, hJ⟩ : ∃ J, noteI (kids.map keyU) s = J := ⟨_, rfl⟩
  rw [hJ] at hix hret hat
  have Hix := Lib.hid hix
  have Hwz := Lib.hid hwz
  have Hrz := Lib.hid hrz
  have Hbx := Lib.hid hbx
  have Hret := Lib.hid hret
  have Hid2 := Lib.hid hid
  have Hsz3 := Lib.hid hsz3
  have hcell := hbx wz (Ext.refl _)
  clear hks hrl hru hall hsz1 hsz2 hsz3 hst hbx hrz hwz hix hid hret hJ hkeys hkids
  simp only [RUnit.cells] at *
  by_cases h0 : J < 0
  · have d1 : decide (J < 0) = true := decide_eq_true h0
    have d2 : decide (0 ≤ J) = false := decide_eq_false (by omega)
    go_enter Tryd.func44, Tryd.ntmps44
    go_wp2_with fail
    rw [Hwz.out]
    refine (Hix.out).mono ?_
    rintro e w2 ⟨rfl, hx2⟩
    have hres2 := Hrz.out _ hx2
    go_wp2_with (refine wpList_put rfl 27 (.tmp 4) (.tmp 13) rfl (w.heap.size + 2) 0 (.agg unit0.cells.toArray) rfl rfl unit0.cells rfl Tryd.sizeOf27 (unitEl.h1 unit0) 27 _ hres2 (by simp [RUnit.cells]) ?_; intro w3 hw3 hos3 htp3 hou3 hs3 hbk3)
    have hfin : w3.heap[w.heap.size + 2]? = some (.cells unit0.cells.toArray 27 (0, 0)) := by
      rw [hbk3]
      simp [RUnit.cells]
    (try simp only [Exit.inBlock, Exit.then])
    refine bodyPost_ret (results_cell2 rfl _ _ (w.heap.size + 2) _ rfl hfin) rfl ?_
    exact Hret.out unit0 false w3 (by simp; omega) ((hx0.trans hx2).put (by omega) hw3 hos3 htp3 hou3 hs3) (fun h => by omega)
  · obtain ⟨j, rfl, hjl⟩ := hat (by omega)
    rw [hkl] at hjl
    have d1 : decide ((j : Int) < 0) = false := decide_eq_false (by omega)
    have hidj := Lib.hid (Hid2.out j hjl)
    go_enter Tryd.func44, Tryd.ntmps44
    go_wp2_with fail
    rw [Hwz.out]
    refine (Hix.out).mono ?_
    rintro e w2 ⟨rfl, hx2⟩
    have hcell2 := Hbx.out _ hx2
    have hres2 := Hrz.out _ hx2
    obtain ⟨b, off, rfl, hb, u0, u1, u2, u3, u4, u5, u6, u7⟩ := unitAt ((hrs.ext hx0).ext hx2) hjl
    have d3 : ((j : Int) < (rs.length : Int)) := by omega
    obtain ⟨q, hq⟩ : ∃ q, rs[j] = q := ⟨_, rfl⟩
    rw [hq] at u0 u1 u2 u3 u4 u5 u6 u7 hidj
    clear hq
    go_wp2_with (refine wpList_put rfl 27 (.tmp 4) (.tmp 18) rfl (w.heap.size + 2) 0 (.agg q.cells.toArray) rfl (by simp only [RUnit.cells]; rfl) q.cells rfl Tryd.sizeOf27 (unitEl.h1 q) 27 _ hres2 (by simp [RUnit.cells]) ?_; intro w3 hw3 hos3 htp3 hou3 hs3 hbk3)
    have hfin : w3.heap[w.heap.size + 2]? = some (.cells q.cells.toArray 27 (0, 0)) := by
      rw [hbk3]
      simp [RUnit.cells]
    (try simp only [Exit.inBlock, Exit.then])
    refine bodyPost_ret (results_cell2 rfl _ _ (w.heap.size + 2) _ rfl hfin) rfl ?_
    exact Hret.out q true w3 (by simp) ((hx0.trans hx2).put (by omega) hw3 hos3 htp3 hou3 hs3) (fun _ => by simpa using hidj.out)

end Go.Proofs.YtiacmahfjcolaaaDoor
