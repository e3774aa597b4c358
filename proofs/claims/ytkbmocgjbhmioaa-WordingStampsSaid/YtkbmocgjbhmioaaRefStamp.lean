/- The reference's stamp: IDs and marks in document order, built in new memory. -/
import Derived.Test.YtkbmocgjbhmioaaTreeLaws
namespace Go.Proofs.Ytkbmocgjbhmioaa
open Go.RowKit

mutual
def cntF : GUnit → Nat
  | .mk _ _ _ _ _ _ _ kids => 1 + cntL kids
def cntL : List GUnit → Nat
  | [] => 0
  | u :: us => cntF u + cntL us
end
mutual
/-- the stamped tree, the next number of a unit, the next number of a word -/
def stampF (act item : Int) : GUnit → Int → Int → GUnit × Int × Int
  | .mk _ _ _ k l hl wl kids, n, m =>
    let r := stampL act item kids (n + 1) (m + hl.length + wl.length)
    (.mk act item n k l (markF act item m (hl.map GWord.t)) (markF act item (m + hl.length) (wl.map GWord.t)) r.1, r.2.1, r.2.2)
def stampL (act item : Int) : List GUnit → Int → Int → List GUnit × Int × Int
  | [], n, m => ([], n, m)
  | u :: us, n, m =>
    let x := stampF act item u n m
    let r := stampL act item us x.2.1 x.2.2
    (x.1 :: r.1, r.2.1, r.2.2)
end
mutual
theorem stampF_bounds (act item : Int) : ∀ (u : GUnit) (n m : Int), AllU (lensLe 300 60) u → (stampF act item u n m).2.1 = n + cntF u ∧ m ≤ (stampF act item u n m).2.2 ∧ (stampF act item u n m).2.2 ≤ m + 600 * cntF u
  | .mk a i c k l hl wl kids, n, m, h => by
    rw [AllU] at h
    obtain ⟨⟨h1, h2, h3⟩, h4⟩ := h
    have := stampL_bounds act item kids (n + 1) (m + hl.length + wl.length) h4
    rw [stampF, cntF]
    simp only
    omega
theorem stampL_bounds (act item : Int) : ∀ (us : List GUnit) (n m : Int), AllUs (lensLe 300 60) us → (stampL act item us n m).2.1 = n + cntL us ∧ m ≤ (stampL act item us n m).2.2 ∧ (stampL act item us n m).2.2 ≤ m + 600 * cntL us
  | [], n, m, _ => by rw [stampL, cntL]; simp
  | u :: us, n, m, h => by
    rw [AllUs] at h
    have h1 := stampF_bounds act item u n m h.1
    have h2 := stampL_bounds act item us (stampF act item u n m).2.1 (stampF act item u n m).2.2 h.2
    rw [stampL, cntL]
    simp only
    omega
end
theorem cntL_drop {kids : List GUnit} {k : Nat} (hk : k < kids.length) : cntL (kids.drop k) = cntF kids[k] + cntL (kids.drop (k + 1)) := by
  rw [List.drop_eq_getElem_cons hk, cntL]

theorem results_cell3 {fn : Func} {t u v : Tmp} (h : fn.results = #[.cell t 41, .tmp u, .tmp v]) (tmps : Array Value) (w : World) (b : Nat) (r : RUnit) (hp : tmps.getD t undef = .pointer (some ⟨b, 0, none⟩)) (hc : w.heap[b]? = some (.cells r.cells.toArray 41 (0, 0))) :
    (results fn tmps).run Try.prog w = .ok (.tuple #[.agg r.cells.toArray, tmps.getD u undef, tmps.getD v undef]) w := by
  have hl := run_loadCells_list (P := Try.prog) w ⟨b, 0, none⟩ r.cells (fun j u hu => by
    have hadd : (⟨b, 0, none⟩ : Addr).add j = ⟨b, j, none⟩ := by unfold Addr.add; split <;> simp_all
    rw [hadd]
    simp only [World.cell?, hc]
    simpa using hu)
  have hp' : tmps[t]?.getD undef = .pointer (some ⟨b, 0, none⟩) := by simpa using hp
  have hn : ∀ w, (sizeOf 41).run Try.prog w = .ok r.cells.length w := Try.sizeOf41
  simp [results, h, hp', asAddr, loadVar, Try.isAgg41, hn, hl]

def RefStampAt (act item : Int) (N : Nat) : Prop := ∀ (u : GUnit) (r : RUnit) (n0 m0 : Int) (w : World), SizeOf.sizeOf u ≤ N → Reads w u r → AllU (lensLe 300 60) u → 0 ≤ n0 → n0 + cntF u ≤ 1000000 → 0 ≤ m0 → m0 + 600 * cntF u ≤ 1000000000 →
    Calls Try.prog 47 #[.agg r.cells.toArray, .int .i64 act, .int .i64 item, .int .i64 n0, .int .i64 m0] w fun e w' =>
      ∃ r' : RUnit, e = .returned (.tuple #[.agg r'.cells.toArray, .int .i64 (stampF act item u n0 m0).2.1, .int .i64 (stampF act item u n0 m0).2.2]) ∧ Ext w w' ∧ Reads (mask (fresh w.heap.size) w') (stampF act item u n0 m0).1 r'

set_option maxRecDepth 100000 in
set_option maxHeartbeats 3200000 in
theorem refStamp_step (act item : Int) (N : Nat) (ih : RefStampAt act item N) : RefStampAt act item (N + 1) := by
    intro u0 r n0 m0 w hN hr hA hn0 hn1 hm0 hm1
    obtain ⟨a, i, n, kd, lb, hl, wl, kids⟩ := u0
    rw [Reads] at hr
    rw [AllU] at hA
    rw [cntF] at hn1 hm1
    obtain ⟨⟨hl1, hl2, hl3⟩, hA⟩ := hA
    obtain ⟨⟨-, -, -, hkd, hlb⟩, ⟨hhn, hhc, hhs⟩, ⟨hwn, hwc, hws⟩, hkn, hkc, us, hus, hall⟩ := hr
    have hbx := fun w' he => boxT (w' := w') r (w := w) he
    obtain ⟨ra, ri, rn, rk, rl, hdA, hn, hc, wA, wn, wc, kA, kn, kc⟩ := r
    dsimp only at hkn hkc hus hall hkd hlb hhn hhc hhs hwn hwc hws
    simp only [RUnit.cells] at hbx ⊢
    subst hkn hlb hhn hwn hkd
    have hul := (ReadsAll.length hall).symm
    have Hall := Lib.hid hall
    have HA := Lib.hid hA
    have HN := Lib.hid hN
    have Hul := Lib.hid hul
    clear hall hA hul hN
    obtain ⟨R, hR⟩ : ∃ R, stampF act item (.mk a i n rk rl hl wl kids) n0 m0 = R := ⟨_, rfl⟩
    rw [hR]
    rw [stampF] at hR
    have HR := Lib.hid hR
    clear hR
    go_enter Try.func47, Try.ntmps47
    go_wp2_with fail
    obtain ⟨ws, hwz⟩ : ∃ ws, (w.alloc (.cells #[.int .i64 ra, .int .i64 ri, .int .i64 rn, .int .i64 rk, .string rl, .slice hdA hl.length hc, .slice wA wl.length wc, .slice kA kids.length kc] 41)).alloc (.cells #[.int .i64 0, .int .i64 0, .int .i64 0, .int .i64 0, .string ⟨#[]⟩, .slice none 0 0, .slice none 0 0, .slice none 0 0] 41) = ws := ⟨_, rfl⟩
    have he1 : Ext w ws := by rw [← hwz]; exact ((Ext.refl w).alloc _).alloc _
    have hsz : ws.heap.size = w.heap.size + 2 := by rw [← hwz]; simp
    have hres : ws.heap[w.heap.size + 1]? = some (.cells unit0.cells.toArray 41 (0, 0)) := by
      rw [← hwz]
      have e := heap_alloc_new (w.alloc (.cells #[.int .i64 ra, .int .i64 ri, .int .i64 rn, .int .i64 rk, .string rl, .slice hdA hl.length hc, .slice wA wl.length wc, .slice kA kids.length kc] 41)) (.cells unit0.cells.toArray 41)
      rw [show (w.alloc (.cells #[.int .i64 ra, .int .i64 ri, .int .i64 rn, .int .i64 rk, .string rl, .slice hdA hl.length hc, .slice wA wl.length wc, .slice kA kids.length kc] 41)).heap.size = w.heap.size + 1 from by simp] at e
      exact e
    have hbb : ∀ w', Ext ws w' → (TCells [.int .i64 ra, .int .i64 ri, .int .i64 rn, .int .i64 rk, .string rl, .slice hdA hl.length hc, .slice wA wl.length wc, .slice kA kids.length kc]).p (.pointer (some ⟨w.heap.size, 0, none⟩)) w' := fun w' he => hbx w' (((Ext.refl _).alloc _).trans (hwz ▸ he))
    have Hbx := Lib.hid hbb
    clear hbx hbb
    rw [hwz]
    clear hwz
    obtain ⟨wb, hwb⟩ : ∃ wb, ws.alloc (.cells #[.int .i64 act, .int .i64 item, .int .i64 n0, .int .i64 rk, .string rl, .slice none 0 0, .slice none 0 0, .slice none 0 0] 41) = wb := ⟨_, rfl⟩
    have heb : Ext ws wb := by rw [← hwb]; exact (Ext.refl ws).alloc _
    have hsb : wb.heap.size = ws.heap.size + 1 := by rw [← hwb]; simp
    have hout : wb.heap[w.heap.size + 2]? = some (.cells #[.int .i64 act, .int .i64 item, .int .i64 n0, .int .i64 rk, .string rl, .slice none 0 0, .slice none 0 0, .slice none 0 0] 41 (0, 0)) := by
      rw [← hwb, ← hsz]
      exact heap_alloc_new _ _
    rw [hwb]
    clear hwb
    obtain ⟨bo, hboe⟩ : ∃ bo, bo = w.heap.size + 2 := ⟨_, rfl⟩
    rw [← hboe] at hout ⊢
    have hbo1 : w.heap.size + 2 ≤ bo := by omega
    have hbo2 : bo ≤ w.heap.size + 2 := by omega
    have hbo3 : ws.heap.size ≤ bo := by omega
    have hbo4 : bo < wb.heap.size := by omega
    have hss1 : w.heap.size + 2 ≤ ws.heap.size := by omega
    have hss2 : ws.heap.size ≤ w.heap.size + 2 := by omega
    have Hres := Lib.hid hres
    clear hboe hsb hsz hres
    -- the head
    have hxs0 := he1.trans heb
    refine (texts_any _ _ _ _ (hhs.ext hxs0) (by omega)).mono ?_
    rintro e w1 ⟨v1, rfl, hown1, hext1⟩
    obtain ⟨a1, b1, rfl, hb1, hs1⟩ := hown1.form
    have hml : (hl.map GWord.t).length = hl.length := List.length_map _
    obtain ⟨TH, hTH⟩ : ∃ TH, hl.map GWord.t = TH := ⟨_, rfl⟩
    rw [hTH] at hs1 hb1 hml ⊢
    have HTH := Lib.hid hTH
    have Hml := Lib.hid hml
    clear hTH hml hown1
    go_wp2_with fail
    refine (refMark_any a1 b1 TH act item m0 _ hs1 (by rw [Hml.out]; omega) (by omega) (by omega)).mono ?_
    rintro e w2 ⟨v2, rfl, hown2, hext2⟩
    have hx2 : Ext wb w2 := hext1.trans hext2
    have hO2 := hown2.mono (base' := wb.heap.size) hext1.size
    obtain ⟨A1, c1, rfl, hc1, -⟩ := hown2.form
    have hout2 := (hx2.block hbo4).trans hout
    have hml2 : (markF act item m0 TH).length = hl.length := (markF_length _ _ _ _).trans Hml.out
    obtain ⟨MH, hMH⟩ : ∃ MH, markF act item m0 TH = MH := ⟨_, rfl⟩
    rw [hMH] at hO2 hml2 hc1 ⊢
    have HMH := Lib.hid hMH
    have Hml2 := Lib.hid hml2
    clear hMH hml2 hown2 hs1 hb1
    go_wp2_with (first | (refine wpList_fld rfl 41 3 (.tmp 13) rfl _ Try.underlying41 _ rfl 1 Try.sizeOf22 (by decide) bo 0 rfl ?_) | (refine wpList_put rfl 22 (.tmp 32) (.tmp 31) rfl bo 5 (.slice A1 MH.length c1) rfl rfl [.slice A1 MH.length c1] rfl Try.sizeOf22 (by simp [Value.oneCell']) 41 _ hout2 (by simp) ?_; intro w3 hw3 hos3 htp3 hou3 hs3 hbk3; have hx3 : Ext ws w3 := (heb.trans hx2).put hbo3 hw3 hos3 htp3 hou3 hs3; have t5 := TCells.cell (Hbx.out w3 hx3) 5 _ rfl; have t6 := TCells.cell (Hbx.out w3 hx3) 6 _ rfl; rw [Nat.zero_add] at t5 t6))
    have hO3 : Own wordEl wb.heap.size w3 (.slice A1 MH.length c1) MH := hO2.keep fun k hk => hw3 k (by have := (hO2.lt k hk).1; omega)
    have hsz3 : wb.heap.size ≤ w3.heap.size := by rw [hs3]; exact hx2.size
    clear hO2 hw3 hos3 htp3 hou3 hx2 hext1 hext2 hout hout2 t5
    -- the words
    refine (texts_any _ _ _ _ (hws.ext (he1.trans hx3)) (by omega)).mono ?_
    rintro e w4 ⟨v1, rfl, hown1, hext1⟩
    obtain ⟨a2, b2, rfl, hb2, hs2⟩ := hown1.form
    have hml : (wl.map GWord.t).length = wl.length := List.length_map _
    obtain ⟨TW, hTW⟩ : ∃ TW, wl.map GWord.t = TW := ⟨_, rfl⟩
    rw [hTW] at hs2 hb2 hml ⊢
    have HTW := Lib.hid hTW
    have Hmw := Lib.hid hml
    clear hTW hml hown1 t6
    have t6 := TCells.cell (Hbx.out w4 (hx3.trans hext1)) 6 _ rfl
    rw [Nat.zero_add] at t6
    go_wp2_with fail
    refine (refMark_any a2 b2 TW act item (m0 + hl.length) _ hs2 (by rw [Hmw.out]; omega) (by omega) (by omega)).mono ?_
    rintro e w5 ⟨v2, rfl, hown2, hext2⟩
    have hx5 : Ext w3 w5 := hext1.trans hext2
    have hO4 := hown2.mono (base' := wb.heap.size) (Nat.le_trans hsz3 hext1.size)
    have hO5 := hO3.ext hx5
    obtain ⟨A2, c2, rfl, hc2, -⟩ := hown2.form
    have hout5 := (hx5.block (by omega)).trans hbk3
    have hml3 : (markF act item (m0 + hl.length) TW).length = wl.length := (markF_length _ _ _ _).trans Hmw.out
    obtain ⟨MW, hMW⟩ : ∃ MW, markF act item (m0 + hl.length) TW = MW := ⟨_, rfl⟩
    rw [hMW] at hO4 hml3 hc2 ⊢
    have HMW := Lib.hid hMW
    have Hml3 := Lib.hid hml3
    have hx5s := hx3.trans hx5
    clear hMW hml3 hown2 hs2 hb2 hO3 hbk3
    go_wp2_with (first | (refine wpList_fld rfl 41 4 (.tmp 13) rfl _ Try.underlying41 _ rfl 1 Try.sizeOf22 (by decide) bo 0 rfl ?_) | (refine wpList_put rfl 22 (.tmp 45) (.tmp 44) rfl bo 6 (.slice A2 MW.length c2) rfl rfl [.slice A2 MW.length c2] rfl Try.sizeOf22 (by simp [Value.oneCell']) 41 _ hout5 (by simp) ?_; intro w6 hw6 hos6 htp6 hou6 hs6 hbk6; have hx6 : Ext ws w6 := hx5s.put hbo3 hw6 hos6 htp6 hou6 hs6; have t7 := TCells.cell (Hbx.out w6 hx6) 6 _ rfl; rw [Nat.zero_add] at t7))
    have hO6 : Own wordEl wb.heap.size w6 (.slice A1 MH.length c1) MH := hO5.keep fun k hk => hw6 k (by have := (hO5.lt k hk).1; omega)
    have hO7 : Own wordEl wb.heap.size w6 (.slice A2 MW.length c2) MW := hO4.keep fun k hk => hw6 k (by have := (hO4.lt k hk).1; omega)
    have hsz6 : wb.heap.size ≤ w6.heap.size := by have := hx5.size; omega
    have hbk : w6.heap[bo]? = some (.cells (RUnit.cells ⟨act, item, n0, rk, rl, A1, MH.length, c1, A2, MW.length, c2, none, ([] : List RUnit).length, 0⟩).toArray 41 (0, 0)) := by simpa [RUnit.cells] using hbk6
    obtain ⟨_, _, hv1, -, hsl1⟩ := hO6.formFresh
    cases hv1
    obtain ⟨_, _, hv2, -, hsl2⟩ := hO7.formFresh
    cases hv2
    obtain ⟨p, hp⟩ : ∃ p, p = fresh wb.heap.size := ⟨_, rfl⟩
    rw [← hp] at hsl1 hsl2
    have Hp1 := Lib.hid (show ∀ k, k < wb.heap.size → p k = true from fun k hk => by rw [hp]; simp [fresh, hk])
    have Hp3 := Lib.hid (show ∀ k, p k = true → k < w6.heap.size from fun k hk => by rw [hp] at hk; simp only [fresh, decide_eq_true_eq] at hk; omega)
    obtain ⟨m2, hm2⟩ : ∃ m2, m0 + (hl.length : Int) + (wl.length : Int) = m2 := ⟨_, rfl⟩
    have hm2a : 0 ≤ m2 := by omega
    have hm2b : m2 + 600 * (cntL kids : Int) ≤ 1000000000 := by omega
    have hn2 : n0 + 1 + (cntL kids : Int) ≤ 1000000 := by omega
    obtain ⟨RK, hRK⟩ : ∃ RK, stampL act item kids (n0 + 1) m2 = RK := ⟨_, rfl⟩
    have hR := HR.out
    rw [hm2, hRK, HTH.out, HTW.out, HMH.out, HMW.out] at hR
    have HR' := Lib.hid hR
    have HRK := Lib.hid hRK
    clear HR hR hRK hp hO4 hO5 hO6 hO7 hw6 hos6 htp6 hou6 hs6 hbk6 hout5 hx5 hx5s hext1 hext2 hx3 hs3 t6 t7 hsz3
    clear w1 w2 w3 w4 w5
    rw [hm2]
    clear hm2
    go_loopw [3, 4, 14] (fun nv mv i wr => ∃ (k : Nat) (nk mk : Int) (done : List GUnit) (rs : List RUnit) (oA : Option Addr) (oc : Nat) (p : Nat → Bool), k ≤ kids.length ∧ nv = .int .i64 nk ∧ mv = .int .i64 mk ∧ i = .int .i64 k ∧ 0 ≤ nk ∧ 0 ≤ mk ∧ nk + cntL (kids.drop k) ≤ 1000000 ∧ mk + 600 * cntL (kids.drop k) ≤ 1000000000 ∧
      Hid ((done ++ (stampL act item (kids.drop k) nk mk).1, (stampL act item (kids.drop k) nk mk).2.1, (stampL act item (kids.drop k) nk mk).2.2) = RK) ∧ wr.heap[bo]? = some (.cells (RUnit.cells ⟨act, item, n0, rk, rl, A1, MH.length, c1, A2, MW.length, c2, oA, rs.length, oc⟩).toArray 41 (0, 0)) ∧ Own unitEl wb.heap.size wr (.slice oA rs.length oc) rs ∧
      Hid (∀ j, j < wb.heap.size → p j = true) ∧ Hid (∀ j, p j = true → j < wr.heap.size) ∧ Hid (∀ g, (Value.slice oA rs.length oc).ownBlock = some g → p g = true ∧ g ≠ bo) ∧ Sl wordEl (mask p wr) A1 MH ∧ Sl wordEl (mask p wr) A2 MW ∧
      Hid (ReadsAll (mask p wr) done rs) ∧ Hid (done.length = k) ∧ Ext ws wr ∧ wb.heap.size ≤ wr.heap.size) (fun _ _ i _ => kids.length - (intOf i).toNat)
    case atStart => exact ⟨0, n0 + 1, m2, [], [], none, 0, p, Nat.zero_le _, rfl, rfl, rfl, by omega, hm2a, hn2, hm2b, by unfold Hid; rw [List.drop_zero, List.nil_append, HRK.out], hbk, Own.nil _, Hp1, Hp3, Lib.hid (fun g hg => by cases hg), hsl1, hsl2, Lib.hid (by rw [ReadsAll]; trivial), Lib.hid rfl, hx6, hsz6⟩
    case round =>
      obtain ⟨k, nk, mk, done, rs, oA, oc, p, hk, rfl, rfl, rfl, hnk, hmk, hnk2, hmk2, HS, hbk, hown, Hp1, Hp3, Hpo, hs1, hs2, Hrs, Hdl, hext, hszr⟩ := hrel
      have hcell := TCells.cell (Hbx.out wr hext) 7 _ rfl
      rw [Nat.zero_add] at hcell
      have hbor : bo < wr.heap.size := by omega
      have Hrl := Lib.hid ((ReadsAll.length Hrs.out).trans Hdl.out)
      have hnr : w.heap.size < wr.heap.size := by omega
      by_cases hlt : k < kids.length
      · have d1 : decide ((k : Int) < (kids.length : Int)) = true := decide_eq_true (by omega)
        have hltr : k < us.length := by rw [← Hul.out]; exact hlt
        obtain ⟨q, hqk⟩ : ∃ q, us[k] = q := ⟨_, rfl⟩
        have hsub : SizeOf.sizeOf kids[k] ≤ N := by
          have a1 := List.sizeOf_lt_of_mem (List.getElem_mem hlt)
          have a2 := HN.out
          simp at a2
          omega
        have hAk := HA.out.get k hlt
        have hck := cntL_drop hlt
        have hbd := stampF_bounds act item kids[k] nk mk hAk
        have hSk := HS.out
        rw [List.drop_eq_getElem_cons hlt, stampL] at hSk
        have Hrec := Lib.hid (show ∀ wq, Ext wr wq → _ from fun wq he => ih kids[k] q nk mk wq hsub (Reads.ext ((he1.trans hext).trans he) _ _ (hqk ▸ ReadsAll.get Hall.out k hlt hltr)) hAk hnk (by omega) hmk (by omega))
        obtain ⟨X, hX⟩ : ∃ X, stampF act item kids[k] nk mk = X := ⟨_, rfl⟩
        rw [hX] at Hrec hbd hSk
        obtain ⟨n1, hn1e⟩ : ∃ n1, X.2.1 = n1 := ⟨_, rfl⟩
        obtain ⟨m1, hm1e⟩ : ∃ m1, X.2.2 = m1 := ⟨_, rfl⟩
        obtain ⟨u', hu'⟩ : ∃ u', X.1 = u' := ⟨_, rfl⟩
        rw [hn1e, hm1e, hu'] at hSk Hrec
        rw [hn1e, hm1e] at hbd
        obtain ⟨hbd1, hbd2, hbd3⟩ := hbd
        have hn1b : n1 + cntL (kids.drop (k + 1)) ≤ 1000000 := by omega
        have hm1b : m1 + 600 * cntL (kids.drop (k + 1)) ≤ 1000000000 := by omega
        have hn1c : 0 ≤ n1 := by omega
        have hm1c : 0 ≤ m1 := by omega
        have HSk := Lib.hid hSk
        have Hb1 := Lib.hid hn1b
        have Hb2 := Lib.hid hm1b
        have Hb3 := Lib.hid hn1c
        have Hb4 := Lib.hid hm1c
        have hd0 := hlt
        clear hSk hX hn1e hm1e hu' hsub hAk hck hbd1 hnk2 hmk2 HS hn1b hm1b hn1c hm1c hbd2 hbd3 hnk hmk hn0 hn1 hm0 hm1 hm2a hm2b hn2 hd0 hl1 hl2 hhc hwc hkc hc1 hc2
        have husr := (hus.ext he1).ext hext
        have Hqk := Lib.hid hqk
        clear hqk
        go_wp2_with (refine wpList_put rfl 41 (.tmp 15) (.tmp 60) rfl wr.heap.size 0 (.agg #[.int .i64 0, .int .i64 0, .int .i64 0, .int .i64 0, .string ⟨#[]⟩, .slice none 0 0, .slice none 0 0, .slice none 0 0]) rfl rfl [.int .i64 0, .int .i64 0, .int .i64 0, .int .i64 0, .string ⟨#[]⟩, .slice none 0 0, .slice none 0 0, .slice none 0 0] rfl Try.sizeOf41 (by simp [Value.oneCell']) 41 _ (heap_alloc_new wr _) (by simp [unit0, RUnit.cells]) ?_; intro w1 hw1 hos1 htp1 hou1 hs1' hbk1; have hx1 : Ext wr w1 := ((Ext.refl wr).alloc _).put (Nat.le_refl _) hw1 hos1 htp1 hou1 hs1'; have hcell1 := TCells.cell (Hbx.out w1 (hext.trans hx1)) 7 _ rfl; rw [Nat.zero_add] at hcell1; obtain ⟨b, off, hkA, hb, u0, u1, u2, u3, u4, u5, u6, u7⟩ := unitAt (husr.ext hx1) hltr; subst hkA; rw [Hqk.out] at u0 u1 u2 u3 u4 u5 u6 u7)
        refine (Hrec.out w1 hx1).mono ?_
        rintro e w2 ⟨r', rfl, hext2, hrd⟩
        have hw1s : wr.heap.size < w1.heap.size := by rw [hs1']; simp
        have hbk2 := (hext2.block hw1s).trans hbk1
        clear hbk1 hw1 hos1 htp1 hou1 hs1' hcell hcell1 u0 u1 u2 u3 u4 u5 u6 u7
        go_wp2_with (first | (refine wpList_put rfl 41 (.tmp 15) (.tmp 72) rfl wr.heap.size 0 (.agg r'.cells.toArray) rfl rfl r'.cells rfl Try.sizeOf41 (unitEl.h1 r') 41 _ hbk2 (by simp [RUnit.cells]) ?_; intro w3 hw3 hos3 htp3 hou3 hs3' hbk3; have hx3 : Ext wr w3 := (hx1.trans hext2).put (Nat.le_refl _) hw3 hos3 htp3 hou3 hs3'; have Hs3 := Lib.hid hs3'; clear hs3'; have hbk4 := (hx3.block hbor).trans hbk; have f7 := (unitBlock hbk4).2.2.2.2.2.2.2; dsimp only at f7; have hbk3' : w3.heap[wr.heap.size]? = some (.cells r'.cells.toArray 41 (0, 0)) := (by rw [hbk3]; simp [RUnit.cells]); obtain ⟨g0, g1, g2, g3, g4, g5, g6, g7⟩ := unitBlock hbk3') |
          (at_builtin; (refine wpList_appAt unitEl rfl (.tmp 76) (.tmp 78) rfl 1 rfl (hown.ext (hx3.alloc _)) (ys := [r']) rfl (Sl.new unitEl rfl) (by rw [Hrl.out]; simp; omega) (by have := hx3.size; simp; omega) ?_); intro v' w5 hown5 hg5 hloc; obtain ⟨A', c', rfl, -, -⟩ := hown5.form) |
          (refine wpList_fld rfl 41 5 (.tmp 13) rfl _ Try.underlying41 _ rfl 1 Try.sizeOf39 (by decide) bo 0 rfl ?_) |
          (refine wpList_put rfl 39 (.tmp 80) (.tmp 79) rfl bo 7 (.slice A' (rs ++ [r']).length c') rfl rfl [.slice A' (rs ++ [r']).length c'] rfl Try.sizeOf39 (by simp [Value.oneCell']) 41 _ ((hg5.block bo (by have := hx3.size; simp; omega) (fun h => (Hpo.out bo h.symm).2 rfl)).trans (((hx3.alloc _).block hbor).trans hbk)) (by simp [RUnit.cells]) ?_; intro w7 hw7 hos7 htp7 hou7 hs7 hbk7))
        obtain ⟨p', hp'1, hp'2, hp'3, hci1, hci2, hown7, hbel⟩ := Own.step (B := ws.heap.size) (hx3.alloc _) hown (Hp1.out bo hbo4) Hp3.out Hpo.out hg5 hloc hown5 hw7 hos7 htp7 hou7 hs7 hbo3 heb.size hext.size
        have hbk7' : w7.heap[bo]? = some (.cells (RUnit.cells ⟨act, item, n0, rk, rl, A1, MH.length, c1, A2, MW.length, c2, A', (rs ++ [r']).length, c'⟩).toArray 41 (0, 0)) := by
          rw [hbk7]
          simp [RUnit.cells]
        have hci3 : CIn (mask (fresh w1.heap.size) w2) (mask (fresh wr.heap.size) (w3.alloc (.cells r'.cells.toArray 41))) := CIn.keep (by have := Hs3.out; simp; omega) fun j hj hpj => by
          have := Hs3.out
          simp only [fresh, decide_eq_false_iff_not, Nat.not_lt] at hpj
          refine ⟨(heap_alloc_old w3 _ (by omega)).trans (hw3 j (by omega)), by simp [fresh]; omega⟩
        have hadd := ReadsAll.snoc (ReadsAll.cin hci1 _ _ Hrs.out) (Reads.cin hci2 _ _ (Reads.cin hci3 _ _ hrd))
        have Hadd := Lib.hid hadd
        have Hp1' := Lib.hid (fun j (hj : j < wb.heap.size) => hp'1 j (Hp1.out j hj))
        have Hp3' := Lib.hid hp'2
        have Hp4' := Lib.hid hp'3
        have hszf : wb.heap.size ≤ w7.heap.size := by have := hbel.size; omega
        clear hadd hp'1 hp'2 hp'3 hbk7 hw7 hloc hg5 g0 g1 g2 g3 g4 g5 g6 g7 f7 hbk3 hbk3' hbk4 hw3
        go_wp2
        go_roundw
        case rel => exact ⟨k + 1, n1, m1, done ++ [u'], rs ++ [r'], A', c', p', by omega, by go_num, by go_num, by go_num, Hb3.out, Hb4.out, Hb1.out, Hb2.out, by unfold Hid; rw [List.append_assoc]; exact HSk.out, hbk7', hown7, Hp1', Hp3', Hp4', hs1.cin hci1, hs2.cin hci1, Hadd, Lib.hid (by rw [List.length_append, Hdl.out]; rfl), hext.trans' hbel, hszf⟩
        case measure => simp [intOf]; omega
      · have d1 : decide ((k : Int) < (kids.length : Int)) = false := decide_eq_false (by omega)
        have hSk := HS.out
        rw [List.drop_eq_nil_of_le (by omega), stampL, List.append_nil] at hSk
        have hR := HR'.out
        rw [← hSk] at hR
        have HSk := Lib.hid hR
        obtain ⟨f0, f1, f2, f3, f4, f5, f6, f7⟩ := unitBlock hbk
        have hresr : wr.heap[w.heap.size + 1]? = some (.cells unit0.cells.toArray 41 (0, 0)) := (hext.block (by omega)).trans Hres.out
        clear hSk hR HS
        dsimp only at f0 f1 f2 f3 f4 f5 f6 f7
        go_wp2_with (refine wpList_put rfl 41 (.tmp 10) (.tmp 81) rfl (w.heap.size + 1) 0 (.agg (RUnit.cells ⟨act, item, n0, rk, rl, A1, MH.length, c1, A2, MW.length, c2, oA, rs.length, oc⟩).toArray) rfl rfl (RUnit.cells ⟨act, item, n0, rk, rl, A1, MH.length, c1, A2, MW.length, c2, oA, rs.length, oc⟩) rfl Try.sizeOf41 (by simp [RUnit.cells, Value.oneCell']) 41 _ hresr (by simp [unit0, RUnit.cells]) ?_; intro w3 hw3 hos3 htp3 hou3 hs3 hbk3)
        have hfin : w3.heap[w.heap.size + 1]? = some (.cells (RUnit.cells ⟨act, item, n0, rk, rl, A1, MH.length, c1, A2, MW.length, c2, oA, rs.length, oc⟩).toArray 41 (0, 0)) := by
          rw [hbk3]
          simp [RUnit.cells, unit0]
        have hew : Ext w wr := he1.trans hext
        have hbz := heb.size
        have hci : CIn (mask p wr) (mask (fresh w.heap.size) w3) := CIn.keep (by omega) fun k hk hpk => by
          have hnk : ¬ k < wb.heap.size := fun h => by rw [Hp1.out k h] at hpk; cases hpk
          exact ⟨hw3 k (by omega), by simp [fresh]; omega⟩
        have hown3 : Own unitEl wb.heap.size w3 (.slice oA rs.length oc) rs := hown.keep fun g hg => hw3 g (by have := (hown.lt g hg).1; omega)
        obtain ⟨_, _, hv3, hoc, -, hsl3⟩ := hown3.formMask (p := fresh w.heap.size) (fun g hg _ => by simp [fresh]; omega)
        cases hv3
        have hkl3 : rs.length = done.length := ReadsAll.length Hrs.out
        go_wp2
        (try simp only [Exit.inBlock, Exit.then])
        refine bodyPost_ret (results_cell3 rfl _ _ (w.heap.size + 1) _ rfl hfin) rfl ?_
        have hRe := HSk.out
        subst hRe
        refine ⟨_, rfl, ⟨hos3.trans hew.os, htp3.trans hew.tape, hou3.trans hew.output, by rw [hs3]; exact hew.size, fun k hk => (hw3 k (by omega)).trans (hew.block hk)⟩, ?_⟩
        simp only
        rw [Reads]
        exact ⟨⟨rfl, rfl, rfl, rfl, rfl⟩, ⟨rfl, hc1, hs1.cin hci⟩, ⟨rfl, hc2, hs2.cin hci⟩, hkl3, by rw [← hkl3]; exact hoc, rs, hsl3, ReadsAll.cin hci _ _ Hrs.out⟩

theorem refStamp_rec (act item : Int) : ∀ N, RefStampAt act item N
  | 0 => fun u _ _ _ _ h => by obtain ⟨a, i, n, kd, lb, hl, wl, kids⟩ := u; simp at h
  | N + 1 => refStamp_step act item N (refStamp_rec act item N)

end Go.Proofs.Ytkbmocgjbhmioaa
