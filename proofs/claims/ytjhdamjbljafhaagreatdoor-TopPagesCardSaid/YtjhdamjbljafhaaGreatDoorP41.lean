/- paginate.own: the lines of a unit with the footnote lines that they call. How many words the lines of a tree have. -/
import Derived.Test.YtjhdamjbljafhaaGreatDoorP40
namespace Go.Proofs.YtjhdamjbljafhaaGreatDoor
open Go.RowKit
def uw (u : GUnit) : Nat := 2 + u.head.length + u.words.length
def calledN (u : GUnit) (l : List GUnit) : Nat := (l.map fun k => if 0 ≤ calledF u k then uw k else 0).sum
def ownN (u : GUnit) : Nat := uw u + calledN u u.kids
theorem calledN_perm {u : GUnit} {l k : List GUnit} (h : l.Perm k) : calledN u l = calledN u k := (h.map _).sum_nat
theorem calledN_take {u : GUnit} {M : List (RUnit × GUnit)} {k : Nat} (hk : k < M.length) : calledN u ((M.take (k + 1)).map Prod.snd) = calledN u ((M.take k).map Prod.snd) + if 0 ≤ calledF u M[k].2 then uw M[k].2 else 0 := by
  rw [List.take_succ_eq_append_getElem hk]
  simp only [calledN, List.map_append, List.map_cons, List.map_nil, List.sum_append, List.sum_cons, List.sum_nil, Nat.add_zero]
theorem nests_kid {p k : Int} (h : nestsB p k = true) : k ≠ 0 := by
  rintro rfl
  unfold nestsB at h
  split at h
  · simp at h
  · split at h
    · simp at h
    · split at h
      · simp at h
      · split at h
        · simp at h
        · split at h
          · simp at h
          · cases h
theorem CIn.heap {w w' : World} (h : ∀ k, k < w.heap.size → w'.heap[k]? = w.heap[k]?) (hs : w.heap.size ≤ w'.heap.size) : CIn w w' :=
  (CIn.ext (w := w) (w' := { w' with os := w.os, tape := w.tape, output := w.output }) ⟨rfl, rfl, rfl, hs, fun k hk => h k hk⟩ (p := fun _ => false) |> fun _ => ⟨hs, fun p c hc => by
    have hb := World.block_lt_of_cell? w p hc
    unfold World.cell? at hc ⊢
    rw [h p.block hb]
    exact hc⟩)
def NoteO (w : World) (x : GLn) : Prop := Own strEl 0 w (nV x) x.2 ∧ x.1.nn = x.2.length
def RetLines (w : World) (W : Int) (N : Nat) (e : Ending) (w' : World) : Prop := ∃ A c, ∃ xs : List GLn, e = .returned (.slice A xs.length c) ∧ xs.length ≤ c ∧ Sl lineEl w' A (xs.map Prod.fst) ∧ (∀ x ∈ xs, NoteO w' x) ∧ (∀ x ∈ xs, LnOk W x) ∧ wsum xs = N ∧ Ext w w'
def mkL (a i n : Int) (s : ByteArray) : RLine := ⟨s, a, i, n, false, none, 0, 0⟩
set_option maxRecDepth 100000 in
set_option maxHeartbeats 6400000 in
theorem own_any (u : GUnit) (r : RUnit) (W : Int) (w : World) (hr : Reads w u r) (hok : OkU u) (hT : Tabs w) (hv : AllU ValidP u) (hk : u.kind ≠ 0) (h1 : 24 ≤ W) (h2 : W ≤ 200) : Calls Tryz.prog 34 #[.agg r.cells.toArray, .int .i64 W] w (RetLines w W (ownN u)) := by
  obtain ⟨-, -, -, hhn, hhc, hhs, -, -, -, hkn, hkc, rs, hrs, hall, hrl⟩ := hr.flds
  have hL := lines_ok hok hv.head.1 hk h1 h2
  have o2 := hok.all.head.2.1
  have o4 := hok.all.head.2.2.2.1
  have Hkid := Lib.hid (fun x (hx : x ∈ u.kids) => (⟨hok.kid hx, hv.kids.mem x hx, nests_kid (hv.head.2 x hx)⟩ : OkU x ∧ AllU ValidP x ∧ x.kind ≠ 0))
  have HkL := Lib.hid (fun x (hx : x ∈ u.kids) => lines_ok (hok.kid hx) (hv.kids.mem x hx).head.1 (nests_kid (hv.head.2 x hx)) h1 h2)
  have Hbr := Lib.hid (fun wq (he : Ext w wq) => broken_any u r W wq (Reads.ext he u r hr) hok (hT.ext he) hL.wrong hL.len2)
  have Hcal := Lib.hid (fun x rx wq (he : Ext w wq) (hx : Reads wq x rx) => called_any u x r rx wq (Reads.ext he u r hr) hx hok)
  have Hbk := Lib.hid (fun x (hx : x ∈ u.kids) rx wq (he : Ext w wq) (hrx : Reads wq x rx) => broken_any x rx W wq hrx (hok.kid hx) (hT.ext he) (lines_ok (hok.kid hx) (hv.kids.mem x hx).head.1 (nests_kid (hv.head.2 x hx)) h1 h2).wrong (lines_ok (hok.kid hx) (hv.kids.mem x hx).head.1 (nests_kid (hv.head.2 x hx)) h1 h2).len2)
  have Hzip := Lib.hid (fun (p : RUnit × GUnit) (hp : p ∈ rs.zip u.kids) wq (he : Ext w wq) => Reads.ext he p.2 p.1 (ReadsAll.zip hall p hp))
  have Hru := Lib.hid (fun (base : Nat) (wq : World) (hb : w.heap.size ≤ base) (hE : Ext w wq) w' (h3 : ∀ k, k < base → w'.heap[k]? = wq.heap[k]?) (h4 : wq.heap.size ≤ w'.heap.size) =>
    (have hc : CIn w w' := CIn.heap (fun k hk => (h3 k (by omega)).trans (hE.block hk)) (Nat.le_trans hE.size h4)
     ⟨Reads.cin hc u r hr, ReadsAll.cin hc _ _ hall⟩ : Reads w' u r ∧ ReadsAll w' u.kids rs))
  have Hok := Lib.hid hok
  have o3 := Hok.out.all.head.2.2.1
  have hT1 := hL.each
  have hT2 := hL.sum
  have hT3 := hL.len
  have hT4 := hL.len2
  have hT5 := hL.ends
  unfold ownN
  have hun : uw u = 2 + u.head.length + u.words.length := rfl
  obtain ⟨T, hTl⟩ : ∃ T, linesU u W = T := ⟨_, rfl⟩
  obtain ⟨E, hEl⟩ : ∃ E, endsU u W = E := ⟨_, rfl⟩
  rw [hTl] at Hbr hT1 hT2 hT3
  rw [hEl] at Hbr hT3 hT4 hT5
  rw [rowF_len] at hT5
  rw [← hun] at hT2
  have hT6 : 1 ≤ T.length := by
    rcases Nat.eq_zero_or_pos T.length with h | h
    · have : T = [] := List.eq_nil_of_length_eq_zero h
      subst this
      simp at hT2
      omega
    · omega
  have Hn := Lib.hid hT3
  have hb := BoxU.new r w
  have hx0 : Ext w (w.alloc (.cells r.cells.toArray 27)) := (Ext.refl w).alloc _
  obtain ⟨hdl, hhd⟩ : ∃ hdl, u.head.length = hdl := ⟨_, rfl⟩
  rw [hhd] at hhn o2 hT5 hun
  have Hcl := Lib.hid (fun x => calledF_lt u x)
  have Hcg := Lib.hid (fun x => calledF_ge u x)
  have Hends := Lib.hid (fun (X : Int) (hX : X < u.words.length) (h0 : -2 - (hdl : Int) ≤ X) => idxEnd_some (at_ := X + (2 + (hdl : Int))) hT5 (by push_cast; omega) (by omega))
  obtain ⟨uwn, huw⟩ : ∃ n, uw u = n := ⟨_, rfl⟩
  rw [huw] at hT2 hun ⊢
  have huwb : uwn ≤ 602 := by omega
  obtain ⟨ra, ri, rn, rk, rl, hdA, hn, hc, wA, wn, wc, kA, kn, kc⟩ := r
  dsimp only at hkn hkc hrs hhn hhc hhs
  rw [← hrl] at hkn hkc o4
  subst hkn hhn
  simp only [RUnit.cells] at hb hx0 Hbr Hcal ⊢
  obtain ⟨wb, hwb⟩ : ∃ wb, w.alloc (.cells #[.int .i64 ra, .int .i64 ri, .int .i64 rn, .int .i64 rk, .string rl, .slice hdA hn hc, .slice wA wn wc, .slice kA rs.length kc] 27) = wb := ⟨_, rfl⟩
  rw [hwb] at hb hx0
  have Hwb := Lib.hid hwb
  have Hbx := Lib.hid hb
  have Hx0 := Lib.hid hx0
  have Hkids := Lib.hid (hrs.ext hx0)
  have Hb1 := Lib.hid (Hbr.out wb hx0)
  have hw1 : w.heap.size + 1 = wb.heap.size := by rw [← hwb]; simp
  have HT1 := Lib.hid hT1
  have HT2 := Lib.hid hT2
  have Hrl := Lib.hid hrl
  clear hT1 hT2 hT5 hTl hEl hL hwb hb hx0 hrs hall hhs hkc hhc Hbr hr hok hT hv hk hhd huw hun hrl
  go_enter Tryz.func34, Tryz.ntmps34
  go_wp2_with fail
  rw [Hwb.out]
  refine (Hb1.out).mono ?_
  rintro e w1 ⟨v1, v2, rfl, hown1, hown2, hx1⟩
  obtain ⟨A1, c1, rfl, hc1, -⟩ := hown1.form
  obtain ⟨A2, c2, rfl, hc2, -⟩ := hown2.form
  have Ho1 := Lib.hid hown1
  have Ho2 := Lib.hid hown2
  have Hx1 := Lib.hid hx1
  clear hown1 hown2 hx1 Hb1
  go_wp2_with fail
  go_loopw [7, 25] (fun vo vk wr => ∃ (k : Nat) (xs : List RLine), k ≤ T.length ∧ vk = .int .i64 (k : Nat) ∧ Hid (xs = (T.take k).map (mkL ra ri rn)) ∧ Own lineEl wb.heap.size wr vo xs ∧ Hid (Own strEl wb.heap.size wr (.slice A1 T.length c1) T) ∧ Hid (Own intEl wb.heap.size wr (.slice A2 E.length c2) E) ∧ Ext wb wr) (fun _ vk _ => T.length - (intOf vk).toNat)
  case atStart => exact ⟨0, [], Nat.zero_le _, rfl, Lib.hid rfl, Own.nil _, Ho1, Ho2, Hx1.out⟩
  case round =>
    obtain ⟨k, xs, hk, rfl, Hxs, hown, HO1, HO2, hext⟩ := hrel
    have hsz := hext.size
    have hxl : xs.length = k := by rw [Hxs.out]; simp; omega
    have hsl1 : Sl strEl wr A1 T := by
      obtain ⟨A', c', hv, -, hs⟩ := HO1.out.form
      cases hv
      exact hs
    obtain ⟨hb0, d0, d1', d2, d3, d4, d5, d6, d7⟩ := Hbx.out.ext hext
    dsimp only at d0 d1' d2 d3 d4 d5 d6 d7
    by_cases hlt : k < T.length
    · obtain ⟨b, off, hAe, hbl, u0⟩ := strAt hsl1 hlt
      obtain ⟨s, hs⟩ : ∃ s, T[k] = s := ⟨_, rfl⟩
      have Hstep := Lib.hid (show xs ++ [mkL ra ri rn s] = (T.take (k + 1)).map (mkL ra ri rn) by rw [Hxs.out, List.take_succ_eq_append_getElem hlt, hs]; simp)
      rw [hs] at u0
      subst hAe
      have e1 : decide ((k : Int) < (T.length : Int)) = true := decide_eq_true (by omega)
      have hxa : Ext wr (wr.alloc (.cells #[.string s, .int .i64 ra, .int .i64 ri, .int .i64 rn, .bool false, .slice none 0 0] 54)) := (Ext.refl wr).alloc _
      have Hown := Lib.hid (hown.ext hxa)
      have Hext := Lib.hid (hext.trans hxa)
      have HO1' := Lib.hid (HO1.out.ext hxa)
      have HO2' := Lib.hid (HO2.out.ext hxa)
      clear hs hext hown hxa hsl1
      go_wp2_with (at_builtin; refine wpList_app lineEl rfl (.tmp 29) (.tmp 34) rfl 1 rfl Hown.out (ys := [mkL ra ri rn s]) rfl (Sl.new' lineEl (by simp) (by simp [El.flat, lineEl, RLine.cells, mkL])) (by simp; omega) (by simp; omega) ?_; intro v' w2 hown2 hext2 hg2; have HP1 := Lib.hid (HO1'.out.other Hown.out (by decide) hg2); have HP2 := Lib.hid (HO2'.out.other Hown.out (by decide) hg2); clear hg2)
      go_roundw
      case rel => exact ⟨k + 1, xs ++ [mkL ra ri rn s], by omega, by go_num, Hstep, hown2, HP1, HP2, Hext.out.trans' hext2⟩
      case measure => simp [intOf]; omega
    · have e1 : decide ((k : Int) < (T.length : Int)) = false := decide_eq_false (by omega)
      obtain rfl : k = T.length := by omega
      have Hxs2 := Lib.hid (show xs = T.map (mkL ra ri rn) by rw [Hxs.out, List.take_length])
      have Hclone := Lib.hid (cloneU_any kA kc rs wr (Hkids.out.ext hext) (by omega))
      have Hown := Lib.hid hown
      have Hext := Lib.hid hext
      obtain ⟨go, co, hvo, hgo1, hgo2, -⟩ := hown.head (by intro h; rw [h] at hxl; simp at hxl; omega)
      rw [hxl] at hvo
      subst hvo
      have hgo0 := hxl
      clear hsl1 hown hext Hxs
      go_wp2_with fail
      refine (Hclone.out).mono ?_
      rintro e w3 ⟨v3, rfl, hown3, hx3⟩
      obtain ⟨Ak, ck, rfl, hck, -⟩ := hown3.form
      have hxw3 : Ext wb w3 := Hext.out.trans hx3
      have Hsort := Lib.hid (sortK_any u ⟨ra, ri, rn, rk, rl, hdA, hn, hc, wA, wn, wc, kA, rs.length, kc⟩ w.heap.size wb.heap.size rs Ak ck w3 Hok.out (hown3.mono (by omega)) Hrl.out o4 (Hbx.out.ext hxw3) (by omega) (Hru.out wb.heap.size w3 (by omega) (Hx0.out.trans hxw3)) hxw3.size)
      have Hown3 := Lib.hid hown3
      have HO3 := Lib.hid (Hown.out.ext hx3)
      have HO4 := Lib.hid (HO2.out.ext hx3)
      have Hxw3 := Lib.hid hxw3
      have hsz3 := hx3.size
      clear hown3 hx3 hxw3 d0 d1' d2 d3 d4 d5 d6 d7 Hclone
      go_wp2_with fail
      refine (Hsort.out).mono ?_
      rintro e w5 ⟨rfl, M, hMl, hMp, hMz, hMo, hos5, htp5, hou5, hsz5, hkeep⟩
      have hgk : ∀ g, (Value.slice Ak rs.length ck).ownBlock = some g → wr.heap.size ≤ g := fun g hg => (Hown3.out.bd hg).1
      have hx5 : Ext wb w5 := ⟨hos5.trans Hxw3.out.os, htp5.trans Hxw3.out.tape, hou5.trans Hxw3.out.output, Nat.le_trans Hxw3.out.size hsz5, fun k hk => (hkeep k (by have := Hxw3.out.size; omega) (fun e => by have := hgk k e; omega)).trans (Hxw3.out.block hk)⟩
      have ho5 := HO3.out.keep (w' := w5) (fun k hk => hkeep k (block_lt (HO3.out.bd hk).2.choose_spec) (Own.differ Hown3.out HO3.out (by decide) hk))
      have he5 := HO4.out.keep (w' := w5) (fun k hk => hkeep k (block_lt (HO4.out.bd hk).2.choose_spec) (Own.differ Hown3.out HO4.out (by decide) hk))
      rw [hxl] at hgo0
      have HS0 : OSt wb wb.heap.size Ak ck M A2 c2 E go co (T.map fun s => (mkL ra ri rn s, [])) w5 := by
        have e1 : (T.map fun s => ((mkL ra ri rn s, []) : GLn)).map Prod.fst = T.map (mkL ra ri rn) := by simp [List.map_map, Function.comp_def]
        refine ⟨hx5, Nat.le_refl _, hMo, fun g hg => by have := hgk g (by rw [← hMl]; exact hg); omega, he5, ?_, fun x hx => ?_, fun i j hi hj _ g hg => ?_⟩
        · rw [e1, ← Hxs2.out, hxl]
          exact ho5
        · obtain ⟨s, -, rfl⟩ := List.mem_map.1 hx
          exact ⟨Own.nil _, rfl⟩
        · simp [nV, mkL, Value.ownBlock] at hg
      have HS0' := Lib.hid HS0
      have HL0 := Lib.hid (show ∀ x ∈ T.map (fun s => ((mkL ra ri rn s, []) : GLn)), LnOk W x from fun x hx => by
        obtain ⟨s, hs, rfl⟩ := List.mem_map.1 hx
        exact ⟨HT1.out s hs, by simp⟩)
      have Hs0 := Lib.hid (show wsum (T.map fun s => ((mkL ra ri rn s, []) : GLn)) = uwn from by
        rw [← HT2.out]
        simp [wsum, List.map_map, Function.comp_def, lW, mkL])
      have HMz := Lib.hid hMz
      have HMp := Lib.hid hMp
      have hMb : M.length ≤ 1000 := by omega
      obtain ⟨m, hm⟩ : ∃ m, T.length = m + 1 := ⟨T.length - 1, by omega⟩
      have Hl0 := Lib.hid (show (T.map fun s => ((mkL ra ri rn s, []) : GLn)).length = m + 1 by simp [hm])
      obtain ⟨xs0, hxs0⟩ : ∃ xs0, (T.map fun s => ((mkL ra ri rn s, []) : GLn)) = xs0 := ⟨_, rfl⟩
      rw [hxs0] at HS0' HL0 Hs0 Hl0
      have hEm : E.length = m + 1 := by rw [← hm]; exact hT3.symm
      rw [hEm, ← hMl]
      clear hxs0 HS0 ho5 he5 hx5 hgk hMz hMp hMo hkeep hos5 htp5 hou5 hsz5 HO3 HO4 HO1 HO2 Hown Hown3 Hxw3 Hsort Hxs2 Hkids hgo1 hgo2 hm hMl Hn hT3 hT6 hxl hsz3 hsz Hext
      go_wp2_with fail
      go_loopw [45] (fun vk wr => ∃ (k : Nat) (xs : List GLn), k ≤ M.length ∧ vk = .int .i64 (k : Nat) ∧ Hid (OSt wb wb.heap.size Ak ck M A2 c2 E go co xs wr) ∧ Hid (xs.length = m + 1) ∧ Hid (∀ x ∈ xs, LnOk W x) ∧ Hid (wsum xs = uwn + calledN u ((M.take k).map Prod.snd)) ∧ Hid (wsum xs ≤ 602 * (k + 1))) (fun vk _ => M.length - (intOf vk).toNat)
      case atStart => exact ⟨0, xs0, Nat.zero_le _, rfl, HS0', Hl0, HL0, Lib.hid (by rw [Hs0.out]; simp [calledN]), Lib.hid (by rw [Hs0.out]; omega)⟩
      case round =>
        clear HS0' Hl0 HL0 Hs0
        obtain ⟨k, xs, hk, rfl, HS, Hxl, HLn, Hsum, Hbd⟩ := hrel
        have hext := HS.out.ext
        obtain ⟨hb0, d0, d1', d2, d3, d4, d5, d6, d7⟩ := Hbx.out.ext hext
        dsimp only at d0 d1' d2 d3 d4 d5 d6 d7
        by_cases hlt : k < M.length
        · have hkr : Own unitEl 0 wr (.slice Ak M.length ck) (M.map Prod.fst) := Own.pairs.1 HS.out.kids
          have hslk : Sl unitEl wr Ak (M.map Prod.fst) := by
            obtain ⟨A', c', hv, -, hs⟩ := hkr.form
            rw [Value.slice.injEq] at hv
            obtain ⟨rfl, -, -⟩ := hv
            exact hs
          obtain ⟨p, hp⟩ : ∃ p, M[k] = p := ⟨_, rfl⟩
          obtain ⟨q, hq⟩ : ∃ q, p.1 = q := ⟨_, rfl⟩
          have hq2 : (M.map Prod.fst)[k]'(by simpa using hlt) = q := by simp [hp, hq]
          obtain ⟨b, off, hAe, hbl, u0, u1, u2, u3, u4, u5, u6, u7⟩ := unitAtK hslk (by simpa using hlt) hq2
          subst hAe
          have hpz : p ∈ rs.zip u.kids := HMz.out p (by rw [← hp]; exact List.getElem_mem hlt)
          have hpk : p.2 ∈ u.kids := (List.of_mem_zip hpz).2
          have hxa : Ext wr (wr.alloc (.cells #[.int .i64 q.a, .int .i64 q.i, .int .i64 q.n, .int .i64 q.kind, .string q.label, .slice q.hA q.hn q.hc, .slice q.wA q.wn q.wc, .slice q.kA q.kn q.kc] 27)) := (Ext.refl wr).alloc _
          have hzq : ∀ wq, Ext w wq → Reads wq p.2 q := fun wq he => by
            rw [← hq]
            exact Hzip.out p hpz wq he
          have hcal := Hcal.out p.2 q _ (Hx0.out.trans (hext.trans hxa)) (hzq _ (Hx0.out.trans (hext.trans hxa)))
          have hqb := BoxU.new q wr
          simp only [RUnit.cells] at hcal hqb
          have Hqb := Lib.hid hqb
          have Hpkd := Lib.hid hpk
          have Hc := Lib.hid hcal
          have Hbrk := Lib.hid (fun wq (he : Ext wr wq) => Hbk.out p.2 hpk q wq (Hx0.out.trans (hext.trans he)) (hzq _ (Hx0.out.trans (hext.trans he))))
          have Hstep := Lib.hid (calledN_take (u := u) hlt)
          have hb1 := Hcl.out p.2
          have hb2 := Hcg.out p.2
          have Hj := Lib.hid (Hends.out (calledF u p.2) hb1 (by omega))
          rw [hp] at Hstep
          obtain ⟨X, hX⟩ : ∃ X, calledF u p.2 = X := ⟨_, rfl⟩
          rw [hX] at Hc Hstep hb1 hb2 Hj
          have e1 : decide ((k : Int) < (M.length : Int)) = true := decide_eq_true (by omega)
          have Hxa := Lib.hid hxa
          have HkLk := Lib.hid (HkL.out p.2 hpk)
          have hbb : wb.heap.size ≤ wr.heap.size := hext.size
          clear hslk hkr hq2 hxa hcal hqb hX hpz hpk hp hext
          go_wp2_with fail
          refine (Hc.out).mono ?_
          rintro e w2 ⟨rfl, hx2⟩
          have Hx2 := Lib.hid (Hxa.out.trans hx2)
          have Hq2 := Lib.hid (Hqb.out.ext hx2)
          have hsz2 := (Hxa.out.trans hx2).size
          clear hx2 u0 u1 u2 u3 u4 u5 u6 u7 d0 d1' d2 d3 d4 d5 d6 d7 hb0
          by_cases hX0 : X < 0
          · have e2 : decide (X < 0) = true := decide_eq_true hX0
            have hmx : m < xs.length := by rw [Hxl.out]; omega
            have hxb : Ext w2 (w2.alloc (.cells #[.int .i64 X] 3)) := (Ext.refl w2).alloc _
            obtain ⟨cur, hcur, hcs, hpat⟩ := (HS.out.grow (Hx2.out.trans hxb)).head m hmx
            have Hpat := Lib.hid hpat
            clear hpat hxb
            go_wp2_with (refine wpList_put rfl 4 (.tmp 59) _ rfl go (m * 6 + 4) (.bool true) rfl rfl [.bool true] rfl Tryz.sizeOf4 (by simp [Value.oneCell']) 54 cur hcur hcs ?_; intro w3 hw3 hos3 htp3 hou3 hs3 hbk3; have HS3 := Lib.hid (Hpat.out w3 hw3 hos3 htp3 hou3 hs3 hbk3); clear hw3 hos3 htp3 hou3 hs3 hbk3)
            go_roundw
            case rel =>
              refine ⟨k + 1, _, by omega, by go_num, HS3, Lib.hid (by rw [List.length_set]; exact Hxl.out), Lib.hid (LnOk.set HLn.out m ?_), Lib.hid ?_, Lib.hid ?_⟩
              · have h7 := HLn.out xs[m] (List.getElem_mem hmx)
                exact ⟨h7.1, h7.2⟩
              · exact (wsum_head xs m hmx).trans (by rw [Hsum.out, Hstep.out, if_neg (by omega)]; rfl)
              · exact Nat.le_trans (Nat.le_of_eq (wsum_head xs m hmx)) (by have := Hbd.out; omega)
            case measure => simp [intOf]; omega
          · have e2 : decide (X < 0) = false := decide_eq_false hX0
            obtain ⟨j, hj1, hj2⟩ := Hj.out
            have Hj1 := Lib.hid hj1
            have hjx : j < xs.length := by rw [Hxl.out, ← hEm]; exact hj2
            have hblk := heap_alloc_new w2 (.cells #[.int .i64 X] 3)
            obtain ⟨hb0, d0, d1', d2, d3, d4, d5, d6, d7⟩ := Hbx.out.ext (HS.out.ext.trans Hx2.out)
            dsimp only at d0 d1' d2 d3 d4 d5 d6 d7
            clear hj1
            go_wp2_with (refine wpList_put rfl 3 (.tmp 13) (.tmp 65) rfl w2.heap.size 0 (.int .i64 (X + (2 + (hn : Int)))) rfl rfl [.int .i64 (X + (2 + (hn : Int)))] rfl Tryz.sizeOf3 (by simp [Value.oneCell']) 3 _ hblk (by simp) ?_; intro w3 hw3 hos3 htp3 hou3 hs3 hbk3; have hx3 : Ext w2 w3 := Ext.put ((Ext.refl w2).alloc _) (Nat.le_refl _) hw3 hos3 htp3 hou3 hs3; have hc3 : w3.cell? ⟨w2.heap.size, 0, none⟩ = some (.int .i64 (X + (2 + (hn : Int)))) := (by simp [World.cell?, hbk3]); have hlt3 := block_lt hbk3; clear hw3 hos3 htp3 hou3 hs3 hbk3 hblk d0 d1' d2 d3 d4 d5 d6 d7 hb0)
            have Hx3 := Lib.hid (Hx2.out.trans hx3)
            have Hidx := Lib.hid (show Calls Tryz.prog 66 #[.slice A2 (m + 1) c2, .func (.func 67) #[] #[.pointer (some ⟨w2.heap.size, 0, none⟩)]] w3 (fun e w' => e = .returned (.int .i64 (j : Int)) ∧ Ext w3 w') from by
              have h := idxEnd_any A2 c2 E (X + (2 + (hn : Int))) w2.heap.size w3 (by
                obtain ⟨A', c', hv, -, hs⟩ := (HS.out.grow (Hx2.out.trans hx3)).ends.form
                rw [Value.slice.injEq] at hv
                obtain ⟨rfl, -, -⟩ := hv
                exact hs) hlt3 hc3 (by omega)
              rw [Hj1.out, hEm] at h
              exact h)
            clear hc3
            refine (Hidx.out).mono ?_
            rintro e w4 ⟨rfl, hx4⟩
            have Hx4 := Lib.hid (Hx3.out.trans hx4)
            have Hbk4 := Lib.hid (Hbrk.out w4 (Hx3.out.trans hx4))
            obtain ⟨hq0, f0, f1, f2, f3, f4, f5, f6, f7⟩ := Hq2.out.ext (hx3.trans hx4)
            simp only [RUnit.cells] at Hbk4
            clear hx4 hx3 Hidx
            go_wp2_with fail
            refine (Hbk4.out).mono ?_
            rintro e w6 ⟨v6, v6', rfl, hown6, -, hx6⟩
            obtain ⟨A6, c6, rfl, -, hsl6⟩ := hown6.form
            have hst6 := HS.out.grow (Hx4.out.trans hx6)
            have Hst6 := Lib.hid hst6
            have hslo : Sl lineEl w6 (some ⟨go, 0, none⟩) (xs.map Prod.fst) := by
              obtain ⟨A', c', hv, -, hs⟩ := hst6.out.form
              rw [Value.slice.injEq] at hv
              obtain ⟨rfl, -, -⟩ := hv
              exact hs
            obtain ⟨_, _, hAe, hbl6, g0, g1, g2, g3, g4, g5⟩ := lineAt hslo (k := j) (by simpa using hjx)
            cases hAe
            have hnj := (hst6.notes _ (List.getElem_mem hjx)).1
            have HlW := Lib.hid (Nat.le_trans (sum_len xs[j].2 (fun s hs => ((HLn.out _ (List.getElem_mem hjx)).2 s hs).2)) (Nat.le_trans (Nat.le_add_left _ (nF xs[j].1.t)) (wsum_mem xs _ (List.getElem_mem hjx))))
            obtain ⟨y, hy⟩ : ∃ y, xs[j] = y := ⟨_, rfl⟩
            rw [List.getElem_map, hy, Nat.zero_add] at g5
            rw [hy] at hnj HlW
            unfold nV at hnj
            have HLk := Lib.hid HkLk.out.len
            have HLk2 := Lib.hid HkLk.out.len2
            have Hnj := Lib.hid hnj
            have Hsl6 := Lib.hid hsl6
            have hsz6 := (Hx4.out.trans hx6).size
            obtain ⟨ts, hts⟩ : ∃ ts, linesU p.2 W = ts := ⟨_, rfl⟩
            rw [hts] at Hsl6 HLk hown6 ⊢
            have Hts := Lib.hid hts
            have Hy := Lib.hid hy
            have hl6 : y.2.length + ts.length ≤ 68719476736 := by
              have := HlW.out
              have := Hbd.out
              have := HLk.out
              have := HLk2.out
              omega
            have hbase6 : wb.heap.size ≤ w6.heap.size := by omega
            obtain ⟨Z, hZ⟩ : ∃ Z, y.2 ++ ts = Z := ⟨_, rfl⟩
            have HN := Lib.hid (fun v' w2 => Hst6.out.note j hjx ts v' w2 hbase6)
            rw [hy, hZ] at HN
            have HZ := Lib.hid hZ
            clear hy hts hnj hsl6 hown6 hslo hst6 hZ g0 g1 g2 g3 g4 f0 f1 f2 f3 f4 f5 f6 f7 hx6
            go_wp2_with (first | (at_builtin; refine wpList_appAt strEl rfl (.tmp 81) (.tmp 82) rfl c6 rfl Hnj.out rfl Hsl6.out hl6 hbase6 ?_; intro v7 w7 hown7 hg7 hloc7; rw [HZ.out] at hown7; obtain ⟨A7, c7', hv7, cur, hcur, hcs, hpat⟩ := HN.out v7 w7 hown7 hg7 hloc7; subst hv7; have Hpat := Lib.hid hpat; clear hpat hown7 hg7 hloc7) |
              (refine wpList_put rfl 34 (.tmp 85) (.tmp 83) rfl go (j * 6 + 5) (.slice A7 Z.length c7') rfl rfl [.slice A7 Z.length c7'] rfl Tryz.sizeOf34 (by simp [Value.oneCell']) 54 cur hcur hcs ?_; intro w8 hw8 hos8 htp8 hou8 hs8 hbk8; have HS8 := Lib.hid (Hpat.out w8 hw8 hos8 htp8 hou8 hs8 hbk8); clear hw8 hos8 htp8 hou8 hs8 hbk8))
            go_roundw
            case rel =>
              have hz := HZ.out
              have hyy := Hy.out
              have h7 := HLn.out xs[j] (List.getElem_mem hjx)
              have h8 := HkLk.out
              have h9 := wsum_set xs j hjx ({ y.1 with nA := A7, nn := Z.length, nc := c7' }, Z)
              have h10 : lW ({ y.1 with nA := A7, nn := Z.length, nc := c7' }, Z) = lW y + uw p.2 := by
                have e3 : uw p.2 = (ts.map nF).sum := by rw [← Hts.out]; exact h8.sum.symm
                rw [e3, ← hz]
                simp only [lW, List.map_append, List.sum_append]
                omega
              have h11 : uw p.2 ≤ 602 := by
                have h12 := (Hkid.out p.2 Hpkd.out).1.all.head
                have := h12.2.1
                have := h12.2.2.1
                unfold uw
                omega
              rw [hyy, h10] at h9
              rw [hyy] at h7
              refine ⟨k + 1, _, by omega, by go_num, HS8, Lib.hid (by rw [List.length_set]; exact Hxl.out), Lib.hid (LnOk.set HLn.out j ?_), Lib.hid (Eq.trans (show wsum (xs.set j ({ y.1 with nA := A7, nn := Z.length, nc := c7' }, Z)) = wsum xs + uw p.2 by omega) ?_), Lib.hid (Nat.le_trans (Nat.le_of_eq (show wsum (xs.set j ({ y.1 with nA := A7, nn := Z.length, nc := c7' }, Z)) = wsum xs + uw p.2 by omega)) ?_)⟩
              · refine ⟨h7.1, fun s hs => ?_⟩
                rw [← hz] at hs
                rcases List.mem_append.1 hs with hs | hs
                · exact h7.2 s hs
                · rw [← Hts.out] at hs
                  exact h8.each s hs
              · rw [Hsum.out, Hstep.out, if_pos (by omega)]
                omega
              · have := Hbd.out
                omega
            case measure => simp [intOf]; omega
        · have e1 : decide ((k : Int) < (M.length : Int)) = false := decide_eq_false (by omega)
          have hk2 : k = M.length := by omega
          have Hfin := Lib.hid (show wsum xs = uwn + calledN u u.kids by rw [Hsum.out, hk2, List.take_length, calledN_perm HMp.out])
          have Hout := Lib.hid HS.out.out
          have Hnt := Lib.hid HS.out.notes
          have Hext := Lib.hid hext
          clear hk2 Hsum HS hext
          go_wp2
          go_ret
          have ho := Hout.out
          obtain ⟨A', c', hv, hcc, hs⟩ := ho.form
          rw [Value.slice.injEq] at hv
          obtain ⟨rfl, -, rfl⟩ := hv
          have hl := Hxl.out
          refine ⟨some ⟨go, 0, none⟩, co, xs, by rw [hl]; simp, by simpa using hcc, hs, fun x hx => ?_, HLn.out, Hfin.out, Hx0.out.trans Hext.out⟩
          obtain ⟨h5, h6⟩ := Hnt.out x hx
          exact ⟨h5.mono (Nat.zero_le _), h6⟩
end Go.Proofs.YtjhdamjbljafhaaGreatDoor
namespace Go.Proofs.YtjhdamjbljafhaaGreatDoor
open Go.RowKit
def calledW (wd : List GWord) (k : GUnit) : Int := if k.kind ≠ 7 then -1 else idxI (calls1 k.label) wd 0
mutual

def bodyF (root : Bool) : GUnit → Nat
  | .mk _ _ _ _ _ _ wd kids => bodyL root wd kids
def bodyL (root : Bool) (wd : List GWord) : List GUnit → Nat
  | [] => 0
  | k :: ks => (if root = false ∧ 0 ≤ calledW wd k then 0 else ownN k + bodyF false k) + bodyL root wd ks
end
theorem bodyF_eq (root : Bool) (u : GUnit) : bodyF root u = bodyL root u.words u.kids := by
  cases u
  rw [bodyF]
  rfl
theorem bodyL_take {root : Bool} {wd : List GWord} {l : List GUnit} {k : Nat} (hk : k < l.length) : bodyL root wd (l.take (k + 1)) = bodyL root wd (l.take k) + if root = false ∧ 0 ≤ calledW wd l[k] then 0 else ownN l[k] + bodyF false l[k] := by
  have h : ∀ (a : List GUnit) (x : GUnit), bodyL root wd (a ++ [x]) = bodyL root wd a + if root = false ∧ 0 ≤ calledW wd x then 0 else ownN x + bodyF false x := by
    intro a x
    induction a with
    | nil => simp [bodyL]
    | cons y a ih => rw [List.cons_append, bodyL, ih, bodyL]; omega
  rw [List.take_succ_eq_append_getElem hk, h]
mutual

def totU : GUnit → Nat
  | .mk a i n k l hd wd kids => uw (.mk a i n k l hd wd kids) + totL kids
def totL : List GUnit → Nat
  | [] => 0
  | u :: us => totU u + totL us
end
theorem totU_eq (u : GUnit) : totU u = uw u + totL u.kids := by
  cases u
  rw [totU]
  rfl
theorem calledN_cons (u k : GUnit) (ks : List GUnit) : calledN u (k :: ks) = (if 0 ≤ calledF u k then uw k else 0) + calledN u ks := by simp [calledN]
mutual
theorem body_false : ∀ u : GUnit, AllU ValidP u → bodyF false u + calledN u u.kids = totL u.kids
  | .mk a i n k l hd wd kids, h => by
    rw [AllU] at h
    rw [bodyF]
    exact body_falseL (.mk a i n k l hd wd kids) kids h.2
theorem body_falseL (u : GUnit) : ∀ us : List GUnit, AllUs ValidP us → bodyL false u.words us + calledN u us = totL us
  | [], _ => by rw [bodyL, totL]; rfl
  | k :: ks, h => by
    rw [AllUs] at h
    have h1 := body_false k h.1
    have h2 := body_falseL u ks h.2
    rw [bodyL, calledN_cons, totL, totU_eq]
    have e : calledW u.words k = calledF u k := rfl
    rw [e]
    by_cases hc : 0 ≤ calledF u k
    · rw [if_pos ⟨rfl, hc⟩, if_pos hc]
      have h7 : k.kind = 7 := by
        unfold calledF at hc
        split at hc
        · omega
        · rename_i h7; simpa using h7
      have hk : k.kids = [] := by
        cases hkk : k.kids with
        | nil => rfl
        | cons x xs =>
          have := h.1.head.2 x (by rw [hkk]; exact List.mem_cons_self)
          rw [h7] at this
          simp [nestsB] at this
      rw [hk] at h1 ⊢
      rw [totL]
      omega
    · rw [if_neg (fun h => hc h.2), if_neg hc]
      unfold ownN
      omega
end
theorem body_trueL (wd : List GWord) : ∀ us : List GUnit, AllUs ValidP us → bodyL true wd us = totL us
  | [], _ => by rw [bodyL, totL]
  | k :: ks, h => by
    rw [AllUs] at h
    have h1 := body_false k h.1
    rw [bodyL, totL, totU_eq, body_trueL wd ks h.2, if_neg (fun h => by cases h.1)]
    unfold ownN
    omega
theorem body_true (u : GUnit) (h : AllU ValidP u) : bodyF true u = totL u.kids := by
  rw [bodyF_eq]
  exact body_trueL _ _ h.kids
theorem uw_le {u : GUnit} (h : okP u) : uw u ≤ 602 := by
  have := h.2.1
  have := h.2.2.1
  unfold uw
  omega
mutual
theorem totU_le : ∀ u : GUnit, AllU okP u → totU u ≤ 602 * cntF u
  | .mk a i n k l hd wd kids, h => by
    rw [AllU] at h
    have h1 := uw_le h.1
    have h2 := totL_le kids h.2
    rw [totU, cntF]
    omega
theorem totL_le : ∀ us : List GUnit, AllUs okP us → totL us ≤ 602 * cntL us
  | [], _ => by rw [totL]; omega
  | u :: us, h => by
    rw [AllUs] at h
    have h1 := totU_le u h.1
    have h2 := totL_le us h.2
    rw [totL, cntL]
    omega
end
theorem body_bound {root : Bool} {u : GUnit} (hok : OkU u) (hv : AllU ValidP u) : bodyF root u ≤ 602000 := by
  have h1 : totL u.kids ≤ 602000 := by
    have h2 := totL_le u.kids hok.all.kids
    have h3 := hok.cnt
    rw [cntF_kids] at h3
    omega
  cases root with
  | true => rw [body_true u hv]; exact h1
  | false => have := body_false u hv; omega
end Go.Proofs.YtjhdamjbljafhaaGreatDoor
