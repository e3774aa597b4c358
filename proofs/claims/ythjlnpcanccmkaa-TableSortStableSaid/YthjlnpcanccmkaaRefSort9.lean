/- The reference's Sort: rows are put into their places one by one. -/
import Derived.Test.YthjlnpcanccmkaaSortBy9
import Derived.Test.YthjlnpcanccmkaaRefSet9
namespace Go.Proofs.Ythjlnpcanccmkaa
open Go.RowKit

section
variable {P : Program} {α : Type} (D : El P α) {w : World} {A B : Option Addr} {xs ys : List α} {ρ : Operand → Value} {o : Oper}
/-- an empty row of the call's own, without room -/
def TEmptyO (base : Nat) : Ty := ⟨fun v w => ∃ A, v = .slice A 0 0 ∧ Own D base w v ([] : List α), fun _ _ _ he ⟨A, h1, h2⟩ => ⟨A, h1, h2.ext he⟩⟩
theorem yld_emptyO {base : Nat} (ho : o.op = .buildSlice D.t 0 #[]) (hbase : base ≤ w.heap.size) (hr : ∀ w, (Instr.buildSlice D.t 0 #[]).run P w = .ok (.slice (some ⟨w.heap.size, 0, none⟩) 0 0) (w.alloc (.cells #[] D.e)) := by intro w; first | (go_simp; rfl) | (change (Instr.buildSlice _ _ _).run _ w = _; go_simp; rfl)) : Yld P ρ o w (TEmptyO D base).p := by
  refine yld_run (w' := w.alloc (.cells #[] D.e)) (v := .slice (some ⟨w.heap.size, 0, none⟩) 0 0) ?_ ((Ext.refl _).alloc _) ⟨_, rfl, Own.made' D rfl hbase⟩
  simp [execOp, ho, hr]
theorem yld_appOwnO (s x : Operand) (ho : o.op = .call { callee := .builtin .append, args := #[s, x], argTypes := #[D.t, D.t] }) (c base : Nat) (A : Option Addr) (hs : ρ s = .slice A 0 0) (hown : Own D base w (.slice A 0 0) ([] : List α)) (hx : ρ x = .slice B ys.length c)
    (h2 : Sl D w B ys) (hn : ys.length ≤ 68719476736) (hbase : base ≤ w.heap.size) : Yld P ρ o w (TOwn D base ys).p := by
  have hr := run_appFull D (xs := ([] : List α)) (A := A) o.type c Sl.nil h2 (by simpa using hn)
  unfold Yld execOp
  simp only [ho, resolve, invoke, builtin, Sem.run_bind, Sem.run_pure, Result.andThen_ok, List.map_toArray, List.map_cons, List.map_nil, hs, hx]
  rcases hr with ⟨h0, hr⟩ | ⟨h0, v', w', hr, hown', hext⟩
  · subst h0
    have hr2 : (Builtin.append_ #[D.t, D.t] o.type #[.slice A 0 0, .slice B ([] : List α).length c]).run P w = .ok (.slice A 0 0) w := hr
    simp only [hr2, Result.andThen_ok]
    exact ⟨Ext.refl _, hown⟩
  · have hr2 : (Builtin.append_ #[D.t, D.t] o.type #[.slice A 0 0, .slice B ys.length c]).run P w = .ok v' w' := hr
    simp only [hr2, Result.andThen_ok]
    refine ⟨hext, ?_⟩
    show Own D base w' v' ys
    simpa using hown'.mono hbase
theorem yld_slToO (x hi : Operand) (ho : o.op = .slice D.t x none (some hi) none) (c : Nat) (hx : ρ x = .slice A xs.length c) (h : Nat) (hhi : ρ hi = .int .i64 h)
    (hsl : Sl D w A xs) (h2 : h ≤ xs.length) (h3 : xs.length ≤ c) : Yld P ρ o w (TSl D (xs.take h)).p := by
  have hr := run_slice_any D (w := w) (A := A) (c := c) xs.length 0 h c none (some (.int .i64 h)) none rfl rfl rfl (Nat.zero_le _) (by omega) (Nat.le_refl _) h3
  unfold Yld execOp
  simp only [ho, hx, hhi, Option.map_some, Option.map_none, Sem.run_bind, Sem.run_pure, hr, Result.andThen_ok]
  refine ⟨Ext.refl _, ?_⟩
  have hs := Sl.cut D hsl 0 h (Nat.zero_le _) h2 h3
  simp only [List.drop_zero, Nat.sub_zero] at hs ⊢
  have e : h = (xs.take h).length := by simp; omega
  have e2 : (Value.slice (if c = 0 then A else A.map (·.add (0 * D.m))) h c) = .slice (if c = 0 then A else A.map (·.add (0 * D.m))) (xs.take h).length c := by rw [← e]
  rw [e2]
  exact ⟨_, _, rfl, by rw [← e]; omega, hs⟩
end
theorem yld_onePair {ρ : Operand → Value} {o : Oper} {w : World} {x : RUnit × GUnit} (t : Operand) (ho : o.op = .buildSlice 25 1 #[(0, t)]) (hx : ρ t = .agg x.1.cells.toArray) : Yld Try.prog ρ o w (TSl pairEl [x]).p := by
  have hr : (execOp ρ o).run Try.prog w = .ok (.value (.slice (some ⟨w.heap.size, 0, none⟩) 1 1)) (w.alloc (.cells x.1.cells.toArray 27)) := by
    simp only [execOp, ho, List.map_toArray, List.map_cons, List.map_nil, hx]
    simp only [RUnit.cells]
    go_simp
  refine yld_run hr ((Ext.refl _).alloc _) ⟨_, _, rfl, Nat.le_refl _, ?_⟩
  exact Sl.new pairEl (w := w) (xs := [x]) (by simp [El.flat, pairEl])
theorem ext_grown {P : Program} {α : Type} {D : El P α} {a w w' : World} {base : Nat} {v : Value} {xs : List α} (h : Ext a w) (ho : Own D base w v xs) (hb : a.heap.size ≤ base) (hg : w.grownBy w' v.ownBlock) : Ext a w' :=
  ⟨hg.os.trans h.os, hg.tape.trans h.tape, hg.output.trans h.output, Nat.le_trans h.size hg.size, fun k hk => (hg.block k (Nat.lt_of_lt_of_le hk h.size) fun e => by have := (ho.lt k e.symm).1; omega).trans (h.block hk)⟩
theorem say_row {u : GUnit} {r : RUnit} {w : World} {j : Nat} (hr : Reads w u r) (hS : RowS j u) : ∃ rs c, ∃ wl : List GWord, r.kn = rs.length ∧ rs[j]? = some c ∧ c.wn = wl.length ∧ Sl unitEl w r.kA rs ∧ ∀ w', Ext w w' → Calls Try.prog 37 #[.slice c.wA wl.length c.wc] w' fun e w'' => e = .returned (.string (cellText j u)) ∧ Ext w' w'' := by
  obtain ⟨c, h1, h2, h3⟩ := hS
  unfold cellText
  rw [h1]
  obtain ⟨a, i, n, kd, lb, hd, wd, kids⟩ := u
  rw [Reads] at hr
  obtain ⟨-, -, -, hkn, -, rs, hrs, hall⟩ := hr
  have hl := ReadsAll.length hall
  simp only [GUnit.kids] at h1
  obtain ⟨hj, he⟩ := List.getElem?_eq_some_iff.1 h1
  have hj2 : j < rs.length := by omega
  have hq := ReadsAll.get hall j hj hj2
  rw [he] at hq
  obtain ⟨_, _, _, _, _, _, wl, _⟩ := c
  rw [Reads] at hq
  obtain ⟨-, -, ⟨hwn, -, hws⟩, -⟩ := hq
  exact ⟨rs, rs[j], wl, by omega, List.getElem?_eq_getElem hj2, hwn, hrs, fun w' hx => say_any _ _ wl w' (hws.ext hx) h2 h3⟩

/-- what is sorted so far, and where -/
def RsSt (j : Nat) (pz : List (RUnit × GUnit)) (k base : Nat) (v : Value) (ps : List (RUnit × GUnit)) (w : World) : Prop := Srt (ltC j) ps ∧ SO (ltC j) (pz.take k) ps ∧ Own pairEl base w v ps

set_option maxRecDepth 100000 in
set_option maxHeartbeats 6400000 in
theorem refSort_any (u : GUnit) (r : RUnit) (j : Nat) (w : World) (hr : Reads w u r) (hsm : smallU u) (ht : thereB u 0 (j : Nat) = true) :
    Calls Try.prog 30 #[.agg r.cells.toArray, .int .i64 (j : Nat)] w fun e w' => ∃ r' : RUnit, e = .returned (.agg r'.cells.toArray) ∧ Ext w w' ∧ Reads w' (sortU j u) r' := by
  have hRow := rowS_of hsm.2 ht
  obtain ⟨hvb, -, -, -, -⟩ := there_parts2 ht
  obtain ⟨-, hv2, -, -⟩ := validB_parts hvb
  obtain ⟨ua, ui, un, ukd, ulb, uh, uw, kids⟩ := u
  obtain ⟨ra, ri, rn, rk, rl, hdA, hn, hc, wA, wn, wc, kA, kn, kc⟩ := r
  simp only [GUnit.kids] at hv2 hRow
  rw [Reads] at hr
  obtain ⟨hsc, hhd, hwd, hkn, hkc, rs, hrs, hall⟩ := hr
  dsimp only at hsc hhd hwd hkn hkc hrs
  have hrl := ReadsAll.length hall
  obtain rfl : kn = rs.length := by omega
  have hx0 : Ext w ((w.alloc (.cells (RUnit.cells ⟨ra, ri, rn, rk, rl, hdA, hn, hc, wA, wn, wc, kA, rs.length, kc⟩).toArray 27)).alloc (.cells unit0.cells.toArray 27)) := ((Ext.refl w).alloc _).alloc _
  have hbx : ((w.alloc (.cells (RUnit.cells ⟨ra, ri, rn, rk, rl, hdA, hn, hc, wA, wn, wc, kA, rs.length, kc⟩).toArray 27)).alloc (.cells unit0.cells.toArray 27)).heap[w.heap.size]? = some (.cells (RUnit.cells ⟨ra, ri, rn, rk, rl, hdA, hn, hc, wA, wn, wc, kA, rs.length, kc⟩).toArray 27 (0, 0)) := by
    have e := ((Ext.refl (w.alloc (.cells (RUnit.cells ⟨ra, ri, rn, rk, rl, hdA, hn, hc, wA, wn, wc, kA, rs.length, kc⟩).toArray 27))).alloc (.cells unit0.cells.toArray 27)).block (k := w.heap.size) (by simp)
    exact e.trans (heap_alloc_new w _)
  have hres : ((w.alloc (.cells (RUnit.cells ⟨ra, ri, rn, rk, rl, hdA, hn, hc, wA, wn, wc, kA, rs.length, kc⟩).toArray 27)).alloc (.cells unit0.cells.toArray 27)).heap[w.heap.size + 1]? = some (.cells unit0.cells.toArray 27 (0, 0)) := by
    have e := heap_alloc_new (w.alloc (.cells (RUnit.cells ⟨ra, ri, rn, rk, rl, hdA, hn, hc, wA, wn, wc, kA, rs.length, kc⟩).toArray 27)) (.cells unit0.cells.toArray 27)
    rw [show (w.alloc (.cells (RUnit.cells ⟨ra, ri, rn, rk, rl, hdA, hn, hc, wA, wn, wc, kA, rs.length, kc⟩).toArray 27)).heap.size = w.heap.size + 1 from by simp] at e
    exact e
  have hsz : ((w.alloc (.cells (RUnit.cells ⟨ra, ri, rn, rk, rl, hdA, hn, hc, wA, wn, wc, kA, rs.length, kc⟩).toArray 27)).alloc (.cells unit0.cells.toArray 27)).heap.size = w.heap.size + 2 := by simp
  obtain ⟨wz, hwz⟩ : ∃ wz, ((w.alloc (.cells (RUnit.cells ⟨ra, ri, rn, rk, rl, hdA, hn, hc, wA, wn, wc, kA, rs.length, kc⟩).toArray 27)).alloc (.cells unit0.cells.toArray 27)) = wz := ⟨_, rfl⟩
  rw [hwz] at hx0 hbx hres hsz
  have hz1 : w.heap.size + 2 ≤ wz.heap.size := by omega
  have Hbx := Lib.hid hbx
  have Hres := Lib.hid hres
  have Hbu := Lib.hid (show ∀ w', Ext wz w' → w'.cell? ⟨w.heap.size, 7, none⟩ = some (.slice kA rs.length kc) from fun w' he => (unitBlock ((he.block (k := w.heap.size) (by omega)).trans hbx)).2.2.2.2.2.2.2)
  have Hbt0 := Lib.hid (show ∀ w', Ext wz w' → (TCells [.int .i64 ra, .int .i64 ri, .int .i64 rn, .int .i64 rk, .string rl, .slice hdA hn hc, .slice wA wn wc, .slice kA rs.length kc]).p (.pointer (some ⟨w.heap.size, 0, none⟩)) w' from fun w' he => by
    have := blockT hbx (block_lt hbx) he
    simpa only [RUnit.cells] using this)
  obtain ⟨pz, hpz⟩ : ∃ pz, rs.zip kids = pz := ⟨_, rfl⟩
  have hpl : pz.length = rs.length := by rw [← hpz]; simp; omega
  have Hpz := Lib.hid (show ∀ p ∈ pz, Reads w p.2 p.1 ∧ RowS j p.2 from fun p hp => by
    rw [← hpz] at hp
    exact ⟨hall.zip p hp, hRow _ (List.of_mem_zip hp).2⟩)
  have Hget := Lib.hid (show ∀ k (h : k < rs.length), ∃ ux, pz[k]? = some (rs[k], ux) from fun k h => by
    have hk2 : k < kids.length := by omega
    exact ⟨kids[k], by rw [← hpz, List.getElem?_eq_getElem (by simp; omega), List.getElem_zip]⟩)
  have Hsnd := Lib.hid (show pz.map Prod.snd = kids by rw [← hpz]; exact zip_snd hrl)
  have Hhead := Lib.hid (And.intro hsc (And.intro hhd hwd))
  have hub : rs.length ≤ 64 := by omega
  simp only [RUnit.cells, unit0] at hwz
  simp only [RUnit.cells]
  have Hwz := Lib.hid hwz
  have Hsz := Lib.hid hsz
  clear hwz hbx hres hall hrl hRow hvb hv2 hsm ht hpz hkc hsc hhd hwd hkn
  go_enter Try.func30, Try.ntmps30
  go_wp2_with fail
  rw [Hwz.out]
  have hst0 : RsSt j pz 0 wz.heap.size (.slice (some ⟨w.heap.size + 1 + 1, 0, none⟩) 0 0) [] (wz.alloc (.cells #[] 27)) := ⟨Srt.nil, by rw [List.take_zero]; exact SO.refl _, Own.made' pairEl (by omega) (Nat.le_refl _)⟩
  have hexz : Ext wz (wz.alloc (.cells #[] 27)) := (Ext.refl _).alloc _
  clear hsz
  go_wp2
  go_loopw [5, 6] (fun vo vi wr => ∃ (k : Nat) (ps : List (RUnit × GUnit)), k ≤ rs.length ∧ vi = .int .i64 (k : Nat) ∧ Ext wz wr ∧ RsSt j pz k wz.heap.size vo ps wr) (fun _ vi _ => rs.length - (intOf vi).toNat)
  case atStart => exact ⟨0, [], Nat.zero_le _, rfl, hexz, hst0⟩
  case round =>
    clear hst0 hexz
    obtain ⟨k, ps, hk, rfl, hext, hss, hso, hown⟩ := hrel
    have f7 := Hbu.out wr hext
    have hpsl : ps.length = k := by have := hso.perm.length_eq; rw [List.length_take, Nat.min_eq_left (by omega)] at this; exact this.symm
    obtain ⟨A5, c5, rfl, hc5, hsl5⟩ := hown.form
    by_cases hlt : k < rs.length
    · have d1 : decide ((k : Int) < (rs.length : Int)) = true := decide_eq_true (by omega)
      obtain ⟨ux, hux⟩ := Hget.out k hlt
      obtain ⟨rx, hrx⟩ : ∃ rx, rs[k] = rx := ⟨_, rfl⟩
      rw [hrx] at hux
      have Hx0 := Lib.hid (show rs[k]? = some rx by rw [← hrx]; exact List.getElem?_eq_getElem hlt)
      have Hux := Lib.hid hux
      obtain ⟨hqx, hsx⟩ := Hpz.out _ (List.mem_of_getElem? hux)
      obtain ⟨rsx, cx, wlx, kx1, kx2, kx3, kx4, kx5⟩ := say_row hqx hsx
      have Hss := Lib.hid hss
      have Hso0 := Lib.hid hso
      have Hown := Lib.hid hown
      clear hux hrx hss hso hown hqx hsx
      have Hpl := Lib.hid hpsl
      have hpl2 : ps.length ≤ 64 := by omega
      clear hpsl
      go_wp2
      clear f7
      obtain ⟨wo, rfl⟩ : ∃ wo, wo = wr := ⟨_, rfl⟩
      go_loopw [7] (fun vp wr => ∃ p : Nat, p ≤ ps.length ∧ vp = .int .i64 (p : Nat) ∧ Ext wo wr ∧ Hid (∀ y ∈ ps.drop p, ltC j (rx, ux) y = true)) (fun vp _ => (intOf vp).toNat)
      case atStart => exact ⟨ps.length, Nat.le_refl _, rfl, Ext.refl _, Lib.hid (by simp)⟩
      case round =>
        obtain ⟨p, hp, rfl, hext2, hdr⟩ := hrel
        have hextr := hext.trans hext2
        have hexw := hx0.trans hextr
        have Hso := Lib.hid (show ∀ w', Ext wr w' → Sl pairEl w' A5 ps from fun w' he => hsl5.ext (hext2.trans he))
        have Hbt := Lib.hid (show ∀ w', Ext wr w' → (TCells [.int .i64 ra, .int .i64 ri, .int .i64 rn, .int .i64 rk, .string rl, .slice hdA hn hc, .slice wA wn wc, .slice kA rs.length kc]).p (.pointer (some ⟨w.heap.size, 0, none⟩)) w' from fun w' he => Hbt0.out w' (hextr.trans he))
        have Hrs := Lib.hid (show ∀ w', Ext wr w' → Sl unitEl w' kA rs from fun w' he => hrs.ext (hexw.trans he))
        have Hkx := Lib.hid (show rx.kn = rsx.length from kx1)
        have Hcx := Lib.hid kx2
        have Hwx := Lib.hid kx3
        have Hsx := Lib.hid (show ∀ w', Ext wr w' → Sl unitEl w' rx.kA rsx from fun w' he => kx4.ext (hexw.trans he))
        have Hyx := Lib.hid (show ∀ w', Ext wr w' → _ from fun w' he => kx5 w' (hexw.trans he))
        by_cases hp0 : 0 < p
        · have hgt : decide ((0 : Int) < (p : Int)) = true := decide_eq_true (by omega)
          have hpl1 : p - 1 < ps.length := by omega
          obtain ⟨y, hye⟩ : ∃ y, ps[p - 1] = y := ⟨_, rfl⟩
          have hy0 : ps[p - 1]? = some y := by rw [← hye]; exact List.getElem?_eq_getElem hpl1
          have hyz : y ∈ pz := List.mem_of_mem_take (Hso0.out.perm.mem_iff.2 (List.mem_of_getElem? hy0))
          obtain ⟨hqy, hsy⟩ := Hpz.out _ hyz
          have hdrop : ps.drop (p - 1) = y :: ps.drop p := by
            rw [List.drop_eq_getElem_cons hpl1, hye, show p - 1 + 1 = p from by omega]
          have htake : ps.take p = ps.take (p - 1) ++ [y] := by
            have := List.take_succ_eq_append_getElem hpl1
            rwa [hye, show p - 1 + 1 = p from by omega] at this
          have Hnext := Lib.hid (show ltC j (rx, ux) y = true → ∀ z ∈ ps.drop (p - 1), ltC j (rx, ux) z = true from fun h z hz => by
            rw [hdrop] at hz
            rcases List.mem_cons.1 hz with rfl | hz
            · exact h
            · exact hdr.out z hz)
          have Hfin := Lib.hid (show ltC j (rx, ux) y = false → Srt (ltC j) (ps.take p ++ (rx, ux) :: ps.drop p) ∧ SO (ltC j) (ps ++ [(rx, ux)]) (ps.take p ++ (rx, ux) :: ps.drop p) from fun h => by
            have hsp : Srt (ltC j) (ps.take p ++ ps.drop p) := by rw [List.take_append_drop]; exact Hss.out
            have := ins_done (ltC_wk j) hsp (by rw [htake]; exact ins_left (ltC_wk j) (by rw [← htake]; exact hsp.left) h) hdr.out
            rwa [List.take_append_drop] at this)
          have hlt0 : ltC j (rx, ux) y = lessB (cellText j ux) (cellText j y.2) := rfl
          rw [hlt0] at Hnext Hfin
          obtain ⟨ry, uy⟩ := y
          obtain ⟨rsy, cy, wly, ky1, ky2, ky3, ky4, ky5⟩ := say_row hqy hsy
          have Hy0 := Lib.hid hy0
          have Hky := Lib.hid (show ry.kn = rsy.length from ky1)
          have Hcy := Lib.hid ky2
          have Hwy := Lib.hid ky3
          have Hsy := Lib.hid (show ∀ w', Ext wr w' → Sl unitEl w' ry.kA rsy from fun w' he => ky4.ext (hexw.trans he))
          have Hyy := Lib.hid (show ∀ w', Ext wr w' → _ from fun w' he => ky5 w' (hexw.trans he))
          dsimp only at Hyy Hnext Hfin
          clear hye hy0 hyz hqy hsy hdrop htake hlt0 ky1 ky2 ky3 ky4 ky5
          generalize cellText j ux = sx at Hyx Hnext Hfin
          generalize cellText j uy = sy at Hyy Hnext Hfin
          obtain ⟨bb, hbb0⟩ : ∃ bb, lessB sx sy = bb := ⟨_, rfl⟩
          have hbb := Lib.hid hbb0
          clear hbb0
          cases bb
          case true =>
            replace Hnext := Lib.hid (Hnext.out hbb.out)
            go_wp2_with fail
            refine wp_drawn (by kernel_rfl) (fun i => match i with | 0 => Ty.is (.int .i64 (p : Nat)) | 1 => Ty.is (.bool true) | 2 => Ty.is (.bool true) | 3 => TGd (true = true) (Ty.is (.slice A5 ps.length c5)) | 4 => TGd (true = true) (Ty.is (.int .i64 (p : Nat))) | 5 => TGd (true = true) (Ty.is (.int .i64 ((p - 1 : Nat) : Int))) | 6 => TGd (true = true) (TCells (RUnit.cells ry)) | 7 => TGd (true = true) (TCells [.slice ry.kA ry.kn ry.kc]) | 8 => TGd (true = true) (Ty.is (.slice ry.kA rsy.length ry.kc)) | 9 => TGd (true = true) (Ty.is (.int .i64 (j : Nat))) | 10 => TGd (true = true) (TCells (RUnit.cells cy)) | 11 => TGd (true = true) (TCells [.slice cy.wA cy.wn cy.wc]) | 12 => TGd (true = true) (Ty.is (.slice cy.wA wly.length cy.wc)) | 13 => TGd (true = true) (Ty.is (.string sy)) | 14 => TGd (true = true) (TCells [.slice kA rs.length kc]) | 15 => TGd (true = true) (Ty.is (.slice kA rs.length kc)) | 16 => TGd (true = true) (Ty.is (.int .i64 (k : Nat))) | 17 => TGd (true = true) (TCells (RUnit.cells rx)) | 18 => TGd (true = true) (TCells [.slice rx.kA rx.kn rx.kc]) | 19 => TGd (true = true) (Ty.is (.slice rx.kA rsx.length rx.kc)) | 20 => TGd (true = true) (Ty.is (.int .i64 (j : Nat))) | 21 => TGd (true = true) (TCells (RUnit.cells cx)) | 22 => TGd (true = true) (TCells [.slice cx.wA cx.wn cx.wc]) | 23 => TGd (true = true) (Ty.is (.slice cx.wA wlx.length cx.wc)) | 24 => TGd (true = true) (Ty.is (.string sx)) | 25 => TGd (true = true) (Ty.is (.bool true)) | 26 => Ty.is (.bool true) | _ => Ty.any) (by kernel_rfl) rfl ?_
            intro v
            refine ⟨?_, ?_, ?_, ?_, ?_, ?_, ?_, ?_, ?_, ?_, ?_, ?_, ?_, ?_, ?_, ?_, ?_, ?_, ?_, ?_, ?_, ?_, ?_, ?_, ?_, ?_, ?_, ?_⟩
            · intro wq hq hd
              refine ob_plain rfl ?_
              exact yld_move (.tmp 7) rfl rfl rfl
            · intro wq hq hd
              obtain ⟨h0, -⟩ := hd
              change v 0 = _ at h0
              refine ob_plain rfl ?_
              exact yld_binInt .gtr 3 3 (.tmp 19) _ rfl _ _ h0 rfl (fun w => by rw [run_gtr_i64, hgt]) rfl
            · intro wq hq hd
              obtain ⟨h0, -⟩ := hd
              change v 1 = _ at h0
              refine ob_plain rfl ?_
              exact yld_move (.tmp 20) rfl h0 rfl
            · intro wq hq hd
              obtain ⟨h0, -⟩ := hd
              change v 2 = _ at h0
              refine ob_guard 2 true (true) rfl (yields_of rfl h0) (fun hg => ?_) (fun hg => ?_)
              · refine Yld.gd (p := true = true) (T := Ty.is (.slice A5 ps.length c5)) ?_
                exact yld_move (.tmp 5) rfl rfl rfl
              · intro hn; rw [hn] at hg; cases hg
            · intro wq hq hd
              obtain ⟨h0, -⟩ := hd
              change v 2 = _ at h0
              refine ob_guard 2 true (true) rfl (yields_of rfl h0) (fun hg => ?_) (fun hg => ?_)
              · refine Yld.gd (p := true = true) (T := Ty.is (.int .i64 (p : Nat))) ?_
                exact yld_move (.tmp 7) rfl rfl rfl
              · intro hn; rw [hn] at hg; cases hg
            · intro wq hq hd
              obtain ⟨h0, h1, -⟩ := hd
              change (true = true) → v 4 = _ at h0
              change v 2 = _ at h1
              refine ob_guard 2 true (true) rfl (yields_of rfl h1) (fun hg => ?_) (fun hg => ?_)
              · refine Yld.gd (p := true = true) (T := Ty.is (.int .i64 ((p - 1 : Nat) : Int))) ?_
                replace h0 := h0 hg
                exact yld_binInt .sub 3 3 (.tmp 23) _ rfl _ _ h0 rfl (by intro w; rw [run_sub_i64 _ _ _ (by omega) (by omega)]; exact congrArg (fun q => Result.ok (Value.int .i64 q) w) (by omega)) rfl
              · intro hn; rw [hn] at hg; cases hg
            · intro wq hq hd
              obtain ⟨h0, h1, h2, -⟩ := hd
              change (true = true) → v 3 = _ at h0
              change (true = true) → v 5 = _ at h1
              change v 2 = _ at h2
              refine ob_guard 2 true (true) rfl (yields_of rfl h2) (fun hg => ?_) (fun hg => ?_)
              · refine Yld.gd (p := true = true) (T := TCells (RUnit.cells ry)) ?_
                replace h0 := h0 hg
                replace h1 := h1 hg
                exact yld_indexAt pairEl (.tmp 22) (.tmp 24) rfl _ ps c5 h0 (p - 1) h1 (Hso.out wq hq) (ry, uy) Hy0.out
              · intro hn; rw [hn] at hg; cases hg
            · intro wq hq hd
              obtain ⟨h0, h1, -⟩ := hd
              change (true = true) → (TCells (RUnit.cells ry)).p (v 6) wq at h0
              change v 2 = _ at h1
              refine ob_guard 2 true (true) rfl (yields_of rfl h1) (fun hg => ?_) (fun hg => ?_)
              · refine Yld.gd (p := true = true) (T := TCells [.slice ry.kA ry.kn ry.kc]) ?_
                replace h0 := h0 hg
                exact yld_field 27 5 (.tmp 25) rfl _ Try.underlying27 _ rfl 1 Try.sizeOf25 (by decide) [.int .i64 ry.a, .int .i64 ry.i, .int .i64 ry.n, .int .i64 ry.kind, .string ry.label, .slice ry.hA ry.hn ry.hc, .slice ry.wA ry.wn ry.wc, .slice ry.kA ry.kn ry.kc] (h0)
              · intro hn; rw [hn] at hg; cases hg
            · intro wq hq hd
              obtain ⟨h0, h1, -⟩ := hd
              change (true = true) → (TCells [.slice ry.kA ry.kn ry.kc]).p (v 7) wq at h0
              change v 2 = _ at h1
              refine ob_guard 2 true (true) rfl (yields_of rfl h1) (fun hg => ?_) (fun hg => ?_)
              · refine Yld.gd (p := true = true) (T := Ty.is (.slice ry.kA rsy.length ry.kc)) ?_
                replace h0 := h0 hg
                exact yld_loadOne 25 (.tmp 26) rfl Try.isAgg25 (c := .slice ry.kA ry.kn ry.kc) h0 (congrArg (fun q => Value.slice ry.kA q ry.kc) Hky.out)
              · intro hn; rw [hn] at hg; cases hg
            · intro wq hq hd
              obtain ⟨h0, -⟩ := hd
              change v 2 = _ at h0
              refine ob_guard 2 true (true) rfl (yields_of rfl h0) (fun hg => ?_) (fun hg => ?_)
              · refine Yld.gd (p := true = true) (T := Ty.is (.int .i64 (j : Nat))) ?_
                exact yld_move (.tmp 1) rfl rfl rfl
              · intro hn; rw [hn] at hg; cases hg
            · intro wq hq hd
              obtain ⟨h0, h1, h2, -⟩ := hd
              change (true = true) → v 8 = _ at h0
              change (true = true) → v 9 = _ at h1
              change v 2 = _ at h2
              refine ob_guard 2 true (true) rfl (yields_of rfl h2) (fun hg => ?_) (fun hg => ?_)
              · refine Yld.gd (p := true = true) (T := TCells (RUnit.cells cy)) ?_
                replace h0 := h0 hg
                replace h1 := h1 hg
                exact yld_indexAt unitEl (.tmp 27) (.tmp 28) rfl _ rsy ry.kc h0 j h1 (Hsy.out wq hq) cy Hcy.out
              · intro hn; rw [hn] at hg; cases hg
            · intro wq hq hd
              obtain ⟨h0, h1, -⟩ := hd
              change (true = true) → (TCells (RUnit.cells cy)).p (v 10) wq at h0
              change v 2 = _ at h1
              refine ob_guard 2 true (true) rfl (yields_of rfl h1) (fun hg => ?_) (fun hg => ?_)
              · refine Yld.gd (p := true = true) (T := TCells [.slice cy.wA cy.wn cy.wc]) ?_
                replace h0 := h0 hg
                exact yld_field 27 4 (.tmp 29) rfl _ Try.underlying27 _ rfl 1 Try.sizeOf24 (by decide) [.int .i64 cy.a, .int .i64 cy.i, .int .i64 cy.n, .int .i64 cy.kind, .string cy.label, .slice cy.hA cy.hn cy.hc, .slice cy.wA cy.wn cy.wc, .slice cy.kA cy.kn cy.kc] (h0)
              · intro hn; rw [hn] at hg; cases hg
            · intro wq hq hd
              obtain ⟨h0, h1, -⟩ := hd
              change (true = true) → (TCells [.slice cy.wA cy.wn cy.wc]).p (v 11) wq at h0
              change v 2 = _ at h1
              refine ob_guard 2 true (true) rfl (yields_of rfl h1) (fun hg => ?_) (fun hg => ?_)
              · refine Yld.gd (p := true = true) (T := Ty.is (.slice cy.wA wly.length cy.wc)) ?_
                replace h0 := h0 hg
                exact yld_loadOne 24 (.tmp 30) rfl Try.isAgg24 (c := .slice cy.wA cy.wn cy.wc) h0 (congrArg (fun q => Value.slice cy.wA q cy.wc) Hwy.out)
              · intro hn; rw [hn] at hg; cases hg
            · intro wq hq hd
              obtain ⟨h0, h1, h2, -⟩ := hd
              change (true = true) → v 12 = _ at h0
              change v 2 = _ at h1
              refine ob_guard 2 true (true) rfl (yields_of rfl h1) (fun hg => ?_) (fun hg => ?_)
              · refine Yld.gd (p := true = true) (T := Ty.is (.string sy)) ?_
                replace h0 := h0 hg
                refine yld_call 37 Try.call37 _ _ rfl rfl [_] ⟨h0, trivial⟩ ?_
                refine (Hyy.out wq hq).mono ?_
                rintro e w' ⟨rfl, hx'⟩
                exact ⟨_, rfl, hx', rfl⟩
              · intro hn; rw [hn] at hg; cases hg
            · intro wq hq hd
              obtain ⟨h0, -⟩ := hd
              change v 2 = _ at h0
              refine ob_guard 2 true (true) rfl (yields_of rfl h0) (fun hg => ?_) (fun hg => ?_)
              · refine Yld.gd (p := true = true) (T := TCells [.slice kA rs.length kc]) ?_
                exact yld_field 27 5 (.tmp 2) rfl _ Try.underlying27 _ rfl 1 Try.sizeOf25 (by decide) [.int .i64 ra, .int .i64 ri, .int .i64 rn, .int .i64 rk, .string rl, .slice hdA hn hc, .slice wA wn wc, .slice kA rs.length kc] (Hbt.out _ hq)
              · intro hn; rw [hn] at hg; cases hg
            · intro wq hq hd
              obtain ⟨h0, h1, -⟩ := hd
              change (true = true) → (TCells [.slice kA rs.length kc]).p (v 14) wq at h0
              change v 2 = _ at h1
              refine ob_guard 2 true (true) rfl (yields_of rfl h1) (fun hg => ?_) (fun hg => ?_)
              · refine Yld.gd (p := true = true) (T := Ty.is (.slice kA rs.length kc)) ?_
                replace h0 := h0 hg
                exact yld_loadOne 25 (.tmp 33) rfl Try.isAgg25 (c := .slice kA rs.length kc) h0 rfl
              · intro hn; rw [hn] at hg; cases hg
            · intro wq hq hd
              obtain ⟨h0, -⟩ := hd
              change v 2 = _ at h0
              refine ob_guard 2 true (true) rfl (yields_of rfl h0) (fun hg => ?_) (fun hg => ?_)
              · refine Yld.gd (p := true = true) (T := Ty.is (.int .i64 (k : Nat))) ?_
                exact yld_move (.tmp 6) rfl rfl rfl
              · intro hn; rw [hn] at hg; cases hg
            · intro wq hq hd
              obtain ⟨h0, h1, h2, -⟩ := hd
              change (true = true) → v 15 = _ at h0
              change (true = true) → v 16 = _ at h1
              change v 2 = _ at h2
              refine ob_guard 2 true (true) rfl (yields_of rfl h2) (fun hg => ?_) (fun hg => ?_)
              · refine Yld.gd (p := true = true) (T := TCells (RUnit.cells rx)) ?_
                replace h0 := h0 hg
                replace h1 := h1 hg
                exact yld_indexAt unitEl (.tmp 34) (.tmp 35) rfl _ rs kc h0 k h1 (Hrs.out wq hq) rx Hx0.out
              · intro hn; rw [hn] at hg; cases hg
            · intro wq hq hd
              obtain ⟨h0, h1, -⟩ := hd
              change (true = true) → (TCells (RUnit.cells rx)).p (v 17) wq at h0
              change v 2 = _ at h1
              refine ob_guard 2 true (true) rfl (yields_of rfl h1) (fun hg => ?_) (fun hg => ?_)
              · refine Yld.gd (p := true = true) (T := TCells [.slice rx.kA rx.kn rx.kc]) ?_
                replace h0 := h0 hg
                exact yld_field 27 5 (.tmp 36) rfl _ Try.underlying27 _ rfl 1 Try.sizeOf25 (by decide) [.int .i64 rx.a, .int .i64 rx.i, .int .i64 rx.n, .int .i64 rx.kind, .string rx.label, .slice rx.hA rx.hn rx.hc, .slice rx.wA rx.wn rx.wc, .slice rx.kA rx.kn rx.kc] (h0)
              · intro hn; rw [hn] at hg; cases hg
            · intro wq hq hd
              obtain ⟨h0, h1, -⟩ := hd
              change (true = true) → (TCells [.slice rx.kA rx.kn rx.kc]).p (v 18) wq at h0
              change v 2 = _ at h1
              refine ob_guard 2 true (true) rfl (yields_of rfl h1) (fun hg => ?_) (fun hg => ?_)
              · refine Yld.gd (p := true = true) (T := Ty.is (.slice rx.kA rsx.length rx.kc)) ?_
                replace h0 := h0 hg
                exact yld_loadOne 25 (.tmp 37) rfl Try.isAgg25 (c := .slice rx.kA rx.kn rx.kc) h0 (congrArg (fun q => Value.slice rx.kA q rx.kc) Hkx.out)
              · intro hn; rw [hn] at hg; cases hg
            · intro wq hq hd
              obtain ⟨h0, -⟩ := hd
              change v 2 = _ at h0
              refine ob_guard 2 true (true) rfl (yields_of rfl h0) (fun hg => ?_) (fun hg => ?_)
              · refine Yld.gd (p := true = true) (T := Ty.is (.int .i64 (j : Nat))) ?_
                exact yld_move (.tmp 1) rfl rfl rfl
              · intro hn; rw [hn] at hg; cases hg
            · intro wq hq hd
              obtain ⟨h0, h1, h2, -⟩ := hd
              change (true = true) → v 19 = _ at h0
              change (true = true) → v 20 = _ at h1
              change v 2 = _ at h2
              refine ob_guard 2 true (true) rfl (yields_of rfl h2) (fun hg => ?_) (fun hg => ?_)
              · refine Yld.gd (p := true = true) (T := TCells (RUnit.cells cx)) ?_
                replace h0 := h0 hg
                replace h1 := h1 hg
                exact yld_indexAt unitEl (.tmp 38) (.tmp 39) rfl _ rsx rx.kc h0 j h1 (Hsx.out wq hq) cx Hcx.out
              · intro hn; rw [hn] at hg; cases hg
            · intro wq hq hd
              obtain ⟨h0, h1, -⟩ := hd
              change (true = true) → (TCells (RUnit.cells cx)).p (v 21) wq at h0
              change v 2 = _ at h1
              refine ob_guard 2 true (true) rfl (yields_of rfl h1) (fun hg => ?_) (fun hg => ?_)
              · refine Yld.gd (p := true = true) (T := TCells [.slice cx.wA cx.wn cx.wc]) ?_
                replace h0 := h0 hg
                exact yld_field 27 4 (.tmp 40) rfl _ Try.underlying27 _ rfl 1 Try.sizeOf24 (by decide) [.int .i64 cx.a, .int .i64 cx.i, .int .i64 cx.n, .int .i64 cx.kind, .string cx.label, .slice cx.hA cx.hn cx.hc, .slice cx.wA cx.wn cx.wc, .slice cx.kA cx.kn cx.kc] (h0)
              · intro hn; rw [hn] at hg; cases hg
            · intro wq hq hd
              obtain ⟨h0, h1, -⟩ := hd
              change (true = true) → (TCells [.slice cx.wA cx.wn cx.wc]).p (v 22) wq at h0
              change v 2 = _ at h1
              refine ob_guard 2 true (true) rfl (yields_of rfl h1) (fun hg => ?_) (fun hg => ?_)
              · refine Yld.gd (p := true = true) (T := Ty.is (.slice cx.wA wlx.length cx.wc)) ?_
                replace h0 := h0 hg
                exact yld_loadOne 24 (.tmp 41) rfl Try.isAgg24 (c := .slice cx.wA cx.wn cx.wc) h0 (congrArg (fun q => Value.slice cx.wA q cx.wc) Hwx.out)
              · intro hn; rw [hn] at hg; cases hg
            · intro wq hq hd
              obtain ⟨h0, h1, h2, -⟩ := hd
              change (true = true) → v 23 = _ at h0
              change v 2 = _ at h2
              refine ob_guard 2 true (true) rfl (yields_of rfl h2) (fun hg => ?_) (fun hg => ?_)
              · refine Yld.gd (p := true = true) (T := Ty.is (.string sx)) ?_
                replace h0 := h0 hg
                refine yld_call 37 Try.call37 _ _ rfl rfl [_] ⟨h0, trivial⟩ ?_
                refine (Hyx.out wq hq).mono ?_
                rintro e w' ⟨rfl, hx'⟩
                exact ⟨_, rfl, hx', rfl⟩
              · intro hn; rw [hn] at hg; cases hg
            · intro wq hq hd
              obtain ⟨h0, h1, h2, -⟩ := hd
              change (true = true) → v 13 = _ at h0
              change (true = true) → v 24 = _ at h1
              change v 2 = _ at h2
              refine ob_guard 2 true (true) rfl (yields_of rfl h2) (fun hg => ?_) (fun hg => ?_)
              · refine Yld.gd (p := true = true) (T := Ty.is (.bool true)) ?_
                replace h0 := h0 hg
                replace h1 := h1 hg
                exact yld_binStr .gtr 9 9 (.tmp 32) (.tmp 43) rfl _ _ h0 h1 (fun w => by rw [run_gtr_str, hbb.out]) rfl
              · intro hn; rw [hn] at hg; cases hg
            · intro wq hq hd
              obtain ⟨h0, h1, -⟩ := hd
              change v 2 = _ at h0
              change (true = true) → v 25 = _ at h1
              refine ob_plain rfl ?_
              exact yld_and (.tmp 21) (.tmp 44) rfl rfl _ _ h0 (fun hgd => h1 hgd) rfl
            · intro wq hq hT
              have k26 := hT 26 (by decide)
              change v 26 = _ at k26
              clear hT
              simp only [List.drop_succ_cons, List.drop_zero, putE, setsE, List.set_cons_succ, List.set_cons_zero, Nat.reduceAdd]
              rw [k26]
              go_wp2
              go_roundw
              case rel => exact ⟨p - 1, by omega, by go_num, hext2.trans hq, Hnext⟩
              case measure => simp [intOf]; omega
          case false =>
            replace Hfin := Lib.hid (Hfin.out hbb.out)
            go_wp2_with fail
            refine wp_drawn (by kernel_rfl) (fun i => match i with | 0 => Ty.is (.int .i64 (p : Nat)) | 1 => Ty.is (.bool true) | 2 => Ty.is (.bool true) | 3 => TGd (true = true) (Ty.is (.slice A5 ps.length c5)) | 4 => TGd (true = true) (Ty.is (.int .i64 (p : Nat))) | 5 => TGd (true = true) (Ty.is (.int .i64 ((p - 1 : Nat) : Int))) | 6 => TGd (true = true) (TCells (RUnit.cells ry)) | 7 => TGd (true = true) (TCells [.slice ry.kA ry.kn ry.kc]) | 8 => TGd (true = true) (Ty.is (.slice ry.kA rsy.length ry.kc)) | 9 => TGd (true = true) (Ty.is (.int .i64 (j : Nat))) | 10 => TGd (true = true) (TCells (RUnit.cells cy)) | 11 => TGd (true = true) (TCells [.slice cy.wA cy.wn cy.wc]) | 12 => TGd (true = true) (Ty.is (.slice cy.wA wly.length cy.wc)) | 13 => TGd (true = true) (Ty.is (.string sy)) | 14 => TGd (true = true) (TCells [.slice kA rs.length kc]) | 15 => TGd (true = true) (Ty.is (.slice kA rs.length kc)) | 16 => TGd (true = true) (Ty.is (.int .i64 (k : Nat))) | 17 => TGd (true = true) (TCells (RUnit.cells rx)) | 18 => TGd (true = true) (TCells [.slice rx.kA rx.kn rx.kc]) | 19 => TGd (true = true) (Ty.is (.slice rx.kA rsx.length rx.kc)) | 20 => TGd (true = true) (Ty.is (.int .i64 (j : Nat))) | 21 => TGd (true = true) (TCells (RUnit.cells cx)) | 22 => TGd (true = true) (TCells [.slice cx.wA cx.wn cx.wc]) | 23 => TGd (true = true) (Ty.is (.slice cx.wA wlx.length cx.wc)) | 24 => TGd (true = true) (Ty.is (.string sx)) | 25 => TGd (true = true) (Ty.is (.bool false)) | 26 => Ty.is (.bool false) | _ => Ty.any) (by kernel_rfl) rfl ?_
            intro v
            refine ⟨?_, ?_, ?_, ?_, ?_, ?_, ?_, ?_, ?_, ?_, ?_, ?_, ?_, ?_, ?_, ?_, ?_, ?_, ?_, ?_, ?_, ?_, ?_, ?_, ?_, ?_, ?_, ?_⟩
            · intro wq hq hd
              refine ob_plain rfl ?_
              exact yld_move (.tmp 7) rfl rfl rfl
            · intro wq hq hd
              obtain ⟨h0, -⟩ := hd
              change v 0 = _ at h0
              refine ob_plain rfl ?_
              exact yld_binInt .gtr 3 3 (.tmp 19) _ rfl _ _ h0 rfl (fun w => by rw [run_gtr_i64, hgt]) rfl
            · intro wq hq hd
              obtain ⟨h0, -⟩ := hd
              change v 1 = _ at h0
              refine ob_plain rfl ?_
              exact yld_move (.tmp 20) rfl h0 rfl
            · intro wq hq hd
              obtain ⟨h0, -⟩ := hd
              change v 2 = _ at h0
              refine ob_guard 2 true (true) rfl (yields_of rfl h0) (fun hg => ?_) (fun hg => ?_)
              · refine Yld.gd (p := true = true) (T := Ty.is (.slice A5 ps.length c5)) ?_
                exact yld_move (.tmp 5) rfl rfl rfl
              · intro hn; rw [hn] at hg; cases hg
            · intro wq hq hd
              obtain ⟨h0, -⟩ := hd
              change v 2 = _ at h0
              refine ob_guard 2 true (true) rfl (yields_of rfl h0) (fun hg => ?_) (fun hg => ?_)
              · refine Yld.gd (p := true = true) (T := Ty.is (.int .i64 (p : Nat))) ?_
                exact yld_move (.tmp 7) rfl rfl rfl
              · intro hn; rw [hn] at hg; cases hg
            · intro wq hq hd
              obtain ⟨h0, h1, -⟩ := hd
              change (true = true) → v 4 = _ at h0
              change v 2 = _ at h1
              refine ob_guard 2 true (true) rfl (yields_of rfl h1) (fun hg => ?_) (fun hg => ?_)
              · refine Yld.gd (p := true = true) (T := Ty.is (.int .i64 ((p - 1 : Nat) : Int))) ?_
                replace h0 := h0 hg
                exact yld_binInt .sub 3 3 (.tmp 23) _ rfl _ _ h0 rfl (by intro w; rw [run_sub_i64 _ _ _ (by omega) (by omega)]; exact congrArg (fun q => Result.ok (Value.int .i64 q) w) (by omega)) rfl
              · intro hn; rw [hn] at hg; cases hg
            · intro wq hq hd
              obtain ⟨h0, h1, h2, -⟩ := hd
              change (true = true) → v 3 = _ at h0
              change (true = true) → v 5 = _ at h1
              change v 2 = _ at h2
              refine ob_guard 2 true (true) rfl (yields_of rfl h2) (fun hg => ?_) (fun hg => ?_)
              · refine Yld.gd (p := true = true) (T := TCells (RUnit.cells ry)) ?_
                replace h0 := h0 hg
                replace h1 := h1 hg
                exact yld_indexAt pairEl (.tmp 22) (.tmp 24) rfl _ ps c5 h0 (p - 1) h1 (Hso.out wq hq) (ry, uy) Hy0.out
              · intro hn; rw [hn] at hg; cases hg
            · intro wq hq hd
              obtain ⟨h0, h1, -⟩ := hd
              change (true = true) → (TCells (RUnit.cells ry)).p (v 6) wq at h0
              change v 2 = _ at h1
              refine ob_guard 2 true (true) rfl (yields_of rfl h1) (fun hg => ?_) (fun hg => ?_)
              · refine Yld.gd (p := true = true) (T := TCells [.slice ry.kA ry.kn ry.kc]) ?_
                replace h0 := h0 hg
                exact yld_field 27 5 (.tmp 25) rfl _ Try.underlying27 _ rfl 1 Try.sizeOf25 (by decide) [.int .i64 ry.a, .int .i64 ry.i, .int .i64 ry.n, .int .i64 ry.kind, .string ry.label, .slice ry.hA ry.hn ry.hc, .slice ry.wA ry.wn ry.wc, .slice ry.kA ry.kn ry.kc] (h0)
              · intro hn; rw [hn] at hg; cases hg
            · intro wq hq hd
              obtain ⟨h0, h1, -⟩ := hd
              change (true = true) → (TCells [.slice ry.kA ry.kn ry.kc]).p (v 7) wq at h0
              change v 2 = _ at h1
              refine ob_guard 2 true (true) rfl (yields_of rfl h1) (fun hg => ?_) (fun hg => ?_)
              · refine Yld.gd (p := true = true) (T := Ty.is (.slice ry.kA rsy.length ry.kc)) ?_
                replace h0 := h0 hg
                exact yld_loadOne 25 (.tmp 26) rfl Try.isAgg25 (c := .slice ry.kA ry.kn ry.kc) h0 (congrArg (fun q => Value.slice ry.kA q ry.kc) Hky.out)
              · intro hn; rw [hn] at hg; cases hg
            · intro wq hq hd
              obtain ⟨h0, -⟩ := hd
              change v 2 = _ at h0
              refine ob_guard 2 true (true) rfl (yields_of rfl h0) (fun hg => ?_) (fun hg => ?_)
              · refine Yld.gd (p := true = true) (T := Ty.is (.int .i64 (j : Nat))) ?_
                exact yld_move (.tmp 1) rfl rfl rfl
              · intro hn; rw [hn] at hg; cases hg
            · intro wq hq hd
              obtain ⟨h0, h1, h2, -⟩ := hd
              change (true = true) → v 8 = _ at h0
              change (true = true) → v 9 = _ at h1
              change v 2 = _ at h2
              refine ob_guard 2 true (true) rfl (yields_of rfl h2) (fun hg => ?_) (fun hg => ?_)
              · refine Yld.gd (p := true = true) (T := TCells (RUnit.cells cy)) ?_
                replace h0 := h0 hg
                replace h1 := h1 hg
                exact yld_indexAt unitEl (.tmp 27) (.tmp 28) rfl _ rsy ry.kc h0 j h1 (Hsy.out wq hq) cy Hcy.out
              · intro hn; rw [hn] at hg; cases hg
            · intro wq hq hd
              obtain ⟨h0, h1, -⟩ := hd
              change (true = true) → (TCells (RUnit.cells cy)).p (v 10) wq at h0
              change v 2 = _ at h1
              refine ob_guard 2 true (true) rfl (yields_of rfl h1) (fun hg => ?_) (fun hg => ?_)
              · refine Yld.gd (p := true = true) (T := TCells [.slice cy.wA cy.wn cy.wc]) ?_
                replace h0 := h0 hg
                exact yld_field 27 4 (.tmp 29) rfl _ Try.underlying27 _ rfl 1 Try.sizeOf24 (by decide) [.int .i64 cy.a, .int .i64 cy.i, .int .i64 cy.n, .int .i64 cy.kind, .string cy.label, .slice cy.hA cy.hn cy.hc, .slice cy.wA cy.wn cy.wc, .slice cy.kA cy.kn cy.kc] (h0)
              · intro hn; rw [hn] at hg; cases hg
            · intro wq hq hd
              obtain ⟨h0, h1, -⟩ := hd
              change (true = true) → (TCells [.slice cy.wA cy.wn cy.wc]).p (v 11) wq at h0
              change v 2 = _ at h1
              refine ob_guard 2 true (true) rfl (yields_of rfl h1) (fun hg => ?_) (fun hg => ?_)
              · refine Yld.gd (p := true = true) (T := Ty.is (.slice cy.wA wly.length cy.wc)) ?_
                replace h0 := h0 hg
                exact yld_loadOne 24 (.tmp 30) rfl Try.isAgg24 (c := .slice cy.wA cy.wn cy.wc) h0 (congrArg (fun q => Value.slice cy.wA q cy.wc) Hwy.out)
              · intro hn; rw [hn] at hg; cases hg
            · intro wq hq hd
              obtain ⟨h0, h1, h2, -⟩ := hd
              change (true = true) → v 12 = _ at h0
              change v 2 = _ at h1
              refine ob_guard 2 true (true) rfl (yields_of rfl h1) (fun hg => ?_) (fun hg => ?_)
              · refine Yld.gd (p := true = true) (T := Ty.is (.string sy)) ?_
                replace h0 := h0 hg
                refine yld_call 37 Try.call37 _ _ rfl rfl [_] ⟨h0, trivial⟩ ?_
                refine (Hyy.out wq hq).mono ?_
                rintro e w' ⟨rfl, hx'⟩
                exact ⟨_, rfl, hx', rfl⟩
              · intro hn; rw [hn] at hg; cases hg
            · intro wq hq hd
              obtain ⟨h0, -⟩ := hd
              change v 2 = _ at h0
              refine ob_guard 2 true (true) rfl (yields_of rfl h0) (fun hg => ?_) (fun hg => ?_)
              · refine Yld.gd (p := true = true) (T := TCells [.slice kA rs.length kc]) ?_
                exact yld_field 27 5 (.tmp 2) rfl _ Try.underlying27 _ rfl 1 Try.sizeOf25 (by decide) [.int .i64 ra, .int .i64 ri, .int .i64 rn, .int .i64 rk, .string rl, .slice hdA hn hc, .slice wA wn wc, .slice kA rs.length kc] (Hbt.out _ hq)
              · intro hn; rw [hn] at hg; cases hg
            · intro wq hq hd
              obtain ⟨h0, h1, -⟩ := hd
              change (true = true) → (TCells [.slice kA rs.length kc]).p (v 14) wq at h0
              change v 2 = _ at h1
              refine ob_guard 2 true (true) rfl (yields_of rfl h1) (fun hg => ?_) (fun hg => ?_)
              · refine Yld.gd (p := true = true) (T := Ty.is (.slice kA rs.length kc)) ?_
                replace h0 := h0 hg
                exact yld_loadOne 25 (.tmp 33) rfl Try.isAgg25 (c := .slice kA rs.length kc) h0 rfl
              · intro hn; rw [hn] at hg; cases hg
            · intro wq hq hd
              obtain ⟨h0, -⟩ := hd
              change v 2 = _ at h0
              refine ob_guard 2 true (true) rfl (yields_of rfl h0) (fun hg => ?_) (fun hg => ?_)
              · refine Yld.gd (p := true = true) (T := Ty.is (.int .i64 (k : Nat))) ?_
                exact yld_move (.tmp 6) rfl rfl rfl
              · intro hn; rw [hn] at hg; cases hg
            · intro wq hq hd
              obtain ⟨h0, h1, h2, -⟩ := hd
              change (true = true) → v 15 = _ at h0
              change (true = true) → v 16 = _ at h1
              change v 2 = _ at h2
              refine ob_guard 2 true (true) rfl (yields_of rfl h2) (fun hg => ?_) (fun hg => ?_)
              · refine Yld.gd (p := true = true) (T := TCells (RUnit.cells rx)) ?_
                replace h0 := h0 hg
                replace h1 := h1 hg
                exact yld_indexAt unitEl (.tmp 34) (.tmp 35) rfl _ rs kc h0 k h1 (Hrs.out wq hq) rx Hx0.out
              · intro hn; rw [hn] at hg; cases hg
            · intro wq hq hd
              obtain ⟨h0, h1, -⟩ := hd
              change (true = true) → (TCells (RUnit.cells rx)).p (v 17) wq at h0
              change v 2 = _ at h1
              refine ob_guard 2 true (true) rfl (yields_of rfl h1) (fun hg => ?_) (fun hg => ?_)
              · refine Yld.gd (p := true = true) (T := TCells [.slice rx.kA rx.kn rx.kc]) ?_
                replace h0 := h0 hg
                exact yld_field 27 5 (.tmp 36) rfl _ Try.underlying27 _ rfl 1 Try.sizeOf25 (by decide) [.int .i64 rx.a, .int .i64 rx.i, .int .i64 rx.n, .int .i64 rx.kind, .string rx.label, .slice rx.hA rx.hn rx.hc, .slice rx.wA rx.wn rx.wc, .slice rx.kA rx.kn rx.kc] (h0)
              · intro hn; rw [hn] at hg; cases hg
            · intro wq hq hd
              obtain ⟨h0, h1, -⟩ := hd
              change (true = true) → (TCells [.slice rx.kA rx.kn rx.kc]).p (v 18) wq at h0
              change v 2 = _ at h1
              refine ob_guard 2 true (true) rfl (yields_of rfl h1) (fun hg => ?_) (fun hg => ?_)
              · refine Yld.gd (p := true = true) (T := Ty.is (.slice rx.kA rsx.length rx.kc)) ?_
                replace h0 := h0 hg
                exact yld_loadOne 25 (.tmp 37) rfl Try.isAgg25 (c := .slice rx.kA rx.kn rx.kc) h0 (congrArg (fun q => Value.slice rx.kA q rx.kc) Hkx.out)
              · intro hn; rw [hn] at hg; cases hg
            · intro wq hq hd
              obtain ⟨h0, -⟩ := hd
              change v 2 = _ at h0
              refine ob_guard 2 true (true) rfl (yields_of rfl h0) (fun hg => ?_) (fun hg => ?_)
              · refine Yld.gd (p := true = true) (T := Ty.is (.int .i64 (j : Nat))) ?_
                exact yld_move (.tmp 1) rfl rfl rfl
              · intro hn; rw [hn] at hg; cases hg
            · intro wq hq hd
              obtain ⟨h0, h1, h2, -⟩ := hd
              change (true = true) → v 19 = _ at h0
              change (true = true) → v 20 = _ at h1
              change v 2 = _ at h2
              refine ob_guard 2 true (true) rfl (yields_of rfl h2) (fun hg => ?_) (fun hg => ?_)
              · refine Yld.gd (p := true = true) (T := TCells (RUnit.cells cx)) ?_
                replace h0 := h0 hg
                replace h1 := h1 hg
                exact yld_indexAt unitEl (.tmp 38) (.tmp 39) rfl _ rsx rx.kc h0 j h1 (Hsx.out wq hq) cx Hcx.out
              · intro hn; rw [hn] at hg; cases hg
            · intro wq hq hd
              obtain ⟨h0, h1, -⟩ := hd
              change (true = true) → (TCells (RUnit.cells cx)).p (v 21) wq at h0
              change v 2 = _ at h1
              refine ob_guard 2 true (true) rfl (yields_of rfl h1) (fun hg => ?_) (fun hg => ?_)
              · refine Yld.gd (p := true = true) (T := TCells [.slice cx.wA cx.wn cx.wc]) ?_
                replace h0 := h0 hg
                exact yld_field 27 4 (.tmp 40) rfl _ Try.underlying27 _ rfl 1 Try.sizeOf24 (by decide) [.int .i64 cx.a, .int .i64 cx.i, .int .i64 cx.n, .int .i64 cx.kind, .string cx.label, .slice cx.hA cx.hn cx.hc, .slice cx.wA cx.wn cx.wc, .slice cx.kA cx.kn cx.kc] (h0)
              · intro hn; rw [hn] at hg; cases hg
            · intro wq hq hd
              obtain ⟨h0, h1, -⟩ := hd
              change (true = true) → (TCells [.slice cx.wA cx.wn cx.wc]).p (v 22) wq at h0
              change v 2 = _ at h1
              refine ob_guard 2 true (true) rfl (yields_of rfl h1) (fun hg => ?_) (fun hg => ?_)
              · refine Yld.gd (p := true = true) (T := Ty.is (.slice cx.wA wlx.length cx.wc)) ?_
                replace h0 := h0 hg
                exact yld_loadOne 24 (.tmp 41) rfl Try.isAgg24 (c := .slice cx.wA cx.wn cx.wc) h0 (congrArg (fun q => Value.slice cx.wA q cx.wc) Hwx.out)
              · intro hn; rw [hn] at hg; cases hg
            · intro wq hq hd
              obtain ⟨h0, h1, h2, -⟩ := hd
              change (true = true) → v 23 = _ at h0
              change v 2 = _ at h2
              refine ob_guard 2 true (true) rfl (yields_of rfl h2) (fun hg => ?_) (fun hg => ?_)
              · refine Yld.gd (p := true = true) (T := Ty.is (.string sx)) ?_
                replace h0 := h0 hg
                refine yld_call 37 Try.call37 _ _ rfl rfl [_] ⟨h0, trivial⟩ ?_
                refine (Hyx.out wq hq).mono ?_
                rintro e w' ⟨rfl, hx'⟩
                exact ⟨_, rfl, hx', rfl⟩
              · intro hn; rw [hn] at hg; cases hg
            · intro wq hq hd
              obtain ⟨h0, h1, h2, -⟩ := hd
              change (true = true) → v 13 = _ at h0
              change (true = true) → v 24 = _ at h1
              change v 2 = _ at h2
              refine ob_guard 2 true (true) rfl (yields_of rfl h2) (fun hg => ?_) (fun hg => ?_)
              · refine Yld.gd (p := true = true) (T := Ty.is (.bool false)) ?_
                replace h0 := h0 hg
                replace h1 := h1 hg
                exact yld_binStr .gtr 9 9 (.tmp 32) (.tmp 43) rfl _ _ h0 h1 (fun w => by rw [run_gtr_str, hbb.out]) rfl
              · intro hn; rw [hn] at hg; cases hg
            · intro wq hq hd
              obtain ⟨h0, h1, -⟩ := hd
              change v 2 = _ at h0
              change (true = true) → v 25 = _ at h1
              refine ob_plain rfl ?_
              exact yld_and (.tmp 21) (.tmp 44) rfl rfl _ _ h0 (fun hgd => h1 hgd) rfl
            · intro wq hq hT
              have k26 := hT 26 (by decide)
              change v 26 = _ at k26
              clear hT
              simp only [List.drop_succ_cons, List.drop_zero, putE, setsE, List.set_cons_succ, List.set_cons_zero, Nat.reduceAdd]
              rw [k26]
              obtain ⟨wv, hwv⟩ : ∃ wv, wv = wq := ⟨_, rfl⟩
              rw [← hwv] at hq ⊢
              have hextv := hextr.trans hq
              have Hso := Lib.hid (show ∀ w', Ext wv w' → Sl pairEl w' A5 ps from fun w' he => Hso.out w' (hq.trans he))
              have Hbt := Lib.hid (show ∀ w', Ext wv w' → (TCells [.int .i64 ra, .int .i64 ri, .int .i64 rn, .int .i64 rk, .string rl, .slice hdA hn hc, .slice wA wn wc, .slice kA rs.length kc]).p (.pointer (some ⟨w.heap.size, 0, none⟩)) w' from fun w' he => Hbt.out w' (hq.trans he))
              have Hrs := Lib.hid (show ∀ w', Ext wv w' → Sl unitEl w' kA rs from fun w' he => Hrs.out w' (hq.trans he))
              clear hwv hq
              go_wp2_with fail
              refine wp_drawn_tail 11 (fun i => match i with | 0 => TEmptyO pairEl wv.heap.size | 1 => Ty.is (.slice A5 ps.length c5) | 2 => Ty.is (.int .i64 (p : Nat)) | 3 => TSl pairEl (ps.take p) | 4 => TOwn pairEl wv.heap.size (ps.take p) | 5 => TCells [.slice kA rs.length kc] | 6 => Ty.is (.slice kA rs.length kc) | 7 => Ty.is (.int .i64 (k : Nat)) | 8 => TCells (RUnit.cells rx) | 9 => Ty.is (.agg (RUnit.cells rx).toArray) | 10 => TSl pairEl [(rx, ux)] | _ => Ty.any) (by kernel_rfl) (by kernel_rfl) (by kernel_rfl) (by decide) rfl ?_
              intro v
              refine ⟨?_, ?_, ?_, ?_, ?_, ?_, ?_, ?_, ?_, ?_, ?_, ?_⟩
              · intro wq hq hd
                refine ob_plain rfl ?_
                exact yld_emptyO pairEl rfl hq.size
              · intro wq hq hd
                refine ob_plain rfl ?_
                exact yld_move (.tmp 5) rfl rfl rfl
              · intro wq hq hd
                refine ob_plain rfl ?_
                exact yld_move (.tmp 7) rfl rfl rfl
              · intro wq hq hd
                obtain ⟨h0, h1, -⟩ := hd
                change v 1 = _ at h0
                change v 2 = _ at h1
                refine ob_plain rfl ?_
                exact yld_slToO pairEl (.tmp 49) (.tmp 50) rfl c5 h0 p h1 (Hso.out wq hq) (by omega) hc5
              · intro wq hq hd
                obtain ⟨h0, h1, -⟩ := hd
                change (TEmptyO pairEl wv.heap.size).p (v 0) wq at h0
                change (TSl pairEl (ps.take p)).p (v 3) wq at h1
                refine ob_plain rfl ?_
                obtain ⟨Ae, he1, he2⟩ := h0
                obtain ⟨A3, c3, h31, h32, h33⟩ := h1
                exact yld_appOwnO pairEl (.tmp 48) (.tmp 51) rfl c3 wv.heap.size Ae he1 (he1 ▸ he2) h31 h33 (by simp; omega) hq.size
              · intro wq hq hd
                refine ob_plain rfl ?_
                exact yld_field 27 5 (.tmp 2) rfl _ Try.underlying27 _ rfl 1 Try.sizeOf25 (by decide) [.int .i64 ra, .int .i64 ri, .int .i64 rn, .int .i64 rk, .string rl, .slice hdA hn hc, .slice wA wn wc, .slice kA rs.length kc] (Hbt.out _ hq)
              · intro wq hq hd
                obtain ⟨h0, -⟩ := hd
                change (TCells [.slice kA rs.length kc]).p (v 5) wq at h0
                refine ob_plain rfl ?_
                exact yld_loadOne 25 (.tmp 53) rfl Try.isAgg25 (c := .slice kA rs.length kc) h0 rfl
              · intro wq hq hd
                refine ob_plain rfl ?_
                exact yld_move (.tmp 6) rfl rfl rfl
              · intro wq hq hd
                obtain ⟨h0, h1, -⟩ := hd
                change v 6 = _ at h0
                change v 7 = _ at h1
                refine ob_plain rfl ?_
                exact yld_indexAt unitEl (.tmp 54) (.tmp 55) rfl _ rs kc h0 k h1 (Hrs.out wq hq) rx Hx0.out
              · intro wq hq hd
                obtain ⟨h0, -⟩ := hd
                change (TCells (RUnit.cells rx)).p (v 8) wq at h0
                refine ob_plain rfl ?_
                exact yld_loadAgg 27 (.tmp 56) rfl Try.isAgg27 8 Try.sizeOf27 (RUnit.cells rx) rfl h0 rfl
              · intro wq hq hd
                obtain ⟨h0, -⟩ := hd
                change v 9 = _ at h0
                refine ob_plain rfl ?_
                exact yld_onePair (.tmp 57) rfl h0
              · intro wq hq hT
                have k4 := hT 4 (by decide)
                change (TOwn pairEl wv.heap.size (ps.take p)).p (v 4) wq at k4
                have k10 := hT 10 (by decide)
                change (TSl pairEl [(rx, ux)]).p (v 10) wq at k10
                clear hT
                simp only [List.drop_succ_cons, List.drop_zero, putE, setsE, List.set_cons_succ, List.set_cons_zero, Nat.reduceAdd]
                generalize v 4 = x4 at k4 ⊢
                generalize v 10 = x10 at k10 ⊢
                have hqv := hq
                obtain ⟨A1, c1, hv1, hc1, hs1⟩ := k10
                replace hv1 : x10 = .slice A1 1 c1 := hv1
                subst hv1
                have HOW := Lib.hid k4
                go_wp2_with (first | (refine wpList_appAt pairEl rfl (.tmp 52) (.tmp 58) rfl c1 rfl k4 rfl (ys := [(rx, ux)]) hs1 (by simp; omega) (by have := hqv.size; omega) ?_; intro v8 w8 ho8 hg8 hl8; have hx8 := ext_grown hqv k4 (Nat.le_refl _) hg8; have hsl8 := Hso.out w8 hx8) |
                  (refine wpList_slFrom pairEl rfl (.tmp 61) (.tmp 62) rfl rfl _ rfl hsl8 p rfl hp hc5 ?_; intro Ad yd cd hyd hcd hsd) |
                  (refine wpList_appAt pairEl rfl (.tmp 60) (.tmp 63) rfl cd rfl ho8 rfl (ys := yd) hsd (by have := hyd.out; subst this; simp; omega) (by have := hx8.size; omega) ?_; intro v9 w9 ho9 hg9 hl9; have hx9 := ext_grown hx8 ho8 (Nat.le_refl _) hg9))
                have hfin9 : RsSt j pz (k + 1) wz.heap.size v9 (ps.take p ++ (rx, ux) :: ps.drop p) w9 := by
                  have e9 : ps.take p ++ [(rx, ux)] ++ yd = ps.take p ++ (rx, ux) :: ps.drop p := by rw [hyd.out]; simp
                  rw [e9] at ho9
                  refine ⟨Hfin.out.1, ?_, ho9.mono hextv.size⟩
                  have hk9 : k < pz.length := by omega
                  rw [List.take_succ_eq_append_getElem hk9, show pz[k] = (rx, ux) from by have := Hux.out; rw [List.getElem?_eq_getElem hk9] at this; exact Option.some.inj this]
                  exact (Hso0.out.append (SO.refl _)).trans Hfin.out.2
                clear ho8 ho9 hsd hsl8 hg8 hg9 hl8 hl9
                go_wp2
                go_roundw
                case rel => exact ⟨k + 1, _, by omega, by go_num, hextv.trans hx9, hfin9⟩
                case measure => simp [intOf]; omega
        · have hpz0 : p = 0 := by omega
          have hgt : decide ((0 : Int) < (p : Int)) = false := decide_eq_false (by omega)
          have Hfin := Lib.hid (show Srt (ltC j) (ps.take p ++ (rx, ux) :: ps.drop p) ∧ SO (ltC j) (ps ++ [(rx, ux)]) (ps.take p ++ (rx, ux) :: ps.drop p) from by
            have hsp : Srt (ltC j) (ps.take p ++ ps.drop p) := by rw [List.take_append_drop]; exact Hss.out
            have := ins_done (ltC_wk j) hsp (x := (rx, ux)) (by rw [hpz0]; simp) hdr.out
            rwa [List.take_append_drop] at this)
          clear hpz0
          go_wp2_with fail
          refine wp_drawn (by kernel_rfl) (fun i => match i with | 0 => Ty.is (.int .i64 (p : Nat)) | 1 => Ty.is (.bool false) | 2 => Ty.is (.bool false) | 3 => TGd (false = true) (Ty.any) | 4 => TGd (false = true) (Ty.any) | 5 => TGd (false = true) (Ty.any) | 6 => TGd (false = true) (Ty.any) | 7 => TGd (false = true) (Ty.any) | 8 => TGd (false = true) (Ty.any) | 9 => TGd (false = true) (Ty.any) | 10 => TGd (false = true) (Ty.any) | 11 => TGd (false = true) (Ty.any) | 12 => TGd (false = true) (Ty.any) | 13 => TGd (false = true) (Ty.any) | 14 => TGd (false = true) (Ty.any) | 15 => TGd (false = true) (Ty.any) | 16 => TGd (false = true) (Ty.any) | 17 => TGd (false = true) (Ty.any) | 18 => TGd (false = true) (Ty.any) | 19 => TGd (false = true) (Ty.any) | 20 => TGd (false = true) (Ty.any) | 21 => TGd (false = true) (Ty.any) | 22 => TGd (false = true) (Ty.any) | 23 => TGd (false = true) (Ty.any) | 24 => TGd (false = true) (Ty.any) | 25 => TGd (false = true) (Ty.any) | 26 => Ty.is (.bool false) | _ => Ty.any) (by kernel_rfl) rfl ?_
          intro v
          refine ⟨?_, ?_, ?_, ?_, ?_, ?_, ?_, ?_, ?_, ?_, ?_, ?_, ?_, ?_, ?_, ?_, ?_, ?_, ?_, ?_, ?_, ?_, ?_, ?_, ?_, ?_, ?_, ?_⟩
          · intro wq hq hd
            refine ob_plain rfl ?_
            exact yld_move (.tmp 7) rfl rfl rfl
          · intro wq hq hd
            obtain ⟨h0, -⟩ := hd
            change v 0 = _ at h0
            refine ob_plain rfl ?_
            exact yld_binInt .gtr 3 3 (.tmp 19) _ rfl _ _ h0 rfl (fun w => by rw [run_gtr_i64, hgt]) rfl
          · intro wq hq hd
            obtain ⟨h0, -⟩ := hd
            change v 1 = _ at h0
            refine ob_plain rfl ?_
            exact yld_move (.tmp 20) rfl h0 rfl
          · intro wq hq hd
            obtain ⟨h0, -⟩ := hd
            change v 2 = _ at h0
            refine ob_guard 2 true (false) rfl (yields_of rfl h0) (fun hg => ?_) (fun hg => ?_)
            · refine Yld.gd (p := false = true) (T := Ty.any) ?_
              cases hg
            · intro hn; rw [hn] at hg; cases hg
          · intro wq hq hd
            obtain ⟨h0, -⟩ := hd
            change v 2 = _ at h0
            refine ob_guard 2 true (false) rfl (yields_of rfl h0) (fun hg => ?_) (fun hg => ?_)
            · refine Yld.gd (p := false = true) (T := Ty.any) ?_
              cases hg
            · intro hn; rw [hn] at hg; cases hg
          · intro wq hq hd
            obtain ⟨h0, h1, -⟩ := hd
            change v 2 = _ at h1
            refine ob_guard 2 true (false) rfl (yields_of rfl h1) (fun hg => ?_) (fun hg => ?_)
            · refine Yld.gd (p := false = true) (T := Ty.any) ?_
              cases hg
            · intro hn; rw [hn] at hg; cases hg
          · intro wq hq hd
            obtain ⟨h0, h1, h2, -⟩ := hd
            change v 2 = _ at h2
            refine ob_guard 2 true (false) rfl (yields_of rfl h2) (fun hg => ?_) (fun hg => ?_)
            · refine Yld.gd (p := false = true) (T := Ty.any) ?_
              cases hg
            · intro hn; rw [hn] at hg; cases hg
          · intro wq hq hd
            obtain ⟨h0, h1, -⟩ := hd
            change v 2 = _ at h1
            refine ob_guard 2 true (false) rfl (yields_of rfl h1) (fun hg => ?_) (fun hg => ?_)
            · refine Yld.gd (p := false = true) (T := Ty.any) ?_
              cases hg
            · intro hn; rw [hn] at hg; cases hg
          · intro wq hq hd
            obtain ⟨h0, h1, -⟩ := hd
            change v 2 = _ at h1
            refine ob_guard 2 true (false) rfl (yields_of rfl h1) (fun hg => ?_) (fun hg => ?_)
            · refine Yld.gd (p := false = true) (T := Ty.any) ?_
              cases hg
            · intro hn; rw [hn] at hg; cases hg
          · intro wq hq hd
            obtain ⟨h0, -⟩ := hd
            change v 2 = _ at h0
            refine ob_guard 2 true (false) rfl (yields_of rfl h0) (fun hg => ?_) (fun hg => ?_)
            · refine Yld.gd (p := false = true) (T := Ty.any) ?_
              cases hg
            · intro hn; rw [hn] at hg; cases hg
          · intro wq hq hd
            obtain ⟨h0, h1, h2, -⟩ := hd
            change v 2 = _ at h2
            refine ob_guard 2 true (false) rfl (yields_of rfl h2) (fun hg => ?_) (fun hg => ?_)
            · refine Yld.gd (p := false = true) (T := Ty.any) ?_
              cases hg
            · intro hn; rw [hn] at hg; cases hg
          · intro wq hq hd
            obtain ⟨h0, h1, -⟩ := hd
            change v 2 = _ at h1
            refine ob_guard 2 true (false) rfl (yields_of rfl h1) (fun hg => ?_) (fun hg => ?_)
            · refine Yld.gd (p := false = true) (T := Ty.any) ?_
              cases hg
            · intro hn; rw [hn] at hg; cases hg
          · intro wq hq hd
            obtain ⟨h0, h1, -⟩ := hd
            change v 2 = _ at h1
            refine ob_guard 2 true (false) rfl (yields_of rfl h1) (fun hg => ?_) (fun hg => ?_)
            · refine Yld.gd (p := false = true) (T := Ty.any) ?_
              cases hg
            · intro hn; rw [hn] at hg; cases hg
          · intro wq hq hd
            obtain ⟨h0, h1, h2, -⟩ := hd
            change v 2 = _ at h1
            refine ob_guard 2 true (false) rfl (yields_of rfl h1) (fun hg => ?_) (fun hg => ?_)
            · refine Yld.gd (p := false = true) (T := Ty.any) ?_
              cases hg
            · intro hn; rw [hn] at hg; cases hg
          · intro wq hq hd
            obtain ⟨h0, -⟩ := hd
            change v 2 = _ at h0
            refine ob_guard 2 true (false) rfl (yields_of rfl h0) (fun hg => ?_) (fun hg => ?_)
            · refine Yld.gd (p := false = true) (T := Ty.any) ?_
              cases hg
            · intro hn; rw [hn] at hg; cases hg
          · intro wq hq hd
            obtain ⟨h0, h1, -⟩ := hd
            change v 2 = _ at h1
            refine ob_guard 2 true (false) rfl (yields_of rfl h1) (fun hg => ?_) (fun hg => ?_)
            · refine Yld.gd (p := false = true) (T := Ty.any) ?_
              cases hg
            · intro hn; rw [hn] at hg; cases hg
          · intro wq hq hd
            obtain ⟨h0, -⟩ := hd
            change v 2 = _ at h0
            refine ob_guard 2 true (false) rfl (yields_of rfl h0) (fun hg => ?_) (fun hg => ?_)
            · refine Yld.gd (p := false = true) (T := Ty.any) ?_
              cases hg
            · intro hn; rw [hn] at hg; cases hg
          · intro wq hq hd
            obtain ⟨h0, h1, h2, -⟩ := hd
            change v 2 = _ at h2
            refine ob_guard 2 true (false) rfl (yields_of rfl h2) (fun hg => ?_) (fun hg => ?_)
            · refine Yld.gd (p := false = true) (T := Ty.any) ?_
              cases hg
            · intro hn; rw [hn] at hg; cases hg
          · intro wq hq hd
            obtain ⟨h0, h1, -⟩ := hd
            change v 2 = _ at h1
            refine ob_guard 2 true (false) rfl (yields_of rfl h1) (fun hg => ?_) (fun hg => ?_)
            · refine Yld.gd (p := false = true) (T := Ty.any) ?_
              cases hg
            · intro hn; rw [hn] at hg; cases hg
          · intro wq hq hd
            obtain ⟨h0, h1, -⟩ := hd
            change v 2 = _ at h1
            refine ob_guard 2 true (false) rfl (yields_of rfl h1) (fun hg => ?_) (fun hg => ?_)
            · refine Yld.gd (p := false = true) (T := Ty.any) ?_
              cases hg
            · intro hn; rw [hn] at hg; cases hg
          · intro wq hq hd
            obtain ⟨h0, -⟩ := hd
            change v 2 = _ at h0
            refine ob_guard 2 true (false) rfl (yields_of rfl h0) (fun hg => ?_) (fun hg => ?_)
            · refine Yld.gd (p := false = true) (T := Ty.any) ?_
              cases hg
            · intro hn; rw [hn] at hg; cases hg
          · intro wq hq hd
            obtain ⟨h0, h1, h2, -⟩ := hd
            change v 2 = _ at h2
            refine ob_guard 2 true (false) rfl (yields_of rfl h2) (fun hg => ?_) (fun hg => ?_)
            · refine Yld.gd (p := false = true) (T := Ty.any) ?_
              cases hg
            · intro hn; rw [hn] at hg; cases hg
          · intro wq hq hd
            obtain ⟨h0, h1, -⟩ := hd
            change v 2 = _ at h1
            refine ob_guard 2 true (false) rfl (yields_of rfl h1) (fun hg => ?_) (fun hg => ?_)
            · refine Yld.gd (p := false = true) (T := Ty.any) ?_
              cases hg
            · intro hn; rw [hn] at hg; cases hg
          · intro wq hq hd
            obtain ⟨h0, h1, -⟩ := hd
            change v 2 = _ at h1
            refine ob_guard 2 true (false) rfl (yields_of rfl h1) (fun hg => ?_) (fun hg => ?_)
            · refine Yld.gd (p := false = true) (T := Ty.any) ?_
              cases hg
            · intro hn; rw [hn] at hg; cases hg
          · intro wq hq hd
            obtain ⟨h0, h1, h2, -⟩ := hd
            change v 2 = _ at h2
            refine ob_guard 2 true (false) rfl (yields_of rfl h2) (fun hg => ?_) (fun hg => ?_)
            · refine Yld.gd (p := false = true) (T := Ty.any) ?_
              cases hg
            · intro hn; rw [hn] at hg; cases hg
          · intro wq hq hd
            obtain ⟨h0, h1, h2, -⟩ := hd
            change v 2 = _ at h2
            refine ob_guard 2 true (false) rfl (yields_of rfl h2) (fun hg => ?_) (fun hg => ?_)
            · refine Yld.gd (p := false = true) (T := Ty.any) ?_
              cases hg
            · intro hn; rw [hn] at hg; cases hg
          · intro wq hq hd
            obtain ⟨h0, h1, -⟩ := hd
            change v 2 = _ at h0
            refine ob_plain rfl ?_
            exact yld_and (.tmp 21) (.tmp 44) rfl rfl false true h0 (fun hgd => by cases hgd) rfl
          · intro wq hq hT
            have k26 := hT 26 (by decide)
            change v 26 = _ at k26
            clear hT
            simp only [List.drop_succ_cons, List.drop_zero, putE, setsE, List.set_cons_succ, List.set_cons_zero, Nat.reduceAdd]
            rw [k26]
            obtain ⟨wv, hwv⟩ : ∃ wv, wv = wq := ⟨_, rfl⟩
            rw [← hwv] at hq ⊢
            have hextv := hextr.trans hq
            have Hso := Lib.hid (show ∀ w', Ext wv w' → Sl pairEl w' A5 ps from fun w' he => Hso.out w' (hq.trans he))
            have Hbt := Lib.hid (show ∀ w', Ext wv w' → (TCells [.int .i64 ra, .int .i64 ri, .int .i64 rn, .int .i64 rk, .string rl, .slice hdA hn hc, .slice wA wn wc, .slice kA rs.length kc]).p (.pointer (some ⟨w.heap.size, 0, none⟩)) w' from fun w' he => Hbt.out w' (hq.trans he))
            have Hrs := Lib.hid (show ∀ w', Ext wv w' → Sl unitEl w' kA rs from fun w' he => Hrs.out w' (hq.trans he))
            clear hwv hq
            go_wp2_with fail
            refine wp_drawn_tail 11 (fun i => match i with | 0 => TEmptyO pairEl wv.heap.size | 1 => Ty.is (.slice A5 ps.length c5) | 2 => Ty.is (.int .i64 (p : Nat)) | 3 => TSl pairEl (ps.take p) | 4 => TOwn pairEl wv.heap.size (ps.take p) | 5 => TCells [.slice kA rs.length kc] | 6 => Ty.is (.slice kA rs.length kc) | 7 => Ty.is (.int .i64 (k : Nat)) | 8 => TCells (RUnit.cells rx) | 9 => Ty.is (.agg (RUnit.cells rx).toArray) | 10 => TSl pairEl [(rx, ux)] | _ => Ty.any) (by kernel_rfl) (by kernel_rfl) (by kernel_rfl) (by decide) rfl ?_
            intro v
            refine ⟨?_, ?_, ?_, ?_, ?_, ?_, ?_, ?_, ?_, ?_, ?_, ?_⟩
            · intro wq hq hd
              refine ob_plain rfl ?_
              exact yld_emptyO pairEl rfl hq.size
            · intro wq hq hd
              refine ob_plain rfl ?_
              exact yld_move (.tmp 5) rfl rfl rfl
            · intro wq hq hd
              refine ob_plain rfl ?_
              exact yld_move (.tmp 7) rfl rfl rfl
            · intro wq hq hd
              obtain ⟨h0, h1, -⟩ := hd
              change v 1 = _ at h0
              change v 2 = _ at h1
              refine ob_plain rfl ?_
              exact yld_slToO pairEl (.tmp 49) (.tmp 50) rfl c5 h0 p h1 (Hso.out wq hq) (by omega) hc5
            · intro wq hq hd
              obtain ⟨h0, h1, -⟩ := hd
              change (TEmptyO pairEl wv.heap.size).p (v 0) wq at h0
              change (TSl pairEl (ps.take p)).p (v 3) wq at h1
              refine ob_plain rfl ?_
              obtain ⟨Ae, he1, he2⟩ := h0
              obtain ⟨A3, c3, h31, h32, h33⟩ := h1
              exact yld_appOwnO pairEl (.tmp 48) (.tmp 51) rfl c3 wv.heap.size Ae he1 (he1 ▸ he2) h31 h33 (by simp; omega) hq.size
            · intro wq hq hd
              refine ob_plain rfl ?_
              exact yld_field 27 5 (.tmp 2) rfl _ Try.underlying27 _ rfl 1 Try.sizeOf25 (by decide) [.int .i64 ra, .int .i64 ri, .int .i64 rn, .int .i64 rk, .string rl, .slice hdA hn hc, .slice wA wn wc, .slice kA rs.length kc] (Hbt.out _ hq)
            · intro wq hq hd
              obtain ⟨h0, -⟩ := hd
              change (TCells [.slice kA rs.length kc]).p (v 5) wq at h0
              refine ob_plain rfl ?_
              exact yld_loadOne 25 (.tmp 53) rfl Try.isAgg25 (c := .slice kA rs.length kc) h0 rfl
            · intro wq hq hd
              refine ob_plain rfl ?_
              exact yld_move (.tmp 6) rfl rfl rfl
            · intro wq hq hd
              obtain ⟨h0, h1, -⟩ := hd
              change v 6 = _ at h0
              change v 7 = _ at h1
              refine ob_plain rfl ?_
              exact yld_indexAt unitEl (.tmp 54) (.tmp 55) rfl _ rs kc h0 k h1 (Hrs.out wq hq) rx Hx0.out
            · intro wq hq hd
              obtain ⟨h0, -⟩ := hd
              change (TCells (RUnit.cells rx)).p (v 8) wq at h0
              refine ob_plain rfl ?_
              exact yld_loadAgg 27 (.tmp 56) rfl Try.isAgg27 8 Try.sizeOf27 (RUnit.cells rx) rfl h0 rfl
            · intro wq hq hd
              obtain ⟨h0, -⟩ := hd
              change v 9 = _ at h0
              refine ob_plain rfl ?_
              exact yld_onePair (.tmp 57) rfl h0
            · intro wq hq hT
              have k4 := hT 4 (by decide)
              change (TOwn pairEl wv.heap.size (ps.take p)).p (v 4) wq at k4
              have k10 := hT 10 (by decide)
              change (TSl pairEl [(rx, ux)]).p (v 10) wq at k10
              clear hT
              simp only [List.drop_succ_cons, List.drop_zero, putE, setsE, List.set_cons_succ, List.set_cons_zero, Nat.reduceAdd]
              generalize v 4 = x4 at k4 ⊢
              generalize v 10 = x10 at k10 ⊢
              have hqv := hq
              obtain ⟨A1, c1, hv1, hc1, hs1⟩ := k10
              replace hv1 : x10 = .slice A1 1 c1 := hv1
              subst hv1
              have HOW := Lib.hid k4
              go_wp2_with (first | (refine wpList_appAt pairEl rfl (.tmp 52) (.tmp 58) rfl c1 rfl k4 rfl (ys := [(rx, ux)]) hs1 (by simp; omega) (by have := hqv.size; omega) ?_; intro v8 w8 ho8 hg8 hl8; have hx8 := ext_grown hqv k4 (Nat.le_refl _) hg8; have hsl8 := Hso.out w8 hx8) |
                (refine wpList_slFrom pairEl rfl (.tmp 61) (.tmp 62) rfl rfl _ rfl hsl8 p rfl hp hc5 ?_; intro Ad yd cd hyd hcd hsd) |
                (refine wpList_appAt pairEl rfl (.tmp 60) (.tmp 63) rfl cd rfl ho8 rfl (ys := yd) hsd (by have := hyd.out; subst this; simp; omega) (by have := hx8.size; omega) ?_; intro v9 w9 ho9 hg9 hl9; have hx9 := ext_grown hx8 ho8 (Nat.le_refl _) hg9))
              have hfin9 : RsSt j pz (k + 1) wz.heap.size v9 (ps.take p ++ (rx, ux) :: ps.drop p) w9 := by
                have e9 : ps.take p ++ [(rx, ux)] ++ yd = ps.take p ++ (rx, ux) :: ps.drop p := by rw [hyd.out]; simp
                rw [e9] at ho9
                refine ⟨Hfin.out.1, ?_, ho9.mono hextv.size⟩
                have hk9 : k < pz.length := by omega
                rw [List.take_succ_eq_append_getElem hk9, show pz[k] = (rx, ux) from by have := Hux.out; rw [List.getElem?_eq_getElem hk9] at this; exact Option.some.inj this]
                exact (Hso0.out.append (SO.refl _)).trans Hfin.out.2
              clear ho8 ho9 hsd hsl8 hg8 hg9 hl8 hl9
              go_wp2
              go_roundw
              case rel => exact ⟨k + 1, _, by omega, by go_num, hextv.trans hx9, hfin9⟩
              case measure => simp [intOf]; omega
    · have hkr : k = rs.length := by omega
      have d1 : decide ((k : Int) < (rs.length : Int)) = false := decide_eq_false (by omega)
      rw [hkr, List.take_of_length_le (by omega)] at hso
      have hbx := (hext.block (k := w.heap.size) (by omega)).trans Hbx.out
      have hre := (hext.block (k := w.heap.size + 1) (by omega)).trans Hres.out
      have Hs := Lib.hid (And.intro hss hso)
      have hrz := hext.size
      have Hkr := Lib.hid hkr
      clear hss hso hkr hpsl
      go_wp2_with (first | (refine wpList_put rfl 25 (.tmp 66) (.tmp 65) rfl w.heap.size 7 (.slice A5 ps.length c5) rfl rfl [.slice A5 ps.length c5] rfl Try.sizeOf25 (by simp [Value.oneCell']) 27 _ hbx (by simp [RUnit.cells]) ?_; intro w1 hw1 hos1 htp1 hou1 hs1 hbk1; have Hs1 := Lib.hid hs1; clear hs1 f7; have hb1 : w1.heap[w.heap.size]? = some (.cells (RUnit.cells ⟨ra, ri, rn, rk, rl, hdA, hn, hc, wA, wn, wc, A5, ps.length, c5⟩).toArray 27 (0, 0)) := hbk1.trans (by simp [RUnit.cells]); have hr1 := (hw1 (w.heap.size + 1) (by omega)).trans hre; obtain ⟨f0, f1, f2, f3, f4, f5, f6, f7⟩ := unitBlock hb1; clear hbk1) |
        (refine wpList_put rfl 27 (.tmp 4) (.tmp 67) rfl (w.heap.size + 1) 0 (.agg (RUnit.cells ⟨ra, ri, rn, rk, rl, hdA, hn, hc, wA, wn, wc, A5, ps.length, c5⟩).toArray) rfl rfl (RUnit.cells ⟨ra, ri, rn, rk, rl, hdA, hn, hc, wA, wn, wc, A5, ps.length, c5⟩) rfl Try.sizeOf27 (unitEl.h1 _) 27 _ hr1 (by simp [RUnit.cells, unit0]) ?_; intro w2 hw2 hos2 htp2 hou2 hs2 hbk2; have Hs2 := Lib.hid hs2; clear hs2 f0 f1 f2 f3 f4 f5 f6 f7))
      have hfin2 : w2.heap[w.heap.size + 1]? = some (.cells (RUnit.cells ⟨ra, ri, rn, rk, rl, hdA, hn, hc, wA, wn, wc, A5, ps.length, c5⟩).toArray 27 (0, 0)) := hbk2.trans (by simp [RUnit.cells, unit0])
      have hs1 := Hs1.out
      have hs2 := Hs2.out
      have hx1 : Ext w w1 := (hx0.trans hext).put (Nat.le_refl _) hw1 hos1 htp1 hou1 hs1
      have hx2 : Ext w w2 := hx1.put (by omega) hw2 hos2 htp2 hou2 hs2
      have hown2 : Own pairEl wz.heap.size w2 (.slice A5 ps.length c5) ps := hown.keep fun q hq => by
        have := (hown.lt q hq).1
        exact (hw2 q (by omega)).trans (hw1 q (by omega))
      obtain ⟨A6, c6, hv6, hc6, hs6⟩ := (Own.pairs.1 hown2).form
      rw [Value.slice.injEq] at hv6
      obtain ⟨rfl, -, rfl⟩ := hv6
      (try simp only [Exit.inBlock, Exit.then])
      refine bodyPost_ret (results_cell1 rfl _ _ (w.heap.size + 1) _ rfl hfin2) rfl ?_
      refine ⟨_, rfl, hx2, ?_⟩
      have hu : sortL (ltG j) kids = ps.map Prod.snd := by
        have h1 : SortedOf j kids (ps.map Prod.snd) := ⟨Hs.out.1.units, by have := Hs.out.2.units; rwa [Hsnd.out] at this⟩
        exact h1.eq.symm
      show Reads w2 (.mk ua ui un ukd ulb uh uw (sortL (ltG j) kids)) _
      rw [hu, Reads]
      obtain ⟨hsc, ⟨g1, g2, g3⟩, ⟨g4, g5, g6⟩⟩ := Hhead.out
      rw [List.length_map] at hc6
      exact ⟨hsc, ⟨g1, g2, g3.ext hx2⟩, ⟨g4, g5, g6.ext hx2⟩, by simp, by simpa using hc6, ps.map Prod.fst, hs6, ReadsAll.ofPairs fun q hq => Reads.ext hx2 _ _ (Hpz.out q (Hs.out.2.perm.mem_iff.2 hq)).1⟩

end Go.Proofs.Ythjlnpcanccmkaa
