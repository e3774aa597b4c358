/- The law on a book that is set on pages. -/
import Derived.Test.YtjhdamjbljafhaaGreatDoorP50
namespace Go.Proofs.YtjhdamjbljafhaaGreatDoor
open Go.RowKit
def f2 (p : Nat × Nat) : Nat := 2 + p.1 + p.2
def wantF (l : List (Nat × Nat)) (k : Nat) : Nat := (((l.take k).drop 1).map f2).sum
theorem wantF_step {l : List (Nat × Nat)} {k : Nat} (h1 : 1 ≤ k) (hk : k < l.length) : wantF l (k + 1) = wantF l k + f2 l[k] := by
  unfold wantF
  rw [List.take_succ_eq_append_getElem hk, List.drop_append_of_le_length (by rw [List.length_take]; omega), List.map_append, List.sum_append]
  simp
theorem wantF_le (l : List (Nat × Nat)) (k : Nat) : wantF l k ≤ (l.map f2).sum := by
  unfold wantF
  have h1 : (l.map f2).sum = ((l.take k).map f2).sum + ((l.drop k).map f2).sum := by rw [← List.sum_append, ← List.map_append, List.take_append_drop]
  have h2 : ((l.take k).map f2).sum = (((l.take k).take 1).map f2).sum + (((l.take k).drop 1).map f2).sum := by rw [← List.sum_append, ← List.map_append, List.take_append_drop]
  omega
mutual
theorem tot_pre : ∀ u : GUnit, (((preF u).map wcnt).map f2).sum = totU u
  | .mk a i n k l hd wd kids => by
    rw [preF, totU]
    simp only [List.map_cons, List.sum_cons]
    rw [tot_preL kids]
    rfl
theorem tot_preL : ∀ us : List GUnit, (((preL us).map wcnt).map f2).sum = totL us
  | [] => by rw [preL, totL]; rfl
  | u :: us => by
    rw [preL, totL, List.map_append, List.map_append, List.sum_append, tot_pre u, tot_preL us]
end
theorem wantF_all (u : GUnit) : wantF ((preF u).map wcnt) ((preF u).map wcnt).length = totL u.kids := by
  unfold wantF
  rw [List.take_length, preF_cons, List.map_cons, List.drop_one, List.tail_cons]
  exact tot_preL u.kids
theorem idxG_len {ps : List GPage} {g : ByteArray → List Int} {s : ByteArray} : (ps.foldl pushP g s).length ≤ (g s).length + psum ps := by
  induction ps generalizing g with
  | nil => simp [psum]
  | cons p ps ih =>
    have h1 := ih (g := pushP g p)
    have h2 : (pushP g p s).length ≤ (g s).length + pW p := by
      rw [← pgWords_len]
      unfold pushP
      generalize pgWords p = l
      clear h1 ih
      induction l generalizing g with
      | nil => simp
      | cons x l ih =>
        have h1 := ih (g := pushW (p.n : Int) g x)
        have h2 : (pushW (p.n : Int) g x s).length ≤ (g s).length + 1 := by
          unfold pushW
          split <;> simp
        simp only [List.foldl_cons, List.length_cons] at h1 ⊢
        omega
    simp only [List.foldl_cons, psum, List.map_cons, List.sum_cons] at h1 h2 ⊢
    omega
set_option maxRecDepth 100000 in
set_option maxHeartbeats 25600000 in
theorem topPages_law (u : GUnit) (r : RUnit) (W H : Int) (w : World) (hr : Reads w u r) (hbig : AllU (lensLe 9223372036854775807 9223372036854775807) u) (hT : Tabs w) : Calls Tryz.prog 3 #[.agg r.cells.toArray, .int .i64 W, .int .i64 H] w fun e w' => e = .returned (.bool true) ∧ Ext w w' := by
  have hbx := BoxU.new r w
  have hx0 : Ext w (w.alloc (.cells r.cells.toArray 27)) := (Ext.refl w).alloc _
  have Hbook := Lib.hid (fun wq (he : Ext w wq) => book_any u r 20 wq (Reads.ext he u r hr) hbig (by omega) (by omega))
  have Hpag := Lib.hid (fun (h : BookOk u 20) wq (he : Ext w wq) => paginate_any u r W H wq (Reads.ext he u r hr) (few_ok (by omega) (by omega) h.few) (hT.ext he) h.may.2 h.may.1)
  have Hpre := Lib.hid (fun (h : BookOk u 20) wq (he : Ext w wq) => pre_any u r wq (Reads.ext he u r hr) (few_ok (by omega) (by omega) h.few))
  have Htb := Lib.hid (fun (h : BookOk u 20) => (show totU u ≤ 602000 from by
    have h1 := few_ok (by omega) (by omega) h.few
    have h2 := totU_le u h1.all
    have h3 := h1.cnt
    omega))
  have Htp := Lib.hid (tot_pre u)
  have Hwa := Lib.hid (wantF_all u)
  have Hpl := Lib.hid (show 1 ≤ ((preF u).map wcnt).length by rw [preF_cons]; simp)
  obtain ⟨ra, ri, rn, rk, rl, hdA, hn, hc, wA, wn, wc', kA, kn, kc⟩ := r
  simp only [RUnit.cells] at hbx hx0 Hbook Hpag Hpre ⊢
  obtain ⟨wb, hwb⟩ : ∃ wb, w.alloc (.cells #[.int .i64 ra, .int .i64 ri, .int .i64 rn, .int .i64 rk, .string rl, .slice hdA hn hc, .slice wA wn wc', .slice kA kn kc] 27) = wb := ⟨_, rfl⟩
  rw [hwb] at hbx hx0
  have Hwb := Lib.hid hwb
  have Hbx := Lib.hid hbx
  have Hx0 := Lib.hid hx0
  obtain ⟨hb0, c0, c1, c2, c3, c4, c5, c6, c7⟩ := hbx
  dsimp only at c0 c1 c2 c3 c4 c5 c6 c7
  obtain ⟨ws, hws⟩ : ∃ ws, (preF u).map wcnt = ws := ⟨_, rfl⟩
  rw [hws] at Hpre Htp Hwa Hpl
  clear hr hbig hT hwb hx0 hws
  go_enter Tryz.func3, Tryz.ntmps3
  go_wp2_with fail
  rw [Hwb.out]
  refine (Hbook.out wb Hx0.out).mono ?_
  rintro e w2 ⟨b, rfl, hb, hx2⟩
  have Hx2 := Lib.hid (Hx0.out.trans hx2)
  have Hb2 := Lib.hid (Hbx.out.ext hx2)
  cases b with
  | false =>
    clear c0 c1 c2 c3 c4 c5 c6 c7
    go_wp2
    go_ret
    exact ⟨rfl, Hx2.out⟩
  | true =>
  have Hbk := Lib.hid (hb rfl)
  clear c0 c1 c2 c3 c4 c5 c6 c7 hb hx2 hb0
  obtain ⟨hb0, c0, c1, c2, c3, c4, c5, c6, c7⟩ := Hb2.out
  dsimp only at c0 c1 c2 c3 c4 c5 c6 c7
  go_wp2_with fail
  refine (Hpag.out Hbk.out w2 Hx2.out).mono ?_
  rintro e w3 ⟨z, A, c, L, rfl, hcc, hsl, hpo, hx3, hz1, hz2⟩
  have Hx3 := Lib.hid (Hx2.out.trans hx3)
  have Hb3 := Lib.hid (Hb2.out.ext hx3)
  have Hsl := Lib.hid hsl
  have Hpo := Lib.hid hpo
  clear c0 c1 c2 c3 c4 c5 c6 c7 hb0 hx3 hsl hpo
  by_cases hz0 : z = 0
  case neg =>
    have e1 : decide (z ≠ 0) = true := decide_eq_true hz0
    have e1' : decide (z = 0) = false := decide_eq_false hz0
    have hL := hz1 hz0
    subst hL
    clear hz1 hz2
    go_wp2
    go_ret
    exact ⟨rfl, Hx3.out⟩
  subst hz0
  obtain ⟨hok, hsum, hpw, hW, hH⟩ := hz2 rfl
  clear hz1 hz2
  have Hok := Lib.hid hok
  have Hsum := Lib.hid hsum
  have hcnt := psum_len (W := W) hpw
  rw [hsum, List.length_map] at hcnt
  have htl : totL u.kids ≤ 602000 := by
    have h1 := Htb.out Hbk.out
    rw [totU_eq] at h1
    omega
  obtain ⟨Ln, hLn⟩ : ∃ Ln, (L.map Prod.snd).length = Ln := ⟨_, rfl⟩
  have hLn2 : Ln = L.length := by rw [← hLn, List.length_map]
  have Hi := Lib.hid (show PgIn (L.map Prod.fst) from ⟨fun p hp s hs => by
      obtain ⟨-, h1, h2, -⟩ := hok.each p hp
      rcases List.mem_append.1 hs with hs | hs
      · have := h1 s hs; omega
      · have := h2 s hs; omega, by rw [List.length_map]; omega, by rw [hsum]; omega, fun p hp => by
      obtain ⟨-, -, -, h1⟩ := hok.each p hp
      unfold pgT
      rw [List.length_append]
      split at h1 <;> omega⟩)
  have Hnum := Lib.hid (show ∀ p ∈ L.map Prod.fst, p.n ≤ 1000000 from fun p hp => by
    obtain ⟨k, hk, rfl⟩ := List.getElem_of_mem hp
    have h1 := hok.num k hk
    rw [List.length_map] at hk
    omega)
  have Hgl := Lib.hid (show ∀ t, (idxG (L.map Prod.fst) t).length ≤ 1000000 from fun t => by
    have h1 := idxG_len (ps := L.map Prod.fst) (g := fun _ => []) (s := t)
    have h2 := hsum
    unfold idxG
    simp only [List.length_nil] at h1
    omega)
  have Hgm := Lib.hid (show ∀ t z, z ∈ idxG (L.map Prod.fst) t → 1 ≤ z ∧ z ≤ (Ln : Int) from fun t z hz => by
    rcases idxG_mem hz with h | ⟨p, hp, rfl⟩
    · simp at h
    · obtain ⟨k, hk, rfl⟩ := List.getElem_of_mem hp
      have h1 := hok.num k hk
      rw [List.length_map] at hk
      omega)
  have HLn := Lib.hid hLn
  have HLn2 := Lib.hid hLn2
  have hLnb : Ln ≤ 602000 := by omega
  have HLw := Lib.hid (fun wq (he : Ext w3 wq) => (show Calls Tryz.prog 7 #[.slice A Ln c] wq (RetOwn strEl wq (wdsF (L.map Prod.fst))) from by
    have h := pwords_any A c L wq (Hsl.out.ext he) (fun x hx => (Hpo.out x hx).ext he) Hi.out
    rw [← hLn2] at h
    exact h))
  have HLi := Lib.hid (fun wq (he : Ext w3 wq) => (show Calls Tryz.prog 8 #[.slice A Ln c] wq (RetIdx wq (idxG (L.map Prod.fst))) from by
    have h := index_any A c L wq (Hsl.out.ext he) (fun x hx => (Hpo.out x hx).ext he) Hi.out Hnum.out
    rw [← hLn2] at h
    exact h))
  have HLf := Lib.hid (fun s wq (he : Ext w3 wq) => (show Calls Tryz.prog 9 #[.string s, .slice A Ln c] wq (RetFnd wq (idxG (L.map Prod.fst)) s) from by
    have h := find_any8 s A c L wq (Hsl.out.ext he) (fun x hx => (Hpo.out x hx).ext he) Hi.out Hnum.out Hgl.out
    rw [← hLn2] at h
    exact h))
  have Hpr := Lib.hid (Hpre.out Hbk.out w3 Hx3.out)
  rw [hLn]
  obtain ⟨hb0, c0, c1, c2, c3, c4, c5, c6, c7⟩ := Hb3.out
  dsimp only at c0 c1 c2 c3 c4 c5 c6 c7
  clear hok hsum hpw hcnt hLn hLn2 hcc Hpag Hpre Hbook
  go_wp2_with fail
  refine (Hpr.out).mono ?_
  rintro e w4 ⟨v5, rs, rfl, hown5, hrs, hx4⟩
  obtain ⟨A5, d5, rfl, -, hs5⟩ := hown5.form
  have Hs5 := Lib.hid hs5
  have Hrs := Lib.hid hrs
  have Hx4 := Lib.hid hx4
  have hrl := congrArg List.length hrs
  rw [List.length_map] at hrl
  obtain ⟨n5, hn5⟩ : ∃ n5, rs.length = n5 := ⟨_, rfl⟩
  have Hn5 := Lib.hid hn5
  rw [hn5] at hrl ⊢
  have Hnw := Lib.hid hrl
  have hnb : n5 ≤ 602000 := by
    have h1 := Htb.out Hbk.out
    rw [← Htp.out] at h1
    have h2 : ∀ l : List (Nat × Nat), l.length ≤ (l.map f2).sum := by
      intro l
      induction l with
      | nil => simp
      | cons x l ih => simp only [List.length_cons, List.map_cons, List.sum_cons]; unfold f2 at ih ⊢; omega
    have h3 := h2 ws
    omega
  have hn1 : 1 ≤ n5 := by have := Hpl.out; omega
  clear hown5 hs5 hrs hx4 c0 c1 c2 c3 c4 c5 c6 c7 hn5 hrl Hpr
  go_wp2
  go_loopw [9, 11] (fun vt vk wr => ∃ (k t : Nat), 1 ≤ k ∧ k ≤ n5 ∧ vk = .int .i64 (k : Nat) ∧ vt = .int .i64 (t : Nat) ∧ Hid (t = wantF ws k) ∧ Ext w4 wr) (fun _ vk _ => n5 - (intOf vk).toNat)
  case atStart => exact ⟨1, 0, Nat.le_refl _, hn1, rfl, rfl, Lib.hid (by unfold wantF; rw [List.drop_eq_nil_of_le (by simp; omega)]; rfl), Ext.refl _⟩
  case round =>
    obtain ⟨k, t, hk1, hk, rfl, rfl, Ht, hext⟩ := hrel
    by_cases hlt : k < n5
    · obtain ⟨q, hq⟩ : ∃ q, rs[k]? = some q := ⟨_, List.getElem?_eq_getElem (by rw [Hn5.out]; exact hlt)⟩
      have Hq := Lib.hid hq
      have Hsl := Lib.hid (fun wq (he : Ext wr wq) => (Hs5.out.ext hext).ext he)
      have hltw : k < ws.length := by rw [← Hnw.out]; exact hlt
      have hqw : ws[k] = rcnt q := by
        have h1 : (rs.map rcnt)[k]? = some (rcnt q) := by rw [List.getElem?_map, hq]; rfl
        rw [Hrs.out, List.getElem?_eq_getElem hltw] at h1
        exact Option.some.inj h1
      have hstep := wantF_step hk1 hltw
      rw [hqw] at hstep
      have hle := wantF_le ws (k + 1)
      have h602 := Htb.out Hbk.out
      rw [Htp.out] at hle
      have hf : f2 (rcnt q) = 2 + q.hn + q.wn := rfl
      rw [hstep, hf, ← Ht.out] at hle
      have Hstep := Lib.hid (show wantF ws (k + 1) = t + 2 + q.hn + q.wn by rw [hstep, hf, ← Ht.out]; omega)
      have e1 : decide ((k : Int) < (n5 : Int)) = true := decide_eq_true (by omega)
      have Hext := Lib.hid hext
      clear hq hqw hstep hf hltw hext
      go_wp2
      refine wp_drawn_tail 17 (fun i => match i with | 0 => Ty.is (.int .i64 (t : Nat)) | 1 => Ty.is (.int .i64 (t + 2 : Nat)) | 2 => Ty.is (.slice A5 n5 d5) | 3 => Ty.is (.int .i64 (k : Nat)) | 4 => TCells (RUnit.cells q) | 5 => TCells [.slice q.hA q.hn q.hc] | 6 => Ty.is (.slice q.hA q.hn q.hc) | 7 => Ty.is (.int .i64 q.hn) | 8 => Ty.is (.int .i64 (t + 2 + q.hn : Nat)) | 9 => Ty.is (.slice A5 n5 d5) | 10 => Ty.is (.int .i64 (k : Nat)) | 11 => TCells (RUnit.cells q) | 12 => TCells [.slice q.wA q.wn q.wc] | 13 => Ty.is (.slice q.wA q.wn q.wc) | 14 => Ty.is (.int .i64 q.wn) | 15 => Ty.is (.int .i64 (t + 2 + q.hn + q.wn : Nat)) | 16 => Ty.is (.int .i64 (t + 2 + q.hn + q.wn : Nat)) | _ => Ty.any) (by kernel_rfl) (by kernel_rfl) (by kernel_rfl) (by decide) rfl ?_
      intro v
      refine ⟨?_, ?_, ?_, ?_, ?_, ?_, ?_, ?_, ?_, ?_, ?_, ?_, ?_, ?_, ?_, ?_, ?_, ?_⟩
      · intro wq hq hd
        refine ob_plain rfl ?_
        exact yld_move (.tmp 9) rfl rfl rfl
      · intro wq hq hd
        obtain ⟨h0, -⟩ := hd
        change v 0 = _ at h0
        refine ob_plain rfl ?_
        exact yld_binInt (c := .int .i64 (t + 2 : Nat)) .add 3 3 (.tmp 43) _ rfl _ _ h0 rfl (fun w => by rw [run_add_i64 _ _ _ (by omega) (by omega)]; congr 2) rfl
      · intro wq hq hd
        refine ob_plain rfl ?_
        exact yld_move (.tmp 10) rfl rfl rfl
      · intro wq hq hd
        refine ob_plain rfl ?_
        exact yld_move (.tmp 11) rfl rfl rfl
      · intro wq hq hd
        obtain ⟨h0, h1, -⟩ := hd
        change v 2 = _ at h0
        change v 3 = _ at h1
        refine ob_plain rfl ?_
        exact yld_indexAt unitEl (.tmp 45) (.tmp 46) rfl A5 rs d5 (by rw [Hn5.out]; exact h0) k h1 (Hsl.out wq hq) q Hq.out
      · intro wq hq hd
        obtain ⟨h0, -⟩ := hd
        change (TCells (RUnit.cells q)).p (v 4) wq at h0
        refine ob_plain rfl ?_
        exact yld_field 27 3 (.tmp 47) rfl _ Tryz.underlying27 _ rfl 1 Tryz.sizeOf24 (by decide) [.int .i64 q.a, .int .i64 q.i, .int .i64 q.n, .int .i64 q.kind, .string q.label, .slice q.hA q.hn q.hc, .slice q.wA q.wn q.wc, .slice q.kA q.kn q.kc] (h0)
      · intro wq hq hd
        obtain ⟨h0, -⟩ := hd
        change (TCells [.slice q.hA q.hn q.hc]).p (v 5) wq at h0
        refine ob_plain rfl ?_
        exact yld_loadOne 24 (.tmp 48) rfl Tryz.isAgg24 (c := .slice q.hA q.hn q.hc) h0 rfl
      · intro wq hq hd
        obtain ⟨h0, -⟩ := hd
        change v 6 = _ at h0
        refine ob_plain rfl ?_
        exact yld_len (.tmp 49) 24 _ Tryz.underlying24 rfl _ _ _ h0 rfl
      · intro wq hq hd
        obtain ⟨h0, h1, -⟩ := hd
        change v 1 = _ at h0
        change v 7 = _ at h1
        refine ob_plain rfl ?_
        exact yld_binInt (c := .int .i64 (t + 2 + q.hn : Nat)) .add 3 3 (.tmp 44) (.tmp 50) rfl _ _ h0 h1 (fun w => by rw [run_add_i64 _ _ _ (by omega) (by omega)]; congr 2) rfl
      · intro wq hq hd
        refine ob_plain rfl ?_
        exact yld_move (.tmp 10) rfl rfl rfl
      · intro wq hq hd
        refine ob_plain rfl ?_
        exact yld_move (.tmp 11) rfl rfl rfl
      · intro wq hq hd
        obtain ⟨h0, h1, -⟩ := hd
        change v 9 = _ at h0
        change v 10 = _ at h1
        refine ob_plain rfl ?_
        exact yld_indexAt unitEl (.tmp 52) (.tmp 53) rfl A5 rs d5 (by rw [Hn5.out]; exact h0) k h1 (Hsl.out wq hq) q Hq.out
      · intro wq hq hd
        obtain ⟨h0, -⟩ := hd
        change (TCells (RUnit.cells q)).p (v 11) wq at h0
        refine ob_plain rfl ?_
        exact yld_field 27 4 (.tmp 54) rfl _ Tryz.underlying27 _ rfl 1 Tryz.sizeOf24 (by decide) [.int .i64 q.a, .int .i64 q.i, .int .i64 q.n, .int .i64 q.kind, .string q.label, .slice q.hA q.hn q.hc, .slice q.wA q.wn q.wc, .slice q.kA q.kn q.kc] (h0)
      · intro wq hq hd
        obtain ⟨h0, -⟩ := hd
        change (TCells [.slice q.wA q.wn q.wc]).p (v 12) wq at h0
        refine ob_plain rfl ?_
        exact yld_loadOne 24 (.tmp 55) rfl Tryz.isAgg24 (c := .slice q.wA q.wn q.wc) h0 rfl
      · intro wq hq hd
        obtain ⟨h0, -⟩ := hd
        change v 13 = _ at h0
        refine ob_plain rfl ?_
        exact yld_len (.tmp 56) 24 _ Tryz.underlying24 rfl _ _ _ h0 rfl
      · intro wq hq hd
        obtain ⟨h0, h1, -⟩ := hd
        change v 8 = _ at h0
        change v 14 = _ at h1
        refine ob_plain rfl ?_
        exact yld_binInt (c := .int .i64 (t + 2 + q.hn + q.wn : Nat)) .add 3 3 (.tmp 51) (.tmp 57) rfl _ _ h0 h1 (fun w => by rw [run_add_i64 _ _ _ (by omega) (by omega)]; congr 2) rfl
      · intro wq hq hd
        obtain ⟨h0, h1, h2, h3, h4, h5, h6, h7, h8, h9, h10, h11, h12, h13, h14, h15, h16, -⟩ := hd
        change v 15 = _ at h0
        refine ob_plain rfl ?_
        exact yld_assign (.tmp 58) rfl rfl h0
      · intro wq hq hT
        have k16 := hT 16 (by decide)
        change v 16 = _ at k16
        clear hT
        simp only [List.drop_succ_cons, List.drop_zero, putE, setsE, List.set_cons_succ, List.set_cons_zero, Nat.reduceAdd]
        rw [k16]
        go_wp2
        go_roundw
        case rel => exact ⟨k + 1, t + 2 + q.hn + q.wn, by omega, by omega, by go_num, rfl, Lib.hid Hstep.out.symm, Hext.out.trans hq⟩
        case measure => simp [intOf]; omega
    · have e1 : decide ((k : Int) < (n5 : Int)) = false := decide_eq_false (by omega)
      have hkn : k = ws.length := by rw [← Hnw.out]; omega
      have Htot := Lib.hid (show t = totL u.kids by rw [Ht.out, hkn]; exact Hwa.out)
      have Hx5 := Lib.hid (Hx3.out.trans (Hx4.out.trans hext))
      have Hx35 := Lib.hid (Hx4.out.trans hext)
      have Hwd := Lib.hid (HLw.out wr (Hx4.out.trans hext))
      clear hkn hext
      go_wp2_with fail
      refine (Hwd.out).mono ?_
      rintro e w6 ⟨v6, rfl, hown6, hx6⟩
      obtain ⟨A6, d6, rfl, -, -⟩ := hown6.form
      have hwl := wdsF_len (L.map Prod.fst)
      rw [Hsum.out] at hwl
      obtain ⟨n6, hn6⟩ : ∃ n6, (wdsF (L.map Prod.fst)).length = n6 := ⟨_, rfl⟩
      rw [hn6] at hwl ⊢
      have Hx6 := Lib.hid (Hx5.out.trans hx6)
      have Hx36 := Lib.hid (Hx35.out.trans hx6)
      have htn : t = n6 := by rw [Htot.out, hwl]
      subst htn
      have e2 : decide ((t : Int) ≠ (t : Int)) = false := decide_eq_false (by simp)
      clear hown6 hx6 hwl hn6 Hwd
      go_wp2
      go_loopw [13] (fun vi wi => ∃ (i : Nat), i ≤ Ln ∧ vi = .int .i64 (i : Nat) ∧ Ext w6 wi) (fun vi _ => Ln - (intOf vi).toNat)
      case atStart => exact ⟨0, Nat.zero_le _, rfl, Ext.refl _⟩
      case round =>
        obtain ⟨i, hi, rfl, hext⟩ := hrel
        by_cases hlt2 : i < Ln
        · have hltL : i < L.length := by rw [← HLn2.out]; exact hlt2
          obtain ⟨x, hx⟩ : ∃ x, L[i] = x := ⟨_, rfl⟩
          have hxm : x ∈ L := hx ▸ List.getElem_mem hltL
          obtain ⟨b, off, hAe, hbl, u0, u1, u2, u3⟩ := pageAt (Hsl.out.ext (Hx36.out.trans hext)) (k := i) (by rw [List.length_map]; exact hltL)
          rw [List.getElem_map, hx] at u0 u1 u2 u3
          have hpo := (Hpo.out x hxm).ext (Hx36.out.trans hext)
          have hpm : x.1 ∈ L.map Prod.fst := List.mem_map_of_mem hxm
          obtain ⟨hl0, hlw, hfw, hhh⟩ := Hok.out.each x.1 hpm
          have hnn := Hok.out.num i (by rw [List.length_map]; exact hltL)
          rw [List.getElem_map, hx] at hnn
          have hn0 := hpo.n
          rw [hnn] at hn0
          have hl := hpo.ln
          have hf := hpo.fn
          have hol := hpo.l
          obtain ⟨p, ⟨qn, qh, lA, ln, lc, nA, nn, nc⟩⟩ := x
          dsimp only at u0 u1 u2 u3 hl0 hlw hfw hhh hn0 hl hf hol
          have hn1 : qn = (i : Int) + 1 := by rw [hn0]; push_cast; rfl
          subst hn1
          have hl1 : 1 ≤ ln := by rw [hl]; exact List.length_pos_iff.2 hl0
          rw [← hl, ← hf] at hhh
          have hlb : ln ≤ 1000 := by split at hhh <;> omega
          have hnb2 : nn ≤ 1000 := by split at hhh <;> omega
          have Hl := Lib.hid hl
          have Hlw := Lib.hid hlw
          have Hol := Lib.hid hol
          have Hext := Lib.hid hext
          have hH1 : ((ln : Int) + 1 + (if 0 < nn then 1 + (nn : Int) else 0)) ≤ H := by
            refine Int.le_trans (Int.le_of_eq ?_) hhh
            split <;> push_cast <;> omega
          subst hAe
          have e3 : decide ((i : Int) < (Ln : Int)) = true := decide_eq_true (by omega)
          have e4 : decide (((i : Int) + 1) ≠ ((i : Int) + 1)) = false := decide_eq_false (by simp)
          have e5 : decide ((ln : Int) = 0) = false := decide_eq_false (by omega)
          have e5n : decide (ln = 0) = false := decide_eq_false (by omega)
          clear hx hxm hpo hpm hl0 hlw hfw hnn hn0 hl hf hol hext hhh hltL
          have Hinner := True.intro
          by_cases hnp : 0 < nn
          · rw [if_pos hnp] at hH1
            have e6 : decide ((nn : Int) > 0) = true := decide_eq_true (by omega)
            have e6' : decide (0 < (nn : Int)) = true := decide_eq_true (by omega)
            have e6n : decide (0 < nn) = true := decide_eq_true hnp
            have e7 : decide ((ln : Int) + 1 + 1 + (nn : Int) > H) = false := decide_eq_false (by omega)
            have e7' : decide (H < (ln : Int) + 1 + 1 + (nn : Int)) = false := decide_eq_false (by omega)
            go_wp2
            go_loopw [15] (fun vk wk => ∃ (k : Nat), k ≤ ln ∧ vk = .int .i64 (k : Nat) ∧ wr = wk) (fun vk _ => ln - (intOf vk).toNat)
            case atStart => exact ⟨0, Nat.zero_le _, rfl, by first | rfl | trivial⟩
            case round =>
              obtain ⟨k, hk, rfl, rfl⟩ := hrel
              by_cases hkl : k < ln
              · have hkp : k < p.l.length := by rw [← Hl.out]; exact hkl
                have hsl2 : Sl strEl wr lA p.l := by
                  obtain ⟨A', c', hv, -, hsl⟩ := Hol.out.form
                  rw [Value.slice.injEq] at hv
                  obtain ⟨rfl, -, -⟩ := hv
                  exact hsl
                obtain ⟨b3, off3, hAe, hbl3, v0⟩ := strAt hsl2 hkp
                have hsz := Hlw.out p.l[k] (List.getElem_mem hkp)
                obtain ⟨s, hs⟩ : ∃ s, p.l[k] = s := ⟨_, rfl⟩
                rw [hs] at v0 hsz
                subst hAe
                have e8 : decide ((k : Int) < (ln : Int)) = true := decide_eq_true (by omega)
                have e9 : decide ((s.size : Int) > W) = false := decide_eq_false (by omega)
                have e9' : decide (W < (s.size : Int)) = false := decide_eq_false (by omega)
                clear hsl2 hs hkp
                go_wp2
                go_roundw
                case rel => exact ⟨k + 1, by omega, by go_num, by first | rfl | trivial⟩
                case measure => simp [intOf]; omega
              · have e8 : decide ((k : Int) < (ln : Int)) = false := decide_eq_false (by omega)
                go_wp2
                go_roundw
                case rel => exact ⟨i + 1, by omega, by go_num, Hext.out⟩
                case measure => simp [intOf]; omega
          · rw [if_neg hnp] at hH1
            have e6 : decide ((nn : Int) > 0) = false := decide_eq_false (by omega)
            have e6' : decide (0 < (nn : Int)) = false := decide_eq_false (by omega)
            have e6n : decide (0 < nn) = false := decide_eq_false hnp
            have e7 : decide ((ln : Int) + 1 > H) = false := decide_eq_false (by omega)
            have e7' : decide (H < (ln : Int) + 1) = false := decide_eq_false (by omega)
            have Hnp := Lib.hid hnp
            clear hnp
            go_wp2
            go_loopw [15] (fun vk wk => ∃ (k : Nat), k ≤ ln ∧ vk = .int .i64 (k : Nat) ∧ wr = wk) (fun vk _ => ln - (intOf vk).toNat)
            case atStart => exact ⟨0, Nat.zero_le _, rfl, by first | rfl | trivial⟩
            case round =>
              obtain ⟨k, hk, rfl, rfl⟩ := hrel
              by_cases hkl : k < ln
              · have hkp : k < p.l.length := by rw [← Hl.out]; exact hkl
                have hsl2 : Sl strEl wr lA p.l := by
                  obtain ⟨A', c', hv, -, hsl⟩ := Hol.out.form
                  rw [Value.slice.injEq] at hv
                  obtain ⟨rfl, -, -⟩ := hv
                  exact hsl
                obtain ⟨b3, off3, hAe, hbl3, v0⟩ := strAt hsl2 hkp
                have hsz := Hlw.out p.l[k] (List.getElem_mem hkp)
                obtain ⟨s, hs⟩ : ∃ s, p.l[k] = s := ⟨_, rfl⟩
                rw [hs] at v0 hsz
                subst hAe
                have e8 : decide ((k : Int) < (ln : Int)) = true := decide_eq_true (by omega)
                have e9 : decide ((s.size : Int) > W) = false := decide_eq_false (by omega)
                have e9' : decide (W < (s.size : Int)) = false := decide_eq_false (by omega)
                clear hsl2 hs hkp
                go_wp2
                go_roundw
                case rel => exact ⟨k + 1, by omega, by go_num, by first | rfl | trivial⟩
                case measure => simp [intOf]; omega
              · have e8 : decide ((k : Int) < (ln : Int)) = false := decide_eq_false (by omega)
                go_wp2
                go_roundw
                case rel => exact ⟨i + 1, by omega, by go_num, Hext.out⟩
                case measure => simp [intOf]; omega
        · have e3 : decide ((i : Int) < (Ln : Int)) = false := decide_eq_false (by omega)
          have Hx7 := Lib.hid (Hx6.out.trans hext)
          have Hx37 := Lib.hid (Hx36.out.trans hext)
          have Hix := Lib.hid (HLi.out wr (Hx36.out.trans hext))
          clear hext
          go_wp2_with fail
          refine (Hix.out).mono ?_
          rintro e w8 ⟨A7, c7, E, rfl, hc7, hs7, hE, hidx, hEl, hx8⟩
          have Hs7 := Lib.hid hs7
          have HE := Lib.hid hE
          have Hidx := Lib.hid hidx
          have Hx8 := Lib.hid (Hx7.out.trans hx8)
          have Hx38 := Lib.hid (Hx37.out.trans hx8)
          obtain ⟨es, hes⟩ : ∃ es, E.map Prod.snd = es := ⟨_, rfl⟩
          obtain ⟨Ek, hEk⟩ : ∃ Ek, es.length = Ek := ⟨_, rfl⟩
          rw [hes] at Hs7 ⊢
          have He7 := Lib.hid hEk
          rw [hEk]
          have Hes := Lib.hid hes
          have hEkE : Ek = E.length := by rw [← hEk, ← hes, List.length_map]
          have HEk := Lib.hid hEkE
          have hEkb : Ek ≤ 1000000 := by omega
          clear hs7 hE hidx hx8 hes hEk hEkE hc7 Hix hEl
          go_wp2
          go_loopw [17] (fun vi wi => ∃ (ii : Nat), ii ≤ Ek ∧ vi = .int .i64 (ii : Nat) ∧ Ext w8 wi) (fun vi _ => Ek - (intOf vi).toNat)
          case atStart => exact ⟨0, Nat.zero_le _, rfl, Ext.refl _⟩
          case round =>
            obtain ⟨ii, hi, rfl, hext⟩ := hrel
            by_cases hlt3 : ii < Ek
            · have hltE : ii < E.length := by rw [← HEk.out]; exact hlt3
              obtain ⟨x, hx⟩ : ∃ x, E[ii] = x := ⟨_, rfl⟩
              have hxm : x ∈ E := hx ▸ List.getElem_mem hltE
              have hgx : es[ii]? = some x.2 := by rw [← Hes.out, List.getElem?_map, List.getElem?_eq_getElem hltE, hx]; rfl
              obtain ⟨b, off, hAe, hbl, u0, u1⟩ := entAt (Hs7.out.ext hext) (k := ii) (by rw [He7.out]; exact hlt3)
              have hies : ii < es.length := by rw [He7.out]; exact hlt3
              have hg2 : es[ii] = x.2 := by
                rw [List.getElem?_eq_getElem hies] at hgx
                exact Option.some.inj hgx
              rw [hg2] at u0 u1
              have heo := (HE.out x hxm).ext hext
              have hxk := Hidx.out.1 x.1 (List.mem_map_of_mem hxm)
              obtain ⟨⟨et0, fl⟩, ⟨et, eA, m6, ec⟩⟩ := x
              obtain ⟨het, hn, hpp⟩ := heo
              dsimp only at u0 u1 het hn hpp hxk hgx
              subst het hn
              have hfl := onceF_ne hxk.1
              rw [← hxk.2] at hfl
              have Hz7 := Lib.hid hgx
              have Hf := Lib.hid (HLf.out et wr (Hx38.out.trans hext))
              have Hxk := Lib.hid hxk
              have Hpp := Lib.hid hpp
              have Hext := Lib.hid hext
              have e1 : decide ((ii : Int) < (Ek : Int)) = true := decide_eq_true (by omega)
              subst hAe
              have hfl1 : 1 ≤ fl.length := List.length_pos_iff.2 hfl
              have hflb : fl.length ≤ 1000000 := by
                have h1 := onceF_len (idxG (L.map Prod.fst) et)
                rw [← hxk.2] at h1
                exact Nat.le_trans h1 (Hgl.out et)
              clear hx hxm hgx hg2 hxk hpp hext hfl hltE
              go_wp2_with fail
              refine (Hf.out).mono ?_
              rintro e w9 ⟨A6, c6, l6, rfl, hs6, hx9, -, hl6⟩
              have hl7 : l6 = fl := by rw [hl6 Hxk.out.1, ← Hxk.out.2]
              subst hl7
              obtain ⟨m6, hm6⟩ : ∃ m6, l6.length = m6 := ⟨_, rfl⟩
              have hx9b := Hext.out.trans hx9
              obtain ⟨b2, off2, hAe, hbl2, u2, u3⟩ := entAt (Hs7.out.ext hx9b) (k := ii) (by rw [He7.out]; exact hlt3)
              have hg2 : es[ii] = ⟨et, eA, l6.length, ec⟩ := by
                have h := Hz7.out
                rw [List.getElem?_eq_getElem hies] at h
                exact Option.some.inj h
              rw [hg2, hm6] at u2 u3
              cases hAe
              rw [hm6] at hfl1 hflb Hz7 Hpp u1 ⊢
              have Hm6 := Lib.hid hm6
              have Hs6 := Lib.hid hs6
              have Hx9 := Lib.hid hx9b
              have Hx9c := Lib.hid hx9
              have e2 : decide ((m6 : Int) = 0) = false := decide_eq_false (by omega)
              have e2n : decide (m6 = 0) = false := decide_eq_false (by omega)
              have e3 : decide ((m6 : Int) ≠ (m6 : Int)) = false := decide_eq_false (by simp)
              clear u0 u1 hg2 hm6 hs6 hx9 hx9b hl6 Hf
              go_wp2
              go_loopw [19] (fun vj wj => ∃ (j : Nat), j ≤ m6 ∧ vj = .int .i64 (j : Nat) ∧ Ext w9 wj) (fun vj _ => m6 - (intOf vj).toNat)
              case atStart => exact ⟨0, Nat.zero_le _, rfl, Ext.refl _⟩
              case round =>
                clear u2 u3
                obtain ⟨j, hj, rfl, hext⟩ := hrel
                by_cases hjm : j < m6
                · obtain ⟨z, hz⟩ : ∃ z, l6[j]? = some z := ⟨_, List.getElem?_eq_getElem (by rw [Hm6.out]; exact hjm)⟩
                  have hzm : z ∈ idxG (L.map Prod.fst) et := onceF_mem (by rw [← Hxk.out.2]; exact List.mem_of_getElem? hz)
                  obtain ⟨hz1, hz2⟩ := Hgm.out et z hzm
                  have Hz6 := Lib.hid hz
                  have Hs6q := Lib.hid (fun wq (he : Ext wr wq) => (Hs6.out.ext hext).ext he)
                  have Hs7q := Lib.hid (fun wq (he : Ext wr wq) => (Hs7.out.ext (Hx9.out.trans hext)).ext he)
                  have Hseq := Lib.hid (fun wq (he : Ext wr wq) => (show Sl intEl wq eA l6 from by
                    obtain ⟨A', c', hv, -, hsl⟩ := (Hpp.out.ext ((Hx9c.out.trans hext).trans he)).form
                    rw [Value.slice.injEq] at hv
                    obtain ⟨rfl, -, -⟩ := hv
                    exact hsl))
                  have e4 : decide ((j : Int) < (m6 : Int)) = true := decide_eq_true (by omega)
                  have Hext2 := Lib.hid hext
                  clear hz hzm hext
                  go_wp2
                  refine wp_drawn_tail 29 (fun i => match i with | 0 => Ty.is (.slice A6 m6 c6) | 1 => Ty.is (.int .i64 (j : Nat)) | 2 => TCells [.int .i64 z] | 3 => Ty.is (.int .i64 z) | 4 => Ty.is (.slice (some ⟨b, off, none⟩) Ek c7) | 5 => Ty.is (.int .i64 (ii : Nat)) | 6 => TCells [.string et, .slice eA m6 ec] | 7 => TCells [.slice eA m6 ec] | 8 => Ty.is (.slice eA m6 ec) | 9 => Ty.is (.int .i64 (j : Nat)) | 10 => TCells [.int .i64 z] | 11 => Ty.is (.int .i64 z) | 12 => Ty.is (.bool false) | 13 => Ty.is (.bool false) | 14 => TGd (false = false) (Ty.is (.slice A6 m6 c6)) | 15 => TGd (false = false) (Ty.is (.int .i64 (j : Nat))) | 16 => TGd (false = false) (TCells [.int .i64 z]) | 17 => TGd (false = false) (Ty.is (.int .i64 z)) | 18 => TGd (false = false) (Ty.is (.bool false)) | 19 => Ty.is (.bool false) | 20 => Ty.is (.bool false) | 21 => TGd (false = false) (Ty.is (.slice A6 m6 c6)) | 22 => TGd (false = false) (Ty.is (.int .i64 (j : Nat))) | 23 => TGd (false = false) (TCells [.int .i64 z]) | 24 => TGd (false = false) (Ty.is (.int .i64 z)) | 25 => TGd (false = false) (Ty.is (.slice A Ln c)) | 26 => TGd (false = false) (Ty.is (.int .i64 Ln)) | 27 => TGd (false = false) (Ty.is (.bool false)) | 28 => Ty.is (.bool false) | _ => Ty.any) (by kernel_rfl) (by kernel_rfl) (by kernel_rfl) (by decide) rfl ?_
                  intro v
                  refine ⟨?_, ?_, ?_, ?_, ?_, ?_, ?_, ?_, ?_, ?_, ?_, ?_, ?_, ?_, ?_, ?_, ?_, ?_, ?_, ?_, ?_, ?_, ?_, ?_, ?_, ?_, ?_, ?_, ?_, ?_⟩
                  · intro wq hq hd
                    refine ob_plain rfl ?_
                    exact yld_move (.tmp 18) rfl rfl rfl
                  · intro wq hq hd
                    refine ob_plain rfl ?_
                    exact yld_move (.tmp 19) rfl rfl rfl
                  · intro wq hq hd
                    obtain ⟨h0, h1, -⟩ := hd
                    change v 0 = _ at h0
                    change v 1 = _ at h1
                    refine ob_plain rfl ?_
                    exact yld_indexAt intEl (.tmp 172) (.tmp 173) rfl A6 l6 c6 (by rw [Hm6.out]; exact h0) j h1 (Hs6q.out wq hq) z Hz6.out
                  · intro wq hq hd
                    obtain ⟨h0, -⟩ := hd
                    change (TCells [.int .i64 z]).p (v 2) wq at h0
                    refine ob_plain rfl ?_
                    exact yld_loadOne 3 (.tmp 174) rfl Tryz.isAgg3 (c := .int .i64 z) h0 rfl
                  · intro wq hq hd
                    refine ob_plain rfl ?_
                    exact yld_move (.tmp 16) rfl rfl rfl
                  · intro wq hq hd
                    refine ob_plain rfl ?_
                    exact yld_move (.tmp 17) rfl rfl rfl
                  · intro wq hq hd
                    obtain ⟨h0, h1, -⟩ := hd
                    change v 4 = _ at h0
                    change v 5 = _ at h1
                    refine ob_plain rfl ?_
                    exact yld_indexAt entEl (.tmp 176) (.tmp 177) rfl (some ⟨b, off, none⟩) es c7 (by rw [He7.out]; exact h0) ii h1 (Hs7q.out wq hq) ⟨et, eA, m6, ec⟩ Hz7.out
                  · intro wq hq hd
                    obtain ⟨h0, -⟩ := hd
                    change (TCells [.string et, .slice eA m6 ec]).p (v 6) wq at h0
                    refine ob_plain rfl ?_
                    exact yld_field 43 1 (.tmp 178) rfl _ Tryz.underlying43 _ rfl 1 Tryz.sizeOf40 (by decide) [.string et, .slice eA m6 ec] (h0)
                  · intro wq hq hd
                    obtain ⟨h0, -⟩ := hd
                    change (TCells [.slice eA m6 ec]).p (v 7) wq at h0
                    refine ob_plain rfl ?_
                    exact yld_loadOne 40 (.tmp 179) rfl Tryz.isAgg40 (c := .slice eA m6 ec) h0 rfl
                  · intro wq hq hd
                    refine ob_plain rfl ?_
                    exact yld_move (.tmp 19) rfl rfl rfl
                  · intro wq hq hd
                    obtain ⟨h0, h1, -⟩ := hd
                    change v 8 = _ at h0
                    change v 9 = _ at h1
                    refine ob_plain rfl ?_
                    exact yld_indexAt intEl (.tmp 180) (.tmp 181) rfl eA l6 ec (by rw [Hm6.out]; exact h0) j h1 (Hseq.out wq hq) z Hz6.out
                  · intro wq hq hd
                    obtain ⟨h0, -⟩ := hd
                    change (TCells [.int .i64 z]).p (v 10) wq at h0
                    refine ob_plain rfl ?_
                    exact yld_loadOne 3 (.tmp 182) rfl Tryz.isAgg3 (c := .int .i64 z) h0 rfl
                  · intro wq hq hd
                    obtain ⟨h0, h1, -⟩ := hd
                    change v 3 = _ at h0
                    change v 11 = _ at h1
                    refine ob_plain rfl ?_
                    exact yld_binInt .neq 3 3 (.tmp 175) (.tmp 183) rfl _ _ h0 h1 (fun w => by rw [run_neq_i64 _ _ _]; simp) rfl
                  · intro wq hq hd
                    obtain ⟨h0, -⟩ := hd
                    change v 12 = _ at h0
                    refine ob_plain rfl ?_
                    exact yld_move (.tmp 184) rfl h0 rfl
                  · intro wq hq hd
                    obtain ⟨h0, -⟩ := hd
                    change v 13 = _ at h0
                    refine ob_guard 13 false (false) rfl (yields_of rfl h0) (fun hg => ?_) (fun hg => ?_)
                    · refine Yld.gd (p := false = false) (T := Ty.is (.slice A6 m6 c6)) ?_
                      exact yld_move (.tmp 18) rfl rfl rfl
                    · intro hn; rw [hn] at hg; cases hg
                  · intro wq hq hd
                    obtain ⟨h0, -⟩ := hd
                    change v 13 = _ at h0
                    refine ob_guard 13 false (false) rfl (yields_of rfl h0) (fun hg => ?_) (fun hg => ?_)
                    · refine Yld.gd (p := false = false) (T := Ty.is (.int .i64 (j : Nat))) ?_
                      exact yld_move (.tmp 19) rfl rfl rfl
                    · intro hn; rw [hn] at hg; cases hg
                  · intro wq hq hd
                    obtain ⟨h0, h1, h2, -⟩ := hd
                    change (false = false) → v 14 = _ at h0
                    change (false = false) → v 15 = _ at h1
                    change v 13 = _ at h2
                    refine ob_guard 13 false (false) rfl (yields_of rfl h2) (fun hg => ?_) (fun hg => ?_)
                    · refine Yld.gd (p := false = false) (T := TCells [.int .i64 z]) ?_
                      replace h0 := h0 hg
                      replace h1 := h1 hg
                      exact yld_indexAt intEl (.tmp 186) (.tmp 187) rfl A6 l6 c6 (by rw [Hm6.out]; exact h0) j h1 (Hs6q.out wq hq) z Hz6.out
                    · intro hn; rw [hn] at hg; cases hg
                  · intro wq hq hd
                    obtain ⟨h0, h1, -⟩ := hd
                    change (false = false) → (TCells [.int .i64 z]).p (v 16) wq at h0
                    change v 13 = _ at h1
                    refine ob_guard 13 false (false) rfl (yields_of rfl h1) (fun hg => ?_) (fun hg => ?_)
                    · refine Yld.gd (p := false = false) (T := Ty.is (.int .i64 z)) ?_
                      replace h0 := h0 hg
                      exact yld_loadOne 3 (.tmp 188) rfl Tryz.isAgg3 (c := .int .i64 z) h0 rfl
                    · intro hn; rw [hn] at hg; cases hg
                  · intro wq hq hd
                    obtain ⟨h0, h1, -⟩ := hd
                    change (false = false) → v 17 = _ at h0
                    change v 13 = _ at h1
                    refine ob_guard 13 false (false) rfl (yields_of rfl h1) (fun hg => ?_) (fun hg => ?_)
                    · refine Yld.gd (p := false = false) (T := Ty.is (.bool false)) ?_
                      replace h0 := h0 hg
                      exact yld_binInt .lss 3 3 (.tmp 189) _ rfl _ _ h0 rfl (fun w => by rw [run_lss_i64 _ _ _, decide_eq_false (by omega)]) rfl
                    · intro hn; rw [hn] at hg; cases hg
                  · intro wq hq hd
                    obtain ⟨h0, h1, -⟩ := hd
                    change v 13 = _ at h0
                    change (false = false) → v 18 = _ at h1
                    refine ob_plain rfl ?_
                    exact yld_pick (.tmp 185) _ (.tmp 190) rfl false h0 (fun h => by cases h) (fun h => h1 rfl) rfl
                  · intro wq hq hd
                    obtain ⟨h0, h1, -⟩ := hd
                    change v 19 = _ at h0
                    refine ob_plain rfl ?_
                    exact yld_move (.tmp 191) rfl h0 rfl
                  · intro wq hq hd
                    obtain ⟨h0, -⟩ := hd
                    change v 20 = _ at h0
                    refine ob_guard 20 false (false) rfl (yields_of rfl h0) (fun hg => ?_) (fun hg => ?_)
                    · refine Yld.gd (p := false = false) (T := Ty.is (.slice A6 m6 c6)) ?_
                      exact yld_move (.tmp 18) rfl rfl rfl
                    · intro hn; rw [hn] at hg; cases hg
                  · intro wq hq hd
                    obtain ⟨h0, -⟩ := hd
                    change v 20 = _ at h0
                    refine ob_guard 20 false (false) rfl (yields_of rfl h0) (fun hg => ?_) (fun hg => ?_)
                    · refine Yld.gd (p := false = false) (T := Ty.is (.int .i64 (j : Nat))) ?_
                      exact yld_move (.tmp 19) rfl rfl rfl
                    · intro hn; rw [hn] at hg; cases hg
                  · intro wq hq hd
                    obtain ⟨h0, h1, h2, -⟩ := hd
                    change (false = false) → v 21 = _ at h0
                    change (false = false) → v 22 = _ at h1
                    change v 20 = _ at h2
                    refine ob_guard 20 false (false) rfl (yields_of rfl h2) (fun hg => ?_) (fun hg => ?_)
                    · refine Yld.gd (p := false = false) (T := TCells [.int .i64 z]) ?_
                      replace h0 := h0 hg
                      replace h1 := h1 hg
                      exact yld_indexAt intEl (.tmp 193) (.tmp 194) rfl A6 l6 c6 (by rw [Hm6.out]; exact h0) j h1 (Hs6q.out wq hq) z Hz6.out
                    · intro hn; rw [hn] at hg; cases hg
                  · intro wq hq hd
                    obtain ⟨h0, h1, -⟩ := hd
                    change (false = false) → (TCells [.int .i64 z]).p (v 23) wq at h0
                    change v 20 = _ at h1
                    refine ob_guard 20 false (false) rfl (yields_of rfl h1) (fun hg => ?_) (fun hg => ?_)
                    · refine Yld.gd (p := false = false) (T := Ty.is (.int .i64 z)) ?_
                      replace h0 := h0 hg
                      exact yld_loadOne 3 (.tmp 195) rfl Tryz.isAgg3 (c := .int .i64 z) h0 rfl
                    · intro hn; rw [hn] at hg; cases hg
                  · intro wq hq hd
                    obtain ⟨h0, -⟩ := hd
                    change v 20 = _ at h0
                    refine ob_guard 20 false (false) rfl (yields_of rfl h0) (fun hg => ?_) (fun hg => ?_)
                    · refine Yld.gd (p := false = false) (T := Ty.is (.slice A Ln c)) ?_
                      exact yld_move (.tmp 7) rfl rfl rfl
                    · intro hn; rw [hn] at hg; cases hg
                  · intro wq hq hd
                    obtain ⟨h0, h1, -⟩ := hd
                    change (false = false) → v 25 = _ at h0
                    change v 20 = _ at h1
                    refine ob_guard 20 false (false) rfl (yields_of rfl h1) (fun hg => ?_) (fun hg => ?_)
                    · refine Yld.gd (p := false = false) (T := Ty.is (.int .i64 Ln)) ?_
                      replace h0 := h0 hg
                      exact yld_len (.tmp 197) 29 _ Tryz.underlying29 rfl _ _ _ h0 rfl
                    · intro hn; rw [hn] at hg; cases hg
                  · intro wq hq hd
                    obtain ⟨h0, h1, h2, -⟩ := hd
                    change (false = false) → v 24 = _ at h0
                    change (false = false) → v 26 = _ at h1
                    change v 20 = _ at h2
                    refine ob_guard 20 false (false) rfl (yields_of rfl h2) (fun hg => ?_) (fun hg => ?_)
                    · refine Yld.gd (p := false = false) (T := Ty.is (.bool false)) ?_
                      replace h0 := h0 hg
                      replace h1 := h1 hg
                      exact yld_binInt .gtr 3 3 (.tmp 196) (.tmp 198) rfl _ _ h0 h1 (fun w => by rw [run_gtr_i64 _ _ _, decide_eq_false (by omega)]) rfl
                    · intro hn; rw [hn] at hg; cases hg
                  · intro wq hq hd
                    obtain ⟨h0, h1, -⟩ := hd
                    change v 20 = _ at h0
                    change (false = false) → v 27 = _ at h1
                    refine ob_plain rfl ?_
                    exact yld_pick (.tmp 192) _ (.tmp 199) rfl false h0 (fun h => by cases h) (fun h => h1 rfl) rfl
                  · intro wq hq hT
                    have k28 := hT 28 (by decide)
                    change v 28 = _ at k28
                    clear hT
                    simp only [List.drop_succ_cons, List.drop_zero, putE, setsE, List.set_cons_succ, List.set_cons_zero, Nat.reduceAdd]
                    rw [k28]
                    go_wp2
                    go_roundw
                    case rel => exact ⟨j + 1, by omega, by go_num, Hext2.out.trans hq⟩
                    case measure => simp [intOf]; omega
                · have e4 : decide ((j : Int) < (m6 : Int)) = false := decide_eq_false (by omega)
                  have Hext2 := Lib.hid (Hx9.out.trans hext)
                  clear hext
                  go_wp2
                  go_roundw
                  case rel => exact ⟨ii + 1, by omega, by go_num, Hext2.out⟩
                  case measure => simp [intOf]; omega
            · have e1 : decide ((ii : Int) < (Ek : Int)) = false := decide_eq_false (by omega)
              have Hfin := Lib.hid (Hx8.out.trans hext)
              clear hext
              go_wp2
              go_ret
              exact ⟨rfl, Hfin.out⟩
end Go.Proofs.YtjhdamjbljafhaaGreatDoor
