/- The reference's alone, Right, May on trees; book. The reference's Right on trees. -/
import Derived.Test.YtjhdamjbljafhaaGreatDoorP09
import Derived.Test.YtjhdamjbljafhaaGreatDoorP13
import Derived.Test.YtjhdamjbljafhaaGreatDoorP10
namespace Go.Proofs.YtjhdamjbljafhaaGreatDoor
open Go.RowKit
structure AloneOk (u : GUnit) : Prop where
  lo : 0 ≤ u.kind
  hi : u.kind ≤ 7
  kids : u.kids.length ≤ 64
  head : rowOk u.head
  words : rowOk u.words
  book : u.kind = 0 → u.label = ⟨#[]⟩ ∧ u.head = [] ∧ u.words = []
  label : u.kind ≠ 0 → mayL u.label.data.toList = true
set_option maxRecDepth 100000 in
set_option maxHeartbeats 1600000 in
theorem alone6_any (u : GUnit) (r : RUnit) (w : World) (hr : Reads w u r) (hok : OkU u) : Calls Tryz.prog 47 #[.agg r.cells.toArray] w (RetIf (AloneOk u) w) := by
  obtain ⟨hid, hkd, hlb, hhn, hhc, hhs, hwn, hwc, hws, hkn, hkc, rs, hrs, hall, hrl⟩ := hr.flds
  obtain ⟨h1, h2, h3, h4, h5, h6⟩ := hok.all.head
  have hb := BoxU.new r w
  have he1 : Ext w (w.alloc (.cells r.cells.toArray 27)) := (Ext.refl w).alloc _
  have Hrh := Lib.hid (fun wq (he : Ext w wq) => row6_any r.hA r.hc u.head wq (hhs.ext he) (by omega) (fun x hx => by have := h5 x hx; omega))
  have Hrw := Lib.hid (fun wq (he : Ext w wq) => row6_any r.wA r.wc u.words wq (hws.ext he) (by omega) (fun x hx => by have := h6 x hx; omega))
  have Hm := Lib.hid (fun wq => may3_any r.label wq (by rw [hlb]; omega))
  have Hall := Lib.hid (show ∀ (p1 : 0 ≤ r.kind) (p2 : r.kind ≤ 7) (p3 : r.kn ≤ 64) (p4 : rowOk u.head) (p5 : rowOk u.words) (p6 : r.kind = 0 → r.label = ⟨#[]⟩ ∧ r.hn = 0 ∧ r.wn = 0) (p7 : r.kind ≠ 0 → mayL r.label.data.toList = true), AloneOk u from fun p1 p2 p3 p4 p5 p6 p7 =>
    ⟨by rw [← hkd]; exact p1, by rw [← hkd]; exact p2, by rw [← hkn]; exact p3, p4, p5, by
      rw [← hkd, ← hlb]
      intro h
      obtain ⟨q1, q2, q3⟩ := p6 h
      exact ⟨q1, List.eq_nil_of_length_eq_zero (by rw [← hhn]; exact q2), List.eq_nil_of_length_eq_zero (by rw [← hwn]; exact q3)⟩, by rw [← hkd, ← hlb]; exact p7⟩)
  obtain ⟨P, hP⟩ : ∃ P, AloneOk u = P := ⟨_, rfl⟩
  obtain ⟨PH, hPH⟩ : ∃ P, rowOk u.head = P := ⟨_, rfl⟩
  obtain ⟨PW, hPW⟩ : ∃ P, rowOk u.words = P := ⟨_, rfl⟩
  rw [hPH] at Hrh Hall
  rw [hPW] at Hrw Hall
  rw [hP] at Hall ⊢
  rw [← hhn] at Hrh h2
  rw [← hwn] at Hrw h3
  rw [← hkn] at h4
  clear hP hPH hPW hid hkd hlb hhn hhc hhs hwn hwc hws hkn hkc hrs hall hrl hr hok h1 h5 h6
  obtain ⟨ra, ri, rn, rk, rl, hdA, hn, hc, wA, wn, wc, kA, kn, kc⟩ := r
  simp only [RUnit.cells] at hb he1 Hrh Hrw Hm Hall ⊢
  dsimp only at h2 h3 h4
  obtain ⟨wb, hwb⟩ : ∃ wb, w.alloc (.cells #[.int .i64 ra, .int .i64 ri, .int .i64 rn, .int .i64 rk, .string rl, .slice hdA hn hc, .slice wA wn wc, .slice kA kn kc] 27) = wb := ⟨_, rfl⟩
  rw [hwb] at hb he1
  have Hwb := Lib.hid hwb
  have Hbx := Lib.hid hb
  clear hwb hb
  by_cases n1 : rk < 0
  · have d1 : decide (rk < 0) = true := decide_eq_true n1
    clear n1
    go_enter Tryz.func47, Tryz.ntmps47
    go_wp2
    rw [Hwb.out]
    go_ret
    exact ⟨false, rfl, by simp, he1⟩
  have d1 : decide (rk < 0) = false := decide_eq_false n1
  by_cases n2 : rk ≤ 7
  case neg =>
    have d2 : decide (rk > 7) = true := decide_eq_true (by omega)
    clear n1 n2
    go_enter Tryz.func47, Tryz.ntmps47
    go_wp2
    rw [Hwb.out]
    go_ret
    exact ⟨false, rfl, by simp, he1⟩
  have d2 : decide (rk > 7) = false := decide_eq_false (by omega)
  by_cases n3 : kn ≤ 64
  case neg =>
    have d3 : decide ((kn : Int) > 64) = true := decide_eq_true (by omega)
    clear n1 n2 n3
    go_enter Tryz.func47, Tryz.ntmps47
    go_wp2
    rw [Hwb.out]
    go_ret
    exact ⟨false, rfl, by simp, he1⟩
  have d3 : decide ((kn : Int) > 64) = false := decide_eq_false (by omega)
  replace Hall := Lib.hid (Hall.out (by omega) n2 n3)
  have Hrh2 := Lib.hid (Hrh.out wb he1)
  clear n1 n2 n3 Hrh
  go_enter Tryz.func47, Tryz.ntmps47
  go_wp2_with fail
  rw [Hwb.out]
  refine (Hrh2.out).mono ?_
  rintro e w2 ⟨b, rfl, hb2, hx2⟩
  have hbx2 := Hbx.out.ext hx2
  have q2 := hbx2.c2
  have q3 := hbx2.c3
  have q4 := hbx2.c4
  have q5 := hbx2.c5
  have q6 := hbx2.c6
  dsimp only at q3 q4 q5 q6
  cases b with
  | false =>
    go_wp2
    go_ret
    exact ⟨false, rfl, by simp, he1.trans hx2⟩
  | true =>
    replace Hall := Lib.hid (Hall.out (hb2 rfl))
    have Hrw2 := Lib.hid (Hrw.out w2 (he1.trans hx2))
    clear hb2 Hrw
    go_wp2_with fail
    refine (Hrw2.out).mono ?_
    rintro e w3 ⟨b, rfl, hb3, hx3⟩
    have hbx3 := hbx2.ext hx3
    have r3 := hbx3.c3
    have r4 := hbx3.c4
    have r5 := hbx3.c5
    have r6 := hbx3.c6
    dsimp only at r3 r4 r5 r6
    clear hbx2 q2 q3 q4 q5 q6
    cases b with
    | false =>
      go_wp2
      go_ret
      exact ⟨false, rfl, by simp, he1.trans (hx2.trans hx3)⟩
    | true =>
      replace Hall := Lib.hid (Hall.out (hb3 rfl))
      clear hb3
      by_cases m1 : rk = 0
      · subst m1
        by_cases m2 : rl = ⟨#[]⟩
        · subst m2
          by_cases m3 : hn = 0
          · by_cases m4 : wn = 0
            · have HP := Lib.hid (Hall.out (fun _ => ⟨rfl, m3, m4⟩) (fun h => absurd rfl h))
              subst m3 m4
              go_wp2
              go_ret
              exact ⟨true, rfl, fun _ => HP.out, he1.trans (hx2.trans hx3)⟩
            · have e4 : ((wn : Int) == 0) = false := by simp [m4]
              subst m3
              clear m4
              go_wp2
              go_ret
              exact ⟨false, rfl, by simp, he1.trans (hx2.trans hx3)⟩
          · have e4 : ((hn : Int) == 0) = false := by simp [m3]
            clear m3
            go_wp2
            go_ret
            exact ⟨false, rfl, by simp, he1.trans (hx2.trans hx3)⟩
        · have e3 : (rl.toList == (⟨#[]⟩ : ByteArray).toList) = false := by rw [beq_bytes]; simp [m2]
          have e4 : rl.toList.isEmpty = false := by
            cases h : rl.toList with
            | nil => exact absurd (bytes_inj (by rw [h, ByteArray.toList_eq])) m2
            | cons => rfl
          clear m2
          go_wp2
          go_ret
          exact ⟨false, rfl, by simp, he1.trans (hx2.trans hx3)⟩
      · have e1 : (rk == 0) = false := by simp [m1]
        have Hm2 := Lib.hid (Hm.out w3)
        obtain ⟨M, hM⟩ : ∃ M, mayL rl.data.toList = M := ⟨_, rfl⟩
        rw [hM] at Hm2 Hall
        replace Hall := Lib.hid (show M = true → P from fun h => Hall.out (fun h2 => absurd h2 m1) (fun _ => h))
        clear hM m1 Hm
        go_wp2_with fail
        refine (Hm2.out).mono ?_
        rintro e w4 ⟨rfl, rfl⟩
        go_wp2
        go_ret
        exact ⟨M, rfl, Hall.out, he1.trans (hx2.trans hx3)⟩
end Go.Proofs.YtjhdamjbljafhaaGreatDoor
namespace Go.Proofs.YtjhdamjbljafhaaGreatDoor
open Go.RowKit
def ValidP (u : GUnit) : Prop := AloneOk u ∧ ∀ x ∈ u.kids, nestsB u.kind x.kind = true
def RightAt (N : Nat) : Prop := ∀ (u : GUnit) (r : RUnit) (w : World), SizeOf.sizeOf u ≤ N → Reads w u r → OkU u → Calls Tryz.prog 27 #[.agg r.cells.toArray] w (RetIf (AllU ValidP u) w)
set_option maxRecDepth 100000 in
set_option maxHeartbeats 3200000 in
theorem right_step (N : Nat) (ih : RightAt N) : RightAt (N + 1) := by
  intro u r w hN hr hok
  have Hal := Lib.hid (fun wq (he : Ext w wq) => alone6_any u r wq (Reads.ext he u r hr) hok)
  obtain ⟨hid, hkd, hlb, hhn, hhc, hhs, hwn, hwc, hws, hkn, hkc, rs, hrs, hall, hrl⟩ := hr.flds
  have hcu := hok.cnt
  rw [cntF_kids] at hcu
  have hkl := cntL_len u.kids
  have Hrec := Lib.hid (show ∀ (k : Nat) (h : k < u.kids.length) (h2 : k < rs.length) (wq : World), Ext w wq → Calls Tryz.prog 27 #[.agg rs[k].cells.toArray] wq (RetIf (AllU ValidP u.kids[k]) wq) from fun k h h2 wq hq => ih u.kids[k] rs[k] wq (sizeKid hN h) (Reads.ext hq _ _ (ReadsAll.get hall k h h2)) (hok.kid (List.getElem_mem h)))
  have Hkd := Lib.hid (show ∀ (k : Nat) (h : k < u.kids.length) (h2 : k < rs.length), rs[k].kind = u.kids[k].kind from fun k h h2 => (ReadsAll.get hall k h h2).flds.2.1)
  have Hfin := Lib.hid (show AloneOk u → (∀ x ∈ u.kids, nestsB r.kind x.kind = true ∧ AllU ValidP x) → AllU ValidP u from fun h1 h2 => AllU.mk' ⟨h1, fun x hx => by rw [← hkd]; exact (h2 x hx).1⟩ (AllUs.of fun x hx => (h2 x hx).2))
  obtain ⟨P, hP⟩ : ∃ P, AllU ValidP u = P := ⟨_, rfl⟩
  obtain ⟨PA, hPA⟩ : ∃ P, AloneOk u = P := ⟨_, rfl⟩
  rw [hPA] at Hal Hfin
  rw [hP] at Hfin ⊢
  obtain ⟨kids, hkk⟩ : ∃ kids, u.kids = kids := ⟨_, rfl⟩
  have hb := BoxU.new r w
  have he1 : Ext w (w.alloc (.cells r.cells.toArray 27)) := (Ext.refl w).alloc _
  obtain ⟨ra, ri, rn, rk, rl, hdA, hn, hc, wA, wn, wc, kA, kn, kc⟩ := r
  dsimp only at hkn hkc hrs Hfin
  rw [← hrl] at hkn hkc
  subst hkn
  simp only [RUnit.cells] at hb he1 Hrec Hal ⊢
  obtain ⟨wb, hwb⟩ : ∃ wb, w.alloc (.cells #[.int .i64 ra, .int .i64 ri, .int .i64 rn, .int .i64 rk, .string rl, .slice hdA hn hc, .slice wA wn wc, .slice kA rs.length kc] 27) = wb := ⟨_, rfl⟩
  rw [hwb] at hb he1
  have Hwb := Lib.hid hwb
  have Hbx := Lib.hid hb
  have Hbt := Lib.hid (show ∀ w', Ext wb w' → (TCells [.int .i64 ra, .int .i64 ri, .int .i64 rn, .int .i64 rk, .string rl, .slice hdA hn hc, .slice wA wn wc, .slice kA rs.length kc]).p (.pointer (some ⟨w.heap.size, 0, none⟩)) w' from fun w' he => (hb.ext he).t)
  rw [hkk] at hcu hkl Hrec hrl Hkd Hfin
  have hrb : rs.length ≤ 1000 := by omega
  have Hrl := Lib.hid hrl
  have Hal2 := Lib.hid (Hal.out wb he1)
  clear hP hPA hkk hwb hb ih hN hr hok hid hkd hlb hhn hhc hhs hwn hwc hws hall hrl hcu Hal
  go_enter Tryz.func27, Tryz.ntmps27
  go_wp2_with fail
  rw [Hwb.out]
  refine (Hal2.out).mono ?_
  rintro e w2 ⟨b, rfl, hb2, hx2⟩
  cases b with
  | false =>
    go_wp2
    go_ret
    exact ⟨false, rfl, by simp, he1.trans hx2⟩
  | true =>
  replace Hfin := Lib.hid (Hfin.out (hb2 rfl))
  clear hb2 Hal2
  go_wp2
  go_loopw [3] (fun vi wr => ∃ k : Nat, k ≤ rs.length ∧ vi = .int .i64 (k : Nat) ∧ Hid (∀ x ∈ kids.take k, nestsB rk x.kind = true ∧ AllU ValidP x) ∧ Ext wb wr) (fun vi _ => rs.length - (intOf vi).toNat)
  case atStart => exact ⟨0, Nat.zero_le _, rfl, Lib.hid (by simp), hx2⟩
  case round =>
    obtain ⟨k, hk, rfl, Hk, hext⟩ := hrel
    have hcell := (Hbx.out.ext hext).c7
    dsimp only at hcell
    by_cases hlt : k < rs.length
    · have hltk : k < kids.length := by rw [← Hrl.out]; exact hlt
      have d1 : decide ((k : Int) < (rs.length : Int)) = true := decide_eq_true (by omega)
      have hrec := fun wq (he : Ext wr wq) => Hrec.out k hltk hlt wq (he1.trans (hext.trans he))
      obtain ⟨NB, hNB⟩ : ∃ NB, nestsB rk rs[k].kind = NB := ⟨_, rfl⟩
      have Hst := Lib.hid (show NB = true ∧ AllU ValidP kids[k] → _ from fun h => mem_take_succ (P := fun x => nestsB rk x.kind = true ∧ AllU ValidP x) hltk Hk.out ⟨by rw [← Hkd.out k hltk hlt, hNB]; exact h.1, h.2⟩)
      obtain ⟨q, hq⟩ : ∃ q, rs[k] = q := ⟨_, rfl⟩
      rw [hq] at hrec hNB
      obtain ⟨RQ, hRQ⟩ : ∃ RQ, AllU ValidP kids[k] = RQ := ⟨_, rfl⟩
      rw [hRQ] at hrec Hst
      have Hq := Lib.hid (show rs[k]? = some q by rw [List.getElem?_eq_getElem hlt, hq])
      have Hr2 := Lib.hid hrec
      have HNB := Lib.hid hNB
      clear hrec hq hNB hRQ
      go_wp2
      clear hcell
      refine wp_drawn (by kernel_rfl) (fun i => match i with | 0 => TCells [.int .i64 rk] | 1 => Ty.is (.int .i64 rk) | 2 => TCells [.slice kA rs.length kc] | 3 => Ty.is (.slice kA rs.length kc) | 4 => Ty.is (.int .i64 (k : Nat)) | 5 => TCells (RUnit.cells q) | 6 => TCells [.int .i64 q.kind] | 7 => Ty.is (.int .i64 q.kind) | 8 => Ty.is (.bool NB) | 9 => Ty.is (.bool (!(NB))) | 10 => Ty.is (.bool (!(NB))) | 11 => TGd ((!(NB)) = false) (TCells [.slice kA rs.length kc]) | 12 => TGd ((!(NB)) = false) (Ty.is (.slice kA rs.length kc)) | 13 => TGd ((!(NB)) = false) (Ty.is (.int .i64 (k : Nat))) | 14 => TGd ((!(NB)) = false) (TCells (RUnit.cells q)) | 15 => TGd ((!(NB)) = false) (Ty.is (.agg (RUnit.cells q).toArray)) | 16 => TGd ((!(NB)) = false) (TBoolIf RQ) | 17 => TGd ((!(NB)) = false) (TBoolIfN RQ) | 18 => TBoolIfN (NB = true ∧ RQ) | _ => Ty.any) (by kernel_rfl) rfl ?_
      intro v
      refine ⟨?_, ?_, ?_, ?_, ?_, ?_, ?_, ?_, ?_, ?_, ?_, ?_, ?_, ?_, ?_, ?_, ?_, ?_, ?_, ?_⟩
      · intro wq hq hd
        refine ob_plain rfl ?_
        exact yld_field 27 1 (.tmp 1) rfl _ Tryz.underlying27 _ rfl 1 Tryz.sizeOf3 (by decide) [.int .i64 ra, .int .i64 ri, .int .i64 rn, .int .i64 rk, .string rl, .slice hdA hn hc, .slice wA wn wc, .slice kA rs.length kc] (Hbt.out _ (hext.trans hq))
      · intro wq hq hd
        obtain ⟨h0, -⟩ := hd
        change (TCells [.int .i64 rk]).p (v 0) wq at h0
        refine ob_plain rfl ?_
        exact yld_loadOne 3 (.tmp 15) rfl Tryz.isAgg3 (c := .int .i64 rk) h0 rfl
      · intro wq hq hd
        refine ob_plain rfl ?_
        exact yld_field 27 5 (.tmp 1) rfl _ Tryz.underlying27 _ rfl 1 Tryz.sizeOf25 (by decide) [.int .i64 ra, .int .i64 ri, .int .i64 rn, .int .i64 rk, .string rl, .slice hdA hn hc, .slice wA wn wc, .slice kA rs.length kc] (Hbt.out _ (hext.trans hq))
      · intro wq hq hd
        obtain ⟨h0, -⟩ := hd
        change (TCells [.slice kA rs.length kc]).p (v 2) wq at h0
        refine ob_plain rfl ?_
        exact yld_loadOne 25 (.tmp 17) rfl Tryz.isAgg25 (c := .slice kA rs.length kc) h0 rfl
      · intro wq hq hd
        refine ob_plain rfl ?_
        exact yld_move (.tmp 3) rfl rfl rfl
      · intro wq hq hd
        obtain ⟨h0, h1, -⟩ := hd
        change v 3 = _ at h0
        change v 4 = _ at h1
        refine ob_plain rfl ?_
        exact yld_indexAt unitEl (.tmp 18) (.tmp 19) rfl _ rs kc h0 k h1 ((hrs.ext (he1.trans (hext.trans hq)))) q Hq.out
      · intro wq hq hd
        obtain ⟨h0, -⟩ := hd
        change (TCells (RUnit.cells q)).p (v 5) wq at h0
        refine ob_plain rfl ?_
        exact yld_field 27 1 (.tmp 20) rfl _ Tryz.underlying27 _ rfl 1 Tryz.sizeOf3 (by decide) [.int .i64 q.a, .int .i64 q.i, .int .i64 q.n, .int .i64 q.kind, .string q.label, .slice q.hA q.hn q.hc, .slice q.wA q.wn q.wc, .slice q.kA q.kn q.kc] (h0)
      · intro wq hq hd
        obtain ⟨h0, -⟩ := hd
        change (TCells [.int .i64 q.kind]).p (v 6) wq at h0
        refine ob_plain rfl ?_
        exact yld_loadOne 3 (.tmp 21) rfl Tryz.isAgg3 (c := .int .i64 q.kind) h0 rfl
      · intro wq hq hd
        obtain ⟨h0, h1, -⟩ := hd
        change v 1 = _ at h0
        change v 7 = _ at h1
        refine ob_plain rfl ?_
        refine yld_call 48 Tryz.call48 _ _ rfl rfl [_, _] ⟨h0, h1, trivial⟩ ?_
        refine (nests_any _ _ _).mono ?_
        rintro e w' ⟨rfl, rfl⟩
        exact ⟨_, rfl, Ext.refl _, congrArg Value.bool HNB.out⟩
      · intro wq hq hd
        obtain ⟨h0, -⟩ := hd
        change v 8 = _ at h0
        refine ob_plain rfl ?_
        exact yld_not (.tmp 23) 4 rfl _ h0 rfl
      · intro wq hq hd
        obtain ⟨h0, h1, -⟩ := hd
        change v 9 = _ at h0
        refine ob_plain rfl ?_
        exact yld_move (.tmp 24) rfl h0 rfl
      · intro wq hq hd
        obtain ⟨h0, -⟩ := hd
        change v 10 = _ at h0
        refine ob_guard 10 false ((!(NB))) rfl (yields_of rfl h0) (fun hg => ?_) (fun hg => ?_)
        · refine Yld.gd (p := (!(NB)) = false) (T := TCells [.slice kA rs.length kc]) ?_
          exact yld_field 27 5 (.tmp 1) rfl _ Tryz.underlying27 _ rfl 1 Tryz.sizeOf25 (by decide) [.int .i64 ra, .int .i64 ri, .int .i64 rn, .int .i64 rk, .string rl, .slice hdA hn hc, .slice wA wn wc, .slice kA rs.length kc] (Hbt.out _ (hext.trans hq))
        · intro hn; rw [hn] at hg; cases hg
      · intro wq hq hd
        obtain ⟨h0, h1, -⟩ := hd
        change ((!(NB)) = false) → (TCells [.slice kA rs.length kc]).p (v 11) wq at h0
        change v 10 = _ at h1
        refine ob_guard 10 false ((!(NB))) rfl (yields_of rfl h1) (fun hg => ?_) (fun hg => ?_)
        · refine Yld.gd (p := (!(NB)) = false) (T := Ty.is (.slice kA rs.length kc)) ?_
          replace h0 := h0 hg
          exact yld_loadOne 25 (.tmp 26) rfl Tryz.isAgg25 (c := .slice kA rs.length kc) h0 rfl
        · intro hn; rw [hn] at hg; cases hg
      · intro wq hq hd
        obtain ⟨h0, -⟩ := hd
        change v 10 = _ at h0
        refine ob_guard 10 false ((!(NB))) rfl (yields_of rfl h0) (fun hg => ?_) (fun hg => ?_)
        · refine Yld.gd (p := (!(NB)) = false) (T := Ty.is (.int .i64 (k : Nat))) ?_
          exact yld_move (.tmp 3) rfl rfl rfl
        · intro hn; rw [hn] at hg; cases hg
      · intro wq hq hd
        obtain ⟨h0, h1, h2, -⟩ := hd
        change ((!(NB)) = false) → v 12 = _ at h0
        change ((!(NB)) = false) → v 13 = _ at h1
        change v 10 = _ at h2
        refine ob_guard 10 false ((!(NB))) rfl (yields_of rfl h2) (fun hg => ?_) (fun hg => ?_)
        · refine Yld.gd (p := (!(NB)) = false) (T := TCells (RUnit.cells q)) ?_
          replace h0 := h0 hg
          replace h1 := h1 hg
          exact yld_indexAt unitEl (.tmp 27) (.tmp 28) rfl _ rs kc h0 k h1 ((hrs.ext (he1.trans (hext.trans hq)))) q Hq.out
        · intro hn; rw [hn] at hg; cases hg
      · intro wq hq hd
        obtain ⟨h0, h1, -⟩ := hd
        change ((!(NB)) = false) → (TCells (RUnit.cells q)).p (v 14) wq at h0
        change v 10 = _ at h1
        refine ob_guard 10 false ((!(NB))) rfl (yields_of rfl h1) (fun hg => ?_) (fun hg => ?_)
        · refine Yld.gd (p := (!(NB)) = false) (T := Ty.is (.agg (RUnit.cells q).toArray)) ?_
          replace h0 := h0 hg
          exact yld_loadAgg 27 (.tmp 29) rfl Tryz.isAgg27 8 Tryz.sizeOf27 (RUnit.cells q) rfl h0 rfl
        · intro hn; rw [hn] at hg; cases hg
      · intro wq hq hd
        obtain ⟨h0, h1, h2, -⟩ := hd
        change ((!(NB)) = false) → v 15 = _ at h0
        change v 10 = _ at h1
        refine ob_guard 10 false ((!(NB))) rfl (yields_of rfl h1) (fun hg => ?_) (fun hg => ?_)
        · refine Yld.gd (p := (!(NB)) = false) (T := TBoolIf RQ) ?_
          replace h0 := h0 hg
          refine yld_call 27 Tryz.call27 _ _ rfl rfl [_] ⟨h0, trivial⟩ ?_
          refine (Hr2.out _ hq).mono ?_
          rintro e w' ⟨b, rfl, hb2, hx2⟩
          exact ⟨_, rfl, hx2, b, rfl, hb2⟩
        · intro hn; rw [hn] at hg; cases hg
      · intro wq hq hd
        obtain ⟨h0, h1, -⟩ := hd
        change ((!(NB)) = false) → (TBoolIf RQ).p (v 16) wq at h0
        change v 10 = _ at h1
        refine ob_guard 10 false ((!(NB))) rfl (yields_of rfl h1) (fun hg => ?_) (fun hg => ?_)
        · refine Yld.gd (p := (!(NB)) = false) (T := TBoolIfN RQ) ?_
          replace h0 := h0 hg
          obtain ⟨b, hb, hb2⟩ := h0
          exact yld_not (.tmp 31) 4 rfl _ hb ⟨_, rfl, fun h => hb2 (by simpa using h)⟩
        · intro hn; rw [hn] at hg; cases hg
      · intro wq hq hd
        obtain ⟨h0, h1, -⟩ := hd
        change v 10 = _ at h0
        change ((!(NB)) = false) → (TBoolIfN RQ).p (v 17) wq at h1
        refine ob_plain rfl ?_
        cases hN : NB with
        | false => exact yld_pick (.tmp 25) (.const (.bool true)) (.tmp 32) rfl true (by rw [h0, hN]; rfl) (fun _ => rfl) (fun h => by cases h) ⟨_, rfl, fun h => by cases h⟩
        | true =>
          obtain ⟨b, hb, hb2⟩ := h1 (by rw [hN]; rfl)
          exact yld_pick (c := .bool b) (.tmp 25) (.const (.bool true)) (.tmp 32) rfl false (by rw [h0, hN]; rfl) (fun h => by cases h) (fun _ => hb) ⟨b, rfl, fun h => ⟨rfl, hb2 h⟩⟩
      · intro wq hq hT
        have k18 := hT 18 (by decide)
        change (TBoolIfN (NB = true ∧ RQ)).p (v 18) wq at k18
        clear hT
        simp only [List.drop_succ_cons, List.drop_zero, putE, setsE, List.set_cons_succ, List.set_cons_zero, Nat.reduceAdd]
        generalize v 18 = x18 at k18 ⊢
        obtain ⟨b, rfl, hb2⟩ := k18
        have hxq := hext.trans hq
        clear hext
        cases b with
        | true =>
          go_wp2
          go_ret
          exact ⟨false, rfl, by simp, he1.trans hxq⟩
        | false =>
          have HS := Lib.hid (Hst.out (hb2 rfl))
          clear hb2 Hst Hk Hr2 hq
          go_wp2
          go_loopw [4] (fun vj wr => ∃ j : Nat, j ≤ k ∧ vj = .int .i64 (j : Nat) ∧ Ext wb wr) (fun vj _ => k - (intOf vj).toNat)
          case atStart => exact ⟨0, Nat.zero_le _, rfl, hxq⟩
          case round =>
            clear hxq
            obtain ⟨j, hj, rfl, hext⟩ := hrel
            have hcell := (Hbx.out.ext hext).c7
            dsimp only at hcell
            by_cases hjk : j < k
            · have d2 : decide ((j : Int) < (k : Int)) = true := decide_eq_true (by omega)
              have hjl : j < rs.length := by omega
              obtain ⟨q2, hq2⟩ : ∃ q2, rs[j] = q2 := ⟨_, rfl⟩
              have hqk : rs[k] = q := (List.getElem?_eq_some_iff.1 Hq.out).2
              obtain ⟨b, off, hAe, hb, u0, u1, u2, u3, u4, u5, u6, u7⟩ := unitAtK (hrs.ext (he1.trans hext)) hlt hqk
              subst hAe
              obtain ⟨_, _, hAe, hb', v0, v1, v2, v3, v4, v5, v6, v7⟩ := unitAtK (hrs.ext (he1.trans hext)) hjl hq2
              cases hAe
              clear hq2 hqk
              obtain ⟨E1, hE1⟩ : ∃ E, (q2.kind == q.kind) = E := ⟨_, rfl⟩
              obtain ⟨E2, hE2⟩ : ∃ E, (q2.label.toList == q.label.toList) = E := ⟨_, rfl⟩
              cases E1 with
              | false =>
                go_wp2
                go_quiet (fail)
                go_wp2
                go_roundw
                case rel => exact ⟨j + 1, by omega, by go_num, hext.drewN _⟩
                case measure => simp [intOf]; omega
              | true =>
                cases E2 with
                | true =>
                  go_wp2
                  go_quiet (fail)
                  go_wp2
                  go_ret
                  exact ⟨false, rfl, by simp, he1.trans (hext.drewN _)⟩
                | false =>
                  go_wp2
                  go_quiet (fail)
                  go_wp2
                  go_roundw
                  case rel => exact ⟨j + 1, by omega, by go_num, hext.drewN _⟩
                  case measure => simp [intOf]; omega
            · obtain rfl : j = k := by omega
              have d2 : decide ((j : Int) < (j : Int)) = false := decide_eq_false (by omega)
              go_wp2
              go_roundw
              case rel => exact ⟨j + 1, by omega, by go_num, HS, hext⟩
              case measure => simp [intOf]; omega
    · have d1 : decide ((k : Int) < (rs.length : Int)) = false := decide_eq_false (by omega)
      have hk2 := Hk.out
      rw [List.take_of_length_le (by rw [← Hrl.out]; omega)] at hk2
      have HK := Lib.hid (Hfin.out hk2)
      clear hk2 Hk
      go_wp2
      go_ret
      exact ⟨true, rfl, fun _ => HK.out, he1.trans hext⟩
theorem right_any : ∀ N, RightAt N
  | 0 => fun _ _ _ h => (size0 h).elim
  | N + 1 => right_step N (right_any N)
end Go.Proofs.YtjhdamjbljafhaaGreatDoor
