/- unit.alone: some answer. Trees in blocks of their own: every part of the tree lies in a stretch of the heap that no other part shares. -/
import Derived.Test.YtjhdamjbljafhaaGreatDoorP11
import Derived.Test.YtjhdamjbljafhaaGreatDoorP12
import Derived.Test.YtjhdamjbljafhaaGreatDoorP06
import Derived.Test.YtjhdamjbljafhaaGreatDoorP13
namespace Go.Proofs.YtjhdamjbljafhaaGreatDoor
open Go.RowKit
theorem World.cell?_alloc2 (w : World) (cs : Array Value) (t : TypeId) {o : Obj} {k : Nat} {v : Value} (hk : cs[k]? = some v := by rfl) : ((w.alloc o).alloc (.cells cs t)).cell? ⟨w.heap.size + 1, k, none⟩ = some v := by
  have h := heap_alloc_new (w.alloc o) (.cells cs t)
  rw [show (w.alloc o).heap.size = w.heap.size + 1 by simp] at h
  unfold World.cell?
  rw [h]
  exact hk
set_option maxRecDepth 100000 in
set_option maxHeartbeats 3200000 in
theorem alone_any (u : GUnit) (r : RUnit) (w : World) (hr : Reads w u r) (hok : OkU u) (hT : Tabs w) : Calls Tryz.prog 126 #[.agg r.cells.toArray] w (RetB w) := by
  obtain ⟨hid, hkd, hlb, hhn, hhc, hhs, hwn, hwc, hws, hkn, hkc, rs, hrs, hall, hrl⟩ := hr.flds
  obtain ⟨o1, o2, o3, o4, o5, o6⟩ := hok.all.head
  have hb := BoxU.new r w
  have hx0 : Ext w (w.alloc (.cells r.cells.toArray 27)) := (Ext.refl w).alloc _
  rw [← hlb] at o1
  rw [← hrl] at hkn hkc o4
  obtain ⟨hd, hhd⟩ : ∃ hd, u.head = hd := ⟨_, rfl⟩
  obtain ⟨wd, hwd⟩ : ∃ wd, u.words = wd := ⟨_, rfl⟩
  rw [hhd] at hhn hhc hhs o2
  rw [hwd] at hwn hwc hws o3
  obtain ⟨ra, ri, rn, rk, rl, hdA, hn, hc, wA, wn, wc, kA, kn, kc⟩ := r
  dsimp only at hkn hkc hrs hhn hhc hhs hwn hwc hws o1
  subst hkn hhn hwn
  simp only [RUnit.cells] at hb hx0 ⊢
  obtain ⟨wb, hwb⟩ : ∃ wb, w.alloc (.cells #[.int .i64 ra, .int .i64 ri, .int .i64 rn, .int .i64 rk, .string rl, .slice hdA hd.length hc, .slice wA wd.length wc, .slice kA rs.length kc] 27) = wb := ⟨_, rfl⟩
  rw [hwb] at hb hx0
  have Hx0 := Lib.hid hx0
  have Hsl := Lib.hid (hrs.ext hx0)
  have Hhs := Lib.hid (hhs.ext hx0)
  have Hws := Lib.hid (hws.ext hx0)
  have Htab := Lib.hid (hT.ext hx0)
  have Hbx := Lib.hid hb
  have Hwb := Lib.hid hwb
  obtain ⟨hb0, c0, c1, c2, c3, c4, c5, c6, c7⟩ := hb
  dsimp only at c0 c1 c2 c3 c4 c5 c6 c7
  have HkN := Lib.hid (fun wq (he : Ext wb wq) => kindName_any rk wq (Htab.out.ext he))
  have Hval := Lib.hid (fun wq => valid_any rl wq (by omega))
  have Hr1 := Lib.hid (fun wq (he : Ext wb wq) => uRow_any hdA hc hd wq (Hhs.out.ext he) (by omega))
  have Hr2 := Lib.hid (fun wq (he : Ext wb wq) => uRow_any wA wc wd wq (Hws.out.ext he) (by omega))
  clear hid hkd hlb hhc hhs hwc hws hkc hrs hall hrl hr hok hT hx0 o5 o6 hhd hwd
  have hmm := @run_makeMap Tryz.prog
  go_enter Tryz.func126, Tryz.ntmps126
  by_cases hk0 : rk = 0
  · subst hk0
    by_cases he : rl = ⟨#[]⟩
    case neg =>
      obtain ⟨hne, hne2⟩ := str_ne he
      clear he
      go_wp2
      go_ret
      exact ⟨_, rfl, Hx0.out⟩
    subst he
    by_cases hz : hd.length + wd.length > 0
    · have d3 : decide ((hd.length : Int) + (wd.length : Int) > 0) = true := decide_eq_true (by omega)
      have d4 : decide (0 < (hd.length : Int) + (wd.length : Int)) = true := decide_eq_true (by omega)
      go_wp2
      go_ret
      exact ⟨_, rfl, Hx0.out⟩
    · have d3 : decide ((hd.length : Int) + (wd.length : Int) > 0) = false := decide_eq_false (by omega)
      have d4 : decide (0 < (hd.length : Int) + (wd.length : Int)) = false := decide_eq_false (by omega)
      clear hz
      go_wp2
      clear hmm hwb
      have Hx01 := Lib.hid (show Ext wb wb from Ext.refl _)
      obtain ⟨B, hB⟩ : ∃ B, wb.heap.size = B := ⟨_, rfl⟩
      have Hm := Lib.hid (MapB.made (K := fun x : GKey => Value.agg x.cells.toArray) wb)
      have Hem := Lib.hid ((Ext.refl wb).alloc (.map #[] 0))
      obtain ⟨wm, hwm⟩ : ∃ wm, wb.alloc (.map #[] 0) = wm := ⟨_, rfl⟩
      rw [hB] at Hm ⊢
      rw [hwm] at Hm Hem ⊢
      have HB0 := Lib.hid hB
      clear hB hwm
      go_loopw [49] (fun vk wr => ∃ k : Nat, k ≤ rs.length ∧ vk = .int .i64 (k : Nat) ∧ Hid (Ext wb wr) ∧ Hid (MapB (fun x : GKey => Value.agg x.cells.toArray) B wr)) (fun vk _ => rs.length - (intOf vk).toNat)
      case atStart => exact ⟨0, Nat.zero_le _, rfl, Hem, Hm⟩
      case round =>
        obtain ⟨k, hk, rfl, HX, HM⟩ := hrel
        have hx0 := Hx01.out.trans HX.out
        obtain ⟨hb0, c0, c1, c2, c3, c4, c5, c6, c7⟩ := Hbx.out.ext hx0
        dsimp only at c0 c1 c2 c3 c4 c5 c6 c7
        by_cases hlt : k < rs.length
        · obtain ⟨q, hq⟩ : ∃ q, rs[k] = q := ⟨_, rfl⟩
          obtain ⟨b, off, hAe, hbk, u0, u1, u2, u3, u4, u5, u6, u7⟩ := unitAtK (Hsl.out.ext hx0) hlt hq
          subst hAe
          have hxa : Ext wr ((wr.alloc (.cells #[.int .i64 q.a, .int .i64 q.i, .int .i64 q.n, .int .i64 q.kind, .string q.label, .slice q.hA q.hn q.hc, .slice q.wA q.wn q.wc, .slice q.kA q.kn q.kc] 27)).alloc (.cells #[.int .i64 q.kind, .string q.label] 197)) := ((Ext.refl _).alloc _).alloc _
          have HMa := Lib.hid (HM.out.ext hxa)
          have Hxa := Lib.hid hxa
          have Hcan := Lib.hid (canContain_any 0 q.kind _ (Htab.out.ext (hx0.trans hxa)))
          have d1 : decide ((k : Int) < (rs.length : Int)) = true := decide_eq_true (by omega)
          clear hq hxa hx0
          obtain ⟨q1, hq1⟩ : ∃ q1, q.kind = q1 := ⟨_, rfl⟩
          obtain ⟨q2, hq2⟩ : ∃ q2, q.label = q2 := ⟨_, rfl⟩
          rw [hq1] at u3 HMa Hcan Hxa
          rw [hq2] at u4 HMa Hcan Hxa
          clear hq1 hq2
          go_wp2_with fail
          refine (Hcan.out).mono ?_
          rintro e w2 ⟨bb, rfl, hx2⟩
          have HM2 := Lib.hid (HMa.out.ext hx2)
          have hk6 : w2.cell? ⟨wr.heap.size + 1, 0, none⟩ = some (.int .i64 q1) := by
            refine (hx2.cell (p := ⟨wr.heap.size + 1, 0, none⟩) (by simp)).trans ?_
            exact World.cell?_alloc2 _ _ _
          have hk7 : w2.cell? ⟨wr.heap.size + 1, 1, none⟩ = some (.string q2) := by
            refine (hx2.cell (p := ⟨wr.heap.size + 1, 1, none⟩) (by simp)).trans ?_
            exact World.cell?_alloc2 _ _ _
          have HX2 := Lib.hid ((HX.out.trans Hxa.out).trans hx2)
          clear u0 u1 u2 u3 u4 u5 u6 u7 c0 c1 c2 c3 c4 c5 c6 c7 hb0 Hcan
          cases bb with
          | false =>
            go_wp2
            go_ret
            exact ⟨_, rfl, (Hx0.out.trans Hx01.out).trans HX2.out⟩
          | true =>
            obtain ⟨z, hz⟩ := HM2.out.look kCl ⟨q1, q2⟩
            obtain ⟨w3, hset, hm3, hw3, hs3, hos3, htp3, hou3⟩ := HM2.out.set kCl ⟨q1, q2⟩ true
            have Hs3 := Lib.hid hs3
            have Hm3 := Lib.hid hm3
            have Hw3 := Lib.hid hw3
            have Ho3 := Lib.hid (And.intro hos3 (And.intro htp3 hou3))
            simp only [GKey.cells] at hz hset
            clear hm3 hw3 hs3 hos3 htp3 hou3
            cases z with
            | true =>
              clear hset
              go_wp2
              go_ret
              exact ⟨_, rfl, (Hx0.out.trans Hx01.out).trans HX2.out⟩
            | false =>
              go_wp2
              go_roundw
              case rel => exact ⟨k + 1, by omega, by go_num, Lib.hid (Ext.put HX2.out (Nat.le_of_eq HB0.out) Hw3.out Ho3.out.1 Ho3.out.2.1 Ho3.out.2.2 Hs3.out), Hm3⟩
              case measure => simp [intOf]; omega
        · have d1 : decide ((k : Int) < (rs.length : Int)) = false := decide_eq_false (by omega)
          by_cases h64 : rs.length ≤ 64
          · have d2 : decide ((rs.length : Int) ≤ 64) = true := decide_eq_true (by omega)
            go_wp2
            go_ret
            exact ⟨_, rfl, Hx0.out.trans hx0⟩
          · have d2 : decide ((rs.length : Int) ≤ 64) = false := decide_eq_false (by omega)
            go_wp2
            go_ret
            exact ⟨_, rfl, Hx0.out.trans hx0⟩
  · have e0 : (rk == 0) = false := by simpa using hk0
    clear hk0
    obtain ⟨S, hS⟩ : ∃ S, kindS rk = S := ⟨_, rfl⟩
    rw [hS] at HkN
    clear hS
    have HkN2 := Lib.hid (HkN.out wb (Ext.refl _))
    clear HkN
    go_wp2_with fail
    refine (HkN2.out).mono ?_
    rintro e w1 ⟨rfl, hw1⟩
    have hw1 := hw1.symm
    subst hw1
    by_cases he : S = ⟨#[]⟩
    · subst he
      go_wp2
      go_ret
      exact ⟨_, rfl, Hx0.out⟩
    obtain ⟨hne, hne2⟩ := str_ne he
    have Hv2 := Lib.hid (Hval.out wb)
    clear he Hval HkN2
    go_wp2_with fail
    refine (Hv2.out).mono ?_
    rintro e w2 ⟨rfl, hx2⟩
    obtain ⟨M, hM⟩ : ∃ M, mayL rl.data.toList = M := ⟨_, rfl⟩
    rw [hM]
    clear hM Hv2 hb0 c0 c1 c2 c3 c4 c5 c6 c7
    obtain ⟨hb0, c0, c1, c2, c3, c4, c5, c6, c7⟩ := Hbx.out.ext hx2
    dsimp only at c0 c1 c2 c3 c4 c5 c6 c7
    cases M with
    | false =>
      go_wp2
      go_ret
      exact ⟨_, rfl, Hx0.out.trans hx2⟩
    | true =>
    have Hr1b := Lib.hid (Hr1.out w2 hx2)
    clear Hr1
    go_wp2_with fail
    refine (Hr1b.out).mono ?_
    rintro e w3 ⟨b3, rfl, hx3⟩
    have hx03 := hx2.trans hx3
    clear Hr1b hb0 c0 c1 c2 c3 c4 c5 c6 c7 hx2 hx3
    obtain ⟨hb0, c0, c1, c2, c3, c4, c5, c6, c7⟩ := Hbx.out.ext hx03
    dsimp only at c0 c1 c2 c3 c4 c5 c6 c7
    cases b3 with
    | false =>
      go_wp2
      go_ret
      exact ⟨_, rfl, Hx0.out.trans hx03⟩
    | true =>
    have Hr2b := Lib.hid (Hr2.out w3 hx03)
    clear Hr2
    go_wp2_with fail
    refine (Hr2b.out).mono ?_
    rintro e w4 ⟨b4, rfl, hx4⟩
    have hx04 := hx03.trans hx4
    clear Hr2b hb0 c0 c1 c2 c3 c4 c5 c6 c7 hx03 hx4
    obtain ⟨hb0, c0, c1, c2, c3, c4, c5, c6, c7⟩ := Hbx.out.ext hx04
    dsimp only at c0 c1 c2 c3 c4 c5 c6 c7
    cases b4 with
    | false =>
      go_wp2
      go_ret
      exact ⟨_, rfl, Hx0.out.trans hx04⟩
    | true =>
    have Hx04 := Lib.hid hx04
    clear hx04
    go_wp2
    clear hmm hwb
    have Hx01 := Lib.hid (show Ext wb w4 from Hx04.out)
    obtain ⟨B, hB⟩ : ∃ B, w4.heap.size = B := ⟨_, rfl⟩
    have Hm := Lib.hid (MapB.made (K := fun x : GKey => Value.agg x.cells.toArray) w4)
    have Hem := Lib.hid ((Ext.refl w4).alloc (.map #[] 0))
    obtain ⟨wm, hwm⟩ : ∃ wm, w4.alloc (.map #[] 0) = wm := ⟨_, rfl⟩
    rw [hB] at Hm ⊢
    rw [hwm] at Hm Hem ⊢
    have HB0 := Lib.hid hB
    clear hB hwm
    go_loopw [49] (fun vk wr => ∃ k : Nat, k ≤ rs.length ∧ vk = .int .i64 (k : Nat) ∧ Hid (Ext w4 wr) ∧ Hid (MapB (fun x : GKey => Value.agg x.cells.toArray) B wr)) (fun vk _ => rs.length - (intOf vk).toNat)
    case atStart => exact ⟨0, Nat.zero_le _, rfl, Hem, Hm⟩
    case round =>
      obtain ⟨k, hk, rfl, HX, HM⟩ := hrel
      have hx0 := Hx01.out.trans HX.out
      obtain ⟨hb0, c0, c1, c2, c3, c4, c5, c6, c7⟩ := Hbx.out.ext hx0
      dsimp only at c0 c1 c2 c3 c4 c5 c6 c7
      by_cases hlt : k < rs.length
      · obtain ⟨q, hq⟩ : ∃ q, rs[k] = q := ⟨_, rfl⟩
        obtain ⟨b, off, hAe, hbk, u0, u1, u2, u3, u4, u5, u6, u7⟩ := unitAtK (Hsl.out.ext hx0) hlt hq
        subst hAe
        have hxa : Ext wr ((wr.alloc (.cells #[.int .i64 q.a, .int .i64 q.i, .int .i64 q.n, .int .i64 q.kind, .string q.label, .slice q.hA q.hn q.hc, .slice q.wA q.wn q.wc, .slice q.kA q.kn q.kc] 27)).alloc (.cells #[.int .i64 q.kind, .string q.label] 197)) := ((Ext.refl _).alloc _).alloc _
        have HMa := Lib.hid (HM.out.ext hxa)
        have Hxa := Lib.hid hxa
        have Hcan := Lib.hid (canContain_any rk q.kind _ (Htab.out.ext (hx0.trans hxa)))
        have d1 : decide ((k : Int) < (rs.length : Int)) = true := decide_eq_true (by omega)
        clear hq hxa hx0
        obtain ⟨q1, hq1⟩ : ∃ q1, q.kind = q1 := ⟨_, rfl⟩
        obtain ⟨q2, hq2⟩ : ∃ q2, q.label = q2 := ⟨_, rfl⟩
        rw [hq1] at u3 HMa Hcan Hxa
        rw [hq2] at u4 HMa Hcan Hxa
        clear hq1 hq2
        go_wp2_with fail
        refine (Hcan.out).mono ?_
        rintro e w2 ⟨bb, rfl, hx2⟩
        have HM2 := Lib.hid (HMa.out.ext hx2)
        have hk6 : w2.cell? ⟨wr.heap.size + 1, 0, none⟩ = some (.int .i64 q1) := by
          refine (hx2.cell (p := ⟨wr.heap.size + 1, 0, none⟩) (by simp)).trans ?_
          exact World.cell?_alloc2 _ _ _
        have hk7 : w2.cell? ⟨wr.heap.size + 1, 1, none⟩ = some (.string q2) := by
          refine (hx2.cell (p := ⟨wr.heap.size + 1, 1, none⟩) (by simp)).trans ?_
          exact World.cell?_alloc2 _ _ _
        have HX2 := Lib.hid ((HX.out.trans Hxa.out).trans hx2)
        clear u0 u1 u2 u3 u4 u5 u6 u7 c0 c1 c2 c3 c4 c5 c6 c7 hb0 Hcan
        cases bb with
        | false =>
          go_wp2
          go_ret
          exact ⟨_, rfl, (Hx0.out.trans Hx01.out).trans HX2.out⟩
        | true =>
          obtain ⟨z, hz⟩ := HM2.out.look kCl ⟨q1, q2⟩
          obtain ⟨w3, hset, hm3, hw3, hs3, hos3, htp3, hou3⟩ := HM2.out.set kCl ⟨q1, q2⟩ true
          have Hs3 := Lib.hid hs3
          have Hm3 := Lib.hid hm3
          have Hw3 := Lib.hid hw3
          have Ho3 := Lib.hid (And.intro hos3 (And.intro htp3 hou3))
          simp only [GKey.cells] at hz hset
          clear hm3 hw3 hs3 hos3 htp3 hou3
          cases z with
          | true =>
            clear hset
            go_wp2
            go_ret
            exact ⟨_, rfl, (Hx0.out.trans Hx01.out).trans HX2.out⟩
          | false =>
            go_wp2
            go_roundw
            case rel => exact ⟨k + 1, by omega, by go_num, Lib.hid (Ext.put HX2.out (Nat.le_of_eq HB0.out) Hw3.out Ho3.out.1 Ho3.out.2.1 Ho3.out.2.2 Hs3.out), Hm3⟩
            case measure => simp [intOf]; omega
      · have d1 : decide ((k : Int) < (rs.length : Int)) = false := decide_eq_false (by omega)
        by_cases h64 : rs.length ≤ 64
        · have d2 : decide ((rs.length : Int) ≤ 64) = true := decide_eq_true (by omega)
          go_wp2
          go_ret
          exact ⟨_, rfl, Hx0.out.trans hx0⟩
        · have d2 : decide ((rs.length : Int) ≤ 64) = false := decide_eq_false (by omega)
          go_wp2
          go_ret
          exact ⟨_, rfl, Hx0.out.trans hx0⟩
end Go.Proofs.YtjhdamjbljafhaaGreatDoor
namespace Go.Proofs.YtjhdamjbljafhaaGreatDoor
open Go.RowKit
section
variable {P : Program} {α : Type} {D : El P α} {w w' : World} {v : Value} {xs : List α} {base lo hi m : Nat}
def OwnIn (D : El P α) (w : World) (v : Value) (xs : List α) (lo m : Nat) : Prop := Own D lo w v xs ∧ ∀ g, v.ownBlock = some g → g < m
theorem OwnIn.keep (h : OwnIn D w v xs lo m) (hs : ∀ k, lo ≤ k → k < m → w'.heap[k]? = w.heap[k]?) : OwnIn D w' v xs lo m :=
  ⟨h.1.keep fun k hk => hs k (h.1.lt k hk).1 (h.2 k hk), h.2⟩
theorem OwnIn.sl (h : OwnIn D w v xs lo m) {p : Nat → Bool} (hp : ∀ k, lo ≤ k → k < m → p k = false) : ∃ A c, v = .slice A xs.length c ∧ xs.length ≤ c ∧ Sl D (mask p w) A xs := by
  obtain ⟨A, c, h1, h2, -, h3⟩ := h.1.formMask (p := p) (fun k hk hb => hp k hk (h.2 k hb))
  exact ⟨A, c, h1, h2, h3⟩
theorem Own.inNew (h : Own D base w v xs) : OwnIn D w v xs base w.heap.size := ⟨h, fun g hg => (h.lt g hg).2⟩
theorem OwnIn.mono {lo' m' : Nat} (h : OwnIn D w v xs lo m) (h1 : lo' ≤ lo) (h2 : m ≤ m') : OwnIn D w v xs lo' m' := ⟨h.1.mono h1, fun g hg => Nat.lt_of_lt_of_le (h.2 g hg) h2⟩
theorem Own.patch {g c k f : Nat} {vs : List Value} {r' : α} (hown : Own D base w (.slice (some ⟨g, 0, none⟩) xs.length c) xs) (hk : k < xs.length) (hr : D.E r' = (D.E xs[k]).take f ++ vs ++ (D.E xs[k]).drop (f + vs.length)) (hf : f + vs.length ≤ D.m) :
    ∃ cur : Array Value, w.heap[g]? = some (.cells cur D.e (0, 0)) ∧ k * D.m + f + vs.length ≤ cur.size ∧
      ∀ w' : World, w'.heap[g]? = some (.cells (cur.toList.take (k * D.m + f) ++ vs ++ cur.toList.drop (k * D.m + f + vs.length)).toArray D.e (0, 0)) → Own D base w' (.slice (some ⟨g, 0, none⟩) xs.length c) (xs.set k r') := by
  rcases hown.2 with ⟨hv, h0⟩ | ⟨g', cap, cur, hv, hg, hh, hn, hc, hcs, ht⟩
  · cases hv
  · cases hv
    have hkm : k * D.m + D.m ≤ xs.length * D.m := by rw [← Nat.succ_mul]; exact Nat.mul_le_mul_right _ hk
    have hcm : xs.length * D.m ≤ cur.size := by rw [hcs]; exact Nat.mul_le_mul_right _ hn
    refine ⟨cur, hh, by omega, fun w' h6 => ?_⟩
    have hl : (D.flat (xs.set k r')).length = xs.length * D.m := by rw [D.flat_length, List.length_set]
    have hdec : xs.set k r' = xs.take k ++ r' :: xs.drop (k + 1) := by rw [List.set_eq_take_append_cons_drop, if_pos hk]
    have hdec0 : xs = xs.take k ++ xs[k] :: xs.drop (k + 1) := by rw [← List.drop_eq_getElem_cons hk, List.take_append_drop]
    have hlk : (D.flat (xs.take k)).length = k * D.m := by rw [D.flat_length, List.length_take, Nat.min_eq_left (by omega)]
    have hcurr : cur.toList = D.flat (xs.take k) ++ (D.E xs[k] ++ (D.flat (xs.drop (k + 1)) ++ cur.toList.drop (xs.length * D.m))) := by
      have e0 : cur.toList = D.flat xs ++ cur.toList.drop (xs.length * D.m) := by
        conv => lhs; rw [← List.take_append_drop (xs.length * D.m) cur.toList, ht]
      have e1 : D.flat xs = D.flat (xs.take k) ++ (D.E xs[k] ++ D.flat (xs.drop (k + 1))) := by
        conv => lhs; rw [hdec0, D.flat_append]
        simp only [El.flat, List.flatMap_cons]
      rw [e1] at e0
      conv => lhs; rw [e0]
      simp only [List.append_assoc]
    have hEl : (D.E xs[k]).length = D.m := D.hE _
    have e2 : cur.toList.take (k * D.m + f) = D.flat (xs.take k) ++ (D.E xs[k]).take f := by
      rw [hcurr, ← hlk, List.take_length_add_append, List.take_append_of_le_length (by omega)]
    have e3 : cur.toList.drop (k * D.m + f + vs.length) = (D.E xs[k]).drop (f + vs.length) ++ (D.flat (xs.drop (k + 1)) ++ cur.toList.drop (xs.length * D.m)) := by
      conv => lhs; rw [hcurr]
      rw [Nat.add_assoc, ← hlk, List.drop_length_add_append, List.drop_append_of_le_length (by omega)]
    unfold Own World.ownsRow
    rw [List.length_set]
    refine ⟨hl, .inr ⟨g, c, _, rfl, hg, h6, hn, hc, ?_, ?_⟩⟩
    · simp only [List.size_toArray, List.length_append, List.length_take, List.length_drop, Array.length_toList]
      omega
    · rw [List.toList_toArray, e2, e3]
      have e4 : D.flat (xs.set k r') = D.flat (xs.take k) ++ D.E r' ++ D.flat (xs.drop (k + 1)) := by
        rw [hdec, D.flat_append]
        simp [El.flat]
      have e5 : D.flat (xs.take k) ++ (D.E xs[k]).take f ++ vs ++ ((D.E xs[k]).drop (f + vs.length) ++ (D.flat (xs.drop (k + 1)) ++ cur.toList.drop (xs.length * D.m))) = D.flat (xs.set k r') ++ cur.toList.drop (xs.length * D.m) := by
        rw [e4, hr]
        simp only [List.append_assoc]
      rw [e5, ← hl]
      exact List.take_left
end
mutual

def Sep (w : World) : GUnit → RUnit → Nat → Nat → Prop
  | .mk a i n k l hd wd kids, r, lo, hi => (r.a = a ∧ r.i = i ∧ r.n = n ∧ r.kind = k ∧ r.label = l) ∧ ∃ m us, lo ≤ m ∧ m ≤ hi ∧ (r.hn = hd.length ∧ OwnIn wordEl w (.slice r.hA r.hn r.hc) hd lo m) ∧ (r.wn = wd.length ∧ OwnIn wordEl w (.slice r.wA r.wn r.wc) wd lo m) ∧
    (r.kn = kids.length ∧ OwnIn unitEl w (.slice r.kA r.kn r.kc) us lo m) ∧ SepL w kids us m hi
def SepL (w : World) : List GUnit → List RUnit → Nat → Nat → Prop
  | [], [], lo, hi => lo ≤ hi
  | u :: us, r :: rs, lo, hi => ∃ m, Sep w u r lo m ∧ SepL w us rs m hi
  | [], _ :: _, _, _ => False
  | _ :: _, [], _, _ => False
end
mutual
theorem Sep.le {w : World} : ∀ (u : GUnit) (r : RUnit) (lo hi : Nat), Sep w u r lo hi → lo ≤ hi
  | .mk a i n k l hd wd kids, r, lo, hi, h => by
    rw [Sep] at h
    obtain ⟨-, m, us, h1, h2, -⟩ := h
    omega
theorem SepL.le {w : World} : ∀ (us : List GUnit) (rs : List RUnit) (lo hi : Nat), SepL w us rs lo hi → lo ≤ hi
  | [], [], lo, hi, h => by rw [SepL] at h; exact h
  | u :: us, r :: rs, lo, hi, h => by
    rw [SepL] at h
    obtain ⟨m, h1, h2⟩ := h
    have := Sep.le u r lo m h1
    have := SepL.le us rs m hi h2
    omega
  | [], _ :: _, _, _, h => by rw [SepL] at h; exact h.elim
  | _ :: _, [], _, _, h => by rw [SepL] at h; exact h.elim
end
mutual
theorem Sep.keep {w w' : World} : ∀ (u : GUnit) (r : RUnit) (lo hi : Nat), Sep w u r lo hi → (∀ k, lo ≤ k → k < hi → w'.heap[k]? = w.heap[k]?) → Sep w' u r lo hi
  | .mk a i n k l hd wd kids, r, lo, hi, h, hs => by
    rw [Sep] at h ⊢
    obtain ⟨h0, m, us, h1, h2, ⟨h3, h4⟩, ⟨h5, h6⟩, ⟨h7, h8⟩, h9⟩ := h
    exact ⟨h0, m, us, h1, h2, ⟨h3, h4.keep fun k hk hk2 => hs k hk (by omega)⟩, ⟨h5, h6.keep fun k hk hk2 => hs k hk (by omega)⟩, ⟨h7, h8.keep fun k hk hk2 => hs k hk (by omega)⟩,
      SepL.keep kids us m hi h9 fun k hk hk2 => hs k (by omega) hk2⟩
theorem SepL.keep {w w' : World} : ∀ (us : List GUnit) (rs : List RUnit) (lo hi : Nat), SepL w us rs lo hi → (∀ k, lo ≤ k → k < hi → w'.heap[k]? = w.heap[k]?) → SepL w' us rs lo hi
  | [], [], lo, hi, h, _ => by rw [SepL] at h ⊢; exact h
  | u :: us, r :: rs, lo, hi, h, hs => by
    rw [SepL] at h ⊢
    obtain ⟨m, h1, h2⟩ := h
    have l1 := Sep.le u r lo m h1
    have l2 := SepL.le us rs m hi h2
    exact ⟨m, Sep.keep u r lo m h1 fun k hk hk2 => hs k hk (by omega), SepL.keep us rs m hi h2 fun k hk hk2 => hs k (by omega) hk2⟩
  | [], _ :: _, _, _, h, _ => by rw [SepL] at h; exact h.elim
  | _ :: _, [], _, _, h, _ => by rw [SepL] at h; exact h.elim
end
theorem SepL.length {w : World} : ∀ {us : List GUnit} {rs : List RUnit} {lo hi : Nat}, SepL w us rs lo hi → rs.length = us.length
  | [], [], _, _, _ => rfl
  | u :: us, r :: rs, lo, hi, h => by
    rw [SepL] at h
    obtain ⟨m, _, h2⟩ := h
    rw [List.length_cons, List.length_cons, SepL.length h2]
  | [], _ :: _, _, _, h => by rw [SepL] at h; exact h.elim
  | _ :: _, [], _, _, h => by rw [SepL] at h; exact h.elim
mutual
theorem Sep.reads {w : World} {p : Nat → Bool} : ∀ (u : GUnit) (r : RUnit) (lo hi : Nat), Sep w u r lo hi → (∀ k, lo ≤ k → k < hi → p k = false) → Reads (mask p w) u r
  | .mk a i n k l hd wd kids, r, lo, hi, h, hp => by
    rw [Sep] at h
    rw [Reads]
    obtain ⟨h0, m, us, h1, h2, ⟨h3, h4⟩, ⟨h5, h6⟩, ⟨h7, h8⟩, h9⟩ := h
    obtain ⟨A1, c1, e1, f1, g1⟩ := h4.sl (p := p) (fun k hk hk2 => hp k hk (by omega))
    obtain ⟨A2, c2, e2, f2, g2⟩ := h6.sl (p := p) (fun k hk hk2 => hp k hk (by omega))
    obtain ⟨A3, c3, e3, f3, g3⟩ := h8.sl (p := p) (fun k hk hk2 => hp k hk (by omega))
    have hl := SepL.length h9
    rw [Value.slice.injEq] at e1 e2 e3
    obtain ⟨rfl, -, rfl⟩ := e1
    obtain ⟨rfl, -, rfl⟩ := e2
    obtain ⟨rfl, -, rfl⟩ := e3
    exact ⟨h0, ⟨h3, f1, g1⟩, ⟨h5, f2, g2⟩, h7, by rw [← hl]; exact f3, us, g3, SepL.reads kids us m hi h9 fun k hk hk2 => hp k (by omega) hk2⟩
theorem SepL.reads {w : World} {p : Nat → Bool} : ∀ (us : List GUnit) (rs : List RUnit) (lo hi : Nat), SepL w us rs lo hi → (∀ k, lo ≤ k → k < hi → p k = false) → ReadsAll (mask p w) us rs
  | [], [], lo, hi, _, _ => by rw [ReadsAll]; trivial
  | u :: us, r :: rs, lo, hi, h, hp => by
    rw [SepL] at h
    rw [ReadsAll]
    obtain ⟨m, h1, h2⟩ := h
    have l1 := Sep.le u r lo m h1
    have l2 := SepL.le us rs m hi h2
    exact ⟨Sep.reads u r lo m h1 fun k hk hk2 => hp k hk (by omega), SepL.reads us rs m hi h2 fun k hk hk2 => hp k (by omega) hk2⟩
  | [], _ :: _, _, _, h, _ => by rw [SepL] at h; exact h.elim
  | _ :: _, [], _, _, h, _ => by rw [SepL] at h; exact h.elim
end
theorem SepL.snoc {w : World} : ∀ {us : List GUnit} {rs : List RUnit} {u : GUnit} {r : RUnit} {lo m hi : Nat}, SepL w us rs lo m → Sep w u r m hi → SepL w (us ++ [u]) (rs ++ [r]) lo hi
  | [], [], u, r, lo, m, hi, h, h2 => by
    rw [SepL] at h
    rw [List.nil_append, List.nil_append, SepL]
    refine ⟨hi, ?_, by rw [SepL]; exact Nat.le_refl _⟩
    obtain ⟨a, i, n, k, l, hd, wd, kids⟩ := u
    rw [Sep] at h2 ⊢
    obtain ⟨h0, m', us, h1, h2, ⟨h3, h4⟩, ⟨h5, h6⟩, ⟨h7, h8⟩, h9⟩ := h2
    exact ⟨h0, m', us, by omega, h2, ⟨h3, h4.mono h (Nat.le_refl _)⟩, ⟨h5, h6.mono h (Nat.le_refl _)⟩, ⟨h7, h8.mono h (Nat.le_refl _)⟩, h9⟩
  | v :: us, q :: rs, u, r, lo, m, hi, h, h2 => by
    rw [SepL] at h
    obtain ⟨m', h3, h4⟩ := h
    rw [List.cons_append, List.cons_append, SepL]
    exact ⟨m', h3, SepL.snoc h4 h2⟩
  | [], _ :: _, _, _, _, _, _, h, _ => by rw [SepL] at h; exact h.elim
  | _ :: _, [], _, _, _, _, _, h, _ => by rw [SepL] at h; exact h.elim
theorem SepL.split {w : World} : ∀ {us : List GUnit} {rs : List RUnit} {lo hi : Nat}, SepL w us rs lo hi → ∀ (k : Nat) (h1 : k < us.length) (h2 : k < rs.length), ∃ a b, lo ≤ a ∧ a ≤ b ∧ b ≤ hi ∧ Sep w us[k] rs[k] a b ∧
    ∀ (p : Nat → Bool), (∀ q, lo ≤ q → q < hi → ¬ (a ≤ q ∧ q < b) → p q = false) → ∀ (j : Nat) (g1 : j < us.length) (g2 : j < rs.length), j ≠ k → Reads (mask p w) us[j] rs[j]
  | u :: us, r :: rs, lo, hi, h, 0, h1, h2 => by
    rw [SepL] at h
    obtain ⟨m, h3, h4⟩ := h
    have l1 := Sep.le u r lo m h3
    have l2 := SepL.le us rs m hi h4
    refine ⟨lo, m, Nat.le_refl _, l1, l2, h3, fun p hp j g1 g2 hj => ?_⟩
    match j, hj with
    | j + 1, _ =>
      have := SepL.reads us rs m hi h4 (p := p) fun q hq hq2 => hp q (by omega) hq2 (by omega)
      exact ReadsAll.get this j (by simpa using g1) (by simpa using g2)
  | u :: us, r :: rs, lo, hi, h, k + 1, h1, h2 => by
    rw [SepL] at h
    obtain ⟨m, h3, h4⟩ := h
    have l1 := Sep.le u r lo m h3
    obtain ⟨a, b, q1, q2, q3, q4, q5⟩ := SepL.split h4 k (by simpa using h1) (by simpa using h2)
    refine ⟨a, b, by omega, q2, q3, q4, fun p hp j g1 g2 hj => ?_⟩
    match j, hj with
    | 0, _ => exact Sep.reads u r lo m h3 fun q hq hq2 => hp q hq (by omega) (by omega)
    | j + 1, hj => exact q5 p (fun q hq hq2 hq3 => hp q (by omega) hq2 hq3) j (by simpa using g1) (by simpa using g2) (by omega)
  | [], _, _, _, _, k, h1, _ => by simp at h1
  | _ :: _, [], _, _, _, k, _, h2 => by simp at h2
end Go.Proofs.YtjhdamjbljafhaaGreatDoor
