/- unit.way: the units on the way to the first unit with an ID. unit.Find, Ancestors, treeedit.has: the walks over the way to a unit. -/
import Derived.Test.YtjhdamjbljafhaaGreatDoorP15
import Derived.Test.YtjhdamjbljafhaaGreatDoorP09
namespace Go.Proofs.YtjhdamjbljafhaaGreatDoor
open Go.RowKit
mutual
def wayF (id : GId) : GUnit → List GUnit
  | .mk a i n k l hd wd kids => if (⟨a, i, n⟩ : GId) = id then [.mk a i n k l hd wd kids] else if wayL id kids = [] then [] else .mk a i n k l hd wd kids :: wayL id kids
def wayL (id : GId) : List GUnit → List GUnit
  | [] => []
  | u :: us => if wayF id u = [] then wayL id us else wayF id u
end
theorem wayF_eq (id : GId) (u : GUnit) : wayF id u = if u.id = id then [u] else if wayL id u.kids = [] then [] else u :: wayL id u.kids := by
  cases u
  rw [wayF]
  rfl
theorem wayL_drop {id : GId} {kids : List GUnit} {k : Nat} (hk : k < kids.length) : wayL id (kids.drop k) = if wayF id kids[k] = [] then wayL id (kids.drop (k + 1)) else wayF id kids[k] := by
  rw [List.drop_eq_getElem_cons hk, wayL]
mutual
theorem wayF_sub (id : GId) : ∀ u, ∀ x ∈ wayF id u, x ∈ preF u
  | .mk a i n k l hd wd kids, x, hx => by
    rw [wayF] at hx
    rw [preF]
    split at hx
    · exact List.mem_cons.2 (.inl (List.mem_singleton.1 hx))
    · split at hx
      · simp at hx
      · rcases List.mem_cons.1 hx with h | h
        · exact List.mem_cons.2 (.inl h)
        · exact List.mem_cons.2 (.inr (wayL_sub id kids x h))
theorem wayL_sub (id : GId) : ∀ us, ∀ x ∈ wayL id us, x ∈ preL us
  | [], x, hx => by rw [wayL] at hx; simp at hx
  | u :: us, x, hx => by
    rw [wayL] at hx
    rw [preL, List.mem_append]
    split at hx
    · exact .inr (wayL_sub id us x hx)
    · exact .inl (wayF_sub id u x hx)
end
mutual
theorem wayF_len (id : GId) : ∀ u, (wayF id u).length ≤ cntF u
  | .mk a i n k l hd wd kids => by
    rw [wayF, cntF]
    have := wayL_len id kids
    split
    · simp
    · split
      · simp
      · simp; omega
theorem wayL_len (id : GId) : ∀ us, (wayL id us).length ≤ cntL us
  | [] => by rw [wayL, cntL]; simp
  | u :: us => by
    rw [wayL, cntL]
    have := wayL_len id us
    have := wayF_len id u
    split <;> omega
end
theorem OkU.pre {u x : GUnit} (h : OkU u) (hx : x ∈ preF u) : OkU x := by
  have : ∀ (N : Nat) (u : GUnit), SizeOf.sizeOf u ≤ N → OkU u → ∀ x ∈ preF u, OkU x := by
    intro N
    induction N with
    | zero => intro u h; exact (size0 h).elim
    | succ N ih =>
      intro u hN hu x hx
      rw [preF_cons] at hx
      rcases List.mem_cons.1 hx with rfl | hx
      · exact hu
      · have go : ∀ us : List GUnit, (∀ y ∈ us, SizeOf.sizeOf y ≤ N ∧ OkU y) → x ∈ preL us → OkU x := by
          intro us
          induction us with
          | nil => intro _ hx; rw [preL] at hx; simp at hx
          | cons v us ih2 =>
            intro hus hx
            rw [preL] at hx
            rcases List.mem_append.1 hx with hx | hx
            · exact ih v (hus v (by simp)).1 (hus v (by simp)).2 x hx
            · exact ih2 (fun y hy => hus y (by simp [hy])) hx
        refine go u.kids (fun y hy => ⟨?_, hu.kid hy⟩) hx
        obtain ⟨k, hk, rfl⟩ := List.getElem_of_mem hy
        exact sizeKid hN hk
  exact this _ u (Nat.le_refl _) h x hx
def RetWay (w : World) (ws : List GUnit) (e : Ending) (w' : World) : Prop := Ext w w' ∧ ((ws = [] ∧ e = .returned (.slice none 0 0)) ∨ (ws ≠ [] ∧ ∃ b c rs, e = .returned (.slice (some ⟨b, 0, none⟩) rs.length c) ∧ rs.length = ws.length ∧ Own unitEl w.heap.size w' (.slice (some ⟨b, 0, none⟩) rs.length c) rs ∧ ReadsAll w' ws rs))
theorem Own.someOf {P : Program} {α : Type} {D : El P α} {w : World} {base : Nat} {v : Value} {xs : List α} (h : Own D base w v xs) (hn : xs ≠ []) : ∃ b c, v = .slice (some ⟨b, 0, none⟩) xs.length c := by
  rcases h.2 with ⟨hv, h0⟩ | ⟨g, cap, cur, hv, _⟩
  · exact absurd (List.eq_nil_of_length_eq_zero h0) hn
  · exact ⟨g, cap, hv⟩
def WayAt (N : Nat) : Prop := ∀ (u : GUnit) (r : RUnit) (id : GId) (w : World), SizeOf.sizeOf u ≤ N → Reads w u r → OkU u → Calls Tryz.prog 90 #[.agg r.cells.toArray, .agg id.cells.toArray] w (RetWay w (wayF id u))
set_option maxRecDepth 100000 in
set_option maxHeartbeats 3200000 in
theorem way_step (N : Nat) (ih : WayAt N) : WayAt (N + 1) := by
  intro u r id w hN hr hok
  obtain ⟨hid, hkd, hlb, hhn, hhc, hhs, hwn, hwc, hws, hkn, hkc, rs, hrs, hall, hrl⟩ := hr.flds
  have hcu := hok.cnt
  rw [cntF_kids] at hcu
  have hkl := cntL_len u.kids
  have Hrec := Lib.hid (show ∀ (k : Nat) (h : k < u.kids.length) (h2 : k < rs.length) (wq : World), Ext w wq → Calls Tryz.prog 90 #[.agg rs[k].cells.toArray, .agg id.cells.toArray] wq (RetWay wq (wayF id u.kids[k])) from fun k h h2 wq hq => ih u.kids[k] rs[k] id wq (sizeKid hN h) (Reads.ext hq _ _ (ReadsAll.get hall k h h2)) (hok.kid (List.getElem_mem h)))
  have Hwl := Lib.hid (fun k (h : k < u.kids.length) => wayF_len id u.kids[k])
  have Hcm := Lib.hid (fun k (h : k < u.kids.length) => cntL_mem (List.getElem_mem h))
  have Hr := Lib.hid (fun wq (he : Ext w wq) => Reads.ext he u r hr)
  have hwf := wayF_eq id u
  obtain ⟨W, hW⟩ : ∃ W, wayF id u = W := ⟨_, rfl⟩
  rw [hW] at hwf ⊢
  obtain ⟨kids, hkk⟩ : ∃ kids, u.kids = kids := ⟨_, rfl⟩
  have hb := BoxU.new r w
  have hx1 : Ext w (w.alloc (.cells r.cells.toArray 27)) := (Ext.refl w).alloc _
  have hx2 : Ext (w.alloc (.cells r.cells.toArray 27)) ((w.alloc (.cells r.cells.toArray 27)).alloc (.cells id.cells.toArray 23)) := (Ext.refl _).alloc _
  have hi := (Sl.new idEl (w := w.alloc (.cells r.cells.toArray 27)) (xs := [id]) (cs := id.cells.toArray) (e := 23) (by simp [El.flat, idEl]))
  obtain ⟨_, _, hAe, hib, i0, i1, i2⟩ := idAt hi (k := 0) (by simp)
  cases hAe
  simp only [List.getElem_cons_zero, Nat.zero_mul, Nat.zero_add] at i0 i1 i2
  replace hb := hb.ext hx2
  have he1 := hx1.trans hx2
  have hz1 : (w.alloc (.cells r.cells.toArray 27)).heap.size = w.heap.size + 1 := by simp
  rw [hz1] at i0 i1 i2 hib
  obtain ⟨ra, ri, rn, rk, rl, hdA, hn, hc, wA, wn, wc, kA, kn, kc⟩ := r
  obtain ⟨ia, ii, iN⟩ := id
  dsimp only at hkn hkc hrs
  rw [← hrl] at hkn hkc
  subst hkn
  simp only [RUnit.cells, GId.cells, RUnit.id] at hb he1 Hrec i0 i1 i2 hib hid ⊢
  obtain ⟨wb, hwb⟩ : ∃ wb, (w.alloc (.cells #[.int .i64 ra, .int .i64 ri, .int .i64 rn, .int .i64 rk, .string rl, .slice hdA hn hc, .slice wA wn wc, .slice kA rs.length kc] 27)).alloc (.cells #[.int .i64 ia, .int .i64 ii, .int .i64 iN] 23) = wb := ⟨_, rfl⟩
  rw [hwb] at hb he1 i0 i1 i2 hib
  have Hws := Lib.hid (show w.heap.size + 1 + 1 = wb.heap.size by rw [← hwb]; simp)
  have Hwb := Lib.hid hwb
  have Hbx := Lib.hid hb
  have Hib := Lib.hid (show ∀ w', Ext wb w' → w'.cell? ⟨w.heap.size + 1, 0, none⟩ = some (.int .i64 ia) ∧ w'.cell? ⟨w.heap.size + 1, 1, none⟩ = some (.int .i64 ii) ∧ w'.cell? ⟨w.heap.size + 1, 2, none⟩ = some (.int .i64 iN) from fun w' he =>
    ⟨(he.cell (p := ⟨w.heap.size + 1, 0, none⟩) hib).trans i0, (he.cell (p := ⟨w.heap.size + 1, 1, none⟩) hib).trans i1, (he.cell (p := ⟨w.heap.size + 1, 2, none⟩) hib).trans i2⟩)
  rw [hkk] at hcu hkl Hrec hrl Hwl Hcm hwf
  have hrb : rs.length ≤ 1000 := by omega
  have Hrl := Lib.hid hrl
  have Hcu := Lib.hid hcu
  have hq := fun W => idEql W ra ri rn ia ii iN
  rw [← hid] at hwf
  clear hW hkk hwb hb ih hN hr hok hid hkd hlb hhn hhc hhs hwn hwc hws hall hrl hcu hx1 hx2 hi hz1 i0 i1 i2 hib
  by_cases hE : (⟨ra, ri, rn⟩ : GId) = ⟨ia, ii, iN⟩
  · rw [if_pos hE] at hwf
    simp only [decide_eq_true hE] at hq
    have HW := Lib.hid hwf
    have Hsz := Lib.hid he1.size
    have HL := Lib.hid (fun (wq : World) (he : Ext wb wq) => Own.lit unitEl (xs := [⟨ra, ri, rn, rk, rl, hdA, hn, hc, wA, wn, wc, kA, rs.length, kc⟩]) (w := wq) (base := w.heap.size) (Nat.le_trans he1.size he.size) (by simp) (cs := #[.int .i64 ra, .int .i64 ri, .int .i64 rn, .int .i64 rk, .string rl, .slice hdA hn hc, .slice wA wn wc, .slice kA rs.length kc]) (by simp [El.flat, unitEl, RUnit.cells]))
    have hc0 := (Hbx.out.ext (Ext.refl wb)).c0
    have hc1 := (Hbx.out.ext (Ext.refl wb)).c1
    have hc2 := (Hbx.out.ext (Ext.refl wb)).c2
    have hc3 := (Hbx.out.ext (Ext.refl wb)).c3
    have hc4 := (Hbx.out.ext (Ext.refl wb)).c4
    have hc5 := (Hbx.out.ext (Ext.refl wb)).c5
    have hc6 := (Hbx.out.ext (Ext.refl wb)).c6
    have hc7 := (Hbx.out.ext (Ext.refl wb)).c7
    obtain ⟨i0, i1, i2⟩ := Hib.out wb (Ext.refl _)
    dsimp only at hc0 hc1 hc2 hc3 hc4 hc5 hc6 hc7
    clear hwf hE Hrec Hwl Hcm
    go_enter Tryz.func90, Tryz.ntmps90
    go_wp2_with fail
    rw [Hwb.out]
    go_wp2
    go_ret
    refine ⟨he1.trans ((Ext.refl _).alloc _), .inr ⟨by rw [HW.out]; simp, w.heap.size + 1 + 1, 1, [⟨ra, ri, rn, rk, rl, hdA, hn, hc, wA, wn, wc, kA, rs.length, kc⟩], rfl, by rw [HW.out]; rfl, ?_, ?_⟩⟩
    · have := HL.out wb (Ext.refl _)
      rw [← Hws.out] at this
      exact this
    · rw [HW.out, ReadsAll, ReadsAll]
      exact ⟨Hr.out _ (he1.trans ((Ext.refl _).alloc _)), trivial⟩
  · rw [if_neg hE] at hwf
    simp only [decide_eq_false hE] at hq
    have HW := Lib.hid hwf
    obtain ⟨hlt0, c0, c1, c2, c3, c4, c5, c6, c7⟩ := Hbx.out
    obtain ⟨i0, i1, i2⟩ := Hib.out wb (Ext.refl _)
    dsimp only at c0 c1 c2 c3 c4 c5 c6 c7
    clear hwf hE
    go_enter Tryz.func90, Tryz.ntmps90
    go_wp2_with fail
    rw [Hwb.out]
    go_wp2
    clear c0 c1 c2 c3 c4 c5 c6 c7 i0 i1 i2
    go_loopw [17] (fun vi wr => ∃ k : Nat, k ≤ rs.length ∧ vi = .int .i64 (k : Nat) ∧ Hid (wayL ⟨ia, ii, iN⟩ kids = wayL ⟨ia, ii, iN⟩ (kids.drop k)) ∧ Ext wb wr) (fun vi _ => rs.length - (intOf vi).toNat)
    case atStart => exact ⟨0, Nat.zero_le _, rfl, Lib.hid (by rw [List.drop_zero]), Ext.refl _⟩
    case round =>
      obtain ⟨k, hk, rfl, Hk, hext⟩ := hrel
      by_cases hlt : k < rs.length
      · have hltk : k < kids.length := by rw [← Hrl.out]; exact hlt
        have d1 : decide ((k : Int) < (rs.length : Int)) = true := decide_eq_true (by omega)
        obtain ⟨q, hq2⟩ : ∃ q, rs[k] = q := ⟨_, rfl⟩
        obtain ⟨b, off, rfl, hb, u0, u1, u2, u3, u4, u5, u6, u7⟩ := unitAtK (hrs.ext (he1.trans hext)) hlt hq2
        have hwk : Ext wr (wr.alloc (.cells #[.int .i64 q.a, .int .i64 q.i, .int .i64 q.n, .int .i64 q.kind, .string q.label, .slice q.hA q.hn q.hc, .slice q.wA q.wn q.wc, .slice q.kA q.kn q.kc] 27)) := (Ext.refl _).alloc _
        have hrec := Hrec.out k hltk hlt _ (he1.trans (hext.trans hwk))
        rw [hq2] at hrec
        obtain ⟨i0, i1, i2⟩ := Hib.out _ (hext.trans hwk)
        have hk2 := Hk.out
        rw [wayL_drop hltk] at hk2
        have hln := Hwl.out k hltk
        have hcm := Hcm.out k hltk
        have hcu := Hcu.out
        obtain ⟨X, hX⟩ : ∃ X, wayF ⟨ia, ii, iN⟩ kids[k] = X := ⟨_, rfl⟩
        rw [hX] at hrec hk2 hln
        have Hrc := Lib.hid hrec
        have Hk2 := Lib.hid hk2
        have hXl : X.length ≤ 1000 := by omega
        clear hrec hk2 hq2 hX hln hcm hcu
        go_wp2_with fail
        refine (Hrc.out).mono ?_
        rintro e w2 ⟨hx2, hres⟩
        have hxq := hext.trans (hwk.trans hx2)
        have hsz2 := hx2.size
        rcases hres with ⟨hX0, rfl⟩ | ⟨hX0, b2, c2, rs2, rfl, hl2, hown2, hrd2⟩
        · have HK := Lib.hid (show wayL ⟨ia, ii, iN⟩ kids = wayL ⟨ia, ii, iN⟩ (kids.drop (k + 1)) by rw [Hk2.out, if_pos hX0])
          have hqn := fun W => run_neq_slice_nil_any (P := Tryz.prog) W 25 27 none 0 0 0 0 Tryz.underlying25
          clear Hk2 hX0
          go_wp2
          go_roundw
          case rel => exact ⟨k + 1, by omega, by go_num, HK, hxq⟩
          case measure => simp [intOf]; omega
        · have HK := Lib.hid (show W = u :: X by rw [HW.out, Hk2.out, if_neg hX0, if_neg hX0])
          have hqn := fun W => run_neq_slice_nil_any (P := Tryz.prog) W 25 27 (some ⟨b2, 0, none⟩) rs2.length c2 0 0 Tryz.underlying25
          obtain ⟨hlt0, f0, f1, f2, f3, f4, f5, f6, f7⟩ := Hbx.out.ext hxq
          dsimp only at f0 f1 f2 f3 f4 f5 f6 f7
          have hsl2 : Sl unitEl w2 (some ⟨b2, 0, none⟩) rs2 := by
            obtain ⟨A', c', hv, -, hs⟩ := hown2.form
            cases hv
            exact hs
          have hlit : Own unitEl w2.heap.size (w2.alloc (.cells #[.int .i64 ra, .int .i64 ri, .int .i64 rn, .int .i64 rk, .string rl, .slice hdA hn hc, .slice wA wn wc, .slice (some ⟨b, off, none⟩) rs.length kc] 27)) (.slice (some ⟨w2.heap.size, 0, none⟩) 1 1) [⟨ra, ri, rn, rk, rl, hdA, hn, hc, wA, wn, wc, some ⟨b, off, none⟩, rs.length, kc⟩] :=
            Own.lit unitEl (Nat.le_refl _) (by simp) (by simp [El.flat, unitEl, RUnit.cells])
          have hrl2 : rs2.length ≤ 1000 := by omega
          have Hrd2 := Lib.hid hrd2
          have Hl2 := Lib.hid hl2
          clear Hk2 hX0 hown2 hrd2 hl2
          go_wp2_with (at_builtin; refine wpList_app unitEl rfl _ _ rfl c2 rfl hlit (ys := rs2) rfl (hsl2.ext ((Ext.refl _).alloc _)) (by simp; omega) (by simp) ?_; intro v' w3 hown3 hb3 hg3)
          have hx3 : Ext w2 w3 := ((Ext.refl w2).alloc _).trans' hb3
          obtain ⟨b3, c3, rfl⟩ := hown3.someOf (by simp)
          go_ret
          refine ⟨he1.trans (hxq.trans hx3), .inr ⟨by rw [HK.out]; simp, b3, c3, _, rfl, by rw [HK.out]; simp [Hl2.out], hown3.mono ((he1.trans hxq).size), ?_⟩⟩
          rw [HK.out, List.singleton_append, ReadsAll]
          exact ⟨Hr.out _ (he1.trans (hxq.trans hx3)), ReadsAll.ext hx3 _ _ Hrd2.out⟩
      · have d1 : decide ((k : Int) < (rs.length : Int)) = false := decide_eq_false (by omega)
        have hk2 := Hk.out
        rw [List.drop_of_length_le (by rw [← Hrl.out]; omega), wayL] at hk2
        have HK := Lib.hid (show W = [] by rw [HW.out, if_pos hk2])
        clear hk2 Hk
        go_wp2
        go_ret
        exact ⟨he1.trans hext, .inl ⟨HK.out, rfl⟩⟩
theorem way_any : ∀ N, WayAt N
  | 0 => fun _ _ _ _ h => (size0 h).elim
  | N + 1 => way_step N (way_any N)
end Go.Proofs.YtjhdamjbljafhaaGreatDoor
namespace Go.Proofs.YtjhdamjbljafhaaGreatDoor
open Go.RowKit
structure UI (b : Nat) (r : RUnit) (id : GId) (w : World) : Prop where
  box : BoxU b r w
  lt : b + 1 < w.heap.size
  i0 : w.cell? ⟨b + 1, 0, none⟩ = some (.int .i64 id.a)
  i1 : w.cell? ⟨b + 1, 1, none⟩ = some (.int .i64 id.i)
  i2 : w.cell? ⟨b + 1, 2, none⟩ = some (.int .i64 id.n)
theorem UI.ext {b : Nat} {r : RUnit} {id : GId} {w w' : World} (h : UI b r id w) (he : Ext w w') : UI b r id w' :=
  ⟨h.box.ext he, Nat.lt_of_lt_of_le h.lt he.size, (he.cell (p := ⟨b + 1, 0, none⟩) h.lt).trans h.i0, (he.cell (p := ⟨b + 1, 1, none⟩) h.lt).trans h.i1, (he.cell (p := ⟨b + 1, 2, none⟩) h.lt).trans h.i2⟩
theorem UI.new (r : RUnit) (id : GId) (w : World) : UI w.heap.size r id ((w.alloc (.cells r.cells.toArray 27)).alloc (.cells id.cells.toArray 23)) := by
  have hi := (Sl.new idEl (w := w.alloc (.cells r.cells.toArray 27)) (xs := [id]) (cs := id.cells.toArray) (e := 23) (by simp [El.flat, idEl]))
  obtain ⟨_, _, hAe, hib, i0, i1, i2⟩ := idAt hi (k := 0) (by simp)
  cases hAe
  simp only [List.getElem_cons_zero, Nat.zero_mul, Nat.zero_add] at i0 i1 i2
  have hz1 : (w.alloc (.cells r.cells.toArray 27)).heap.size = w.heap.size + 1 := by simp
  rw [hz1] at i0 i1 i2 hib
  exact ⟨(BoxU.new r w).ext ((Ext.refl _).alloc _), hib, i0, i1, i2⟩
theorem UI.cells {b : Nat} {r : RUnit} {id : GId} {w : World} (h : UI b r id w) : w.cell? ⟨b, 0, none⟩ = some (.int .i64 r.a) ∧ w.cell? ⟨b, 1, none⟩ = some (.int .i64 r.i) ∧ w.cell? ⟨b, 2, none⟩ = some (.int .i64 r.n) ∧ w.cell? ⟨b, 3, none⟩ = some (.int .i64 r.kind) ∧ w.cell? ⟨b, 4, none⟩ = some (.string r.label) ∧
    w.cell? ⟨b, 5, none⟩ = some (.slice r.hA r.hn r.hc) ∧ w.cell? ⟨b, 6, none⟩ = some (.slice r.wA r.wn r.wc) ∧ w.cell? ⟨b, 7, none⟩ = some (.slice r.kA r.kn r.kc) ∧ w.cell? ⟨b + 1, 0, none⟩ = some (.int .i64 id.a) ∧ w.cell? ⟨b + 1, 1, none⟩ = some (.int .i64 id.i) ∧ w.cell? ⟨b + 1, 2, none⟩ = some (.int .i64 id.n) := by
  obtain ⟨⟨_, c0, c1, c2, c3, c4, c5, c6, c7⟩, _, i0, i1, i2⟩ := h
  exact ⟨c0, c1, c2, c3, c4, c5, c6, c7, i0, i1, i2⟩
theorem results_cell2 {fn : Func} {t u : Tmp} (h : fn.results = #[.cell t 27, .tmp u]) (tmps : Array Value) (w : World) (b : Nat) (r : RUnit) (hp : tmps.getD t undef = .pointer (some ⟨b, 0, none⟩)) (hc : w.heap[b]? = some (.cells r.cells.toArray 27 (0, 0))) :
    (results fn tmps).run Tryz.prog w = .ok (.tuple #[.agg r.cells.toArray, tmps.getD u undef]) w := by
  have hl := run_loadCells_list (P := Tryz.prog) w ⟨b, 0, none⟩ r.cells (fun j u hu => by
    have hadd : (⟨b, 0, none⟩ : Addr).add j = ⟨b, j, none⟩ := by unfold Addr.add; split <;> simp_all
    rw [hadd]
    simp only [World.cell?, hc]
    simpa using hu)
  have hp' : tmps[t]?.getD undef = .pointer (some ⟨b, 0, none⟩) := by simpa using hp
  have hn : ∀ w, (sizeOf 27).run Tryz.prog w = .ok r.cells.length w := Tryz.sizeOf27
  simp [results, h, hp', asAddr, loadVar, Tryz.isAgg27, hn, hl]
def findF (id : GId) (u : GUnit) : Option GUnit := (wayF id u).getLast?
def RetFind (x : Option GUnit) (w : World) (e : Ending) (w' : World) : Prop := Ext w w' ∧ match x with
  | none => e = .returned (.tuple #[.agg unit0.cells.toArray, .bool false])
  | some u => ∃ r' : RUnit, e = .returned (.tuple #[.agg r'.cells.toArray, .bool true]) ∧ Reads w' u r'
set_option maxRecDepth 100000 in
set_option maxHeartbeats 1600000 in
theorem find_any (u : GUnit) (r : RUnit) (id : GId) (w : World) (hr : Reads w u r) (hok : OkU u) : Calls Tryz.prog 56 #[.agg r.cells.toArray, .agg id.cells.toArray] w (RetFind (findF id u) w) := by
  have Hway := Lib.hid (fun wq (he : Ext w wq) => way_any _ u r id wq (Nat.le_refl _) (Reads.ext he u r hr) hok)
  have Hok := Lib.hid (fun x (hx : x ∈ wayF id u) => hok.pre (wayF_sub id u x hx))
  have hln := Nat.le_trans (wayF_len id u) hok.cnt
  unfold findF
  obtain ⟨W, hW⟩ : ∃ W, wayF id u = W := ⟨_, rfl⟩
  rw [hW] at Hway Hok hln ⊢
  have hui := UI.new r id w
  have hx0 : Ext w ((w.alloc (.cells r.cells.toArray 27)).alloc (.cells id.cells.toArray 23)) := ((Ext.refl w).alloc _).alloc _
  have hx3 : Ext ((w.alloc (.cells r.cells.toArray 27)).alloc (.cells id.cells.toArray 23)) (((w.alloc (.cells r.cells.toArray 27)).alloc (.cells id.cells.toArray 23)).alloc (.cells unit0.cells.toArray 27)) := (Ext.refl _).alloc _
  have hrs0 := heap_alloc_new ((w.alloc (.cells r.cells.toArray 27)).alloc (.cells id.cells.toArray 23)) (.cells unit0.cells.toArray 27)
  replace hui := hui.ext hx3
  replace hx0 := hx0.trans hx3
  clear hx3
  rw [show ((w.alloc (.cells r.cells.toArray 27)).alloc (.cells id.cells.toArray 23)).heap.size = w.heap.size + 2 by simp] at hrs0
  obtain ⟨ra, ri, rn, rk, rl, hdA, hn, hc, wA, wn, wc, kA, kn, kc⟩ := r
  obtain ⟨ia, ii, iN⟩ := id
  simp only [RUnit.cells, GId.cells, unit0] at *
  obtain ⟨wb, hwb⟩ : ∃ wb, ((w.alloc (.cells #[.int .i64 ra, .int .i64 ri, .int .i64 rn, .int .i64 rk, .string rl, .slice hdA hn hc, .slice wA wn wc, .slice kA kn kc] 27)).alloc (.cells #[.int .i64 ia, .int .i64 ii, .int .i64 iN] 23)).alloc (.cells #[.int .i64 0, .int .i64 0, .int .i64 0, .int .i64 0, .string ⟨#[]⟩, .slice none 0 0, .slice none 0 0, .slice none 0 0] 27) = wb := ⟨_, rfl⟩
  rw [hwb] at hui hx0 hrs0
  have Hws := Lib.hid (show w.heap.size + 3 = wb.heap.size by rw [← hwb]; simp)
  have Hwb := Lib.hid hwb
  have Hui := Lib.hid hui
  have Hx0 := Lib.hid hx0
  have Hres := Lib.hid hrs0
  clear hrs0
  clear hwb hui hx0 hr hok hW
  have Hway2 := Lib.hid (Hway.out wb Hx0.out)
  obtain ⟨c0, c1, c2, c3, c4, c5, c6, c7, i0, i1, i2⟩ := Hui.out.cells
  dsimp only at c0 c1 c2 c3 c4 c5 c6 c7 i0 i1 i2
  go_enter Tryz.func56, Tryz.ntmps56
  go_wp2_with fail
  rw [Hwb.out]
  go_wp2_with fail
  refine (Hway2.out).mono ?_
  rintro e w2 ⟨hx2, hres⟩
  have hrk := (hx2.block (k := w.heap.size + 2) (by rw [← Hws.out]; omega)).trans Hres.out
  have hlt2 : w.heap.size + 2 < w2.heap.size := by have := hx2.size; have := block_lt Hres.out; omega
  clear c0 c1 c2 c3 c4 c5 c6 c7 i0 i1 i2 Hway Hway2
  rcases hres with ⟨rfl, rfl⟩ | ⟨hne, b2, c2, rs2, rfl, hl2, hown2, hrd2⟩
  · go_wp2_with (refine wpList_put rfl 27 (.tmp 4) (.tmp 13) rfl (w.heap.size + 2) 0 (.agg #[.int .i64 0, .int .i64 0, .int .i64 0, .int .i64 0, .string ⟨#[]⟩, .slice none 0 0, .slice none 0 0, .slice none 0 0]) rfl rfl (RUnit.cells unit0) rfl Tryz.sizeOf27 (by simp [RUnit.cells, unit0, Value.oneCell']) 27 _ hrk (by simp [unit0, RUnit.cells]) ?_; intro w3 hw3 hos3 htp3 hou3 hs3 hbk3)
    have hfin : w3.heap[w.heap.size + 2]? = some (.cells unit0.cells.toArray 27 (0, 0)) := by
      rw [hbk3]
      simp [RUnit.cells, unit0]
    refine bodyPost_ret (results_cell2 rfl _ _ (w.heap.size + 2) _ rfl hfin) rfl ?_
    exact ⟨(Hx0.out.trans hx2).put (by omega) hw3 hos3 htp3 hou3 hs3, rfl⟩
  · have hn1 : 0 < rs2.length := by rw [hl2]; exact List.length_pos_iff.2 hne
    have hsl2 : Sl unitEl w2 (some ⟨b2, 0, none⟩) rs2 := by
      obtain ⟨A', c', hv, -, hs⟩ := hown2.form
      cases hv
      exact hs
    have hlt : rs2.length - 1 < rs2.length := by omega
    have hltW : rs2.length - 1 < W.length := by omega
    obtain ⟨q, hq⟩ : ∃ q, rs2[rs2.length - 1] = q := ⟨_, rfl⟩
    obtain ⟨_, _, hAe, hb2, u0, u1, u2, u3, u4, u5, u6, u7⟩ := unitAtK hsl2 hlt hq
    cases hAe
    obtain ⟨x, hx⟩ : ∃ x, W[rs2.length - 1] = x := ⟨_, rfl⟩
    have hrdx : Reads w2 x q := by rw [← hx, ← hq]; exact ReadsAll.get hrd2 _ hltW hlt
    have hlast : W.getLast? = some x := by
      rw [List.getLast?_eq_getElem?, ← hl2, List.getElem?_eq_getElem hltW, hx]
    have hokx : OkU x := Hok.out x (by rw [← hx]; exact List.getElem_mem hltW)
    have Hcp := Lib.hid (copiedU_any x q w2 hrdx hokx.lens20)
    obtain ⟨j, hj⟩ : ∃ j, rs2.length - 1 = j := ⟨_, rfl⟩
    have hj2 : rs2.length = j + 1 := by omega
    rw [hj] at u0 u1 u2 u3 u4 u5 u6 u7
    rw [Nat.zero_add] at u0 u1 u2 u3 u4 u5 u6 u7
    have Hlast := Lib.hid hlast
    simp only [RUnit.cells] at Hcp
    have hjb : j ≤ 1000 := by omega
    rw [hj2]
    clear hq hx hrdx hlast hokx hrd2 hown2 hsl2 Hok hlt hltW hj hl2 hn1 hne hj2
    go_wp2_with fail
    refine (Hcp.out).mono ?_
    rintro e w3 ⟨r', rfl, hx3, hrd⟩
    have hrk3 := (hx3.block hlt2).trans hrk
    have hsz3 := hx3.size
    have Hrd := Lib.hid (Reads.cin (CIn.unmask _ _) _ _ hrd)
    have Hrd2 := Lib.hid hrd
    clear u0 u1 u2 u3 u4 u5 u6 u7 hrk Hcp hrd
    go_wp2_with (refine wpList_put rfl 27 (.tmp 4) (.tmp 20) rfl (w.heap.size + 2) 0 (.agg r'.cells.toArray) rfl rfl (RUnit.cells r') rfl Tryz.sizeOf27 (by simp [RUnit.cells, Value.oneCell']) 27 _ hrk3 (by simp [unit0, RUnit.cells]) ?_; intro w4 hw4 hos4 htp4 hou4 hs4 hbk4)
    have hfin : w4.heap[w.heap.size + 2]? = some (.cells r'.cells.toArray 27 (0, 0)) := by
      rw [hbk4]
      simp [RUnit.cells, unit0]
    refine bodyPost_ret (results_cell2 rfl _ _ (w.heap.size + 2) _ rfl hfin) rfl ?_
    have hci : CIn (mask (fresh w2.heap.size) w3) w4 := (CIn.keep (p := fresh w2.heap.size) (q := fun _ => false) (by omega) (fun k hk hpk => ⟨hw4 k (by simp [fresh] at hpk; omega), rfl⟩)).trans (CIn.unmask _ _)
    unfold RetFind
    rw [Hlast.out]
    exact ⟨((Hx0.out.trans hx2).trans hx3).put (by omega) hw4 hos4 htp4 hou4 hs4, r', rfl, Reads.cin hci _ _ Hrd2.out⟩
end Go.Proofs.YtjhdamjbljafhaaGreatDoor
